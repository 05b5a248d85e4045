/- Contracts of functions, by program (gen.py). No condition. -/
import Derived.Test.YtolclhjojfcipaaGreatZL
import Derived.Test.YtolclhjojfcipaaGreatZM
import Derived.Test.YtolclhjojfcipaaGreatZS3
namespace Go.Proofs.Tryz
open Go Go.Abs Go.Stop
set_option maxRecDepth 8000
set_option linter.unusedVariables false
set_option linter.unusedSimpArgs false
theorem P75 (f_1 : TField) (w_2 : Int) (runner_3 : Int) (x_4 : TOutcome) (rival_5 : Int) (r_6 : Int) (r_7 : Bool) (h : M75 f_1 w_2 runner_3 x_4 rival_5 = some (r_6, r_7)) :
    PC prog 124 [(.ag [(.fn 101 []), (.fn 102 []), (.fn 103 []), (.fn 104 [])]), (eTField f_1), (.i .i64 w_2), (.i .i64 runner_3), (eTOutcome x_4), (.i .i64 rival_5)] (fun rs => rs = [(.i .i64 r_6), (.b r_7)]) := by
 refine PC.of_tr (cx := ⟨49, none, lay, 0⟩) layOK func124 rfl rfl rfl rfl rfl (by simp [f124]) ?_
 unfold M75 at h
 refine Tr.seq ?_
 refine rg ?_
 conv => whnf
 refine Tr.seq ?_
 refine rg ?_
 conv => whnf
 obtain ⟨r_8, hc9, h⟩ := bS h
 refine PC.ecall (P65 2 1 r_8 hc9) (fun rs hrs => ?_)
 subst hrs
 conv => whnf
 refine Tr.seq ?_
 refine Tr.seq ?_
 refine rg ?_
 conv => whnf
 obtain ⟨x_10, hx_10, h⟩ := bS h
 refine ixP_of hx_10 ?_
 conv => whnf
 obtain ⟨x_11, hx_11, h⟩ := bS h
 refine ixP_of hx_11 ?_
 conv => whnf
 refine lnS_map ?_
 conv => whnf
 refine Tr.cutQ (α := Unit) (fun s => ([(12, (dI 0)), (13, .d (.b false)), (14, .d (.b r_8))], [])) (fun s => M74 r_8 s = some (r_6, r_7)) ?_ ?_
 ·refine Tr.block ?_
  refine Tr.loopM (σ := Int) (fun n s => M73 f_1 runner_3 x_4 rival_5 r_8 x_11 (M74 r_8) n s) (r_6, r_7) (fun s => ([(3, (dI runner_3)), (5, (dI rival_5)), (6, .pt 0 0), (7, .pt 1 0), (10, .pt 2 0), (12, (dI 0)), (13, .d (.b false)), (14, .d (.b r_8)), (28, .d (.ls (List.map eTOutcome x_11))), (29, (dI (((x_11).length : Int)))), (30, (dI s))], [some (.var [.d (.fn 101 []), .d (.fn 102 []), .d (.fn 103 []), .d (.fn 104 [])]), some (.var [.d (.ls (List.map eTSegment f_1.Clocks.Segments)), .d (.ls (List.map (eL eI) f_1.Clocks.Far)), .d (.ls (List.map eTPair f_1.Pairs)), .d (.ls (List.map eTRunner f_1.Runners))]), some (.var [.d (.b x_4.Out), (dI x_4.Seg), (dI x_4.Lo), (dI x_4.Hi)])])) (((((x_11).length : Int)) - 0 : Int).toNat + 1) (0) h (fun s => rfl) (Wk.mk2 [0, 1, 2] 3 rfl rfl (by decide) rfl ⟨rr, rr, rr, trivial⟩ ⟨rr, rr, rr, rr, rr, rr, rr, rr, rr, rr, rr, trivial⟩) ?_
  clear h
  rintro n_14 v_13 h
  replace h : M73 f_1 runner_3 x_4 rival_5 r_8 x_11 (M74 r_8) (n_14 + 1) v_13 = some (r_6, r_7) := h
  rw [M73] at h
  refine Tr.seq ?_
  refine rg ?_
  conv => whnf
  refine Tr.seq ?_
  refine Tr.cond ?_
  conv => whnf
  refine cB h (fun hb17 h => ?_) (fun hb17 h => ?_)
  ·refine Tr.skip ?_
   conv => whnf
   refine Tr.seq ?_
   refine Tr.block ?_
   refine Tr.seq ?_
   refine rg ?_
   conv => whnf
   obtain ⟨x_18, hx_18, h⟩ := bS h
   refine ixP_of hx_18 ?_
   conv => whnf
   refine Tr.seq ?_
   refine rg ?_
   conv => whnf
   obtain ⟨r_19, hc20, h⟩ := bS h
   refine PC.ecall (P72 f_1 runner_3 x_4 rival_5 x_18 r_19 hc20) (fun rs hrs => ?_)
   subst hrs
   conv => whnf
   refine Tr.cond ?_
   conv => whnf
   refine cB h (fun hb21 h => ?_) (fun hb21 h => ?_)
   ·refine Tr.seq ?_
    refine rg ?_
    conv => whnf
    refine Tr.ret ?_
    conv => whnf
    cases h
    rfl
   refine Tr.skip ?_
   conv => whnf
   refine rg ?_
   conv => whnf
   refine arS_raw ?_
   conv => whnf
   refine ⟨((w64 (v_13 + 1))), h, ?_⟩
   exact Wk.mk2 [0, 1, 2] 4 rfl rfl (by decide) rfl ⟨rr, rr, rr, trivial⟩ ⟨rr, rr, rr, rr, rr, rr, rr, rr, rr, rr, rr, trivial⟩
  refine Tr.exit ?_
  conv => whnf
  refine ⟨(), h, ?_⟩
  exact Wk.mk2 [] 3 rfl rfl (by decide) rfl trivial ⟨rr, rr, rr, trivial⟩
 clear h
 rintro _ h T1 H1 hw
 replace h : M74 r_8 () = some (r_6, r_7) := h
 conv => whnf
 refine Tr.weak hw ?_
 unfold M74 at h
 refine Tr.seq ?_
 refine rg ?_
 conv => whnf
 refine Tr.ret ?_
 conv => whnf
 cases h
 rfl
theorem P79 (f_1 : TField) (runner_2 : Int) (r_3 : Tranks_place) (r_4 : Bool) (h : M79 f_1 runner_2 = some (r_3, r_4)) :
    PC prog 85 [(.ag [(.fn 101 []), (.fn 102 []), (.fn 103 []), (.fn 104 [])]), (eTField f_1), (.i .i64 runner_2)] (fun rs => rs = [(eTranks_place r_3), (.b r_4)]) := by
 refine PC.of_tr (cx := ⟨75, none, lay, 0⟩) layOK func85 rfl rfl rfl rfl rfl (by simp [f85]) ?_
 unfold M79 at h
 refine Tr.seq ?_
 refine rg ?_
 conv => whnf
 refine Tr.seq ?_
 refine Tr.seq ?_
 refine rg ?_
 conv => whnf
 obtain ⟨⟨c_5, c_6, c_7, c_8⟩, hc9, h⟩ := bS h
 refine PC.ecall (P50 f_1 c_5 c_6 c_7 c_8 hc9) (fun rs hrs => ?_)
 subst hrs
 conv => whnf
 obtain ⟨l_10, hl11, h⟩ := bS h
 obtain ⟨⟨v_66, v_67, v_68, v_69⟩, hv70, h⟩ := bS h
 refine Tr.block ?_
 refine Tr.rangeM layOK rfl (ge := fun a => [(.i .i64 a)]) rfl (P58 c_5 c_6 c_7 c_8 l_10 hl11) (fun _ => rfl) rfl (fun s => [some (.var [.d (.fn 101 []), .d (.fn 102 []), .d (.fn 103 []), .d (.fn 104 [])]), some (.var [.d (.ls (List.map eTSegment f_1.Clocks.Segments)), .d (.ls (List.map (eL eI) f_1.Clocks.Far)), .d (.ls (List.map eTPair f_1.Pairs)), .d (.ls (List.map eTRunner f_1.Runners))]), some (.var [(dI runner_2)]), some (.var [(dI s.1), (dI s.2.1), (dI s.2.2.1)]), some (.var [.d (.b s.2.2.2)])]) (M78 f_1 runner_2) (0, 0, 0, false) (v_66, v_67, v_68, v_69) hv70 (Wk.mk2 [0, 1, 2, 3, 4] 5 rfl rfl (by decide) rfl ⟨⟨rfl, rfl⟩, ⟨rfl, rfl⟩, ⟨rfl, rfl⟩, ⟨rfl, rfl⟩, ⟨rfl, rfl⟩, trivial⟩ trivial) ?_ ?_
 ·clear h hv70
  rintro li y_12 ⟨v_17, v_18, v_19, v_20⟩ s_21 ha h
  replace h : (M78 f_1 runner_2) y_12 (v_17, v_18, v_19, v_20) = some s_21 := h
  unfold M78 at h
  dsimp only at h
  conv => whnf
  refine Tr.block ?_
  refine Tr.seq ?_
  refine rg ?_
  conv => whnf
  obtain ⟨x_22, hx_22, h⟩ := bS h
  refine ixP_of hx_22 ?_
  conv => whnf
  obtain ⟨x_23, hx_23, h⟩ := bS h
  refine ixP_of hx_23 ?_
  conv => whnf
  refine lnS_map ?_
  conv => whnf
  obtain ⟨⟨v_35, v_36, v_37, v_38⟩, hv65, h⟩ := bS h
  refine Tr.cutQ1 ([]) ([some (.var [.d (.fn 101 []), .d (.fn 102 []), .d (.fn 103 []), .d (.fn 104 [])]), some (.var [.d (.ls (List.map eTSegment f_1.Clocks.Segments)), .d (.ls (List.map (eL eI) f_1.Clocks.Far)), .d (.ls (List.map eTPair f_1.Pairs)), .d (.ls (List.map eTRunner f_1.Runners))]), some (.var [(dI runner_2)]), some (.var [(dI v_35), (dI v_36), (dI v_37)]), some (.var [.d (.b v_38)])]) ?_ (fun T1 H1 hw => ?_)
  ·replace h := hv65; clear hv65
   refine Tr.block ?_
   refine Tr.loopM (σ := Int × Int × Int × Int × Bool) (fun n s => M77 f_1 runner_2 y_12 x_23 n s.1 s.2.1 s.2.2.1 s.2.2.2.1 s.2.2.2.2) (v_35, v_36, v_37, v_38) (fun s => ([(3, .pt 0 0), (4, .pt 1 0), (5, .pt 2 0), (6, .pt 3 0), (7, .pt 4 0), (8, (dI y_12)), (26, .d (.ls (List.map eTOutcome x_23))), (27, (dI (((x_23).length : Int)))), (28, (dI s.1))], [some (.var [.d (.fn 101 []), .d (.fn 102 []), .d (.fn 103 []), .d (.fn 104 [])]), some (.var [.d (.ls (List.map eTSegment f_1.Clocks.Segments)), .d (.ls (List.map (eL eI) f_1.Clocks.Far)), .d (.ls (List.map eTPair f_1.Pairs)), .d (.ls (List.map eTRunner f_1.Runners))]), some (.var [(dI runner_2)]), some (.var [(dI s.2.1), (dI s.2.2.1), (dI s.2.2.2.1)]), some (.var [.d (.b s.2.2.2.2)])])) (((((x_23).length : Int)) - 0 : Int).toNat + 1) (0, v_17, v_18, v_19, v_20) h (fun s => rfl) (Wk.mk2 [0, 1, 2, 3, 4] 5 rfl rfl (by decide) rfl ⟨rr, rr, rr, rr, rr, trivial⟩ ⟨rr, rr, rr, rr, rr, rr, rr, rr, rr, trivial⟩) ?_
   clear h
   rintro n_34 ⟨v_29, v_30, v_31, v_32, v_33⟩ h
   replace h : M77 f_1 runner_2 y_12 x_23 (n_34 + 1) v_29 v_30 v_31 v_32 v_33 = some (v_35, v_36, v_37, v_38) := h
   rw [M77] at h
   refine Tr.seq ?_
   refine rg ?_
   conv => whnf
   refine Tr.seq ?_
   refine Tr.cond ?_
   conv => whnf
   refine cB h (fun hb41 h => ?_) (fun hb41 h => ?_)
   ·refine Tr.skip ?_
    conv => whnf
    refine Tr.seq ?_
    refine Tr.block ?_
    refine Tr.seq ?_
    refine rg ?_
    conv => whnf
    obtain ⟨x_42, hx_42, h⟩ := bS h
    refine ixP_of hx_42 ?_
    conv => whnf
    refine Tr.seq ?_
    refine Tr.seq ?_
    refine rg ?_
    conv => whnf
    refine Tr.cond ?_
    conv => whnf
    refine cB h (fun hb43 h => ?_) (fun hb43 h => ?_)
    ·refine Tr.exit ?_
     conv => whnf
     refine rg ?_
     conv => whnf
     refine arS_raw ?_
     conv => whnf
     refine ⟨((w64 (v_29 + 1)), v_30, v_31, v_32, v_33), h, ?_⟩
     exact Wk.mk2 [0, 1, 2, 3, 4] 6 rfl rfl (by decide) rfl ⟨rr, rr, rr, rr, rr, trivial⟩ ⟨rr, rr, rr, rr, rr, rr, rr, rr, rr, trivial⟩
    refine Tr.skip ?_
    conv => whnf
    refine Tr.seq ?_
    refine rg ?_
    conv => whnf
    refine Tr.seq ?_
    refine Tr.seq ?_
    refine rg ?_
    conv => whnf
    refine lnS_map ?_
    conv => whnf
    obtain ⟨n_49, hv58, h⟩ := bS h
    refine Tr.cutQ1 ([(3, .pt 0 0), (4, .pt 1 0), (5, .pt 2 0), (6, .pt 3 0), (7, .pt 4 0), (8, (dI y_12)), (9, (dI v_29)), (11, (dI n_49)), (26, .d (.ls (List.map eTOutcome x_23))), (27, (dI (((x_23).length : Int)))), (28, (dI v_29))]) ([some (.var [.d (.fn 101 []), .d (.fn 102 []), .d (.fn 103 []), .d (.fn 104 [])]), some (.var [.d (.ls (List.map eTSegment f_1.Clocks.Segments)), .d (.ls (List.map (eL eI) f_1.Clocks.Far)), .d (.ls (List.map eTPair f_1.Pairs)), .d (.ls (List.map eTRunner f_1.Runners))]), some (.var [(dI runner_2)]), some (.var [(dI v_30), (dI v_31), (dI v_32)]), some (.var [.d (.b v_33)])]) ?_ (fun T1 H1 hw => ?_)
    ·replace h := hv58; clear hv58
     refine Tr.block ?_
     refine Tr.loopM (σ := Int × Int) (fun n s => M76 f_1 runner_2 y_12 x_42 n s.1 s.2) n_49 (fun s => ([(3, .pt 0 0), (4, .pt 1 0), (5, .pt 2 0), (6, .pt 3 0), (7, .pt 4 0), (8, (dI y_12)), (9, (dI v_29)), (10, .pt 5 0), (11, (dI s.1)), (26, .d (.ls (List.map eTOutcome x_23))), (27, (dI (((x_23).length : Int)))), (28, (dI v_29)), (37, (dI (((f_1.Runners).length : Int)))), (38, (dI s.2))], [some (.var [.d (.fn 101 []), .d (.fn 102 []), .d (.fn 103 []), .d (.fn 104 [])]), some (.var [.d (.ls (List.map eTSegment f_1.Clocks.Segments)), .d (.ls (List.map (eL eI) f_1.Clocks.Far)), .d (.ls (List.map eTPair f_1.Pairs)), .d (.ls (List.map eTRunner f_1.Runners))]), some (.var [(dI runner_2)]), some (.var [(dI v_30), (dI v_31), (dI v_32)]), some (.var [.d (.b v_33)]), some (.var [.d (.b x_42.Out), (dI x_42.Seg), (dI x_42.Lo), (dI x_42.Hi)])])) (((((f_1.Runners).length : Int)) - 0 : Int).toNat + 1) (1, 0) h (fun s => rfl) (Wk.mk2 [0, 1, 2, 3, 4, 5] 6 rfl rfl (by decide) rfl ⟨rr, rr, rr, rr, rr, rr, trivial⟩ ⟨rr, rr, rr, rr, rr, rr, rr, rr, rr, rr, rr, rr, rr, rr, trivial⟩) ?_
     clear h
     rintro n_48 ⟨n_46, v_47⟩ h
     replace h : M76 f_1 runner_2 y_12 x_42 (n_48 + 1) n_46 v_47 = some n_49 := h
     rw [M76] at h
     refine Tr.seq ?_
     refine rg ?_
     conv => whnf
     refine Tr.seq ?_
     refine Tr.cond ?_
     conv => whnf
     refine cB h (fun hb52 h => ?_) (fun hb52 h => ?_)
     ·refine Tr.skip ?_
      conv => whnf
      refine Tr.seq ?_
      refine Tr.block ?_
      refine Tr.seq ?_
      refine rg ?_
      conv => whnf
      refine Tr.seq ?_
      refine Tr.seq ?_
      refine rg ?_
      conv => whnf
      refine Tr.cond ?_
      conv => whnf
      refine cB h (fun hb53 h => ?_) (fun hb53 h => ?_)
      ·refine Tr.exit ?_
       conv => whnf
       refine rg ?_
       conv => whnf
       refine arS_raw ?_
       conv => whnf
       refine ⟨(n_46, (w64 (v_47 + 1))), h, ?_⟩
       exact Wk.mk2 [0, 1, 2, 3, 4, 5] 6 rfl rfl (by decide) rfl ⟨rr, rr, rr, rr, rr, rr, trivial⟩ ⟨rr, rr, rr, rr, rr, rr, rr, rr, rr, rr, rr, rr, rr, rr, trivial⟩
      refine Tr.skip ?_
      conv => whnf
      refine Tr.seq ?_
      refine rg ?_
      conv => whnf
      obtain ⟨⟨r_54, r_55⟩, hc56, h⟩ := bS h
      refine PC.ecall (P75 f_1 y_12 runner_2 x_42 v_47 r_54 r_55 hc56) (fun rs hrs => ?_)
      subst hrs
      conv => whnf
      refine Tr.seq ?_
      refine rg ?_
      conv => whnf
      refine Tr.cond ?_
      conv => whnf
      refine cB h (fun hb57 h => ?_) (fun hb57 h => ?_)
      ·refine rg ?_
       conv => whnf
       refine arS_raw ?_
       conv => whnf
       refine rg ?_
       conv => whnf
       refine arS_raw ?_
       conv => whnf
       refine ⟨((w64 (n_46 + 1)), (w64 (v_47 + 1))), h, ?_⟩
       exact Wk.mk2 [0, 1, 2, 3, 4, 5] 6 rfl rfl (by decide) rfl ⟨rr, rr, rr, rr, rr, rr, trivial⟩ ⟨rr, rr, rr, rr, rr, rr, rr, rr, rr, rr, rr, rr, rr, rr, trivial⟩
      refine Tr.skip ?_
      conv => whnf
      refine rg ?_
      conv => whnf
      refine arS_raw ?_
      conv => whnf
      refine ⟨(n_46, (w64 (v_47 + 1))), h, ?_⟩
      exact Wk.mk2 [0, 1, 2, 3, 4, 5] 6 rfl rfl (by decide) rfl ⟨rr, rr, rr, rr, rr, rr, trivial⟩ ⟨rr, rr, rr, rr, rr, rr, rr, rr, rr, rr, rr, rr, rr, rr, trivial⟩
     refine Tr.exit ?_
     conv => whnf
     cases h
     exact Wk.mk2 [0, 1, 2, 3, 4] 6 rfl rfl (by decide) rfl ⟨rr, rr, rr, rr, rr, trivial⟩ ⟨rr, rr, rr, rr, rr, rr, rr, rr, rr, rr, rr, trivial⟩
    clear hv58
    conv => whnf
    refine Tr.weak hw ?_
    refine Tr.seq ?_
    obtain ⟨v_59, hv60, h⟩ := bS h
    refine Tr.cutQ1 ([(3, .pt 0 0), (4, .pt 1 0), (5, .pt 2 0), (6, .pt 3 0), (7, .pt 4 0), (8, (dI y_12)), (9, (dI v_29)), (11, (dI n_49)), (26, .d (.ls (List.map eTOutcome x_23))), (27, (dI (((x_23).length : Int)))), (28, (dI v_29)), (67, .d (.b v_59))]) ([some (.var [.d (.fn 101 []), .d (.fn 102 []), .d (.fn 103 []), .d (.fn 104 [])]), some (.var [.d (.ls (List.map eTSegment f_1.Clocks.Segments)), .d (.ls (List.map (eL eI) f_1.Clocks.Far)), .d (.ls (List.map eTPair f_1.Pairs)), .d (.ls (List.map eTRunner f_1.Runners))]), some (.var [(dI runner_2)]), some (.var [(dI v_30), (dI v_31), (dI v_32)]), some (.var [.d (.b v_33)])]) ?_ (fun T1 H1 hw => ?_)
    ·replace h := hv60; clear hv60
     refine rg ?_
     conv => whnf
     refine cB h (fun hb61 h => ?_) (fun hb61 h => ?_)
     ·conv => whnf
      cases h
      exact Wk.mk2 [0, 1, 2, 3, 4] 5 rfl rfl (by decide) rfl ⟨rr, rr, rr, rr, rr, trivial⟩ ⟨rr, rr, rr, rr, rr, rr, rr, rr, rr, rr, rr, rr, trivial⟩
     conv => whnf
     obtain ⟨r_62, hc63, h⟩ := bS h
     refine PC.ecall (P65 n_49 v_32 r_62 hc63) (fun rs hrs => ?_)
     subst hrs
     conv => whnf
     cases h
     exact Wk.mk2 [0, 1, 2, 3, 4] 5 rfl rfl (by decide) rfl ⟨rr, rr, rr, rr, rr, trivial⟩ ⟨rr, rr, rr, rr, rr, rr, rr, rr, rr, rr, rr, rr, trivial⟩
    clear hv60
    conv => whnf
    refine Tr.weak hw ?_
    refine Tr.cond ?_
    conv => whnf
    refine cB h (fun hb64 h => ?_) (fun hb64 h => ?_)
    ·refine rg ?_
     conv => whnf
     refine rg ?_
     conv => whnf
     refine arS_raw ?_
     conv => whnf
     refine ⟨((w64 (v_29 + 1)), y_12, v_29, n_49, true), h, ?_⟩
     exact Wk.mk2 [0, 1, 2, 3, 4] 5 rfl rfl (by decide) rfl ⟨rr, rr, rr, rr, rr, trivial⟩ ⟨rr, rr, rr, rr, rr, rr, rr, rr, rr, trivial⟩
    refine Tr.skip ?_
    conv => whnf
    refine rg ?_
    conv => whnf
    refine arS_raw ?_
    conv => whnf
    refine ⟨((w64 (v_29 + 1)), v_30, v_31, v_32, v_33), h, ?_⟩
    exact Wk.mk2 [0, 1, 2, 3, 4] 5 rfl rfl (by decide) rfl ⟨rr, rr, rr, rr, rr, trivial⟩ ⟨rr, rr, rr, rr, rr, rr, rr, rr, rr, trivial⟩
   refine Tr.exit ?_
   conv => whnf
   cases h
   exact Wk.mk2 [0, 1, 2, 3, 4] 5 rfl rfl (by decide) rfl ⟨rr, rr, rr, rr, rr, trivial⟩ trivial
  clear hv65
  conv => whnf
  cases h
  refine Wk.trans (F := 5) hw ?_
  exact Wk.mk2 [0, 1, 2, 3, 4] 5 rfl rfl (by decide) rfl ⟨rr, rr, rr, rr, rr, trivial⟩ trivial
 clear hv70
 conv => whnf
 refine Tr.seq ?_
 refine Tr.draw (DrawP.seqQ layOK mixed [(2, 3), (3, 4)] [(0, 6), (1, 7), (2, 0), (3, 0)] (by kernel_rfl) ?_)
 conv => whnf
 refine ⟨_, ⟨rfl, rfl, rr⟩, ?_⟩
 conv => whnf
 refine ⟨_, ⟨rfl, rfl, rr⟩, ?_⟩
 conv => whnf
 refine ⟨_, _, rr, kp_ok (by repeat (first | exact trivial | refine ⟨trivial, ?_⟩ | refine ⟨rfl, ?_⟩)), ?_⟩
 conv => whnf
 refine ⟨_, _, rr, kp_ok (by repeat (first | exact trivial | refine ⟨trivial, ?_⟩ | refine ⟨rfl, ?_⟩)), ?_⟩
 conv => whnf
 refine Tr.ret ?_
 conv => whnf
 cases h
 rfl
theorem P80 (h : M80 = some ()) :
    PC prog 66 [] (fun rs => rs = [(.ag [(.fn 102 []), (.fn 101 []), (.fn 105 []), (.fn 106 [])])]) := by
 refine PC.of_tr (cx := ⟨2, none, lay, 0⟩) layOK func66 rfl rfl rfl rfl rfl (by simp [f66]) ?_
 unfold M80 at h
 refine Tr.seq ?_
 refine rg ?_
 conv => whnf
 refine Tr.seq ?_
 refine rg ?_
 conv => whnf
 refine Tr.ret ?_
 conv => whnf
theorem P81 (n_1 : Int) (m_2 : Int) (r_3 : Bool) (h : M81 n_1 m_2 = some r_3) :
    PC prog 106 [(.i .i64 n_1), (.i .i64 m_2)] (fun rs => rs = [(.b r_3)]) := by
 refine PC.of_tr (cx := ⟨8, none, lay, 0⟩) layOK func106 rfl rfl rfl rfl rfl (by simp [f106]) ?_
 unfold M81 at h
 refine Tr.seq ?_
 refine rg ?_
 conv => whnf
 refine Tr.seq ?_
 refine rg ?_
 conv => whnf
 refine Tr.ret ?_
 conv => whnf
 cases h
 rfl
theorem P82 (far_1 : List (List Int)) (a_2 : Int) (b_3 : Int) (r_4 : Int) (h : M82 far_1 a_2 b_3 = some r_4) :
    PC prog 105 [(.ls (List.map (eL eI) far_1)), (.i .i64 a_2), (.i .i64 b_3)] (fun rs => rs = [(.i .i64 r_4)]) := by
 refine PC.of_tr (cx := ⟨15, none, lay, 0⟩) layOK func105 rfl rfl rfl rfl rfl (by simp [f105]) ?_
 unfold M82 at h
 refine Tr.seq ?_
 refine rg ?_
 conv => whnf
 refine Tr.seq ?_
 refine rg ?_
 conv => whnf
 obtain ⟨x_5, hx_5, h⟩ := bS h
 refine ixP_of hx_5 ?_
 conv => whnf
 obtain ⟨x_6, hx_6, h⟩ := bS h
 refine ixP_of hx_6 ?_
 conv => whnf
 refine arS_raw ?_
 conv => whnf
 refine Tr.ret ?_
 conv => whnf
 cases h
 rfl
theorem P83 (f_1 : TField) (runner_2 : Int) (x_3 : TOutcome) (rival_4 : Int) (y_5 : TOutcome) (r_6 : Bool) (h : M83 f_1 runner_2 x_3 rival_4 y_5 = some r_6) :
    PC prog 145 [(.ag [(.fn 102 []), (.fn 101 []), (.fn 105 []), (.fn 106 [])]), (eTField f_1), (.i .i64 runner_2), (eTOutcome x_3), (.i .i64 rival_4), (eTOutcome y_5)] (fun rs => rs = [(.b r_6)]) := by
 refine PC.of_tr (cx := ⟨60, none, lay, 0⟩) layOK func145 rfl rfl rfl rfl rfl (by simp [f145]) ?_
 unfold M83 at h
 refine Tr.seq ?_
 refine rg ?_
 conv => whnf
 refine Tr.seq ?_
 refine Tr.seq ?_
 refine rg ?_
 conv => whnf
 refine Tr.cond ?_
 conv => whnf
 refine cB h (fun hb7 h => ?_) (fun hb7 h => ?_)
 ·refine Tr.seq ?_
  refine rg ?_
  conv => whnf
  refine Tr.ret ?_
  conv => whnf
  cases h
  rfl
 refine Tr.skip ?_
 conv => whnf
 refine Tr.seq ?_
 refine Tr.draw (DrawP.seqQ layOK mixed [] [(0, 3), (1, 3), (2, 6), (3, 1), (4, 3), (5, 3), (6, 4), (7, 4), (8, 4), (9, 5), (10, 5), (11, 1), (12, 6), (13, 6), (14, 1), (15, 1), (16, 1), (17, 3), (18, 3), (19, 5), (20, 1), (21, 1), (22, 1)] (by kernel_rfl) ?_)
 conv => whnf
 refine ⟨_, ⟨rfl, rfl, rr⟩, ?_⟩
 conv => whnf
 refine ⟨_, ⟨rfl, rfl, rr⟩, ?_⟩
 conv => whnf
 refine ⟨_, ⟨rfl, rfl, rr⟩, ?_⟩
 conv => whnf
 obtain ⟨r_8, hc9, h⟩ := bS h
 refine ⟨_, (fun _ => by (conv => whnf); (refine PC.ecall (P68 y_5 r_8 hc9) (fun rs hrs => ?_)); (subst hrs); (conv => whnf); (exact rr)), ?_⟩
 conv => whnf
 refine ⟨_, ⟨rfl, rfl, rr⟩, ?_⟩
 conv => whnf
 refine ⟨_, ⟨rfl, rfl, rr⟩, ?_⟩
 conv => whnf
 refine ⟨_, ⟨rfl, rfl, rr⟩, ?_⟩
 conv => whnf
 refine ⟨_, ⟨rfl, rfl, rr⟩, ?_⟩
 conv => whnf
 refine ⟨_, ⟨rfl, rfl, rr⟩, ?_⟩
 conv => whnf
 refine ⟨_, ⟨rfl, rfl, rr⟩, ?_⟩
 conv => whnf
 refine ⟨_, ⟨rfl, rfl, rr⟩, ?_⟩
 conv => whnf
 refine ⟨_, (fun _ => by (conv => whnf); (refine arS_raw ?_); (conv => whnf); (exact rr)), ?_⟩
 conv => whnf
 refine ⟨_, ⟨rfl, rfl, rr⟩, ?_⟩
 conv => whnf
 refine ⟨_, ⟨rfl, rfl, rr⟩, ?_⟩
 conv => whnf
 refine ⟨_, (fun _ => by (conv => whnf); (refine arS_raw ?_); (conv => whnf); (exact rr)), ?_⟩
 conv => whnf
 obtain ⟨r_10, hc11, h⟩ := bS h
 refine ⟨_, (fun _ => by (conv => whnf); (refine PC.ecall (P82 f_1.Clocks.Far ((w64 (x_3.Seg + 1))) ((w64 (y_5.Seg + 1))) r_10 hc11) (fun rs hrs => ?_)); (subst hrs); (conv => whnf); (exact rr)), ?_⟩
 conv => whnf
 refine ⟨_, (fun _ => by (conv => whnf); (refine arS_raw ?_); (conv => whnf); (exact rr)), ?_⟩
 conv => whnf
 refine ⟨_, ⟨rfl, rfl, rr⟩, ?_⟩
 conv => whnf
 refine ⟨_, ⟨rfl, rfl, rr⟩, ?_⟩
 conv => whnf
 refine ⟨_, ⟨rfl, rfl, rr⟩, ?_⟩
 conv => whnf
 obtain ⟨r_12, hc13, h⟩ := bS h
 refine ⟨_, (fun _ => by (conv => whnf); (refine PC.ecall (P66 x_3 r_12 hc13) (fun rs hrs => ?_)); (subst hrs); (conv => whnf); (exact rr)), ?_⟩
 conv => whnf
 refine ⟨_, (fun _ => by (conv => whnf); (refine arS_raw ?_); (conv => whnf); (exact rr)), ?_⟩
 conv => whnf
 refine ⟨_, (fun _ => rr), ?_⟩
 conv => whnf
 refine Tr.seq ?_
 refine Tr.draw (DrawP.seqQ layOK mixed [] [(0, 1), (1, 1), (2, 1), (3, 1), (4, 1), (5, 1), (6, 4), (7, 4), (8, 1), (9, 2), (10, 2), (11, 2), (12, 4), (13, 4), (14, 1), (15, 2), (16, 2), (17, 2), (18, 1), (19, 1), (20, 1), (21, 1), (22, 1)] (by kernel_rfl) ?_)
 conv => whnf
 refine ⟨_, (fun _ => rr), ?_⟩
 conv => whnf
 refine ⟨_, (fun _ => rr), ?_⟩
 conv => whnf
 refine ⟨_, (fun _ => rr), ?_⟩
 conv => whnf
 refine cB h (fun hb14 h => ?_) (fun hb14 h => ?_)
 ·conv => whnf
  refine ⟨_, (fun _ => rr), ?_⟩
  conv => whnf
  refine ⟨_, (fun _ => rr), ?_⟩
  conv => whnf
  refine Tr.ret ?_
  conv => whnf
  cases h
  rfl
 conv => whnf
 refine ⟨_, (fun _ => rr), ?_⟩
 conv => whnf
 refine ⟨_, (fun _ => rr), ?_⟩
 conv => whnf
 refine ⟨_, (fun _ => rr), ?_⟩
 conv => whnf
 refine cB h (fun hb15 h => ?_) (fun hb15 h => ?_)
 ·conv => whnf
  refine ⟨_, ⟨rfl, rfl, rr⟩, ?_⟩
  conv => whnf
  refine ⟨_, ⟨rfl, rfl, rr⟩, ?_⟩
  conv => whnf
  refine ⟨_, (fun _ => rr), ?_⟩
  conv => whnf
  obtain ⟨x_16, hx_16, h⟩ := bS h
  refine ⟨_, ⟨rfl, rfl, (by (conv => whnf); (refine ixP_of hx_16 ?_); (conv => whnf); (exact rr))⟩, ?_⟩
  conv => whnf
  refine ⟨_, ⟨rfl, rfl, rr⟩, ?_⟩
  conv => whnf
  refine ⟨_, ⟨rfl, rfl, rr⟩, ?_⟩
  conv => whnf
  refine ⟨_, ⟨rfl, rfl, rr⟩, ?_⟩
  conv => whnf
  refine ⟨_, ⟨rfl, rfl, rr⟩, ?_⟩
  conv => whnf
  refine ⟨_, (fun _ => rr), ?_⟩
  conv => whnf
  obtain ⟨x_17, hx_17, h⟩ := bS h
  refine ⟨_, ⟨rfl, rfl, (by (conv => whnf); (refine ixP_of hx_17 ?_); (conv => whnf); (exact rr))⟩, ?_⟩
  conv => whnf
  refine ⟨_, ⟨rfl, rfl, rr⟩, ?_⟩
  conv => whnf
  refine ⟨_, ⟨rfl, rfl, rr⟩, ?_⟩
  conv => whnf
  obtain ⟨r_18, hc19, h⟩ := bS h
  refine ⟨_, (fun _ => by (conv => whnf); (refine PC.ecall (P71 x_16.Keys x_17.Keys r_18 hc19) (fun rs hrs => ?_)); (subst hrs); (conv => whnf); (exact rr)), ?_⟩
  conv => whnf
  refine ⟨_, (fun _ => rr), ?_⟩
  conv => whnf
  refine ⟨_, (fun _ => rr), ?_⟩
  conv => whnf
  refine ⟨_, (fun _ => rr), ?_⟩
  conv => whnf
  refine ⟨_, (fun _ => rr), ?_⟩
  conv => whnf
  refine Tr.ret ?_
  conv => whnf
  cases h
  rfl
 conv => whnf
 refine ⟨_, (fun _ => rr), ?_⟩
 conv => whnf
 refine ⟨_, (fun _ => rr), ?_⟩
 conv => whnf
 refine ⟨_, (fun _ => rr), ?_⟩
 conv => whnf
 refine Tr.ret ?_
 conv => whnf
 cases h
 rfl
theorem P86 (f_1 : TField) (w_2 : Int) (runner_3 : Int) (x_4 : TOutcome) (rival_5 : Int) (r_6 : Int) (r_7 : Bool) (h : M86 f_1 w_2 runner_3 x_4 rival_5 = some (r_6, r_7)) :
    PC prog 124 [(.ag [(.fn 102 []), (.fn 101 []), (.fn 105 []), (.fn 106 [])]), (eTField f_1), (.i .i64 w_2), (.i .i64 runner_3), (eTOutcome x_4), (.i .i64 rival_5)] (fun rs => rs = [(.i .i64 r_6), (.b r_7)]) := by
 refine PC.of_tr (cx := ⟨49, none, lay, 0⟩) layOK func124 rfl rfl rfl rfl rfl (by simp [f124]) ?_
 unfold M86 at h
 refine Tr.seq ?_
 refine rg ?_
 conv => whnf
 refine Tr.seq ?_
 refine rg ?_
 conv => whnf
 obtain ⟨r_8, hc9, h⟩ := bS h
 refine PC.ecall (P81 2 1 r_8 hc9) (fun rs hrs => ?_)
 subst hrs
 conv => whnf
 refine Tr.seq ?_
 refine Tr.seq ?_
 refine rg ?_
 conv => whnf
 obtain ⟨x_10, hx_10, h⟩ := bS h
 refine ixP_of hx_10 ?_
 conv => whnf
 obtain ⟨x_11, hx_11, h⟩ := bS h
 refine ixP_of hx_11 ?_
 conv => whnf
 refine lnS_map ?_
 conv => whnf
 refine Tr.cutQ (α := Unit) (fun s => ([(12, (dI 0)), (13, .d (.b false)), (14, .d (.b r_8))], [])) (fun s => M85 r_8 s = some (r_6, r_7)) ?_ ?_
 ·refine Tr.block ?_
  refine Tr.loopM (σ := Int) (fun n s => M84 f_1 runner_3 x_4 rival_5 r_8 x_11 (M85 r_8) n s) (r_6, r_7) (fun s => ([(3, (dI runner_3)), (5, (dI rival_5)), (6, .pt 0 0), (7, .pt 1 0), (10, .pt 2 0), (12, (dI 0)), (13, .d (.b false)), (14, .d (.b r_8)), (28, .d (.ls (List.map eTOutcome x_11))), (29, (dI (((x_11).length : Int)))), (30, (dI s))], [some (.var [.d (.fn 102 []), .d (.fn 101 []), .d (.fn 105 []), .d (.fn 106 [])]), some (.var [.d (.ls (List.map eTSegment f_1.Clocks.Segments)), .d (.ls (List.map (eL eI) f_1.Clocks.Far)), .d (.ls (List.map eTPair f_1.Pairs)), .d (.ls (List.map eTRunner f_1.Runners))]), some (.var [.d (.b x_4.Out), (dI x_4.Seg), (dI x_4.Lo), (dI x_4.Hi)])])) (((((x_11).length : Int)) - 0 : Int).toNat + 1) (0) h (fun s => rfl) (Wk.mk2 [0, 1, 2] 3 rfl rfl (by decide) rfl ⟨rr, rr, rr, trivial⟩ ⟨rr, rr, rr, rr, rr, rr, rr, rr, rr, rr, rr, trivial⟩) ?_
  clear h
  rintro n_14 v_13 h
  replace h : M84 f_1 runner_3 x_4 rival_5 r_8 x_11 (M85 r_8) (n_14 + 1) v_13 = some (r_6, r_7) := h
  rw [M84] at h
  refine Tr.seq ?_
  refine rg ?_
  conv => whnf
  refine Tr.seq ?_
  refine Tr.cond ?_
  conv => whnf
  refine cB h (fun hb17 h => ?_) (fun hb17 h => ?_)
  ·refine Tr.skip ?_
   conv => whnf
   refine Tr.seq ?_
   refine Tr.block ?_
   refine Tr.seq ?_
   refine rg ?_
   conv => whnf
   obtain ⟨x_18, hx_18, h⟩ := bS h
   refine ixP_of hx_18 ?_
   conv => whnf
   refine Tr.seq ?_
   refine rg ?_
   conv => whnf
   obtain ⟨r_19, hc20, h⟩ := bS h
   refine PC.ecall (P83 f_1 runner_3 x_4 rival_5 x_18 r_19 hc20) (fun rs hrs => ?_)
   subst hrs
   conv => whnf
   refine Tr.cond ?_
   conv => whnf
   refine cB h (fun hb21 h => ?_) (fun hb21 h => ?_)
   ·refine Tr.seq ?_
    refine rg ?_
    conv => whnf
    refine Tr.ret ?_
    conv => whnf
    cases h
    rfl
   refine Tr.skip ?_
   conv => whnf
   refine rg ?_
   conv => whnf
   refine arS_raw ?_
   conv => whnf
   refine ⟨((w64 (v_13 + 1))), h, ?_⟩
   exact Wk.mk2 [0, 1, 2] 4 rfl rfl (by decide) rfl ⟨rr, rr, rr, trivial⟩ ⟨rr, rr, rr, rr, rr, rr, rr, rr, rr, rr, rr, trivial⟩
  refine Tr.exit ?_
  conv => whnf
  refine ⟨(), h, ?_⟩
  exact Wk.mk2 [] 3 rfl rfl (by decide) rfl trivial ⟨rr, rr, rr, trivial⟩
 clear h
 rintro _ h T1 H1 hw
 replace h : M85 r_8 () = some (r_6, r_7) := h
 conv => whnf
 refine Tr.weak hw ?_
 unfold M85 at h
 refine Tr.seq ?_
 refine rg ?_
 conv => whnf
 refine Tr.ret ?_
 conv => whnf
 cases h
 rfl
theorem P90 (f_1 : TField) (runner_2 : Int) (r_3 : Tranks_place) (r_4 : Bool) (h : M90 f_1 runner_2 = some (r_3, r_4)) :
    PC prog 85 [(.ag [(.fn 102 []), (.fn 101 []), (.fn 105 []), (.fn 106 [])]), (eTField f_1), (.i .i64 runner_2)] (fun rs => rs = [(eTranks_place r_3), (.b r_4)]) := by
 refine PC.of_tr (cx := ⟨75, none, lay, 0⟩) layOK func85 rfl rfl rfl rfl rfl (by simp [f85]) ?_
 unfold M90 at h
 refine Tr.seq ?_
 refine rg ?_
 conv => whnf
 refine Tr.seq ?_
 refine Tr.seq ?_
 refine rg ?_
 conv => whnf
 obtain ⟨⟨c_5, c_6, c_7, c_8⟩, hc9, h⟩ := bS h
 refine PC.ecall (P50 f_1 c_5 c_6 c_7 c_8 hc9) (fun rs hrs => ?_)
 subst hrs
 conv => whnf
 obtain ⟨l_10, hl11, h⟩ := bS h
 obtain ⟨⟨v_66, v_67, v_68, v_69⟩, hv70, h⟩ := bS h
 refine Tr.block ?_
 refine Tr.rangeM layOK rfl (ge := fun a => [(.i .i64 a)]) rfl (P58 c_5 c_6 c_7 c_8 l_10 hl11) (fun _ => rfl) rfl (fun s => [some (.var [.d (.fn 102 []), .d (.fn 101 []), .d (.fn 105 []), .d (.fn 106 [])]), some (.var [.d (.ls (List.map eTSegment f_1.Clocks.Segments)), .d (.ls (List.map (eL eI) f_1.Clocks.Far)), .d (.ls (List.map eTPair f_1.Pairs)), .d (.ls (List.map eTRunner f_1.Runners))]), some (.var [(dI runner_2)]), some (.var [(dI s.1), (dI s.2.1), (dI s.2.2.1)]), some (.var [.d (.b s.2.2.2)])]) (M89 f_1 runner_2) (0, 0, 0, false) (v_66, v_67, v_68, v_69) hv70 (Wk.mk2 [0, 1, 2, 3, 4] 5 rfl rfl (by decide) rfl ⟨⟨rfl, rfl⟩, ⟨rfl, rfl⟩, ⟨rfl, rfl⟩, ⟨rfl, rfl⟩, ⟨rfl, rfl⟩, trivial⟩ trivial) ?_ ?_
 ·clear h hv70
  rintro li y_12 ⟨v_17, v_18, v_19, v_20⟩ s_21 ha h
  replace h : (M89 f_1 runner_2) y_12 (v_17, v_18, v_19, v_20) = some s_21 := h
  unfold M89 at h
  dsimp only at h
  conv => whnf
  refine Tr.block ?_
  refine Tr.seq ?_
  refine rg ?_
  conv => whnf
  obtain ⟨x_22, hx_22, h⟩ := bS h
  refine ixP_of hx_22 ?_
  conv => whnf
  obtain ⟨x_23, hx_23, h⟩ := bS h
  refine ixP_of hx_23 ?_
  conv => whnf
  refine lnS_map ?_
  conv => whnf
  obtain ⟨⟨v_35, v_36, v_37, v_38⟩, hv65, h⟩ := bS h
  refine Tr.cutQ1 ([]) ([some (.var [.d (.fn 102 []), .d (.fn 101 []), .d (.fn 105 []), .d (.fn 106 [])]), some (.var [.d (.ls (List.map eTSegment f_1.Clocks.Segments)), .d (.ls (List.map (eL eI) f_1.Clocks.Far)), .d (.ls (List.map eTPair f_1.Pairs)), .d (.ls (List.map eTRunner f_1.Runners))]), some (.var [(dI runner_2)]), some (.var [(dI v_35), (dI v_36), (dI v_37)]), some (.var [.d (.b v_38)])]) ?_ (fun T1 H1 hw => ?_)
  ·replace h := hv65; clear hv65
   refine Tr.block ?_
   refine Tr.loopM (σ := Int × Int × Int × Int × Bool) (fun n s => M88 f_1 runner_2 y_12 x_23 n s.1 s.2.1 s.2.2.1 s.2.2.2.1 s.2.2.2.2) (v_35, v_36, v_37, v_38) (fun s => ([(3, .pt 0 0), (4, .pt 1 0), (5, .pt 2 0), (6, .pt 3 0), (7, .pt 4 0), (8, (dI y_12)), (26, .d (.ls (List.map eTOutcome x_23))), (27, (dI (((x_23).length : Int)))), (28, (dI s.1))], [some (.var [.d (.fn 102 []), .d (.fn 101 []), .d (.fn 105 []), .d (.fn 106 [])]), some (.var [.d (.ls (List.map eTSegment f_1.Clocks.Segments)), .d (.ls (List.map (eL eI) f_1.Clocks.Far)), .d (.ls (List.map eTPair f_1.Pairs)), .d (.ls (List.map eTRunner f_1.Runners))]), some (.var [(dI runner_2)]), some (.var [(dI s.2.1), (dI s.2.2.1), (dI s.2.2.2.1)]), some (.var [.d (.b s.2.2.2.2)])])) (((((x_23).length : Int)) - 0 : Int).toNat + 1) (0, v_17, v_18, v_19, v_20) h (fun s => rfl) (Wk.mk2 [0, 1, 2, 3, 4] 5 rfl rfl (by decide) rfl ⟨rr, rr, rr, rr, rr, trivial⟩ ⟨rr, rr, rr, rr, rr, rr, rr, rr, rr, trivial⟩) ?_
   clear h
   rintro n_34 ⟨v_29, v_30, v_31, v_32, v_33⟩ h
   replace h : M88 f_1 runner_2 y_12 x_23 (n_34 + 1) v_29 v_30 v_31 v_32 v_33 = some (v_35, v_36, v_37, v_38) := h
   rw [M88] at h
   refine Tr.seq ?_
   refine rg ?_
   conv => whnf
   refine Tr.seq ?_
   refine Tr.cond ?_
   conv => whnf
   refine cB h (fun hb41 h => ?_) (fun hb41 h => ?_)
   ·refine Tr.skip ?_
    conv => whnf
    refine Tr.seq ?_
    refine Tr.block ?_
    refine Tr.seq ?_
    refine rg ?_
    conv => whnf
    obtain ⟨x_42, hx_42, h⟩ := bS h
    refine ixP_of hx_42 ?_
    conv => whnf
    refine Tr.seq ?_
    refine Tr.seq ?_
    refine rg ?_
    conv => whnf
    refine Tr.cond ?_
    conv => whnf
    refine cB h (fun hb43 h => ?_) (fun hb43 h => ?_)
    ·refine Tr.exit ?_
     conv => whnf
     refine rg ?_
     conv => whnf
     refine arS_raw ?_
     conv => whnf
     refine ⟨((w64 (v_29 + 1)), v_30, v_31, v_32, v_33), h, ?_⟩
     exact Wk.mk2 [0, 1, 2, 3, 4] 6 rfl rfl (by decide) rfl ⟨rr, rr, rr, rr, rr, trivial⟩ ⟨rr, rr, rr, rr, rr, rr, rr, rr, rr, trivial⟩
    refine Tr.skip ?_
    conv => whnf
    refine Tr.seq ?_
    refine rg ?_
    conv => whnf
    refine Tr.seq ?_
    refine Tr.seq ?_
    refine rg ?_
    conv => whnf
    refine lnS_map ?_
    conv => whnf
    obtain ⟨n_49, hv58, h⟩ := bS h
    refine Tr.cutQ1 ([(3, .pt 0 0), (4, .pt 1 0), (5, .pt 2 0), (6, .pt 3 0), (7, .pt 4 0), (8, (dI y_12)), (9, (dI v_29)), (11, (dI n_49)), (26, .d (.ls (List.map eTOutcome x_23))), (27, (dI (((x_23).length : Int)))), (28, (dI v_29))]) ([some (.var [.d (.fn 102 []), .d (.fn 101 []), .d (.fn 105 []), .d (.fn 106 [])]), some (.var [.d (.ls (List.map eTSegment f_1.Clocks.Segments)), .d (.ls (List.map (eL eI) f_1.Clocks.Far)), .d (.ls (List.map eTPair f_1.Pairs)), .d (.ls (List.map eTRunner f_1.Runners))]), some (.var [(dI runner_2)]), some (.var [(dI v_30), (dI v_31), (dI v_32)]), some (.var [.d (.b v_33)])]) ?_ (fun T1 H1 hw => ?_)
    ·replace h := hv58; clear hv58
     refine Tr.block ?_
     refine Tr.loopM (σ := Int × Int) (fun n s => M87 f_1 runner_2 y_12 x_42 n s.1 s.2) n_49 (fun s => ([(3, .pt 0 0), (4, .pt 1 0), (5, .pt 2 0), (6, .pt 3 0), (7, .pt 4 0), (8, (dI y_12)), (9, (dI v_29)), (10, .pt 5 0), (11, (dI s.1)), (26, .d (.ls (List.map eTOutcome x_23))), (27, (dI (((x_23).length : Int)))), (28, (dI v_29)), (37, (dI (((f_1.Runners).length : Int)))), (38, (dI s.2))], [some (.var [.d (.fn 102 []), .d (.fn 101 []), .d (.fn 105 []), .d (.fn 106 [])]), some (.var [.d (.ls (List.map eTSegment f_1.Clocks.Segments)), .d (.ls (List.map (eL eI) f_1.Clocks.Far)), .d (.ls (List.map eTPair f_1.Pairs)), .d (.ls (List.map eTRunner f_1.Runners))]), some (.var [(dI runner_2)]), some (.var [(dI v_30), (dI v_31), (dI v_32)]), some (.var [.d (.b v_33)]), some (.var [.d (.b x_42.Out), (dI x_42.Seg), (dI x_42.Lo), (dI x_42.Hi)])])) (((((f_1.Runners).length : Int)) - 0 : Int).toNat + 1) (1, 0) h (fun s => rfl) (Wk.mk2 [0, 1, 2, 3, 4, 5] 6 rfl rfl (by decide) rfl ⟨rr, rr, rr, rr, rr, rr, trivial⟩ ⟨rr, rr, rr, rr, rr, rr, rr, rr, rr, rr, rr, rr, rr, rr, trivial⟩) ?_
     clear h
     rintro n_48 ⟨n_46, v_47⟩ h
     replace h : M87 f_1 runner_2 y_12 x_42 (n_48 + 1) n_46 v_47 = some n_49 := h
     rw [M87] at h
     refine Tr.seq ?_
     refine rg ?_
     conv => whnf
     refine Tr.seq ?_
     refine Tr.cond ?_
     conv => whnf
     refine cB h (fun hb52 h => ?_) (fun hb52 h => ?_)
     ·refine Tr.skip ?_
      conv => whnf
      refine Tr.seq ?_
      refine Tr.block ?_
      refine Tr.seq ?_
      refine rg ?_
      conv => whnf
      refine Tr.seq ?_
      refine Tr.seq ?_
      refine rg ?_
      conv => whnf
      refine Tr.cond ?_
      conv => whnf
      refine cB h (fun hb53 h => ?_) (fun hb53 h => ?_)
      ·refine Tr.exit ?_
       conv => whnf
       refine rg ?_
       conv => whnf
       refine arS_raw ?_
       conv => whnf
       refine ⟨(n_46, (w64 (v_47 + 1))), h, ?_⟩
       exact Wk.mk2 [0, 1, 2, 3, 4, 5] 6 rfl rfl (by decide) rfl ⟨rr, rr, rr, rr, rr, rr, trivial⟩ ⟨rr, rr, rr, rr, rr, rr, rr, rr, rr, rr, rr, rr, rr, rr, trivial⟩
      refine Tr.skip ?_
      conv => whnf
      refine Tr.seq ?_
      refine rg ?_
      conv => whnf
      obtain ⟨⟨r_54, r_55⟩, hc56, h⟩ := bS h
      refine PC.ecall (P86 f_1 y_12 runner_2 x_42 v_47 r_54 r_55 hc56) (fun rs hrs => ?_)
      subst hrs
      conv => whnf
      refine Tr.seq ?_
      refine rg ?_
      conv => whnf
      refine Tr.cond ?_
      conv => whnf
      refine cB h (fun hb57 h => ?_) (fun hb57 h => ?_)
      ·refine rg ?_
       conv => whnf
       refine arS_raw ?_
       conv => whnf
       refine rg ?_
       conv => whnf
       refine arS_raw ?_
       conv => whnf
       refine ⟨((w64 (n_46 + 1)), (w64 (v_47 + 1))), h, ?_⟩
       exact Wk.mk2 [0, 1, 2, 3, 4, 5] 6 rfl rfl (by decide) rfl ⟨rr, rr, rr, rr, rr, rr, trivial⟩ ⟨rr, rr, rr, rr, rr, rr, rr, rr, rr, rr, rr, rr, rr, rr, trivial⟩
      refine Tr.skip ?_
      conv => whnf
      refine rg ?_
      conv => whnf
      refine arS_raw ?_
      conv => whnf
      refine ⟨(n_46, (w64 (v_47 + 1))), h, ?_⟩
      exact Wk.mk2 [0, 1, 2, 3, 4, 5] 6 rfl rfl (by decide) rfl ⟨rr, rr, rr, rr, rr, rr, trivial⟩ ⟨rr, rr, rr, rr, rr, rr, rr, rr, rr, rr, rr, rr, rr, rr, trivial⟩
     refine Tr.exit ?_
     conv => whnf
     cases h
     exact Wk.mk2 [0, 1, 2, 3, 4] 6 rfl rfl (by decide) rfl ⟨rr, rr, rr, rr, rr, trivial⟩ ⟨rr, rr, rr, rr, rr, rr, rr, rr, rr, rr, rr, trivial⟩
    clear hv58
    conv => whnf
    refine Tr.weak hw ?_
    refine Tr.seq ?_
    obtain ⟨v_59, hv60, h⟩ := bS h
    refine Tr.cutQ1 ([(3, .pt 0 0), (4, .pt 1 0), (5, .pt 2 0), (6, .pt 3 0), (7, .pt 4 0), (8, (dI y_12)), (9, (dI v_29)), (11, (dI n_49)), (26, .d (.ls (List.map eTOutcome x_23))), (27, (dI (((x_23).length : Int)))), (28, (dI v_29)), (67, .d (.b v_59))]) ([some (.var [.d (.fn 102 []), .d (.fn 101 []), .d (.fn 105 []), .d (.fn 106 [])]), some (.var [.d (.ls (List.map eTSegment f_1.Clocks.Segments)), .d (.ls (List.map (eL eI) f_1.Clocks.Far)), .d (.ls (List.map eTPair f_1.Pairs)), .d (.ls (List.map eTRunner f_1.Runners))]), some (.var [(dI runner_2)]), some (.var [(dI v_30), (dI v_31), (dI v_32)]), some (.var [.d (.b v_33)])]) ?_ (fun T1 H1 hw => ?_)
    ·replace h := hv60; clear hv60
     refine rg ?_
     conv => whnf
     refine cB h (fun hb61 h => ?_) (fun hb61 h => ?_)
     ·conv => whnf
      cases h
      exact Wk.mk2 [0, 1, 2, 3, 4] 5 rfl rfl (by decide) rfl ⟨rr, rr, rr, rr, rr, trivial⟩ ⟨rr, rr, rr, rr, rr, rr, rr, rr, rr, rr, rr, rr, trivial⟩
     conv => whnf
     obtain ⟨r_62, hc63, h⟩ := bS h
     refine PC.ecall (P81 n_49 v_32 r_62 hc63) (fun rs hrs => ?_)
     subst hrs
     conv => whnf
     cases h
     exact Wk.mk2 [0, 1, 2, 3, 4] 5 rfl rfl (by decide) rfl ⟨rr, rr, rr, rr, rr, trivial⟩ ⟨rr, rr, rr, rr, rr, rr, rr, rr, rr, rr, rr, rr, trivial⟩
    clear hv60
    conv => whnf
    refine Tr.weak hw ?_
    refine Tr.cond ?_
    conv => whnf
    refine cB h (fun hb64 h => ?_) (fun hb64 h => ?_)
    ·refine rg ?_
     conv => whnf
     refine rg ?_
     conv => whnf
     refine arS_raw ?_
     conv => whnf
     refine ⟨((w64 (v_29 + 1)), y_12, v_29, n_49, true), h, ?_⟩
     exact Wk.mk2 [0, 1, 2, 3, 4] 5 rfl rfl (by decide) rfl ⟨rr, rr, rr, rr, rr, trivial⟩ ⟨rr, rr, rr, rr, rr, rr, rr, rr, rr, trivial⟩
    refine Tr.skip ?_
    conv => whnf
    refine rg ?_
    conv => whnf
    refine arS_raw ?_
    conv => whnf
    refine ⟨((w64 (v_29 + 1)), v_30, v_31, v_32, v_33), h, ?_⟩
    exact Wk.mk2 [0, 1, 2, 3, 4] 5 rfl rfl (by decide) rfl ⟨rr, rr, rr, rr, rr, trivial⟩ ⟨rr, rr, rr, rr, rr, rr, rr, rr, rr, trivial⟩
   refine Tr.exit ?_
   conv => whnf
   cases h
   exact Wk.mk2 [0, 1, 2, 3, 4] 5 rfl rfl (by decide) rfl ⟨rr, rr, rr, rr, rr, trivial⟩ trivial
  clear hv65
  conv => whnf
  cases h
  refine Wk.trans (F := 5) hw ?_
  exact Wk.mk2 [0, 1, 2, 3, 4] 5 rfl rfl (by decide) rfl ⟨rr, rr, rr, rr, rr, trivial⟩ trivial
 clear hv70
 conv => whnf
 refine Tr.seq ?_
 refine Tr.draw (DrawP.seqQ layOK mixed [(2, 3), (3, 4)] [(0, 6), (1, 7), (2, 0), (3, 0)] (by kernel_rfl) ?_)
 conv => whnf
 refine ⟨_, ⟨rfl, rfl, rr⟩, ?_⟩
 conv => whnf
 refine ⟨_, ⟨rfl, rfl, rr⟩, ?_⟩
 conv => whnf
 refine ⟨_, _, rr, kp_ok (by repeat (first | exact trivial | refine ⟨trivial, ?_⟩ | refine ⟨rfl, ?_⟩)), ?_⟩
 conv => whnf
 refine ⟨_, _, rr, kp_ok (by repeat (first | exact trivial | refine ⟨trivial, ?_⟩ | refine ⟨rfl, ?_⟩)), ?_⟩
 conv => whnf
 refine Tr.ret ?_
 conv => whnf
 cases h
 rfl
theorem P92 (f_1 : TField) (runner_2 : Int) (r_3 : TRank) (h : M92 f_1 runner_2 = some r_3) :
    PC prog 48 [(eTField f_1), (.i .i64 runner_2)] (fun rs => rs = [(eTRank r_3)]) := by
 refine PC.of_tr (cx := ⟨72, none, lay, 0⟩) layOK func48 rfl rfl rfl rfl rfl (by simp [f48]) ?_
 unfold M92 at h
 refine Tr.seq ?_
 refine rg ?_
 conv => whnf
 refine Tr.seq ?_
 refine rg ?_
 conv => whnf
 obtain ⟨x_4, hx_4, h⟩ := bS h
 refine ixP_of hx_4 ?_
 conv => whnf
 refine Tr.seq ?_
 refine Tr.seq ?_
 refine rg ?_
 conv => whnf
 obtain ⟨⟨c_5, c_6, c_7, c_8⟩, hc9, h⟩ := bS h
 refine PC.ecall (P50 f_1 c_5 c_6 c_7 c_8 hc9) (fun rs hrs => ?_)
 subst hrs
 conv => whnf
 obtain ⟨l_10, hl11, h⟩ := bS h
 obtain ⟨v_21, hv33, h⟩ := bS h
 refine Tr.block ?_
 refine Tr.rangeM layOK rfl (ge := fun a => [(.i .i64 a)]) rfl (P58 c_5 c_6 c_7 c_8 l_10 hl11) (fun _ => rfl) rfl (fun s => [some (.var [.d (.ls (List.map eTSegment f_1.Clocks.Segments)), .d (.ls (List.map (eL eI) f_1.Clocks.Far)), .d (.ls (List.map eTPair f_1.Pairs)), .d (.ls (List.map eTRunner f_1.Runners))]), some (.var [(dI runner_2)]), some (.var [(dI 0), (dI 0), (dI 0), (dI 0), .d (.b false)]), some (.var [(dI x_4.Bib), (dI 3), (dI 0), (dI 0), .d (.b s)])]) (M91 f_1 runner_2) (false) v_21 hv33 (Wk.mk2 [0, 1, 2, 3] 4 rfl rfl (by decide) rfl ⟨⟨rfl, rfl⟩, ⟨rfl, rfl⟩, ⟨rfl, rfl⟩, ⟨rfl, rfl⟩, trivial⟩ trivial) ?_ ?_
 ·clear h hv33
  rintro li y_12 v_14 s_15 ha h
  replace h : (M91 f_1 runner_2) y_12 v_14 = some s_15 := h
  unfold M91 at h
  dsimp only at h
  conv => whnf
  refine Tr.block ?_
  refine rg ?_
  conv => whnf
  refine cB h (fun hb16 h => ?_) (fun hb16 h => ?_)
  ·conv => whnf
   cases h
   exact Wk.mk2 [0, 1, 2, 3] 4 rfl rfl (by decide) rfl ⟨rr, rr, rr, rr, trivial⟩ trivial
  conv => whnf
  obtain ⟨x_17, hx_17, h⟩ := bS h
  refine ixP_of hx_17 ?_
  conv => whnf
  obtain ⟨x_18, hx_18, h⟩ := bS h
  refine ixP_of hx_18 ?_
  conv => whnf
  obtain ⟨r_19, hc20, h⟩ := bS h
  refine PC.ecall (P63 x_18 r_19 hc20) (fun rs hrs => ?_)
  subst hrs
  conv => whnf
  cases h
  exact Wk.mk2 [0, 1, 2, 3] 4 rfl rfl (by decide) rfl ⟨rr, rr, rr, rr, trivial⟩ trivial
 clear hv33
 conv => whnf
 refine Tr.seq ?_
 refine Tr.draw (DrawP.seqQ layOK mixed [(8, 4)] [(0, 1), (1, 3), (2, 4), (3, 1), (4, 1), (5, 1), (6, 1), (7, 0), (8, 0), (9, 1)] (by kernel_rfl) ?_)
 conv => whnf
 obtain ⟨_, hc22, h⟩ := bS h
 refine ⟨_, (fun _ => by (conv => whnf); (refine PC.ecall (P64  hc22) (fun rs hrs => ?_)); (subst hrs); (conv => whnf); (exact rr)), ?_⟩
 conv => whnf
 refine ⟨_, ⟨rfl, rfl, rr⟩, ?_⟩
 conv => whnf
 refine ⟨_, ⟨rfl, rfl, rr⟩, ?_⟩
 conv => whnf
 obtain ⟨⟨r_23, r_24⟩, hc25, h⟩ := bS h
 refine ⟨_, (fun _ => by (conv => whnf); (refine PC.ecall (P79 f_1 runner_2 r_23 r_24 hc25) (fun rs hrs => ?_)); (subst hrs); (conv => whnf); (exact rr)), ?_⟩
 conv => whnf
 refine ⟨_, (fun _ => rr), ?_⟩
 conv => whnf
 refine ⟨_, (fun _ => rr), ?_⟩
 conv => whnf
 refine ⟨_, (fun _ => rr), ?_⟩
 conv => whnf
 refine ⟨_, _, rr, kp_ok (by repeat (first | exact trivial | refine ⟨trivial, ?_⟩ | refine ⟨rfl, ?_⟩)), ?_⟩
 conv => whnf
 refine ⟨_, _, rr, kp_ok (by repeat (first | exact trivial | refine ⟨trivial, ?_⟩ | refine ⟨rfl, ?_⟩)), ?_⟩
 conv => whnf
 refine ⟨_, (fun _ => rr), ?_⟩
 conv => whnf
 refine Tr.seq ?_
 refine Tr.seq ?_
 refine rg ?_
 conv => whnf
 refine Tr.cond ?_
 conv => whnf
 refine cB h (fun hb26 h => ?_) (fun hb26 h => ?_)
 ·refine Tr.seq ?_
  refine rg ?_
  conv => whnf
  refine Tr.ret ?_
  conv => whnf
  cases h
  rfl
 refine Tr.skip ?_
 conv => whnf
 refine Tr.seq ?_
 refine Tr.draw (DrawP.seqQ layOK mixed [(8, 5)] [(0, 1), (1, 3), (2, 4), (3, 1), (4, 1), (5, 1), (6, 1), (7, 0), (8, 0), (9, 1)] (by kernel_rfl) ?_)
 conv => whnf
 obtain ⟨_, hc27, h⟩ := bS h
 refine ⟨_, (fun _ => by (conv => whnf); (refine PC.ecall (P80  hc27) (fun rs hrs => ?_)); (subst hrs); (conv => whnf); (exact rr)), ?_⟩
 conv => whnf
 refine ⟨_, ⟨rfl, rfl, rr⟩, ?_⟩
 conv => whnf
 refine ⟨_, ⟨rfl, rfl, rr⟩, ?_⟩
 conv => whnf
 obtain ⟨⟨r_28, r_29⟩, hc30, h⟩ := bS h
 refine ⟨_, (fun _ => by (conv => whnf); (refine PC.ecall (P90 f_1 runner_2 r_28 r_29 hc30) (fun rs hrs => ?_)); (subst hrs); (conv => whnf); (exact rr)), ?_⟩
 conv => whnf
 refine ⟨_, (fun _ => rr), ?_⟩
 conv => whnf
 refine ⟨_, (fun _ => rr), ?_⟩
 conv => whnf
 refine ⟨_, (fun _ => rr), ?_⟩
 conv => whnf
 refine ⟨_, _, rr, kp_ok (by repeat (first | exact trivial | refine ⟨trivial, ?_⟩ | refine ⟨rfl, ?_⟩)), ?_⟩
 conv => whnf
 refine ⟨_, _, rr, kp_ok (by repeat (first | exact trivial | refine ⟨trivial, ?_⟩ | refine ⟨rfl, ?_⟩)), ?_⟩
 conv => whnf
 refine ⟨_, (fun _ => rr), ?_⟩
 conv => whnf
 refine Tr.seq ?_
 refine Tr.draw (DrawP.seqQ layOK mixed [(5, 3), (7, 3), (9, 3)] [(0, 7), (1, 7), (2, 8), (3, 8), (4, 6), (5, 0), (6, 6), (7, 0), (8, 6), (9, 0)] (by kernel_rfl) ?_)
 conv => whnf
 refine ⟨_, ⟨rfl, rfl, rr⟩, ?_⟩
 conv => whnf
 refine ⟨_, ⟨rfl, rfl, rr⟩, ?_⟩
 conv => whnf
 refine ⟨_, ⟨rfl, rfl, rr⟩, ?_⟩
 conv => whnf
 refine ⟨_, ⟨rfl, rfl, rr⟩, ?_⟩
 conv => whnf
 refine ⟨_, ⟨rfl, rfl, rr⟩, ?_⟩
 conv => whnf
 refine ⟨_, _, rr, kp_ok (by repeat (first | exact trivial | refine ⟨trivial, ?_⟩ | refine ⟨rfl, ?_⟩)), ?_⟩
 conv => whnf
 refine ⟨_, ⟨rfl, rfl, rr⟩, ?_⟩
 conv => whnf
 refine ⟨_, _, rr, kp_ok (by repeat (first | exact trivial | refine ⟨trivial, ?_⟩ | refine ⟨rfl, ?_⟩)), ?_⟩
 conv => whnf
 refine ⟨_, ⟨rfl, rfl, rr⟩, ?_⟩
 conv => whnf
 refine ⟨_, _, rr, kp_ok (by repeat (first | exact trivial | refine ⟨trivial, ?_⟩ | refine ⟨rfl, ?_⟩)), ?_⟩
 conv => whnf
 refine Tr.seq ?_
 refine Tr.seq ?_
 refine rg ?_
 conv => whnf
 refine cB h (fun hb31 h => ?_) (fun hb31 h => ?_)
 ·conv => whnf
  refine Tr.cond ?_
  conv => whnf
  refine cB h (fun hb32 h => ?_) (fun hb32 h => ?_)
  ·refine rg ?_
   conv => whnf
   refine Tr.seq ?_
   refine rg ?_
   conv => whnf
   refine Tr.ret ?_
   conv => whnf
   cases h
   rfl
  refine Tr.skip ?_
  conv => whnf
  refine Tr.seq ?_
  refine rg ?_
  conv => whnf
  refine Tr.ret ?_
  conv => whnf
  cases h
  rfl
 conv => whnf
 refine Tr.cond ?_
 conv => whnf
 refine Tr.skip ?_
 conv => whnf
 refine Tr.seq ?_
 refine rg ?_
 conv => whnf
 refine Tr.ret ?_
 conv => whnf
 cases h
 rfl
theorem P93 (f_1 : TField) (runner_2 : Int) (r_3 : TRank) (r_4 : Int) (h : M93 f_1 runner_2 = some (r_3, r_4)) :
    PC prog 19 [(eTField f_1), (.i .i64 runner_2)] (fun rs => rs = [(eTRank r_3), (.i .i64 r_4)]) := by
 refine PC.of_tr (cx := ⟨18, none, lay, 0⟩) layOK func19 rfl rfl rfl rfl rfl (by simp [f19]) ?_
 unfold M93 at h
 refine Tr.seq ?_
 refine rg ?_
 conv => whnf
 refine Tr.seq ?_
 refine Tr.seq ?_
 refine rg ?_
 conv => whnf
 refine orB_r ?_
 conv => whnf
 obtain ⟨r_5, hc6, h⟩ := bS h
 refine PC.ecall (P49 f_1 ((([runner_2] : List Int))) r_5 hc6) (fun rs hrs => ?_)
 subst hrs
 conv => whnf
 refine Tr.seq ?_
 refine rg ?_
 conv => whnf
 refine Tr.cond ?_
 conv => whnf
 refine cB h (fun hb7 h => ?_) (fun hb7 h => ?_)
 ·refine Tr.seq ?_
  refine rg ?_
  conv => whnf
  refine Tr.ret ?_
  conv => whnf
  cases h
  rfl
 refine Tr.skip ?_
 conv => whnf
 refine Tr.seq ?_
 refine rg ?_
 conv => whnf
 obtain ⟨r_8, hc9, h⟩ := bS h
 refine PC.ecall (P92 f_1 runner_2 r_8 hc9) (fun rs hrs => ?_)
 subst hrs
 conv => whnf
 refine Tr.ret ?_
 conv => whnf
 cases h
 rfl
theorem P94 (k_1 : Int) (c_2 : Int) (c_3 : List TSegment) (c_4 : List (List Int)) (c_5 : List TPair) (c_6 : List TRunner) (c_7 : Int) (r_8 : Int) (h : M94 k_1 c_2 c_3 c_4 c_5 c_6 c_7 = some r_8) :
    PC prog 131 [(.i .i64 k_1), (.ro [(.i .i64 c_2)]), (.ro [(.fn 101 []), (.fn 102 []), (.fn 103 []), (.fn 104 [])]), (.ro [(.ls (List.map eTSegment c_3)), (.ls (List.map (eL eI) c_4)), (.ls (List.map eTPair c_5)), (.ls (List.map eTRunner c_6))]), (.ro [(.i .i64 c_7)])] (fun rs => rs = [(.i .i64 r_8)]) := by
 refine PC.of_tr (cx := ⟨17, none, lay, 0⟩) layOK func131 rfl rfl rfl rfl rfl (by simp [f131]) ?_
 unfold M94 at h
 refine Tr.seq ?_
 refine rg ?_
 conv => whnf
 refine Tr.seq ?_
 refine Tr.draw (DrawP.seqQ layOK mixed [] [(0, 2), (1, 2), (2, 2), (3, 2), (4, 2), (5, 2), (6, 2), (7, 1), (8, 1), (9, 1), (10, 1)] (by kernel_rfl) ?_)
 conv => whnf
 refine ⟨_, ⟨rfl, rfl, rr⟩, ?_⟩
 conv => whnf
 refine ⟨_, ⟨rfl, rfl, rr⟩, ?_⟩
 conv => whnf
 refine ⟨_, ⟨rfl, rfl, rr⟩, ?_⟩
 conv => whnf
 refine ⟨_, ⟨rfl, rfl, rr⟩, ?_⟩
 conv => whnf
 refine ⟨_, ⟨rfl, rfl, rr⟩, ?_⟩
 conv => whnf
 refine ⟨_, ⟨rfl, rfl, rr⟩, ?_⟩
 conv => whnf
 refine ⟨_, ⟨rfl, rfl, rr⟩, ?_⟩
 conv => whnf
 refine ⟨_, (fun _ => rr), ?_⟩
 conv => whnf
 obtain ⟨r_9, hc10, h⟩ := bS h
 refine ⟨_, (fun _ => by (conv => whnf); (refine PC.ecall (P67 c_4 c_7 k_1 r_9 hc10) (fun rs hrs => ?_)); (subst hrs); (conv => whnf); (exact rr)), ?_⟩
 conv => whnf
 refine ⟨_, (fun _ => by (conv => whnf); (refine arS_raw ?_); (conv => whnf); (exact rr)), ?_⟩
 conv => whnf
 refine ⟨_, (fun _ => rr), ?_⟩
 conv => whnf
 refine Tr.ret ?_
 conv => whnf
 cases h
 rfl
theorem P99 (f_1 : TField) (runner_2 : Int) (p_3 : Tranks_place) (r_4 : THistory) (h : M99 f_1 runner_2 p_3 = some r_4) :
    PC prog 100 [(.ag [(.fn 101 []), (.fn 102 []), (.fn 103 []), (.fn 104 [])]), (eTField f_1), (.i .i64 runner_2), (eTranks_place p_3)] (fun rs => rs = [(eTHistory r_4)]) := by
 refine PC.of_tr (cx := ⟨123, none, lay, 0⟩) layOK func100 rfl rfl rfl rfl rfl (by simp [f100]) ?_
 unfold M99 at h
 refine Tr.seq ?_
 refine rg ?_
 conv => whnf
 refine Tr.seq ?_
 refine rg ?_
 conv => whnf
 refine orB_l ?_
 conv => whnf
 refine Tr.seq ?_
 refine Tr.draw (DrawP.seqQ layOK mixed [(15, 5)] [(0, 4), (1, 4), (2, 1), (3, 2), (4, 2), (5, 2), (6, 5), (7, 5), (8, 2), (9, 2), (10, 5), (11, 5), (12, 2), (13, 2), (14, 0), (15, 0)] (by kernel_rfl) ?_)
 conv => whnf
 refine ⟨_, ⟨rfl, rfl, rr⟩, ?_⟩
 conv => whnf
 refine ⟨_, ⟨rfl, rfl, rr⟩, ?_⟩
 conv => whnf
 refine ⟨_, (fun _ => rr), ?_⟩
 conv => whnf
 obtain ⟨x_5, hx_5, h⟩ := bS h
 refine ⟨_, ⟨rfl, rfl, (by (conv => whnf); (refine ixP_of hx_5 ?_); (conv => whnf); (exact rr))⟩, ?_⟩
 conv => whnf
 refine ⟨_, ⟨rfl, rfl, rr⟩, ?_⟩
 conv => whnf
 refine ⟨_, ⟨rfl, rfl, rr⟩, ?_⟩
 conv => whnf
 refine ⟨_, ⟨rfl, rfl, rr⟩, ?_⟩
 conv => whnf
 refine ⟨_, ⟨rfl, rfl, rr⟩, ?_⟩
 conv => whnf
 obtain ⟨x_6, hx_6, h⟩ := bS h
 refine ⟨_, ⟨rfl, rfl, (by (conv => whnf); (refine ixP_of hx_6 ?_); (conv => whnf); (exact rr))⟩, ?_⟩
 conv => whnf
 refine ⟨_, ⟨rfl, rfl, rr⟩, ?_⟩
 conv => whnf
 refine ⟨_, ⟨rfl, rfl, rr⟩, ?_⟩
 conv => whnf
 refine ⟨_, ⟨rfl, rfl, rr⟩, ?_⟩
 conv => whnf
 obtain ⟨x_7, hx_7, h⟩ := bS h
 refine ⟨_, ⟨rfl, rfl, (by (conv => whnf); (refine ixP_of hx_7 ?_); (conv => whnf); (exact rr))⟩, ?_⟩
 conv => whnf
 refine ⟨_, ⟨rfl, rfl, rr⟩, ?_⟩
 conv => whnf
 refine ⟨_, _, rr, kp_ok (by repeat (first | exact trivial | refine ⟨trivial, ?_⟩ | refine ⟨rfl, ?_⟩)), ?_⟩
 conv => whnf
 refine ⟨_, _, rr, kp_ok (by repeat (first | exact trivial | refine ⟨trivial, ?_⟩ | refine ⟨rfl, ?_⟩)), ?_⟩
 conv => whnf
 refine Tr.seq ?_
 refine rg ?_
 conv => whnf
 refine arS_raw ?_
 conv => whnf
 refine Tr.seq ?_
 refine rg ?_
 conv => whnf
 refine Tr.seq ?_
 refine Tr.seq ?_
 refine rg ?_
 conv => whnf
 refine Tr.cond ?_
 conv => whnf
 refine cB h (fun hb8 h => ?_) (fun hb8 h => ?_)
 ·refine rg ?_
  conv => whnf
  obtain ⟨r_9, hc10, h⟩ := bS h
  refine PC.ecall (P67 f_1.Clocks.Far ((w64 (x_7.Seg + 1))) 0 r_9 hc10) (fun rs hrs => ?_)
  subst hrs
  conv => whnf
  refine arS_raw ?_
  conv => whnf
  refine Tr.seq ?_
  refine rg ?_
  conv => whnf
  refine Tr.seq ?_
  refine Tr.seq ?_
  refine rg ?_
  conv => whnf
  refine lnS_map ?_
  conv => whnf
  obtain ⟨l_16, hv23, h⟩ := bS h
  refine Tr.cutQ1 ([(2, (dI runner_2)), (4, .pt 0 0), (5, .pt 1 0), (7, .pt 2 0), (8, .pt 3 0), (9, .pt 4 0), (10, .pt 5 0)]) ([some (.var [.d (.fn 101 []), .d (.fn 102 []), .d (.fn 103 []), .d (.fn 104 [])]), some (.var [.d (.ls (List.map eTSegment f_1.Clocks.Segments)), .d (.ls (List.map (eL eI) f_1.Clocks.Far)), .d (.ls (List.map eTPair f_1.Pairs)), .d (.ls (List.map eTRunner f_1.Runners))]), some (.var [(dI p_3.world), (dI p_3.outcome), (dI p_3.rank)]), some (.var [(dI 0), .nsl, .nsl]), some (.var [(dI p_3.world), .sl 6 1 0 (List.length l_16), .nsl]), some (.var [.d (.b x_7.Out), (dI x_7.Seg), (dI x_7.Lo), (dI x_7.Hi)]), some (.arr 1 (List.map .d (List.map eI l_16)))]) ?_ (fun T1 H1 hw => ?_)
  ·replace h := hv23; clear hv23
   refine Tr.block ?_
   refine Tr.loopM (σ := Int × List Int) (fun n s => M95 f_1 x_7 r_9 n s.1 s.2) l_16 (fun s => ([(2, (dI runner_2)), (4, .pt 0 0), (5, .pt 1 0), (7, .pt 2 0), (8, .pt 3 0), (9, .pt 4 0), (10, .pt 5 0), (13, .fn 131 [.pt 6 0, .pt 0 0, .pt 1 0, .pt 7 0]), (54, (dI (((f_1.Clocks.Segments).length : Int)))), (55, (dI s.1))], [some (.var [.d (.fn 101 []), .d (.fn 102 []), .d (.fn 103 []), .d (.fn 104 [])]), some (.var [.d (.ls (List.map eTSegment f_1.Clocks.Segments)), .d (.ls (List.map (eL eI) f_1.Clocks.Far)), .d (.ls (List.map eTPair f_1.Pairs)), .d (.ls (List.map eTRunner f_1.Runners))]), some (.var [(dI p_3.world), (dI p_3.outcome), (dI p_3.rank)]), some (.var [(dI 0), .nsl, .nsl]), some (.var [(dI p_3.world), .sl 8 1 0 (List.length s.2), .nsl]), some (.var [.d (.b x_7.Out), (dI x_7.Seg), (dI x_7.Lo), (dI x_7.Hi)]), some (.var [(dI (w64 (0 - r_9)))]), some (.var [(dI (w64 (x_7.Seg + 1)))]), some (.arr 1 (List.map .d (List.map eI s.2)))])) (((((f_1.Clocks.Segments).length : Int)) - 0 : Int).toNat + 1) (0, (([] : List Int))) h (fun s => rfl) (Wk.mk2 [0, 1, 2, 3, 4, 5, 7, 6, 8] 8 rfl rfl (by decide) rfl ⟨rr, rr, rr, rr, ⟨rfl, (by first | rfl | (simp only [↓hb8, bl]; done) | (simp only [↓hb8, bl]; rfl))⟩, rr, rr, rr, rfl, trivial⟩ ⟨rr, rr, rr, rr, rr, rr, rr, ⟨rfl, (by first | rfl | (simp only [↓hb8, bl]; done) | (simp only [↓hb8, bl]; rfl))⟩, rr, rr, trivial⟩) ?_
   clear h
   rintro n_15 ⟨v_13, l_14⟩ h
   replace h : M95 f_1 x_7 r_9 (n_15 + 1) v_13 l_14 = some l_16 := h
   rw [M95] at h
   refine Tr.seq ?_
   refine rg ?_
   conv => whnf
   refine Tr.seq ?_
   refine Tr.cond ?_
   conv => whnf
   refine cB h (fun hb19 h => ?_) (fun hb19 h => ?_)
   ·refine Tr.skip ?_
    conv => whnf
    refine Tr.seq ?_
    refine Tr.block ?_
    refine Tr.seq ?_
    refine rg ?_
    conv => whnf
    refine Tr.draw (DrawP.seqQ layOK mixed [(7, 8), (9, 4)] [(0, 7), (1, 7), (2, 1), (3, 1), (4, 1), (5, 0), (6, 1), (7, 0), (8, 7), (9, 0)] (by kernel_rfl) ?_)
    conv => whnf
    refine ⟨_, ⟨rfl, rfl, rr⟩, ?_⟩
    conv => whnf
    refine ⟨_, ⟨rfl, rfl, rr⟩, ?_⟩
    conv => whnf
    refine ⟨_, (fun _ => rr), ?_⟩
    conv => whnf
    refine ⟨_, (fun _ => rr), ?_⟩
    conv => whnf
    refine ⟨_, (fun _ => by (conv => whnf); (refine arS_raw ?_); (conv => whnf); (exact rr)), ?_⟩
    conv => whnf
    obtain ⟨r_20, hc21, h⟩ := bS h
    refine ⟨_, _, (by (conv => whnf); (refine PC.ecall_lend ?_ ⟨_, _, func131, rfl, rfl⟩); (conv => whnf); (refine ⟨_, P94 ((w64 (v_13 + 1))) ((w64 (0 - r_9))) f_1.Clocks.Segments f_1.Clocks.Far f_1.Pairs f_1.Runners ((w64 (x_7.Seg + 1))) r_20 hc21, fun rs hrs => ?_⟩); (subst hrs); (refine ⟨rfl, ?_⟩); (conv => whnf); (exact rr)), kp_ok (by repeat (first | exact trivial | refine ⟨trivial, ?_⟩ | refine ⟨rfl, ?_⟩)), ?_⟩
    conv => whnf
    refine ⟨_, (fun _ => by (conv => whnf); (refine orB_r ?_); (conv => whnf); (exact rr)), ?_⟩
    conv => whnf
    obtain ⟨l_22, hl_22, h⟩ := bS h
    refine ⟨_, _, (by (conv => whnf); (refine frP_no ?_); (conv => whnf); (refine eqS_mk (by first | rfl | simp) ?_); (conv => whnf); (refine apS_of hl_22 (aQ (f := eI) (l := (([r_20] : List Int))) fun _ => rfl) (by first | rfl | simp) (by first | rfl | simp) (fun he => ?_)); (conv => whnf); (refine rS (es' := List.map .d (List.map eI l_22)) (n' := List.length l_22) (by subst he; simp only [List.map_append, List.map_cons, List.map_nil, List.nil_append]; first | done | rfl) (by subst he; simp <;> omega) ?_); (clear he); (conv => whnf); (exact rr)), kp_ok (by repeat (first | exact trivial | refine ⟨trivial, ?_⟩ | refine ⟨rfl, ?_⟩)), ?_⟩
    conv => whnf
    refine ⟨_, ⟨rfl, rfl, rr⟩, ?_⟩
    conv => whnf
    refine ⟨_, _, (by (conv => whnf); (refine orB_l ?_); (conv => whnf); (exact rr)), kp_ok (by repeat (first | exact trivial | refine ⟨trivial, ?_⟩ | refine ⟨rfl, ?_⟩)), ?_⟩
    conv => whnf
    refine rg ?_
    conv => whnf
    refine arS_raw ?_
    conv => whnf
    refine ⟨((w64 (v_13 + 1)), l_22), h, ?_⟩
    exact Wk.mk2 [0, 1, 2, 3, 4, 5, 6, 7, 9] 10 rfl rfl (by decide) rfl ⟨rr, rr, rr, rr, ⟨rfl, (by first | rfl | (simp only [↓hb8, ↓hb19, bl]; done) | (simp only [↓hb8, ↓hb19, bl]; rfl))⟩, rr, rr, rr, daS_d rfl, trivial⟩ ⟨rr, rr, rr, rr, rr, rr, rr, rr, rr, rr, trivial⟩
   refine Tr.exit ?_
   conv => whnf
   cases h
   exact Wk.mk2 [0, 1, 2, 3, 4, 5, 8] 9 rfl rfl (by decide) rfl ⟨rr, rr, rr, rr, ⟨rfl, (by first | rfl | (simp only [↓hb8, ↓hb19, bl]; done) | (simp only [↓hb8, ↓hb19, bl]; rfl))⟩, rr, daS_d rfl, trivial⟩ ⟨rr, rr, rr, rr, rr, rr, rr, trivial⟩
  clear hv23
  conv => whnf
  refine Tr.weak hw ?_
  refine Tr.seq ?_
  refine Tr.seq ?_
  refine rg ?_
  conv => whnf
  refine lnS_map ?_
  conv => whnf
  obtain ⟨l_29, hv54, h⟩ := bS h
  refine Tr.cutQ1 ([(8, .pt 0 0), (9, .pt 1 0)]) ([some (.var [(dI 0), .nsl, .nsl]), some (.var [(dI p_3.world), .sl 2 1 0 (List.length l_16), .sl 3 2 0 (List.length l_29)]), some (.arr 1 (List.map .d (List.map eI l_16))), some (.arr 2 (List.map .d (List.map eTChoice l_29)))]) ?_ (fun T1 H1 hw => ?_)
  ·replace h := hv54; clear hv54
   refine Tr.block ?_
   refine Tr.loopM (σ := Int × List TChoice) (fun n s => M96 f_1 runner_2 p_3 x_7 n s.1 s.2) l_29 (fun s => ([(2, (dI runner_2)), (4, .pt 0 0), (5, .pt 1 0), (7, .pt 2 0), (8, .pt 3 0), (9, .pt 4 0), (10, .pt 5 0), (69, .d (.ls (List.map eTRunner f_1.Runners))), (70, (dI (((f_1.Runners).length : Int)))), (71, (dI s.1))], [some (.var [.d (.fn 101 []), .d (.fn 102 []), .d (.fn 103 []), .d (.fn 104 [])]), some (.var [.d (.ls (List.map eTSegment f_1.Clocks.Segments)), .d (.ls (List.map (eL eI) f_1.Clocks.Far)), .d (.ls (List.map eTPair f_1.Pairs)), .d (.ls (List.map eTRunner f_1.Runners))]), some (.var [(dI p_3.world), (dI p_3.outcome), (dI p_3.rank)]), some (.var [(dI 0), .nsl, .nsl]), some (.var [(dI p_3.world), .sl 6 1 0 (List.length l_16), .sl 7 2 0 (List.length s.2)]), some (.var [.d (.b x_7.Out), (dI x_7.Seg), (dI x_7.Lo), (dI x_7.Hi)]), some (.arr 1 (List.map .d (List.map eI l_16))), some (.arr 2 (List.map .d (List.map eTChoice s.2)))])) (((((f_1.Runners).length : Int)) - 0 : Int).toNat + 1) (0, (([] : List TChoice))) h (fun s => rfl) (Wk.mk2 [0, 1, 2, 3, 4, 5, 6, 7] 7 rfl rfl (by decide) rfl ⟨rr, rr, rr, rr, ⟨rfl, (by first | rfl | (simp only [↓hb8, bl]; done) | (simp only [↓hb8, bl]; rfl))⟩, rr, daS_d rfl, rfl, trivial⟩ ⟨rr, rr, rr, rr, rr, rr, rr, rr, rr, rr, trivial⟩) ?_
   clear h
   rintro n_28 ⟨v_26, l_27⟩ h
   replace h : M96 f_1 runner_2 p_3 x_7 (n_28 + 1) v_26 l_27 = some l_29 := h
   rw [M96] at h
   refine Tr.seq ?_
   refine rg ?_
   conv => whnf
   refine Tr.seq ?_
   refine Tr.cond ?_
   conv => whnf
   refine cB h (fun hb32 h => ?_) (fun hb32 h => ?_)
   ·refine Tr.skip ?_
    conv => whnf
    refine Tr.seq ?_
    obtain ⟨l_33, hv34, h⟩ := bS h
    refine Tr.cutQ1 ([(2, (dI runner_2)), (4, .pt 0 0), (5, .pt 1 0), (7, .pt 2 0), (8, .pt 3 0), (9, .pt 4 0), (10, .pt 5 0), (69, .d (.ls (List.map eTRunner f_1.Runners))), (70, (dI (((f_1.Runners).length : Int)))), (71, (dI v_26))]) ([some (.var [.d (.fn 101 []), .d (.fn 102 []), .d (.fn 103 []), .d (.fn 104 [])]), some (.var [.d (.ls (List.map eTSegment f_1.Clocks.Segments)), .d (.ls (List.map (eL eI) f_1.Clocks.Far)), .d (.ls (List.map eTPair f_1.Pairs)), .d (.ls (List.map eTRunner f_1.Runners))]), some (.var [(dI p_3.world), (dI p_3.outcome), (dI p_3.rank)]), some (.var [(dI 0), .nsl, .nsl]), some (.var [(dI p_3.world), .sl 6 1 0 (List.length l_16), .sl 7 2 0 (List.length l_33)]), some (.var [.d (.b x_7.Out), (dI x_7.Seg), (dI x_7.Lo), (dI x_7.Hi)]), some (.arr 1 (List.map .d (List.map eI l_16))), some (.arr 2 (List.map .d (List.map eTChoice l_33)))]) ?_ (fun T1 H1 hw => ?_)
    ·replace h := hv34; clear hv34
     refine Tr.block ?_
     refine Tr.seq ?_
     refine rg ?_
     conv => whnf
     obtain ⟨x_35, hx_35, h⟩ := bS h
     refine ixP_of hx_35 ?_
     conv => whnf
     refine Tr.seq ?_
     refine rg ?_
     conv => whnf
     refine Tr.seq ?_
     refine rg ?_
     conv => whnf
     refine Tr.seq ?_
     refine Tr.seq ?_
     refine rg ?_
     conv => whnf
     refine Tr.cond ?_
     conv => whnf
     refine cB h (fun hb36 h => ?_) (fun hb36 h => ?_)
     ·refine Tr.seq ?_
      refine rg ?_
      conv => whnf
      obtain ⟨⟨r_37, r_38⟩, hc39, h⟩ := bS h
      refine PC.ecall (P75 f_1 p_3.world runner_2 x_7 v_26 r_37 r_38 hc39) (fun rs hrs => ?_)
      subst hrs
      conv => whnf
      refine rg ?_
      conv => whnf
      refine Tr.seq ?_
      refine Tr.seq ?_
      refine Tr.draw (DrawP.seqQ layOK mixed [(11, 10)] [(0, 11), (1, 11), (2, 5), (3, 5), (4, 2), (5, 2), (6, 12), (7, 12), (8, 2), (9, 2), (10, 0), (11, 0)] (by kernel_rfl) ?_)
      conv => whnf
      refine ⟨_, ⟨rfl, rfl, rr⟩, ?_⟩
      conv => whnf
      refine ⟨_, ⟨rfl, rfl, rr⟩, ?_⟩
      conv => whnf
      refine ⟨_, ⟨rfl, rfl, rr⟩, ?_⟩
      conv => whnf
      refine ⟨_, ⟨rfl, rfl, rr⟩, ?_⟩
      conv => whnf
      obtain ⟨x_40, hx_40, h⟩ := bS h
      refine ⟨_, ⟨rfl, rfl, (by (conv => whnf); (refine ixP_of hx_40 ?_); (conv => whnf); (exact rr))⟩, ?_⟩
      conv => whnf
      refine ⟨_, ⟨rfl, rfl, rr⟩, ?_⟩
      conv => whnf
      refine ⟨_, ⟨rfl, rfl, rr⟩, ?_⟩
      conv => whnf
      refine ⟨_, ⟨rfl, rfl, rr⟩, ?_⟩
      conv => whnf
      obtain ⟨x_41, hx_41, h⟩ := bS h
      refine ⟨_, ⟨rfl, rfl, (by (conv => whnf); (refine ixP_of hx_41 ?_); (conv => whnf); (exact rr))⟩, ?_⟩
      conv => whnf
      refine ⟨_, ⟨rfl, rfl, rr⟩, ?_⟩
      conv => whnf
      refine ⟨_, _, rr, kp_ok (by repeat (first | exact trivial | refine ⟨trivial, ?_⟩ | refine ⟨rfl, ?_⟩)), ?_⟩
      conv => whnf
      refine ⟨_, _, rr, kp_ok (by repeat (first | exact trivial | refine ⟨trivial, ?_⟩ | refine ⟨rfl, ?_⟩)), ?_⟩
      conv => whnf
      refine Tr.seq ?_
      refine rg ?_
      conv => whnf
      refine Tr.cond ?_
      conv => whnf
      refine cB h (fun hb42 h => ?_) (fun hb42 h => ?_)
      ·refine rg ?_
       conv => whnf
       obtain ⟨r_43, hc44, h⟩ := bS h
       refine PC.ecall (P66 x_41 r_43 hc44) (fun rs hrs => ?_)
       subst hrs
       conv => whnf
       refine rg ?_
       conv => whnf
       refine orB_r ?_
       conv => whnf
       refine frP_no ?_
       conv => whnf
       refine eqS_mk (by first | rfl | simp) ?_
       conv => whnf
       obtain ⟨l_45, hl_45, h⟩ := bS h
       refine apS_of hl_45 (aQ (f := eTChoice) (l := (([({ Outcome := r_37, X := r_43 } : TChoice)] : List TChoice))) fun _ => rfl) (by first | rfl | simp) (by first | rfl | simp) (fun he => ?_)
       conv => whnf
       refine rS (es' := List.map .d (List.map eTChoice l_45)) (n' := List.length l_45) (by subst he; simp only [List.map_append, List.map_cons, List.map_nil, List.nil_append]; first | done | rfl) (by subst he; simp <;> omega) ?_
       clear he
       conv => whnf
       refine orB_l ?_
       conv => whnf
       cases h
       exact Wk.mk2 [0, 1, 2, 3, 4, 5, 6, 11] 12 rfl rfl (by decide) rfl ⟨rr, rr, rr, rr, ⟨rfl, (by first | rfl | (simp only [↓hb8, ↓hb32, ↓hb36, ↓hb42, bl]; done) | (simp only [↓hb8, ↓hb32, ↓hb36, ↓hb42, bl]; rfl))⟩, rr, daS_d rfl, daS_d rfl, trivial⟩ ⟨rr, rr, rr, rr, rr, rr, rr, rr, rr, rr, trivial⟩
      refine Tr.skip ?_
      conv => whnf
      refine rg ?_
      conv => whnf
      refine orB_r ?_
      conv => whnf
      refine frP_no ?_
      conv => whnf
      refine eqS_mk (by first | rfl | simp) ?_
      conv => whnf
      obtain ⟨l_46, hl_46, h⟩ := bS h
      refine apS_of hl_46 (aQ (f := eTChoice) (l := (([({ Outcome := r_37, X := 0 } : TChoice)] : List TChoice))) fun _ => rfl) (by first | rfl | simp) (by first | rfl | simp) (fun he => ?_)
      conv => whnf
      refine rS (es' := List.map .d (List.map eTChoice l_46)) (n' := List.length l_46) (by subst he; simp only [List.map_append, List.map_cons, List.map_nil, List.nil_append]; first | done | rfl) (by subst he; simp <;> omega) ?_
      clear he
      conv => whnf
      refine orB_l ?_
      conv => whnf
      cases h
      exact Wk.mk2 [0, 1, 2, 3, 4, 5, 6, 11] 12 rfl rfl (by decide) rfl ⟨rr, rr, rr, rr, ⟨rfl, (by first | rfl | (simp only [↓hb8, ↓hb32, ↓hb36, ↓hb42, bl]; done) | (simp only [↓hb8, ↓hb32, ↓hb36, ↓hb42, bl]; rfl))⟩, rr, daS_d rfl, daS_d rfl, trivial⟩ ⟨rr, rr, rr, rr, rr, rr, rr, rr, rr, rr, trivial⟩
     refine Tr.skip ?_
     conv => whnf
     refine Tr.seq ?_
     refine Tr.seq ?_
     refine Tr.draw (DrawP.seqQ layOK mixed [(11, 10)] [(0, 11), (1, 11), (2, 5), (3, 5), (4, 2), (5, 2), (6, 12), (7, 12), (8, 2), (9, 2), (10, 0), (11, 0)] (by kernel_rfl) ?_)
     conv => whnf
     refine ⟨_, ⟨rfl, rfl, rr⟩, ?_⟩
     conv => whnf
     refine ⟨_, ⟨rfl, rfl, rr⟩, ?_⟩
     conv => whnf
     refine ⟨_, ⟨rfl, rfl, rr⟩, ?_⟩
     conv => whnf
     refine ⟨_, ⟨rfl, rfl, rr⟩, ?_⟩
     conv => whnf
     obtain ⟨x_47, hx_47, h⟩ := bS h
     refine ⟨_, ⟨rfl, rfl, (by (conv => whnf); (refine ixP_of hx_47 ?_); (conv => whnf); (exact rr))⟩, ?_⟩
     conv => whnf
     refine ⟨_, ⟨rfl, rfl, rr⟩, ?_⟩
     conv => whnf
     refine ⟨_, ⟨rfl, rfl, rr⟩, ?_⟩
     conv => whnf
     refine ⟨_, ⟨rfl, rfl, rr⟩, ?_⟩
     conv => whnf
     obtain ⟨x_48, hx_48, h⟩ := bS h
     refine ⟨_, ⟨rfl, rfl, (by (conv => whnf); (refine ixP_of hx_48 ?_); (conv => whnf); (exact rr))⟩, ?_⟩
     conv => whnf
     refine ⟨_, ⟨rfl, rfl, rr⟩, ?_⟩
     conv => whnf
     refine ⟨_, _, rr, kp_ok (by repeat (first | exact trivial | refine ⟨trivial, ?_⟩ | refine ⟨rfl, ?_⟩)), ?_⟩
     conv => whnf
     refine ⟨_, _, rr, kp_ok (by repeat (first | exact trivial | refine ⟨trivial, ?_⟩ | refine ⟨rfl, ?_⟩)), ?_⟩
     conv => whnf
     refine Tr.seq ?_
     refine rg ?_
     conv => whnf
     refine Tr.cond ?_
     conv => whnf
     refine cB h (fun hb49 h => ?_) (fun hb49 h => ?_)
     ·refine rg ?_
      conv => whnf
      obtain ⟨r_50, hc51, h⟩ := bS h
      refine PC.ecall (P68 x_48 r_50 hc51) (fun rs hrs => ?_)
      subst hrs
      conv => whnf
      refine rg ?_
      conv => whnf
      refine orB_r ?_
      conv => whnf
      refine frP_no ?_
      conv => whnf
      refine eqS_mk (by first | rfl | simp) ?_
      conv => whnf
      obtain ⟨l_52, hl_52, h⟩ := bS h
      refine apS_of hl_52 (aQ (f := eTChoice) (l := (([({ Outcome := p_3.outcome, X := r_50 } : TChoice)] : List TChoice))) fun _ => rfl) (by first | rfl | simp) (by first | rfl | simp) (fun he => ?_)
      conv => whnf
      refine rS (es' := List.map .d (List.map eTChoice l_52)) (n' := List.length l_52) (by subst he; simp only [List.map_append, List.map_cons, List.map_nil, List.nil_append]; first | done | rfl) (by subst he; simp <;> omega) ?_
      clear he
      conv => whnf
      refine orB_l ?_
      conv => whnf
      cases h
      exact Wk.mk2 [0, 1, 2, 3, 4, 5, 6, 11] 12 rfl rfl (by decide) rfl ⟨rr, rr, rr, rr, ⟨rfl, (by first | rfl | (simp only [↓hb8, ↓hb32, ↓hb36, ↓hb49, bl]; done) | (simp only [↓hb8, ↓hb32, ↓hb36, ↓hb49, bl]; rfl))⟩, rr, daS_d rfl, daS_d rfl, trivial⟩ ⟨rr, rr, rr, rr, rr, rr, rr, rr, rr, rr, trivial⟩
     refine Tr.skip ?_
     conv => whnf
     refine rg ?_
     conv => whnf
     refine orB_r ?_
     conv => whnf
     refine frP_no ?_
     conv => whnf
     refine eqS_mk (by first | rfl | simp) ?_
     conv => whnf
     obtain ⟨l_53, hl_53, h⟩ := bS h
     refine apS_of hl_53 (aQ (f := eTChoice) (l := (([({ Outcome := p_3.outcome, X := 0 } : TChoice)] : List TChoice))) fun _ => rfl) (by first | rfl | simp) (by first | rfl | simp) (fun he => ?_)
     conv => whnf
     refine rS (es' := List.map .d (List.map eTChoice l_53)) (n' := List.length l_53) (by subst he; simp only [List.map_append, List.map_cons, List.map_nil, List.nil_append]; first | done | rfl) (by subst he; simp <;> omega) ?_
     clear he
     conv => whnf
     refine orB_l ?_
     conv => whnf
     cases h
     exact Wk.mk2 [0, 1, 2, 3, 4, 5, 6, 11] 12 rfl rfl (by decide) rfl ⟨rr, rr, rr, rr, ⟨rfl, (by first | rfl | (simp only [↓hb8, ↓hb32, ↓hb36, ↓hb49, bl]; done) | (simp only [↓hb8, ↓hb32, ↓hb36, ↓hb49, bl]; rfl))⟩, rr, daS_d rfl, daS_d rfl, trivial⟩ ⟨rr, rr, rr, rr, rr, rr, rr, rr, rr, rr, trivial⟩
    clear hv34
    conv => whnf
    refine Tr.weak hw ?_
    refine rg ?_
    conv => whnf
    refine arS_raw ?_
    conv => whnf
    refine ⟨((w64 (v_26 + 1)), l_33), h, ?_⟩
    exact Wk.mk2 [0, 1, 2, 3, 4, 5, 6, 7] 8 rfl rfl (by decide) rfl ⟨rr, rr, rr, rr, rr, rr, daS_d rfl, daS_d rfl, trivial⟩ ⟨rr, rr, rr, rr, rr, rr, rr, rr, rr, rr, trivial⟩
   refine Tr.exit ?_
   conv => whnf
   cases h
   exact Wk.mk2 [3, 4, 6, 7] 8 rfl rfl (by decide) rfl ⟨rr, ⟨rfl, (by first | rfl | (simp only [↓hb8, ↓hb32, bl]; done) | (simp only [↓hb8, ↓hb32, bl]; rfl))⟩, daS_d rfl, daS_d rfl, trivial⟩ ⟨⟨rfl, (by first | rfl | (simp only [↓hb8, ↓hb32, bl]; done) | (simp only [↓hb8, ↓hb32, bl]; rfl))⟩, ⟨rfl, (by first | rfl | (simp only [↓hb8, ↓hb32, bl]; done) | (simp only [↓hb8, ↓hb32, bl]; rfl))⟩, trivial⟩
  clear hv54
  conv => whnf
  refine Tr.weak hw ?_
  refine Tr.seq ?_
  refine rg ?_
  conv => whnf
  refine orB_l ?_
  conv => whnf
  refine Tr.ret ?_
  conv => whnf
  refine frE_of (f := eI) (l := l_16) rfl ?_
  conv => whnf
  refine frE_of (f := eTChoice) (l := l_29) rfl ?_
  conv => whnf
  cases h
  rfl
 refine Tr.skip ?_
 conv => whnf
 refine Tr.seq ?_
 refine rg ?_
 conv => whnf
 refine Tr.seq ?_
 refine Tr.seq ?_
 refine rg ?_
 conv => whnf
 refine lnS_map ?_
 conv => whnf
 obtain ⟨l_60, hv67, h⟩ := bS h
 refine Tr.cutQ1 ([(2, (dI runner_2)), (4, .pt 0 0), (5, .pt 1 0), (7, .pt 2 0), (8, .pt 3 0), (9, .pt 4 0), (10, .pt 5 0)]) ([some (.var [.d (.fn 101 []), .d (.fn 102 []), .d (.fn 103 []), .d (.fn 104 [])]), some (.var [.d (.ls (List.map eTSegment f_1.Clocks.Segments)), .d (.ls (List.map (eL eI) f_1.Clocks.Far)), .d (.ls (List.map eTPair f_1.Pairs)), .d (.ls (List.map eTRunner f_1.Runners))]), some (.var [(dI p_3.world), (dI p_3.outcome), (dI p_3.rank)]), some (.var [(dI 0), .nsl, .nsl]), some (.var [(dI p_3.world), .sl 6 1 0 (List.length l_60), .nsl]), some (.var [.d (.b x_7.Out), (dI x_7.Seg), (dI x_7.Lo), (dI x_7.Hi)]), some (.arr 1 (List.map .d (List.map eI l_60)))]) ?_ (fun T1 H1 hw => ?_)
 ·replace h := hv67; clear hv67
  refine Tr.block ?_
  refine Tr.loopM (σ := Int × List Int) (fun n s => M97 f_1 x_7 n s.1 s.2) l_60 (fun s => ([(2, (dI runner_2)), (4, .pt 0 0), (5, .pt 1 0), (7, .pt 2 0), (8, .pt 3 0), (9, .pt 4 0), (10, .pt 5 0), (13, .fn 131 [.pt 6 0, .pt 0 0, .pt 1 0, .pt 7 0]), (54, (dI (((f_1.Clocks.Segments).length : Int)))), (55, (dI s.1))], [some (.var [.d (.fn 101 []), .d (.fn 102 []), .d (.fn 103 []), .d (.fn 104 [])]), some (.var [.d (.ls (List.map eTSegment f_1.Clocks.Segments)), .d (.ls (List.map (eL eI) f_1.Clocks.Far)), .d (.ls (List.map eTPair f_1.Pairs)), .d (.ls (List.map eTRunner f_1.Runners))]), some (.var [(dI p_3.world), (dI p_3.outcome), (dI p_3.rank)]), some (.var [(dI 0), .nsl, .nsl]), some (.var [(dI p_3.world), .sl 8 1 0 (List.length s.2), .nsl]), some (.var [.d (.b x_7.Out), (dI x_7.Seg), (dI x_7.Lo), (dI x_7.Hi)]), some (.var [(dI 0)]), some (.var [(dI (w64 (x_7.Seg + 1)))]), some (.arr 1 (List.map .d (List.map eI s.2)))])) (((((f_1.Clocks.Segments).length : Int)) - 0 : Int).toNat + 1) (0, (([] : List Int))) h (fun s => rfl) (Wk.mk2 [0, 1, 2, 3, 4, 5, 7, 6, 8] 8 rfl rfl (by decide) rfl ⟨rr, rr, rr, rr, ⟨rfl, (by first | rfl | (simp only [↓hb8, bl]; done) | (simp only [↓hb8, bl]; rfl))⟩, rr, rr, rr, rfl, trivial⟩ ⟨rr, rr, rr, rr, rr, rr, rr, ⟨rfl, (by first | rfl | (simp only [↓hb8, bl]; done) | (simp only [↓hb8, bl]; rfl))⟩, rr, rr, trivial⟩) ?_
  clear h
  rintro n_59 ⟨v_57, l_58⟩ h
  replace h : M97 f_1 x_7 (n_59 + 1) v_57 l_58 = some l_60 := h
  rw [M97] at h
  refine Tr.seq ?_
  refine rg ?_
  conv => whnf
  refine Tr.seq ?_
  refine Tr.cond ?_
  conv => whnf
  refine cB h (fun hb63 h => ?_) (fun hb63 h => ?_)
  ·refine Tr.skip ?_
   conv => whnf
   refine Tr.seq ?_
   refine Tr.block ?_
   refine Tr.seq ?_
   refine rg ?_
   conv => whnf
   refine Tr.draw (DrawP.seqQ layOK mixed [(7, 8), (9, 4)] [(0, 7), (1, 7), (2, 1), (3, 1), (4, 1), (5, 0), (6, 1), (7, 0), (8, 7), (9, 0)] (by kernel_rfl) ?_)
   conv => whnf
   refine ⟨_, ⟨rfl, rfl, rr⟩, ?_⟩
   conv => whnf
   refine ⟨_, ⟨rfl, rfl, rr⟩, ?_⟩
   conv => whnf
   refine ⟨_, (fun _ => rr), ?_⟩
   conv => whnf
   refine ⟨_, (fun _ => rr), ?_⟩
   conv => whnf
   refine ⟨_, (fun _ => by (conv => whnf); (refine arS_raw ?_); (conv => whnf); (exact rr)), ?_⟩
   conv => whnf
   obtain ⟨r_64, hc65, h⟩ := bS h
   refine ⟨_, _, (by (conv => whnf); (refine PC.ecall_lend ?_ ⟨_, _, func131, rfl, rfl⟩); (conv => whnf); (refine ⟨_, P94 ((w64 (v_57 + 1))) 0 f_1.Clocks.Segments f_1.Clocks.Far f_1.Pairs f_1.Runners ((w64 (x_7.Seg + 1))) r_64 hc65, fun rs hrs => ?_⟩); (subst hrs); (refine ⟨rfl, ?_⟩); (conv => whnf); (exact rr)), kp_ok (by repeat (first | exact trivial | refine ⟨trivial, ?_⟩ | refine ⟨rfl, ?_⟩)), ?_⟩
   conv => whnf
   refine ⟨_, (fun _ => by (conv => whnf); (refine orB_r ?_); (conv => whnf); (exact rr)), ?_⟩
   conv => whnf
   obtain ⟨l_66, hl_66, h⟩ := bS h
   refine ⟨_, _, (by (conv => whnf); (refine frP_no ?_); (conv => whnf); (refine eqS_mk (by first | rfl | simp) ?_); (conv => whnf); (refine apS_of hl_66 (aQ (f := eI) (l := (([r_64] : List Int))) fun _ => rfl) (by first | rfl | simp) (by first | rfl | simp) (fun he => ?_)); (conv => whnf); (refine rS (es' := List.map .d (List.map eI l_66)) (n' := List.length l_66) (by subst he; simp only [List.map_append, List.map_cons, List.map_nil, List.nil_append]; first | done | rfl) (by subst he; simp <;> omega) ?_); (clear he); (conv => whnf); (exact rr)), kp_ok (by repeat (first | exact trivial | refine ⟨trivial, ?_⟩ | refine ⟨rfl, ?_⟩)), ?_⟩
   conv => whnf
   refine ⟨_, ⟨rfl, rfl, rr⟩, ?_⟩
   conv => whnf
   refine ⟨_, _, (by (conv => whnf); (refine orB_l ?_); (conv => whnf); (exact rr)), kp_ok (by repeat (first | exact trivial | refine ⟨trivial, ?_⟩ | refine ⟨rfl, ?_⟩)), ?_⟩
   conv => whnf
   refine rg ?_
   conv => whnf
   refine arS_raw ?_
   conv => whnf
   refine ⟨((w64 (v_57 + 1)), l_66), h, ?_⟩
   exact Wk.mk2 [0, 1, 2, 3, 4, 5, 6, 7, 9] 10 rfl rfl (by decide) rfl ⟨rr, rr, rr, rr, ⟨rfl, (by first | rfl | (simp only [↓hb8, ↓hb63, bl]; done) | (simp only [↓hb8, ↓hb63, bl]; rfl))⟩, rr, rr, rr, daS_d rfl, trivial⟩ ⟨rr, rr, rr, rr, rr, rr, rr, rr, rr, rr, trivial⟩
  refine Tr.exit ?_
  conv => whnf
  cases h
  exact Wk.mk2 [0, 1, 2, 3, 4, 5, 8] 9 rfl rfl (by decide) rfl ⟨rr, rr, rr, rr, ⟨rfl, (by first | rfl | (simp only [↓hb8, ↓hb63, bl]; done) | (simp only [↓hb8, ↓hb63, bl]; rfl))⟩, rr, daS_d rfl, trivial⟩ ⟨rr, rr, rr, rr, rr, rr, rr, trivial⟩
 clear hv67
 conv => whnf
 refine Tr.weak hw ?_
 refine Tr.seq ?_
 refine Tr.seq ?_
 refine rg ?_
 conv => whnf
 refine lnS_map ?_
 conv => whnf
 obtain ⟨l_73, hv98, h⟩ := bS h
 refine Tr.cutQ1 ([(8, .pt 0 0), (9, .pt 1 0)]) ([some (.var [(dI 0), .nsl, .nsl]), some (.var [(dI p_3.world), .sl 2 1 0 (List.length l_60), .sl 3 2 0 (List.length l_73)]), some (.arr 1 (List.map .d (List.map eI l_60))), some (.arr 2 (List.map .d (List.map eTChoice l_73)))]) ?_ (fun T1 H1 hw => ?_)
 ·replace h := hv98; clear hv98
  refine Tr.block ?_
  refine Tr.loopM (σ := Int × List TChoice) (fun n s => M98 f_1 runner_2 p_3 x_7 n s.1 s.2) l_73 (fun s => ([(2, (dI runner_2)), (4, .pt 0 0), (5, .pt 1 0), (7, .pt 2 0), (8, .pt 3 0), (9, .pt 4 0), (10, .pt 5 0), (69, .d (.ls (List.map eTRunner f_1.Runners))), (70, (dI (((f_1.Runners).length : Int)))), (71, (dI s.1))], [some (.var [.d (.fn 101 []), .d (.fn 102 []), .d (.fn 103 []), .d (.fn 104 [])]), some (.var [.d (.ls (List.map eTSegment f_1.Clocks.Segments)), .d (.ls (List.map (eL eI) f_1.Clocks.Far)), .d (.ls (List.map eTPair f_1.Pairs)), .d (.ls (List.map eTRunner f_1.Runners))]), some (.var [(dI p_3.world), (dI p_3.outcome), (dI p_3.rank)]), some (.var [(dI 0), .nsl, .nsl]), some (.var [(dI p_3.world), .sl 6 1 0 (List.length l_60), .sl 7 2 0 (List.length s.2)]), some (.var [.d (.b x_7.Out), (dI x_7.Seg), (dI x_7.Lo), (dI x_7.Hi)]), some (.arr 1 (List.map .d (List.map eI l_60))), some (.arr 2 (List.map .d (List.map eTChoice s.2)))])) (((((f_1.Runners).length : Int)) - 0 : Int).toNat + 1) (0, (([] : List TChoice))) h (fun s => rfl) (Wk.mk2 [0, 1, 2, 3, 4, 5, 6, 7] 7 rfl rfl (by decide) rfl ⟨rr, rr, rr, rr, ⟨rfl, (by first | rfl | (simp only [↓hb8, bl]; done) | (simp only [↓hb8, bl]; rfl))⟩, rr, daS_d rfl, rfl, trivial⟩ ⟨rr, rr, rr, rr, rr, rr, rr, rr, rr, rr, trivial⟩) ?_
  clear h
  rintro n_72 ⟨v_70, l_71⟩ h
  replace h : M98 f_1 runner_2 p_3 x_7 (n_72 + 1) v_70 l_71 = some l_73 := h
  rw [M98] at h
  refine Tr.seq ?_
  refine rg ?_
  conv => whnf
  refine Tr.seq ?_
  refine Tr.cond ?_
  conv => whnf
  refine cB h (fun hb76 h => ?_) (fun hb76 h => ?_)
  ·refine Tr.skip ?_
   conv => whnf
   refine Tr.seq ?_
   obtain ⟨l_77, hv78, h⟩ := bS h
   refine Tr.cutQ1 ([(2, (dI runner_2)), (4, .pt 0 0), (5, .pt 1 0), (7, .pt 2 0), (8, .pt 3 0), (9, .pt 4 0), (10, .pt 5 0), (69, .d (.ls (List.map eTRunner f_1.Runners))), (70, (dI (((f_1.Runners).length : Int)))), (71, (dI v_70))]) ([some (.var [.d (.fn 101 []), .d (.fn 102 []), .d (.fn 103 []), .d (.fn 104 [])]), some (.var [.d (.ls (List.map eTSegment f_1.Clocks.Segments)), .d (.ls (List.map (eL eI) f_1.Clocks.Far)), .d (.ls (List.map eTPair f_1.Pairs)), .d (.ls (List.map eTRunner f_1.Runners))]), some (.var [(dI p_3.world), (dI p_3.outcome), (dI p_3.rank)]), some (.var [(dI 0), .nsl, .nsl]), some (.var [(dI p_3.world), .sl 6 1 0 (List.length l_60), .sl 7 2 0 (List.length l_77)]), some (.var [.d (.b x_7.Out), (dI x_7.Seg), (dI x_7.Lo), (dI x_7.Hi)]), some (.arr 1 (List.map .d (List.map eI l_60))), some (.arr 2 (List.map .d (List.map eTChoice l_77)))]) ?_ (fun T1 H1 hw => ?_)
   ·replace h := hv78; clear hv78
    refine Tr.block ?_
    refine Tr.seq ?_
    refine rg ?_
    conv => whnf
    obtain ⟨x_79, hx_79, h⟩ := bS h
    refine ixP_of hx_79 ?_
    conv => whnf
    refine Tr.seq ?_
    refine rg ?_
    conv => whnf
    refine Tr.seq ?_
    refine rg ?_
    conv => whnf
    refine Tr.seq ?_
    refine Tr.seq ?_
    refine rg ?_
    conv => whnf
    refine Tr.cond ?_
    conv => whnf
    refine cB h (fun hb80 h => ?_) (fun hb80 h => ?_)
    ·refine Tr.seq ?_
     refine rg ?_
     conv => whnf
     obtain ⟨⟨r_81, r_82⟩, hc83, h⟩ := bS h
     refine PC.ecall (P75 f_1 p_3.world runner_2 x_7 v_70 r_81 r_82 hc83) (fun rs hrs => ?_)
     subst hrs
     conv => whnf
     refine rg ?_
     conv => whnf
     refine Tr.seq ?_
     refine Tr.seq ?_
     refine Tr.draw (DrawP.seqQ layOK mixed [(11, 10)] [(0, 11), (1, 11), (2, 5), (3, 5), (4, 2), (5, 2), (6, 12), (7, 12), (8, 2), (9, 2), (10, 0), (11, 0)] (by kernel_rfl) ?_)
     conv => whnf
     refine ⟨_, ⟨rfl, rfl, rr⟩, ?_⟩
     conv => whnf
     refine ⟨_, ⟨rfl, rfl, rr⟩, ?_⟩
     conv => whnf
     refine ⟨_, ⟨rfl, rfl, rr⟩, ?_⟩
     conv => whnf
     refine ⟨_, ⟨rfl, rfl, rr⟩, ?_⟩
     conv => whnf
     obtain ⟨x_84, hx_84, h⟩ := bS h
     refine ⟨_, ⟨rfl, rfl, (by (conv => whnf); (refine ixP_of hx_84 ?_); (conv => whnf); (exact rr))⟩, ?_⟩
     conv => whnf
     refine ⟨_, ⟨rfl, rfl, rr⟩, ?_⟩
     conv => whnf
     refine ⟨_, ⟨rfl, rfl, rr⟩, ?_⟩
     conv => whnf
     refine ⟨_, ⟨rfl, rfl, rr⟩, ?_⟩
     conv => whnf
     obtain ⟨x_85, hx_85, h⟩ := bS h
     refine ⟨_, ⟨rfl, rfl, (by (conv => whnf); (refine ixP_of hx_85 ?_); (conv => whnf); (exact rr))⟩, ?_⟩
     conv => whnf
     refine ⟨_, ⟨rfl, rfl, rr⟩, ?_⟩
     conv => whnf
     refine ⟨_, _, rr, kp_ok (by repeat (first | exact trivial | refine ⟨trivial, ?_⟩ | refine ⟨rfl, ?_⟩)), ?_⟩
     conv => whnf
     refine ⟨_, _, rr, kp_ok (by repeat (first | exact trivial | refine ⟨trivial, ?_⟩ | refine ⟨rfl, ?_⟩)), ?_⟩
     conv => whnf
     refine Tr.seq ?_
     refine rg ?_
     conv => whnf
     refine Tr.cond ?_
     conv => whnf
     refine cB h (fun hb86 h => ?_) (fun hb86 h => ?_)
     ·refine rg ?_
      conv => whnf
      obtain ⟨r_87, hc88, h⟩ := bS h
      refine PC.ecall (P66 x_85 r_87 hc88) (fun rs hrs => ?_)
      subst hrs
      conv => whnf
      refine rg ?_
      conv => whnf
      refine orB_r ?_
      conv => whnf
      refine frP_no ?_
      conv => whnf
      refine eqS_mk (by first | rfl | simp) ?_
      conv => whnf
      obtain ⟨l_89, hl_89, h⟩ := bS h
      refine apS_of hl_89 (aQ (f := eTChoice) (l := (([({ Outcome := r_81, X := r_87 } : TChoice)] : List TChoice))) fun _ => rfl) (by first | rfl | simp) (by first | rfl | simp) (fun he => ?_)
      conv => whnf
      refine rS (es' := List.map .d (List.map eTChoice l_89)) (n' := List.length l_89) (by subst he; simp only [List.map_append, List.map_cons, List.map_nil, List.nil_append]; first | done | rfl) (by subst he; simp <;> omega) ?_
      clear he
      conv => whnf
      refine orB_l ?_
      conv => whnf
      cases h
      exact Wk.mk2 [0, 1, 2, 3, 4, 5, 6, 11] 12 rfl rfl (by decide) rfl ⟨rr, rr, rr, rr, ⟨rfl, (by first | rfl | (simp only [↓hb8, ↓hb76, ↓hb80, ↓hb86, bl]; done) | (simp only [↓hb8, ↓hb76, ↓hb80, ↓hb86, bl]; rfl))⟩, rr, daS_d rfl, daS_d rfl, trivial⟩ ⟨rr, rr, rr, rr, rr, rr, rr, rr, rr, rr, trivial⟩
     refine Tr.skip ?_
     conv => whnf
     refine rg ?_
     conv => whnf
     refine orB_r ?_
     conv => whnf
     refine frP_no ?_
     conv => whnf
     refine eqS_mk (by first | rfl | simp) ?_
     conv => whnf
     obtain ⟨l_90, hl_90, h⟩ := bS h
     refine apS_of hl_90 (aQ (f := eTChoice) (l := (([({ Outcome := r_81, X := 0 } : TChoice)] : List TChoice))) fun _ => rfl) (by first | rfl | simp) (by first | rfl | simp) (fun he => ?_)
     conv => whnf
     refine rS (es' := List.map .d (List.map eTChoice l_90)) (n' := List.length l_90) (by subst he; simp only [List.map_append, List.map_cons, List.map_nil, List.nil_append]; first | done | rfl) (by subst he; simp <;> omega) ?_
     clear he
     conv => whnf
     refine orB_l ?_
     conv => whnf
     cases h
     exact Wk.mk2 [0, 1, 2, 3, 4, 5, 6, 11] 12 rfl rfl (by decide) rfl ⟨rr, rr, rr, rr, ⟨rfl, (by first | rfl | (simp only [↓hb8, ↓hb76, ↓hb80, ↓hb86, bl]; done) | (simp only [↓hb8, ↓hb76, ↓hb80, ↓hb86, bl]; rfl))⟩, rr, daS_d rfl, daS_d rfl, trivial⟩ ⟨rr, rr, rr, rr, rr, rr, rr, rr, rr, rr, trivial⟩
    refine Tr.skip ?_
    conv => whnf
    refine Tr.seq ?_
    refine Tr.seq ?_
    refine Tr.draw (DrawP.seqQ layOK mixed [(11, 10)] [(0, 11), (1, 11), (2, 5), (3, 5), (4, 2), (5, 2), (6, 12), (7, 12), (8, 2), (9, 2), (10, 0), (11, 0)] (by kernel_rfl) ?_)
    conv => whnf
    refine ⟨_, ⟨rfl, rfl, rr⟩, ?_⟩
    conv => whnf
    refine ⟨_, ⟨rfl, rfl, rr⟩, ?_⟩
    conv => whnf
    refine ⟨_, ⟨rfl, rfl, rr⟩, ?_⟩
    conv => whnf
    refine ⟨_, ⟨rfl, rfl, rr⟩, ?_⟩
    conv => whnf
    obtain ⟨x_91, hx_91, h⟩ := bS h
    refine ⟨_, ⟨rfl, rfl, (by (conv => whnf); (refine ixP_of hx_91 ?_); (conv => whnf); (exact rr))⟩, ?_⟩
    conv => whnf
    refine ⟨_, ⟨rfl, rfl, rr⟩, ?_⟩
    conv => whnf
    refine ⟨_, ⟨rfl, rfl, rr⟩, ?_⟩
    conv => whnf
    refine ⟨_, ⟨rfl, rfl, rr⟩, ?_⟩
    conv => whnf
    obtain ⟨x_92, hx_92, h⟩ := bS h
    refine ⟨_, ⟨rfl, rfl, (by (conv => whnf); (refine ixP_of hx_92 ?_); (conv => whnf); (exact rr))⟩, ?_⟩
    conv => whnf
    refine ⟨_, ⟨rfl, rfl, rr⟩, ?_⟩
    conv => whnf
    refine ⟨_, _, rr, kp_ok (by repeat (first | exact trivial | refine ⟨trivial, ?_⟩ | refine ⟨rfl, ?_⟩)), ?_⟩
    conv => whnf
    refine ⟨_, _, rr, kp_ok (by repeat (first | exact trivial | refine ⟨trivial, ?_⟩ | refine ⟨rfl, ?_⟩)), ?_⟩
    conv => whnf
    refine Tr.seq ?_
    refine rg ?_
    conv => whnf
    refine Tr.cond ?_
    conv => whnf
    refine cB h (fun hb93 h => ?_) (fun hb93 h => ?_)
    ·refine rg ?_
     conv => whnf
     obtain ⟨r_94, hc95, h⟩ := bS h
     refine PC.ecall (P68 x_92 r_94 hc95) (fun rs hrs => ?_)
     subst hrs
     conv => whnf
     refine rg ?_
     conv => whnf
     refine orB_r ?_
     conv => whnf
     refine frP_no ?_
     conv => whnf
     refine eqS_mk (by first | rfl | simp) ?_
     conv => whnf
     obtain ⟨l_96, hl_96, h⟩ := bS h
     refine apS_of hl_96 (aQ (f := eTChoice) (l := (([({ Outcome := p_3.outcome, X := r_94 } : TChoice)] : List TChoice))) fun _ => rfl) (by first | rfl | simp) (by first | rfl | simp) (fun he => ?_)
     conv => whnf
     refine rS (es' := List.map .d (List.map eTChoice l_96)) (n' := List.length l_96) (by subst he; simp only [List.map_append, List.map_cons, List.map_nil, List.nil_append]; first | done | rfl) (by subst he; simp <;> omega) ?_
     clear he
     conv => whnf
     refine orB_l ?_
     conv => whnf
     cases h
     exact Wk.mk2 [0, 1, 2, 3, 4, 5, 6, 11] 12 rfl rfl (by decide) rfl ⟨rr, rr, rr, rr, ⟨rfl, (by first | rfl | (simp only [↓hb8, ↓hb76, ↓hb80, ↓hb93, bl]; done) | (simp only [↓hb8, ↓hb76, ↓hb80, ↓hb93, bl]; rfl))⟩, rr, daS_d rfl, daS_d rfl, trivial⟩ ⟨rr, rr, rr, rr, rr, rr, rr, rr, rr, rr, trivial⟩
    refine Tr.skip ?_
    conv => whnf
    refine rg ?_
    conv => whnf
    refine orB_r ?_
    conv => whnf
    refine frP_no ?_
    conv => whnf
    refine eqS_mk (by first | rfl | simp) ?_
    conv => whnf
    obtain ⟨l_97, hl_97, h⟩ := bS h
    refine apS_of hl_97 (aQ (f := eTChoice) (l := (([({ Outcome := p_3.outcome, X := 0 } : TChoice)] : List TChoice))) fun _ => rfl) (by first | rfl | simp) (by first | rfl | simp) (fun he => ?_)
    conv => whnf
    refine rS (es' := List.map .d (List.map eTChoice l_97)) (n' := List.length l_97) (by subst he; simp only [List.map_append, List.map_cons, List.map_nil, List.nil_append]; first | done | rfl) (by subst he; simp <;> omega) ?_
    clear he
    conv => whnf
    refine orB_l ?_
    conv => whnf
    cases h
    exact Wk.mk2 [0, 1, 2, 3, 4, 5, 6, 11] 12 rfl rfl (by decide) rfl ⟨rr, rr, rr, rr, ⟨rfl, (by first | rfl | (simp only [↓hb8, ↓hb76, ↓hb80, ↓hb93, bl]; done) | (simp only [↓hb8, ↓hb76, ↓hb80, ↓hb93, bl]; rfl))⟩, rr, daS_d rfl, daS_d rfl, trivial⟩ ⟨rr, rr, rr, rr, rr, rr, rr, rr, rr, rr, trivial⟩
   clear hv78
   conv => whnf
   refine Tr.weak hw ?_
   refine rg ?_
   conv => whnf
   refine arS_raw ?_
   conv => whnf
   refine ⟨((w64 (v_70 + 1)), l_77), h, ?_⟩
   exact Wk.mk2 [0, 1, 2, 3, 4, 5, 6, 7] 8 rfl rfl (by decide) rfl ⟨rr, rr, rr, rr, rr, rr, daS_d rfl, daS_d rfl, trivial⟩ ⟨rr, rr, rr, rr, rr, rr, rr, rr, rr, rr, trivial⟩
  refine Tr.exit ?_
  conv => whnf
  cases h
  exact Wk.mk2 [3, 4, 6, 7] 8 rfl rfl (by decide) rfl ⟨rr, ⟨rfl, (by first | rfl | (simp only [↓hb8, ↓hb76, bl]; done) | (simp only [↓hb8, ↓hb76, bl]; rfl))⟩, daS_d rfl, daS_d rfl, trivial⟩ ⟨⟨rfl, (by first | rfl | (simp only [↓hb8, ↓hb76, bl]; done) | (simp only [↓hb8, ↓hb76, bl]; rfl))⟩, ⟨rfl, (by first | rfl | (simp only [↓hb8, ↓hb76, bl]; done) | (simp only [↓hb8, ↓hb76, bl]; rfl))⟩, trivial⟩
 clear hv98
 conv => whnf
 refine Tr.weak hw ?_
 refine Tr.seq ?_
 refine rg ?_
 conv => whnf
 refine orB_l ?_
 conv => whnf
 refine Tr.ret ?_
 conv => whnf
 refine frE_of (f := eI) (l := l_60) rfl ?_
 conv => whnf
 refine frE_of (f := eTChoice) (l := l_73) rfl ?_
 conv => whnf
 cases h
 rfl
end Go.Proofs.Tryz
