/- Contracts of functions, by program (gen.py). No condition. -/
import Derived.Test.YthandbiapckgkaaL
import Derived.Test.YthandbiapckgkaaM
import Derived.Test.YthandbiapckgkaaS3
namespace Go.Proofs.Try
open Go Go.Abs Go.Stop
set_option maxRecDepth 8000
set_option linter.unusedVariables false
set_option linter.unusedSimpArgs false

theorem s_ranks_direction_drive_with_ranks_best_2 (f_1 : TField) (runner_2 : Int) (r_3 : Tranks_place) (r_4 : Bool) (h : m_ranks_direction_drive_with_ranks_best_2 f_1 runner_2 = some (r_3, r_4)) :
    PC prog 68 [(.ag [(.fn 55 []), (.fn 56 []), (.fn 57 []), (.fn 58 [])]), (eTField f_1), (.i .i64 runner_2)] (fun rs => rs = [(eTranks_place r_3), (.b r_4)]) := by
  refine PC.of_tr (cx := ⟨75, none, lay, 0⟩) layOK func68 rfl rfl rfl rfl rfl (by simp [f68]) ?_
  unfold m_ranks_direction_drive_with_ranks_best_2 at h
  refine Tr.seq ?_
  refine Tr.region layOK ?_
  conv => whnf
  refine Tr.seq ?_
  refine Tr.seq ?_
  refine Tr.region layOK ?_
  conv => whnf
  obtain ⟨⟨c_5, c_6, c_7, c_8⟩, hc9, h⟩ := bind_some h
  refine PC.ecall (s_ranks_worlds f_1 c_5 c_6 c_7 c_8 hc9) (fun rs hrs => ?_)
  subst hrs
  conv => whnf
  obtain ⟨l_10, hl11, h⟩ := bind_some h
  obtain ⟨⟨v_65, v_66, v_67, v_68⟩, hv69, h⟩ := bind_some h
  refine Tr.block ?_
  refine Tr.rangeM layOK rfl (ge := fun a => [(.i .i64 a)]) rfl (it_ranks_worlds_1 c_5 c_6 c_7 c_8 l_10 hl11) (fun _ => rfl) rfl (fun s => [some (.var [.d (.fn 55 []), .d (.fn 56 []), .d (.fn 57 []), .d (.fn 58 [])]), some (.var [.d (.ls (List.map eTSegment f_1.Clocks.Segments)), .d (.ls (List.map (eL eI) f_1.Clocks.Far)), .d (.ls (List.map eTPair f_1.Pairs)), .d (.ls (List.map eTRunner f_1.Runners))]), some (.var [.d (.i .i64 runner_2)]), some (.var [.d (.i .i64 s.1), .d (.i .i64 s.2.1), .d (.i .i64 s.2.2.1)]), some (.var [.d (.b s.2.2.2)])]) (m_ranks_direction_drive_with_ranks_best_2_R1 f_1 runner_2) (0, 0, 0, false) (v_65, v_66, v_67, v_68) hv69 (Wk.mk2 [0, 1, 2, 3, 4] 5 rfl rfl (by decide) rfl ⟨⟨rfl, rfl⟩, ⟨rfl, rfl⟩, ⟨rfl, rfl⟩, ⟨rfl, rfl⟩, ⟨rfl, rfl⟩, trivial⟩ trivial) ?_ ?_
  · clear h hv69
    rintro li y_12 ⟨v_17, v_18, v_19, v_20⟩ s_70 ha h
    replace h : (m_ranks_direction_drive_with_ranks_best_2_R1 f_1 runner_2) y_12 (v_17, v_18, v_19, v_20) = some s_70 := h
    unfold m_ranks_direction_drive_with_ranks_best_2_R1 at h
    dsimp only at h
    conv => whnf
    refine Tr.block ?_
    refine Tr.seq ?_
    refine Tr.region layOK ?_
    conv => whnf
    obtain ⟨x_21, hx_21, h⟩ := bind_some h
    refine ixP_of hx_21 ?_
    conv => whnf
    obtain ⟨x_22, hx_22, h⟩ := bind_some h
    refine ixP_of hx_22 ?_
    conv => whnf
    refine lnS_map ?_
    conv => whnf
    obtain ⟨⟨v_34, v_35, v_36, v_37⟩, hv64, h⟩ := bind_some h
    refine Tr.cutQ1 ([]) ([some (.var [.d (.fn 55 []), .d (.fn 56 []), .d (.fn 57 []), .d (.fn 58 [])]), some (.var [.d (.ls (List.map eTSegment f_1.Clocks.Segments)), .d (.ls (List.map (eL eI) f_1.Clocks.Far)), .d (.ls (List.map eTPair f_1.Pairs)), .d (.ls (List.map eTRunner f_1.Runners))]), some (.var [.d (.i .i64 runner_2)]), some (.var [.d (.i .i64 v_34), .d (.i .i64 v_35), .d (.i .i64 v_36)]), some (.var [.d (.b v_37)])]) ?_ (fun T1 H1 hw => ?_)
    · replace h := hv64; clear hv64
      refine Tr.block ?_
      refine Tr.loopM (σ := Int × Int × Int × Int × Bool) (fun n s => m_ranks_direction_drive_with_ranks_best_2_L2 f_1 runner_2 y_12 x_22 n s.1 s.2.1 s.2.2.1 s.2.2.2.1 s.2.2.2.2) (v_34, v_35, v_36, v_37) (fun s => ([(3, .pt 0 0), (4, .pt 1 0), (5, .pt 2 0), (6, .pt 3 0), (7, .pt 4 0), (8, .d (.i .i64 y_12)), (26, .d (.ls (List.map eTOutcome x_22))), (27, .d (.i .i64 (((x_22).length : Int)))), (28, .d (.i .i64 s.1))], [some (.var [.d (.fn 55 []), .d (.fn 56 []), .d (.fn 57 []), .d (.fn 58 [])]), some (.var [.d (.ls (List.map eTSegment f_1.Clocks.Segments)), .d (.ls (List.map (eL eI) f_1.Clocks.Far)), .d (.ls (List.map eTPair f_1.Pairs)), .d (.ls (List.map eTRunner f_1.Runners))]), some (.var [.d (.i .i64 runner_2)]), some (.var [.d (.i .i64 s.2.1), .d (.i .i64 s.2.2.1), .d (.i .i64 s.2.2.2.1)]), some (.var [.d (.b s.2.2.2.2)])])) (((((x_22).length : Int)) - 0 : Int).toNat + 1) (0, v_17, v_18, v_19, v_20) h (fun s => rfl) (Wk.mk2 [0, 1, 2, 3, 4] 5 rfl rfl (by decide) rfl ⟨⟨rfl, rfl⟩, ⟨rfl, rfl⟩, ⟨rfl, rfl⟩, ⟨rfl, rfl⟩, ⟨rfl, rfl⟩, trivial⟩ ⟨⟨rfl, rfl⟩, ⟨rfl, rfl⟩, ⟨rfl, rfl⟩, ⟨rfl, rfl⟩, ⟨rfl, rfl⟩, ⟨rfl, rfl⟩, ⟨rfl, rfl⟩, ⟨rfl, rfl⟩, ⟨rfl, rfl⟩, trivial⟩) ?_
      clear h
      rintro n_33 ⟨v_28, v_29, v_30, v_31, v_32⟩ h
      replace h : m_ranks_direction_drive_with_ranks_best_2_L2 f_1 runner_2 y_12 x_22 (n_33 + 1) v_28 v_29 v_30 v_31 v_32 = some (v_34, v_35, v_36, v_37) := h
      rw [m_ranks_direction_drive_with_ranks_best_2_L2] at h
      refine Tr.seq ?_
      refine Tr.region layOK ?_
      conv => whnf
      refine Tr.seq ?_
      refine Tr.cond ?_
      conv => whnf
      refine condS_bif h (fun hb40 h => ?_) (fun hb40 h => ?_)
      · refine Tr.skip ?_
        conv => whnf
        refine Tr.seq ?_
        refine Tr.block ?_
        refine Tr.seq ?_
        refine Tr.region layOK ?_
        conv => whnf
        obtain ⟨x_41, hx_41, h⟩ := bind_some h
        refine ixP_of hx_41 ?_
        conv => whnf
        refine Tr.seq ?_
        refine Tr.seq ?_
        refine Tr.region layOK ?_
        conv => whnf
        refine Tr.cond ?_
        conv => whnf
        refine condS_bif h (fun hb42 h => ?_) (fun hb42 h => ?_)
        · refine Tr.exit ?_
          conv => whnf
          refine Tr.region layOK ?_
          conv => whnf
          refine arS_raw ?_
          conv => whnf
          refine ⟨((w64 (v_28 + 1)), v_29, v_30, v_31, v_32), h, ?_⟩
          exact Wk.mk2 [0, 1, 2, 3, 4] 6 rfl rfl (by decide) rfl ⟨⟨rfl, rfl⟩, ⟨rfl, rfl⟩, ⟨rfl, rfl⟩, ⟨rfl, rfl⟩, ⟨rfl, rfl⟩, trivial⟩ ⟨⟨rfl, rfl⟩, ⟨rfl, rfl⟩, ⟨rfl, rfl⟩, ⟨rfl, rfl⟩, ⟨rfl, rfl⟩, ⟨rfl, rfl⟩, ⟨rfl, rfl⟩, ⟨rfl, rfl⟩, ⟨rfl, rfl⟩, trivial⟩
        · refine Tr.skip ?_
          conv => whnf
          refine Tr.seq ?_
          refine Tr.region layOK ?_
          conv => whnf
          refine Tr.seq ?_
          refine Tr.seq ?_
          refine Tr.region layOK ?_
          conv => whnf
          refine lnS_map ?_
          conv => whnf
          obtain ⟨n_48, hv57, h⟩ := bind_some h
          refine Tr.cutQ1 ([(3, .pt 0 0), (4, .pt 1 0), (5, .pt 2 0), (6, .pt 3 0), (7, .pt 4 0), (8, .d (.i .i64 y_12)), (9, .d (.i .i64 v_28)), (11, .d (.i .i64 n_48)), (26, .d (.ls (List.map eTOutcome x_22))), (27, .d (.i .i64 (((x_22).length : Int)))), (28, .d (.i .i64 v_28))]) ([some (.var [.d (.fn 55 []), .d (.fn 56 []), .d (.fn 57 []), .d (.fn 58 [])]), some (.var [.d (.ls (List.map eTSegment f_1.Clocks.Segments)), .d (.ls (List.map (eL eI) f_1.Clocks.Far)), .d (.ls (List.map eTPair f_1.Pairs)), .d (.ls (List.map eTRunner f_1.Runners))]), some (.var [.d (.i .i64 runner_2)]), some (.var [.d (.i .i64 v_29), .d (.i .i64 v_30), .d (.i .i64 v_31)]), some (.var [.d (.b v_32)])]) ?_ (fun T1 H1 hw => ?_)
          · replace h := hv57; clear hv57
            refine Tr.block ?_
            refine Tr.loopM (σ := Int × Int) (fun n s => m_ranks_direction_drive_with_ranks_best_2_L3 f_1 runner_2 y_12 x_41 n s.1 s.2) n_48 (fun s => ([(3, .pt 0 0), (4, .pt 1 0), (5, .pt 2 0), (6, .pt 3 0), (7, .pt 4 0), (8, .d (.i .i64 y_12)), (9, .d (.i .i64 v_28)), (10, .pt 5 0), (11, .d (.i .i64 s.1)), (26, .d (.ls (List.map eTOutcome x_22))), (27, .d (.i .i64 (((x_22).length : Int)))), (28, .d (.i .i64 v_28)), (37, .d (.i .i64 (((f_1.Runners).length : Int)))), (38, .d (.i .i64 s.2))], [some (.var [.d (.fn 55 []), .d (.fn 56 []), .d (.fn 57 []), .d (.fn 58 [])]), some (.var [.d (.ls (List.map eTSegment f_1.Clocks.Segments)), .d (.ls (List.map (eL eI) f_1.Clocks.Far)), .d (.ls (List.map eTPair f_1.Pairs)), .d (.ls (List.map eTRunner f_1.Runners))]), some (.var [.d (.i .i64 runner_2)]), some (.var [.d (.i .i64 v_29), .d (.i .i64 v_30), .d (.i .i64 v_31)]), some (.var [.d (.b v_32)]), some (.var [.d (.b x_41.Out), .d (.i .i64 x_41.Seg), .d (.i .i64 x_41.Lo), .d (.i .i64 x_41.Hi)])])) (((((f_1.Runners).length : Int)) - 0 : Int).toNat + 1) (1, 0) h (fun s => rfl) (Wk.mk2 [0, 1, 2, 3, 4, 5] 6 rfl rfl (by decide) rfl ⟨⟨rfl, rfl⟩, ⟨rfl, rfl⟩, ⟨rfl, rfl⟩, ⟨rfl, rfl⟩, ⟨rfl, rfl⟩, ⟨rfl, rfl⟩, trivial⟩ ⟨⟨rfl, rfl⟩, ⟨rfl, rfl⟩, ⟨rfl, rfl⟩, ⟨rfl, rfl⟩, ⟨rfl, rfl⟩, ⟨rfl, rfl⟩, ⟨rfl, rfl⟩, ⟨rfl, rfl⟩, ⟨rfl, rfl⟩, ⟨rfl, rfl⟩, ⟨rfl, rfl⟩, ⟨rfl, rfl⟩, ⟨rfl, rfl⟩, ⟨rfl, rfl⟩, trivial⟩) ?_
            clear h
            rintro n_47 ⟨n_45, v_46⟩ h
            replace h : m_ranks_direction_drive_with_ranks_best_2_L3 f_1 runner_2 y_12 x_41 (n_47 + 1) n_45 v_46 = some n_48 := h
            rw [m_ranks_direction_drive_with_ranks_best_2_L3] at h
            refine Tr.seq ?_
            refine Tr.region layOK ?_
            conv => whnf
            refine Tr.seq ?_
            refine Tr.cond ?_
            conv => whnf
            refine condS_bif h (fun hb51 h => ?_) (fun hb51 h => ?_)
            · refine Tr.skip ?_
              conv => whnf
              refine Tr.seq ?_
              refine Tr.block ?_
              refine Tr.seq ?_
              refine Tr.region layOK ?_
              conv => whnf
              refine Tr.seq ?_
              refine Tr.seq ?_
              refine Tr.region layOK ?_
              conv => whnf
              refine Tr.cond ?_
              conv => whnf
              refine condS_bif h (fun hb52 h => ?_) (fun hb52 h => ?_)
              · refine Tr.exit ?_
                conv => whnf
                refine Tr.region layOK ?_
                conv => whnf
                refine arS_raw ?_
                conv => whnf
                refine ⟨(n_45, (w64 (v_46 + 1))), h, ?_⟩
                exact Wk.mk2 [0, 1, 2, 3, 4, 5] 6 rfl rfl (by decide) rfl ⟨⟨rfl, rfl⟩, ⟨rfl, rfl⟩, ⟨rfl, rfl⟩, ⟨rfl, rfl⟩, ⟨rfl, rfl⟩, ⟨rfl, rfl⟩, trivial⟩ ⟨⟨rfl, rfl⟩, ⟨rfl, rfl⟩, ⟨rfl, rfl⟩, ⟨rfl, rfl⟩, ⟨rfl, rfl⟩, ⟨rfl, rfl⟩, ⟨rfl, rfl⟩, ⟨rfl, rfl⟩, ⟨rfl, rfl⟩, ⟨rfl, rfl⟩, ⟨rfl, rfl⟩, ⟨rfl, rfl⟩, ⟨rfl, rfl⟩, ⟨rfl, rfl⟩, trivial⟩
              · refine Tr.skip ?_
                conv => whnf
                refine Tr.seq ?_
                refine Tr.region layOK ?_
                conv => whnf
                obtain ⟨⟨r_53, r_54⟩, hc55, h⟩ := bind_some h
                refine PC.ecall (s_ranks_direction_choose_with_ranks_best_2 f_1 y_12 runner_2 x_41 v_46 r_53 r_54 hc55) (fun rs hrs => ?_)
                subst hrs
                conv => whnf
                refine Tr.seq ?_
                refine Tr.region layOK ?_
                conv => whnf
                refine Tr.cond ?_
                conv => whnf
                refine condS_bif h (fun hb56 h => ?_) (fun hb56 h => ?_)
                · refine Tr.region layOK ?_
                  conv => whnf
                  refine arS_raw ?_
                  conv => whnf
                  refine Tr.region layOK ?_
                  conv => whnf
                  refine arS_raw ?_
                  conv => whnf
                  refine ⟨((w64 (n_45 + 1)), (w64 (v_46 + 1))), h, ?_⟩
                  exact Wk.mk2 [0, 1, 2, 3, 4, 5] 6 rfl rfl (by decide) rfl ⟨⟨rfl, rfl⟩, ⟨rfl, rfl⟩, ⟨rfl, rfl⟩, ⟨rfl, rfl⟩, ⟨rfl, rfl⟩, ⟨rfl, rfl⟩, trivial⟩ ⟨⟨rfl, rfl⟩, ⟨rfl, rfl⟩, ⟨rfl, rfl⟩, ⟨rfl, rfl⟩, ⟨rfl, rfl⟩, ⟨rfl, rfl⟩, ⟨rfl, rfl⟩, ⟨rfl, rfl⟩, ⟨rfl, rfl⟩, ⟨rfl, rfl⟩, ⟨rfl, rfl⟩, ⟨rfl, rfl⟩, ⟨rfl, rfl⟩, ⟨rfl, rfl⟩, trivial⟩
                · refine Tr.skip ?_
                  conv => whnf
                  refine Tr.region layOK ?_
                  conv => whnf
                  refine arS_raw ?_
                  conv => whnf
                  refine ⟨(n_45, (w64 (v_46 + 1))), h, ?_⟩
                  exact Wk.mk2 [0, 1, 2, 3, 4, 5] 6 rfl rfl (by decide) rfl ⟨⟨rfl, rfl⟩, ⟨rfl, rfl⟩, ⟨rfl, rfl⟩, ⟨rfl, rfl⟩, ⟨rfl, rfl⟩, ⟨rfl, rfl⟩, trivial⟩ ⟨⟨rfl, rfl⟩, ⟨rfl, rfl⟩, ⟨rfl, rfl⟩, ⟨rfl, rfl⟩, ⟨rfl, rfl⟩, ⟨rfl, rfl⟩, ⟨rfl, rfl⟩, ⟨rfl, rfl⟩, ⟨rfl, rfl⟩, ⟨rfl, rfl⟩, ⟨rfl, rfl⟩, ⟨rfl, rfl⟩, ⟨rfl, rfl⟩, ⟨rfl, rfl⟩, trivial⟩
            · refine Tr.exit ?_
              conv => whnf
              cases h
              exact Wk.mk2 [0, 1, 2, 3, 4] 6 rfl rfl (by decide) rfl ⟨⟨rfl, rfl⟩, ⟨rfl, rfl⟩, ⟨rfl, rfl⟩, ⟨rfl, rfl⟩, ⟨rfl, rfl⟩, trivial⟩ ⟨⟨rfl, rfl⟩, ⟨rfl, rfl⟩, ⟨rfl, rfl⟩, ⟨rfl, rfl⟩, ⟨rfl, rfl⟩, ⟨rfl, rfl⟩, ⟨rfl, rfl⟩, ⟨rfl, rfl⟩, ⟨rfl, rfl⟩, ⟨rfl, rfl⟩, ⟨rfl, rfl⟩, trivial⟩
          · clear hv57
            conv => whnf
            refine Tr.weak hw ?_
            refine Tr.seq ?_
            obtain ⟨v_58, hv59, h⟩ := bind_some h
            refine Tr.cutQ1 ([(3, .pt 0 0), (4, .pt 1 0), (5, .pt 2 0), (6, .pt 3 0), (7, .pt 4 0), (8, .d (.i .i64 y_12)), (9, .d (.i .i64 v_28)), (11, .d (.i .i64 n_48)), (26, .d (.ls (List.map eTOutcome x_22))), (27, .d (.i .i64 (((x_22).length : Int)))), (28, .d (.i .i64 v_28)), (67, .d (.b v_58))]) ([some (.var [.d (.fn 55 []), .d (.fn 56 []), .d (.fn 57 []), .d (.fn 58 [])]), some (.var [.d (.ls (List.map eTSegment f_1.Clocks.Segments)), .d (.ls (List.map (eL eI) f_1.Clocks.Far)), .d (.ls (List.map eTPair f_1.Pairs)), .d (.ls (List.map eTRunner f_1.Runners))]), some (.var [.d (.i .i64 runner_2)]), some (.var [.d (.i .i64 v_29), .d (.i .i64 v_30), .d (.i .i64 v_31)]), some (.var [.d (.b v_32)])]) ?_ (fun T1 H1 hw => ?_)
            · replace h := hv59; clear hv59
              refine Tr.region layOK ?_
              conv => whnf
              refine condS_bif h (fun hb60 h => ?_) (fun hb60 h => ?_)
              · conv => whnf
                cases h
                exact Wk.mk2 [0, 1, 2, 3, 4] 5 rfl rfl (by decide) rfl ⟨⟨rfl, rfl⟩, ⟨rfl, rfl⟩, ⟨rfl, rfl⟩, ⟨rfl, rfl⟩, ⟨rfl, rfl⟩, trivial⟩ ⟨⟨rfl, rfl⟩, ⟨rfl, rfl⟩, ⟨rfl, rfl⟩, ⟨rfl, rfl⟩, ⟨rfl, rfl⟩, ⟨rfl, rfl⟩, ⟨rfl, rfl⟩, ⟨rfl, rfl⟩, ⟨rfl, rfl⟩, ⟨rfl, rfl⟩, ⟨rfl, rfl⟩, ⟨rfl, rfl⟩, trivial⟩
              · conv => whnf
                obtain ⟨r_61, hc62, h⟩ := bind_some h
                refine PC.ecall (s_ranks_best_2 n_48 v_31 r_61 hc62) (fun rs hrs => ?_)
                subst hrs
                conv => whnf
                cases h
                exact Wk.mk2 [0, 1, 2, 3, 4] 5 rfl rfl (by decide) rfl ⟨⟨rfl, rfl⟩, ⟨rfl, rfl⟩, ⟨rfl, rfl⟩, ⟨rfl, rfl⟩, ⟨rfl, rfl⟩, trivial⟩ ⟨⟨rfl, rfl⟩, ⟨rfl, rfl⟩, ⟨rfl, rfl⟩, ⟨rfl, rfl⟩, ⟨rfl, rfl⟩, ⟨rfl, rfl⟩, ⟨rfl, rfl⟩, ⟨rfl, rfl⟩, ⟨rfl, rfl⟩, ⟨rfl, rfl⟩, ⟨rfl, rfl⟩, ⟨rfl, rfl⟩, trivial⟩
            · clear hv59
              conv => whnf
              refine Tr.weak hw ?_
              refine Tr.cond ?_
              conv => whnf
              refine condS_bif h (fun hb63 h => ?_) (fun hb63 h => ?_)
              · refine Tr.region layOK ?_
                conv => whnf
                refine Tr.region layOK ?_
                conv => whnf
                refine arS_raw ?_
                conv => whnf
                refine ⟨((w64 (v_28 + 1)), y_12, v_28, n_48, true), h, ?_⟩
                exact Wk.mk2 [0, 1, 2, 3, 4] 5 rfl rfl (by decide) rfl ⟨⟨rfl, rfl⟩, ⟨rfl, rfl⟩, ⟨rfl, rfl⟩, ⟨rfl, rfl⟩, ⟨rfl, rfl⟩, trivial⟩ ⟨⟨rfl, rfl⟩, ⟨rfl, rfl⟩, ⟨rfl, rfl⟩, ⟨rfl, rfl⟩, ⟨rfl, rfl⟩, ⟨rfl, rfl⟩, ⟨rfl, rfl⟩, ⟨rfl, rfl⟩, ⟨rfl, rfl⟩, trivial⟩
              · refine Tr.skip ?_
                conv => whnf
                refine Tr.region layOK ?_
                conv => whnf
                refine arS_raw ?_
                conv => whnf
                refine ⟨((w64 (v_28 + 1)), v_29, v_30, v_31, v_32), h, ?_⟩
                exact Wk.mk2 [0, 1, 2, 3, 4] 5 rfl rfl (by decide) rfl ⟨⟨rfl, rfl⟩, ⟨rfl, rfl⟩, ⟨rfl, rfl⟩, ⟨rfl, rfl⟩, ⟨rfl, rfl⟩, trivial⟩ ⟨⟨rfl, rfl⟩, ⟨rfl, rfl⟩, ⟨rfl, rfl⟩, ⟨rfl, rfl⟩, ⟨rfl, rfl⟩, ⟨rfl, rfl⟩, ⟨rfl, rfl⟩, ⟨rfl, rfl⟩, ⟨rfl, rfl⟩, trivial⟩
      · refine Tr.exit ?_
        conv => whnf
        cases h
        exact Wk.mk2 [0, 1, 2, 3, 4] 5 rfl rfl (by decide) rfl ⟨⟨rfl, rfl⟩, ⟨rfl, rfl⟩, ⟨rfl, rfl⟩, ⟨rfl, rfl⟩, ⟨rfl, rfl⟩, trivial⟩ trivial
    · clear hv64
      conv => whnf
      cases h
      refine Wk.trans (F := 5) hw ?_
      exact Wk.mk2 [0, 1, 2, 3, 4] 5 rfl rfl (by decide) rfl ⟨⟨rfl, rfl⟩, ⟨rfl, rfl⟩, ⟨rfl, rfl⟩, ⟨rfl, rfl⟩, ⟨rfl, rfl⟩, trivial⟩ trivial
  · clear hv69
    conv => whnf
    refine Tr.seq ?_
    refine Tr.draw (DrawP.seqQ layOK mixed [(2, 3), (3, 4)] [(0, 6), (1, 7), (2, 0), (3, 0)] (by kernel_rfl) ?_)
    conv => whnf
    refine ⟨_, ⟨rfl, rfl, (by (conv => whnf); (exact ⟨rfl, rfl⟩))⟩, ?_⟩
    conv => whnf
    refine ⟨_, ⟨rfl, rfl, (by (conv => whnf); (exact ⟨rfl, rfl⟩))⟩, ?_⟩
    conv => whnf
    refine ⟨_, _, (by (conv => whnf); (exact ⟨rfl, rfl⟩)), kp_ok (by repeat (first | exact trivial | refine ⟨trivial, ?_⟩ | refine ⟨rfl, ?_⟩)), ?_⟩
    conv => whnf
    refine ⟨_, _, (by (conv => whnf); (exact ⟨rfl, rfl⟩)), kp_ok (by repeat (first | exact trivial | refine ⟨trivial, ?_⟩ | refine ⟨rfl, ?_⟩)), ?_⟩
    conv => whnf
    refine Tr.ret ?_
    conv => whnf
    cases h
    rfl

theorem s_ranks_worst (h : m_ranks_worst = some ()) :
    PC prog 37 [] (fun rs => rs = [(.ag [(.fn 56 []), (.fn 55 []), (.fn 60 []), (.fn 61 [])])]) := by
  refine PC.of_tr (cx := ⟨2, none, lay, 0⟩) layOK func37 rfl rfl rfl rfl rfl (by simp [f37]) ?_
  unfold m_ranks_worst at h
  refine Tr.seq ?_
  refine Tr.region layOK ?_
  conv => whnf
  refine Tr.seq ?_
  refine Tr.region layOK ?_
  conv => whnf
  refine Tr.ret ?_
  conv => whnf

theorem s_ranks_worst_2 (n_1 : Int) (m_2 : Int) (r_3 : Bool) (h : m_ranks_worst_2 n_1 m_2 = some r_3) :
    PC prog 61 [(.i .i64 n_1), (.i .i64 m_2)] (fun rs => rs = [(.b r_3)]) := by
  refine PC.of_tr (cx := ⟨8, none, lay, 0⟩) layOK func61 rfl rfl rfl rfl rfl (by simp [f61]) ?_
  unfold m_ranks_worst_2 at h
  refine Tr.seq ?_
  refine Tr.region layOK ?_
  conv => whnf
  refine Tr.seq ?_
  refine Tr.region layOK ?_
  conv => whnf
  refine Tr.ret ?_
  conv => whnf
  cases h
  rfl

theorem s_ranks_worst_1 (far_1 : List (List Int)) (a_2 : Int) (b_3 : Int) (r_4 : Int) (h : m_ranks_worst_1 far_1 a_2 b_3 = some r_4) :
    PC prog 60 [(.ls (List.map (eL eI) far_1)), (.i .i64 a_2), (.i .i64 b_3)] (fun rs => rs = [(.i .i64 r_4)]) := by
  refine PC.of_tr (cx := ⟨15, none, lay, 0⟩) layOK func60 rfl rfl rfl rfl rfl (by simp [f60]) ?_
  unfold m_ranks_worst_1 at h
  refine Tr.seq ?_
  refine Tr.region layOK ?_
  conv => whnf
  refine Tr.seq ?_
  refine Tr.region layOK ?_
  conv => whnf
  obtain ⟨x_5, hx_5, h⟩ := bind_some h
  refine ixP_of hx_5 ?_
  conv => whnf
  obtain ⟨x_6, hx_6, h⟩ := bind_some h
  refine ixP_of hx_6 ?_
  conv => whnf
  refine arS_raw ?_
  conv => whnf
  refine Tr.ret ?_
  conv => whnf
  cases h
  rfl

theorem s_ranks_direction_ahead_with_ranks_worst_2 (f_1 : TField) (runner_2 : Int) (x_3 : TOutcome) (rival_4 : Int) (y_5 : TOutcome) (r_6 : Bool) (h : m_ranks_direction_ahead_with_ranks_worst_2 f_1 runner_2 x_3 rival_4 y_5 = some r_6) :
    PC prog 36 [(.ag [(.fn 56 []), (.fn 55 []), (.fn 60 []), (.fn 61 [])]), (eTField f_1), (.i .i64 runner_2), (eTOutcome x_3), (.i .i64 rival_4), (eTOutcome y_5)] (fun rs => rs = [(.b r_6)]) := by
  refine PC.of_tr (cx := ⟨60, none, lay, 0⟩) layOK func36 rfl rfl rfl rfl rfl (by simp [f36]) ?_
  unfold m_ranks_direction_ahead_with_ranks_worst_2 at h
  refine Tr.seq ?_
  refine Tr.region layOK ?_
  conv => whnf
  refine Tr.seq ?_
  refine Tr.seq ?_
  refine Tr.region layOK ?_
  conv => whnf
  refine Tr.cond ?_
  conv => whnf
  refine condS_bif h (fun hb7 h => ?_) (fun hb7 h => ?_)
  · refine Tr.seq ?_
    refine Tr.region layOK ?_
    conv => whnf
    refine Tr.ret ?_
    conv => whnf
    cases h
    rfl
  · refine Tr.skip ?_
    conv => whnf
    refine Tr.seq ?_
    refine Tr.draw (DrawP.seqQ layOK mixed [] [(0, 3), (1, 3), (2, 6), (3, 1), (4, 3), (5, 3), (6, 4), (7, 4), (8, 4), (9, 5), (10, 5), (11, 1), (12, 6), (13, 6), (14, 1), (15, 1), (16, 1), (17, 3), (18, 3), (19, 5), (20, 1), (21, 1), (22, 1)] (by kernel_rfl) ?_)
    conv => whnf
    refine ⟨_, ⟨rfl, rfl, (by (conv => whnf); (exact ⟨rfl, rfl⟩))⟩, ?_⟩
    conv => whnf
    refine ⟨_, ⟨rfl, rfl, (by (conv => whnf); (exact ⟨rfl, rfl⟩))⟩, ?_⟩
    conv => whnf
    refine ⟨_, ⟨rfl, rfl, (by (conv => whnf); (exact ⟨rfl, rfl⟩))⟩, ?_⟩
    conv => whnf
    obtain ⟨r_8, hc9, h⟩ := bind_some h
    refine ⟨_, (fun H => by (conv => whnf); (refine PC.ecall (s_ranks_lo y_5 r_8 hc9) (fun rs hrs => ?_)); (subst hrs); (conv => whnf); (exact ⟨rfl, rfl⟩)), ?_⟩
    conv => whnf
    refine ⟨_, ⟨rfl, rfl, (by (conv => whnf); (exact ⟨rfl, rfl⟩))⟩, ?_⟩
    conv => whnf
    refine ⟨_, ⟨rfl, rfl, (by (conv => whnf); (exact ⟨rfl, rfl⟩))⟩, ?_⟩
    conv => whnf
    refine ⟨_, ⟨rfl, rfl, (by (conv => whnf); (exact ⟨rfl, rfl⟩))⟩, ?_⟩
    conv => whnf
    refine ⟨_, ⟨rfl, rfl, (by (conv => whnf); (exact ⟨rfl, rfl⟩))⟩, ?_⟩
    conv => whnf
    refine ⟨_, ⟨rfl, rfl, (by (conv => whnf); (exact ⟨rfl, rfl⟩))⟩, ?_⟩
    conv => whnf
    refine ⟨_, ⟨rfl, rfl, (by (conv => whnf); (exact ⟨rfl, rfl⟩))⟩, ?_⟩
    conv => whnf
    refine ⟨_, ⟨rfl, rfl, (by (conv => whnf); (exact ⟨rfl, rfl⟩))⟩, ?_⟩
    conv => whnf
    refine ⟨_, (fun H => by (conv => whnf); (refine arS_raw ?_); (conv => whnf); (exact ⟨rfl, rfl⟩)), ?_⟩
    conv => whnf
    refine ⟨_, ⟨rfl, rfl, (by (conv => whnf); (exact ⟨rfl, rfl⟩))⟩, ?_⟩
    conv => whnf
    refine ⟨_, ⟨rfl, rfl, (by (conv => whnf); (exact ⟨rfl, rfl⟩))⟩, ?_⟩
    conv => whnf
    refine ⟨_, (fun H => by (conv => whnf); (refine arS_raw ?_); (conv => whnf); (exact ⟨rfl, rfl⟩)), ?_⟩
    conv => whnf
    obtain ⟨r_10, hc11, h⟩ := bind_some h
    refine ⟨_, (fun H => by (conv => whnf); (refine PC.ecall (s_ranks_worst_1 f_1.Clocks.Far ((w64 (x_3.Seg + 1))) ((w64 (y_5.Seg + 1))) r_10 hc11) (fun rs hrs => ?_)); (subst hrs); (conv => whnf); (exact ⟨rfl, rfl⟩)), ?_⟩
    conv => whnf
    refine ⟨_, (fun H => by (conv => whnf); (refine arS_raw ?_); (conv => whnf); (exact ⟨rfl, rfl⟩)), ?_⟩
    conv => whnf
    refine ⟨_, ⟨rfl, rfl, (by (conv => whnf); (exact ⟨rfl, rfl⟩))⟩, ?_⟩
    conv => whnf
    refine ⟨_, ⟨rfl, rfl, (by (conv => whnf); (exact ⟨rfl, rfl⟩))⟩, ?_⟩
    conv => whnf
    refine ⟨_, ⟨rfl, rfl, (by (conv => whnf); (exact ⟨rfl, rfl⟩))⟩, ?_⟩
    conv => whnf
    obtain ⟨r_12, hc13, h⟩ := bind_some h
    refine ⟨_, (fun H => by (conv => whnf); (refine PC.ecall (s_ranks_hi x_3 r_12 hc13) (fun rs hrs => ?_)); (subst hrs); (conv => whnf); (exact ⟨rfl, rfl⟩)), ?_⟩
    conv => whnf
    refine ⟨_, (fun H => by (conv => whnf); (refine arS_raw ?_); (conv => whnf); (exact ⟨rfl, rfl⟩)), ?_⟩
    conv => whnf
    refine ⟨_, (fun H => by (conv => whnf); (exact ⟨rfl, rfl⟩)), ?_⟩
    conv => whnf
    refine Tr.seq ?_
    refine Tr.draw (DrawP.seqQ layOK mixed [] [(0, 1), (1, 1), (2, 1), (3, 1), (4, 1), (5, 1), (6, 4), (7, 4), (8, 1), (9, 2), (10, 2), (11, 2), (12, 4), (13, 4), (14, 1), (15, 2), (16, 2), (17, 2), (18, 1), (19, 1), (20, 1), (21, 1), (22, 1)] (by kernel_rfl) ?_)
    conv => whnf
    refine ⟨_, (fun H => by (conv => whnf); (exact ⟨rfl, rfl⟩)), ?_⟩
    conv => whnf
    refine ⟨_, (fun H => by (conv => whnf); (exact ⟨rfl, rfl⟩)), ?_⟩
    conv => whnf
    refine ⟨_, (fun H => by (conv => whnf); (exact ⟨rfl, rfl⟩)), ?_⟩
    conv => whnf
    refine condS_bif h (fun hb14 h => ?_) (fun hb14 h => ?_)
    · conv => whnf
      refine ⟨_, (fun H => by (conv => whnf); (exact ⟨rfl, rfl⟩)), ?_⟩
      conv => whnf
      refine ⟨_, (fun H => by (conv => whnf); (exact ⟨rfl, rfl⟩)), ?_⟩
      conv => whnf
      refine Tr.ret ?_
      conv => whnf
      cases h
      rfl
    · conv => whnf
      refine ⟨_, (fun H => by (conv => whnf); (exact ⟨rfl, rfl⟩)), ?_⟩
      conv => whnf
      refine ⟨_, (fun H => by (conv => whnf); (exact ⟨rfl, rfl⟩)), ?_⟩
      conv => whnf
      refine ⟨_, (fun H => by (conv => whnf); (exact ⟨rfl, rfl⟩)), ?_⟩
      conv => whnf
      refine condS_bif h (fun hb15 h => ?_) (fun hb15 h => ?_)
      · conv => whnf
        refine ⟨_, ⟨rfl, rfl, (by (conv => whnf); (exact ⟨rfl, rfl⟩))⟩, ?_⟩
        conv => whnf
        refine ⟨_, ⟨rfl, rfl, (by (conv => whnf); (exact ⟨rfl, rfl⟩))⟩, ?_⟩
        conv => whnf
        refine ⟨_, (fun H => by (conv => whnf); (exact ⟨rfl, rfl⟩)), ?_⟩
        conv => whnf
        obtain ⟨x_16, hx_16, h⟩ := bind_some h
        refine ⟨_, ⟨rfl, rfl, (by (conv => whnf); (refine ixP_of hx_16 ?_); (conv => whnf); (exact ⟨rfl, rfl⟩))⟩, ?_⟩
        conv => whnf
        refine ⟨_, ⟨rfl, rfl, (by (conv => whnf); (exact ⟨rfl, rfl⟩))⟩, ?_⟩
        conv => whnf
        refine ⟨_, ⟨rfl, rfl, (by (conv => whnf); (exact ⟨rfl, rfl⟩))⟩, ?_⟩
        conv => whnf
        refine ⟨_, ⟨rfl, rfl, (by (conv => whnf); (exact ⟨rfl, rfl⟩))⟩, ?_⟩
        conv => whnf
        refine ⟨_, ⟨rfl, rfl, (by (conv => whnf); (exact ⟨rfl, rfl⟩))⟩, ?_⟩
        conv => whnf
        refine ⟨_, (fun H => by (conv => whnf); (exact ⟨rfl, rfl⟩)), ?_⟩
        conv => whnf
        obtain ⟨x_17, hx_17, h⟩ := bind_some h
        refine ⟨_, ⟨rfl, rfl, (by (conv => whnf); (refine ixP_of hx_17 ?_); (conv => whnf); (exact ⟨rfl, rfl⟩))⟩, ?_⟩
        conv => whnf
        refine ⟨_, ⟨rfl, rfl, (by (conv => whnf); (exact ⟨rfl, rfl⟩))⟩, ?_⟩
        conv => whnf
        refine ⟨_, ⟨rfl, rfl, (by (conv => whnf); (exact ⟨rfl, rfl⟩))⟩, ?_⟩
        conv => whnf
        obtain ⟨r_18, hc19, h⟩ := bind_some h
        refine ⟨_, (fun H => by (conv => whnf); (refine PC.ecall (s_slices_Compare_int_int x_16.Keys x_17.Keys r_18 hc19) (fun rs hrs => ?_)); (subst hrs); (conv => whnf); (exact ⟨rfl, rfl⟩)), ?_⟩
        conv => whnf
        refine ⟨_, (fun H => by (conv => whnf); (exact ⟨rfl, rfl⟩)), ?_⟩
        conv => whnf
        refine ⟨_, (fun H => by (conv => whnf); (exact ⟨rfl, rfl⟩)), ?_⟩
        conv => whnf
        refine ⟨_, (fun H => by (conv => whnf); (exact ⟨rfl, rfl⟩)), ?_⟩
        conv => whnf
        refine ⟨_, (fun H => by (conv => whnf); (exact ⟨rfl, rfl⟩)), ?_⟩
        conv => whnf
        refine Tr.ret ?_
        conv => whnf
        cases h
        rfl
      · conv => whnf
        refine ⟨_, (fun H => by (conv => whnf); (exact ⟨rfl, rfl⟩)), ?_⟩
        conv => whnf
        refine ⟨_, (fun H => by (conv => whnf); (exact ⟨rfl, rfl⟩)), ?_⟩
        conv => whnf
        refine ⟨_, (fun H => by (conv => whnf); (exact ⟨rfl, rfl⟩)), ?_⟩
        conv => whnf
        refine Tr.ret ?_
        conv => whnf
        cases h
        rfl

theorem s_ranks_direction_choose_with_ranks_worst_2 (f_1 : TField) (w_2 : Int) (runner_3 : Int) (x_4 : TOutcome) (rival_5 : Int) (r_6 : Int) (r_7 : Bool) (h : m_ranks_direction_choose_with_ranks_worst_2 f_1 w_2 runner_3 x_4 rival_5 = some (r_6, r_7)) :
    PC prog 81 [(.ag [(.fn 56 []), (.fn 55 []), (.fn 60 []), (.fn 61 [])]), (eTField f_1), (.i .i64 w_2), (.i .i64 runner_3), (eTOutcome x_4), (.i .i64 rival_5)] (fun rs => rs = [(.i .i64 r_6), (.b r_7)]) := by
  refine PC.of_tr (cx := ⟨49, none, lay, 0⟩) layOK func81 rfl rfl rfl rfl rfl (by simp [f81]) ?_
  unfold m_ranks_direction_choose_with_ranks_worst_2 at h
  refine Tr.seq ?_
  refine Tr.region layOK ?_
  conv => whnf
  refine Tr.seq ?_
  refine Tr.region layOK ?_
  conv => whnf
  obtain ⟨r_8, hc9, h⟩ := bind_some h
  refine PC.ecall (s_ranks_worst_2 2 1 r_8 hc9) (fun rs hrs => ?_)
  subst hrs
  conv => whnf
  refine Tr.seq ?_
  refine Tr.seq ?_
  refine Tr.region layOK ?_
  conv => whnf
  obtain ⟨x_10, hx_10, h⟩ := bind_some h
  refine ixP_of hx_10 ?_
  conv => whnf
  obtain ⟨x_11, hx_11, h⟩ := bind_some h
  refine ixP_of hx_11 ?_
  conv => whnf
  refine lnS_map ?_
  conv => whnf
  refine Tr.cutQ (α := Unit) (fun s => ([(12, .d (.i .i64 0)), (13, .d (.b false)), (14, .d (.b r_8))], [])) (fun s => m_ranks_direction_choose_with_ranks_worst_2_J2 r_8 s = some (r_6, r_7)) ?_ ?_
  · refine Tr.block ?_
    refine Tr.loopM (σ := Int) (fun n s => m_ranks_direction_choose_with_ranks_worst_2_L1 f_1 runner_3 x_4 rival_5 r_8 x_11 (m_ranks_direction_choose_with_ranks_worst_2_J2 r_8) n s) (r_6, r_7) (fun s => ([(3, .d (.i .i64 runner_3)), (5, .d (.i .i64 rival_5)), (6, .pt 0 0), (7, .pt 1 0), (10, .pt 2 0), (12, .d (.i .i64 0)), (13, .d (.b false)), (14, .d (.b r_8)), (28, .d (.ls (List.map eTOutcome x_11))), (29, .d (.i .i64 (((x_11).length : Int)))), (30, .d (.i .i64 s))], [some (.var [.d (.fn 56 []), .d (.fn 55 []), .d (.fn 60 []), .d (.fn 61 [])]), some (.var [.d (.ls (List.map eTSegment f_1.Clocks.Segments)), .d (.ls (List.map (eL eI) f_1.Clocks.Far)), .d (.ls (List.map eTPair f_1.Pairs)), .d (.ls (List.map eTRunner f_1.Runners))]), some (.var [.d (.b x_4.Out), .d (.i .i64 x_4.Seg), .d (.i .i64 x_4.Lo), .d (.i .i64 x_4.Hi)])])) (((((x_11).length : Int)) - 0 : Int).toNat + 1) (0) h (fun s => rfl) (Wk.mk2 [0, 1, 2] 3 rfl rfl (by decide) rfl ⟨⟨rfl, rfl⟩, ⟨rfl, rfl⟩, ⟨rfl, rfl⟩, trivial⟩ ⟨⟨rfl, rfl⟩, ⟨rfl, rfl⟩, ⟨rfl, rfl⟩, ⟨rfl, rfl⟩, ⟨rfl, rfl⟩, ⟨rfl, rfl⟩, ⟨rfl, rfl⟩, ⟨rfl, rfl⟩, ⟨rfl, rfl⟩, ⟨rfl, rfl⟩, ⟨rfl, rfl⟩, trivial⟩) ?_
    clear h
    rintro n_14 v_13 h
    replace h : m_ranks_direction_choose_with_ranks_worst_2_L1 f_1 runner_3 x_4 rival_5 r_8 x_11 (m_ranks_direction_choose_with_ranks_worst_2_J2 r_8) (n_14 + 1) v_13 = some (r_6, r_7) := h
    rw [m_ranks_direction_choose_with_ranks_worst_2_L1] at h
    refine Tr.seq ?_
    refine Tr.region layOK ?_
    conv => whnf
    refine Tr.seq ?_
    refine Tr.cond ?_
    conv => whnf
    refine condS_bif h (fun hb17 h => ?_) (fun hb17 h => ?_)
    · refine Tr.skip ?_
      conv => whnf
      refine Tr.seq ?_
      refine Tr.block ?_
      refine Tr.seq ?_
      refine Tr.region layOK ?_
      conv => whnf
      obtain ⟨x_18, hx_18, h⟩ := bind_some h
      refine ixP_of hx_18 ?_
      conv => whnf
      refine Tr.seq ?_
      refine Tr.region layOK ?_
      conv => whnf
      obtain ⟨r_19, hc20, h⟩ := bind_some h
      refine PC.ecall (s_ranks_direction_ahead_with_ranks_worst_2 f_1 runner_3 x_4 rival_5 x_18 r_19 hc20) (fun rs hrs => ?_)
      subst hrs
      conv => whnf
      refine Tr.cond ?_
      conv => whnf
      refine condS_bif h (fun hb21 h => ?_) (fun hb21 h => ?_)
      · refine Tr.seq ?_
        refine Tr.region layOK ?_
        conv => whnf
        refine Tr.ret ?_
        conv => whnf
        cases h
        rfl
      · refine Tr.skip ?_
        conv => whnf
        refine Tr.region layOK ?_
        conv => whnf
        refine arS_raw ?_
        conv => whnf
        refine ⟨((w64 (v_13 + 1))), h, ?_⟩
        exact Wk.mk2 [0, 1, 2] 4 rfl rfl (by decide) rfl ⟨⟨rfl, rfl⟩, ⟨rfl, rfl⟩, ⟨rfl, rfl⟩, trivial⟩ ⟨⟨rfl, rfl⟩, ⟨rfl, rfl⟩, ⟨rfl, rfl⟩, ⟨rfl, rfl⟩, ⟨rfl, rfl⟩, ⟨rfl, rfl⟩, ⟨rfl, rfl⟩, ⟨rfl, rfl⟩, ⟨rfl, rfl⟩, ⟨rfl, rfl⟩, ⟨rfl, rfl⟩, trivial⟩
    · refine Tr.exit ?_
      conv => whnf
      refine ⟨(), h, ?_⟩
      exact Wk.mk2 [] 3 rfl rfl (by decide) rfl trivial ⟨⟨rfl, rfl⟩, ⟨rfl, rfl⟩, ⟨rfl, rfl⟩, trivial⟩
  · clear h
    rintro _ h T1 H1 hw
    replace h : m_ranks_direction_choose_with_ranks_worst_2_J2 r_8 () = some (r_6, r_7) := h
    conv => whnf
    refine Tr.weak hw ?_
    unfold m_ranks_direction_choose_with_ranks_worst_2_J2 at h
    refine Tr.seq ?_
    refine Tr.region layOK ?_
    conv => whnf
    refine Tr.ret ?_
    conv => whnf
    cases h
    rfl

theorem s_ranks_direction_drive_with_ranks_worst_2 (f_1 : TField) (runner_2 : Int) (r_3 : Tranks_place) (r_4 : Bool) (h : m_ranks_direction_drive_with_ranks_worst_2 f_1 runner_2 = some (r_3, r_4)) :
    PC prog 68 [(.ag [(.fn 56 []), (.fn 55 []), (.fn 60 []), (.fn 61 [])]), (eTField f_1), (.i .i64 runner_2)] (fun rs => rs = [(eTranks_place r_3), (.b r_4)]) := by
  refine PC.of_tr (cx := ⟨75, none, lay, 0⟩) layOK func68 rfl rfl rfl rfl rfl (by simp [f68]) ?_
  unfold m_ranks_direction_drive_with_ranks_worst_2 at h
  refine Tr.seq ?_
  refine Tr.region layOK ?_
  conv => whnf
  refine Tr.seq ?_
  refine Tr.seq ?_
  refine Tr.region layOK ?_
  conv => whnf
  obtain ⟨⟨c_5, c_6, c_7, c_8⟩, hc9, h⟩ := bind_some h
  refine PC.ecall (s_ranks_worlds f_1 c_5 c_6 c_7 c_8 hc9) (fun rs hrs => ?_)
  subst hrs
  conv => whnf
  obtain ⟨l_10, hl11, h⟩ := bind_some h
  obtain ⟨⟨v_65, v_66, v_67, v_68⟩, hv69, h⟩ := bind_some h
  refine Tr.block ?_
  refine Tr.rangeM layOK rfl (ge := fun a => [(.i .i64 a)]) rfl (it_ranks_worlds_1 c_5 c_6 c_7 c_8 l_10 hl11) (fun _ => rfl) rfl (fun s => [some (.var [.d (.fn 56 []), .d (.fn 55 []), .d (.fn 60 []), .d (.fn 61 [])]), some (.var [.d (.ls (List.map eTSegment f_1.Clocks.Segments)), .d (.ls (List.map (eL eI) f_1.Clocks.Far)), .d (.ls (List.map eTPair f_1.Pairs)), .d (.ls (List.map eTRunner f_1.Runners))]), some (.var [.d (.i .i64 runner_2)]), some (.var [.d (.i .i64 s.1), .d (.i .i64 s.2.1), .d (.i .i64 s.2.2.1)]), some (.var [.d (.b s.2.2.2)])]) (m_ranks_direction_drive_with_ranks_worst_2_R1 f_1 runner_2) (0, 0, 0, false) (v_65, v_66, v_67, v_68) hv69 (Wk.mk2 [0, 1, 2, 3, 4] 5 rfl rfl (by decide) rfl ⟨⟨rfl, rfl⟩, ⟨rfl, rfl⟩, ⟨rfl, rfl⟩, ⟨rfl, rfl⟩, ⟨rfl, rfl⟩, trivial⟩ trivial) ?_ ?_
  · clear h hv69
    rintro li y_12 ⟨v_17, v_18, v_19, v_20⟩ s_70 ha h
    replace h : (m_ranks_direction_drive_with_ranks_worst_2_R1 f_1 runner_2) y_12 (v_17, v_18, v_19, v_20) = some s_70 := h
    unfold m_ranks_direction_drive_with_ranks_worst_2_R1 at h
    dsimp only at h
    conv => whnf
    refine Tr.block ?_
    refine Tr.seq ?_
    refine Tr.region layOK ?_
    conv => whnf
    obtain ⟨x_21, hx_21, h⟩ := bind_some h
    refine ixP_of hx_21 ?_
    conv => whnf
    obtain ⟨x_22, hx_22, h⟩ := bind_some h
    refine ixP_of hx_22 ?_
    conv => whnf
    refine lnS_map ?_
    conv => whnf
    obtain ⟨⟨v_34, v_35, v_36, v_37⟩, hv64, h⟩ := bind_some h
    refine Tr.cutQ1 ([]) ([some (.var [.d (.fn 56 []), .d (.fn 55 []), .d (.fn 60 []), .d (.fn 61 [])]), some (.var [.d (.ls (List.map eTSegment f_1.Clocks.Segments)), .d (.ls (List.map (eL eI) f_1.Clocks.Far)), .d (.ls (List.map eTPair f_1.Pairs)), .d (.ls (List.map eTRunner f_1.Runners))]), some (.var [.d (.i .i64 runner_2)]), some (.var [.d (.i .i64 v_34), .d (.i .i64 v_35), .d (.i .i64 v_36)]), some (.var [.d (.b v_37)])]) ?_ (fun T1 H1 hw => ?_)
    · replace h := hv64; clear hv64
      refine Tr.block ?_
      refine Tr.loopM (σ := Int × Int × Int × Int × Bool) (fun n s => m_ranks_direction_drive_with_ranks_worst_2_L2 f_1 runner_2 y_12 x_22 n s.1 s.2.1 s.2.2.1 s.2.2.2.1 s.2.2.2.2) (v_34, v_35, v_36, v_37) (fun s => ([(3, .pt 0 0), (4, .pt 1 0), (5, .pt 2 0), (6, .pt 3 0), (7, .pt 4 0), (8, .d (.i .i64 y_12)), (26, .d (.ls (List.map eTOutcome x_22))), (27, .d (.i .i64 (((x_22).length : Int)))), (28, .d (.i .i64 s.1))], [some (.var [.d (.fn 56 []), .d (.fn 55 []), .d (.fn 60 []), .d (.fn 61 [])]), some (.var [.d (.ls (List.map eTSegment f_1.Clocks.Segments)), .d (.ls (List.map (eL eI) f_1.Clocks.Far)), .d (.ls (List.map eTPair f_1.Pairs)), .d (.ls (List.map eTRunner f_1.Runners))]), some (.var [.d (.i .i64 runner_2)]), some (.var [.d (.i .i64 s.2.1), .d (.i .i64 s.2.2.1), .d (.i .i64 s.2.2.2.1)]), some (.var [.d (.b s.2.2.2.2)])])) (((((x_22).length : Int)) - 0 : Int).toNat + 1) (0, v_17, v_18, v_19, v_20) h (fun s => rfl) (Wk.mk2 [0, 1, 2, 3, 4] 5 rfl rfl (by decide) rfl ⟨⟨rfl, rfl⟩, ⟨rfl, rfl⟩, ⟨rfl, rfl⟩, ⟨rfl, rfl⟩, ⟨rfl, rfl⟩, trivial⟩ ⟨⟨rfl, rfl⟩, ⟨rfl, rfl⟩, ⟨rfl, rfl⟩, ⟨rfl, rfl⟩, ⟨rfl, rfl⟩, ⟨rfl, rfl⟩, ⟨rfl, rfl⟩, ⟨rfl, rfl⟩, ⟨rfl, rfl⟩, trivial⟩) ?_
      clear h
      rintro n_33 ⟨v_28, v_29, v_30, v_31, v_32⟩ h
      replace h : m_ranks_direction_drive_with_ranks_worst_2_L2 f_1 runner_2 y_12 x_22 (n_33 + 1) v_28 v_29 v_30 v_31 v_32 = some (v_34, v_35, v_36, v_37) := h
      rw [m_ranks_direction_drive_with_ranks_worst_2_L2] at h
      refine Tr.seq ?_
      refine Tr.region layOK ?_
      conv => whnf
      refine Tr.seq ?_
      refine Tr.cond ?_
      conv => whnf
      refine condS_bif h (fun hb40 h => ?_) (fun hb40 h => ?_)
      · refine Tr.skip ?_
        conv => whnf
        refine Tr.seq ?_
        refine Tr.block ?_
        refine Tr.seq ?_
        refine Tr.region layOK ?_
        conv => whnf
        obtain ⟨x_41, hx_41, h⟩ := bind_some h
        refine ixP_of hx_41 ?_
        conv => whnf
        refine Tr.seq ?_
        refine Tr.seq ?_
        refine Tr.region layOK ?_
        conv => whnf
        refine Tr.cond ?_
        conv => whnf
        refine condS_bif h (fun hb42 h => ?_) (fun hb42 h => ?_)
        · refine Tr.exit ?_
          conv => whnf
          refine Tr.region layOK ?_
          conv => whnf
          refine arS_raw ?_
          conv => whnf
          refine ⟨((w64 (v_28 + 1)), v_29, v_30, v_31, v_32), h, ?_⟩
          exact Wk.mk2 [0, 1, 2, 3, 4] 6 rfl rfl (by decide) rfl ⟨⟨rfl, rfl⟩, ⟨rfl, rfl⟩, ⟨rfl, rfl⟩, ⟨rfl, rfl⟩, ⟨rfl, rfl⟩, trivial⟩ ⟨⟨rfl, rfl⟩, ⟨rfl, rfl⟩, ⟨rfl, rfl⟩, ⟨rfl, rfl⟩, ⟨rfl, rfl⟩, ⟨rfl, rfl⟩, ⟨rfl, rfl⟩, ⟨rfl, rfl⟩, ⟨rfl, rfl⟩, trivial⟩
        · refine Tr.skip ?_
          conv => whnf
          refine Tr.seq ?_
          refine Tr.region layOK ?_
          conv => whnf
          refine Tr.seq ?_
          refine Tr.seq ?_
          refine Tr.region layOK ?_
          conv => whnf
          refine lnS_map ?_
          conv => whnf
          obtain ⟨n_48, hv57, h⟩ := bind_some h
          refine Tr.cutQ1 ([(3, .pt 0 0), (4, .pt 1 0), (5, .pt 2 0), (6, .pt 3 0), (7, .pt 4 0), (8, .d (.i .i64 y_12)), (9, .d (.i .i64 v_28)), (11, .d (.i .i64 n_48)), (26, .d (.ls (List.map eTOutcome x_22))), (27, .d (.i .i64 (((x_22).length : Int)))), (28, .d (.i .i64 v_28))]) ([some (.var [.d (.fn 56 []), .d (.fn 55 []), .d (.fn 60 []), .d (.fn 61 [])]), some (.var [.d (.ls (List.map eTSegment f_1.Clocks.Segments)), .d (.ls (List.map (eL eI) f_1.Clocks.Far)), .d (.ls (List.map eTPair f_1.Pairs)), .d (.ls (List.map eTRunner f_1.Runners))]), some (.var [.d (.i .i64 runner_2)]), some (.var [.d (.i .i64 v_29), .d (.i .i64 v_30), .d (.i .i64 v_31)]), some (.var [.d (.b v_32)])]) ?_ (fun T1 H1 hw => ?_)
          · replace h := hv57; clear hv57
            refine Tr.block ?_
            refine Tr.loopM (σ := Int × Int) (fun n s => m_ranks_direction_drive_with_ranks_worst_2_L3 f_1 runner_2 y_12 x_41 n s.1 s.2) n_48 (fun s => ([(3, .pt 0 0), (4, .pt 1 0), (5, .pt 2 0), (6, .pt 3 0), (7, .pt 4 0), (8, .d (.i .i64 y_12)), (9, .d (.i .i64 v_28)), (10, .pt 5 0), (11, .d (.i .i64 s.1)), (26, .d (.ls (List.map eTOutcome x_22))), (27, .d (.i .i64 (((x_22).length : Int)))), (28, .d (.i .i64 v_28)), (37, .d (.i .i64 (((f_1.Runners).length : Int)))), (38, .d (.i .i64 s.2))], [some (.var [.d (.fn 56 []), .d (.fn 55 []), .d (.fn 60 []), .d (.fn 61 [])]), some (.var [.d (.ls (List.map eTSegment f_1.Clocks.Segments)), .d (.ls (List.map (eL eI) f_1.Clocks.Far)), .d (.ls (List.map eTPair f_1.Pairs)), .d (.ls (List.map eTRunner f_1.Runners))]), some (.var [.d (.i .i64 runner_2)]), some (.var [.d (.i .i64 v_29), .d (.i .i64 v_30), .d (.i .i64 v_31)]), some (.var [.d (.b v_32)]), some (.var [.d (.b x_41.Out), .d (.i .i64 x_41.Seg), .d (.i .i64 x_41.Lo), .d (.i .i64 x_41.Hi)])])) (((((f_1.Runners).length : Int)) - 0 : Int).toNat + 1) (1, 0) h (fun s => rfl) (Wk.mk2 [0, 1, 2, 3, 4, 5] 6 rfl rfl (by decide) rfl ⟨⟨rfl, rfl⟩, ⟨rfl, rfl⟩, ⟨rfl, rfl⟩, ⟨rfl, rfl⟩, ⟨rfl, rfl⟩, ⟨rfl, rfl⟩, trivial⟩ ⟨⟨rfl, rfl⟩, ⟨rfl, rfl⟩, ⟨rfl, rfl⟩, ⟨rfl, rfl⟩, ⟨rfl, rfl⟩, ⟨rfl, rfl⟩, ⟨rfl, rfl⟩, ⟨rfl, rfl⟩, ⟨rfl, rfl⟩, ⟨rfl, rfl⟩, ⟨rfl, rfl⟩, ⟨rfl, rfl⟩, ⟨rfl, rfl⟩, ⟨rfl, rfl⟩, trivial⟩) ?_
            clear h
            rintro n_47 ⟨n_45, v_46⟩ h
            replace h : m_ranks_direction_drive_with_ranks_worst_2_L3 f_1 runner_2 y_12 x_41 (n_47 + 1) n_45 v_46 = some n_48 := h
            rw [m_ranks_direction_drive_with_ranks_worst_2_L3] at h
            refine Tr.seq ?_
            refine Tr.region layOK ?_
            conv => whnf
            refine Tr.seq ?_
            refine Tr.cond ?_
            conv => whnf
            refine condS_bif h (fun hb51 h => ?_) (fun hb51 h => ?_)
            · refine Tr.skip ?_
              conv => whnf
              refine Tr.seq ?_
              refine Tr.block ?_
              refine Tr.seq ?_
              refine Tr.region layOK ?_
              conv => whnf
              refine Tr.seq ?_
              refine Tr.seq ?_
              refine Tr.region layOK ?_
              conv => whnf
              refine Tr.cond ?_
              conv => whnf
              refine condS_bif h (fun hb52 h => ?_) (fun hb52 h => ?_)
              · refine Tr.exit ?_
                conv => whnf
                refine Tr.region layOK ?_
                conv => whnf
                refine arS_raw ?_
                conv => whnf
                refine ⟨(n_45, (w64 (v_46 + 1))), h, ?_⟩
                exact Wk.mk2 [0, 1, 2, 3, 4, 5] 6 rfl rfl (by decide) rfl ⟨⟨rfl, rfl⟩, ⟨rfl, rfl⟩, ⟨rfl, rfl⟩, ⟨rfl, rfl⟩, ⟨rfl, rfl⟩, ⟨rfl, rfl⟩, trivial⟩ ⟨⟨rfl, rfl⟩, ⟨rfl, rfl⟩, ⟨rfl, rfl⟩, ⟨rfl, rfl⟩, ⟨rfl, rfl⟩, ⟨rfl, rfl⟩, ⟨rfl, rfl⟩, ⟨rfl, rfl⟩, ⟨rfl, rfl⟩, ⟨rfl, rfl⟩, ⟨rfl, rfl⟩, ⟨rfl, rfl⟩, ⟨rfl, rfl⟩, ⟨rfl, rfl⟩, trivial⟩
              · refine Tr.skip ?_
                conv => whnf
                refine Tr.seq ?_
                refine Tr.region layOK ?_
                conv => whnf
                obtain ⟨⟨r_53, r_54⟩, hc55, h⟩ := bind_some h
                refine PC.ecall (s_ranks_direction_choose_with_ranks_worst_2 f_1 y_12 runner_2 x_41 v_46 r_53 r_54 hc55) (fun rs hrs => ?_)
                subst hrs
                conv => whnf
                refine Tr.seq ?_
                refine Tr.region layOK ?_
                conv => whnf
                refine Tr.cond ?_
                conv => whnf
                refine condS_bif h (fun hb56 h => ?_) (fun hb56 h => ?_)
                · refine Tr.region layOK ?_
                  conv => whnf
                  refine arS_raw ?_
                  conv => whnf
                  refine Tr.region layOK ?_
                  conv => whnf
                  refine arS_raw ?_
                  conv => whnf
                  refine ⟨((w64 (n_45 + 1)), (w64 (v_46 + 1))), h, ?_⟩
                  exact Wk.mk2 [0, 1, 2, 3, 4, 5] 6 rfl rfl (by decide) rfl ⟨⟨rfl, rfl⟩, ⟨rfl, rfl⟩, ⟨rfl, rfl⟩, ⟨rfl, rfl⟩, ⟨rfl, rfl⟩, ⟨rfl, rfl⟩, trivial⟩ ⟨⟨rfl, rfl⟩, ⟨rfl, rfl⟩, ⟨rfl, rfl⟩, ⟨rfl, rfl⟩, ⟨rfl, rfl⟩, ⟨rfl, rfl⟩, ⟨rfl, rfl⟩, ⟨rfl, rfl⟩, ⟨rfl, rfl⟩, ⟨rfl, rfl⟩, ⟨rfl, rfl⟩, ⟨rfl, rfl⟩, ⟨rfl, rfl⟩, ⟨rfl, rfl⟩, trivial⟩
                · refine Tr.skip ?_
                  conv => whnf
                  refine Tr.region layOK ?_
                  conv => whnf
                  refine arS_raw ?_
                  conv => whnf
                  refine ⟨(n_45, (w64 (v_46 + 1))), h, ?_⟩
                  exact Wk.mk2 [0, 1, 2, 3, 4, 5] 6 rfl rfl (by decide) rfl ⟨⟨rfl, rfl⟩, ⟨rfl, rfl⟩, ⟨rfl, rfl⟩, ⟨rfl, rfl⟩, ⟨rfl, rfl⟩, ⟨rfl, rfl⟩, trivial⟩ ⟨⟨rfl, rfl⟩, ⟨rfl, rfl⟩, ⟨rfl, rfl⟩, ⟨rfl, rfl⟩, ⟨rfl, rfl⟩, ⟨rfl, rfl⟩, ⟨rfl, rfl⟩, ⟨rfl, rfl⟩, ⟨rfl, rfl⟩, ⟨rfl, rfl⟩, ⟨rfl, rfl⟩, ⟨rfl, rfl⟩, ⟨rfl, rfl⟩, ⟨rfl, rfl⟩, trivial⟩
            · refine Tr.exit ?_
              conv => whnf
              cases h
              exact Wk.mk2 [0, 1, 2, 3, 4] 6 rfl rfl (by decide) rfl ⟨⟨rfl, rfl⟩, ⟨rfl, rfl⟩, ⟨rfl, rfl⟩, ⟨rfl, rfl⟩, ⟨rfl, rfl⟩, trivial⟩ ⟨⟨rfl, rfl⟩, ⟨rfl, rfl⟩, ⟨rfl, rfl⟩, ⟨rfl, rfl⟩, ⟨rfl, rfl⟩, ⟨rfl, rfl⟩, ⟨rfl, rfl⟩, ⟨rfl, rfl⟩, ⟨rfl, rfl⟩, ⟨rfl, rfl⟩, ⟨rfl, rfl⟩, trivial⟩
          · clear hv57
            conv => whnf
            refine Tr.weak hw ?_
            refine Tr.seq ?_
            obtain ⟨v_58, hv59, h⟩ := bind_some h
            refine Tr.cutQ1 ([(3, .pt 0 0), (4, .pt 1 0), (5, .pt 2 0), (6, .pt 3 0), (7, .pt 4 0), (8, .d (.i .i64 y_12)), (9, .d (.i .i64 v_28)), (11, .d (.i .i64 n_48)), (26, .d (.ls (List.map eTOutcome x_22))), (27, .d (.i .i64 (((x_22).length : Int)))), (28, .d (.i .i64 v_28)), (67, .d (.b v_58))]) ([some (.var [.d (.fn 56 []), .d (.fn 55 []), .d (.fn 60 []), .d (.fn 61 [])]), some (.var [.d (.ls (List.map eTSegment f_1.Clocks.Segments)), .d (.ls (List.map (eL eI) f_1.Clocks.Far)), .d (.ls (List.map eTPair f_1.Pairs)), .d (.ls (List.map eTRunner f_1.Runners))]), some (.var [.d (.i .i64 runner_2)]), some (.var [.d (.i .i64 v_29), .d (.i .i64 v_30), .d (.i .i64 v_31)]), some (.var [.d (.b v_32)])]) ?_ (fun T1 H1 hw => ?_)
            · replace h := hv59; clear hv59
              refine Tr.region layOK ?_
              conv => whnf
              refine condS_bif h (fun hb60 h => ?_) (fun hb60 h => ?_)
              · conv => whnf
                cases h
                exact Wk.mk2 [0, 1, 2, 3, 4] 5 rfl rfl (by decide) rfl ⟨⟨rfl, rfl⟩, ⟨rfl, rfl⟩, ⟨rfl, rfl⟩, ⟨rfl, rfl⟩, ⟨rfl, rfl⟩, trivial⟩ ⟨⟨rfl, rfl⟩, ⟨rfl, rfl⟩, ⟨rfl, rfl⟩, ⟨rfl, rfl⟩, ⟨rfl, rfl⟩, ⟨rfl, rfl⟩, ⟨rfl, rfl⟩, ⟨rfl, rfl⟩, ⟨rfl, rfl⟩, ⟨rfl, rfl⟩, ⟨rfl, rfl⟩, ⟨rfl, rfl⟩, trivial⟩
              · conv => whnf
                obtain ⟨r_61, hc62, h⟩ := bind_some h
                refine PC.ecall (s_ranks_worst_2 n_48 v_31 r_61 hc62) (fun rs hrs => ?_)
                subst hrs
                conv => whnf
                cases h
                exact Wk.mk2 [0, 1, 2, 3, 4] 5 rfl rfl (by decide) rfl ⟨⟨rfl, rfl⟩, ⟨rfl, rfl⟩, ⟨rfl, rfl⟩, ⟨rfl, rfl⟩, ⟨rfl, rfl⟩, trivial⟩ ⟨⟨rfl, rfl⟩, ⟨rfl, rfl⟩, ⟨rfl, rfl⟩, ⟨rfl, rfl⟩, ⟨rfl, rfl⟩, ⟨rfl, rfl⟩, ⟨rfl, rfl⟩, ⟨rfl, rfl⟩, ⟨rfl, rfl⟩, ⟨rfl, rfl⟩, ⟨rfl, rfl⟩, ⟨rfl, rfl⟩, trivial⟩
            · clear hv59
              conv => whnf
              refine Tr.weak hw ?_
              refine Tr.cond ?_
              conv => whnf
              refine condS_bif h (fun hb63 h => ?_) (fun hb63 h => ?_)
              · refine Tr.region layOK ?_
                conv => whnf
                refine Tr.region layOK ?_
                conv => whnf
                refine arS_raw ?_
                conv => whnf
                refine ⟨((w64 (v_28 + 1)), y_12, v_28, n_48, true), h, ?_⟩
                exact Wk.mk2 [0, 1, 2, 3, 4] 5 rfl rfl (by decide) rfl ⟨⟨rfl, rfl⟩, ⟨rfl, rfl⟩, ⟨rfl, rfl⟩, ⟨rfl, rfl⟩, ⟨rfl, rfl⟩, trivial⟩ ⟨⟨rfl, rfl⟩, ⟨rfl, rfl⟩, ⟨rfl, rfl⟩, ⟨rfl, rfl⟩, ⟨rfl, rfl⟩, ⟨rfl, rfl⟩, ⟨rfl, rfl⟩, ⟨rfl, rfl⟩, ⟨rfl, rfl⟩, trivial⟩
              · refine Tr.skip ?_
                conv => whnf
                refine Tr.region layOK ?_
                conv => whnf
                refine arS_raw ?_
                conv => whnf
                refine ⟨((w64 (v_28 + 1)), v_29, v_30, v_31, v_32), h, ?_⟩
                exact Wk.mk2 [0, 1, 2, 3, 4] 5 rfl rfl (by decide) rfl ⟨⟨rfl, rfl⟩, ⟨rfl, rfl⟩, ⟨rfl, rfl⟩, ⟨rfl, rfl⟩, ⟨rfl, rfl⟩, trivial⟩ ⟨⟨rfl, rfl⟩, ⟨rfl, rfl⟩, ⟨rfl, rfl⟩, ⟨rfl, rfl⟩, ⟨rfl, rfl⟩, ⟨rfl, rfl⟩, ⟨rfl, rfl⟩, ⟨rfl, rfl⟩, ⟨rfl, rfl⟩, trivial⟩
      · refine Tr.exit ?_
        conv => whnf
        cases h
        exact Wk.mk2 [0, 1, 2, 3, 4] 5 rfl rfl (by decide) rfl ⟨⟨rfl, rfl⟩, ⟨rfl, rfl⟩, ⟨rfl, rfl⟩, ⟨rfl, rfl⟩, ⟨rfl, rfl⟩, trivial⟩ trivial
    · clear hv64
      conv => whnf
      cases h
      refine Wk.trans (F := 5) hw ?_
      exact Wk.mk2 [0, 1, 2, 3, 4] 5 rfl rfl (by decide) rfl ⟨⟨rfl, rfl⟩, ⟨rfl, rfl⟩, ⟨rfl, rfl⟩, ⟨rfl, rfl⟩, ⟨rfl, rfl⟩, trivial⟩ trivial
  · clear hv69
    conv => whnf
    refine Tr.seq ?_
    refine Tr.draw (DrawP.seqQ layOK mixed [(2, 3), (3, 4)] [(0, 6), (1, 7), (2, 0), (3, 0)] (by kernel_rfl) ?_)
    conv => whnf
    refine ⟨_, ⟨rfl, rfl, (by (conv => whnf); (exact ⟨rfl, rfl⟩))⟩, ?_⟩
    conv => whnf
    refine ⟨_, ⟨rfl, rfl, (by (conv => whnf); (exact ⟨rfl, rfl⟩))⟩, ?_⟩
    conv => whnf
    refine ⟨_, _, (by (conv => whnf); (exact ⟨rfl, rfl⟩)), kp_ok (by repeat (first | exact trivial | refine ⟨trivial, ?_⟩ | refine ⟨rfl, ?_⟩)), ?_⟩
    conv => whnf
    refine ⟨_, _, (by (conv => whnf); (exact ⟨rfl, rfl⟩)), kp_ok (by repeat (first | exact trivial | refine ⟨trivial, ?_⟩ | refine ⟨rfl, ?_⟩)), ?_⟩
    conv => whnf
    refine Tr.ret ?_
    conv => whnf
    cases h
    rfl

theorem s_ranks_of (f_1 : TField) (runner_2 : Int) (r_3 : TRank) (h : m_ranks_of f_1 runner_2 = some r_3) :
    PC prog 46 [(eTField f_1), (.i .i64 runner_2)] (fun rs => rs = [(eTRank r_3)]) := by
  refine PC.of_tr (cx := ⟨72, none, lay, 0⟩) layOK func46 rfl rfl rfl rfl rfl (by simp [f46]) ?_
  unfold m_ranks_of at h
  refine Tr.seq ?_
  refine Tr.region layOK ?_
  conv => whnf
  refine Tr.seq ?_
  refine Tr.region layOK ?_
  conv => whnf
  obtain ⟨x_4, hx_4, h⟩ := bind_some h
  refine ixP_of hx_4 ?_
  conv => whnf
  refine Tr.seq ?_
  refine Tr.seq ?_
  refine Tr.region layOK ?_
  conv => whnf
  obtain ⟨⟨c_5, c_6, c_7, c_8⟩, hc9, h⟩ := bind_some h
  refine PC.ecall (s_ranks_worlds f_1 c_5 c_6 c_7 c_8 hc9) (fun rs hrs => ?_)
  subst hrs
  conv => whnf
  obtain ⟨l_10, hl11, h⟩ := bind_some h
  obtain ⟨v_20, hv32, h⟩ := bind_some h
  refine Tr.block ?_
  refine Tr.rangeM layOK rfl (ge := fun a => [(.i .i64 a)]) rfl (it_ranks_worlds_1 c_5 c_6 c_7 c_8 l_10 hl11) (fun _ => rfl) rfl (fun s => [some (.var [.d (.ls (List.map eTSegment f_1.Clocks.Segments)), .d (.ls (List.map (eL eI) f_1.Clocks.Far)), .d (.ls (List.map eTPair f_1.Pairs)), .d (.ls (List.map eTRunner f_1.Runners))]), some (.var [.d (.i .i64 runner_2)]), some (.var [.d (.i .i64 0), .d (.i .i64 0), .d (.i .i64 0), .d (.i .i64 0), .d (.b false)]), some (.var [.d (.i .i64 x_4.Bib), .d (.i .i64 3), .d (.i .i64 0), .d (.i .i64 0), .d (.b s)])]) (m_ranks_of_R1 f_1 runner_2) (false) v_20 hv32 (Wk.mk2 [0, 1, 2, 3] 4 rfl rfl (by decide) rfl ⟨⟨rfl, rfl⟩, ⟨rfl, rfl⟩, ⟨rfl, rfl⟩, ⟨rfl, rfl⟩, trivial⟩ trivial) ?_ ?_
  · clear h hv32
    rintro li y_12 v_14 s_33 ha h
    replace h : (m_ranks_of_R1 f_1 runner_2) y_12 v_14 = some s_33 := h
    unfold m_ranks_of_R1 at h
    dsimp only at h
    conv => whnf
    refine Tr.block ?_
    refine Tr.region layOK ?_
    conv => whnf
    refine condS_bif h (fun hb15 h => ?_) (fun hb15 h => ?_)
    · conv => whnf
      cases h
      exact Wk.mk2 [0, 1, 2, 3] 4 rfl rfl (by decide) rfl ⟨⟨rfl, rfl⟩, ⟨rfl, rfl⟩, ⟨rfl, rfl⟩, ⟨rfl, rfl⟩, trivial⟩ trivial
    · conv => whnf
      obtain ⟨x_16, hx_16, h⟩ := bind_some h
      refine ixP_of hx_16 ?_
      conv => whnf
      obtain ⟨x_17, hx_17, h⟩ := bind_some h
      refine ixP_of hx_17 ?_
      conv => whnf
      obtain ⟨r_18, hc19, h⟩ := bind_some h
      refine PC.ecall (s_slices_ContainsFunc_Outcome_Outcome_with_ranks_of_1 x_17 r_18 hc19) (fun rs hrs => ?_)
      subst hrs
      conv => whnf
      cases h
      exact Wk.mk2 [0, 1, 2, 3] 4 rfl rfl (by decide) rfl ⟨⟨rfl, rfl⟩, ⟨rfl, rfl⟩, ⟨rfl, rfl⟩, ⟨rfl, rfl⟩, trivial⟩ trivial
  · clear hv32
    conv => whnf
    refine Tr.seq ?_
    refine Tr.draw (DrawP.seqQ layOK mixed [(8, 4)] [(0, 1), (1, 3), (2, 4), (3, 1), (4, 1), (5, 1), (6, 1), (7, 0), (8, 0), (9, 1)] (by kernel_rfl) ?_)
    conv => whnf
    obtain ⟨_, hc21, h⟩ := bind_some h
    refine ⟨_, (fun H => by (conv => whnf); (refine PC.ecall (s_ranks_best  hc21) (fun rs hrs => ?_)); (subst hrs); (conv => whnf); (exact ⟨rfl, rfl⟩)), ?_⟩
    conv => whnf
    refine ⟨_, ⟨rfl, rfl, (by (conv => whnf); (exact ⟨rfl, rfl⟩))⟩, ?_⟩
    conv => whnf
    refine ⟨_, ⟨rfl, rfl, (by (conv => whnf); (exact ⟨rfl, rfl⟩))⟩, ?_⟩
    conv => whnf
    obtain ⟨⟨r_22, r_23⟩, hc24, h⟩ := bind_some h
    refine ⟨_, (fun H => by (conv => whnf); (refine PC.ecall (s_ranks_direction_drive_with_ranks_best_2 f_1 runner_2 r_22 r_23 hc24) (fun rs hrs => ?_)); (subst hrs); (conv => whnf); (exact ⟨rfl, rfl⟩)), ?_⟩
    conv => whnf
    refine ⟨_, (fun H => by (conv => whnf); (exact ⟨rfl, rfl⟩)), ?_⟩
    conv => whnf
    refine ⟨_, (fun H => by (conv => whnf); (exact ⟨rfl, rfl⟩)), ?_⟩
    conv => whnf
    refine ⟨_, (fun H => by (conv => whnf); (exact ⟨rfl, rfl⟩)), ?_⟩
    conv => whnf
    refine ⟨_, _, (by (conv => whnf); (exact ⟨rfl, rfl⟩)), kp_ok (by repeat (first | exact trivial | refine ⟨trivial, ?_⟩ | refine ⟨rfl, ?_⟩)), ?_⟩
    conv => whnf
    refine ⟨_, _, (by (conv => whnf); (exact ⟨rfl, rfl⟩)), kp_ok (by repeat (first | exact trivial | refine ⟨trivial, ?_⟩ | refine ⟨rfl, ?_⟩)), ?_⟩
    conv => whnf
    refine ⟨_, (fun H => by (conv => whnf); (exact ⟨rfl, rfl⟩)), ?_⟩
    conv => whnf
    refine Tr.seq ?_
    refine Tr.seq ?_
    refine Tr.region layOK ?_
    conv => whnf
    refine Tr.cond ?_
    conv => whnf
    refine condS_bif h (fun hb25 h => ?_) (fun hb25 h => ?_)
    · refine Tr.seq ?_
      refine Tr.region layOK ?_
      conv => whnf
      refine Tr.ret ?_
      conv => whnf
      cases h
      rfl
    · refine Tr.skip ?_
      conv => whnf
      refine Tr.seq ?_
      refine Tr.draw (DrawP.seqQ layOK mixed [(8, 5)] [(0, 1), (1, 3), (2, 4), (3, 1), (4, 1), (5, 1), (6, 1), (7, 0), (8, 0), (9, 1)] (by kernel_rfl) ?_)
      conv => whnf
      obtain ⟨_, hc26, h⟩ := bind_some h
      refine ⟨_, (fun H => by (conv => whnf); (refine PC.ecall (s_ranks_worst  hc26) (fun rs hrs => ?_)); (subst hrs); (conv => whnf); (exact ⟨rfl, rfl⟩)), ?_⟩
      conv => whnf
      refine ⟨_, ⟨rfl, rfl, (by (conv => whnf); (exact ⟨rfl, rfl⟩))⟩, ?_⟩
      conv => whnf
      refine ⟨_, ⟨rfl, rfl, (by (conv => whnf); (exact ⟨rfl, rfl⟩))⟩, ?_⟩
      conv => whnf
      obtain ⟨⟨r_27, r_28⟩, hc29, h⟩ := bind_some h
      refine ⟨_, (fun H => by (conv => whnf); (refine PC.ecall (s_ranks_direction_drive_with_ranks_worst_2 f_1 runner_2 r_27 r_28 hc29) (fun rs hrs => ?_)); (subst hrs); (conv => whnf); (exact ⟨rfl, rfl⟩)), ?_⟩
      conv => whnf
      refine ⟨_, (fun H => by (conv => whnf); (exact ⟨rfl, rfl⟩)), ?_⟩
      conv => whnf
      refine ⟨_, (fun H => by (conv => whnf); (exact ⟨rfl, rfl⟩)), ?_⟩
      conv => whnf
      refine ⟨_, (fun H => by (conv => whnf); (exact ⟨rfl, rfl⟩)), ?_⟩
      conv => whnf
      refine ⟨_, _, (by (conv => whnf); (exact ⟨rfl, rfl⟩)), kp_ok (by repeat (first | exact trivial | refine ⟨trivial, ?_⟩ | refine ⟨rfl, ?_⟩)), ?_⟩
      conv => whnf
      refine ⟨_, _, (by (conv => whnf); (exact ⟨rfl, rfl⟩)), kp_ok (by repeat (first | exact trivial | refine ⟨trivial, ?_⟩ | refine ⟨rfl, ?_⟩)), ?_⟩
      conv => whnf
      refine ⟨_, (fun H => by (conv => whnf); (exact ⟨rfl, rfl⟩)), ?_⟩
      conv => whnf
      refine Tr.seq ?_
      refine Tr.draw (DrawP.seqQ layOK mixed [(5, 3), (7, 3), (9, 3)] [(0, 7), (1, 7), (2, 8), (3, 8), (4, 6), (5, 0), (6, 6), (7, 0), (8, 6), (9, 0)] (by kernel_rfl) ?_)
      conv => whnf
      refine ⟨_, ⟨rfl, rfl, (by (conv => whnf); (exact ⟨rfl, rfl⟩))⟩, ?_⟩
      conv => whnf
      refine ⟨_, ⟨rfl, rfl, (by (conv => whnf); (exact ⟨rfl, rfl⟩))⟩, ?_⟩
      conv => whnf
      refine ⟨_, ⟨rfl, rfl, (by (conv => whnf); (exact ⟨rfl, rfl⟩))⟩, ?_⟩
      conv => whnf
      refine ⟨_, ⟨rfl, rfl, (by (conv => whnf); (exact ⟨rfl, rfl⟩))⟩, ?_⟩
      conv => whnf
      refine ⟨_, ⟨rfl, rfl, (by (conv => whnf); (exact ⟨rfl, rfl⟩))⟩, ?_⟩
      conv => whnf
      refine ⟨_, _, (by (conv => whnf); (exact ⟨rfl, rfl⟩)), kp_ok (by repeat (first | exact trivial | refine ⟨trivial, ?_⟩ | refine ⟨rfl, ?_⟩)), ?_⟩
      conv => whnf
      refine ⟨_, ⟨rfl, rfl, (by (conv => whnf); (exact ⟨rfl, rfl⟩))⟩, ?_⟩
      conv => whnf
      refine ⟨_, _, (by (conv => whnf); (exact ⟨rfl, rfl⟩)), kp_ok (by repeat (first | exact trivial | refine ⟨trivial, ?_⟩ | refine ⟨rfl, ?_⟩)), ?_⟩
      conv => whnf
      refine ⟨_, ⟨rfl, rfl, (by (conv => whnf); (exact ⟨rfl, rfl⟩))⟩, ?_⟩
      conv => whnf
      refine ⟨_, _, (by (conv => whnf); (exact ⟨rfl, rfl⟩)), kp_ok (by repeat (first | exact trivial | refine ⟨trivial, ?_⟩ | refine ⟨rfl, ?_⟩)), ?_⟩
      conv => whnf
      refine Tr.seq ?_
      refine Tr.seq ?_
      refine Tr.region layOK ?_
      conv => whnf
      refine condS_bif h (fun hb30 h => ?_) (fun hb30 h => ?_)
      · conv => whnf
        refine Tr.cond ?_
        conv => whnf
        refine condS_bif h (fun hb31 h => ?_) (fun hb31 h => ?_)
        · refine Tr.region layOK ?_
          conv => whnf
          refine Tr.seq ?_
          refine Tr.region layOK ?_
          conv => whnf
          refine Tr.ret ?_
          conv => whnf
          cases h
          rfl
        · refine Tr.skip ?_
          conv => whnf
          refine Tr.seq ?_
          refine Tr.region layOK ?_
          conv => whnf
          refine Tr.ret ?_
          conv => whnf
          cases h
          rfl
      · conv => whnf
        refine Tr.cond ?_
        conv => whnf
        refine Tr.skip ?_
        conv => whnf
        refine Tr.seq ?_
        refine Tr.region layOK ?_
        conv => whnf
        refine Tr.ret ?_
        conv => whnf
        cases h
        rfl

theorem s_ranks_Of (f_1 : TField) (runner_2 : Int) (r_3 : TRank) (r_4 : Int) (h : m_ranks_Of f_1 runner_2 = some (r_3, r_4)) :
    PC prog 18 [(eTField f_1), (.i .i64 runner_2)] (fun rs => rs = [(eTRank r_3), (.i .i64 r_4)]) := by
  refine PC.of_tr (cx := ⟨18, none, lay, 0⟩) layOK func18 rfl rfl rfl rfl rfl (by simp [f18]) ?_
  unfold m_ranks_Of at h
  refine Tr.seq ?_
  refine Tr.region layOK ?_
  conv => whnf
  refine Tr.seq ?_
  refine Tr.seq ?_
  refine Tr.region layOK ?_
  conv => whnf
  refine orB_r ?_
  conv => whnf
  obtain ⟨r_5, hc6, h⟩ := bind_some h
  refine PC.ecall (s_ranks_check f_1 ((([runner_2] : List Int))) r_5 hc6) (fun rs hrs => ?_)
  subst hrs
  conv => whnf
  refine Tr.seq ?_
  refine Tr.region layOK ?_
  conv => whnf
  refine Tr.cond ?_
  conv => whnf
  refine condS_bif h (fun hb7 h => ?_) (fun hb7 h => ?_)
  · refine Tr.seq ?_
    refine Tr.region layOK ?_
    conv => whnf
    refine Tr.ret ?_
    conv => whnf
    cases h
    rfl
  · refine Tr.skip ?_
    conv => whnf
    refine Tr.seq ?_
    refine Tr.region layOK ?_
    conv => whnf
    obtain ⟨r_8, hc9, h⟩ := bind_some h
    refine PC.ecall (s_ranks_of f_1 runner_2 r_8 hc9) (fun rs hrs => ?_)
    subst hrs
    conv => whnf
    refine Tr.ret ?_
    conv => whnf
    cases h
    rfl

theorem s_ranks_Ahead (f_1 : TField) (a_2 : Int) (b_3 : Int) (r_4 : Bool) (r_5 : Bool) (r_6 : Int) (h : m_ranks_Ahead f_1 a_2 b_3 = some (r_4, r_5, r_6)) :
    PC prog 13 [(eTField f_1), (.i .i64 a_2), (.i .i64 b_3)] (fun rs => rs = [(.b r_4), (.b r_5), (.i .i64 r_6)]) := by
  refine PC.of_tr (cx := ⟨87, none, lay, 0⟩) layOK func13 rfl rfl rfl rfl rfl (by simp [f13]) ?_
  unfold m_ranks_Ahead at h
  refine Tr.seq ?_
  refine Tr.region layOK ?_
  conv => whnf
  refine Tr.seq ?_
  refine Tr.seq ?_
  refine Tr.region layOK ?_
  conv => whnf
  refine orB_r ?_
  conv => whnf
  obtain ⟨r_7, hc8, h⟩ := bind_some h
  refine PC.ecall (s_ranks_check f_1 ((([a_2, b_3] : List Int))) r_7 hc8) (fun rs hrs => ?_)
  subst hrs
  conv => whnf
  refine Tr.seq ?_
  refine Tr.region layOK ?_
  conv => whnf
  refine Tr.cond ?_
  conv => whnf
  refine condS_bif h (fun hb9 h => ?_) (fun hb9 h => ?_)
  · refine Tr.seq ?_
    refine Tr.region layOK ?_
    conv => whnf
    refine Tr.ret ?_
    conv => whnf
    cases h
    rfl
  · refine Tr.skip ?_
    conv => whnf
    refine Tr.seq ?_
    refine Tr.seq ?_
    refine Tr.region layOK ?_
    conv => whnf
    refine Tr.cond ?_
    conv => whnf
    refine condS_bif h (fun hb10 h => ?_) (fun hb10 h => ?_)
    · refine Tr.seq ?_
      refine Tr.region layOK ?_
      conv => whnf
      refine Tr.ret ?_
      conv => whnf
      cases h
      rfl
    · refine Tr.skip ?_
      conv => whnf
      refine Tr.seq ?_
      refine Tr.region layOK ?_
      conv => whnf
      refine Tr.seq ?_
      refine Tr.seq ?_
      refine Tr.region layOK ?_
      conv => whnf
      obtain ⟨⟨c_11, c_12, c_13, c_14⟩, hc15, h⟩ := bind_some h
      refine PC.ecall (s_ranks_worlds f_1 c_11 c_12 c_13 c_14 hc15) (fun rs hrs => ?_)
      subst hrs
      conv => whnf
      obtain ⟨l_16, hl17, h⟩ := bind_some h
      obtain ⟨⟨v_70, v_71⟩, hv72, h⟩ := bind_some h
      refine Tr.block ?_
      refine Tr.rangeM layOK rfl (ge := fun a => [(.i .i64 a)]) rfl (it_ranks_worlds_1 c_11 c_12 c_13 c_14 l_16 hl17) (fun _ => rfl) rfl (fun s => [some (.var [.d (.ls (List.map eTSegment f_1.Clocks.Segments)), .d (.ls (List.map (eL eI) f_1.Clocks.Far)), .d (.ls (List.map eTPair f_1.Pairs)), .d (.ls (List.map eTRunner f_1.Runners))]), some (.var [.d (.i .i64 a_2)]), some (.var [.d (.i .i64 b_3)]), some (.var [.d (.b s.1)]), some (.var [.d (.b s.2)])]) (m_ranks_Ahead_R1 f_1 a_2 b_3) (true, false) (v_70, v_71) hv72 (Wk.mk2 [0, 1, 2, 3, 4] 5 rfl rfl (by decide) rfl ⟨⟨rfl, rfl⟩, ⟨rfl, rfl⟩, ⟨rfl, rfl⟩, ⟨rfl, rfl⟩, ⟨rfl, rfl⟩, trivial⟩ trivial) ?_ ?_
      · clear h hv72
        rintro li y_18 ⟨v_21, v_22⟩ s_73 ha h
        replace h : (m_ranks_Ahead_R1 f_1 a_2 b_3) y_18 (v_21, v_22) = some s_73 := h
        unfold m_ranks_Ahead_R1 at h
        dsimp only at h
        conv => whnf
        refine Tr.block ?_
        refine Tr.seq ?_
        refine Tr.region layOK ?_
        conv => whnf
        obtain ⟨x_23, hx_23, h⟩ := bind_some h
        refine ixP_of hx_23 ?_
        conv => whnf
        obtain ⟨x_24, hx_24, h⟩ := bind_some h
        refine ixP_of hx_24 ?_
        conv => whnf
        refine lnS_map ?_
        conv => whnf
        obtain ⟨⟨v_32, v_33⟩, hv69, h⟩ := bind_some h
        refine Tr.cutQ1 ([]) ([some (.var [.d (.ls (List.map eTSegment f_1.Clocks.Segments)), .d (.ls (List.map (eL eI) f_1.Clocks.Far)), .d (.ls (List.map eTPair f_1.Pairs)), .d (.ls (List.map eTRunner f_1.Runners))]), some (.var [.d (.i .i64 a_2)]), some (.var [.d (.i .i64 b_3)]), some (.var [.d (.b v_32)]), some (.var [.d (.b v_33)])]) ?_ (fun T1 H1 hw => ?_)
        · replace h := hv69; clear hv69
          refine Tr.block ?_
          refine Tr.loopM (σ := Int × Bool × Bool) (fun n s => m_ranks_Ahead_L2 f_1 a_2 b_3 y_18 x_24 n s.1 s.2.1 s.2.2) (v_32, v_33) (fun s => ([(3, .pt 0 0), (4, .pt 1 0), (5, .pt 2 0), (6, .pt 3 0), (7, .pt 4 0), (10, .d (.i .i64 y_18)), (37, .d (.ls (List.map eTOutcome x_24))), (38, .d (.i .i64 (((x_24).length : Int)))), (39, .d (.i .i64 s.1))], [some (.var [.d (.ls (List.map eTSegment f_1.Clocks.Segments)), .d (.ls (List.map (eL eI) f_1.Clocks.Far)), .d (.ls (List.map eTPair f_1.Pairs)), .d (.ls (List.map eTRunner f_1.Runners))]), some (.var [.d (.i .i64 a_2)]), some (.var [.d (.i .i64 b_3)]), some (.var [.d (.b s.2.1)]), some (.var [.d (.b s.2.2)])])) (((((x_24).length : Int)) - 0 : Int).toNat + 1) (0, v_21, v_22) h (fun s => rfl) (Wk.mk2 [0, 1, 2, 3, 4] 5 rfl rfl (by decide) rfl ⟨⟨rfl, rfl⟩, ⟨rfl, rfl⟩, ⟨rfl, rfl⟩, ⟨rfl, rfl⟩, ⟨rfl, rfl⟩, trivial⟩ ⟨⟨rfl, rfl⟩, ⟨rfl, rfl⟩, ⟨rfl, rfl⟩, ⟨rfl, rfl⟩, ⟨rfl, rfl⟩, ⟨rfl, rfl⟩, ⟨rfl, rfl⟩, ⟨rfl, rfl⟩, ⟨rfl, rfl⟩, trivial⟩) ?_
          clear h
          rintro n_31 ⟨v_28, v_29, v_30⟩ h
          replace h : m_ranks_Ahead_L2 f_1 a_2 b_3 y_18 x_24 (n_31 + 1) v_28 v_29 v_30 = some (v_32, v_33) := h
          rw [m_ranks_Ahead_L2] at h
          refine Tr.seq ?_
          refine Tr.region layOK ?_
          conv => whnf
          refine Tr.seq ?_
          refine Tr.cond ?_
          conv => whnf
          refine condS_bif h (fun hb36 h => ?_) (fun hb36 h => ?_)
          · refine Tr.skip ?_
            conv => whnf
            refine Tr.seq ?_
            refine Tr.block ?_
            refine Tr.seq ?_
            refine Tr.region layOK ?_
            conv => whnf
            obtain ⟨x_37, hx_37, h⟩ := bind_some h
            refine ixP_of hx_37 ?_
            conv => whnf
            refine Tr.seq ?_
            refine Tr.region layOK ?_
            conv => whnf
            obtain ⟨x_38, hx_38, h⟩ := bind_some h
            refine ixP_of hx_38 ?_
            conv => whnf
            obtain ⟨x_39, hx_39, h⟩ := bind_some h
            refine ixP_of hx_39 ?_
            conv => whnf
            refine lnS_map ?_
            conv => whnf
            obtain ⟨⟨v_47, v_48⟩, hv68, h⟩ := bind_some h
            refine Tr.cutQ1 ([(3, .pt 0 0), (4, .pt 1 0), (5, .pt 2 0), (6, .pt 3 0), (7, .pt 4 0), (10, .d (.i .i64 y_18)), (37, .d (.ls (List.map eTOutcome x_24))), (38, .d (.i .i64 (((x_24).length : Int)))), (39, .d (.i .i64 v_28))]) ([some (.var [.d (.ls (List.map eTSegment f_1.Clocks.Segments)), .d (.ls (List.map (eL eI) f_1.Clocks.Far)), .d (.ls (List.map eTPair f_1.Pairs)), .d (.ls (List.map eTRunner f_1.Runners))]), some (.var [.d (.i .i64 a_2)]), some (.var [.d (.i .i64 b_3)]), some (.var [.d (.b v_47)]), some (.var [.d (.b v_48)])]) ?_ (fun T1 H1 hw => ?_)
            · replace h := hv68; clear hv68
              refine Tr.block ?_
              refine Tr.loopM (σ := Int × Bool × Bool) (fun n s => m_ranks_Ahead_L3 f_1 a_2 b_3 x_37 x_39 n s.1 s.2.1 s.2.2) (v_47, v_48) (fun s => ([(3, .pt 0 0), (4, .pt 1 0), (5, .pt 2 0), (6, .pt 3 0), (7, .pt 4 0), (10, .d (.i .i64 y_18)), (12, .pt 5 0), (37, .d (.ls (List.map eTOutcome x_24))), (38, .d (.i .i64 (((x_24).length : Int)))), (39, .d (.i .i64 v_28)), (51, .d (.ls (List.map eTOutcome x_39))), (52, .d (.i .i64 (((x_39).length : Int)))), (53, .d (.i .i64 s.1))], [some (.var [.d (.ls (List.map eTSegment f_1.Clocks.Segments)), .d (.ls (List.map (eL eI) f_1.Clocks.Far)), .d (.ls (List.map eTPair f_1.Pairs)), .d (.ls (List.map eTRunner f_1.Runners))]), some (.var [.d (.i .i64 a_2)]), some (.var [.d (.i .i64 b_3)]), some (.var [.d (.b s.2.1)]), some (.var [.d (.b s.2.2)]), some (.var [.d (.b x_37.Out), .d (.i .i64 x_37.Seg), .d (.i .i64 x_37.Lo), .d (.i .i64 x_37.Hi)])])) (((((x_39).length : Int)) - 0 : Int).toNat + 1) (0, v_29, v_30) h (fun s => rfl) (Wk.mk2 [0, 1, 2, 3, 4, 5] 6 rfl rfl (by decide) rfl ⟨⟨rfl, rfl⟩, ⟨rfl, rfl⟩, ⟨rfl, rfl⟩, ⟨rfl, rfl⟩, ⟨rfl, rfl⟩, ⟨rfl, rfl⟩, trivial⟩ ⟨⟨rfl, rfl⟩, ⟨rfl, rfl⟩, ⟨rfl, rfl⟩, ⟨rfl, rfl⟩, ⟨rfl, rfl⟩, ⟨rfl, rfl⟩, ⟨rfl, rfl⟩, ⟨rfl, rfl⟩, ⟨rfl, rfl⟩, ⟨rfl, rfl⟩, ⟨rfl, rfl⟩, ⟨rfl, rfl⟩, ⟨rfl, rfl⟩, trivial⟩) ?_
              clear h
              rintro n_46 ⟨v_43, v_44, v_45⟩ h
              replace h : m_ranks_Ahead_L3 f_1 a_2 b_3 x_37 x_39 (n_46 + 1) v_43 v_44 v_45 = some (v_47, v_48) := h
              rw [m_ranks_Ahead_L3] at h
              refine Tr.seq ?_
              refine Tr.region layOK ?_
              conv => whnf
              refine Tr.seq ?_
              refine Tr.cond ?_
              conv => whnf
              refine condS_bif h (fun hb51 h => ?_) (fun hb51 h => ?_)
              · refine Tr.skip ?_
                conv => whnf
                refine Tr.seq ?_
                obtain ⟨⟨v_52, v_53⟩, hv54, h⟩ := bind_some h
                refine Tr.cutQ1 ([(3, .pt 0 0), (4, .pt 1 0), (5, .pt 2 0), (6, .pt 3 0), (7, .pt 4 0), (10, .d (.i .i64 y_18)), (12, .pt 5 0), (37, .d (.ls (List.map eTOutcome x_24))), (38, .d (.i .i64 (((x_24).length : Int)))), (39, .d (.i .i64 v_28)), (51, .d (.ls (List.map eTOutcome x_39))), (52, .d (.i .i64 (((x_39).length : Int)))), (53, .d (.i .i64 v_43))]) ([some (.var [.d (.ls (List.map eTSegment f_1.Clocks.Segments)), .d (.ls (List.map (eL eI) f_1.Clocks.Far)), .d (.ls (List.map eTPair f_1.Pairs)), .d (.ls (List.map eTRunner f_1.Runners))]), some (.var [.d (.i .i64 a_2)]), some (.var [.d (.i .i64 b_3)]), some (.var [.d (.b v_52)]), some (.var [.d (.b v_53)]), some (.var [.d (.b x_37.Out), .d (.i .i64 x_37.Seg), .d (.i .i64 x_37.Lo), .d (.i .i64 x_37.Hi)])]) ?_ (fun T1 H1 hw => ?_)
                · replace h := hv54; clear hv54
                  refine Tr.block ?_
                  refine Tr.seq ?_
                  refine Tr.region layOK ?_
                  conv => whnf
                  obtain ⟨x_55, hx_55, h⟩ := bind_some h
                  refine ixP_of hx_55 ?_
                  conv => whnf
                  refine Tr.block ?_
                  refine Tr.seq ?_
                  refine Tr.region layOK ?_
                  conv => whnf
                  refine Tr.cond ?_
                  conv => whnf
                  refine condS_bif h (fun hb56 h => ?_) (fun hb56 h => ?_)
                  · refine Tr.region layOK ?_
                    conv => whnf
                    cases h
                    exact Wk.mk2 [0, 1, 2, 3, 4, 5] 7 rfl rfl (by decide) rfl ⟨⟨rfl, rfl⟩, ⟨rfl, rfl⟩, ⟨rfl, rfl⟩, ⟨rfl, rfl⟩, ⟨rfl, rfl⟩, ⟨rfl, rfl⟩, trivial⟩ ⟨⟨rfl, rfl⟩, ⟨rfl, rfl⟩, ⟨rfl, rfl⟩, ⟨rfl, rfl⟩, ⟨rfl, rfl⟩, ⟨rfl, rfl⟩, ⟨rfl, rfl⟩, ⟨rfl, rfl⟩, ⟨rfl, rfl⟩, ⟨rfl, rfl⟩, ⟨rfl, rfl⟩, ⟨rfl, rfl⟩, ⟨rfl, rfl⟩, trivial⟩
                  · refine Tr.seq ?_
                    refine Tr.region layOK ?_
                    conv => whnf
                    refine Tr.cond ?_
                    conv => whnf
                    refine condS_bif h (fun hb57 h => ?_) (fun hb57 h => ?_)
                    · refine Tr.region layOK ?_
                      conv => whnf
                      cases h
                      exact Wk.mk2 [0, 1, 2, 3, 4, 5] 7 rfl rfl (by decide) rfl ⟨⟨rfl, rfl⟩, ⟨rfl, rfl⟩, ⟨rfl, rfl⟩, ⟨rfl, rfl⟩, ⟨rfl, rfl⟩, ⟨rfl, rfl⟩, trivial⟩ ⟨⟨rfl, rfl⟩, ⟨rfl, rfl⟩, ⟨rfl, rfl⟩, ⟨rfl, rfl⟩, ⟨rfl, rfl⟩, ⟨rfl, rfl⟩, ⟨rfl, rfl⟩, ⟨rfl, rfl⟩, ⟨rfl, rfl⟩, ⟨rfl, rfl⟩, ⟨rfl, rfl⟩, ⟨rfl, rfl⟩, ⟨rfl, rfl⟩, trivial⟩
                    · refine Tr.seq ?_
                      obtain ⟨v_58, hv59, h⟩ := bind_some h
                      refine Tr.cutQ1 ([(3, .pt 0 0), (4, .pt 1 0), (5, .pt 2 0), (6, .pt 3 0), (7, .pt 4 0), (10, .d (.i .i64 y_18)), (12, .pt 5 0), (14, .pt 6 0), (37, .d (.ls (List.map eTOutcome x_24))), (38, .d (.i .i64 (((x_24).length : Int)))), (39, .d (.i .i64 v_28)), (51, .d (.ls (List.map eTOutcome x_39))), (52, .d (.i .i64 (((x_39).length : Int)))), (53, .d (.i .i64 v_43))]) ([some (.var [.d (.ls (List.map eTSegment f_1.Clocks.Segments)), .d (.ls (List.map (eL eI) f_1.Clocks.Far)), .d (.ls (List.map eTPair f_1.Pairs)), .d (.ls (List.map eTRunner f_1.Runners))]), some (.var [.d (.i .i64 a_2)]), some (.var [.d (.i .i64 b_3)]), some (.var [.d (.b v_58)]), some (.var [.d (.b v_45)]), some (.var [.d (.b x_37.Out), .d (.i .i64 x_37.Seg), .d (.i .i64 x_37.Lo), .d (.i .i64 x_37.Hi)]), some (.var [.d (.b x_55.Out), .d (.i .i64 x_55.Seg), .d (.i .i64 x_55.Lo), .d (.i .i64 x_55.Hi)])]) ?_ (fun T1 H1 hw => ?_)
                      · replace h := hv59; clear hv59
                        refine Tr.draw (DrawP.seqQ layOK mixed [(10, 3)] [(0, 6), (1, 1), (2, 1), (3, 3), (4, 5), (5, 9), (6, 4), (7, 8), (8, 1), (9, 1), (10, 0)] (by kernel_rfl) ?_)
                        conv => whnf
                        refine ⟨_, ⟨rfl, rfl, (by (conv => whnf); (exact ⟨rfl, rfl⟩))⟩, ?_⟩
                        conv => whnf
                        refine ⟨_, (fun H => by (conv => whnf); (exact ⟨rfl, rfl⟩)), ?_⟩
                        conv => whnf
                        refine condS_bif h (fun hb60 h => ?_) (fun hb60 h => ?_)
                        · conv => whnf
                          obtain ⟨_, hc61, h⟩ := bind_some h
                          refine ⟨_, (fun H => by (conv => whnf); (refine PC.ecall (s_ranks_best  hc61) (fun rs hrs => ?_)); (subst hrs); (conv => whnf); (exact ⟨rfl, rfl⟩)), ?_⟩
                          conv => whnf
                          refine ⟨_, ⟨rfl, rfl, (by (conv => whnf); (exact ⟨rfl, rfl⟩))⟩, ?_⟩
                          conv => whnf
                          refine ⟨_, ⟨rfl, rfl, (by (conv => whnf); (exact ⟨rfl, rfl⟩))⟩, ?_⟩
                          conv => whnf
                          refine ⟨_, ⟨rfl, rfl, (by (conv => whnf); (exact ⟨rfl, rfl⟩))⟩, ?_⟩
                          conv => whnf
                          refine ⟨_, ⟨rfl, rfl, (by (conv => whnf); (exact ⟨rfl, rfl⟩))⟩, ?_⟩
                          conv => whnf
                          refine ⟨_, ⟨rfl, rfl, (by (conv => whnf); (exact ⟨rfl, rfl⟩))⟩, ?_⟩
                          conv => whnf
                          obtain ⟨r_62, hc63, h⟩ := bind_some h
                          refine ⟨_, (fun H => by (conv => whnf); (refine PC.ecall (s_ranks_direction_ahead_with_ranks_best_2 f_1 b_3 x_55 a_2 x_37 r_62 hc63) (fun rs hrs => ?_)); (subst hrs); (conv => whnf); (exact ⟨rfl, rfl⟩)), ?_⟩
                          conv => whnf
                          refine ⟨_, (fun H => by (conv => whnf); (exact ⟨rfl, rfl⟩)), ?_⟩
                          conv => whnf
                          refine ⟨_, _, (by (conv => whnf); (exact ⟨rfl, rfl⟩)), kp_ok (by repeat (first | exact trivial | refine ⟨trivial, ?_⟩ | refine ⟨rfl, ?_⟩)), ?_⟩
                          conv => whnf
                          cases h
                          exact Wk.mk2 [0, 1, 2, 3, 4, 5, 6] 7 rfl rfl (by decide) rfl ⟨⟨rfl, rfl⟩, ⟨rfl, rfl⟩, ⟨rfl, rfl⟩, ⟨rfl, rfl⟩, ⟨rfl, rfl⟩, ⟨rfl, rfl⟩, ⟨rfl, rfl⟩, trivial⟩ ⟨⟨rfl, rfl⟩, ⟨rfl, rfl⟩, ⟨rfl, rfl⟩, ⟨rfl, rfl⟩, ⟨rfl, rfl⟩, ⟨rfl, rfl⟩, ⟨rfl, rfl⟩, ⟨rfl, rfl⟩, ⟨rfl, rfl⟩, ⟨rfl, rfl⟩, ⟨rfl, rfl⟩, ⟨rfl, rfl⟩, ⟨rfl, rfl⟩, ⟨rfl, rfl⟩, trivial⟩
                        · conv => whnf
                          refine ⟨_, (fun H => by (conv => whnf); (exact ⟨rfl, rfl⟩)), ?_⟩
                          conv => whnf
                          refine ⟨_, _, (by (conv => whnf); (exact ⟨rfl, rfl⟩)), kp_ok (by repeat (first | exact trivial | refine ⟨trivial, ?_⟩ | refine ⟨rfl, ?_⟩)), ?_⟩
                          conv => whnf
                          cases h
                          exact Wk.mk2 [0, 1, 2, 3, 4, 5, 6] 7 rfl rfl (by decide) rfl ⟨⟨rfl, rfl⟩, ⟨rfl, rfl⟩, ⟨rfl, rfl⟩, ⟨rfl, rfl⟩, ⟨rfl, rfl⟩, ⟨rfl, rfl⟩, ⟨rfl, rfl⟩, trivial⟩ ⟨⟨rfl, rfl⟩, ⟨rfl, rfl⟩, ⟨rfl, rfl⟩, ⟨rfl, rfl⟩, ⟨rfl, rfl⟩, ⟨rfl, rfl⟩, ⟨rfl, rfl⟩, ⟨rfl, rfl⟩, ⟨rfl, rfl⟩, ⟨rfl, rfl⟩, ⟨rfl, rfl⟩, ⟨rfl, rfl⟩, ⟨rfl, rfl⟩, ⟨rfl, rfl⟩, trivial⟩
                      · clear hv59
                        conv => whnf
                        refine Tr.weak hw ?_
                        refine Tr.draw (DrawP.seqQ layOK mixed [(10, 4)] [(0, 7), (1, 1), (2, 1), (3, 3), (4, 5), (5, 9), (6, 4), (7, 8), (8, 1), (9, 1), (10, 0)] (by kernel_rfl) ?_)
                        conv => whnf
                        refine ⟨_, ⟨rfl, rfl, (by (conv => whnf); (exact ⟨rfl, rfl⟩))⟩, ?_⟩
                        conv => whnf
                        refine ⟨_, (fun H => by (conv => whnf); (exact ⟨rfl, rfl⟩)), ?_⟩
                        conv => whnf
                        refine condS_bif h (fun hb64 h => ?_) (fun hb64 h => ?_)
                        · conv => whnf
                          refine ⟨_, (fun H => by (conv => whnf); (exact ⟨rfl, rfl⟩)), ?_⟩
                          conv => whnf
                          refine ⟨_, _, (by (conv => whnf); (exact ⟨rfl, rfl⟩)), kp_ok (by repeat (first | exact trivial | refine ⟨trivial, ?_⟩ | refine ⟨rfl, ?_⟩)), ?_⟩
                          conv => whnf
                          cases h
                          exact Wk.mk2 [0, 1, 2, 3, 4, 5] 7 rfl rfl (by decide) rfl ⟨⟨rfl, rfl⟩, ⟨rfl, rfl⟩, ⟨rfl, rfl⟩, ⟨rfl, rfl⟩, ⟨rfl, rfl⟩, ⟨rfl, rfl⟩, trivial⟩ ⟨⟨rfl, rfl⟩, ⟨rfl, rfl⟩, ⟨rfl, rfl⟩, ⟨rfl, rfl⟩, ⟨rfl, rfl⟩, ⟨rfl, rfl⟩, ⟨rfl, rfl⟩, ⟨rfl, rfl⟩, ⟨rfl, rfl⟩, ⟨rfl, rfl⟩, ⟨rfl, rfl⟩, ⟨rfl, rfl⟩, ⟨rfl, rfl⟩, trivial⟩
                        · conv => whnf
                          obtain ⟨_, hc65, h⟩ := bind_some h
                          refine ⟨_, (fun H => by (conv => whnf); (refine PC.ecall (s_ranks_worst  hc65) (fun rs hrs => ?_)); (subst hrs); (conv => whnf); (exact ⟨rfl, rfl⟩)), ?_⟩
                          conv => whnf
                          refine ⟨_, ⟨rfl, rfl, (by (conv => whnf); (exact ⟨rfl, rfl⟩))⟩, ?_⟩
                          conv => whnf
                          refine ⟨_, ⟨rfl, rfl, (by (conv => whnf); (exact ⟨rfl, rfl⟩))⟩, ?_⟩
                          conv => whnf
                          refine ⟨_, ⟨rfl, rfl, (by (conv => whnf); (exact ⟨rfl, rfl⟩))⟩, ?_⟩
                          conv => whnf
                          refine ⟨_, ⟨rfl, rfl, (by (conv => whnf); (exact ⟨rfl, rfl⟩))⟩, ?_⟩
                          conv => whnf
                          refine ⟨_, ⟨rfl, rfl, (by (conv => whnf); (exact ⟨rfl, rfl⟩))⟩, ?_⟩
                          conv => whnf
                          obtain ⟨r_66, hc67, h⟩ := bind_some h
                          refine ⟨_, (fun H => by (conv => whnf); (refine PC.ecall (s_ranks_direction_ahead_with_ranks_worst_2 f_1 b_3 x_55 a_2 x_37 r_66 hc67) (fun rs hrs => ?_)); (subst hrs); (conv => whnf); (exact ⟨rfl, rfl⟩)), ?_⟩
                          conv => whnf
                          refine ⟨_, (fun H => by (conv => whnf); (exact ⟨rfl, rfl⟩)), ?_⟩
                          conv => whnf
                          refine ⟨_, _, (by (conv => whnf); (exact ⟨rfl, rfl⟩)), kp_ok (by repeat (first | exact trivial | refine ⟨trivial, ?_⟩ | refine ⟨rfl, ?_⟩)), ?_⟩
                          conv => whnf
                          cases h
                          exact Wk.mk2 [0, 1, 2, 3, 4, 5] 7 rfl rfl (by decide) rfl ⟨⟨rfl, rfl⟩, ⟨rfl, rfl⟩, ⟨rfl, rfl⟩, ⟨rfl, rfl⟩, ⟨rfl, rfl⟩, ⟨rfl, rfl⟩, trivial⟩ ⟨⟨rfl, rfl⟩, ⟨rfl, rfl⟩, ⟨rfl, rfl⟩, ⟨rfl, rfl⟩, ⟨rfl, rfl⟩, ⟨rfl, rfl⟩, ⟨rfl, rfl⟩, ⟨rfl, rfl⟩, ⟨rfl, rfl⟩, ⟨rfl, rfl⟩, ⟨rfl, rfl⟩, ⟨rfl, rfl⟩, ⟨rfl, rfl⟩, trivial⟩
                · clear hv54
                  conv => whnf
                  refine Tr.weak hw ?_
                  refine Tr.region layOK ?_
                  conv => whnf
                  refine arS_raw ?_
                  conv => whnf
                  refine ⟨((w64 (v_43 + 1)), v_52, v_53), h, ?_⟩
                  exact Wk.mk2 [0, 1, 2, 3, 4, 5] 6 rfl rfl (by decide) rfl ⟨⟨rfl, rfl⟩, ⟨rfl, rfl⟩, ⟨rfl, rfl⟩, ⟨rfl, rfl⟩, ⟨rfl, rfl⟩, ⟨rfl, rfl⟩, trivial⟩ ⟨⟨rfl, rfl⟩, ⟨rfl, rfl⟩, ⟨rfl, rfl⟩, ⟨rfl, rfl⟩, ⟨rfl, rfl⟩, ⟨rfl, rfl⟩, ⟨rfl, rfl⟩, ⟨rfl, rfl⟩, ⟨rfl, rfl⟩, ⟨rfl, rfl⟩, ⟨rfl, rfl⟩, ⟨rfl, rfl⟩, ⟨rfl, rfl⟩, trivial⟩
              · refine Tr.exit ?_
                conv => whnf
                cases h
                exact Wk.mk2 [0, 1, 2, 3, 4] 6 rfl rfl (by decide) rfl ⟨⟨rfl, rfl⟩, ⟨rfl, rfl⟩, ⟨rfl, rfl⟩, ⟨rfl, rfl⟩, ⟨rfl, rfl⟩, trivial⟩ ⟨⟨rfl, rfl⟩, ⟨rfl, rfl⟩, ⟨rfl, rfl⟩, ⟨rfl, rfl⟩, ⟨rfl, rfl⟩, ⟨rfl, rfl⟩, ⟨rfl, rfl⟩, ⟨rfl, rfl⟩, ⟨rfl, rfl⟩, trivial⟩
            · clear hv68
              conv => whnf
              refine Tr.weak hw ?_
              refine Tr.region layOK ?_
              conv => whnf
              refine arS_raw ?_
              conv => whnf
              refine ⟨((w64 (v_28 + 1)), v_47, v_48), h, ?_⟩
              exact Wk.mk2 [0, 1, 2, 3, 4] 5 rfl rfl (by decide) rfl ⟨⟨rfl, rfl⟩, ⟨rfl, rfl⟩, ⟨rfl, rfl⟩, ⟨rfl, rfl⟩, ⟨rfl, rfl⟩, trivial⟩ ⟨⟨rfl, rfl⟩, ⟨rfl, rfl⟩, ⟨rfl, rfl⟩, ⟨rfl, rfl⟩, ⟨rfl, rfl⟩, ⟨rfl, rfl⟩, ⟨rfl, rfl⟩, ⟨rfl, rfl⟩, ⟨rfl, rfl⟩, trivial⟩
          · refine Tr.exit ?_
            conv => whnf
            cases h
            exact Wk.mk2 [0, 1, 2, 3, 4] 5 rfl rfl (by decide) rfl ⟨⟨rfl, rfl⟩, ⟨rfl, rfl⟩, ⟨rfl, rfl⟩, ⟨rfl, rfl⟩, ⟨rfl, rfl⟩, trivial⟩ trivial
        · clear hv69
          conv => whnf
          cases h
          refine Wk.trans (F := 5) hw ?_
          exact Wk.mk2 [0, 1, 2, 3, 4] 5 rfl rfl (by decide) rfl ⟨⟨rfl, rfl⟩, ⟨rfl, rfl⟩, ⟨rfl, rfl⟩, ⟨rfl, rfl⟩, ⟨rfl, rfl⟩, trivial⟩ trivial
      · clear hv72
        conv => whnf
        refine Tr.seq ?_
        refine Tr.draw (DrawP.seqQ layOK mixed [(2, 3), (3, 4)] [(0, 6), (1, 7), (2, 0), (3, 0), (4, 1)] (by kernel_rfl) ?_)
        conv => whnf
        refine ⟨_, ⟨rfl, rfl, (by (conv => whnf); (exact ⟨rfl, rfl⟩))⟩, ?_⟩
        conv => whnf
        refine ⟨_, ⟨rfl, rfl, (by (conv => whnf); (exact ⟨rfl, rfl⟩))⟩, ?_⟩
        conv => whnf
        refine ⟨_, _, (by (conv => whnf); (exact ⟨rfl, rfl⟩)), kp_ok (by repeat (first | exact trivial | refine ⟨trivial, ?_⟩ | refine ⟨rfl, ?_⟩)), ?_⟩
        conv => whnf
        refine ⟨_, _, (by (conv => whnf); (exact ⟨rfl, rfl⟩)), kp_ok (by repeat (first | exact trivial | refine ⟨trivial, ?_⟩ | refine ⟨rfl, ?_⟩)), ?_⟩
        conv => whnf
        refine ⟨_, (fun H => by (conv => whnf); (exact ⟨rfl, rfl⟩)), ?_⟩
        conv => whnf
        refine Tr.ret ?_
        conv => whnf
        cases h
        rfl

theorem s_stopwatchlaw25_sane (r_1 : Bool) (h : m_stopwatchlaw25_sane = some r_1) :
    PC prog 11 [] (fun rs => rs = [(.b r_1)]) := by
  refine PC.of_tr (cx := ⟨154, none, lay, 0⟩) layOK func11 rfl rfl rfl rfl rfl (by simp [f11]) ?_
  unfold m_stopwatchlaw25_sane at h
  refine Tr.seq ?_
  refine Tr.region layOK ?_
  conv => whnf
  refine Tr.seq ?_
  refine Tr.region layOK ?_
  conv => whnf
  refine orB_r ?_
  conv => whnf
  obtain ⟨r_2, hc3, h⟩ := bind_some h
  refine PC.ecall (s_stopwatchlaw25_simple ((([10, 12, 11, 13] : List Int))) r_2 hc3) (fun rs hrs => ?_)
  subst hrs
  conv => whnf
  refine Tr.seq ?_
  refine Tr.region layOK ?_
  conv => whnf
  obtain ⟨⟨r_4, r_5⟩, hc6, h⟩ := bind_some h
  refine PC.ecall (s_ranks_Of r_2 0 r_4 r_5 hc6) (fun rs hrs => ?_)
  subst hrs
  conv => whnf
  refine Tr.seq ?_
  refine Tr.region layOK ?_
  conv => whnf
  obtain ⟨⟨r_7, r_8⟩, hc9, h⟩ := bind_some h
  refine PC.ecall (s_ranks_Of r_2 1 r_7 r_8 hc9) (fun rs hrs => ?_)
  subst hrs
  conv => whnf
  refine Tr.seq ?_
  refine Tr.region layOK ?_
  conv => whnf
  refine orB_r ?_
  conv => whnf
  obtain ⟨r_10, hc11, h⟩ := bind_some h
  refine PC.ecall (s_stopwatchlaw25_simple ((([10, 12, 13, 13] : List Int))) r_10 hc11) (fun rs hrs => ?_)
  subst hrs
  conv => whnf
  obtain ⟨⟨r_12, r_13⟩, hc14, h⟩ := bind_some h
  refine PC.ecall (s_ranks_Of r_10 0 r_12 r_13 hc14) (fun rs hrs => ?_)
  subst hrs
  conv => whnf
  refine Tr.seq ?_
  refine Tr.region layOK ?_
  conv => whnf
  obtain ⟨⟨r_15, r_16⟩, hc17, h⟩ := bind_some h
  refine PC.ecall_frz ?_ ⟨_, _, func18, rfl, rfl⟩
  conv => whnf
  refine ⟨_, s_ranks_Of (({ Clocks := ({ Segments := (([] : List TSegment)), Far := (([] : List (List Int))) } : TClocks), Pairs := (([] : List TPair)), Runners := (([] : List TRunner)) } : TField)) 0 r_15 r_16 hc17, fun rs hrs => ?_⟩
  subst hrs
  conv => whnf
  refine Tr.seq ?_
  refine Tr.region layOK ?_
  conv => whnf
  obtain ⟨⟨r_18, r_19⟩, hc20, h⟩ := bind_some h
  refine PC.ecall (s_ranks_Of r_2 (-1) r_18 r_19 hc20) (fun rs hrs => ?_)
  subst hrs
  conv => whnf
  refine Tr.seq ?_
  refine Tr.region layOK ?_
  conv => whnf
  refine orB_r ?_
  conv => whnf
  refine ECall.of_tr (cx := ⟨37, none, lay, 6⟩) layOK func32 rfl rfl rfl rfl rfl (by simp [f32]) ?_
  refine Tr.seq ?_
  refine Tr.region layOK ?_
  conv => whnf
  refine Tr.seq ?_
  refine Tr.region layOK ?_
  conv => whnf
  refine orB_l ?_
  conv => whnf
  refine orB_l ?_
  conv => whnf
  refine orB_l ?_
  conv => whnf
  refine Tr.seq ?_
  refine Tr.seq ?_
  refine Tr.region layOK ?_
  conv => whnf
  refine Tr.block ?_
  refine Tr.loopN 2 ?_
  refine TrN.succ ?_
  refine Tr.seq ?_
  refine Tr.seq ?_
  refine Tr.region layOK ?_
  conv => whnf
  refine arS_raw ?_
  conv => whnf
  refine lnS_map (f := eI) (l := (([0, 0] : List Int))) ?_
  conv => whnf
  refine Tr.cond ?_
  conv => whnf
  refine Tr.skip ?_
  conv => whnf
  refine Tr.seq ?_
  refine Tr.block ?_
  refine Tr.draw (DrawP.seqQ layOK mixed [(20, 9)] [(0, 12), (1, 12), (2, 1), (3, 1), (4, 1), (5, 1), (6, 2), (7, 2), (8, 1), (9, 1), (10, 1), (11, 2), (12, 2), (13, 1), (14, 0), (15, 0), (16, 1), (17, 0), (18, 0), (19, 12), (20, 0)] (by kernel_rfl) ?_)
  conv => whnf
  refine ⟨_, ⟨rfl, rfl, (by (conv => whnf); (exact ⟨rfl, rfl⟩))⟩, ?_⟩
  conv => whnf
  refine ⟨_, ⟨rfl, rfl, (by (conv => whnf); (exact ⟨rfl, rfl⟩))⟩, ?_⟩
  conv => whnf
  refine ⟨_, (fun H => by (conv => whnf); (exact ⟨rfl, rfl⟩)), ?_⟩
  conv => whnf
  refine ⟨_, (fun H => by (conv => whnf); (refine arS_raw ?_); (conv => whnf); (exact ⟨rfl, rfl⟩)), ?_⟩
  conv => whnf
  refine ⟨_, (fun H => by (conv => whnf); (exact ⟨rfl, rfl⟩)), ?_⟩
  conv => whnf
  refine ⟨_, (fun H => by (conv => whnf); (exact ⟨rfl, rfl⟩)), ?_⟩
  conv => whnf
  obtain ⟨x_21, hx_21, h⟩ := bind_some h
  refine ⟨_, ⟨rfl, rfl, (by (conv => whnf); (refine ixP_of hx_21 ?_); (conv => whnf); (exact ⟨rfl, rfl⟩))⟩, ?_⟩
  conv => whnf
  refine ⟨_, ⟨rfl, rfl, (by (conv => whnf); (exact ⟨rfl, rfl⟩))⟩, ?_⟩
  conv => whnf
  refine ⟨_, (fun H => by (conv => whnf); (exact ⟨rfl, rfl⟩)), ?_⟩
  conv => whnf
  refine ⟨_, (fun H => by (conv => whnf); (exact ⟨rfl, rfl⟩)), ?_⟩
  conv => whnf
  refine ⟨_, (fun H => by (conv => whnf); (refine arS_raw ?_); (conv => whnf); (exact ⟨rfl, rfl⟩)), ?_⟩
  conv => whnf
  obtain ⟨x_22, hx_22, h⟩ := bind_some h
  refine ⟨_, ⟨rfl, rfl, (by (conv => whnf); (refine ixP_of hx_22 ?_); (conv => whnf); (exact ⟨rfl, rfl⟩))⟩, ?_⟩
  conv => whnf
  refine ⟨_, ⟨rfl, rfl, (by (conv => whnf); (exact ⟨rfl, rfl⟩))⟩, ?_⟩
  conv => whnf
  refine ⟨_, (fun H => by (conv => whnf); (exact ⟨rfl, rfl⟩)), ?_⟩
  conv => whnf
  refine ⟨_, _, (by (conv => whnf); (refine orB_l ?_); (conv => whnf); (exact ⟨rfl, rfl⟩)), kp_ok (by repeat (first | exact trivial | refine ⟨trivial, ?_⟩ | refine ⟨rfl, ?_⟩)), ?_⟩
  conv => whnf
  refine ⟨_, _, (by (conv => whnf); (refine orB_l ?_); (conv => whnf); (exact ⟨rfl, rfl⟩)), kp_ok (by repeat (first | exact trivial | refine ⟨trivial, ?_⟩ | refine ⟨rfl, ?_⟩)), ?_⟩
  conv => whnf
  refine ⟨_, (fun H => by (conv => whnf); (exact ⟨rfl, rfl⟩)), ?_⟩
  conv => whnf
  refine ⟨_, _, (by (conv => whnf); (refine orB_l ?_); (conv => whnf); (exact ⟨rfl, rfl⟩)), kp_ok (by repeat (first | exact trivial | refine ⟨trivial, ?_⟩ | refine ⟨rfl, ?_⟩)), ?_⟩
  conv => whnf
  refine ⟨_, _, (by (conv => whnf); (refine sxP_all (by first | rfl | simp) ?_); (conv => whnf); (refine frP_no ?_); (conv => whnf); (refine apS_mk (by intro e he; rcases List.mem_singleton.1 he with rfl; rfl) (by first | decide | exact Nat.le_of_ble_eq_true rfl) (by first | decide | exact Nat.le_of_ble_eq_true rfl) ?_); (conv => whnf); (refine reS_mk rfl rfl ?_); (conv => whnf); (exact ⟨rfl, rfl⟩)), kp_ok (by repeat (first | exact trivial | refine ⟨trivial, ?_⟩ | refine ⟨rfl, ?_⟩)), ?_⟩
  conv => whnf
  refine ⟨_, ⟨rfl, rfl, (by (conv => whnf); (exact ⟨rfl, rfl⟩))⟩, ?_⟩
  conv => whnf
  refine ⟨_, _, (by (conv => whnf); (refine orB_l ?_); (conv => whnf); (exact ⟨rfl, rfl⟩)), kp_ok (by repeat (first | exact trivial | refine ⟨trivial, ?_⟩ | refine ⟨rfl, ?_⟩)), ?_⟩
  conv => whnf
  refine Tr.region layOK ?_
  conv => whnf
  refine arS_raw ?_
  conv => whnf
  refine TrN.succ ?_
  refine Tr.seq ?_
  refine Tr.seq ?_
  refine Tr.region layOK ?_
  conv => whnf
  refine arS_raw ?_
  conv => whnf
  refine lnS_map (f := eI) (l := (([0, 0] : List Int))) ?_
  conv => whnf
  refine Tr.cond ?_
  conv => whnf
  refine Tr.exit ?_
  conv => whnf
  refine Tr.seq ?_
  refine Tr.region layOK ?_
  conv => whnf
  refine orB_l ?_
  conv => whnf
  refine Tr.ret ?_
  conv => whnf
  refine orB_l ?_
  conv => whnf
  refine Tr.seq ?_
  refine Tr.region layOK ?_
  conv => whnf
  refine ixS_mk 0 rfl (by first | decide | exact Nat.le_of_ble_eq_true rfl) ?_
  conv => whnf
  refine elP_mk _ rfl ?_
  conv => whnf
  refine ixS_mk 0 rfl (by first | decide | exact Nat.le_of_ble_eq_true rfl) ?_
  conv => whnf
  refine elP_mk _ rfl ?_
  conv => whnf
  obtain ⟨x_23, hx_23, h⟩ := bind_some h
  refine ixS_of hx_23 rfl ?_
  conv => whnf
  refine elP_of (f := eTOutcome) hx_23 ?_
  conv => whnf
  refine lvS_mk (es' := List.map .d (List.map eTOutcome (List.set (([({ Out := false, Seg := (-1), Lo := x_21, Hi := x_22 } : TOutcome)] : List TOutcome)) (Int.toNat 0) ({ Out := true, Seg := (-1), Lo := 0, Hi := 0 } : TOutcome)))) (by simp only [Nat.zero_add, List.map_set]; first | done | rfl) ?_
  conv => whnf
  refine Tr.seq ?_
  refine Tr.region layOK ?_
  conv => whnf
  obtain ⟨⟨r_24, r_25⟩, hc26, h⟩ := bind_some h
  refine PC.ecall_frz ?_ ⟨_, _, func18, rfl, rfl⟩
  conv => whnf
  refine frE_in rfl ?_
  conv => whnf
  refine frE_of (f := eI) (l := (([0] : List Int))) rfl ?_
  conv => whnf
  refine frE_in rfl ?_
  conv => whnf
  refine frE_in rfl ?_
  conv => whnf
  refine frE_of (f := eTOutcome) (l := (List.set (([({ Out := false, Seg := (-1), Lo := x_21, Hi := x_22 } : TOutcome)] : List TOutcome)) (Int.toNat 0) ({ Out := true, Seg := (-1), Lo := 0, Hi := 0 } : TOutcome))) (by first | rfl | simp) ?_
  conv => whnf
  refine ⟨_, s_ranks_Of (({ Clocks := ({ Segments := (([] : List TSegment)), Far := (([(([0] : List Int))] : List (List Int))) } : TClocks), Pairs := (([] : List TPair)), Runners := (([({ Bib := 1, Keys := (([] : List Int)), Worlds := (([(List.set (([({ Out := false, Seg := (-1), Lo := x_21, Hi := x_22 } : TOutcome)] : List TOutcome)) (Int.toNat 0) ({ Out := true, Seg := (-1), Lo := 0, Hi := 0 } : TOutcome))] : List (List TOutcome))) } : TRunner)] : List TRunner)) } : TField)) 0 r_24 r_25 hc26, fun rs hrs => ?_⟩
  subst hrs
  conv => whnf
  refine Tr.seq ?_
  refine Tr.region layOK ?_
  conv => whnf
  obtain ⟨⟨r_27, r_28, r_29⟩, hc30, h⟩ := bind_some h
  refine PC.ecall (s_ranks_Ahead r_2 0 0 r_27 r_28 r_29 hc30) (fun rs hrs => ?_)
  subst hrs
  conv => whnf
  refine Tr.seq ?_
  refine Tr.region layOK ?_
  conv => whnf
  obtain ⟨⟨r_31, r_32, r_33⟩, hc34, h⟩ := bind_some h
  refine PC.ecall (s_ranks_Ahead r_2 1 0 r_31 r_32 r_33 hc34) (fun rs hrs => ?_)
  subst hrs
  conv => whnf
  refine Tr.seq ?_
  refine Tr.cutQ1 ([(0, .d (.b false)), (13, .pt 0 0), (14, .d (.i .i64 r_25)), (15, .d (.b r_27)), (16, .d (.b r_28)), (17, .d (.i .i64 r_29)), (18, .d (.b r_31)), (19, .d (.b r_32)), (20, .d (.i .i64 r_33)), (21, .d (.b ((r_5 == 0) && (((r_4.Bib == 1) && ((r_4.Kind == 2) && ((r_4.Lo == 1) && ((r_4.Hi == 2) && ((r_4.Out == false) && true))))) && ((r_8 == 0) && ((r_7.Lo == 1) && ((r_7.Hi == 2) && ((r_13 == 0) && ((r_12.Kind == 1) && ((r_12.Lo == 1) && ((r_16 == 240) && (r_19 == 250))))))))))))]) ([some (.var [.d (.i .i64 r_24.Bib), .d (.i .i64 r_24.Kind), .d (.i .i64 r_24.Lo), .d (.i .i64 r_24.Hi), .d (.b r_24.Out)])]) ?_ (fun T1 H1 hw => ?_)
  · refine Tr.region layOK ?_
    conv => whnf
    refine condS_mk (fun hb36 => ?_) (fun hb36 => ?_)
    · conv => whnf
      refine condS_mk (fun hb37 => ?_) (fun hb37 => ?_)
      · conv => whnf
        refine condS_mk (fun hb38 => ?_) (fun hb38 => ?_)
        · conv => whnf
          refine condS_mk (fun hb39 => ?_) (fun hb39 => ?_)
          · conv => whnf
            refine condS_mk (fun hb40 => ?_) (fun hb40 => ?_)
            · conv => whnf
              refine condS_mk (fun hb41 => ?_) (fun hb41 => ?_)
              · conv => whnf
                refine condS_mk (fun hb42 => ?_) (fun hb42 => ?_)
                · conv => whnf
                  refine condS_mk (fun hb43 => ?_) (fun hb43 => ?_)
                  · conv => whnf
                    refine condS_mk (fun hb44 => ?_) (fun hb44 => ?_)
                    · conv => whnf
                      exact Wk.mk2 [15] 16 rfl rfl (by decide) rfl ⟨⟨rfl, rfl⟩, trivial⟩ ⟨⟨rfl, rfl⟩, ⟨rfl, (by first | rfl | (simp only [↓hb36, ↓hb37, ↓hb38, ↓hb39, ↓hb40, ↓hb41, ↓hb42, ↓hb43, ↓hb44, cond_true, cond_false, Bool.true_or, Bool.or_true, Bool.false_or, Bool.or_false, Bool.true_and, Bool.and_true, Bool.false_and, Bool.and_false, Bool.not_true, Bool.not_false]; done) | (simp only [↓hb36, ↓hb37, ↓hb38, ↓hb39, ↓hb40, ↓hb41, ↓hb42, ↓hb43, ↓hb44, cond_true, cond_false, Bool.true_or, Bool.or_true, Bool.false_or, Bool.or_false, Bool.true_and, Bool.and_true, Bool.false_and, Bool.and_false, Bool.not_true, Bool.not_false]; rfl))⟩, ⟨rfl, rfl⟩, ⟨rfl, rfl⟩, ⟨rfl, rfl⟩, ⟨rfl, rfl⟩, ⟨rfl, rfl⟩, ⟨rfl, rfl⟩, ⟨rfl, rfl⟩, ⟨rfl, (by first | rfl | (simp only [↓hb36, ↓hb37, ↓hb38, ↓hb39, ↓hb40, ↓hb41, ↓hb42, ↓hb43, ↓hb44, cond_true, cond_false, Bool.true_or, Bool.or_true, Bool.false_or, Bool.or_false, Bool.true_and, Bool.and_true, Bool.false_and, Bool.and_false, Bool.not_true, Bool.not_false]; done) | (simp only [↓hb36, ↓hb37, ↓hb38, ↓hb39, ↓hb40, ↓hb41, ↓hb42, ↓hb43, ↓hb44, cond_true, cond_false, Bool.true_or, Bool.or_true, Bool.false_or, Bool.or_false, Bool.true_and, Bool.and_true, Bool.false_and, Bool.and_false, Bool.not_true, Bool.not_false]; rfl))⟩, trivial⟩
                    · conv => whnf
                      exact Wk.mk2 [15] 16 rfl rfl (by decide) rfl ⟨⟨rfl, rfl⟩, trivial⟩ ⟨⟨rfl, rfl⟩, ⟨rfl, (by first | rfl | (simp only [↓hb36, ↓hb37, ↓hb38, ↓hb39, ↓hb40, ↓hb41, ↓hb42, ↓hb43, ↓hb44, cond_true, cond_false, Bool.true_or, Bool.or_true, Bool.false_or, Bool.or_false, Bool.true_and, Bool.and_true, Bool.false_and, Bool.and_false, Bool.not_true, Bool.not_false]; done) | (simp only [↓hb36, ↓hb37, ↓hb38, ↓hb39, ↓hb40, ↓hb41, ↓hb42, ↓hb43, ↓hb44, cond_true, cond_false, Bool.true_or, Bool.or_true, Bool.false_or, Bool.or_false, Bool.true_and, Bool.and_true, Bool.false_and, Bool.and_false, Bool.not_true, Bool.not_false]; rfl))⟩, ⟨rfl, rfl⟩, ⟨rfl, rfl⟩, ⟨rfl, rfl⟩, ⟨rfl, rfl⟩, ⟨rfl, rfl⟩, ⟨rfl, rfl⟩, ⟨rfl, rfl⟩, ⟨rfl, (by first | rfl | (simp only [↓hb36, ↓hb37, ↓hb38, ↓hb39, ↓hb40, ↓hb41, ↓hb42, ↓hb43, ↓hb44, cond_true, cond_false, Bool.true_or, Bool.or_true, Bool.false_or, Bool.or_false, Bool.true_and, Bool.and_true, Bool.false_and, Bool.and_false, Bool.not_true, Bool.not_false]; done) | (simp only [↓hb36, ↓hb37, ↓hb38, ↓hb39, ↓hb40, ↓hb41, ↓hb42, ↓hb43, ↓hb44, cond_true, cond_false, Bool.true_or, Bool.or_true, Bool.false_or, Bool.or_false, Bool.true_and, Bool.and_true, Bool.false_and, Bool.and_false, Bool.not_true, Bool.not_false]; rfl))⟩, trivial⟩
                  · conv => whnf
                    exact Wk.mk2 [15] 16 rfl rfl (by decide) rfl ⟨⟨rfl, rfl⟩, trivial⟩ ⟨⟨rfl, rfl⟩, ⟨rfl, (by first | rfl | (simp only [↓hb36, ↓hb37, ↓hb38, ↓hb39, ↓hb40, ↓hb41, ↓hb42, ↓hb43, cond_true, cond_false, Bool.true_or, Bool.or_true, Bool.false_or, Bool.or_false, Bool.true_and, Bool.and_true, Bool.false_and, Bool.and_false, Bool.not_true, Bool.not_false]; done) | (simp only [↓hb36, ↓hb37, ↓hb38, ↓hb39, ↓hb40, ↓hb41, ↓hb42, ↓hb43, cond_true, cond_false, Bool.true_or, Bool.or_true, Bool.false_or, Bool.or_false, Bool.true_and, Bool.and_true, Bool.false_and, Bool.and_false, Bool.not_true, Bool.not_false]; rfl))⟩, ⟨rfl, rfl⟩, ⟨rfl, rfl⟩, ⟨rfl, rfl⟩, ⟨rfl, rfl⟩, ⟨rfl, rfl⟩, ⟨rfl, rfl⟩, ⟨rfl, rfl⟩, ⟨rfl, (by first | rfl | (simp only [↓hb36, ↓hb37, ↓hb38, ↓hb39, ↓hb40, ↓hb41, ↓hb42, ↓hb43, cond_true, cond_false, Bool.true_or, Bool.or_true, Bool.false_or, Bool.or_false, Bool.true_and, Bool.and_true, Bool.false_and, Bool.and_false, Bool.not_true, Bool.not_false]; done) | (simp only [↓hb36, ↓hb37, ↓hb38, ↓hb39, ↓hb40, ↓hb41, ↓hb42, ↓hb43, cond_true, cond_false, Bool.true_or, Bool.or_true, Bool.false_or, Bool.or_false, Bool.true_and, Bool.and_true, Bool.false_and, Bool.and_false, Bool.not_true, Bool.not_false]; rfl))⟩, trivial⟩
                · conv => whnf
                  exact Wk.mk2 [15] 16 rfl rfl (by decide) rfl ⟨⟨rfl, rfl⟩, trivial⟩ ⟨⟨rfl, rfl⟩, ⟨rfl, (by first | rfl | (simp only [↓hb36, ↓hb37, ↓hb38, ↓hb39, ↓hb40, ↓hb41, ↓hb42, cond_true, cond_false, Bool.true_or, Bool.or_true, Bool.false_or, Bool.or_false, Bool.true_and, Bool.and_true, Bool.false_and, Bool.and_false, Bool.not_true, Bool.not_false]; done) | (simp only [↓hb36, ↓hb37, ↓hb38, ↓hb39, ↓hb40, ↓hb41, ↓hb42, cond_true, cond_false, Bool.true_or, Bool.or_true, Bool.false_or, Bool.or_false, Bool.true_and, Bool.and_true, Bool.false_and, Bool.and_false, Bool.not_true, Bool.not_false]; rfl))⟩, ⟨rfl, rfl⟩, ⟨rfl, rfl⟩, ⟨rfl, rfl⟩, ⟨rfl, rfl⟩, ⟨rfl, rfl⟩, ⟨rfl, rfl⟩, ⟨rfl, rfl⟩, ⟨rfl, (by first | rfl | (simp only [↓hb36, ↓hb37, ↓hb38, ↓hb39, ↓hb40, ↓hb41, ↓hb42, cond_true, cond_false, Bool.true_or, Bool.or_true, Bool.false_or, Bool.or_false, Bool.true_and, Bool.and_true, Bool.false_and, Bool.and_false, Bool.not_true, Bool.not_false]; done) | (simp only [↓hb36, ↓hb37, ↓hb38, ↓hb39, ↓hb40, ↓hb41, ↓hb42, cond_true, cond_false, Bool.true_or, Bool.or_true, Bool.false_or, Bool.or_false, Bool.true_and, Bool.and_true, Bool.false_and, Bool.and_false, Bool.not_true, Bool.not_false]; rfl))⟩, trivial⟩
              · conv => whnf
                exact Wk.mk2 [15] 16 rfl rfl (by decide) rfl ⟨⟨rfl, rfl⟩, trivial⟩ ⟨⟨rfl, rfl⟩, ⟨rfl, (by first | rfl | (simp only [↓hb36, ↓hb37, ↓hb38, ↓hb39, ↓hb40, ↓hb41, cond_true, cond_false, Bool.true_or, Bool.or_true, Bool.false_or, Bool.or_false, Bool.true_and, Bool.and_true, Bool.false_and, Bool.and_false, Bool.not_true, Bool.not_false]; done) | (simp only [↓hb36, ↓hb37, ↓hb38, ↓hb39, ↓hb40, ↓hb41, cond_true, cond_false, Bool.true_or, Bool.or_true, Bool.false_or, Bool.or_false, Bool.true_and, Bool.and_true, Bool.false_and, Bool.and_false, Bool.not_true, Bool.not_false]; rfl))⟩, ⟨rfl, rfl⟩, ⟨rfl, rfl⟩, ⟨rfl, rfl⟩, ⟨rfl, rfl⟩, ⟨rfl, rfl⟩, ⟨rfl, rfl⟩, ⟨rfl, rfl⟩, ⟨rfl, (by first | rfl | (simp only [↓hb36, ↓hb37, ↓hb38, ↓hb39, ↓hb40, ↓hb41, cond_true, cond_false, Bool.true_or, Bool.or_true, Bool.false_or, Bool.or_false, Bool.true_and, Bool.and_true, Bool.false_and, Bool.and_false, Bool.not_true, Bool.not_false]; done) | (simp only [↓hb36, ↓hb37, ↓hb38, ↓hb39, ↓hb40, ↓hb41, cond_true, cond_false, Bool.true_or, Bool.or_true, Bool.false_or, Bool.or_false, Bool.true_and, Bool.and_true, Bool.false_and, Bool.and_false, Bool.not_true, Bool.not_false]; rfl))⟩, trivial⟩
            · conv => whnf
              exact Wk.mk2 [15] 16 rfl rfl (by decide) rfl ⟨⟨rfl, rfl⟩, trivial⟩ ⟨⟨rfl, rfl⟩, ⟨rfl, (by first | rfl | (simp only [↓hb36, ↓hb37, ↓hb38, ↓hb39, ↓hb40, cond_true, cond_false, Bool.true_or, Bool.or_true, Bool.false_or, Bool.or_false, Bool.true_and, Bool.and_true, Bool.false_and, Bool.and_false, Bool.not_true, Bool.not_false]; done) | (simp only [↓hb36, ↓hb37, ↓hb38, ↓hb39, ↓hb40, cond_true, cond_false, Bool.true_or, Bool.or_true, Bool.false_or, Bool.or_false, Bool.true_and, Bool.and_true, Bool.false_and, Bool.and_false, Bool.not_true, Bool.not_false]; rfl))⟩, ⟨rfl, rfl⟩, ⟨rfl, rfl⟩, ⟨rfl, rfl⟩, ⟨rfl, rfl⟩, ⟨rfl, rfl⟩, ⟨rfl, rfl⟩, ⟨rfl, rfl⟩, ⟨rfl, (by first | rfl | (simp only [↓hb36, ↓hb37, ↓hb38, ↓hb39, ↓hb40, cond_true, cond_false, Bool.true_or, Bool.or_true, Bool.false_or, Bool.or_false, Bool.true_and, Bool.and_true, Bool.false_and, Bool.and_false, Bool.not_true, Bool.not_false]; done) | (simp only [↓hb36, ↓hb37, ↓hb38, ↓hb39, ↓hb40, cond_true, cond_false, Bool.true_or, Bool.or_true, Bool.false_or, Bool.or_false, Bool.true_and, Bool.and_true, Bool.false_and, Bool.and_false, Bool.not_true, Bool.not_false]; rfl))⟩, trivial⟩
          · conv => whnf
            exact Wk.mk2 [15] 16 rfl rfl (by decide) rfl ⟨⟨rfl, rfl⟩, trivial⟩ ⟨⟨rfl, rfl⟩, ⟨rfl, (by first | rfl | (simp only [↓hb36, ↓hb37, ↓hb38, ↓hb39, cond_true, cond_false, Bool.true_or, Bool.or_true, Bool.false_or, Bool.or_false, Bool.true_and, Bool.and_true, Bool.false_and, Bool.and_false, Bool.not_true, Bool.not_false]; done) | (simp only [↓hb36, ↓hb37, ↓hb38, ↓hb39, cond_true, cond_false, Bool.true_or, Bool.or_true, Bool.false_or, Bool.or_false, Bool.true_and, Bool.and_true, Bool.false_and, Bool.and_false, Bool.not_true, Bool.not_false]; rfl))⟩, ⟨rfl, rfl⟩, ⟨rfl, rfl⟩, ⟨rfl, rfl⟩, ⟨rfl, rfl⟩, ⟨rfl, rfl⟩, ⟨rfl, rfl⟩, ⟨rfl, rfl⟩, ⟨rfl, (by first | rfl | (simp only [↓hb36, ↓hb37, ↓hb38, ↓hb39, cond_true, cond_false, Bool.true_or, Bool.or_true, Bool.false_or, Bool.or_false, Bool.true_and, Bool.and_true, Bool.false_and, Bool.and_false, Bool.not_true, Bool.not_false]; done) | (simp only [↓hb36, ↓hb37, ↓hb38, ↓hb39, cond_true, cond_false, Bool.true_or, Bool.or_true, Bool.false_or, Bool.or_false, Bool.true_and, Bool.and_true, Bool.false_and, Bool.and_false, Bool.not_true, Bool.not_false]; rfl))⟩, trivial⟩
        · conv => whnf
          exact Wk.mk2 [15] 16 rfl rfl (by decide) rfl ⟨⟨rfl, rfl⟩, trivial⟩ ⟨⟨rfl, rfl⟩, ⟨rfl, (by first | rfl | (simp only [↓hb36, ↓hb37, ↓hb38, cond_true, cond_false, Bool.true_or, Bool.or_true, Bool.false_or, Bool.or_false, Bool.true_and, Bool.and_true, Bool.false_and, Bool.and_false, Bool.not_true, Bool.not_false]; done) | (simp only [↓hb36, ↓hb37, ↓hb38, cond_true, cond_false, Bool.true_or, Bool.or_true, Bool.false_or, Bool.or_false, Bool.true_and, Bool.and_true, Bool.false_and, Bool.and_false, Bool.not_true, Bool.not_false]; rfl))⟩, ⟨rfl, rfl⟩, ⟨rfl, rfl⟩, ⟨rfl, rfl⟩, ⟨rfl, rfl⟩, ⟨rfl, rfl⟩, ⟨rfl, rfl⟩, ⟨rfl, rfl⟩, ⟨rfl, (by first | rfl | (simp only [↓hb36, ↓hb37, ↓hb38, cond_true, cond_false, Bool.true_or, Bool.or_true, Bool.false_or, Bool.or_false, Bool.true_and, Bool.and_true, Bool.false_and, Bool.and_false, Bool.not_true, Bool.not_false]; done) | (simp only [↓hb36, ↓hb37, ↓hb38, cond_true, cond_false, Bool.true_or, Bool.or_true, Bool.false_or, Bool.or_false, Bool.true_and, Bool.and_true, Bool.false_and, Bool.and_false, Bool.not_true, Bool.not_false]; rfl))⟩, trivial⟩
      · conv => whnf
        exact Wk.mk2 [15] 16 rfl rfl (by decide) rfl ⟨⟨rfl, rfl⟩, trivial⟩ ⟨⟨rfl, rfl⟩, ⟨rfl, (by first | rfl | (simp only [↓hb36, ↓hb37, cond_true, cond_false, Bool.true_or, Bool.or_true, Bool.false_or, Bool.or_false, Bool.true_and, Bool.and_true, Bool.false_and, Bool.and_false, Bool.not_true, Bool.not_false]; done) | (simp only [↓hb36, ↓hb37, cond_true, cond_false, Bool.true_or, Bool.or_true, Bool.false_or, Bool.or_false, Bool.true_and, Bool.and_true, Bool.false_and, Bool.and_false, Bool.not_true, Bool.not_false]; rfl))⟩, ⟨rfl, rfl⟩, ⟨rfl, rfl⟩, ⟨rfl, rfl⟩, ⟨rfl, rfl⟩, ⟨rfl, rfl⟩, ⟨rfl, rfl⟩, ⟨rfl, rfl⟩, ⟨rfl, (by first | rfl | (simp only [↓hb36, ↓hb37, cond_true, cond_false, Bool.true_or, Bool.or_true, Bool.false_or, Bool.or_false, Bool.true_and, Bool.and_true, Bool.false_and, Bool.and_false, Bool.not_true, Bool.not_false]; done) | (simp only [↓hb36, ↓hb37, cond_true, cond_false, Bool.true_or, Bool.or_true, Bool.false_or, Bool.or_false, Bool.true_and, Bool.and_true, Bool.false_and, Bool.and_false, Bool.not_true, Bool.not_false]; rfl))⟩, trivial⟩
    · conv => whnf
      exact Wk.mk2 [15] 16 rfl rfl (by decide) rfl ⟨⟨rfl, rfl⟩, trivial⟩ ⟨⟨rfl, rfl⟩, ⟨rfl, (by first | rfl | (simp only [↓hb36, cond_true, cond_false, Bool.true_or, Bool.or_true, Bool.false_or, Bool.or_false, Bool.true_and, Bool.and_true, Bool.false_and, Bool.and_false, Bool.not_true, Bool.not_false]; done) | (simp only [↓hb36, cond_true, cond_false, Bool.true_or, Bool.or_true, Bool.false_or, Bool.or_false, Bool.true_and, Bool.and_true, Bool.false_and, Bool.and_false, Bool.not_true, Bool.not_false]; rfl))⟩, ⟨rfl, rfl⟩, ⟨rfl, rfl⟩, ⟨rfl, rfl⟩, ⟨rfl, rfl⟩, ⟨rfl, rfl⟩, ⟨rfl, rfl⟩, ⟨rfl, rfl⟩, ⟨rfl, (by first | rfl | (simp only [↓hb36, cond_true, cond_false, Bool.true_or, Bool.or_true, Bool.false_or, Bool.or_false, Bool.true_and, Bool.and_true, Bool.false_and, Bool.and_false, Bool.not_true, Bool.not_false]; done) | (simp only [↓hb36, cond_true, cond_false, Bool.true_or, Bool.or_true, Bool.false_or, Bool.or_false, Bool.true_and, Bool.and_true, Bool.false_and, Bool.and_false, Bool.not_true, Bool.not_false]; rfl))⟩, trivial⟩
  · conv => whnf
    refine Tr.weak hw ?_
    refine Tr.seq ?_
    refine Tr.cutQ1 ([(0, .d (.b (((r_5 == 0) && (((r_4.Bib == 1) && ((r_4.Kind == 2) && ((r_4.Lo == 1) && ((r_4.Hi == 2) && ((r_4.Out == false) && true))))) && ((r_8 == 0) && ((r_7.Lo == 1) && ((r_7.Hi == 2) && ((r_13 == 0) && ((r_12.Kind == 1) && ((r_12.Lo == 1) && ((r_16 == 240) && (r_19 == 250)))))))))) && ((r_25 == 0) && (((r_24.Bib == 1) && ((r_24.Kind == 3) && ((r_24.Lo == 0) && ((r_24.Hi == 0) && ((r_24.Out == true) && true))))) && ((r_29 == 0) && ((!r_27) && ((!r_28) && ((r_33 == 0) && ((!r_31) && r_32))))))))))]) ([]) ?_ (fun T1 H1 hw => ?_)
    · refine Tr.region layOK ?_
      conv => whnf
      refine condS_mk (fun hb46 => ?_) (fun hb46 => ?_)
      · conv => whnf
        refine condS_mk (fun hb47 => ?_) (fun hb47 => ?_)
        · conv => whnf
          refine condS_mk (fun hb48 => ?_) (fun hb48 => ?_)
          · conv => whnf
            refine condS_mk (fun hb49 => ?_) (fun hb49 => ?_)
            · conv => whnf
              refine condS_mk (fun hb50 => ?_) (fun hb50 => ?_)
              · conv => whnf
                refine condS_mk (fun hb51 => ?_) (fun hb51 => ?_)
                · conv => whnf
                  refine condS_mk (fun hb52 => ?_) (fun hb52 => ?_)
                  · conv => whnf
                    refine condS_mk (fun hb53 => ?_) (fun hb53 => ?_)
                    · conv => whnf
                      exact Wk.mk2 [] 1 rfl rfl (by decide) rfl trivial ⟨⟨rfl, (by first | rfl | (simp only [↓hb46, ↓hb47, ↓hb48, ↓hb49, ↓hb50, ↓hb51, ↓hb52, ↓hb53, cond_true, cond_false, Bool.true_or, Bool.or_true, Bool.false_or, Bool.or_false, Bool.true_and, Bool.and_true, Bool.false_and, Bool.and_false, Bool.not_true, Bool.not_false]; done) | (simp only [↓hb46, ↓hb47, ↓hb48, ↓hb49, ↓hb50, ↓hb51, ↓hb52, ↓hb53, cond_true, cond_false, Bool.true_or, Bool.or_true, Bool.false_or, Bool.or_false, Bool.true_and, Bool.and_true, Bool.false_and, Bool.and_false, Bool.not_true, Bool.not_false]; rfl))⟩, trivial⟩
                    · conv => whnf
                      exact Wk.mk2 [] 1 rfl rfl (by decide) rfl trivial ⟨⟨rfl, (by first | rfl | (simp only [↓hb46, ↓hb47, ↓hb48, ↓hb49, ↓hb50, ↓hb51, ↓hb52, ↓hb53, cond_true, cond_false, Bool.true_or, Bool.or_true, Bool.false_or, Bool.or_false, Bool.true_and, Bool.and_true, Bool.false_and, Bool.and_false, Bool.not_true, Bool.not_false]; done) | (simp only [↓hb46, ↓hb47, ↓hb48, ↓hb49, ↓hb50, ↓hb51, ↓hb52, ↓hb53, cond_true, cond_false, Bool.true_or, Bool.or_true, Bool.false_or, Bool.or_false, Bool.true_and, Bool.and_true, Bool.false_and, Bool.and_false, Bool.not_true, Bool.not_false]; rfl))⟩, trivial⟩
                  · conv => whnf
                    exact Wk.mk2 [] 1 rfl rfl (by decide) rfl trivial ⟨⟨rfl, (by first | rfl | (simp only [↓hb46, ↓hb47, ↓hb48, ↓hb49, ↓hb50, ↓hb51, ↓hb52, cond_true, cond_false, Bool.true_or, Bool.or_true, Bool.false_or, Bool.or_false, Bool.true_and, Bool.and_true, Bool.false_and, Bool.and_false, Bool.not_true, Bool.not_false]; done) | (simp only [↓hb46, ↓hb47, ↓hb48, ↓hb49, ↓hb50, ↓hb51, ↓hb52, cond_true, cond_false, Bool.true_or, Bool.or_true, Bool.false_or, Bool.or_false, Bool.true_and, Bool.and_true, Bool.false_and, Bool.and_false, Bool.not_true, Bool.not_false]; rfl))⟩, trivial⟩
                · conv => whnf
                  exact Wk.mk2 [] 1 rfl rfl (by decide) rfl trivial ⟨⟨rfl, (by first | rfl | (simp only [↓hb46, ↓hb47, ↓hb48, ↓hb49, ↓hb50, ↓hb51, cond_true, cond_false, Bool.true_or, Bool.or_true, Bool.false_or, Bool.or_false, Bool.true_and, Bool.and_true, Bool.false_and, Bool.and_false, Bool.not_true, Bool.not_false]; done) | (simp only [↓hb46, ↓hb47, ↓hb48, ↓hb49, ↓hb50, ↓hb51, cond_true, cond_false, Bool.true_or, Bool.or_true, Bool.false_or, Bool.or_false, Bool.true_and, Bool.and_true, Bool.false_and, Bool.and_false, Bool.not_true, Bool.not_false]; rfl))⟩, trivial⟩
              · conv => whnf
                exact Wk.mk2 [] 1 rfl rfl (by decide) rfl trivial ⟨⟨rfl, (by first | rfl | (simp only [↓hb46, ↓hb47, ↓hb48, ↓hb49, ↓hb50, cond_true, cond_false, Bool.true_or, Bool.or_true, Bool.false_or, Bool.or_false, Bool.true_and, Bool.and_true, Bool.false_and, Bool.and_false, Bool.not_true, Bool.not_false]; done) | (simp only [↓hb46, ↓hb47, ↓hb48, ↓hb49, ↓hb50, cond_true, cond_false, Bool.true_or, Bool.or_true, Bool.false_or, Bool.or_false, Bool.true_and, Bool.and_true, Bool.false_and, Bool.and_false, Bool.not_true, Bool.not_false]; rfl))⟩, trivial⟩
            · conv => whnf
              exact Wk.mk2 [] 1 rfl rfl (by decide) rfl trivial ⟨⟨rfl, (by first | rfl | (simp only [↓hb46, ↓hb47, ↓hb48, ↓hb49, cond_true, cond_false, Bool.true_or, Bool.or_true, Bool.false_or, Bool.or_false, Bool.true_and, Bool.and_true, Bool.false_and, Bool.and_false, Bool.not_true, Bool.not_false]; done) | (simp only [↓hb46, ↓hb47, ↓hb48, ↓hb49, cond_true, cond_false, Bool.true_or, Bool.or_true, Bool.false_or, Bool.or_false, Bool.true_and, Bool.and_true, Bool.false_and, Bool.and_false, Bool.not_true, Bool.not_false]; rfl))⟩, trivial⟩
          · conv => whnf
            exact Wk.mk2 [] 1 rfl rfl (by decide) rfl trivial ⟨⟨rfl, (by first | rfl | (simp only [↓hb46, ↓hb47, ↓hb48, cond_true, cond_false, Bool.true_or, Bool.or_true, Bool.false_or, Bool.or_false, Bool.true_and, Bool.and_true, Bool.false_and, Bool.and_false, Bool.not_true, Bool.not_false]; done) | (simp only [↓hb46, ↓hb47, ↓hb48, cond_true, cond_false, Bool.true_or, Bool.or_true, Bool.false_or, Bool.or_false, Bool.true_and, Bool.and_true, Bool.false_and, Bool.and_false, Bool.not_true, Bool.not_false]; rfl))⟩, trivial⟩
        · conv => whnf
          exact Wk.mk2 [] 1 rfl rfl (by decide) rfl trivial ⟨⟨rfl, (by first | rfl | (simp only [↓hb46, ↓hb47, cond_true, cond_false, Bool.true_or, Bool.or_true, Bool.false_or, Bool.or_false, Bool.true_and, Bool.and_true, Bool.false_and, Bool.and_false, Bool.not_true, Bool.not_false]; done) | (simp only [↓hb46, ↓hb47, cond_true, cond_false, Bool.true_or, Bool.or_true, Bool.false_or, Bool.or_false, Bool.true_and, Bool.and_true, Bool.false_and, Bool.and_false, Bool.not_true, Bool.not_false]; rfl))⟩, trivial⟩
      · conv => whnf
        exact Wk.mk2 [] 1 rfl rfl (by decide) rfl trivial ⟨⟨rfl, (by first | rfl | (simp only [↓hb46, cond_true, cond_false, Bool.true_or, Bool.or_true, Bool.false_or, Bool.or_false, Bool.true_and, Bool.and_true, Bool.false_and, Bool.and_false, Bool.not_true, Bool.not_false]; done) | (simp only [↓hb46, cond_true, cond_false, Bool.true_or, Bool.or_true, Bool.false_or, Bool.or_false, Bool.true_and, Bool.and_true, Bool.false_and, Bool.and_false, Bool.not_true, Bool.not_false]; rfl))⟩, trivial⟩
    · conv => whnf
      refine Tr.weak hw ?_
      refine Tr.ret ?_
      conv => whnf
      cases h
      rfl

theorem s_stopwatchref25_Few (f_1 : TField) (r_2 : Bool) (h : m_stopwatchref25_Few f_1 = some r_2) :
    PC prog 12 [(eTField f_1)] (fun rs => rs = [(.b r_2)]) := by
  refine PC.of_tr (cx := ⟨83, none, lay, 0⟩) layOK func12 rfl rfl rfl rfl rfl (by simp [f12]) ?_
  unfold m_stopwatchref25_Few at h
  refine Tr.seq ?_
  refine Tr.region layOK ?_
  conv => whnf
  refine Tr.seq ?_
  refine Tr.seq ?_
  refine Tr.region layOK ?_
  conv => whnf
  refine Tr.cutQ (α := Unit) (fun s => ([(1, .pt 0 0), (2, .d (.b false))], [some (.var [.d (.ls (List.map eTSegment f_1.Clocks.Segments)), .d (.ls (List.map (eL eI) f_1.Clocks.Far)), .d (.ls (List.map eTPair f_1.Pairs)), .d (.ls (List.map eTRunner f_1.Runners))])])) (fun s => m_stopwatchref25_Few_J6 f_1 s = some r_2) ?_ ?_
  · refine Tr.block ?_
    refine Tr.loopM (σ := Int) (fun n s => m_stopwatchref25_Few_L1 f_1 (m_stopwatchref25_Few_J6 f_1) n s) r_2 (fun s => ([(1, .pt 0 0), (2, .d (.b false)), (3, .d (.i .i64 s))], [some (.var [.d (.ls (List.map eTSegment f_1.Clocks.Segments)), .d (.ls (List.map (eL eI) f_1.Clocks.Far)), .d (.ls (List.map eTPair f_1.Pairs)), .d (.ls (List.map eTRunner f_1.Runners))])])) (((((f_1.Runners).length : Int)) - 0 : Int).toNat + 1) (0) h (fun s => rfl) (Wk.mk2 [0] 1 rfl rfl (by decide) rfl ⟨⟨rfl, rfl⟩, trivial⟩ ⟨⟨rfl, rfl⟩, ⟨rfl, rfl⟩, ⟨rfl, rfl⟩, trivial⟩) ?_
    clear h
    rintro n_5 i_4 h
    replace h : m_stopwatchref25_Few_L1 f_1 (m_stopwatchref25_Few_J6 f_1) (n_5 + 1) i_4 = some r_2 := h
    rw [m_stopwatchref25_Few_L1] at h
    refine Tr.seq ?_
    refine Tr.seq ?_
    refine Tr.region layOK ?_
    conv => whnf
    refine lnS_map ?_
    conv => whnf
    refine Tr.cond ?_
    conv => whnf
    refine condS_bif h (fun hb8 h => ?_) (fun hb8 h => ?_)
    · refine Tr.skip ?_
      conv => whnf
      refine Tr.seq ?_
      refine Tr.block ?_
      refine Tr.seq ?_
      refine Tr.region layOK ?_
      conv => whnf
      obtain ⟨x_9, hx_9, h⟩ := bind_some h
      refine ixP_of hx_9 ?_
      conv => whnf
      refine Tr.seq ?_
      refine Tr.seq ?_
      refine Tr.region layOK ?_
      conv => whnf
      refine lnS_map ?_
      conv => whnf
      refine condS_bif h (fun hb10 h => ?_) (fun hb10 h => ?_)
      · conv => whnf
        refine Tr.cond ?_
        conv => whnf
        refine Tr.seq ?_
        refine Tr.region layOK ?_
        conv => whnf
        refine Tr.ret ?_
        conv => whnf
        cases h
        rfl
      · conv => whnf
        refine lnS_map ?_
        conv => whnf
        refine Tr.cond ?_
        conv => whnf
        refine condS_bif h (fun hb11 h => ?_) (fun hb11 h => ?_)
        · refine Tr.seq ?_
          refine Tr.region layOK ?_
          conv => whnf
          refine Tr.ret ?_
          conv => whnf
          cases h
          rfl
        · refine Tr.skip ?_
          conv => whnf
          refine Tr.seq ?_
          refine Tr.region layOK ?_
          conv => whnf
          refine Tr.cutQ (α := Unit) (fun s => ([(1, .pt 0 0), (2, .d (.b false)), (3, .d (.i .i64 i_4))], [some (.var [.d (.ls (List.map eTSegment f_1.Clocks.Segments)), .d (.ls (List.map (eL eI) f_1.Clocks.Far)), .d (.ls (List.map eTPair f_1.Pairs)), .d (.ls (List.map eTRunner f_1.Runners))])])) (fun s => m_stopwatchref25_Few_J3 i_4 (m_stopwatchref25_Few_L1 f_1 (m_stopwatchref25_Few_J6 f_1) n_5) s = some r_2) ?_ ?_
          · refine Tr.block ?_
            refine Tr.loopM (σ := Int) (fun n s => m_stopwatchref25_Few_L2 x_9 (m_stopwatchref25_Few_J3 i_4 (m_stopwatchref25_Few_L1 f_1 (m_stopwatchref25_Few_J6 f_1) n_5)) n s) r_2 (fun s => ([(1, .pt 0 0), (2, .d (.b false)), (3, .d (.i .i64 i_4)), (4, .pt 1 0), (5, .d (.i .i64 s))], [some (.var [.d (.ls (List.map eTSegment f_1.Clocks.Segments)), .d (.ls (List.map (eL eI) f_1.Clocks.Far)), .d (.ls (List.map eTPair f_1.Pairs)), .d (.ls (List.map eTRunner f_1.Runners))]), some (.var [.d (.i .i64 x_9.Bib), .d (.ls (List.map eI x_9.Keys)), .d (.ls (List.map (eL eTOutcome) x_9.Worlds))])])) (((((x_9.Worlds).length : Int)) - 0 : Int).toNat + 1) (0) h (fun s => rfl) (Wk.mk2 [0, 1] 2 rfl rfl (by decide) rfl ⟨⟨rfl, rfl⟩, ⟨rfl, rfl⟩, trivial⟩ ⟨⟨rfl, rfl⟩, ⟨rfl, rfl⟩, ⟨rfl, rfl⟩, ⟨rfl, rfl⟩, ⟨rfl, rfl⟩, trivial⟩) ?_
            clear h
            rintro n_14 w_13 h
            replace h : m_stopwatchref25_Few_L2 x_9 (m_stopwatchref25_Few_J3 i_4 (m_stopwatchref25_Few_L1 f_1 (m_stopwatchref25_Few_J6 f_1) n_5)) (n_14 + 1) w_13 = some r_2 := h
            rw [m_stopwatchref25_Few_L2] at h
            refine Tr.seq ?_
            refine Tr.seq ?_
            refine Tr.region layOK ?_
            conv => whnf
            refine lnS_map ?_
            conv => whnf
            refine Tr.cond ?_
            conv => whnf
            refine condS_bif h (fun hb17 h => ?_) (fun hb17 h => ?_)
            · refine Tr.skip ?_
              conv => whnf
              refine Tr.seq ?_
              refine Tr.block ?_
              refine Tr.seq ?_
              refine Tr.region layOK ?_
              conv => whnf
              obtain ⟨x_18, hx_18, h⟩ := bind_some h
              refine ixP_of hx_18 ?_
              conv => whnf
              refine lnS_map ?_
              conv => whnf
              refine Tr.cond ?_
              conv => whnf
              refine condS_bif h (fun hb19 h => ?_) (fun hb19 h => ?_)
              · refine Tr.seq ?_
                refine Tr.region layOK ?_
                conv => whnf
                refine Tr.ret ?_
                conv => whnf
                cases h
                rfl
              · refine Tr.skip ?_
                conv => whnf
                refine Tr.region layOK ?_
                conv => whnf
                refine arS_raw ?_
                conv => whnf
                refine ⟨((w64 (w_13 + 1))), h, ?_⟩
                exact Wk.mk2 [0, 1] 2 rfl rfl (by decide) rfl ⟨⟨rfl, rfl⟩, ⟨rfl, rfl⟩, trivial⟩ ⟨⟨rfl, rfl⟩, ⟨rfl, rfl⟩, ⟨rfl, rfl⟩, ⟨rfl, rfl⟩, ⟨rfl, rfl⟩, trivial⟩
            · refine Tr.exit ?_
              conv => whnf
              refine ⟨(), h, ?_⟩
              exact Wk.mk2 [0] 2 rfl rfl (by decide) rfl ⟨⟨rfl, rfl⟩, trivial⟩ ⟨⟨rfl, rfl⟩, ⟨rfl, rfl⟩, ⟨rfl, rfl⟩, trivial⟩
          · clear h
            rintro _ h T1 H1 hw
            replace h : m_stopwatchref25_Few_J3 i_4 (m_stopwatchref25_Few_L1 f_1 (m_stopwatchref25_Few_J6 f_1) n_5) () = some r_2 := h
            conv => whnf
            refine Tr.weak hw ?_
            unfold m_stopwatchref25_Few_J3 at h
            refine Tr.region layOK ?_
            conv => whnf
            refine arS_raw ?_
            conv => whnf
            refine ⟨((w64 (i_4 + 1))), h, ?_⟩
            exact Wk.mk2 [0] 1 rfl rfl (by decide) rfl ⟨⟨rfl, rfl⟩, trivial⟩ ⟨⟨rfl, rfl⟩, ⟨rfl, rfl⟩, ⟨rfl, rfl⟩, trivial⟩
    · refine Tr.exit ?_
      conv => whnf
      refine ⟨(), h, ?_⟩
      exact Wk.mk2 [0] 1 rfl rfl (by decide) rfl ⟨⟨rfl, rfl⟩, trivial⟩ ⟨⟨rfl, rfl⟩, ⟨rfl, rfl⟩, trivial⟩
  · clear h
    rintro _ h T1 H1 hw
    replace h : m_stopwatchref25_Few_J6 f_1 () = some r_2 := h
    conv => whnf
    refine Tr.weak hw ?_
    unfold m_stopwatchref25_Few_J6 at h
    refine Tr.seq ?_
    refine Tr.seq ?_
    refine Tr.region layOK ?_
    conv => whnf
    refine Tr.cutQ (α := Unit) (fun s => ([(1, .pt 0 0), (2, .d (.b false))], [some (.var [.d (.ls (List.map eTSegment f_1.Clocks.Segments)), .d (.ls (List.map (eL eI) f_1.Clocks.Far)), .d (.ls (List.map eTPair f_1.Pairs)), .d (.ls (List.map eTRunner f_1.Runners))])])) (fun s => m_stopwatchref25_Few_J5 f_1 s = some r_2) ?_ ?_
    · refine Tr.block ?_
      refine Tr.loopM (σ := Int) (fun n s => m_stopwatchref25_Few_L4 f_1 (m_stopwatchref25_Few_J5 f_1) n s) r_2 (fun s => ([(1, .pt 0 0), (2, .d (.b false)), (6, .d (.i .i64 s))], [some (.var [.d (.ls (List.map eTSegment f_1.Clocks.Segments)), .d (.ls (List.map (eL eI) f_1.Clocks.Far)), .d (.ls (List.map eTPair f_1.Pairs)), .d (.ls (List.map eTRunner f_1.Runners))])])) (((((f_1.Clocks.Far).length : Int)) - 0 : Int).toNat + 1) (0) h (fun s => rfl) (Wk.mk2 [0] 1 rfl rfl (by decide) rfl ⟨⟨rfl, rfl⟩, trivial⟩ ⟨⟨rfl, rfl⟩, ⟨rfl, rfl⟩, ⟨rfl, rfl⟩, trivial⟩) ?_
      clear h
      rintro n_22 i_21 h
      replace h : m_stopwatchref25_Few_L4 f_1 (m_stopwatchref25_Few_J5 f_1) (n_22 + 1) i_21 = some r_2 := h
      rw [m_stopwatchref25_Few_L4] at h
      refine Tr.seq ?_
      refine Tr.seq ?_
      refine Tr.region layOK ?_
      conv => whnf
      refine lnS_map ?_
      conv => whnf
      refine Tr.cond ?_
      conv => whnf
      refine condS_bif h (fun hb25 h => ?_) (fun hb25 h => ?_)
      · refine Tr.skip ?_
        conv => whnf
        refine Tr.seq ?_
        refine Tr.block ?_
        refine Tr.seq ?_
        refine Tr.region layOK ?_
        conv => whnf
        obtain ⟨x_26, hx_26, h⟩ := bind_some h
        refine ixP_of hx_26 ?_
        conv => whnf
        refine lnS_map ?_
        conv => whnf
        refine Tr.cond ?_
        conv => whnf
        refine condS_bif h (fun hb27 h => ?_) (fun hb27 h => ?_)
        · refine Tr.seq ?_
          refine Tr.region layOK ?_
          conv => whnf
          refine Tr.ret ?_
          conv => whnf
          cases h
          rfl
        · refine Tr.skip ?_
          conv => whnf
          refine Tr.region layOK ?_
          conv => whnf
          refine arS_raw ?_
          conv => whnf
          refine ⟨((w64 (i_21 + 1))), h, ?_⟩
          exact Wk.mk2 [0] 1 rfl rfl (by decide) rfl ⟨⟨rfl, rfl⟩, trivial⟩ ⟨⟨rfl, rfl⟩, ⟨rfl, rfl⟩, ⟨rfl, rfl⟩, trivial⟩
      · refine Tr.exit ?_
        conv => whnf
        refine ⟨(), h, ?_⟩
        exact Wk.mk2 [0] 1 rfl rfl (by decide) rfl ⟨⟨rfl, rfl⟩, trivial⟩ ⟨⟨rfl, rfl⟩, ⟨rfl, rfl⟩, trivial⟩
    · clear h
      rintro _ h T1 H1 hw
      replace h : m_stopwatchref25_Few_J5 f_1 () = some r_2 := h
      conv => whnf
      refine Tr.weak hw ?_
      unfold m_stopwatchref25_Few_J5 at h
      refine Tr.seq ?_
      refine Tr.cutQ1 ([(2, .d (.b ((decide ((((f_1.Runners).length : Int)) ≤ 6)) && ((decide ((((f_1.Pairs).length : Int)) ≤ 3)) && ((decide ((((f_1.Clocks.Segments).length : Int)) ≤ 4)) && (decide ((((f_1.Clocks.Far).length : Int)) ≤ 6)))))))]) ([]) ?_ (fun T1 H1 hw => ?_)
      · refine Tr.region layOK ?_
        conv => whnf
        refine lnS_map ?_
        conv => whnf
        refine condS_mk (fun hb29 => ?_) (fun hb29 => ?_)
        · conv => whnf
          refine lnS_map ?_
          conv => whnf
          refine condS_mk (fun hb30 => ?_) (fun hb30 => ?_)
          · conv => whnf
            refine lnS_map ?_
            conv => whnf
            refine condS_mk (fun hb31 => ?_) (fun hb31 => ?_)
            · conv => whnf
              refine lnS_map ?_
              conv => whnf
              exact Wk.mk2 [] 1 rfl rfl (by decide) rfl trivial ⟨⟨rfl, (by first | rfl | (simp only [↓hb29, ↓hb30, ↓hb31, cond_true, cond_false, Bool.true_or, Bool.or_true, Bool.false_or, Bool.or_false, Bool.true_and, Bool.and_true, Bool.false_and, Bool.and_false, Bool.not_true, Bool.not_false]; done) | (simp only [↓hb29, ↓hb30, ↓hb31, cond_true, cond_false, Bool.true_or, Bool.or_true, Bool.false_or, Bool.or_false, Bool.true_and, Bool.and_true, Bool.false_and, Bool.and_false, Bool.not_true, Bool.not_false]; rfl))⟩, trivial⟩
            · conv => whnf
              exact Wk.mk2 [] 1 rfl rfl (by decide) rfl trivial ⟨⟨rfl, (by first | rfl | (simp only [↓hb29, ↓hb30, ↓hb31, cond_true, cond_false, Bool.true_or, Bool.or_true, Bool.false_or, Bool.or_false, Bool.true_and, Bool.and_true, Bool.false_and, Bool.and_false, Bool.not_true, Bool.not_false]; done) | (simp only [↓hb29, ↓hb30, ↓hb31, cond_true, cond_false, Bool.true_or, Bool.or_true, Bool.false_or, Bool.or_false, Bool.true_and, Bool.and_true, Bool.false_and, Bool.and_false, Bool.not_true, Bool.not_false]; rfl))⟩, trivial⟩
          · conv => whnf
            exact Wk.mk2 [] 1 rfl rfl (by decide) rfl trivial ⟨⟨rfl, (by first | rfl | (simp only [↓hb29, ↓hb30, cond_true, cond_false, Bool.true_or, Bool.or_true, Bool.false_or, Bool.or_false, Bool.true_and, Bool.and_true, Bool.false_and, Bool.and_false, Bool.not_true, Bool.not_false]; done) | (simp only [↓hb29, ↓hb30, cond_true, cond_false, Bool.true_or, Bool.or_true, Bool.false_or, Bool.or_false, Bool.true_and, Bool.and_true, Bool.false_and, Bool.and_false, Bool.not_true, Bool.not_false]; rfl))⟩, trivial⟩
        · conv => whnf
          exact Wk.mk2 [] 1 rfl rfl (by decide) rfl trivial ⟨⟨rfl, (by first | rfl | (simp only [↓hb29, cond_true, cond_false, Bool.true_or, Bool.or_true, Bool.false_or, Bool.or_false, Bool.true_and, Bool.and_true, Bool.false_and, Bool.and_false, Bool.not_true, Bool.not_false]; done) | (simp only [↓hb29, cond_true, cond_false, Bool.true_or, Bool.or_true, Bool.false_or, Bool.or_false, Bool.true_and, Bool.and_true, Bool.false_and, Bool.and_false, Bool.not_true, Bool.not_false]; rfl))⟩, trivial⟩
      · conv => whnf
        refine Tr.weak hw ?_
        refine Tr.ret ?_
        conv => whnf
        cases h
        rfl
end Go.Proofs.Try
