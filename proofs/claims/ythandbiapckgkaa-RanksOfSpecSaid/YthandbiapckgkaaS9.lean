/- Contracts of functions, by program (gen.py). No condition. -/
import Derived.Test.YthandbiapckgkaaL
import Derived.Test.YthandbiapckgkaaM
import Derived.Test.YthandbiapckgkaaS8
namespace Go.Proofs.Try
open Go Go.Abs Go.Stop
set_option maxRecDepth 8000
set_option linter.unusedVariables false
set_option linter.unusedSimpArgs false

theorem s_stopwatchref25_extremes (f_1 : TField) (world_2 : Int) (x_3 : TOutcome) (runner_4 : Int) (r_5 : Int) (r_6 : Int) (h : m_stopwatchref25_extremes f_1 world_2 x_3 runner_4 = some (r_5, r_6)) :
    PC prog 49 [(eTField f_1), (.i .i64 world_2), (eTOutcome x_3), (.i .i64 runner_4)] (fun rs => rs = [(.i .i64 r_5), (.i .i64 r_6)]) := by
  refine PC.of_tr (cx := ⟨42, none, lay, 0⟩) layOK func49 rfl rfl rfl rfl rfl (by simp [f49]) ?_
  unfold m_stopwatchref25_extremes at h
  refine Tr.seq ?_
  refine Tr.region layOK ?_
  conv => whnf
  refine Tr.seq ?_
  refine Tr.region layOK ?_
  conv => whnf
  refine Tr.seq ?_
  refine Tr.region layOK ?_
  conv => whnf
  refine Tr.seq ?_
  refine Tr.seq ?_
  refine Tr.region layOK ?_
  conv => whnf
  obtain ⟨⟨best_14, worst_15⟩, hv32, h⟩ := bind_some h
  refine Tr.cutQ1 ([(8, .d (.i .i64 0)), (9, .d (.i .i64 0)), (10, .d (.i .i64 best_14)), (11, .d (.i .i64 worst_15))]) ([]) ?_ (fun T1 H1 hw => ?_)
  · replace h := hv32; clear hv32
    refine Tr.block ?_
    refine Tr.loopM (σ := Int × Int × Int) (fun n s => m_stopwatchref25_extremes_L1 f_1 world_2 x_3 runner_4 n s.1 s.2.1 s.2.2) (best_14, worst_15) (fun s => ([(1, .d (.i .i64 world_2)), (3, .d (.i .i64 runner_4)), (4, .pt 0 0), (6, .pt 1 0), (8, .d (.i .i64 0)), (9, .d (.i .i64 0)), (10, .d (.i .i64 s.1)), (11, .d (.i .i64 s.2.1)), (12, .d (.i .i64 s.2.2))], [some (.var [.d (.ls (List.map eTSegment f_1.Clocks.Segments)), .d (.ls (List.map (eL eI) f_1.Clocks.Far)), .d (.ls (List.map eTPair f_1.Pairs)), .d (.ls (List.map eTRunner f_1.Runners))]), some (.var [.d (.b x_3.Out), .d (.i .i64 x_3.Seg), .d (.i .i64 x_3.Lo), .d (.i .i64 x_3.Hi)])])) (((((f_1.Runners).length : Int)) - 0 : Int).toNat + 1) (1, 1, 0) h (fun s => rfl) (Wk.mk2 [0, 1] 2 rfl rfl (by decide) rfl ⟨⟨rfl, rfl⟩, ⟨rfl, rfl⟩, trivial⟩ ⟨⟨rfl, rfl⟩, ⟨rfl, rfl⟩, ⟨rfl, rfl⟩, ⟨rfl, rfl⟩, ⟨rfl, rfl⟩, ⟨rfl, rfl⟩, ⟨rfl, rfl⟩, ⟨rfl, rfl⟩, ⟨rfl, rfl⟩, trivial⟩) ?_
    clear h
    rintro n_13 ⟨best_10, worst_11, i_12⟩ h
    replace h : m_stopwatchref25_extremes_L1 f_1 world_2 x_3 runner_4 (n_13 + 1) best_10 worst_11 i_12 = some (best_14, worst_15) := h
    rw [m_stopwatchref25_extremes_L1] at h
    refine Tr.seq ?_
    refine Tr.seq ?_
    refine Tr.region layOK ?_
    conv => whnf
    refine lnS_map ?_
    conv => whnf
    refine Tr.cond ?_
    conv => whnf
    refine condS_bif h (fun hb18 h => ?_) (fun hb18 h => ?_)
    · refine Tr.skip ?_
      conv => whnf
      refine Tr.seq ?_
      obtain ⟨⟨best_19, worst_20⟩, hv21, h⟩ := bind_some h
      refine Tr.cutQ1 ([(1, .d (.i .i64 world_2)), (3, .d (.i .i64 runner_4)), (4, .pt 0 0), (6, .pt 1 0), (8, .d (.i .i64 0)), (9, .d (.i .i64 0)), (10, .d (.i .i64 best_19)), (11, .d (.i .i64 worst_20)), (12, .d (.i .i64 i_12))]) ([some (.var [.d (.ls (List.map eTSegment f_1.Clocks.Segments)), .d (.ls (List.map (eL eI) f_1.Clocks.Far)), .d (.ls (List.map eTPair f_1.Pairs)), .d (.ls (List.map eTRunner f_1.Runners))]), some (.var [.d (.b x_3.Out), .d (.i .i64 x_3.Seg), .d (.i .i64 x_3.Lo), .d (.i .i64 x_3.Hi)])]) ?_ (fun T1 H1 hw => ?_)
      · replace h := hv21; clear hv21
        refine Tr.block ?_
        refine Tr.seq ?_
        refine Tr.seq ?_
        refine Tr.region layOK ?_
        conv => whnf
        refine Tr.cond ?_
        conv => whnf
        refine condS_bif h (fun hb22 h => ?_) (fun hb22 h => ?_)
        · refine Tr.exit ?_
          conv => whnf
          cases h
          exact Wk.mk2 [0, 1] 2 rfl rfl (by decide) rfl ⟨⟨rfl, rfl⟩, ⟨rfl, rfl⟩, trivial⟩ ⟨⟨rfl, rfl⟩, ⟨rfl, rfl⟩, ⟨rfl, rfl⟩, ⟨rfl, rfl⟩, ⟨rfl, rfl⟩, ⟨rfl, rfl⟩, ⟨rfl, rfl⟩, ⟨rfl, rfl⟩, ⟨rfl, rfl⟩, trivial⟩
        · refine Tr.skip ?_
          conv => whnf
          refine Tr.seq ?_
          refine Tr.seq ?_
          refine Tr.region layOK ?_
          conv => whnf
          obtain ⟨r_23, hc24, h⟩ := bind_some h
          refine PC.ecall (s_stopwatchref25_anyLate f_1 world_2 x_3 runner_4 i_12 r_23 hc24) (fun rs hrs => ?_)
          subst hrs
          conv => whnf
          refine Tr.cond ?_
          conv => whnf
          refine condS_bif h (fun hb25 h => ?_) (fun hb25 h => ?_)
          · refine Tr.region layOK ?_
            conv => whnf
            refine arS_raw ?_
            conv => whnf
            refine Tr.seq ?_
            refine Tr.region layOK ?_
            conv => whnf
            obtain ⟨r_26, hc27, h⟩ := bind_some h
            refine PC.ecall (s_stopwatchref25_anyEarly f_1 world_2 x_3 runner_4 i_12 r_26 hc27) (fun rs hrs => ?_)
            subst hrs
            conv => whnf
            refine Tr.cond ?_
            conv => whnf
            refine condS_bif h (fun hb28 h => ?_) (fun hb28 h => ?_)
            · refine Tr.region layOK ?_
              conv => whnf
              refine arS_raw ?_
              conv => whnf
              cases h
              exact Wk.mk2 [0, 1] 2 rfl rfl (by decide) rfl ⟨⟨rfl, rfl⟩, ⟨rfl, rfl⟩, trivial⟩ ⟨⟨rfl, rfl⟩, ⟨rfl, rfl⟩, ⟨rfl, rfl⟩, ⟨rfl, rfl⟩, ⟨rfl, rfl⟩, ⟨rfl, rfl⟩, ⟨rfl, rfl⟩, ⟨rfl, rfl⟩, ⟨rfl, rfl⟩, trivial⟩
            · refine Tr.skip ?_
              conv => whnf
              cases h
              exact Wk.mk2 [0, 1] 2 rfl rfl (by decide) rfl ⟨⟨rfl, rfl⟩, ⟨rfl, rfl⟩, trivial⟩ ⟨⟨rfl, rfl⟩, ⟨rfl, rfl⟩, ⟨rfl, rfl⟩, ⟨rfl, rfl⟩, ⟨rfl, rfl⟩, ⟨rfl, rfl⟩, ⟨rfl, rfl⟩, ⟨rfl, rfl⟩, ⟨rfl, rfl⟩, trivial⟩
          · refine Tr.skip ?_
            conv => whnf
            refine Tr.seq ?_
            refine Tr.region layOK ?_
            conv => whnf
            obtain ⟨r_29, hc30, h⟩ := bind_some h
            refine PC.ecall (s_stopwatchref25_anyEarly f_1 world_2 x_3 runner_4 i_12 r_29 hc30) (fun rs hrs => ?_)
            subst hrs
            conv => whnf
            refine Tr.cond ?_
            conv => whnf
            refine condS_bif h (fun hb31 h => ?_) (fun hb31 h => ?_)
            · refine Tr.region layOK ?_
              conv => whnf
              refine arS_raw ?_
              conv => whnf
              cases h
              exact Wk.mk2 [0, 1] 2 rfl rfl (by decide) rfl ⟨⟨rfl, rfl⟩, ⟨rfl, rfl⟩, trivial⟩ ⟨⟨rfl, rfl⟩, ⟨rfl, rfl⟩, ⟨rfl, rfl⟩, ⟨rfl, rfl⟩, ⟨rfl, rfl⟩, ⟨rfl, rfl⟩, ⟨rfl, rfl⟩, ⟨rfl, rfl⟩, ⟨rfl, rfl⟩, trivial⟩
            · refine Tr.skip ?_
              conv => whnf
              cases h
              exact Wk.mk2 [0, 1] 2 rfl rfl (by decide) rfl ⟨⟨rfl, rfl⟩, ⟨rfl, rfl⟩, trivial⟩ ⟨⟨rfl, rfl⟩, ⟨rfl, rfl⟩, ⟨rfl, rfl⟩, ⟨rfl, rfl⟩, ⟨rfl, rfl⟩, ⟨rfl, rfl⟩, ⟨rfl, rfl⟩, ⟨rfl, rfl⟩, ⟨rfl, rfl⟩, trivial⟩
      · clear hv21
        conv => whnf
        refine Tr.weak hw ?_
        refine Tr.region layOK ?_
        conv => whnf
        refine arS_raw ?_
        conv => whnf
        refine ⟨(best_19, worst_20, (w64 (i_12 + 1))), h, ?_⟩
        exact Wk.mk2 [0, 1] 2 rfl rfl (by decide) rfl ⟨⟨rfl, rfl⟩, ⟨rfl, rfl⟩, trivial⟩ ⟨⟨rfl, rfl⟩, ⟨rfl, rfl⟩, ⟨rfl, rfl⟩, ⟨rfl, rfl⟩, ⟨rfl, rfl⟩, ⟨rfl, rfl⟩, ⟨rfl, rfl⟩, ⟨rfl, rfl⟩, ⟨rfl, rfl⟩, trivial⟩
    · refine Tr.exit ?_
      conv => whnf
      cases h
      exact Wk.mk2 [] 2 rfl rfl (by decide) rfl trivial ⟨⟨rfl, rfl⟩, ⟨rfl, rfl⟩, ⟨rfl, rfl⟩, ⟨rfl, rfl⟩, trivial⟩
  · clear hv32
    conv => whnf
    refine Tr.weak hw ?_
    refine Tr.seq ?_
    refine Tr.region layOK ?_
    conv => whnf
    refine Tr.ret ?_
    conv => whnf
    cases h
    rfl

theorem s_stopwatchref25_Of (f_1 : TField) (runner_2 : Int) (r_3 : TRank) (r_4 : Int) (h : m_stopwatchref25_Of f_1 runner_2 = some (r_3, r_4)) :
    PC prog 25 [(eTField f_1), (.i .i64 runner_2)] (fun rs => rs = [(eTRank r_3), (.i .i64 r_4)]) := by
  refine PC.of_tr (cx := ⟨106, none, lay, 0⟩) layOK func25 rfl rfl rfl rfl rfl (by simp [f25]) ?_
  unfold m_stopwatchref25_Of at h
  refine Tr.seq ?_
  refine Tr.region layOK ?_
  conv => whnf
  refine Tr.seq ?_
  refine Tr.region layOK ?_
  conv => whnf
  obtain ⟨r_5, hc6, h⟩ := bind_some h
  refine PC.ecall (s_stopwatchref25_check f_1 runner_2 r_5 hc6) (fun rs hrs => ?_)
  subst hrs
  conv => whnf
  refine Tr.seq ?_
  refine Tr.seq ?_
  refine Tr.region layOK ?_
  conv => whnf
  refine Tr.cond ?_
  conv => whnf
  refine condS_bif h (fun hb7 h => ?_) (fun hb7 h => ?_)
  · refine Tr.seq ?_
    refine Tr.region layOK ?_
    conv => whnf
    refine Tr.ret ?_
    conv => whnf
    cases h
    rfl
  · refine Tr.skip ?_
    conv => whnf
    refine Tr.seq ?_
    refine Tr.region layOK ?_
    conv => whnf
    obtain ⟨x_8, hx_8, h⟩ := bind_some h
    refine ixP_of hx_8 ?_
    conv => whnf
    refine Tr.seq ?_
    refine Tr.seq ?_
    refine Tr.region layOK ?_
    conv => whnf
    obtain ⟨⟨v_18, v_19, v_20⟩, hv57, h⟩ := bind_some h
    refine Tr.cutQ1 ([(4, .pt 0 0), (5, .d (.i .i64 0)), (7, .pt 1 0)]) ([some (.var [.d (.i .i64 0), .d (.i .i64 0), .d (.i .i64 0), .d (.i .i64 0), .d (.b false)]), some (.var [.d (.i .i64 x_8.Bib), .d (.i .i64 0), .d (.i .i64 v_18), .d (.i .i64 v_19), .d (.b v_20)])]) ?_ (fun T1 H1 hw => ?_)
    · replace h := hv57; clear hv57
      refine Tr.block ?_
      refine Tr.loopM (σ := Int × Int × Int × Bool) (fun n s => m_stopwatchref25_Of_L1 f_1 runner_2 n s.1 s.2.1 s.2.2.1 s.2.2.2) (v_18, v_19, v_20) (fun s => ([(1, .d (.i .i64 runner_2)), (2, .pt 0 0), (4, .pt 1 0), (5, .d (.i .i64 0)), (7, .pt 2 0), (8, .d (.i .i64 s.1))], [some (.var [.d (.ls (List.map eTSegment f_1.Clocks.Segments)), .d (.ls (List.map (eL eI) f_1.Clocks.Far)), .d (.ls (List.map eTPair f_1.Pairs)), .d (.ls (List.map eTRunner f_1.Runners))]), some (.var [.d (.i .i64 0), .d (.i .i64 0), .d (.i .i64 0), .d (.i .i64 0), .d (.b false)]), some (.var [.d (.i .i64 x_8.Bib), .d (.i .i64 0), .d (.i .i64 s.2.1), .d (.i .i64 s.2.2.1), .d (.b s.2.2.2)])])) (((((f_1.Pairs).length : Int)) + 1 - 0 : Int).toNat + 1) (0, 0, 0, false) h (fun s => rfl) (Wk.mk2 [0, 1, 2] 3 rfl rfl (by decide) rfl ⟨⟨rfl, rfl⟩, ⟨rfl, rfl⟩, ⟨rfl, rfl⟩, trivial⟩ ⟨⟨rfl, rfl⟩, ⟨rfl, rfl⟩, ⟨rfl, rfl⟩, ⟨rfl, rfl⟩, ⟨rfl, rfl⟩, ⟨rfl, rfl⟩, trivial⟩) ?_
      clear h
      rintro n_17 ⟨w_13, v_14, v_15, v_16⟩ h
      replace h : m_stopwatchref25_Of_L1 f_1 runner_2 (n_17 + 1) w_13 v_14 v_15 v_16 = some (v_18, v_19, v_20) := h
      rw [m_stopwatchref25_Of_L1] at h
      refine Tr.seq ?_
      refine Tr.seq ?_
      refine Tr.region layOK ?_
      conv => whnf
      refine lnS_map ?_
      conv => whnf
      refine Tr.cond ?_
      conv => whnf
      refine condS_bif h (fun hb23 h => ?_) (fun hb23 h => ?_)
      · refine Tr.skip ?_
        conv => whnf
        refine Tr.seq ?_
        refine Tr.block ?_
        refine Tr.seq ?_
        refine Tr.region layOK ?_
        conv => whnf
        obtain ⟨x_24, hx_24, h⟩ := bind_some h
        refine ixP_of hx_24 ?_
        conv => whnf
        obtain ⟨x_25, hx_25, h⟩ := bind_some h
        refine ixP_of hx_25 ?_
        conv => whnf
        refine Tr.seq ?_
        refine Tr.region layOK ?_
        conv => whnf
        obtain ⟨⟨v_35, v_36, v_37⟩, hv56, h⟩ := bind_some h
        refine Tr.cutQ1 ([(1, .d (.i .i64 runner_2)), (2, .pt 0 0), (4, .pt 1 0), (5, .d (.i .i64 0)), (7, .pt 2 0), (8, .d (.i .i64 w_13))]) ([some (.var [.d (.ls (List.map eTSegment f_1.Clocks.Segments)), .d (.ls (List.map (eL eI) f_1.Clocks.Far)), .d (.ls (List.map eTPair f_1.Pairs)), .d (.ls (List.map eTRunner f_1.Runners))]), some (.var [.d (.i .i64 0), .d (.i .i64 0), .d (.i .i64 0), .d (.i .i64 0), .d (.b false)]), some (.var [.d (.i .i64 x_8.Bib), .d (.i .i64 0), .d (.i .i64 v_35), .d (.i .i64 v_36), .d (.b v_37)])]) ?_ (fun T1 H1 hw => ?_)
        · replace h := hv56; clear hv56
          refine Tr.block ?_
          refine Tr.loopM (σ := Int × Int × Int × Bool) (fun n s => m_stopwatchref25_Of_L2 f_1 runner_2 w_13 x_25 n s.1 s.2.1 s.2.2.1 s.2.2.2) (v_35, v_36, v_37) (fun s => ([(1, .d (.i .i64 runner_2)), (2, .pt 0 0), (4, .pt 1 0), (5, .d (.i .i64 0)), (7, .pt 2 0), (8, .d (.i .i64 w_13)), (9, .d (.ls (List.map eTOutcome x_25))), (10, .d (.i .i64 s.1))], [some (.var [.d (.ls (List.map eTSegment f_1.Clocks.Segments)), .d (.ls (List.map (eL eI) f_1.Clocks.Far)), .d (.ls (List.map eTPair f_1.Pairs)), .d (.ls (List.map eTRunner f_1.Runners))]), some (.var [.d (.i .i64 0), .d (.i .i64 0), .d (.i .i64 0), .d (.i .i64 0), .d (.b false)]), some (.var [.d (.i .i64 x_8.Bib), .d (.i .i64 0), .d (.i .i64 s.2.1), .d (.i .i64 s.2.2.1), .d (.b s.2.2.2)])])) (((((x_25).length : Int)) - 0 : Int).toNat + 1) (0, v_14, v_15, v_16) h (fun s => rfl) (Wk.mk2 [0, 1, 2] 3 rfl rfl (by decide) rfl ⟨⟨rfl, rfl⟩, ⟨rfl, rfl⟩, ⟨rfl, rfl⟩, trivial⟩ ⟨⟨rfl, rfl⟩, ⟨rfl, rfl⟩, ⟨rfl, rfl⟩, ⟨rfl, rfl⟩, ⟨rfl, rfl⟩, ⟨rfl, rfl⟩, ⟨rfl, rfl⟩, ⟨rfl, rfl⟩, trivial⟩) ?_
          clear h
          rintro n_34 ⟨i_30, v_31, v_32, v_33⟩ h
          replace h : m_stopwatchref25_Of_L2 f_1 runner_2 w_13 x_25 (n_34 + 1) i_30 v_31 v_32 v_33 = some (v_35, v_36, v_37) := h
          rw [m_stopwatchref25_Of_L2] at h
          refine Tr.seq ?_
          refine Tr.seq ?_
          refine Tr.region layOK ?_
          conv => whnf
          refine lnS_map ?_
          conv => whnf
          refine condS_bif h (fun hb40 h => ?_) (fun hb40 h => ?_)
          · conv => whnf
            obtain ⟨r_41, hc42, h⟩ := bind_some h
            refine PC.ecall (s_stopwatchref25_Possible f_1 w_13 r_41 hc42) (fun rs hrs => ?_)
            subst hrs
            conv => whnf
            refine Tr.cond ?_
            conv => whnf
            refine condS_bif h (fun hb43 h => ?_) (fun hb43 h => ?_)
            · refine Tr.skip ?_
              conv => whnf
              refine Tr.seq ?_
              obtain ⟨⟨v_44, v_45, v_46⟩, hv47, h⟩ := bind_some h
              refine Tr.cutQ1 ([(1, .d (.i .i64 runner_2)), (2, .pt 0 0), (4, .pt 1 0), (5, .d (.i .i64 0)), (7, .pt 2 0), (8, .d (.i .i64 w_13)), (9, .d (.ls (List.map eTOutcome x_25))), (10, .d (.i .i64 i_30))]) ([some (.var [.d (.ls (List.map eTSegment f_1.Clocks.Segments)), .d (.ls (List.map (eL eI) f_1.Clocks.Far)), .d (.ls (List.map eTPair f_1.Pairs)), .d (.ls (List.map eTRunner f_1.Runners))]), some (.var [.d (.i .i64 0), .d (.i .i64 0), .d (.i .i64 0), .d (.i .i64 0), .d (.b false)]), some (.var [.d (.i .i64 x_8.Bib), .d (.i .i64 0), .d (.i .i64 v_44), .d (.i .i64 v_45), .d (.b v_46)])]) ?_ (fun T1 H1 hw => ?_)
              · replace h := hv47; clear hv47
                refine Tr.block ?_
                refine Tr.seq ?_
                refine Tr.seq ?_
                refine Tr.region layOK ?_
                conv => whnf
                obtain ⟨x_48, hx_48, h⟩ := bind_some h
                refine ixP_of hx_48 ?_
                conv => whnf
                refine Tr.cond ?_
                conv => whnf
                refine condS_bif h (fun hb49 h => ?_) (fun hb49 h => ?_)
                · refine Tr.seq ?_
                  refine Tr.region layOK ?_
                  conv => whnf
                  refine Tr.exit ?_
                  conv => whnf
                  cases h
                  exact Wk.mk2 [0, 1, 2] 3 rfl rfl (by decide) rfl ⟨⟨rfl, rfl⟩, ⟨rfl, rfl⟩, ⟨rfl, rfl⟩, trivial⟩ ⟨⟨rfl, rfl⟩, ⟨rfl, rfl⟩, ⟨rfl, rfl⟩, ⟨rfl, rfl⟩, ⟨rfl, rfl⟩, ⟨rfl, rfl⟩, ⟨rfl, rfl⟩, ⟨rfl, rfl⟩, trivial⟩
                · refine Tr.skip ?_
                  conv => whnf
                  refine Tr.seq ?_
                  refine Tr.draw (DrawP.seqQ layOK mixed [] [(0, 3), (1, 1), (2, 1), (3, 1), (4, 2), (5, 2), (6, 1), (7, 1), (8, 1), (9, 1), (10, 1), (11, 1), (12, 1)] (by kernel_rfl) ?_)
                  conv => whnf
                  refine ⟨_, ⟨rfl, rfl, (by (conv => whnf); (exact ⟨rfl, rfl⟩))⟩, ?_⟩
                  conv => whnf
                  refine ⟨_, (fun H => by (conv => whnf); (exact ⟨rfl, rfl⟩)), ?_⟩
                  conv => whnf
                  refine ⟨_, (fun H => by (conv => whnf); (exact ⟨rfl, rfl⟩)), ?_⟩
                  conv => whnf
                  refine ⟨_, (fun H => by (conv => whnf); (exact ⟨rfl, rfl⟩)), ?_⟩
                  conv => whnf
                  obtain ⟨x_50, hx_50, h⟩ := bind_some h
                  refine ⟨_, ⟨rfl, rfl, (by (conv => whnf); (refine ixP_of hx_50 ?_); (conv => whnf); (exact ⟨rfl, rfl⟩))⟩, ?_⟩
                  conv => whnf
                  refine ⟨_, ⟨rfl, rfl, (by (conv => whnf); (exact ⟨rfl, rfl⟩))⟩, ?_⟩
                  conv => whnf
                  refine ⟨_, (fun H => by (conv => whnf); (exact ⟨rfl, rfl⟩)), ?_⟩
                  conv => whnf
                  obtain ⟨⟨r_51, r_52⟩, hc53, h⟩ := bind_some h
                  refine ⟨_, (fun H => by (conv => whnf); (refine PC.ecall (s_stopwatchref25_extremes f_1 w_13 x_50 runner_2 r_51 r_52 hc53) (fun rs hrs => ?_)); (subst hrs); (conv => whnf); (exact ⟨rfl, rfl⟩)), ?_⟩
                  conv => whnf
                  refine ⟨_, (fun H => by (conv => whnf); (exact ⟨rfl, rfl⟩)), ?_⟩
                  conv => whnf
                  refine ⟨_, (fun H => by (conv => whnf); (exact ⟨rfl, rfl⟩)), ?_⟩
                  conv => whnf
                  refine ⟨_, (fun H => by (conv => whnf); (exact ⟨rfl, rfl⟩)), ?_⟩
                  conv => whnf
                  refine ⟨_, (fun H => by (conv => whnf); (exact ⟨rfl, rfl⟩)), ?_⟩
                  conv => whnf
                  refine ⟨_, (fun H => by (conv => whnf); (exact ⟨rfl, rfl⟩)), ?_⟩
                  conv => whnf
                  refine Tr.seq ?_
                  refine Tr.seq ?_
                  refine Tr.region layOK ?_
                  conv => whnf
                  refine condS_bif h (fun hb54 h => ?_) (fun hb54 h => ?_)
                  · conv => whnf
                    refine Tr.cond ?_
                    conv => whnf
                    refine Tr.region layOK ?_
                    conv => whnf
                    refine Tr.region layOK ?_
                    conv => whnf
                    cases h
                    exact Wk.mk2 [0, 1, 2] 3 rfl rfl (by decide) rfl ⟨⟨rfl, rfl⟩, ⟨rfl, rfl⟩, ⟨rfl, rfl⟩, trivial⟩ ⟨⟨rfl, rfl⟩, ⟨rfl, rfl⟩, ⟨rfl, rfl⟩, ⟨rfl, rfl⟩, ⟨rfl, rfl⟩, ⟨rfl, rfl⟩, ⟨rfl, rfl⟩, ⟨rfl, rfl⟩, trivial⟩
                  · conv => whnf
                    refine Tr.cond ?_
                    conv => whnf
                    refine condS_bif h (fun hb55 h => ?_) (fun hb55 h => ?_)
                    · refine Tr.region layOK ?_
                      conv => whnf
                      refine Tr.region layOK ?_
                      conv => whnf
                      cases h
                      exact Wk.mk2 [0, 1, 2] 3 rfl rfl (by decide) rfl ⟨⟨rfl, rfl⟩, ⟨rfl, rfl⟩, ⟨rfl, rfl⟩, trivial⟩ ⟨⟨rfl, rfl⟩, ⟨rfl, rfl⟩, ⟨rfl, rfl⟩, ⟨rfl, rfl⟩, ⟨rfl, rfl⟩, ⟨rfl, rfl⟩, ⟨rfl, rfl⟩, ⟨rfl, rfl⟩, trivial⟩
                    · refine Tr.skip ?_
                      conv => whnf
                      refine Tr.region layOK ?_
                      conv => whnf
                      cases h
                      exact Wk.mk2 [0, 1, 2] 3 rfl rfl (by decide) rfl ⟨⟨rfl, rfl⟩, ⟨rfl, rfl⟩, ⟨rfl, rfl⟩, trivial⟩ ⟨⟨rfl, rfl⟩, ⟨rfl, rfl⟩, ⟨rfl, rfl⟩, ⟨rfl, rfl⟩, ⟨rfl, rfl⟩, ⟨rfl, rfl⟩, ⟨rfl, rfl⟩, ⟨rfl, rfl⟩, trivial⟩
              · clear hv47
                conv => whnf
                refine Tr.weak hw ?_
                refine Tr.region layOK ?_
                conv => whnf
                refine arS_raw ?_
                conv => whnf
                refine ⟨((w64 (i_30 + 1)), v_44, v_45, v_46), h, ?_⟩
                exact Wk.mk2 [0, 1, 2] 3 rfl rfl (by decide) rfl ⟨⟨rfl, rfl⟩, ⟨rfl, rfl⟩, ⟨rfl, rfl⟩, trivial⟩ ⟨⟨rfl, rfl⟩, ⟨rfl, rfl⟩, ⟨rfl, rfl⟩, ⟨rfl, rfl⟩, ⟨rfl, rfl⟩, ⟨rfl, rfl⟩, ⟨rfl, rfl⟩, ⟨rfl, rfl⟩, trivial⟩
            · refine Tr.exit ?_
              conv => whnf
              cases h
              exact Wk.mk2 [0, 1, 2] 3 rfl rfl (by decide) rfl ⟨⟨rfl, rfl⟩, ⟨rfl, rfl⟩, ⟨rfl, rfl⟩, trivial⟩ ⟨⟨rfl, rfl⟩, ⟨rfl, rfl⟩, ⟨rfl, rfl⟩, ⟨rfl, rfl⟩, ⟨rfl, rfl⟩, ⟨rfl, rfl⟩, trivial⟩
          · conv => whnf
            refine Tr.cond ?_
            conv => whnf
            refine Tr.exit ?_
            conv => whnf
            cases h
            exact Wk.mk2 [0, 1, 2] 3 rfl rfl (by decide) rfl ⟨⟨rfl, rfl⟩, ⟨rfl, rfl⟩, ⟨rfl, rfl⟩, trivial⟩ ⟨⟨rfl, rfl⟩, ⟨rfl, rfl⟩, ⟨rfl, rfl⟩, ⟨rfl, rfl⟩, ⟨rfl, rfl⟩, ⟨rfl, rfl⟩, trivial⟩
        · clear hv56
          conv => whnf
          refine Tr.weak hw ?_
          refine Tr.region layOK ?_
          conv => whnf
          refine arS_raw ?_
          conv => whnf
          refine ⟨((w64 (w_13 + 1)), v_35, v_36, v_37), h, ?_⟩
          exact Wk.mk2 [0, 1, 2] 3 rfl rfl (by decide) rfl ⟨⟨rfl, rfl⟩, ⟨rfl, rfl⟩, ⟨rfl, rfl⟩, trivial⟩ ⟨⟨rfl, rfl⟩, ⟨rfl, rfl⟩, ⟨rfl, rfl⟩, ⟨rfl, rfl⟩, ⟨rfl, rfl⟩, ⟨rfl, rfl⟩, trivial⟩
      · refine Tr.exit ?_
        conv => whnf
        cases h
        exact Wk.mk2 [1, 2] 3 rfl rfl (by decide) rfl ⟨⟨rfl, rfl⟩, ⟨rfl, rfl⟩, trivial⟩ ⟨⟨rfl, (by first | rfl | (simp only [↓hb7, ↓hb23, cond_true, cond_false, Bool.true_or, Bool.or_true, Bool.false_or, Bool.or_false, Bool.true_and, Bool.and_true, Bool.false_and, Bool.and_false, Bool.not_true, Bool.not_false]; done) | (simp only [↓hb7, ↓hb23, cond_true, cond_false, Bool.true_or, Bool.or_true, Bool.false_or, Bool.or_false, Bool.true_and, Bool.and_true, Bool.false_and, Bool.and_false, Bool.not_true, Bool.not_false]; rfl))⟩, ⟨rfl, rfl⟩, ⟨rfl, (by first | rfl | (simp only [↓hb7, ↓hb23, cond_true, cond_false, Bool.true_or, Bool.or_true, Bool.false_or, Bool.or_false, Bool.true_and, Bool.and_true, Bool.false_and, Bool.and_false, Bool.not_true, Bool.not_false]; done) | (simp only [↓hb7, ↓hb23, cond_true, cond_false, Bool.true_or, Bool.or_true, Bool.false_or, Bool.or_false, Bool.true_and, Bool.and_true, Bool.false_and, Bool.and_false, Bool.not_true, Bool.not_false]; rfl))⟩, trivial⟩
    · clear hv57
      conv => whnf
      refine Tr.weak hw ?_
      refine Tr.seq ?_
      refine Tr.cutQ1 ([(4, .pt 0 0), (5, .d (.i .i64 0)), (7, .pt 1 0)]) ([some (.var [.d (.i .i64 0), .d (.i .i64 0), .d (.i .i64 0), .d (.i .i64 0), .d (.b false)]), some (.var [.d (.i .i64 x_8.Bib), .d (.i .i64 (bif (v_18 == 0) then 3 else (bif (v_18 == v_19) then (bif (!v_20) then 1 else 2) else 2))), .d (.i .i64 v_18), .d (.i .i64 v_19), .d (.b v_20)])]) ?_ (fun T1 H1 hw => ?_)
      · refine Tr.block ?_
        refine Tr.seq ?_
        refine Tr.region layOK ?_
        conv => whnf
        refine Tr.cond ?_
        conv => whnf
        refine condS_mk (fun hb59 => ?_) (fun hb59 => ?_)
        · refine Tr.region layOK ?_
          conv => whnf
          exact Wk.mk2 [0, 1] 2 rfl rfl (by decide) rfl ⟨⟨rfl, rfl⟩, ⟨rfl, (by first | rfl | (simp only [↓hb7, ↓hb59, cond_true, cond_false, Bool.true_or, Bool.or_true, Bool.false_or, Bool.or_false, Bool.true_and, Bool.and_true, Bool.false_and, Bool.and_false, Bool.not_true, Bool.not_false]; done) | (simp only [↓hb7, ↓hb59, cond_true, cond_false, Bool.true_or, Bool.or_true, Bool.false_or, Bool.or_false, Bool.true_and, Bool.and_true, Bool.false_and, Bool.and_false, Bool.not_true, Bool.not_false]; rfl))⟩, trivial⟩ ⟨⟨rfl, rfl⟩, ⟨rfl, rfl⟩, ⟨rfl, rfl⟩, trivial⟩
        · refine Tr.seq ?_
          refine Tr.region layOK ?_
          conv => whnf
          refine condS_mk (fun hb60 => ?_) (fun hb60 => ?_)
          · conv => whnf
            refine Tr.cond ?_
            conv => whnf
            refine condS_mk (fun hb61 => ?_) (fun hb61 => ?_)
            · refine Tr.region layOK ?_
              conv => whnf
              exact Wk.mk2 [0, 1] 2 rfl rfl (by decide) rfl ⟨⟨rfl, rfl⟩, ⟨rfl, (by first | rfl | (simp only [↓hb7, ↓hb59, ↓hb60, ↓hb61, cond_true, cond_false, Bool.true_or, Bool.or_true, Bool.false_or, Bool.or_false, Bool.true_and, Bool.and_true, Bool.false_and, Bool.and_false, Bool.not_true, Bool.not_false]; done) | (simp only [↓hb7, ↓hb59, ↓hb60, ↓hb61, cond_true, cond_false, Bool.true_or, Bool.or_true, Bool.false_or, Bool.or_false, Bool.true_and, Bool.and_true, Bool.false_and, Bool.and_false, Bool.not_true, Bool.not_false]; rfl))⟩, trivial⟩ ⟨⟨rfl, rfl⟩, ⟨rfl, rfl⟩, ⟨rfl, rfl⟩, trivial⟩
            · refine Tr.region layOK ?_
              conv => whnf
              exact Wk.mk2 [0, 1] 2 rfl rfl (by decide) rfl ⟨⟨rfl, rfl⟩, ⟨rfl, (by first | rfl | (simp only [↓hb7, ↓hb59, ↓hb60, ↓hb61, cond_true, cond_false, Bool.true_or, Bool.or_true, Bool.false_or, Bool.or_false, Bool.true_and, Bool.and_true, Bool.false_and, Bool.and_false, Bool.not_true, Bool.not_false]; done) | (simp only [↓hb7, ↓hb59, ↓hb60, ↓hb61, cond_true, cond_false, Bool.true_or, Bool.or_true, Bool.false_or, Bool.or_false, Bool.true_and, Bool.and_true, Bool.false_and, Bool.and_false, Bool.not_true, Bool.not_false]; rfl))⟩, trivial⟩ ⟨⟨rfl, rfl⟩, ⟨rfl, rfl⟩, ⟨rfl, rfl⟩, trivial⟩
          · conv => whnf
            refine Tr.cond ?_
            conv => whnf
            refine Tr.region layOK ?_
            conv => whnf
            exact Wk.mk2 [0, 1] 2 rfl rfl (by decide) rfl ⟨⟨rfl, rfl⟩, ⟨rfl, (by first | rfl | (simp only [↓hb7, ↓hb59, ↓hb60, cond_true, cond_false, Bool.true_or, Bool.or_true, Bool.false_or, Bool.or_false, Bool.true_and, Bool.and_true, Bool.false_and, Bool.and_false, Bool.not_true, Bool.not_false]; done) | (simp only [↓hb7, ↓hb59, ↓hb60, cond_true, cond_false, Bool.true_or, Bool.or_true, Bool.false_or, Bool.or_false, Bool.true_and, Bool.and_true, Bool.false_and, Bool.and_false, Bool.not_true, Bool.not_false]; rfl))⟩, trivial⟩ ⟨⟨rfl, rfl⟩, ⟨rfl, rfl⟩, ⟨rfl, rfl⟩, trivial⟩
      · conv => whnf
        refine Tr.weak hw ?_
        refine Tr.seq ?_
        refine Tr.region layOK ?_
        conv => whnf
        refine Tr.ret ?_
        conv => whnf
        cases h
        rfl

theorem s_ranks_All (f_1 : TField) (r_2 : List TRank) (r_3 : Int) (h : m_ranks_All f_1 = some (r_2, r_3)) :
    PC prog 26 [(eTField f_1)] (fun rs => rs = [(.ls (List.map eTRank r_2)), (.i .i64 r_3)]) := by
  refine PC.of_tr (cx := ⟨25, none, lay, 0⟩) layOK func26 rfl rfl rfl rfl rfl (by simp [f26]) ?_
  unfold m_ranks_All at h
  refine Tr.seq ?_
  refine Tr.region layOK ?_
  conv => whnf
  refine Tr.seq ?_
  refine Tr.seq ?_
  refine Tr.region layOK ?_
  conv => whnf
  obtain ⟨r_4, hc5, h⟩ := bind_some h
  refine PC.ecall_lend ?_ ⟨_, _, func33, rfl, rfl⟩
  conv => whnf
  refine ⟨_, s_ranks_check f_1 ((([] : List Int))) r_4 hc5, fun rs hrs => ?_⟩
  subst hrs
  refine ⟨rfl, ?_⟩
  conv => whnf
  refine Tr.seq ?_
  refine Tr.region layOK ?_
  conv => whnf
  refine Tr.cond ?_
  conv => whnf
  refine condS_bif h (fun hb6 h => ?_) (fun hb6 h => ?_)
  · refine Tr.seq ?_
    refine Tr.region layOK ?_
    conv => whnf
    refine Tr.ret ?_
    conv => whnf
    cases h
    rfl
  · refine Tr.skip ?_
    conv => whnf
    refine Tr.seq ?_
    refine Tr.seq ?_
    refine Tr.region layOK ?_
    conv => whnf
    refine lnS_map ?_
    conv => whnf
    obtain ⟨l_12, hv19, h⟩ := bind_some h
    refine Tr.cutQ1 ([(2, .sl 0 5 0 (List.length l_12)), (3, .d (.i .i64 0))]) ([some (.arr 5 (List.map .d (List.map eTRank l_12)))]) ?_ (fun T1 H1 hw => ?_)
    · replace h := hv19; clear hv19
      refine Tr.block ?_
      refine Tr.loopM (σ := Int × List TRank) (fun n s => m_ranks_All_L1 f_1 n s.1 s.2) l_12 (fun s => ([(1, .pt 0 0), (2, .sl 1 5 0 (List.length s.2)), (3, .d (.i .i64 0)), (13, .d (.i .i64 (((f_1.Runners).length : Int)))), (14, .d (.i .i64 s.1))], [some (.var [.d (.ls (List.map eTSegment f_1.Clocks.Segments)), .d (.ls (List.map (eL eI) f_1.Clocks.Far)), .d (.ls (List.map eTPair f_1.Pairs)), .d (.ls (List.map eTRunner f_1.Runners))]), some (.arr 5 (List.map .d (List.map eTRank s.2)))])) (((((f_1.Runners).length : Int)) - 0 : Int).toNat + 1) (0, (([] : List TRank))) h (fun s => rfl) (Wk.mk2 [0, 1] 1 rfl rfl (by decide) rfl ⟨⟨rfl, rfl⟩, rfl, trivial⟩ ⟨⟨rfl, rfl⟩, ⟨rfl, (by first | rfl | (simp only [↓hb6, cond_true, cond_false, Bool.true_or, Bool.or_true, Bool.false_or, Bool.or_false, Bool.true_and, Bool.and_true, Bool.false_and, Bool.and_false, Bool.not_true, Bool.not_false]; done) | (simp only [↓hb6, cond_true, cond_false, Bool.true_or, Bool.or_true, Bool.false_or, Bool.or_false, Bool.true_and, Bool.and_true, Bool.false_and, Bool.and_false, Bool.not_true, Bool.not_false]; rfl))⟩, ⟨rfl, rfl⟩, ⟨rfl, rfl⟩, ⟨rfl, rfl⟩, trivial⟩) ?_
      clear h
      rintro n_11 ⟨v_9, l_10⟩ h
      replace h : m_ranks_All_L1 f_1 (n_11 + 1) v_9 l_10 = some l_12 := h
      rw [m_ranks_All_L1] at h
      refine Tr.seq ?_
      refine Tr.region layOK ?_
      conv => whnf
      refine Tr.seq ?_
      refine Tr.cond ?_
      conv => whnf
      refine condS_bif h (fun hb15 h => ?_) (fun hb15 h => ?_)
      · refine Tr.skip ?_
        conv => whnf
        refine Tr.seq ?_
        refine Tr.block ?_
        refine Tr.seq ?_
        refine Tr.region layOK ?_
        conv => whnf
        refine Tr.region layOK ?_
        conv => whnf
        obtain ⟨r_16, hc17, h⟩ := bind_some h
        refine PC.ecall (s_ranks_of f_1 v_9 r_16 hc17) (fun rs hrs => ?_)
        subst hrs
        conv => whnf
        refine orB_r ?_
        conv => whnf
        refine frP_no ?_
        conv => whnf
        refine eqS_mk (by first | rfl | simp) ?_
        conv => whnf
        obtain ⟨l_18, hl_18, h⟩ := bind_some h
        refine apS_of hl_18 (apq_map (f := eTRank) (l := (([r_16] : List TRank))) fun _ => rfl) (by first | rfl | simp) (by first | rfl | simp) (fun he => ?_)
        conv => whnf
        refine reS_mk (es' := List.map .d (List.map eTRank l_18)) (n' := List.length l_18) (by subst he; simp only [List.map_append, List.map_cons, List.map_nil, List.nil_append]; first | done | rfl) (by subst he; simp <;> omega) ?_
        clear he
        conv => whnf
        refine Tr.region layOK ?_
        conv => whnf
        refine arS_raw ?_
        conv => whnf
        refine ⟨((w64 (v_9 + 1)), l_18), h, ?_⟩
        exact Wk.mk2 [0, 2] 3 rfl rfl (by decide) rfl ⟨⟨rfl, rfl⟩, daS_d rfl, trivial⟩ ⟨⟨rfl, rfl⟩, ⟨rfl, (by first | rfl | (simp only [↓hb6, ↓hb15, cond_true, cond_false, Bool.true_or, Bool.or_true, Bool.false_or, Bool.or_false, Bool.true_and, Bool.and_true, Bool.false_and, Bool.and_false, Bool.not_true, Bool.not_false]; done) | (simp only [↓hb6, ↓hb15, cond_true, cond_false, Bool.true_or, Bool.or_true, Bool.false_or, Bool.or_false, Bool.true_and, Bool.and_true, Bool.false_and, Bool.and_false, Bool.not_true, Bool.not_false]; rfl))⟩, ⟨rfl, rfl⟩, ⟨rfl, rfl⟩, ⟨rfl, rfl⟩, trivial⟩
      · refine Tr.exit ?_
        conv => whnf
        cases h
        exact Wk.mk2 [1] 2 rfl rfl (by decide) rfl ⟨daS_d rfl, trivial⟩ ⟨⟨rfl, (by first | rfl | (simp only [↓hb6, ↓hb15, cond_true, cond_false, Bool.true_or, Bool.or_true, Bool.false_or, Bool.or_false, Bool.true_and, Bool.and_true, Bool.false_and, Bool.and_false, Bool.not_true, Bool.not_false]; done) | (simp only [↓hb6, ↓hb15, cond_true, cond_false, Bool.true_or, Bool.or_true, Bool.false_or, Bool.or_false, Bool.true_and, Bool.and_true, Bool.false_and, Bool.and_false, Bool.not_true, Bool.not_false]; rfl))⟩, ⟨rfl, rfl⟩, trivial⟩
    · clear hv19
      conv => whnf
      refine Tr.weak hw ?_
      refine Tr.seq ?_
      refine Tr.region layOK ?_
      conv => whnf
      refine Tr.ret ?_
      conv => whnf
      refine frE_of (f := eTRank) (l := l_12) rfl ?_
      conv => whnf
      cases h
      rfl

theorem s_stopwatchref25_All (f_1 : TField) (r_2 : List TRank) (r_3 : Int) (h : m_stopwatchref25_All f_1 = some (r_2, r_3)) :
    PC prog 27 [(eTField f_1)] (fun rs => rs = [(.ls (List.map eTRank r_2)), (.i .i64 r_3)]) := by
  refine PC.of_tr (cx := ⟨32, none, lay, 0⟩) layOK func27 rfl rfl rfl rfl rfl (by simp [f27]) ?_
  unfold m_stopwatchref25_All at h
  refine Tr.seq ?_
  refine Tr.region layOK ?_
  conv => whnf
  refine Tr.seq ?_
  refine Tr.region layOK ?_
  conv => whnf
  obtain ⟨r_4, hc5, h⟩ := bind_some h
  refine PC.ecall (s_stopwatchref24_Check f_1 r_4 hc5) (fun rs hrs => ?_)
  subst hrs
  conv => whnf
  refine Tr.seq ?_
  refine Tr.seq ?_
  refine Tr.region layOK ?_
  conv => whnf
  refine Tr.cond ?_
  conv => whnf
  refine condS_bif h (fun hb6 h => ?_) (fun hb6 h => ?_)
  · refine Tr.seq ?_
    refine Tr.region layOK ?_
    conv => whnf
    refine Tr.ret ?_
    conv => whnf
    cases h
    rfl
  · refine Tr.skip ?_
    conv => whnf
    refine Tr.seq ?_
    refine Tr.region layOK ?_
    conv => whnf
    refine orB_l ?_
    conv => whnf
    refine Tr.seq ?_
    refine Tr.seq ?_
    refine Tr.region layOK ?_
    conv => whnf
    obtain ⟨l_12, hv20, h⟩ := bind_some h
    refine Tr.cutQ1 ([(2, .nsl), (3, .d (.i .i64 0)), (5, .sl 0 5 0 (List.length l_12))]) ([some (.arr 5 (List.map .d (List.map eTRank l_12)))]) ?_ (fun T1 H1 hw => ?_)
    · replace h := hv20; clear hv20
      refine Tr.block ?_
      refine Tr.loopM (σ := Int × List TRank) (fun n s => m_stopwatchref25_All_L1 f_1 n s.1 s.2) l_12 (fun s => ([(1, .pt 0 0), (2, .nsl), (3, .d (.i .i64 0)), (5, .sl 1 5 0 (List.length s.2)), (6, .d (.i .i64 s.1))], [some (.var [.d (.ls (List.map eTSegment f_1.Clocks.Segments)), .d (.ls (List.map (eL eI) f_1.Clocks.Far)), .d (.ls (List.map eTPair f_1.Pairs)), .d (.ls (List.map eTRunner f_1.Runners))]), some (.arr 5 (List.map .d (List.map eTRank s.2)))])) (((((f_1.Runners).length : Int)) - 0 : Int).toNat + 1) (0, (([] : List TRank))) h (fun s => rfl) (Wk.mk2 [0, 1] 2 rfl rfl (by decide) rfl ⟨⟨rfl, rfl⟩, daS_d rfl, trivial⟩ ⟨⟨rfl, rfl⟩, ⟨rfl, rfl⟩, ⟨rfl, rfl⟩, ⟨rfl, rfl⟩, ⟨rfl, rfl⟩, trivial⟩) ?_
      clear h
      rintro n_11 ⟨i_9, l_10⟩ h
      replace h : m_stopwatchref25_All_L1 f_1 (n_11 + 1) i_9 l_10 = some l_12 := h
      rw [m_stopwatchref25_All_L1] at h
      refine Tr.seq ?_
      refine Tr.seq ?_
      refine Tr.region layOK ?_
      conv => whnf
      refine lnS_map ?_
      conv => whnf
      refine Tr.cond ?_
      conv => whnf
      refine condS_bif h (fun hb15 h => ?_) (fun hb15 h => ?_)
      · refine Tr.skip ?_
        conv => whnf
        refine Tr.seq ?_
        refine Tr.block ?_
        refine Tr.seq ?_
        refine Tr.region layOK ?_
        conv => whnf
        obtain ⟨⟨r_16, r_17⟩, hc18, h⟩ := bind_some h
        refine PC.ecall (s_stopwatchref25_Of f_1 i_9 r_16 r_17 hc18) (fun rs hrs => ?_)
        subst hrs
        conv => whnf
        refine Tr.region layOK ?_
        conv => whnf
        refine orB_r ?_
        conv => whnf
        refine frP_no ?_
        conv => whnf
        refine eqS_mk (by first | rfl | simp) ?_
        conv => whnf
        obtain ⟨l_19, hl_19, h⟩ := bind_some h
        refine apS_of hl_19 (apq_map (f := eTRank) (l := (([r_16] : List TRank))) fun _ => rfl) (by first | rfl | simp) (by first | rfl | simp) (fun he => ?_)
        conv => whnf
        refine reS_mk (es' := List.map .d (List.map eTRank l_19)) (n' := List.length l_19) (by subst he; simp only [List.map_append, List.map_cons, List.map_nil, List.nil_append]; first | done | rfl) (by subst he; simp <;> omega) ?_
        clear he
        conv => whnf
        refine Tr.region layOK ?_
        conv => whnf
        refine arS_raw ?_
        conv => whnf
        refine ⟨((w64 (i_9 + 1)), l_19), h, ?_⟩
        exact Wk.mk2 [0, 3] 4 rfl rfl (by decide) rfl ⟨⟨rfl, rfl⟩, daS_d rfl, trivial⟩ ⟨⟨rfl, rfl⟩, ⟨rfl, rfl⟩, ⟨rfl, rfl⟩, ⟨rfl, (by first | rfl | (simp only [↓hb6, ↓hb15, cond_true, cond_false, Bool.true_or, Bool.or_true, Bool.false_or, Bool.or_false, Bool.true_and, Bool.and_true, Bool.false_and, Bool.and_false, Bool.not_true, Bool.not_false]; done) | (simp only [↓hb6, ↓hb15, cond_true, cond_false, Bool.true_or, Bool.or_true, Bool.false_or, Bool.or_false, Bool.true_and, Bool.and_true, Bool.false_and, Bool.and_false, Bool.not_true, Bool.not_false]; rfl))⟩, ⟨rfl, rfl⟩, trivial⟩
      · refine Tr.exit ?_
        conv => whnf
        cases h
        exact Wk.mk2 [1] 2 rfl rfl (by decide) rfl ⟨daS_d rfl, trivial⟩ ⟨⟨rfl, rfl⟩, ⟨rfl, rfl⟩, ⟨rfl, (by first | rfl | (simp only [↓hb6, ↓hb15, cond_true, cond_false, Bool.true_or, Bool.or_true, Bool.false_or, Bool.or_false, Bool.true_and, Bool.and_true, Bool.false_and, Bool.and_false, Bool.not_true, Bool.not_false]; done) | (simp only [↓hb6, ↓hb15, cond_true, cond_false, Bool.true_or, Bool.or_true, Bool.false_or, Bool.or_false, Bool.true_and, Bool.and_true, Bool.false_and, Bool.and_false, Bool.not_true, Bool.not_false]; rfl))⟩, trivial⟩
    · clear hv20
      conv => whnf
      refine Tr.weak hw ?_
      refine Tr.seq ?_
      refine Tr.region layOK ?_
      conv => whnf
      refine Tr.ret ?_
      conv => whnf
      refine frE_of (f := eTRank) (l := l_12) rfl ?_
      conv => whnf
      cases h
      rfl

theorem s_stopwatchref25_SameRanks (a_1 : List TRank) (b_2 : List TRank) (r_3 : Bool) (h : m_stopwatchref25_SameRanks a_1 b_2 = some r_3) :
    PC prog 28 [(.ls (List.map eTRank a_1)), (.ls (List.map eTRank b_2))] (fun rs => rs = [(.b r_3)]) := by
  refine PC.of_tr (cx := ⟨26, none, lay, 0⟩) layOK func28 rfl rfl rfl rfl rfl (by simp [f28]) ?_
  unfold m_stopwatchref25_SameRanks at h
  refine Tr.seq ?_
  refine Tr.region layOK ?_
  conv => whnf
  refine Tr.seq ?_
  refine Tr.seq ?_
  refine Tr.region layOK ?_
  conv => whnf
  refine lnS_map ?_
  conv => whnf
  refine lnS_map ?_
  conv => whnf
  refine Tr.cond ?_
  conv => whnf
  refine condS_bif h (fun hb4 h => ?_) (fun hb4 h => ?_)
  · refine Tr.seq ?_
    refine Tr.region layOK ?_
    conv => whnf
    refine Tr.ret ?_
    conv => whnf
    cases h
    rfl
  · refine Tr.skip ?_
    conv => whnf
    refine Tr.seq ?_
    refine Tr.seq ?_
    refine Tr.region layOK ?_
    conv => whnf
    refine Tr.cutQ (α := Unit) (fun s => ([(4, .d (.b false))], [])) (fun s => m_stopwatchref25_SameRanks_J2 s = some r_3) ?_ ?_
    · refine Tr.block ?_
      refine Tr.loopM (σ := Int) (fun n s => m_stopwatchref25_SameRanks_L1 a_1 b_2 m_stopwatchref25_SameRanks_J2 n s) r_3 (fun s => ([(0, .d (.ls (List.map eTRank a_1))), (1, .d (.ls (List.map eTRank b_2))), (4, .d (.b false)), (5, .d (.i .i64 s))], [])) (((((a_1).length : Int)) - 0 : Int).toNat + 1) (0) h (fun s => rfl) (Wk.mk2 [] 0 rfl rfl (by decide) rfl trivial ⟨⟨rfl, rfl⟩, ⟨rfl, rfl⟩, ⟨rfl, rfl⟩, ⟨rfl, rfl⟩, trivial⟩) ?_
      clear h
      rintro n_7 i_6 h
      replace h : m_stopwatchref25_SameRanks_L1 a_1 b_2 m_stopwatchref25_SameRanks_J2 (n_7 + 1) i_6 = some r_3 := h
      rw [m_stopwatchref25_SameRanks_L1] at h
      refine Tr.seq ?_
      refine Tr.seq ?_
      refine Tr.region layOK ?_
      conv => whnf
      refine lnS_map ?_
      conv => whnf
      refine Tr.cond ?_
      conv => whnf
      refine condS_bif h (fun hb10 h => ?_) (fun hb10 h => ?_)
      · refine Tr.skip ?_
        conv => whnf
        refine Tr.seq ?_
        refine Tr.block ?_
        refine Tr.seq ?_
        refine Tr.draw (DrawP.seqQ layOK mixed [] [(0, 1), (1, 1), (2, 2), (3, 2), (4, 1), (5, 1), (6, 2), (7, 2), (8, 1)] (by kernel_rfl) ?_)
        conv => whnf
        refine ⟨_, (fun H => by (conv => whnf); (exact ⟨rfl, rfl⟩)), ?_⟩
        conv => whnf
        refine ⟨_, (fun H => by (conv => whnf); (exact ⟨rfl, rfl⟩)), ?_⟩
        conv => whnf
        obtain ⟨x_11, hx_11, h⟩ := bind_some h
        refine ⟨_, ⟨rfl, rfl, (by (conv => whnf); (refine ixP_of hx_11 ?_); (conv => whnf); (exact ⟨rfl, rfl⟩))⟩, ?_⟩
        conv => whnf
        refine ⟨_, ⟨rfl, rfl, (by (conv => whnf); (exact ⟨rfl, rfl⟩))⟩, ?_⟩
        conv => whnf
        refine ⟨_, (fun H => by (conv => whnf); (exact ⟨rfl, rfl⟩)), ?_⟩
        conv => whnf
        refine ⟨_, (fun H => by (conv => whnf); (exact ⟨rfl, rfl⟩)), ?_⟩
        conv => whnf
        obtain ⟨x_12, hx_12, h⟩ := bind_some h
        refine ⟨_, ⟨rfl, rfl, (by (conv => whnf); (refine ixP_of hx_12 ?_); (conv => whnf); (exact ⟨rfl, rfl⟩))⟩, ?_⟩
        conv => whnf
        refine ⟨_, ⟨rfl, rfl, (by (conv => whnf); (exact ⟨rfl, rfl⟩))⟩, ?_⟩
        conv => whnf
        refine ⟨_, (fun H => by (conv => whnf); (exact ⟨rfl, rfl⟩)), ?_⟩
        conv => whnf
        refine Tr.cond ?_
        conv => whnf
        refine condS_bif h (fun hb13 h => ?_) (fun hb13 h => ?_)
        · refine Tr.seq ?_
          refine Tr.region layOK ?_
          conv => whnf
          refine Tr.ret ?_
          conv => whnf
          cases h
          rfl
        · refine Tr.skip ?_
          conv => whnf
          refine Tr.region layOK ?_
          conv => whnf
          refine arS_raw ?_
          conv => whnf
          refine ⟨((w64 (i_6 + 1))), h, ?_⟩
          exact Wk.mk2 [] 0 rfl rfl (by decide) rfl trivial ⟨⟨rfl, rfl⟩, ⟨rfl, rfl⟩, ⟨rfl, rfl⟩, ⟨rfl, rfl⟩, trivial⟩
      · refine Tr.exit ?_
        conv => whnf
        refine ⟨(), h, ?_⟩
        exact Wk.mk2 [] 0 rfl rfl (by decide) rfl trivial ⟨⟨rfl, rfl⟩, trivial⟩
    · clear h
      rintro _ h T1 H1 hw
      replace h : m_stopwatchref25_SameRanks_J2 () = some r_3 := h
      conv => whnf
      refine Tr.weak hw ?_
      unfold m_stopwatchref25_SameRanks_J2 at h
      refine Tr.seq ?_
      refine Tr.region layOK ?_
      conv => whnf
      refine Tr.ret ?_
      conv => whnf
      cases h
      rfl

theorem s_stopwatchlaw25_RanksOfSpec (f_1 : TField) (runner_2 : Int) (r_3 : Bool) (h : m_stopwatchlaw25_RanksOfSpec f_1 runner_2 = some r_3) :
    PC prog 6 [(eTField f_1), (.i .i64 runner_2)] (fun rs => rs = [(.b r_3)]) := by
  refine PC.of_tr (cx := ⟨68, none, lay, 0⟩) layOK func6 rfl rfl rfl rfl rfl (by simp [f6]) ?_
  unfold m_stopwatchlaw25_RanksOfSpec at h
  refine Tr.seq ?_
  refine Tr.region layOK ?_
  conv => whnf
  refine Tr.seq ?_
  refine Tr.seq ?_
  refine Tr.region layOK ?_
  conv => whnf
  obtain ⟨r_4, hc5, h⟩ := bind_some h
  refine PC.ecall (s_stopwatchlaw25_sane r_4 hc5) (fun rs hrs => ?_)
  subst hrs
  conv => whnf
  refine Tr.cond ?_
  conv => whnf
  refine condS_bif h (fun hb6 h => ?_) (fun hb6 h => ?_)
  · refine Tr.seq ?_
    refine Tr.region layOK ?_
    conv => whnf
    refine Tr.ret ?_
    conv => whnf
    cases h
    rfl
  · refine Tr.skip ?_
    conv => whnf
    refine Tr.seq ?_
    refine Tr.seq ?_
    refine Tr.region layOK ?_
    conv => whnf
    obtain ⟨r_7, hc8, h⟩ := bind_some h
    refine PC.ecall (s_stopwatchref25_Few f_1 r_7 hc8) (fun rs hrs => ?_)
    subst hrs
    conv => whnf
    refine Tr.cond ?_
    conv => whnf
    refine condS_bif h (fun hb9 h => ?_) (fun hb9 h => ?_)
    · refine Tr.seq ?_
      refine Tr.region layOK ?_
      conv => whnf
      refine Tr.ret ?_
      conv => whnf
      cases h
      rfl
    · refine Tr.skip ?_
      conv => whnf
      refine Tr.seq ?_
      refine Tr.seq ?_
      refine Tr.region layOK ?_
      conv => whnf
      refine orB_r ?_
      conv => whnf
      refine lnS_map (f := eI) (l := (([runner_2, (bitK .i64 (BitVec.ofInt 64 runner_2 &&& BitVec.ofInt 64 3))] : List Int))) ?_
      conv => whnf
      refine Tr.cutQ (α := Unit) (fun s => ([(2, .pt 0 0), (4, .d (.b false))], [some (.var [.d (.ls (List.map eTSegment f_1.Clocks.Segments)), .d (.ls (List.map (eL eI) f_1.Clocks.Far)), .d (.ls (List.map eTPair f_1.Pairs)), .d (.ls (List.map eTRunner f_1.Runners))])])) (fun s => m_stopwatchlaw25_RanksOfSpec_J2 f_1 s = some r_3) ?_ ?_
      · refine Tr.block ?_
        refine Tr.loopM (σ := Int) (fun n s => m_stopwatchlaw25_RanksOfSpec_L1 f_1 runner_2 (m_stopwatchlaw25_RanksOfSpec_J2 f_1) n s) r_3 (fun s => ([(2, .pt 0 0), (4, .d (.b false)), (23, .d (.ls (List.map eI (([runner_2, (bitK .i64 (BitVec.ofInt 64 runner_2 &&& BitVec.ofInt 64 3))] : List Int))))), (24, .d (.i .i64 2)), (25, .d (.i .i64 s))], [some (.var [.d (.ls (List.map eTSegment f_1.Clocks.Segments)), .d (.ls (List.map (eL eI) f_1.Clocks.Far)), .d (.ls (List.map eTPair f_1.Pairs)), .d (.ls (List.map eTRunner f_1.Runners))])])) ((2 - 0 : Int).toNat + 1) (0) h (fun s => rfl) (Wk.mk2 [0] 1 rfl rfl (by decide) rfl ⟨⟨rfl, rfl⟩, trivial⟩ ⟨⟨rfl, rfl⟩, ⟨rfl, rfl⟩, ⟨rfl, rfl⟩, ⟨rfl, rfl⟩, ⟨rfl, rfl⟩, trivial⟩) ?_
        clear h
        rintro n_12 v_11 h
        replace h : m_stopwatchlaw25_RanksOfSpec_L1 f_1 runner_2 (m_stopwatchlaw25_RanksOfSpec_J2 f_1) (n_12 + 1) v_11 = some r_3 := h
        rw [m_stopwatchlaw25_RanksOfSpec_L1] at h
        refine Tr.seq ?_
        refine Tr.region layOK ?_
        conv => whnf
        refine Tr.seq ?_
        refine Tr.cond ?_
        conv => whnf
        refine condS_bif h (fun hb15 h => ?_) (fun hb15 h => ?_)
        · refine Tr.skip ?_
          conv => whnf
          refine Tr.seq ?_
          refine Tr.block ?_
          refine Tr.seq ?_
          refine Tr.region layOK ?_
          conv => whnf
          obtain ⟨x_16, hx_16, h⟩ := bind_some h
          refine ixP_of hx_16 ?_
          conv => whnf
          refine Tr.seq ?_
          refine Tr.region layOK ?_
          conv => whnf
          obtain ⟨⟨r_17, r_18⟩, hc19, h⟩ := bind_some h
          refine PC.ecall (s_ranks_Of f_1 x_16 r_17 r_18 hc19) (fun rs hrs => ?_)
          subst hrs
          conv => whnf
          refine Tr.seq ?_
          refine Tr.region layOK ?_
          conv => whnf
          obtain ⟨⟨r_20, r_21⟩, hc22, h⟩ := bind_some h
          refine PC.ecall (s_stopwatchref25_Of f_1 x_16 r_20 r_21 hc22) (fun rs hrs => ?_)
          subst hrs
          conv => whnf
          refine Tr.seq ?_
          refine Tr.region layOK ?_
          conv => whnf
          refine condS_bif h (fun hb23 h => ?_) (fun hb23 h => ?_)
          · conv => whnf
            refine Tr.cond ?_
            conv => whnf
            refine Tr.seq ?_
            refine Tr.region layOK ?_
            conv => whnf
            refine Tr.ret ?_
            conv => whnf
            cases h
            rfl
          · conv => whnf
            refine Tr.cond ?_
            conv => whnf
            refine condS_bif h (fun hb24 h => ?_) (fun hb24 h => ?_)
            · refine Tr.seq ?_
              refine Tr.region layOK ?_
              conv => whnf
              refine Tr.ret ?_
              conv => whnf
              cases h
              rfl
            · refine Tr.skip ?_
              conv => whnf
              refine Tr.region layOK ?_
              conv => whnf
              refine arS_raw ?_
              conv => whnf
              refine ⟨((w64 (v_11 + 1))), h, ?_⟩
              exact Wk.mk2 [0] 3 rfl rfl (by decide) rfl ⟨⟨rfl, rfl⟩, trivial⟩ ⟨⟨rfl, rfl⟩, ⟨rfl, rfl⟩, ⟨rfl, rfl⟩, ⟨rfl, rfl⟩, ⟨rfl, rfl⟩, trivial⟩
        · refine Tr.exit ?_
          conv => whnf
          refine ⟨(), h, ?_⟩
          exact Wk.mk2 [0] 1 rfl rfl (by decide) rfl ⟨⟨rfl, rfl⟩, trivial⟩ ⟨⟨rfl, rfl⟩, ⟨rfl, rfl⟩, trivial⟩
      · clear h
        rintro _ h T1 H1 hw
        replace h : m_stopwatchlaw25_RanksOfSpec_J2 f_1 () = some r_3 := h
        conv => whnf
        refine Tr.weak hw ?_
        unfold m_stopwatchlaw25_RanksOfSpec_J2 at h
        refine Tr.seq ?_
        refine Tr.region layOK ?_
        conv => whnf
        obtain ⟨⟨r_25, r_26⟩, hc27, h⟩ := bind_some h
        refine PC.ecall (s_ranks_All f_1 r_25 r_26 hc27) (fun rs hrs => ?_)
        subst hrs
        conv => whnf
        refine Tr.seq ?_
        refine Tr.region layOK ?_
        conv => whnf
        obtain ⟨⟨r_28, r_29⟩, hc30, h⟩ := bind_some h
        refine PC.ecall (s_stopwatchref25_All f_1 r_28 r_29 hc30) (fun rs hrs => ?_)
        subst hrs
        conv => whnf
        refine Tr.seq ?_
        refine Tr.region layOK ?_
        conv => whnf
        obtain ⟨r_31, hc32, h⟩ := bind_some h
        refine PC.ecall (s_stopwatchref25_SameRanks r_25 r_28 r_31 hc32) (fun rs hrs => ?_)
        subst hrs
        conv => whnf
        refine condS_bif h (fun hb33 h => ?_) (fun hb33 h => ?_)
        · conv => whnf
          refine Tr.ret ?_
          conv => whnf
          cases h
          rfl
        · conv => whnf
          refine Tr.ret ?_
          conv => whnf
          cases h
          rfl
end Go.Proofs.Try
