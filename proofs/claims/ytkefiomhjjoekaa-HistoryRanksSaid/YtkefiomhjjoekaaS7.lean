/- Contracts of functions, by program (gen.py). No condition. -/
import Derived.Test.YtkefiomhjjoekaaL
import Derived.Test.YtkefiomhjjoekaaM
import Derived.Test.YtkefiomhjjoekaaS6
namespace Go.Proofs.Try
open Go Go.Abs Go.Stop
set_option maxRecDepth 8000
set_option linter.unusedVariables false
set_option linter.unusedSimpArgs false

theorem s_ranks_Of (f_1 : TField) (runner_2 : Int) (r_3 : TRank) (r_4 : Int) (h : m_ranks_Of f_1 runner_2 = some (r_3, r_4)) :
    PC prog 27 [(eTField f_1), (.i .i64 runner_2)] (fun rs => rs = [(eTRank r_3), (.i .i64 r_4)]) := by
  refine PC.of_tr (cx := ⟨18, none, lay, 0⟩) layOK func27 rfl rfl rfl rfl rfl (by simp [f27]) ?_
  unfold m_ranks_Of at h
  refine Tr.seq ?_
  refine Tr.region layOK ?_
  conv => whnf
  refine Tr.seq ?_
  refine Tr.seq ?_
  refine Tr.region layOK ?_
  conv => whnf
  refine orB_r ?_
  conv => whnf
  obtain ⟨r_5, hc6, h⟩ := bind_some h
  refine PC.ecall (s_ranks_check f_1 ((([runner_2] : List Int))) r_5 hc6) (fun rs hrs => ?_)
  subst hrs
  conv => whnf
  refine Tr.seq ?_
  refine Tr.region layOK ?_
  conv => whnf
  refine Tr.cond ?_
  conv => whnf
  refine condS_bif h (fun hb7 h => ?_) (fun hb7 h => ?_)
  · refine Tr.seq ?_
    refine Tr.region layOK ?_
    conv => whnf
    refine Tr.ret ?_
    conv => whnf
    cases h
    rfl
  · refine Tr.skip ?_
    conv => whnf
    refine Tr.seq ?_
    refine Tr.region layOK ?_
    conv => whnf
    obtain ⟨r_8, hc9, h⟩ := bind_some h
    refine PC.ecall (s_ranks_of f_1 runner_2 r_8 hc9) (fun rs hrs => ?_)
    subst hrs
    conv => whnf
    refine Tr.ret ?_
    conv => whnf
    cases h
    rfl

theorem s_stopwatchlaw26_HistoryRanks (f_1 : TField) (h_2 : THistory) (r_3 : Bool) (h : m_stopwatchlaw26_HistoryRanks f_1 h_2 = some r_3) :
    PC prog 9 [(eTField f_1), (eTHistory h_2)] (fun rs => rs = [(.b r_3)]) := by
  refine PC.of_tr (cx := ⟨92, none, lay, 0⟩) layOK func9 rfl rfl rfl rfl rfl (by simp [f9]) ?_
  unfold m_stopwatchlaw26_HistoryRanks at h
  refine Tr.seq ?_
  refine Tr.region layOK ?_
  conv => whnf
  refine Tr.seq ?_
  refine Tr.seq ?_
  refine Tr.region layOK ?_
  conv => whnf
  obtain ⟨r_4, hc5, h⟩ := bind_some h
  refine PC.ecall (s_stopwatchlaw26_sane r_4 hc5) (fun rs hrs => ?_)
  subst hrs
  conv => whnf
  refine Tr.cond ?_
  conv => whnf
  refine condS_bif h (fun hb6 h => ?_) (fun hb6 h => ?_)
  · refine Tr.seq ?_
    refine Tr.region layOK ?_
    conv => whnf
    refine Tr.ret ?_
    conv => whnf
    cases h
    rfl
  · refine Tr.skip ?_
    conv => whnf
    refine Tr.seq ?_
    refine Tr.seq ?_
    refine Tr.region layOK ?_
    conv => whnf
    obtain ⟨r_7, hc8, h⟩ := bind_some h
    refine PC.ecall (s_stopwatchlaw26_few f_1 h_2 r_7 hc8) (fun rs hrs => ?_)
    subst hrs
    conv => whnf
    refine condS_bif h (fun hb9 h => ?_) (fun hb9 h => ?_)
    · conv => whnf
      refine Tr.cond ?_
      conv => whnf
      refine Tr.seq ?_
      refine Tr.region layOK ?_
      conv => whnf
      refine Tr.ret ?_
      conv => whnf
      cases h
      rfl
    · conv => whnf
      obtain ⟨r_10, hc11, h⟩ := bind_some h
      refine PC.ecall (s_history_Check f_1 h_2 r_10 hc11) (fun rs hrs => ?_)
      subst hrs
      conv => whnf
      refine Tr.cond ?_
      conv => whnf
      refine condS_bif h (fun hb12 h => ?_) (fun hb12 h => ?_)
      · refine Tr.seq ?_
        refine Tr.region layOK ?_
        conv => whnf
        refine Tr.ret ?_
        conv => whnf
        cases h
        rfl
      · refine Tr.skip ?_
        conv => whnf
        refine Tr.seq ?_
        refine Tr.seq ?_
        refine Tr.region layOK ?_
        conv => whnf
        refine Tr.cutQ (α := Unit) (fun s => ([(4, .d (.b false))], [])) (fun s => m_stopwatchlaw26_HistoryRanks_J2 s = some r_3) ?_ ?_
        · refine Tr.block ?_
          refine Tr.loopM (σ := Int) (fun n s => m_stopwatchlaw26_HistoryRanks_L1 f_1 h_2 m_stopwatchlaw26_HistoryRanks_J2 n s) r_3 (fun s => ([(2, .pt 0 0), (3, .pt 1 0), (4, .d (.b false)), (5, .d (.i .i64 s))], [some (.var [.d (.ls (List.map eTSegment f_1.Clocks.Segments)), .d (.ls (List.map (eL eI) f_1.Clocks.Far)), .d (.ls (List.map eTPair f_1.Pairs)), .d (.ls (List.map eTRunner f_1.Runners))]), some (.var [.d (.i .i64 h_2.World), .d (.ls (List.map eI h_2.Offsets)), .d (.ls (List.map eTChoice h_2.Choices))])])) (((((f_1.Runners).length : Int)) - 0 : Int).toNat + 1) (0) h (fun s => rfl) (Wk.mk2 [0, 1] 2 rfl rfl (by decide) rfl ⟨⟨rfl, rfl⟩, ⟨rfl, rfl⟩, trivial⟩ ⟨⟨rfl, rfl⟩, ⟨rfl, rfl⟩, ⟨rfl, rfl⟩, ⟨rfl, rfl⟩, trivial⟩) ?_
          clear h
          rintro n_15 i_14 h
          replace h : m_stopwatchlaw26_HistoryRanks_L1 f_1 h_2 m_stopwatchlaw26_HistoryRanks_J2 (n_15 + 1) i_14 = some r_3 := h
          rw [m_stopwatchlaw26_HistoryRanks_L1] at h
          refine Tr.seq ?_
          refine Tr.seq ?_
          refine Tr.region layOK ?_
          conv => whnf
          refine lnS_map ?_
          conv => whnf
          refine Tr.cond ?_
          conv => whnf
          refine condS_bif h (fun hb18 h => ?_) (fun hb18 h => ?_)
          · refine Tr.skip ?_
            conv => whnf
            refine Tr.seq ?_
            refine Tr.block ?_
            refine Tr.seq ?_
            refine Tr.region layOK ?_
            conv => whnf
            obtain ⟨⟨r_19, r_20⟩, hc21, h⟩ := bind_some h
            refine PC.ecall (s_history_Rank f_1 h_2 i_14 r_19 r_20 hc21) (fun rs hrs => ?_)
            subst hrs
            conv => whnf
            refine Tr.seq ?_
            refine Tr.region layOK ?_
            conv => whnf
            obtain ⟨⟨r_22, r_23⟩, hc24, h⟩ := bind_some h
            refine PC.ecall (s_ranks_Of f_1 i_14 r_22 r_23 hc24) (fun rs hrs => ?_)
            subst hrs
            conv => whnf
            refine Tr.seq ?_
            refine Tr.seq ?_
            refine Tr.region layOK ?_
            conv => whnf
            refine condS_bif h (fun hb25 h => ?_) (fun hb25 h => ?_)
            · conv => whnf
              refine Tr.cond ?_
              conv => whnf
              refine Tr.seq ?_
              refine Tr.region layOK ?_
              conv => whnf
              refine Tr.ret ?_
              conv => whnf
              cases h
              rfl
            · conv => whnf
              refine Tr.cond ?_
              conv => whnf
              refine condS_bif h (fun hb26 h => ?_) (fun hb26 h => ?_)
              · refine Tr.seq ?_
                refine Tr.region layOK ?_
                conv => whnf
                refine Tr.ret ?_
                conv => whnf
                cases h
                rfl
              · refine Tr.skip ?_
                conv => whnf
                refine Tr.seq ?_
                refine Tr.cutQ1 ([(2, .pt 0 0), (3, .pt 1 0), (4, .d (.b false)), (5, .d (.i .i64 i_14)), (91, .d (.b (bif (r_19 == 0) then (bif r_22.Out then (bif (r_19 != 0) then ((r_22.Kind == 3) || ((decide (r_19 < r_22.Lo)) || ((decide (r_19 > r_22.Hi)) || ((r_22.Kind == 1) && (r_19 != r_22.Lo))))) else ((r_22.Kind == 1) && (r_19 != r_22.Lo))) else ((!(r_22.Kind == 3)) || ((r_19 != 0) || ((r_22.Kind == 1) && (r_19 != r_22.Lo))))) else (bif (r_19 != 0) then ((r_22.Kind == 3) || ((decide (r_19 < r_22.Lo)) || ((decide (r_19 > r_22.Hi)) || ((r_22.Kind == 1) && (r_19 != r_22.Lo))))) else ((r_22.Kind == 1) && (r_19 != r_22.Lo))))))]) ([some (.var [.d (.ls (List.map eTSegment f_1.Clocks.Segments)), .d (.ls (List.map (eL eI) f_1.Clocks.Far)), .d (.ls (List.map eTPair f_1.Pairs)), .d (.ls (List.map eTRunner f_1.Runners))]), some (.var [.d (.i .i64 h_2.World), .d (.ls (List.map eI h_2.Offsets)), .d (.ls (List.map eTChoice h_2.Choices))])]) ?_ (fun T1 H1 hw => ?_)
                · refine Tr.region layOK ?_
                  conv => whnf
                  refine condS_mk (fun hb28 => ?_) (fun hb28 => ?_)
                  · conv => whnf
                    refine condS_mk (fun hb29 => ?_) (fun hb29 => ?_)
                    · conv => whnf
                      refine condS_mk (fun hb30 => ?_) (fun hb30 => ?_)
                      · conv => whnf
                        refine condS_mk (fun hb31 => ?_) (fun hb31 => ?_)
                        · conv => whnf
                          exact Wk.mk2 [0, 1] 3 rfl rfl (by decide) rfl ⟨⟨rfl, rfl⟩, ⟨rfl, rfl⟩, trivial⟩ ⟨⟨rfl, rfl⟩, ⟨rfl, rfl⟩, ⟨rfl, rfl⟩, ⟨rfl, rfl⟩, ⟨rfl, (by first | rfl | (simp only [↓hb6, ↓hb9, ↓hb12, ↓hb18, ↓hb25, ↓hb26, ↓hb28, ↓hb29, ↓hb30, ↓hb31, cond_true, cond_false, Bool.true_or, Bool.or_true, Bool.false_or, Bool.or_false, Bool.true_and, Bool.and_true, Bool.false_and, Bool.and_false, Bool.not_true, Bool.not_false]; done) | (simp only [↓hb6, ↓hb9, ↓hb12, ↓hb18, ↓hb25, ↓hb26, ↓hb28, ↓hb29, ↓hb30, ↓hb31, cond_true, cond_false, Bool.true_or, Bool.or_true, Bool.false_or, Bool.or_false, Bool.true_and, Bool.and_true, Bool.false_and, Bool.and_false, Bool.not_true, Bool.not_false]; rfl))⟩, trivial⟩
                        · conv => whnf
                          refine condS_mk (fun hb32 => ?_) (fun hb32 => ?_)
                          · conv => whnf
                            exact Wk.mk2 [0, 1] 3 rfl rfl (by decide) rfl ⟨⟨rfl, rfl⟩, ⟨rfl, rfl⟩, trivial⟩ ⟨⟨rfl, rfl⟩, ⟨rfl, rfl⟩, ⟨rfl, rfl⟩, ⟨rfl, rfl⟩, ⟨rfl, (by first | rfl | (simp only [↓hb6, ↓hb9, ↓hb12, ↓hb18, ↓hb25, ↓hb26, ↓hb28, ↓hb29, ↓hb30, ↓hb31, ↓hb32, cond_true, cond_false, Bool.true_or, Bool.or_true, Bool.false_or, Bool.or_false, Bool.true_and, Bool.and_true, Bool.false_and, Bool.and_false, Bool.not_true, Bool.not_false]; done) | (simp only [↓hb6, ↓hb9, ↓hb12, ↓hb18, ↓hb25, ↓hb26, ↓hb28, ↓hb29, ↓hb30, ↓hb31, ↓hb32, cond_true, cond_false, Bool.true_or, Bool.or_true, Bool.false_or, Bool.or_false, Bool.true_and, Bool.and_true, Bool.false_and, Bool.and_false, Bool.not_true, Bool.not_false]; rfl))⟩, trivial⟩
                          · conv => whnf
                            refine condS_mk (fun hb33 => ?_) (fun hb33 => ?_)
                            · conv => whnf
                              exact Wk.mk2 [0, 1] 3 rfl rfl (by decide) rfl ⟨⟨rfl, rfl⟩, ⟨rfl, rfl⟩, trivial⟩ ⟨⟨rfl, rfl⟩, ⟨rfl, rfl⟩, ⟨rfl, rfl⟩, ⟨rfl, rfl⟩, ⟨rfl, (by first | rfl | (simp only [↓hb6, ↓hb9, ↓hb12, ↓hb18, ↓hb25, ↓hb26, ↓hb28, ↓hb29, ↓hb30, ↓hb31, ↓hb32, ↓hb33, cond_true, cond_false, Bool.true_or, Bool.or_true, Bool.false_or, Bool.or_false, Bool.true_and, Bool.and_true, Bool.false_and, Bool.and_false, Bool.not_true, Bool.not_false]; done) | (simp only [↓hb6, ↓hb9, ↓hb12, ↓hb18, ↓hb25, ↓hb26, ↓hb28, ↓hb29, ↓hb30, ↓hb31, ↓hb32, ↓hb33, cond_true, cond_false, Bool.true_or, Bool.or_true, Bool.false_or, Bool.or_false, Bool.true_and, Bool.and_true, Bool.false_and, Bool.and_false, Bool.not_true, Bool.not_false]; rfl))⟩, trivial⟩
                            · conv => whnf
                              refine condS_mk (fun hb34 => ?_) (fun hb34 => ?_)
                              · conv => whnf
                                exact Wk.mk2 [0, 1] 3 rfl rfl (by decide) rfl ⟨⟨rfl, rfl⟩, ⟨rfl, rfl⟩, trivial⟩ ⟨⟨rfl, rfl⟩, ⟨rfl, rfl⟩, ⟨rfl, rfl⟩, ⟨rfl, rfl⟩, ⟨rfl, (by first | rfl | (simp only [↓hb6, ↓hb9, ↓hb12, ↓hb18, ↓hb25, ↓hb26, ↓hb28, ↓hb29, ↓hb30, ↓hb31, ↓hb32, ↓hb33, ↓hb34, cond_true, cond_false, Bool.true_or, Bool.or_true, Bool.false_or, Bool.or_false, Bool.true_and, Bool.and_true, Bool.false_and, Bool.and_false, Bool.not_true, Bool.not_false]; done) | (simp only [↓hb6, ↓hb9, ↓hb12, ↓hb18, ↓hb25, ↓hb26, ↓hb28, ↓hb29, ↓hb30, ↓hb31, ↓hb32, ↓hb33, ↓hb34, cond_true, cond_false, Bool.true_or, Bool.or_true, Bool.false_or, Bool.or_false, Bool.true_and, Bool.and_true, Bool.false_and, Bool.and_false, Bool.not_true, Bool.not_false]; rfl))⟩, trivial⟩
                              · conv => whnf
                                exact Wk.mk2 [0, 1] 3 rfl rfl (by decide) rfl ⟨⟨rfl, rfl⟩, ⟨rfl, rfl⟩, trivial⟩ ⟨⟨rfl, rfl⟩, ⟨rfl, rfl⟩, ⟨rfl, rfl⟩, ⟨rfl, rfl⟩, ⟨rfl, (by first | rfl | (simp only [↓hb6, ↓hb9, ↓hb12, ↓hb18, ↓hb25, ↓hb26, ↓hb28, ↓hb29, ↓hb30, ↓hb31, ↓hb32, ↓hb33, ↓hb34, cond_true, cond_false, Bool.true_or, Bool.or_true, Bool.false_or, Bool.or_false, Bool.true_and, Bool.and_true, Bool.false_and, Bool.and_false, Bool.not_true, Bool.not_false]; done) | (simp only [↓hb6, ↓hb9, ↓hb12, ↓hb18, ↓hb25, ↓hb26, ↓hb28, ↓hb29, ↓hb30, ↓hb31, ↓hb32, ↓hb33, ↓hb34, cond_true, cond_false, Bool.true_or, Bool.or_true, Bool.false_or, Bool.or_false, Bool.true_and, Bool.and_true, Bool.false_and, Bool.and_false, Bool.not_true, Bool.not_false]; rfl))⟩, trivial⟩
                      · conv => whnf
                        refine condS_mk (fun hb35 => ?_) (fun hb35 => ?_)
                        · conv => whnf
                          exact Wk.mk2 [0, 1] 3 rfl rfl (by decide) rfl ⟨⟨rfl, rfl⟩, ⟨rfl, rfl⟩, trivial⟩ ⟨⟨rfl, rfl⟩, ⟨rfl, rfl⟩, ⟨rfl, rfl⟩, ⟨rfl, rfl⟩, ⟨rfl, (by first | rfl | (simp only [↓hb6, ↓hb9, ↓hb12, ↓hb18, ↓hb25, ↓hb26, ↓hb28, ↓hb29, ↓hb30, ↓hb35, cond_true, cond_false, Bool.true_or, Bool.or_true, Bool.false_or, Bool.or_false, Bool.true_and, Bool.and_true, Bool.false_and, Bool.and_false, Bool.not_true, Bool.not_false]; done) | (simp only [↓hb6, ↓hb9, ↓hb12, ↓hb18, ↓hb25, ↓hb26, ↓hb28, ↓hb29, ↓hb30, ↓hb35, cond_true, cond_false, Bool.true_or, Bool.or_true, Bool.false_or, Bool.or_false, Bool.true_and, Bool.and_true, Bool.false_and, Bool.and_false, Bool.not_true, Bool.not_false]; rfl))⟩, trivial⟩
                        · conv => whnf
                          exact Wk.mk2 [0, 1] 3 rfl rfl (by decide) rfl ⟨⟨rfl, rfl⟩, ⟨rfl, rfl⟩, trivial⟩ ⟨⟨rfl, rfl⟩, ⟨rfl, rfl⟩, ⟨rfl, rfl⟩, ⟨rfl, rfl⟩, ⟨rfl, (by first | rfl | (simp only [↓hb6, ↓hb9, ↓hb12, ↓hb18, ↓hb25, ↓hb26, ↓hb28, ↓hb29, ↓hb30, ↓hb35, cond_true, cond_false, Bool.true_or, Bool.or_true, Bool.false_or, Bool.or_false, Bool.true_and, Bool.and_true, Bool.false_and, Bool.and_false, Bool.not_true, Bool.not_false]; done) | (simp only [↓hb6, ↓hb9, ↓hb12, ↓hb18, ↓hb25, ↓hb26, ↓hb28, ↓hb29, ↓hb30, ↓hb35, cond_true, cond_false, Bool.true_or, Bool.or_true, Bool.false_or, Bool.or_false, Bool.true_and, Bool.and_true, Bool.false_and, Bool.and_false, Bool.not_true, Bool.not_false]; rfl))⟩, trivial⟩
                    · conv => whnf
                      refine condS_mk (fun hb36 => ?_) (fun hb36 => ?_)
                      · conv => whnf
                        exact Wk.mk2 [0, 1] 3 rfl rfl (by decide) rfl ⟨⟨rfl, rfl⟩, ⟨rfl, rfl⟩, trivial⟩ ⟨⟨rfl, rfl⟩, ⟨rfl, rfl⟩, ⟨rfl, rfl⟩, ⟨rfl, rfl⟩, ⟨rfl, (by first | rfl | (simp only [↓hb6, ↓hb9, ↓hb12, ↓hb18, ↓hb25, ↓hb26, ↓hb28, ↓hb29, ↓hb36, cond_true, cond_false, Bool.true_or, Bool.or_true, Bool.false_or, Bool.or_false, Bool.true_and, Bool.and_true, Bool.false_and, Bool.and_false, Bool.not_true, Bool.not_false]; done) | (simp only [↓hb6, ↓hb9, ↓hb12, ↓hb18, ↓hb25, ↓hb26, ↓hb28, ↓hb29, ↓hb36, cond_true, cond_false, Bool.true_or, Bool.or_true, Bool.false_or, Bool.or_false, Bool.true_and, Bool.and_true, Bool.false_and, Bool.and_false, Bool.not_true, Bool.not_false]; rfl))⟩, trivial⟩
                      · conv => whnf
                        refine condS_mk (fun hb37 => ?_) (fun hb37 => ?_)
                        · conv => whnf
                          refine condS_kt (by simpa using hb36) ?_
                          conv => whnf
                          exact Wk.mk2 [0, 1] 3 rfl rfl (by decide) rfl ⟨⟨rfl, rfl⟩, ⟨rfl, rfl⟩, trivial⟩ ⟨⟨rfl, rfl⟩, ⟨rfl, rfl⟩, ⟨rfl, rfl⟩, ⟨rfl, rfl⟩, ⟨rfl, (by first | rfl | (simp only [↓hb6, ↓hb9, ↓hb12, ↓hb18, ↓hb25, ↓hb26, ↓hb28, ↓hb29, ↓hb36, ↓hb37, cond_true, cond_false, Bool.true_or, Bool.or_true, Bool.false_or, Bool.or_false, Bool.true_and, Bool.and_true, Bool.false_and, Bool.and_false, Bool.not_true, Bool.not_false]; done) | (simp only [↓hb6, ↓hb9, ↓hb12, ↓hb18, ↓hb25, ↓hb26, ↓hb28, ↓hb29, ↓hb36, ↓hb37, cond_true, cond_false, Bool.true_or, Bool.or_true, Bool.false_or, Bool.or_false, Bool.true_and, Bool.and_true, Bool.false_and, Bool.and_false, Bool.not_true, Bool.not_false]; rfl))⟩, trivial⟩
                        · conv => whnf
                          refine condS_mk (fun hb38 => ?_) (fun hb38 => ?_)
                          · conv => whnf
                            exact Wk.mk2 [0, 1] 3 rfl rfl (by decide) rfl ⟨⟨rfl, rfl⟩, ⟨rfl, rfl⟩, trivial⟩ ⟨⟨rfl, rfl⟩, ⟨rfl, rfl⟩, ⟨rfl, rfl⟩, ⟨rfl, rfl⟩, ⟨rfl, (by first | rfl | (simp only [↓hb6, ↓hb9, ↓hb12, ↓hb18, ↓hb25, ↓hb26, ↓hb28, ↓hb29, ↓hb36, ↓hb37, ↓hb38, cond_true, cond_false, Bool.true_or, Bool.or_true, Bool.false_or, Bool.or_false, Bool.true_and, Bool.and_true, Bool.false_and, Bool.and_false, Bool.not_true, Bool.not_false]; done) | (simp only [↓hb6, ↓hb9, ↓hb12, ↓hb18, ↓hb25, ↓hb26, ↓hb28, ↓hb29, ↓hb36, ↓hb37, ↓hb38, cond_true, cond_false, Bool.true_or, Bool.or_true, Bool.false_or, Bool.or_false, Bool.true_and, Bool.and_true, Bool.false_and, Bool.and_false, Bool.not_true, Bool.not_false]; rfl))⟩, trivial⟩
                          · conv => whnf
                            exact Wk.mk2 [0, 1] 3 rfl rfl (by decide) rfl ⟨⟨rfl, rfl⟩, ⟨rfl, rfl⟩, trivial⟩ ⟨⟨rfl, rfl⟩, ⟨rfl, rfl⟩, ⟨rfl, rfl⟩, ⟨rfl, rfl⟩, ⟨rfl, (by first | rfl | (simp only [↓hb6, ↓hb9, ↓hb12, ↓hb18, ↓hb25, ↓hb26, ↓hb28, ↓hb29, ↓hb36, ↓hb37, ↓hb38, cond_true, cond_false, Bool.true_or, Bool.or_true, Bool.false_or, Bool.or_false, Bool.true_and, Bool.and_true, Bool.false_and, Bool.and_false, Bool.not_true, Bool.not_false]; done) | (simp only [↓hb6, ↓hb9, ↓hb12, ↓hb18, ↓hb25, ↓hb26, ↓hb28, ↓hb29, ↓hb36, ↓hb37, ↓hb38, cond_true, cond_false, Bool.true_or, Bool.or_true, Bool.false_or, Bool.or_false, Bool.true_and, Bool.and_true, Bool.false_and, Bool.and_false, Bool.not_true, Bool.not_false]; rfl))⟩, trivial⟩
                  · conv => whnf
                    refine condS_mk (fun hb39 => ?_) (fun hb39 => ?_)
                    · conv => whnf
                      refine condS_mk (fun hb40 => ?_) (fun hb40 => ?_)
                      · conv => whnf
                        exact Wk.mk2 [0, 1] 3 rfl rfl (by decide) rfl ⟨⟨rfl, rfl⟩, ⟨rfl, rfl⟩, trivial⟩ ⟨⟨rfl, rfl⟩, ⟨rfl, rfl⟩, ⟨rfl, rfl⟩, ⟨rfl, rfl⟩, ⟨rfl, (by first | rfl | (simp only [↓hb6, ↓hb9, ↓hb12, ↓hb18, ↓hb25, ↓hb26, ↓hb28, ↓hb39, ↓hb40, cond_true, cond_false, Bool.true_or, Bool.or_true, Bool.false_or, Bool.or_false, Bool.true_and, Bool.and_true, Bool.false_and, Bool.and_false, Bool.not_true, Bool.not_false]; done) | (simp only [↓hb6, ↓hb9, ↓hb12, ↓hb18, ↓hb25, ↓hb26, ↓hb28, ↓hb39, ↓hb40, cond_true, cond_false, Bool.true_or, Bool.or_true, Bool.false_or, Bool.or_false, Bool.true_and, Bool.and_true, Bool.false_and, Bool.and_false, Bool.not_true, Bool.not_false]; rfl))⟩, trivial⟩
                      · conv => whnf
                        refine condS_mk (fun hb41 => ?_) (fun hb41 => ?_)
                        · conv => whnf
                          exact Wk.mk2 [0, 1] 3 rfl rfl (by decide) rfl ⟨⟨rfl, rfl⟩, ⟨rfl, rfl⟩, trivial⟩ ⟨⟨rfl, rfl⟩, ⟨rfl, rfl⟩, ⟨rfl, rfl⟩, ⟨rfl, rfl⟩, ⟨rfl, (by first | rfl | (simp only [↓hb6, ↓hb9, ↓hb12, ↓hb18, ↓hb25, ↓hb26, ↓hb28, ↓hb39, ↓hb40, ↓hb41, cond_true, cond_false, Bool.true_or, Bool.or_true, Bool.false_or, Bool.or_false, Bool.true_and, Bool.and_true, Bool.false_and, Bool.and_false, Bool.not_true, Bool.not_false]; done) | (simp only [↓hb6, ↓hb9, ↓hb12, ↓hb18, ↓hb25, ↓hb26, ↓hb28, ↓hb39, ↓hb40, ↓hb41, cond_true, cond_false, Bool.true_or, Bool.or_true, Bool.false_or, Bool.or_false, Bool.true_and, Bool.and_true, Bool.false_and, Bool.and_false, Bool.not_true, Bool.not_false]; rfl))⟩, trivial⟩
                        · conv => whnf
                          refine condS_mk (fun hb42 => ?_) (fun hb42 => ?_)
                          · conv => whnf
                            exact Wk.mk2 [0, 1] 3 rfl rfl (by decide) rfl ⟨⟨rfl, rfl⟩, ⟨rfl, rfl⟩, trivial⟩ ⟨⟨rfl, rfl⟩, ⟨rfl, rfl⟩, ⟨rfl, rfl⟩, ⟨rfl, rfl⟩, ⟨rfl, (by first | rfl | (simp only [↓hb6, ↓hb9, ↓hb12, ↓hb18, ↓hb25, ↓hb26, ↓hb28, ↓hb39, ↓hb40, ↓hb41, ↓hb42, cond_true, cond_false, Bool.true_or, Bool.or_true, Bool.false_or, Bool.or_false, Bool.true_and, Bool.and_true, Bool.false_and, Bool.and_false, Bool.not_true, Bool.not_false]; done) | (simp only [↓hb6, ↓hb9, ↓hb12, ↓hb18, ↓hb25, ↓hb26, ↓hb28, ↓hb39, ↓hb40, ↓hb41, ↓hb42, cond_true, cond_false, Bool.true_or, Bool.or_true, Bool.false_or, Bool.or_false, Bool.true_and, Bool.and_true, Bool.false_and, Bool.and_false, Bool.not_true, Bool.not_false]; rfl))⟩, trivial⟩
                          · conv => whnf
                            refine condS_mk (fun hb43 => ?_) (fun hb43 => ?_)
                            · conv => whnf
                              exact Wk.mk2 [0, 1] 3 rfl rfl (by decide) rfl ⟨⟨rfl, rfl⟩, ⟨rfl, rfl⟩, trivial⟩ ⟨⟨rfl, rfl⟩, ⟨rfl, rfl⟩, ⟨rfl, rfl⟩, ⟨rfl, rfl⟩, ⟨rfl, (by first | rfl | (simp only [↓hb6, ↓hb9, ↓hb12, ↓hb18, ↓hb25, ↓hb26, ↓hb28, ↓hb39, ↓hb40, ↓hb41, ↓hb42, ↓hb43, cond_true, cond_false, Bool.true_or, Bool.or_true, Bool.false_or, Bool.or_false, Bool.true_and, Bool.and_true, Bool.false_and, Bool.and_false, Bool.not_true, Bool.not_false]; done) | (simp only [↓hb6, ↓hb9, ↓hb12, ↓hb18, ↓hb25, ↓hb26, ↓hb28, ↓hb39, ↓hb40, ↓hb41, ↓hb42, ↓hb43, cond_true, cond_false, Bool.true_or, Bool.or_true, Bool.false_or, Bool.or_false, Bool.true_and, Bool.and_true, Bool.false_and, Bool.and_false, Bool.not_true, Bool.not_false]; rfl))⟩, trivial⟩
                            · conv => whnf
                              exact Wk.mk2 [0, 1] 3 rfl rfl (by decide) rfl ⟨⟨rfl, rfl⟩, ⟨rfl, rfl⟩, trivial⟩ ⟨⟨rfl, rfl⟩, ⟨rfl, rfl⟩, ⟨rfl, rfl⟩, ⟨rfl, rfl⟩, ⟨rfl, (by first | rfl | (simp only [↓hb6, ↓hb9, ↓hb12, ↓hb18, ↓hb25, ↓hb26, ↓hb28, ↓hb39, ↓hb40, ↓hb41, ↓hb42, ↓hb43, cond_true, cond_false, Bool.true_or, Bool.or_true, Bool.false_or, Bool.or_false, Bool.true_and, Bool.and_true, Bool.false_and, Bool.and_false, Bool.not_true, Bool.not_false]; done) | (simp only [↓hb6, ↓hb9, ↓hb12, ↓hb18, ↓hb25, ↓hb26, ↓hb28, ↓hb39, ↓hb40, ↓hb41, ↓hb42, ↓hb43, cond_true, cond_false, Bool.true_or, Bool.or_true, Bool.false_or, Bool.or_false, Bool.true_and, Bool.and_true, Bool.false_and, Bool.and_false, Bool.not_true, Bool.not_false]; rfl))⟩, trivial⟩
                    · conv => whnf
                      refine condS_mk (fun hb44 => ?_) (fun hb44 => ?_)
                      · conv => whnf
                        exact Wk.mk2 [0, 1] 3 rfl rfl (by decide) rfl ⟨⟨rfl, rfl⟩, ⟨rfl, rfl⟩, trivial⟩ ⟨⟨rfl, rfl⟩, ⟨rfl, rfl⟩, ⟨rfl, rfl⟩, ⟨rfl, rfl⟩, ⟨rfl, (by first | rfl | (simp only [↓hb6, ↓hb9, ↓hb12, ↓hb18, ↓hb25, ↓hb26, ↓hb28, ↓hb39, ↓hb44, cond_true, cond_false, Bool.true_or, Bool.or_true, Bool.false_or, Bool.or_false, Bool.true_and, Bool.and_true, Bool.false_and, Bool.and_false, Bool.not_true, Bool.not_false]; done) | (simp only [↓hb6, ↓hb9, ↓hb12, ↓hb18, ↓hb25, ↓hb26, ↓hb28, ↓hb39, ↓hb44, cond_true, cond_false, Bool.true_or, Bool.or_true, Bool.false_or, Bool.or_false, Bool.true_and, Bool.and_true, Bool.false_and, Bool.and_false, Bool.not_true, Bool.not_false]; rfl))⟩, trivial⟩
                      · conv => whnf
                        exact Wk.mk2 [0, 1] 3 rfl rfl (by decide) rfl ⟨⟨rfl, rfl⟩, ⟨rfl, rfl⟩, trivial⟩ ⟨⟨rfl, rfl⟩, ⟨rfl, rfl⟩, ⟨rfl, rfl⟩, ⟨rfl, rfl⟩, ⟨rfl, (by first | rfl | (simp only [↓hb6, ↓hb9, ↓hb12, ↓hb18, ↓hb25, ↓hb26, ↓hb28, ↓hb39, ↓hb44, cond_true, cond_false, Bool.true_or, Bool.or_true, Bool.false_or, Bool.or_false, Bool.true_and, Bool.and_true, Bool.false_and, Bool.and_false, Bool.not_true, Bool.not_false]; done) | (simp only [↓hb6, ↓hb9, ↓hb12, ↓hb18, ↓hb25, ↓hb26, ↓hb28, ↓hb39, ↓hb44, cond_true, cond_false, Bool.true_or, Bool.or_true, Bool.false_or, Bool.or_false, Bool.true_and, Bool.and_true, Bool.false_and, Bool.and_false, Bool.not_true, Bool.not_false]; rfl))⟩, trivial⟩
                · conv => whnf
                  refine Tr.weak hw ?_
                  refine Tr.cond ?_
                  conv => whnf
                  refine condS_bif h (fun hb45 h => ?_) (fun hb45 h => ?_)
                  · refine Tr.seq ?_
                    refine Tr.region layOK ?_
                    conv => whnf
                    refine Tr.ret ?_
                    conv => whnf
                    cases h
                    rfl
                  · refine Tr.skip ?_
                    conv => whnf
                    refine Tr.region layOK ?_
                    conv => whnf
                    refine arS_raw ?_
                    conv => whnf
                    refine ⟨((w64 (i_14 + 1))), h, ?_⟩
                    exact Wk.mk2 [0, 1] 2 rfl rfl (by decide) rfl ⟨⟨rfl, rfl⟩, ⟨rfl, rfl⟩, trivial⟩ ⟨⟨rfl, rfl⟩, ⟨rfl, rfl⟩, ⟨rfl, rfl⟩, ⟨rfl, rfl⟩, trivial⟩
          · refine Tr.exit ?_
            conv => whnf
            refine ⟨(), h, ?_⟩
            exact Wk.mk2 [] 2 rfl rfl (by decide) rfl trivial ⟨⟨rfl, rfl⟩, trivial⟩
        · clear h
          rintro _ h T1 H1 hw
          replace h : m_stopwatchlaw26_HistoryRanks_J2 () = some r_3 := h
          conv => whnf
          refine Tr.weak hw ?_
          unfold m_stopwatchlaw26_HistoryRanks_J2 at h
          refine Tr.seq ?_
          refine Tr.region layOK ?_
          conv => whnf
          refine Tr.ret ?_
          conv => whnf
          cases h
          rfl
end Go.Proofs.Try
