/- Contracts of functions, by program (gen.py). No condition. -/
import Derived.Test.YthandbiapckgkaaL
import Derived.Test.YthandbiapckgkaaM
import Derived.Test.YthandbiapckgkaaS10
namespace Go.Proofs.Try
open Go Go.Abs Go.Stop
set_option maxRecDepth 8000
set_option linter.unusedVariables false
set_option linter.unusedSimpArgs false

theorem s_stopwatchref25_Rank (f_1 : TField) (h_2 : THistory) (runner_3 : Int) (r_4 : Int) (h : m_stopwatchref25_Rank f_1 h_2 runner_3 = some r_4) :
    PC prog 19 [(eTField f_1), (eTHistory h_2), (.i .i64 runner_3)] (fun rs => rs = [(.i .i64 r_4)]) := by
  refine PC.of_tr (cx := ⟨35, none, lay, 0⟩) layOK func19 rfl rfl rfl rfl rfl (by simp [f19]) ?_
  unfold m_stopwatchref25_Rank at h
  refine Tr.seq ?_
  refine Tr.region layOK ?_
  conv => whnf
  refine Tr.seq ?_
  refine Tr.region layOK ?_
  conv => whnf
  obtain ⟨⟨r_5, r_6⟩, hc7, h⟩ := bind_some h
  refine PC.ecall (s_stopwatchref25_Net f_1 h_2 runner_3 r_5 r_6 hc7) (fun rs hrs => ?_)
  subst hrs
  conv => whnf
  refine Tr.seq ?_
  refine Tr.seq ?_
  refine Tr.region layOK ?_
  conv => whnf
  refine Tr.cond ?_
  conv => whnf
  refine condS_bif h (fun hb8 h => ?_) (fun hb8 h => ?_)
  · refine Tr.seq ?_
    refine Tr.region layOK ?_
    conv => whnf
    refine Tr.ret ?_
    conv => whnf
    cases h
    rfl
  · refine Tr.skip ?_
    conv => whnf
    refine Tr.seq ?_
    refine Tr.region layOK ?_
    conv => whnf
    refine Tr.seq ?_
    refine Tr.seq ?_
    refine Tr.region layOK ?_
    conv => whnf
    obtain ⟨n_14, hv21, h⟩ := bind_some h
    refine Tr.cutQ1 ([(6, .d (.i .i64 0)), (9, .d (.i .i64 n_14))]) ([]) ?_ (fun T1 H1 hw => ?_)
    · replace h := hv21; clear hv21
      refine Tr.block ?_
      refine Tr.loopM (σ := Int × Int) (fun n s => m_stopwatchref25_Rank_L1 f_1 h_2 runner_3 n s.1 s.2) n_14 (fun s => ([(2, .d (.i .i64 runner_3)), (3, .pt 0 0), (4, .pt 1 0), (6, .d (.i .i64 0)), (9, .d (.i .i64 s.1)), (10, .d (.i .i64 s.2))], [some (.var [.d (.ls (List.map eTSegment f_1.Clocks.Segments)), .d (.ls (List.map (eL eI) f_1.Clocks.Far)), .d (.ls (List.map eTPair f_1.Pairs)), .d (.ls (List.map eTRunner f_1.Runners))]), some (.var [.d (.i .i64 h_2.World), .d (.ls (List.map eI h_2.Offsets)), .d (.ls (List.map eTChoice h_2.Choices))])])) (((((f_1.Runners).length : Int)) - 0 : Int).toNat + 1) (1, 0) h (fun s => rfl) (Wk.mk2 [0, 1] 2 rfl rfl (by decide) rfl ⟨⟨rfl, rfl⟩, ⟨rfl, rfl⟩, trivial⟩ ⟨⟨rfl, rfl⟩, ⟨rfl, rfl⟩, ⟨rfl, rfl⟩, ⟨rfl, rfl⟩, ⟨rfl, rfl⟩, ⟨rfl, rfl⟩, trivial⟩) ?_
      clear h
      rintro n_13 ⟨n_11, i_12⟩ h
      replace h : m_stopwatchref25_Rank_L1 f_1 h_2 runner_3 (n_13 + 1) n_11 i_12 = some n_14 := h
      rw [m_stopwatchref25_Rank_L1] at h
      refine Tr.seq ?_
      refine Tr.seq ?_
      refine Tr.region layOK ?_
      conv => whnf
      refine lnS_map ?_
      conv => whnf
      refine Tr.cond ?_
      conv => whnf
      refine condS_bif h (fun hb17 h => ?_) (fun hb17 h => ?_)
      · refine Tr.skip ?_
        conv => whnf
        refine Tr.seq ?_
        refine Tr.block ?_
        refine Tr.seq ?_
        refine Tr.region layOK ?_
        conv => whnf
        obtain ⟨r_18, hc19, h⟩ := bind_some h
        refine PC.ecall (s_stopwatchref25_InFront f_1 h_2 i_12 runner_3 r_18 hc19) (fun rs hrs => ?_)
        subst hrs
        conv => whnf
        refine Tr.cond ?_
        conv => whnf
        refine condS_bif h (fun hb20 h => ?_) (fun hb20 h => ?_)
        · refine Tr.region layOK ?_
          conv => whnf
          refine arS_raw ?_
          conv => whnf
          refine Tr.region layOK ?_
          conv => whnf
          refine arS_raw ?_
          conv => whnf
          refine ⟨((w64 (n_11 + 1)), (w64 (i_12 + 1))), h, ?_⟩
          exact Wk.mk2 [0, 1] 2 rfl rfl (by decide) rfl ⟨⟨rfl, rfl⟩, ⟨rfl, rfl⟩, trivial⟩ ⟨⟨rfl, rfl⟩, ⟨rfl, rfl⟩, ⟨rfl, rfl⟩, ⟨rfl, rfl⟩, ⟨rfl, rfl⟩, ⟨rfl, rfl⟩, trivial⟩
        · refine Tr.skip ?_
          conv => whnf
          refine Tr.region layOK ?_
          conv => whnf
          refine arS_raw ?_
          conv => whnf
          refine ⟨(n_11, (w64 (i_12 + 1))), h, ?_⟩
          exact Wk.mk2 [0, 1] 2 rfl rfl (by decide) rfl ⟨⟨rfl, rfl⟩, ⟨rfl, rfl⟩, trivial⟩ ⟨⟨rfl, rfl⟩, ⟨rfl, rfl⟩, ⟨rfl, rfl⟩, ⟨rfl, rfl⟩, ⟨rfl, rfl⟩, ⟨rfl, rfl⟩, trivial⟩
      · refine Tr.exit ?_
        conv => whnf
        cases h
        exact Wk.mk2 [] 2 rfl rfl (by decide) rfl trivial ⟨⟨rfl, rfl⟩, ⟨rfl, rfl⟩, trivial⟩
    · clear hv21
      conv => whnf
      refine Tr.weak hw ?_
      refine Tr.seq ?_
      refine Tr.region layOK ?_
      conv => whnf
      refine Tr.ret ?_
      conv => whnf
      cases h
      rfl

theorem s_stopwatchlaw25_RanksBestSpec (f_1 : TField) (runner_2 : Int) (r_3 : Bool) (h : m_stopwatchlaw25_RanksBestSpec f_1 runner_2 = some r_3) :
    PC prog 10 [(eTField f_1), (.i .i64 runner_2)] (fun rs => rs = [(.b r_3)]) := by
  refine PC.of_tr (cx := ⟨99, none, lay, 0⟩) layOK func10 rfl rfl rfl rfl rfl (by simp [f10]) ?_
  unfold m_stopwatchlaw25_RanksBestSpec at h
  refine Tr.seq ?_
  refine Tr.region layOK ?_
  conv => whnf
  refine Tr.seq ?_
  refine Tr.seq ?_
  refine Tr.region layOK ?_
  conv => whnf
  obtain ⟨r_4, hc5, h⟩ := bind_some h
  refine PC.ecall (s_stopwatchlaw25_sane r_4 hc5) (fun rs hrs => ?_)
  subst hrs
  conv => whnf
  refine Tr.cond ?_
  conv => whnf
  refine condS_bif h (fun hb6 h => ?_) (fun hb6 h => ?_)
  · refine Tr.seq ?_
    refine Tr.region layOK ?_
    conv => whnf
    refine Tr.ret ?_
    conv => whnf
    cases h
    rfl
  · refine Tr.skip ?_
    conv => whnf
    refine Tr.seq ?_
    refine Tr.seq ?_
    refine Tr.region layOK ?_
    conv => whnf
    obtain ⟨r_7, hc8, h⟩ := bind_some h
    refine PC.ecall (s_stopwatchref25_Few f_1 r_7 hc8) (fun rs hrs => ?_)
    subst hrs
    conv => whnf
    refine Tr.cond ?_
    conv => whnf
    refine condS_bif h (fun hb9 h => ?_) (fun hb9 h => ?_)
    · refine Tr.seq ?_
      refine Tr.region layOK ?_
      conv => whnf
      refine Tr.ret ?_
      conv => whnf
      cases h
      rfl
    · refine Tr.skip ?_
      conv => whnf
      refine Tr.seq ?_
      refine Tr.region layOK ?_
      conv => whnf
      obtain ⟨⟨r_10, r_11⟩, hc12, h⟩ := bind_some h
      refine PC.ecall (s_stopwatchref25_Of f_1 runner_2 r_10 r_11 hc12) (fun rs hrs => ?_)
      subst hrs
      conv => whnf
      refine Tr.seq ?_
      refine Tr.region layOK ?_
      conv => whnf
      obtain ⟨⟨r_13, r_14, r_15⟩, hc16, h⟩ := bind_some h
      refine PC.ecall (s_ranks_Best f_1 runner_2 r_13 r_14 r_15 hc16) (fun rs hrs => ?_)
      subst hrs
      conv => whnf
      refine Tr.seq ?_
      refine Tr.region layOK ?_
      conv => whnf
      obtain ⟨⟨r_17, r_18, r_19⟩, hc20, h⟩ := bind_some h
      refine PC.ecall (s_ranks_Worst f_1 runner_2 r_17 r_18 r_19 hc20) (fun rs hrs => ?_)
      subst hrs
      conv => whnf
      refine Tr.seq ?_
      refine Tr.seq ?_
      refine Tr.region layOK ?_
      conv => whnf
      refine condS_bif h (fun hb21 h => ?_) (fun hb21 h => ?_)
      · conv => whnf
        refine Tr.cond ?_
        conv => whnf
        refine Tr.seq ?_
        refine Tr.region layOK ?_
        conv => whnf
        refine Tr.ret ?_
        conv => whnf
        cases h
        rfl
      · conv => whnf
        refine Tr.cond ?_
        conv => whnf
        refine condS_bif h (fun hb22 h => ?_) (fun hb22 h => ?_)
        · refine Tr.seq ?_
          refine Tr.region layOK ?_
          conv => whnf
          refine Tr.ret ?_
          conv => whnf
          cases h
          rfl
        · refine Tr.skip ?_
          conv => whnf
          refine Tr.seq ?_
          refine Tr.seq ?_
          refine Tr.cutQ1 ([(1, .d (.i .i64 runner_2)), (2, .pt 0 0), (4, .d (.b false)), (5, .pt 1 0), (7, .pt 2 0), (8, .d (.b r_14)), (10, .pt 3 0), (11, .d (.b r_18)), (52, .d (.b ((r_11 != 0) || (r_10.Kind == 3))))]) ([some (.var [.d (.ls (List.map eTSegment f_1.Clocks.Segments)), .d (.ls (List.map (eL eI) f_1.Clocks.Far)), .d (.ls (List.map eTPair f_1.Pairs)), .d (.ls (List.map eTRunner f_1.Runners))]), some (.var [.d (.i .i64 r_10.Bib), .d (.i .i64 r_10.Kind), .d (.i .i64 r_10.Lo), .d (.i .i64 r_10.Hi), .d (.b r_10.Out)]), some (.var [.d (.i .i64 r_13.World), .d (.ls (List.map eI r_13.Offsets)), .d (.ls (List.map eTChoice r_13.Choices))]), some (.var [.d (.i .i64 r_17.World), .d (.ls (List.map eI r_17.Offsets)), .d (.ls (List.map eTChoice r_17.Choices))])]) ?_ (fun T1 H1 hw => ?_)
          · refine Tr.region layOK ?_
            conv => whnf
            refine condS_mk (fun hb24 => ?_) (fun hb24 => ?_)
            · conv => whnf
              exact Wk.mk2 [0, 1, 2, 3] 4 rfl rfl (by decide) rfl ⟨⟨rfl, rfl⟩, ⟨rfl, rfl⟩, ⟨rfl, rfl⟩, ⟨rfl, rfl⟩, trivial⟩ ⟨⟨rfl, rfl⟩, ⟨rfl, rfl⟩, ⟨rfl, rfl⟩, ⟨rfl, rfl⟩, ⟨rfl, rfl⟩, ⟨rfl, rfl⟩, ⟨rfl, rfl⟩, ⟨rfl, rfl⟩, ⟨rfl, (by first | rfl | (simp only [↓hb6, ↓hb9, ↓hb21, ↓hb22, ↓hb24, cond_true, cond_false, Bool.true_or, Bool.or_true, Bool.false_or, Bool.or_false, Bool.true_and, Bool.and_true, Bool.false_and, Bool.and_false, Bool.not_true, Bool.not_false]; done) | (simp only [↓hb6, ↓hb9, ↓hb21, ↓hb22, ↓hb24, cond_true, cond_false, Bool.true_or, Bool.or_true, Bool.false_or, Bool.or_false, Bool.true_and, Bool.and_true, Bool.false_and, Bool.and_false, Bool.not_true, Bool.not_false]; rfl))⟩, trivial⟩
            · conv => whnf
              exact Wk.mk2 [0, 1, 2, 3] 4 rfl rfl (by decide) rfl ⟨⟨rfl, rfl⟩, ⟨rfl, rfl⟩, ⟨rfl, rfl⟩, ⟨rfl, rfl⟩, trivial⟩ ⟨⟨rfl, rfl⟩, ⟨rfl, rfl⟩, ⟨rfl, rfl⟩, ⟨rfl, rfl⟩, ⟨rfl, rfl⟩, ⟨rfl, rfl⟩, ⟨rfl, rfl⟩, ⟨rfl, rfl⟩, ⟨rfl, (by first | rfl | (simp only [↓hb6, ↓hb9, ↓hb21, ↓hb22, ↓hb24, cond_true, cond_false, Bool.true_or, Bool.or_true, Bool.false_or, Bool.or_false, Bool.true_and, Bool.and_true, Bool.false_and, Bool.and_false, Bool.not_true, Bool.not_false]; done) | (simp only [↓hb6, ↓hb9, ↓hb21, ↓hb22, ↓hb24, cond_true, cond_false, Bool.true_or, Bool.or_true, Bool.false_or, Bool.or_false, Bool.true_and, Bool.and_true, Bool.false_and, Bool.and_false, Bool.not_true, Bool.not_false]; rfl))⟩, trivial⟩
          · conv => whnf
            refine Tr.weak hw ?_
            refine Tr.cond ?_
            conv => whnf
            refine condS_bif h (fun hb25 h => ?_) (fun hb25 h => ?_)
            · refine Tr.seq ?_
              obtain ⟨v_26, hv27, h⟩ := bind_some h
              refine Tr.cutQ1 ([(1, .d (.i .i64 runner_2)), (2, .pt 0 0), (4, .d (.b v_26)), (5, .pt 1 0), (7, .pt 2 0), (8, .d (.b r_14)), (10, .pt 3 0), (11, .d (.b r_18))]) ([some (.var [.d (.ls (List.map eTSegment f_1.Clocks.Segments)), .d (.ls (List.map (eL eI) f_1.Clocks.Far)), .d (.ls (List.map eTPair f_1.Pairs)), .d (.ls (List.map eTRunner f_1.Runners))]), some (.var [.d (.i .i64 r_10.Bib), .d (.i .i64 r_10.Kind), .d (.i .i64 r_10.Lo), .d (.i .i64 r_10.Hi), .d (.b r_10.Out)]), some (.var [.d (.i .i64 r_13.World), .d (.ls (List.map eI r_13.Offsets)), .d (.ls (List.map eTChoice r_13.Choices))]), some (.var [.d (.i .i64 r_17.World), .d (.ls (List.map eI r_17.Offsets)), .d (.ls (List.map eTChoice r_17.Choices))])]) ?_ (fun T1 H1 hw => ?_)
              · replace h := hv27; clear hv27
                refine Tr.region layOK ?_
                conv => whnf
                refine condS_bif h (fun hb28 h => ?_) (fun hb28 h => ?_)
                · conv => whnf
                  refine condS_bif h (fun hb29 h => ?_) (fun hb29 h => ?_)
                  · conv => whnf
                    obtain ⟨r_30, hc31, h⟩ := bind_some h
                    refine PC.ecall (s_stopwatchlaw25_ranksZero r_13 r_30 hc31) (fun rs hrs => ?_)
                    subst hrs
                    conv => whnf
                    refine condS_bif h (fun hb32 h => ?_) (fun hb32 h => ?_)
                    · conv => whnf
                      obtain ⟨r_33, hc34, h⟩ := bind_some h
                      refine PC.ecall (s_stopwatchlaw25_ranksZero r_17 r_33 hc34) (fun rs hrs => ?_)
                      subst hrs
                      conv => whnf
                      cases h
                      exact Wk.mk2 [0, 1, 2, 3] 4 rfl rfl (by decide) rfl ⟨⟨rfl, rfl⟩, ⟨rfl, rfl⟩, ⟨rfl, rfl⟩, ⟨rfl, rfl⟩, trivial⟩ ⟨⟨rfl, rfl⟩, ⟨rfl, rfl⟩, ⟨rfl, rfl⟩, ⟨rfl, rfl⟩, ⟨rfl, rfl⟩, ⟨rfl, rfl⟩, ⟨rfl, rfl⟩, ⟨rfl, rfl⟩, trivial⟩
                    · conv => whnf
                      cases h
                      exact Wk.mk2 [0, 1, 2, 3] 4 rfl rfl (by decide) rfl ⟨⟨rfl, rfl⟩, ⟨rfl, rfl⟩, ⟨rfl, rfl⟩, ⟨rfl, rfl⟩, trivial⟩ ⟨⟨rfl, rfl⟩, ⟨rfl, rfl⟩, ⟨rfl, rfl⟩, ⟨rfl, rfl⟩, ⟨rfl, rfl⟩, ⟨rfl, rfl⟩, ⟨rfl, rfl⟩, ⟨rfl, rfl⟩, trivial⟩
                  · conv => whnf
                    cases h
                    exact Wk.mk2 [0, 1, 2, 3] 4 rfl rfl (by decide) rfl ⟨⟨rfl, rfl⟩, ⟨rfl, rfl⟩, ⟨rfl, rfl⟩, ⟨rfl, rfl⟩, trivial⟩ ⟨⟨rfl, rfl⟩, ⟨rfl, rfl⟩, ⟨rfl, rfl⟩, ⟨rfl, rfl⟩, ⟨rfl, rfl⟩, ⟨rfl, rfl⟩, ⟨rfl, rfl⟩, ⟨rfl, rfl⟩, trivial⟩
                · conv => whnf
                  cases h
                  exact Wk.mk2 [0, 1, 2, 3] 4 rfl rfl (by decide) rfl ⟨⟨rfl, rfl⟩, ⟨rfl, rfl⟩, ⟨rfl, rfl⟩, ⟨rfl, rfl⟩, trivial⟩ ⟨⟨rfl, rfl⟩, ⟨rfl, rfl⟩, ⟨rfl, rfl⟩, ⟨rfl, rfl⟩, ⟨rfl, rfl⟩, ⟨rfl, rfl⟩, ⟨rfl, rfl⟩, ⟨rfl, rfl⟩, trivial⟩
              · clear hv27
                conv => whnf
                refine Tr.weak hw ?_
                refine Tr.ret ?_
                conv => whnf
                cases h
                rfl
            · refine Tr.skip ?_
              conv => whnf
              refine Tr.seq ?_
              obtain ⟨v_35, hv36, h⟩ := bind_some h
              refine Tr.cutQ1 ([(4, .d (.b v_35))]) ([]) ?_ (fun T1 H1 hw => ?_)
              · replace h := hv36; clear hv36
                refine Tr.draw (DrawP.seqQ layOK mixed [] [(0, 1), (1, 1), (2, 1), (3, 1), (4, 1), (5, 3), (6, 5), (7, 1), (8, 1), (9, 1), (10, 3), (11, 6), (12, 1), (13, 1), (14, 1), (15, 3), (16, 5), (17, 1), (18, 1), (19, 4), (20, 4), (21, 1), (22, 1), (23, 1), (24, 3), (25, 6), (26, 1), (27, 1), (28, 4), (29, 4), (30, 1), (31, 1), (32, 1)] (by kernel_rfl) ?_)
                conv => whnf
                refine ⟨_, (fun H => by (conv => whnf); (exact ⟨rfl, rfl⟩)), ?_⟩
                conv => whnf
                refine ⟨_, (fun H => by (conv => whnf); (exact ⟨rfl, rfl⟩)), ?_⟩
                conv => whnf
                refine condS_bif h (fun hb37 h => ?_) (fun hb37 h => ?_)
                · conv => whnf
                  refine ⟨_, (fun H => by (conv => whnf); (exact ⟨rfl, rfl⟩)), ?_⟩
                  conv => whnf
                  refine ⟨_, (fun H => by (conv => whnf); (exact ⟨rfl, rfl⟩)), ?_⟩
                  conv => whnf
                  refine ⟨_, (fun H => by (conv => whnf); (exact ⟨rfl, rfl⟩)), ?_⟩
                  conv => whnf
                  refine condS_bif h (fun hb38 h => ?_) (fun hb38 h => ?_)
                  · conv => whnf
                    refine ⟨_, ⟨rfl, rfl, (by (conv => whnf); (exact ⟨rfl, rfl⟩))⟩, ?_⟩
                    conv => whnf
                    refine ⟨_, ⟨rfl, rfl, (by (conv => whnf); (exact ⟨rfl, rfl⟩))⟩, ?_⟩
                    conv => whnf
                    obtain ⟨r_39, hc40, h⟩ := bind_some h
                    refine ⟨_, (fun H => by (conv => whnf); (refine PC.ecall (s_stopwatchref25_Admissible f_1 r_13 r_39 hc40) (fun rs hrs => ?_)); (subst hrs); (conv => whnf); (exact ⟨rfl, rfl⟩)), ?_⟩
                    conv => whnf
                    refine ⟨_, (fun H => by (conv => whnf); (exact ⟨rfl, rfl⟩)), ?_⟩
                    conv => whnf
                    refine ⟨_, (fun H => by (conv => whnf); (exact ⟨rfl, rfl⟩)), ?_⟩
                    conv => whnf
                    refine condS_bif h (fun hb41 h => ?_) (fun hb41 h => ?_)
                    · conv => whnf
                      refine ⟨_, ⟨rfl, rfl, (by (conv => whnf); (exact ⟨rfl, rfl⟩))⟩, ?_⟩
                      conv => whnf
                      refine ⟨_, ⟨rfl, rfl, (by (conv => whnf); (exact ⟨rfl, rfl⟩))⟩, ?_⟩
                      conv => whnf
                      obtain ⟨r_42, hc43, h⟩ := bind_some h
                      refine ⟨_, (fun H => by (conv => whnf); (refine PC.ecall (s_stopwatchref25_Admissible f_1 r_17 r_42 hc43) (fun rs hrs => ?_)); (subst hrs); (conv => whnf); (exact ⟨rfl, rfl⟩)), ?_⟩
                      conv => whnf
                      refine ⟨_, (fun H => by (conv => whnf); (exact ⟨rfl, rfl⟩)), ?_⟩
                      conv => whnf
                      refine ⟨_, (fun H => by (conv => whnf); (exact ⟨rfl, rfl⟩)), ?_⟩
                      conv => whnf
                      refine condS_bif h (fun hb44 h => ?_) (fun hb44 h => ?_)
                      · conv => whnf
                        refine ⟨_, ⟨rfl, rfl, (by (conv => whnf); (exact ⟨rfl, rfl⟩))⟩, ?_⟩
                        conv => whnf
                        refine ⟨_, ⟨rfl, rfl, (by (conv => whnf); (exact ⟨rfl, rfl⟩))⟩, ?_⟩
                        conv => whnf
                        refine ⟨_, (fun H => by (conv => whnf); (exact ⟨rfl, rfl⟩)), ?_⟩
                        conv => whnf
                        obtain ⟨r_45, hc46, h⟩ := bind_some h
                        refine ⟨_, (fun H => by (conv => whnf); (refine PC.ecall (s_stopwatchref25_Rank f_1 r_13 runner_2 r_45 hc46) (fun rs hrs => ?_)); (subst hrs); (conv => whnf); (exact ⟨rfl, rfl⟩)), ?_⟩
                        conv => whnf
                        refine ⟨_, ⟨rfl, rfl, (by (conv => whnf); (exact ⟨rfl, rfl⟩))⟩, ?_⟩
                        conv => whnf
                        refine ⟨_, ⟨rfl, rfl, (by (conv => whnf); (exact ⟨rfl, rfl⟩))⟩, ?_⟩
                        conv => whnf
                        refine ⟨_, (fun H => by (conv => whnf); (exact ⟨rfl, rfl⟩)), ?_⟩
                        conv => whnf
                        refine ⟨_, (fun H => by (conv => whnf); (exact ⟨rfl, rfl⟩)), ?_⟩
                        conv => whnf
                        refine ⟨_, (fun H => by (conv => whnf); (exact ⟨rfl, rfl⟩)), ?_⟩
                        conv => whnf
                        refine condS_bif h (fun hb47 h => ?_) (fun hb47 h => ?_)
                        · conv => whnf
                          refine ⟨_, ⟨rfl, rfl, (by (conv => whnf); (exact ⟨rfl, rfl⟩))⟩, ?_⟩
                          conv => whnf
                          refine ⟨_, ⟨rfl, rfl, (by (conv => whnf); (exact ⟨rfl, rfl⟩))⟩, ?_⟩
                          conv => whnf
                          refine ⟨_, (fun H => by (conv => whnf); (exact ⟨rfl, rfl⟩)), ?_⟩
                          conv => whnf
                          obtain ⟨r_48, hc49, h⟩ := bind_some h
                          refine ⟨_, (fun H => by (conv => whnf); (refine PC.ecall (s_stopwatchref25_Rank f_1 r_17 runner_2 r_48 hc49) (fun rs hrs => ?_)); (subst hrs); (conv => whnf); (exact ⟨rfl, rfl⟩)), ?_⟩
                          conv => whnf
                          refine ⟨_, ⟨rfl, rfl, (by (conv => whnf); (exact ⟨rfl, rfl⟩))⟩, ?_⟩
                          conv => whnf
                          refine ⟨_, ⟨rfl, rfl, (by (conv => whnf); (exact ⟨rfl, rfl⟩))⟩, ?_⟩
                          conv => whnf
                          refine ⟨_, (fun H => by (conv => whnf); (exact ⟨rfl, rfl⟩)), ?_⟩
                          conv => whnf
                          refine ⟨_, (fun H => by (conv => whnf); (exact ⟨rfl, rfl⟩)), ?_⟩
                          conv => whnf
                          refine ⟨_, (fun H => by (conv => whnf); (exact ⟨rfl, rfl⟩)), ?_⟩
                          conv => whnf
                          cases h
                          exact Wk.mk2 [] 4 rfl rfl (by decide) rfl trivial ⟨⟨rfl, rfl⟩, trivial⟩
                        · conv => whnf
                          refine ⟨_, (fun H => by (conv => whnf); (exact ⟨rfl, rfl⟩)), ?_⟩
                          conv => whnf
                          refine ⟨_, (fun H => by (conv => whnf); (exact ⟨rfl, rfl⟩)), ?_⟩
                          conv => whnf
                          cases h
                          exact Wk.mk2 [] 4 rfl rfl (by decide) rfl trivial ⟨⟨rfl, rfl⟩, trivial⟩
                      · conv => whnf
                        refine ⟨_, (fun H => by (conv => whnf); (exact ⟨rfl, rfl⟩)), ?_⟩
                        conv => whnf
                        refine ⟨_, (fun H => by (conv => whnf); (exact ⟨rfl, rfl⟩)), ?_⟩
                        conv => whnf
                        refine ⟨_, (fun H => by (conv => whnf); (exact ⟨rfl, rfl⟩)), ?_⟩
                        conv => whnf
                        refine ⟨_, (fun H => by (conv => whnf); (exact ⟨rfl, rfl⟩)), ?_⟩
                        conv => whnf
                        cases h
                        exact Wk.mk2 [] 4 rfl rfl (by decide) rfl trivial ⟨⟨rfl, rfl⟩, trivial⟩
                    · conv => whnf
                      refine ⟨_, (fun H => by (conv => whnf); (exact ⟨rfl, rfl⟩)), ?_⟩
                      conv => whnf
                      refine ⟨_, (fun H => by (conv => whnf); (exact ⟨rfl, rfl⟩)), ?_⟩
                      conv => whnf
                      refine ⟨_, (fun H => by (conv => whnf); (exact ⟨rfl, rfl⟩)), ?_⟩
                      conv => whnf
                      refine ⟨_, (fun H => by (conv => whnf); (exact ⟨rfl, rfl⟩)), ?_⟩
                      conv => whnf
                      refine ⟨_, (fun H => by (conv => whnf); (exact ⟨rfl, rfl⟩)), ?_⟩
                      conv => whnf
                      refine ⟨_, (fun H => by (conv => whnf); (exact ⟨rfl, rfl⟩)), ?_⟩
                      conv => whnf
                      cases h
                      exact Wk.mk2 [] 4 rfl rfl (by decide) rfl trivial ⟨⟨rfl, rfl⟩, trivial⟩
                  · conv => whnf
                    refine ⟨_, (fun H => by (conv => whnf); (exact ⟨rfl, rfl⟩)), ?_⟩
                    conv => whnf
                    refine ⟨_, (fun H => by (conv => whnf); (exact ⟨rfl, rfl⟩)), ?_⟩
                    conv => whnf
                    refine ⟨_, (fun H => by (conv => whnf); (exact ⟨rfl, rfl⟩)), ?_⟩
                    conv => whnf
                    refine ⟨_, (fun H => by (conv => whnf); (exact ⟨rfl, rfl⟩)), ?_⟩
                    conv => whnf
                    refine ⟨_, (fun H => by (conv => whnf); (exact ⟨rfl, rfl⟩)), ?_⟩
                    conv => whnf
                    refine ⟨_, (fun H => by (conv => whnf); (exact ⟨rfl, rfl⟩)), ?_⟩
                    conv => whnf
                    refine ⟨_, (fun H => by (conv => whnf); (exact ⟨rfl, rfl⟩)), ?_⟩
                    conv => whnf
                    refine ⟨_, (fun H => by (conv => whnf); (exact ⟨rfl, rfl⟩)), ?_⟩
                    conv => whnf
                    cases h
                    exact Wk.mk2 [] 4 rfl rfl (by decide) rfl trivial ⟨⟨rfl, rfl⟩, trivial⟩
                · conv => whnf
                  refine ⟨_, (fun H => by (conv => whnf); (exact ⟨rfl, rfl⟩)), ?_⟩
                  conv => whnf
                  refine ⟨_, (fun H => by (conv => whnf); (exact ⟨rfl, rfl⟩)), ?_⟩
                  conv => whnf
                  refine ⟨_, (fun H => by (conv => whnf); (exact ⟨rfl, rfl⟩)), ?_⟩
                  conv => whnf
                  refine ⟨_, (fun H => by (conv => whnf); (exact ⟨rfl, rfl⟩)), ?_⟩
                  conv => whnf
                  refine ⟨_, (fun H => by (conv => whnf); (exact ⟨rfl, rfl⟩)), ?_⟩
                  conv => whnf
                  refine ⟨_, (fun H => by (conv => whnf); (exact ⟨rfl, rfl⟩)), ?_⟩
                  conv => whnf
                  refine ⟨_, (fun H => by (conv => whnf); (exact ⟨rfl, rfl⟩)), ?_⟩
                  conv => whnf
                  refine ⟨_, (fun H => by (conv => whnf); (exact ⟨rfl, rfl⟩)), ?_⟩
                  conv => whnf
                  refine ⟨_, (fun H => by (conv => whnf); (exact ⟨rfl, rfl⟩)), ?_⟩
                  conv => whnf
                  refine ⟨_, (fun H => by (conv => whnf); (exact ⟨rfl, rfl⟩)), ?_⟩
                  conv => whnf
                  cases h
                  exact Wk.mk2 [] 4 rfl rfl (by decide) rfl trivial ⟨⟨rfl, rfl⟩, trivial⟩
              · clear hv36
                conv => whnf
                refine Tr.weak hw ?_
                refine Tr.ret ?_
                conv => whnf
                cases h
                rfl
end Go.Proofs.Try
