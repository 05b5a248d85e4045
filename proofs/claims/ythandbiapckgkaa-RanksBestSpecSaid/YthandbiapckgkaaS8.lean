/- Contracts of functions, by program (gen.py). No condition. -/
import Derived.Test.YthandbiapckgkaaL
import Derived.Test.YthandbiapckgkaaM
import Derived.Test.YthandbiapckgkaaS7
namespace Go.Proofs.Try
open Go Go.Abs Go.Stop
set_option maxRecDepth 8000
set_option linter.unusedVariables false
set_option linter.unusedSimpArgs false

theorem s_stopwatchref24_Check (f_1 : TField) (r_2 : Int) (h : m_stopwatchref24_Check f_1 = some r_2) :
    PC prog 15 [(eTField f_1)] (fun rs => rs = [(.i .i64 r_2)]) := by
  refine PC.of_tr (cx := ⟨182, none, lay, 0⟩) layOK func15 rfl rfl rfl rfl rfl (by simp [f15]) ?_
  unfold m_stopwatchref24_Check at h
  refine Tr.seq ?_
  refine Tr.region layOK ?_
  conv => whnf
  refine Tr.seq ?_
  refine Tr.seq ?_
  obtain ⟨v_3, hv4, h⟩ := bind_some h
  refine Tr.cutQ1 ([(1, .pt 0 0), (2, .d (.i .i64 0)), (30, .d (.b v_3))]) ([some (.var [.d (.ls (List.map eTSegment f_1.Clocks.Segments)), .d (.ls (List.map (eL eI) f_1.Clocks.Far)), .d (.ls (List.map eTPair f_1.Pairs)), .d (.ls (List.map eTRunner f_1.Runners))])]) ?_ (fun T1 H1 hw => ?_)
  · replace h := hv4; clear hv4
    refine Tr.region layOK ?_
    conv => whnf
    obtain ⟨r_5, hc6, h⟩ := bind_some h
    refine PC.ecall (s_stopwatchref16_Check f_1.Clocks r_5 hc6) (fun rs hrs => ?_)
    subst hrs
    conv => whnf
    refine condS_bif h (fun hb7 h => ?_) (fun hb7 h => ?_)
    · conv => whnf
      cases h
      exact Wk.mk2 [0] 1 rfl rfl (by decide) rfl ⟨⟨rfl, rfl⟩, trivial⟩ ⟨⟨rfl, rfl⟩, ⟨rfl, rfl⟩, ⟨rfl, rfl⟩, trivial⟩
    · conv => whnf
      refine lnS_map ?_
      conv => whnf
      refine condS_bif h (fun hb8 h => ?_) (fun hb8 h => ?_)
      · conv => whnf
        cases h
        exact Wk.mk2 [0] 1 rfl rfl (by decide) rfl ⟨⟨rfl, rfl⟩, trivial⟩ ⟨⟨rfl, rfl⟩, ⟨rfl, rfl⟩, ⟨rfl, rfl⟩, trivial⟩
      · conv => whnf
        refine lnS_map ?_
        conv => whnf
        refine condS_bif h (fun hb9 h => ?_) (fun hb9 h => ?_)
        · conv => whnf
          cases h
          exact Wk.mk2 [0] 1 rfl rfl (by decide) rfl ⟨⟨rfl, rfl⟩, trivial⟩ ⟨⟨rfl, rfl⟩, ⟨rfl, rfl⟩, ⟨rfl, rfl⟩, trivial⟩
        · conv => whnf
          refine lnS_map ?_
          conv => whnf
          cases h
          exact Wk.mk2 [0] 1 rfl rfl (by decide) rfl ⟨⟨rfl, rfl⟩, trivial⟩ ⟨⟨rfl, rfl⟩, ⟨rfl, rfl⟩, ⟨rfl, rfl⟩, trivial⟩
  · clear hv4
    conv => whnf
    refine Tr.weak hw ?_
    refine Tr.cond ?_
    conv => whnf
    refine condS_bif h (fun hb10 h => ?_) (fun hb10 h => ?_)
    · refine Tr.seq ?_
      refine Tr.region layOK ?_
      conv => whnf
      refine Tr.ret ?_
      conv => whnf
      cases h
      rfl
    · refine Tr.skip ?_
      conv => whnf
      refine Tr.seq ?_
      refine Tr.seq ?_
      refine Tr.region layOK ?_
      conv => whnf
      refine Tr.cutQ (α := Unit) (fun s => ([(1, .pt 0 0), (2, .d (.i .i64 0))], [some (.var [.d (.ls (List.map eTSegment f_1.Clocks.Segments)), .d (.ls (List.map (eL eI) f_1.Clocks.Far)), .d (.ls (List.map eTPair f_1.Pairs)), .d (.ls (List.map eTRunner f_1.Runners))])])) (fun s => m_stopwatchref24_Check_J8 f_1 s = some r_2) ?_ ?_
      · refine Tr.block ?_
        refine Tr.loopM (σ := Int) (fun n s => m_stopwatchref24_Check_L1 f_1 (m_stopwatchref24_Check_J8 f_1) n s) r_2 (fun s => ([(1, .pt 0 0), (2, .d (.i .i64 0)), (3, .d (.i .i64 s))], [some (.var [.d (.ls (List.map eTSegment f_1.Clocks.Segments)), .d (.ls (List.map (eL eI) f_1.Clocks.Far)), .d (.ls (List.map eTPair f_1.Pairs)), .d (.ls (List.map eTRunner f_1.Runners))])])) (((((f_1.Pairs).length : Int)) - 0 : Int).toNat + 1) (0) h (fun s => rfl) (Wk.mk2 [0] 1 rfl rfl (by decide) rfl ⟨⟨rfl, rfl⟩, trivial⟩ ⟨⟨rfl, rfl⟩, ⟨rfl, rfl⟩, ⟨rfl, rfl⟩, trivial⟩) ?_
        clear h
        rintro n_13 i_12 h
        replace h : m_stopwatchref24_Check_L1 f_1 (m_stopwatchref24_Check_J8 f_1) (n_13 + 1) i_12 = some r_2 := h
        rw [m_stopwatchref24_Check_L1] at h
        refine Tr.seq ?_
        refine Tr.seq ?_
        refine Tr.region layOK ?_
        conv => whnf
        refine lnS_map ?_
        conv => whnf
        refine Tr.cond ?_
        conv => whnf
        refine condS_bif h (fun hb16 h => ?_) (fun hb16 h => ?_)
        · refine Tr.skip ?_
          conv => whnf
          refine Tr.seq ?_
          refine Tr.block ?_
          refine Tr.seq ?_
          refine Tr.region layOK ?_
          conv => whnf
          obtain ⟨x_17, hx_17, h⟩ := bind_some h
          refine ixP_of hx_17 ?_
          conv => whnf
          refine Tr.seq ?_
          refine Tr.seq ?_
          refine Tr.region layOK ?_
          conv => whnf
          refine condS_bif h (fun hb18 h => ?_) (fun hb18 h => ?_)
          · conv => whnf
            refine Tr.cond ?_
            conv => whnf
            refine Tr.seq ?_
            refine Tr.region layOK ?_
            conv => whnf
            refine Tr.ret ?_
            conv => whnf
            cases h
            rfl
          · conv => whnf
            refine condS_bif h (fun hb19 h => ?_) (fun hb19 h => ?_)
            · conv => whnf
              refine Tr.cond ?_
              conv => whnf
              refine Tr.seq ?_
              refine Tr.region layOK ?_
              conv => whnf
              refine Tr.ret ?_
              conv => whnf
              cases h
              rfl
            · conv => whnf
              refine Tr.cond ?_
              conv => whnf
              refine condS_bif h (fun hb20 h => ?_) (fun hb20 h => ?_)
              · refine Tr.seq ?_
                refine Tr.region layOK ?_
                conv => whnf
                refine Tr.ret ?_
                conv => whnf
                cases h
                rfl
              · refine Tr.skip ?_
                conv => whnf
                refine Tr.seq ?_
                obtain ⟨v_21, hv22, h⟩ := bind_some h
                refine Tr.cutQ1 ([(1, .pt 0 0), (2, .d (.i .i64 0)), (3, .d (.i .i64 i_12)), (95, .d (.b v_21))]) ([some (.var [.d (.ls (List.map eTSegment f_1.Clocks.Segments)), .d (.ls (List.map (eL eI) f_1.Clocks.Far)), .d (.ls (List.map eTPair f_1.Pairs)), .d (.ls (List.map eTRunner f_1.Runners))])]) ?_ (fun T1 H1 hw => ?_)
                · replace h := hv22; clear hv22
                  refine Tr.draw (DrawP.seqQ layOK mixed [] [(0, 1), (1, 1), (2, 1), (3, 3), (4, 3), (5, 1), (6, 1), (7, 2), (8, 2), (9, 2), (10, 4), (11, 4), (12, 1), (13, 1), (14, 3), (15, 3), (16, 1), (17, 1), (18, 2), (19, 2), (20, 2), (21, 4), (22, 4), (23, 1), (24, 1), (25, 3), (26, 3), (27, 1), (28, 1), (29, 2), (30, 2), (31, 2), (32, 4), (33, 4), (34, 1), (35, 1), (36, 1), (37, 1)] (by kernel_rfl) ?_)
                  conv => whnf
                  refine ⟨_, (fun H => by (conv => whnf); (exact ⟨rfl, rfl⟩)), ?_⟩
                  conv => whnf
                  refine ⟨_, (fun H => by (conv => whnf); (exact ⟨rfl, rfl⟩)), ?_⟩
                  conv => whnf
                  refine ⟨_, (fun H => by (conv => whnf); (exact ⟨rfl, rfl⟩)), ?_⟩
                  conv => whnf
                  refine condS_bif h (fun hb23 h => ?_) (fun hb23 h => ?_)
                  · conv => whnf
                    refine ⟨_, ⟨rfl, rfl, (by (conv => whnf); (exact ⟨rfl, rfl⟩))⟩, ?_⟩
                    conv => whnf
                    refine ⟨_, ⟨rfl, rfl, (by (conv => whnf); (exact ⟨rfl, rfl⟩))⟩, ?_⟩
                    conv => whnf
                    refine ⟨_, (fun H => by (conv => whnf); (exact ⟨rfl, rfl⟩)), ?_⟩
                    conv => whnf
                    refine ⟨_, (fun H => by (conv => whnf); (refine arS_raw ?_); (conv => whnf); (exact ⟨rfl, rfl⟩)), ?_⟩
                    conv => whnf
                    obtain ⟨x_24, hx_24, h⟩ := bind_some h
                    refine ⟨_, ⟨rfl, rfl, (by (conv => whnf); (refine ixP_of hx_24 ?_); (conv => whnf); (exact ⟨rfl, rfl⟩))⟩, ?_⟩
                    conv => whnf
                    refine ⟨_, ⟨rfl, rfl, (by (conv => whnf); (exact ⟨rfl, rfl⟩))⟩, ?_⟩
                    conv => whnf
                    refine ⟨_, ⟨rfl, rfl, (by (conv => whnf); (exact ⟨rfl, rfl⟩))⟩, ?_⟩
                    conv => whnf
                    refine ⟨_, ⟨rfl, rfl, (by (conv => whnf); (exact ⟨rfl, rfl⟩))⟩, ?_⟩
                    conv => whnf
                    refine ⟨_, ⟨rfl, rfl, (by (conv => whnf); (exact ⟨rfl, rfl⟩))⟩, ?_⟩
                    conv => whnf
                    refine ⟨_, (fun H => by (conv => whnf); (exact ⟨rfl, rfl⟩)), ?_⟩
                    conv => whnf
                    refine ⟨_, (fun H => by (conv => whnf); (exact ⟨rfl, rfl⟩)), ?_⟩
                    conv => whnf
                    refine condS_bif h (fun hb25 h => ?_) (fun hb25 h => ?_)
                    · conv => whnf
                      refine ⟨_, (fun H => by (conv => whnf); (exact ⟨rfl, rfl⟩)), ?_⟩
                      conv => whnf
                      refine ⟨_, (fun H => by (conv => whnf); (exact ⟨rfl, rfl⟩)), ?_⟩
                      conv => whnf
                      cases h
                      exact Wk.mk2 [0] 2 rfl rfl (by decide) rfl ⟨⟨rfl, rfl⟩, trivial⟩ ⟨⟨rfl, rfl⟩, ⟨rfl, rfl⟩, ⟨rfl, rfl⟩, ⟨rfl, rfl⟩, trivial⟩
                    · conv => whnf
                      refine ⟨_, ⟨rfl, rfl, (by (conv => whnf); (exact ⟨rfl, rfl⟩))⟩, ?_⟩
                      conv => whnf
                      refine ⟨_, ⟨rfl, rfl, (by (conv => whnf); (exact ⟨rfl, rfl⟩))⟩, ?_⟩
                      conv => whnf
                      refine ⟨_, (fun H => by (conv => whnf); (exact ⟨rfl, rfl⟩)), ?_⟩
                      conv => whnf
                      refine ⟨_, (fun H => by (conv => whnf); (refine arS_raw ?_); (conv => whnf); (exact ⟨rfl, rfl⟩)), ?_⟩
                      conv => whnf
                      obtain ⟨x_26, hx_26, h⟩ := bind_some h
                      refine ⟨_, ⟨rfl, rfl, (by (conv => whnf); (refine ixP_of hx_26 ?_); (conv => whnf); (exact ⟨rfl, rfl⟩))⟩, ?_⟩
                      conv => whnf
                      refine ⟨_, ⟨rfl, rfl, (by (conv => whnf); (exact ⟨rfl, rfl⟩))⟩, ?_⟩
                      conv => whnf
                      refine ⟨_, ⟨rfl, rfl, (by (conv => whnf); (exact ⟨rfl, rfl⟩))⟩, ?_⟩
                      conv => whnf
                      refine ⟨_, ⟨rfl, rfl, (by (conv => whnf); (exact ⟨rfl, rfl⟩))⟩, ?_⟩
                      conv => whnf
                      refine ⟨_, ⟨rfl, rfl, (by (conv => whnf); (exact ⟨rfl, rfl⟩))⟩, ?_⟩
                      conv => whnf
                      refine ⟨_, (fun H => by (conv => whnf); (exact ⟨rfl, rfl⟩)), ?_⟩
                      conv => whnf
                      refine ⟨_, (fun H => by (conv => whnf); (exact ⟨rfl, rfl⟩)), ?_⟩
                      conv => whnf
                      refine condS_bif h (fun hb27 h => ?_) (fun hb27 h => ?_)
                      · conv => whnf
                        refine ⟨_, ⟨rfl, rfl, (by (conv => whnf); (exact ⟨rfl, rfl⟩))⟩, ?_⟩
                        conv => whnf
                        refine ⟨_, ⟨rfl, rfl, (by (conv => whnf); (exact ⟨rfl, rfl⟩))⟩, ?_⟩
                        conv => whnf
                        refine ⟨_, (fun H => by (conv => whnf); (exact ⟨rfl, rfl⟩)), ?_⟩
                        conv => whnf
                        refine ⟨_, (fun H => by (conv => whnf); (refine arS_raw ?_); (conv => whnf); (exact ⟨rfl, rfl⟩)), ?_⟩
                        conv => whnf
                        obtain ⟨x_28, hx_28, h⟩ := bind_some h
                        refine ⟨_, ⟨rfl, rfl, (by (conv => whnf); (refine ixP_of hx_28 ?_); (conv => whnf); (exact ⟨rfl, rfl⟩))⟩, ?_⟩
                        conv => whnf
                        refine ⟨_, ⟨rfl, rfl, (by (conv => whnf); (exact ⟨rfl, rfl⟩))⟩, ?_⟩
                        conv => whnf
                        refine ⟨_, ⟨rfl, rfl, (by (conv => whnf); (exact ⟨rfl, rfl⟩))⟩, ?_⟩
                        conv => whnf
                        refine ⟨_, ⟨rfl, rfl, (by (conv => whnf); (exact ⟨rfl, rfl⟩))⟩, ?_⟩
                        conv => whnf
                        refine ⟨_, ⟨rfl, rfl, (by (conv => whnf); (exact ⟨rfl, rfl⟩))⟩, ?_⟩
                        conv => whnf
                        refine ⟨_, (fun H => by (conv => whnf); (exact ⟨rfl, rfl⟩)), ?_⟩
                        conv => whnf
                        refine ⟨_, (fun H => by (conv => whnf); (exact ⟨rfl, rfl⟩)), ?_⟩
                        conv => whnf
                        refine ⟨_, (fun H => by (conv => whnf); (exact ⟨rfl, rfl⟩)), ?_⟩
                        conv => whnf
                        refine ⟨_, (fun H => by (conv => whnf); (exact ⟨rfl, rfl⟩)), ?_⟩
                        conv => whnf
                        cases h
                        exact Wk.mk2 [0] 2 rfl rfl (by decide) rfl ⟨⟨rfl, rfl⟩, trivial⟩ ⟨⟨rfl, rfl⟩, ⟨rfl, rfl⟩, ⟨rfl, rfl⟩, ⟨rfl, rfl⟩, trivial⟩
                      · conv => whnf
                        refine ⟨_, (fun H => by (conv => whnf); (exact ⟨rfl, rfl⟩)), ?_⟩
                        conv => whnf
                        refine ⟨_, (fun H => by (conv => whnf); (exact ⟨rfl, rfl⟩)), ?_⟩
                        conv => whnf
                        refine ⟨_, (fun H => by (conv => whnf); (exact ⟨rfl, rfl⟩)), ?_⟩
                        conv => whnf
                        cases h
                        exact Wk.mk2 [0] 2 rfl rfl (by decide) rfl ⟨⟨rfl, rfl⟩, trivial⟩ ⟨⟨rfl, rfl⟩, ⟨rfl, rfl⟩, ⟨rfl, rfl⟩, ⟨rfl, rfl⟩, trivial⟩
                  · conv => whnf
                    refine ⟨_, (fun H => by (conv => whnf); (exact ⟨rfl, rfl⟩)), ?_⟩
                    conv => whnf
                    cases h
                    exact Wk.mk2 [0] 2 rfl rfl (by decide) rfl ⟨⟨rfl, rfl⟩, trivial⟩ ⟨⟨rfl, rfl⟩, ⟨rfl, rfl⟩, ⟨rfl, rfl⟩, ⟨rfl, rfl⟩, trivial⟩
                · clear hv22
                  conv => whnf
                  refine Tr.weak hw ?_
                  refine Tr.cond ?_
                  conv => whnf
                  refine condS_bif h (fun hb29 h => ?_) (fun hb29 h => ?_)
                  · refine Tr.seq ?_
                    refine Tr.region layOK ?_
                    conv => whnf
                    refine Tr.ret ?_
                    conv => whnf
                    cases h
                    rfl
                  · refine Tr.skip ?_
                    conv => whnf
                    refine Tr.region layOK ?_
                    conv => whnf
                    refine arS_raw ?_
                    conv => whnf
                    refine ⟨((w64 (i_12 + 1))), h, ?_⟩
                    exact Wk.mk2 [0] 1 rfl rfl (by decide) rfl ⟨⟨rfl, rfl⟩, trivial⟩ ⟨⟨rfl, rfl⟩, ⟨rfl, rfl⟩, ⟨rfl, rfl⟩, trivial⟩
        · refine Tr.exit ?_
          conv => whnf
          refine ⟨(), h, ?_⟩
          exact Wk.mk2 [0] 1 rfl rfl (by decide) rfl ⟨⟨rfl, rfl⟩, trivial⟩ ⟨⟨rfl, rfl⟩, ⟨rfl, rfl⟩, trivial⟩
      · clear h
        rintro _ h T1 H1 hw
        replace h : m_stopwatchref24_Check_J8 f_1 () = some r_2 := h
        conv => whnf
        refine Tr.weak hw ?_
        unfold m_stopwatchref24_Check_J8 at h
        refine Tr.seq ?_
        refine Tr.seq ?_
        refine Tr.region layOK ?_
        conv => whnf
        refine Tr.cutQ (α := Unit) (fun s => ([(1, .pt 0 0), (2, .d (.i .i64 0))], [some (.var [.d (.ls (List.map eTSegment f_1.Clocks.Segments)), .d (.ls (List.map (eL eI) f_1.Clocks.Far)), .d (.ls (List.map eTPair f_1.Pairs)), .d (.ls (List.map eTRunner f_1.Runners))])])) (fun s => m_stopwatchref24_Check_J7 f_1 s = some r_2) ?_ ?_
        · refine Tr.block ?_
          refine Tr.loopM (σ := Int) (fun n s => m_stopwatchref24_Check_L2 f_1 (m_stopwatchref24_Check_J7 f_1) n s) r_2 (fun s => ([(1, .pt 0 0), (2, .d (.i .i64 0)), (5, .d (.i .i64 s))], [some (.var [.d (.ls (List.map eTSegment f_1.Clocks.Segments)), .d (.ls (List.map (eL eI) f_1.Clocks.Far)), .d (.ls (List.map eTPair f_1.Pairs)), .d (.ls (List.map eTRunner f_1.Runners))])])) (((((f_1.Runners).length : Int)) - 0 : Int).toNat + 1) (0) h (fun s => rfl) (Wk.mk2 [0] 1 rfl rfl (by decide) rfl ⟨⟨rfl, rfl⟩, trivial⟩ ⟨⟨rfl, rfl⟩, ⟨rfl, rfl⟩, ⟨rfl, rfl⟩, trivial⟩) ?_
          clear h
          rintro n_32 i_31 h
          replace h : m_stopwatchref24_Check_L2 f_1 (m_stopwatchref24_Check_J7 f_1) (n_32 + 1) i_31 = some r_2 := h
          rw [m_stopwatchref24_Check_L2] at h
          refine Tr.seq ?_
          refine Tr.seq ?_
          refine Tr.region layOK ?_
          conv => whnf
          refine lnS_map ?_
          conv => whnf
          refine Tr.cond ?_
          conv => whnf
          refine condS_bif h (fun hb35 h => ?_) (fun hb35 h => ?_)
          · refine Tr.skip ?_
            conv => whnf
            refine Tr.seq ?_
            refine Tr.block ?_
            refine Tr.seq ?_
            refine Tr.region layOK ?_
            conv => whnf
            obtain ⟨x_36, hx_36, h⟩ := bind_some h
            refine ixP_of hx_36 ?_
            conv => whnf
            refine Tr.seq ?_
            refine Tr.seq ?_
            obtain ⟨v_37, hv38, h⟩ := bind_some h
            refine Tr.cutQ1 ([(1, .pt 0 0), (2, .d (.i .i64 0)), (5, .d (.i .i64 i_31)), (6, .pt 1 0), (149, .d (.b v_37))]) ([some (.var [.d (.ls (List.map eTSegment f_1.Clocks.Segments)), .d (.ls (List.map (eL eI) f_1.Clocks.Far)), .d (.ls (List.map eTPair f_1.Pairs)), .d (.ls (List.map eTRunner f_1.Runners))]), some (.var [.d (.i .i64 x_36.Bib), .d (.ls (List.map eI x_36.Keys)), .d (.ls (List.map (eL eTOutcome) x_36.Worlds))])]) ?_ (fun T1 H1 hw => ?_)
            · replace h := hv38; clear hv38
              refine Tr.draw (DrawP.seqQ layOK mixed [] [(0, 4), (1, 4), (2, 1), (3, 1), (4, 1), (5, 1), (6, 1), (7, 1), (8, 3), (9, 3), (10, 1), (11, 1), (12, 2), (13, 2), (14, 2), (15, 4), (16, 4), (17, 1), (18, 1), (19, 1), (20, 1), (21, 4), (22, 4), (23, 2), (24, 3), (25, 3), (26, 2), (27, 2), (28, 2), (29, 2), (30, 1), (31, 1), (32, 1), (33, 4), (34, 4), (35, 2), (36, 3), (37, 3), (38, 2), (39, 1), (40, 1), (41, 1)] (by kernel_rfl) ?_)
              conv => whnf
              refine ⟨_, ⟨rfl, rfl, (by (conv => whnf); (exact ⟨rfl, rfl⟩))⟩, ?_⟩
              conv => whnf
              refine ⟨_, ⟨rfl, rfl, (by (conv => whnf); (exact ⟨rfl, rfl⟩))⟩, ?_⟩
              conv => whnf
              obtain ⟨r_39, hc40, h⟩ := bind_some h
              refine ⟨_, (fun H => by (conv => whnf); (refine PC.ecall (s_stopwatchref12_Bib x_36.Bib r_39 hc40) (fun rs hrs => ?_)); (subst hrs); (conv => whnf); (exact ⟨rfl, rfl⟩)), ?_⟩
              conv => whnf
              refine ⟨_, (fun H => by (conv => whnf); (exact ⟨rfl, rfl⟩)), ?_⟩
              conv => whnf
              refine ⟨_, (fun H => by (conv => whnf); (exact ⟨rfl, rfl⟩)), ?_⟩
              conv => whnf
              refine condS_bif h (fun hb41 h => ?_) (fun hb41 h => ?_)
              · conv => whnf
                refine ⟨_, (fun H => by (conv => whnf); (exact ⟨rfl, rfl⟩)), ?_⟩
                conv => whnf
                refine ⟨_, (fun H => by (conv => whnf); (exact ⟨rfl, rfl⟩)), ?_⟩
                conv => whnf
                refine ⟨_, (fun H => by (conv => whnf); (exact ⟨rfl, rfl⟩)), ?_⟩
                conv => whnf
                refine ⟨_, (fun H => by (conv => whnf); (exact ⟨rfl, rfl⟩)), ?_⟩
                conv => whnf
                refine ⟨_, (fun H => by (conv => whnf); (exact ⟨rfl, rfl⟩)), ?_⟩
                conv => whnf
                cases h
                exact Wk.mk2 [0, 1] 2 rfl rfl (by decide) rfl ⟨⟨rfl, rfl⟩, ⟨rfl, rfl⟩, trivial⟩ ⟨⟨rfl, rfl⟩, ⟨rfl, rfl⟩, ⟨rfl, rfl⟩, ⟨rfl, rfl⟩, ⟨rfl, rfl⟩, trivial⟩
              · conv => whnf
                refine ⟨_, (fun H => by (conv => whnf); (exact ⟨rfl, rfl⟩)), ?_⟩
                conv => whnf
                refine ⟨_, (fun H => by (conv => whnf); (exact ⟨rfl, rfl⟩)), ?_⟩
                conv => whnf
                refine ⟨_, (fun H => by (conv => whnf); (exact ⟨rfl, rfl⟩)), ?_⟩
                conv => whnf
                refine condS_bif h (fun hb42 h => ?_) (fun hb42 h => ?_)
                · conv => whnf
                  refine ⟨_, ⟨rfl, rfl, (by (conv => whnf); (exact ⟨rfl, rfl⟩))⟩, ?_⟩
                  conv => whnf
                  refine ⟨_, ⟨rfl, rfl, (by (conv => whnf); (exact ⟨rfl, rfl⟩))⟩, ?_⟩
                  conv => whnf
                  refine ⟨_, (fun H => by (conv => whnf); (exact ⟨rfl, rfl⟩)), ?_⟩
                  conv => whnf
                  refine ⟨_, (fun H => by (conv => whnf); (refine arS_raw ?_); (conv => whnf); (exact ⟨rfl, rfl⟩)), ?_⟩
                  conv => whnf
                  obtain ⟨x_43, hx_43, h⟩ := bind_some h
                  refine ⟨_, ⟨rfl, rfl, (by (conv => whnf); (refine ixP_of hx_43 ?_); (conv => whnf); (exact ⟨rfl, rfl⟩))⟩, ?_⟩
                  conv => whnf
                  refine ⟨_, ⟨rfl, rfl, (by (conv => whnf); (exact ⟨rfl, rfl⟩))⟩, ?_⟩
                  conv => whnf
                  refine ⟨_, ⟨rfl, rfl, (by (conv => whnf); (exact ⟨rfl, rfl⟩))⟩, ?_⟩
                  conv => whnf
                  refine ⟨_, ⟨rfl, rfl, (by (conv => whnf); (exact ⟨rfl, rfl⟩))⟩, ?_⟩
                  conv => whnf
                  refine ⟨_, ⟨rfl, rfl, (by (conv => whnf); (exact ⟨rfl, rfl⟩))⟩, ?_⟩
                  conv => whnf
                  refine ⟨_, (fun H => by (conv => whnf); (exact ⟨rfl, rfl⟩)), ?_⟩
                  conv => whnf
                  refine ⟨_, (fun H => by (conv => whnf); (exact ⟨rfl, rfl⟩)), ?_⟩
                  conv => whnf
                  refine ⟨_, (fun H => by (conv => whnf); (exact ⟨rfl, rfl⟩)), ?_⟩
                  conv => whnf
                  refine ⟨_, (fun H => by (conv => whnf); (exact ⟨rfl, rfl⟩)), ?_⟩
                  conv => whnf
                  refine condS_bif h (fun hb44 h => ?_) (fun hb44 h => ?_)
                  · conv => whnf
                    refine ⟨_, (fun H => by (conv => whnf); (exact ⟨rfl, rfl⟩)), ?_⟩
                    conv => whnf
                    refine ⟨_, (fun H => by (conv => whnf); (exact ⟨rfl, rfl⟩)), ?_⟩
                    conv => whnf
                    refine ⟨_, (fun H => by (conv => whnf); (exact ⟨rfl, rfl⟩)), ?_⟩
                    conv => whnf
                    cases h
                    exact Wk.mk2 [0, 1] 2 rfl rfl (by decide) rfl ⟨⟨rfl, rfl⟩, ⟨rfl, rfl⟩, trivial⟩ ⟨⟨rfl, rfl⟩, ⟨rfl, rfl⟩, ⟨rfl, rfl⟩, ⟨rfl, rfl⟩, ⟨rfl, rfl⟩, trivial⟩
                  · conv => whnf
                    refine ⟨_, ⟨rfl, rfl, (by (conv => whnf); (exact ⟨rfl, rfl⟩))⟩, ?_⟩
                    conv => whnf
                    refine ⟨_, ⟨rfl, rfl, (by (conv => whnf); (exact ⟨rfl, rfl⟩))⟩, ?_⟩
                    conv => whnf
                    refine ⟨_, ⟨rfl, rfl, (by (conv => whnf); (refine lnS_map ?_); (conv => whnf); (exact ⟨rfl, rfl⟩))⟩, ?_⟩
                    conv => whnf
                    refine ⟨_, ⟨rfl, rfl, (by (conv => whnf); (exact ⟨rfl, rfl⟩))⟩, ?_⟩
                    conv => whnf
                    refine ⟨_, ⟨rfl, rfl, (by (conv => whnf); (exact ⟨rfl, rfl⟩))⟩, ?_⟩
                    conv => whnf
                    obtain ⟨x_45, hx_45, h⟩ := bind_some h
                    refine ⟨_, ⟨rfl, rfl, (by (conv => whnf); (refine ixP_of hx_45 ?_); (conv => whnf); (exact ⟨rfl, rfl⟩))⟩, ?_⟩
                    conv => whnf
                    refine ⟨_, ⟨rfl, rfl, (by (conv => whnf); (exact ⟨rfl, rfl⟩))⟩, ?_⟩
                    conv => whnf
                    refine ⟨_, ⟨rfl, rfl, (by (conv => whnf); (exact ⟨rfl, rfl⟩))⟩, ?_⟩
                    conv => whnf
                    refine ⟨_, ⟨rfl, rfl, (by (conv => whnf); (refine lnS_map ?_); (conv => whnf); (exact ⟨rfl, rfl⟩))⟩, ?_⟩
                    conv => whnf
                    refine ⟨_, (fun H => by (conv => whnf); (exact ⟨rfl, rfl⟩)), ?_⟩
                    conv => whnf
                    refine ⟨_, (fun H => by (conv => whnf); (exact ⟨rfl, rfl⟩)), ?_⟩
                    conv => whnf
                    refine ⟨_, (fun H => by (conv => whnf); (exact ⟨rfl, rfl⟩)), ?_⟩
                    conv => whnf
                    refine condS_bif h (fun hb46 h => ?_) (fun hb46 h => ?_)
                    · conv => whnf
                      refine ⟨_, (fun H => by (conv => whnf); (exact ⟨rfl, rfl⟩)), ?_⟩
                      conv => whnf
                      cases h
                      exact Wk.mk2 [0, 1] 2 rfl rfl (by decide) rfl ⟨⟨rfl, rfl⟩, ⟨rfl, rfl⟩, trivial⟩ ⟨⟨rfl, rfl⟩, ⟨rfl, rfl⟩, ⟨rfl, rfl⟩, ⟨rfl, rfl⟩, ⟨rfl, rfl⟩, trivial⟩
                    · conv => whnf
                      refine ⟨_, ⟨rfl, rfl, (by (conv => whnf); (exact ⟨rfl, rfl⟩))⟩, ?_⟩
                      conv => whnf
                      refine ⟨_, ⟨rfl, rfl, (by (conv => whnf); (exact ⟨rfl, rfl⟩))⟩, ?_⟩
                      conv => whnf
                      refine ⟨_, ⟨rfl, rfl, (by (conv => whnf); (refine lnS_map ?_); (conv => whnf); (exact ⟨rfl, rfl⟩))⟩, ?_⟩
                      conv => whnf
                      refine ⟨_, ⟨rfl, rfl, (by (conv => whnf); (exact ⟨rfl, rfl⟩))⟩, ?_⟩
                      conv => whnf
                      refine ⟨_, ⟨rfl, rfl, (by (conv => whnf); (exact ⟨rfl, rfl⟩))⟩, ?_⟩
                      conv => whnf
                      refine ⟨_, ⟨rfl, rfl, (by (conv => whnf); (refine lnS_map ?_); (conv => whnf); (exact ⟨rfl, rfl⟩))⟩, ?_⟩
                      conv => whnf
                      refine ⟨_, (fun H => by (conv => whnf); (refine arS_raw ?_); (conv => whnf); (exact ⟨rfl, rfl⟩)), ?_⟩
                      conv => whnf
                      refine ⟨_, (fun H => by (conv => whnf); (exact ⟨rfl, rfl⟩)), ?_⟩
                      conv => whnf
                      refine ⟨_, (fun H => by (conv => whnf); (exact ⟨rfl, rfl⟩)), ?_⟩
                      conv => whnf
                      cases h
                      exact Wk.mk2 [0, 1] 2 rfl rfl (by decide) rfl ⟨⟨rfl, rfl⟩, ⟨rfl, rfl⟩, trivial⟩ ⟨⟨rfl, rfl⟩, ⟨rfl, rfl⟩, ⟨rfl, rfl⟩, ⟨rfl, rfl⟩, ⟨rfl, rfl⟩, trivial⟩
                · conv => whnf
                  refine ⟨_, (fun H => by (conv => whnf); (exact ⟨rfl, rfl⟩)), ?_⟩
                  conv => whnf
                  refine ⟨_, (fun H => by (conv => whnf); (exact ⟨rfl, rfl⟩)), ?_⟩
                  conv => whnf
                  refine ⟨_, (fun H => by (conv => whnf); (exact ⟨rfl, rfl⟩)), ?_⟩
                  conv => whnf
                  refine ⟨_, ⟨rfl, rfl, (by (conv => whnf); (exact ⟨rfl, rfl⟩))⟩, ?_⟩
                  conv => whnf
                  refine ⟨_, ⟨rfl, rfl, (by (conv => whnf); (exact ⟨rfl, rfl⟩))⟩, ?_⟩
                  conv => whnf
                  refine ⟨_, ⟨rfl, rfl, (by (conv => whnf); (refine lnS_map ?_); (conv => whnf); (exact ⟨rfl, rfl⟩))⟩, ?_⟩
                  conv => whnf
                  refine ⟨_, ⟨rfl, rfl, (by (conv => whnf); (exact ⟨rfl, rfl⟩))⟩, ?_⟩
                  conv => whnf
                  refine ⟨_, ⟨rfl, rfl, (by (conv => whnf); (exact ⟨rfl, rfl⟩))⟩, ?_⟩
                  conv => whnf
                  obtain ⟨x_47, hx_47, h⟩ := bind_some h
                  refine ⟨_, ⟨rfl, rfl, (by (conv => whnf); (refine ixP_of hx_47 ?_); (conv => whnf); (exact ⟨rfl, rfl⟩))⟩, ?_⟩
                  conv => whnf
                  refine ⟨_, ⟨rfl, rfl, (by (conv => whnf); (exact ⟨rfl, rfl⟩))⟩, ?_⟩
                  conv => whnf
                  refine ⟨_, ⟨rfl, rfl, (by (conv => whnf); (exact ⟨rfl, rfl⟩))⟩, ?_⟩
                  conv => whnf
                  refine ⟨_, ⟨rfl, rfl, (by (conv => whnf); (refine lnS_map ?_); (conv => whnf); (exact ⟨rfl, rfl⟩))⟩, ?_⟩
                  conv => whnf
                  refine ⟨_, (fun H => by (conv => whnf); (exact ⟨rfl, rfl⟩)), ?_⟩
                  conv => whnf
                  refine ⟨_, (fun H => by (conv => whnf); (exact ⟨rfl, rfl⟩)), ?_⟩
                  conv => whnf
                  refine ⟨_, (fun H => by (conv => whnf); (exact ⟨rfl, rfl⟩)), ?_⟩
                  conv => whnf
                  refine condS_bif h (fun hb48 h => ?_) (fun hb48 h => ?_)
                  · conv => whnf
                    refine ⟨_, (fun H => by (conv => whnf); (exact ⟨rfl, rfl⟩)), ?_⟩
                    conv => whnf
                    cases h
                    exact Wk.mk2 [0, 1] 2 rfl rfl (by decide) rfl ⟨⟨rfl, rfl⟩, ⟨rfl, rfl⟩, trivial⟩ ⟨⟨rfl, rfl⟩, ⟨rfl, rfl⟩, ⟨rfl, rfl⟩, ⟨rfl, rfl⟩, ⟨rfl, rfl⟩, trivial⟩
                  · conv => whnf
                    refine ⟨_, ⟨rfl, rfl, (by (conv => whnf); (exact ⟨rfl, rfl⟩))⟩, ?_⟩
                    conv => whnf
                    refine ⟨_, ⟨rfl, rfl, (by (conv => whnf); (exact ⟨rfl, rfl⟩))⟩, ?_⟩
                    conv => whnf
                    refine ⟨_, ⟨rfl, rfl, (by (conv => whnf); (refine lnS_map ?_); (conv => whnf); (exact ⟨rfl, rfl⟩))⟩, ?_⟩
                    conv => whnf
                    refine ⟨_, ⟨rfl, rfl, (by (conv => whnf); (exact ⟨rfl, rfl⟩))⟩, ?_⟩
                    conv => whnf
                    refine ⟨_, ⟨rfl, rfl, (by (conv => whnf); (exact ⟨rfl, rfl⟩))⟩, ?_⟩
                    conv => whnf
                    refine ⟨_, ⟨rfl, rfl, (by (conv => whnf); (refine lnS_map ?_); (conv => whnf); (exact ⟨rfl, rfl⟩))⟩, ?_⟩
                    conv => whnf
                    refine ⟨_, (fun H => by (conv => whnf); (refine arS_raw ?_); (conv => whnf); (exact ⟨rfl, rfl⟩)), ?_⟩
                    conv => whnf
                    refine ⟨_, (fun H => by (conv => whnf); (exact ⟨rfl, rfl⟩)), ?_⟩
                    conv => whnf
                    refine ⟨_, (fun H => by (conv => whnf); (exact ⟨rfl, rfl⟩)), ?_⟩
                    conv => whnf
                    cases h
                    exact Wk.mk2 [0, 1] 2 rfl rfl (by decide) rfl ⟨⟨rfl, rfl⟩, ⟨rfl, rfl⟩, trivial⟩ ⟨⟨rfl, rfl⟩, ⟨rfl, rfl⟩, ⟨rfl, rfl⟩, ⟨rfl, rfl⟩, ⟨rfl, rfl⟩, trivial⟩
            · clear hv38
              conv => whnf
              refine Tr.weak hw ?_
              refine Tr.cond ?_
              conv => whnf
              refine condS_bif h (fun hb49 h => ?_) (fun hb49 h => ?_)
              · refine Tr.seq ?_
                refine Tr.region layOK ?_
                conv => whnf
                refine Tr.ret ?_
                conv => whnf
                cases h
                rfl
              · refine Tr.skip ?_
                conv => whnf
                refine Tr.seq ?_
                refine Tr.region layOK ?_
                conv => whnf
                refine Tr.cutQ (α := Unit) (fun s => ([(1, .pt 0 0), (2, .d (.i .i64 0)), (5, .d (.i .i64 i_31))], [some (.var [.d (.ls (List.map eTSegment f_1.Clocks.Segments)), .d (.ls (List.map (eL eI) f_1.Clocks.Far)), .d (.ls (List.map eTPair f_1.Pairs)), .d (.ls (List.map eTRunner f_1.Runners))])])) (fun s => m_stopwatchref24_Check_J6 i_31 (m_stopwatchref24_Check_L2 f_1 (m_stopwatchref24_Check_J7 f_1) n_32) s = some r_2) ?_ ?_
                · refine Tr.block ?_
                  refine Tr.loopM (σ := Int) (fun n s => m_stopwatchref24_Check_L3 f_1 x_36 (m_stopwatchref24_Check_J6 i_31 (m_stopwatchref24_Check_L2 f_1 (m_stopwatchref24_Check_J7 f_1) n_32)) n s) r_2 (fun s => ([(1, .pt 0 0), (2, .d (.i .i64 0)), (5, .d (.i .i64 i_31)), (6, .pt 1 0), (7, .d (.i .i64 s))], [some (.var [.d (.ls (List.map eTSegment f_1.Clocks.Segments)), .d (.ls (List.map (eL eI) f_1.Clocks.Far)), .d (.ls (List.map eTPair f_1.Pairs)), .d (.ls (List.map eTRunner f_1.Runners))]), some (.var [.d (.i .i64 x_36.Bib), .d (.ls (List.map eI x_36.Keys)), .d (.ls (List.map (eL eTOutcome) x_36.Worlds))])])) (((((x_36.Worlds).length : Int)) - 0 : Int).toNat + 1) (0) h (fun s => rfl) (Wk.mk2 [0, 1] 2 rfl rfl (by decide) rfl ⟨⟨rfl, rfl⟩, ⟨rfl, rfl⟩, trivial⟩ ⟨⟨rfl, rfl⟩, ⟨rfl, rfl⟩, ⟨rfl, rfl⟩, ⟨rfl, rfl⟩, ⟨rfl, rfl⟩, trivial⟩) ?_
                  clear h
                  rintro n_52 w_51 h
                  replace h : m_stopwatchref24_Check_L3 f_1 x_36 (m_stopwatchref24_Check_J6 i_31 (m_stopwatchref24_Check_L2 f_1 (m_stopwatchref24_Check_J7 f_1) n_32)) (n_52 + 1) w_51 = some r_2 := h
                  rw [m_stopwatchref24_Check_L3] at h
                  refine Tr.seq ?_
                  refine Tr.seq ?_
                  refine Tr.region layOK ?_
                  conv => whnf
                  refine lnS_map ?_
                  conv => whnf
                  refine Tr.cond ?_
                  conv => whnf
                  refine condS_bif h (fun hb55 h => ?_) (fun hb55 h => ?_)
                  · refine Tr.skip ?_
                    conv => whnf
                    refine Tr.seq ?_
                    refine Tr.block ?_
                    refine Tr.seq ?_
                    refine Tr.region layOK ?_
                    conv => whnf
                    refine Tr.cutQ (α := Unit) (fun s => ([(1, .pt 0 0), (2, .d (.i .i64 0)), (5, .d (.i .i64 i_31)), (6, .pt 1 0), (7, .d (.i .i64 w_51))], [some (.var [.d (.ls (List.map eTSegment f_1.Clocks.Segments)), .d (.ls (List.map (eL eI) f_1.Clocks.Far)), .d (.ls (List.map eTPair f_1.Pairs)), .d (.ls (List.map eTRunner f_1.Runners))]), some (.var [.d (.i .i64 x_36.Bib), .d (.ls (List.map eI x_36.Keys)), .d (.ls (List.map (eL eTOutcome) x_36.Worlds))])])) (fun s => m_stopwatchref24_Check_J5 w_51 (m_stopwatchref24_Check_L3 f_1 x_36 (m_stopwatchref24_Check_J6 i_31 (m_stopwatchref24_Check_L2 f_1 (m_stopwatchref24_Check_J7 f_1) n_32)) n_52) s = some r_2) ?_ ?_
                    · refine Tr.block ?_
                      refine Tr.loopM (σ := Int) (fun n s => m_stopwatchref24_Check_L4 f_1 x_36 w_51 (m_stopwatchref24_Check_J5 w_51 (m_stopwatchref24_Check_L3 f_1 x_36 (m_stopwatchref24_Check_J6 i_31 (m_stopwatchref24_Check_L2 f_1 (m_stopwatchref24_Check_J7 f_1) n_32)) n_52)) n s) r_2 (fun s => ([(1, .pt 0 0), (2, .d (.i .i64 0)), (5, .d (.i .i64 i_31)), (6, .pt 1 0), (7, .d (.i .i64 w_51)), (8, .d (.i .i64 s))], [some (.var [.d (.ls (List.map eTSegment f_1.Clocks.Segments)), .d (.ls (List.map (eL eI) f_1.Clocks.Far)), .d (.ls (List.map eTPair f_1.Pairs)), .d (.ls (List.map eTRunner f_1.Runners))]), some (.var [.d (.i .i64 x_36.Bib), .d (.ls (List.map eI x_36.Keys)), .d (.ls (List.map (eL eTOutcome) x_36.Worlds))])])) ((((((Option.getD (idx x_36.Worlds w_51) default)).length : Int)) - 0 : Int).toNat + 1) (0) h (fun s => rfl) (Wk.mk2 [0, 1] 2 rfl rfl (by decide) rfl ⟨⟨rfl, rfl⟩, ⟨rfl, rfl⟩, trivial⟩ ⟨⟨rfl, rfl⟩, ⟨rfl, rfl⟩, ⟨rfl, rfl⟩, ⟨rfl, rfl⟩, ⟨rfl, rfl⟩, ⟨rfl, rfl⟩, trivial⟩) ?_
                      clear h
                      rintro n_58 n_57 h
                      replace h : m_stopwatchref24_Check_L4 f_1 x_36 w_51 (m_stopwatchref24_Check_J5 w_51 (m_stopwatchref24_Check_L3 f_1 x_36 (m_stopwatchref24_Check_J6 i_31 (m_stopwatchref24_Check_L2 f_1 (m_stopwatchref24_Check_J7 f_1) n_32)) n_52)) (n_58 + 1) n_57 = some r_2 := h
                      rw [m_stopwatchref24_Check_L4] at h
                      refine Tr.seq ?_
                      refine Tr.seq ?_
                      refine Tr.region layOK ?_
                      conv => whnf
                      obtain ⟨x_61, hx_61, h⟩ := bind_some h
                      refine ixP_of hx_61 ?_
                      conv => whnf
                      refine lnS_map ?_
                      conv => whnf
                      refine Tr.cond ?_
                      conv => whnf
                      refine condS_bif h (fun hb62 h => ?_) (fun hb62 h => ?_)
                      · refine Tr.skip ?_
                        conv => whnf
                        refine Tr.seq ?_
                        refine Tr.block ?_
                        refine Tr.seq ?_
                        refine Tr.draw (DrawP.seqQ layOK mixed [] [(0, 3), (1, 3), (2, 4), (3, 4), (4, 1), (5, 2), (6, 2), (7, 1), (8, 2), (9, 2), (10, 1), (11, 1)] (by kernel_rfl) ?_)
                        conv => whnf
                        refine ⟨_, ⟨rfl, rfl, (by (conv => whnf); (exact ⟨rfl, rfl⟩))⟩, ?_⟩
                        conv => whnf
                        refine ⟨_, ⟨rfl, rfl, (by (conv => whnf); (exact ⟨rfl, rfl⟩))⟩, ?_⟩
                        conv => whnf
                        refine ⟨_, ⟨rfl, rfl, (by (conv => whnf); (exact ⟨rfl, rfl⟩))⟩, ?_⟩
                        conv => whnf
                        refine ⟨_, ⟨rfl, rfl, (by (conv => whnf); (exact ⟨rfl, rfl⟩))⟩, ?_⟩
                        conv => whnf
                        refine ⟨_, (fun H => by (conv => whnf); (exact ⟨rfl, rfl⟩)), ?_⟩
                        conv => whnf
                        obtain ⟨x_63, hx_63, h⟩ := bind_some h
                        refine ⟨_, ⟨rfl, rfl, (by (conv => whnf); (refine ixP_of hx_63 ?_); (conv => whnf); (exact ⟨rfl, rfl⟩))⟩, ?_⟩
                        conv => whnf
                        refine ⟨_, ⟨rfl, rfl, (by (conv => whnf); (exact ⟨rfl, rfl⟩))⟩, ?_⟩
                        conv => whnf
                        refine ⟨_, (fun H => by (conv => whnf); (exact ⟨rfl, rfl⟩)), ?_⟩
                        conv => whnf
                        obtain ⟨x_64, hx_64, h⟩ := bind_some h
                        refine ⟨_, ⟨rfl, rfl, (by (conv => whnf); (refine ixP_of hx_64 ?_); (conv => whnf); (exact ⟨rfl, rfl⟩))⟩, ?_⟩
                        conv => whnf
                        refine ⟨_, ⟨rfl, rfl, (by (conv => whnf); (exact ⟨rfl, rfl⟩))⟩, ?_⟩
                        conv => whnf
                        obtain ⟨r_65, hc66, h⟩ := bind_some h
                        refine ⟨_, (fun H => by (conv => whnf); (refine PC.ecall (s_stopwatchref23_Check f_1.Clocks x_64 r_65 hc66) (fun rs hrs => ?_)); (subst hrs); (conv => whnf); (exact ⟨rfl, rfl⟩)), ?_⟩
                        conv => whnf
                        refine ⟨_, (fun H => by (conv => whnf); (exact ⟨rfl, rfl⟩)), ?_⟩
                        conv => whnf
                        refine Tr.cond ?_
                        conv => whnf
                        refine condS_bif h (fun hb67 h => ?_) (fun hb67 h => ?_)
                        · refine Tr.seq ?_
                          refine Tr.region layOK ?_
                          conv => whnf
                          refine Tr.ret ?_
                          conv => whnf
                          cases h
                          rfl
                        · refine Tr.skip ?_
                          conv => whnf
                          refine Tr.region layOK ?_
                          conv => whnf
                          refine arS_raw ?_
                          conv => whnf
                          refine ⟨((w64 (n_57 + 1))), h, ?_⟩
                          exact Wk.mk2 [0, 1] 2 rfl rfl (by decide) rfl ⟨⟨rfl, rfl⟩, ⟨rfl, rfl⟩, trivial⟩ ⟨⟨rfl, rfl⟩, ⟨rfl, rfl⟩, ⟨rfl, rfl⟩, ⟨rfl, rfl⟩, ⟨rfl, rfl⟩, ⟨rfl, rfl⟩, trivial⟩
                      · refine Tr.exit ?_
                        conv => whnf
                        refine ⟨(), h, ?_⟩
                        exact Wk.mk2 [0, 1] 2 rfl rfl (by decide) rfl ⟨⟨rfl, rfl⟩, ⟨rfl, rfl⟩, trivial⟩ ⟨⟨rfl, rfl⟩, ⟨rfl, rfl⟩, ⟨rfl, rfl⟩, ⟨rfl, rfl⟩, ⟨rfl, rfl⟩, trivial⟩
                    · clear h
                      rintro _ h T1 H1 hw
                      replace h : m_stopwatchref24_Check_J5 w_51 (m_stopwatchref24_Check_L3 f_1 x_36 (m_stopwatchref24_Check_J6 i_31 (m_stopwatchref24_Check_L2 f_1 (m_stopwatchref24_Check_J7 f_1) n_32)) n_52) () = some r_2 := h
                      conv => whnf
                      refine Tr.weak hw ?_
                      unfold m_stopwatchref24_Check_J5 at h
                      refine Tr.region layOK ?_
                      conv => whnf
                      refine arS_raw ?_
                      conv => whnf
                      refine ⟨((w64 (w_51 + 1))), h, ?_⟩
                      exact Wk.mk2 [0, 1] 2 rfl rfl (by decide) rfl ⟨⟨rfl, rfl⟩, ⟨rfl, rfl⟩, trivial⟩ ⟨⟨rfl, rfl⟩, ⟨rfl, rfl⟩, ⟨rfl, rfl⟩, ⟨rfl, rfl⟩, ⟨rfl, rfl⟩, trivial⟩
                  · refine Tr.exit ?_
                    conv => whnf
                    refine ⟨(), h, ?_⟩
                    exact Wk.mk2 [0] 2 rfl rfl (by decide) rfl ⟨⟨rfl, rfl⟩, trivial⟩ ⟨⟨rfl, rfl⟩, ⟨rfl, rfl⟩, ⟨rfl, rfl⟩, trivial⟩
                · clear h
                  rintro _ h T1 H1 hw
                  replace h : m_stopwatchref24_Check_J6 i_31 (m_stopwatchref24_Check_L2 f_1 (m_stopwatchref24_Check_J7 f_1) n_32) () = some r_2 := h
                  conv => whnf
                  refine Tr.weak hw ?_
                  unfold m_stopwatchref24_Check_J6 at h
                  refine Tr.region layOK ?_
                  conv => whnf
                  refine arS_raw ?_
                  conv => whnf
                  refine ⟨((w64 (i_31 + 1))), h, ?_⟩
                  exact Wk.mk2 [0] 1 rfl rfl (by decide) rfl ⟨⟨rfl, rfl⟩, trivial⟩ ⟨⟨rfl, rfl⟩, ⟨rfl, rfl⟩, ⟨rfl, rfl⟩, trivial⟩
          · refine Tr.exit ?_
            conv => whnf
            refine ⟨(), h, ?_⟩
            exact Wk.mk2 [0] 1 rfl rfl (by decide) rfl ⟨⟨rfl, rfl⟩, trivial⟩ ⟨⟨rfl, rfl⟩, ⟨rfl, rfl⟩, trivial⟩
        · clear h
          rintro _ h T1 H1 hw
          replace h : m_stopwatchref24_Check_J7 f_1 () = some r_2 := h
          conv => whnf
          refine Tr.weak hw ?_
          unfold m_stopwatchref24_Check_J7 at h
          refine Tr.seq ?_
          refine Tr.seq ?_
          refine Tr.region layOK ?_
          conv => whnf
          obtain ⟨r_68, hc69, h⟩ := bind_some h
          refine PC.ecall (s_stopwatchref24_possible f_1 r_68 hc69) (fun rs hrs => ?_)
          subst hrs
          conv => whnf
          refine Tr.cond ?_
          conv => whnf
          refine condS_bif h (fun hb70 h => ?_) (fun hb70 h => ?_)
          · refine Tr.seq ?_
            refine Tr.region layOK ?_
            conv => whnf
            refine Tr.ret ?_
            conv => whnf
            cases h
            rfl
          · refine Tr.skip ?_
            conv => whnf
            refine Tr.seq ?_
            refine Tr.region layOK ?_
            conv => whnf
            refine Tr.ret ?_
            conv => whnf
            cases h
            rfl

theorem s_stopwatchref25_check (f_1 : TField) (runner_2 : Int) (r_3 : Int) (h : m_stopwatchref25_check f_1 runner_2 = some r_3) :
    PC prog 38 [(eTField f_1), (.i .i64 runner_2)] (fun rs => rs = [(.i .i64 r_3)]) := by
  refine PC.of_tr (cx := ⟨19, none, lay, 0⟩) layOK func38 rfl rfl rfl rfl rfl (by simp [f38]) ?_
  unfold m_stopwatchref25_check at h
  refine Tr.seq ?_
  refine Tr.region layOK ?_
  conv => whnf
  refine Tr.seq ?_
  refine Tr.region layOK ?_
  conv => whnf
  obtain ⟨r_4, hc5, h⟩ := bind_some h
  refine PC.ecall (s_stopwatchref24_Check f_1 r_4 hc5) (fun rs hrs => ?_)
  subst hrs
  conv => whnf
  refine Tr.seq ?_
  refine Tr.seq ?_
  refine Tr.region layOK ?_
  conv => whnf
  refine Tr.cond ?_
  conv => whnf
  refine condS_bif h (fun hb6 h => ?_) (fun hb6 h => ?_)
  · refine Tr.seq ?_
    refine Tr.region layOK ?_
    conv => whnf
    refine Tr.ret ?_
    conv => whnf
    cases h
    rfl
  · refine Tr.skip ?_
    conv => whnf
    refine Tr.seq ?_
    refine Tr.seq ?_
    refine Tr.region layOK ?_
    conv => whnf
    refine condS_bif h (fun hb7 h => ?_) (fun hb7 h => ?_)
    · conv => whnf
      refine Tr.cond ?_
      conv => whnf
      refine Tr.seq ?_
      refine Tr.region layOK ?_
      conv => whnf
      refine Tr.ret ?_
      conv => whnf
      cases h
      rfl
    · conv => whnf
      refine lnS_map ?_
      conv => whnf
      refine Tr.cond ?_
      conv => whnf
      refine condS_bif h (fun hb8 h => ?_) (fun hb8 h => ?_)
      · refine Tr.seq ?_
        refine Tr.region layOK ?_
        conv => whnf
        refine Tr.ret ?_
        conv => whnf
        cases h
        rfl
      · refine Tr.skip ?_
        conv => whnf
        refine Tr.seq ?_
        refine Tr.region layOK ?_
        conv => whnf
        refine Tr.ret ?_
        conv => whnf
        cases h
        rfl

theorem s_stopwatchref25_Possible (f_1 : TField) (world_2 : Int) (r_3 : Bool) (h : m_stopwatchref25_Possible f_1 world_2 = some r_3) :
    PC prog 22 [(eTField f_1), (.i .i64 world_2)] (fun rs => rs = [(.b r_3)]) := by
  refine PC.of_tr (cx := ⟨44, none, lay, 0⟩) layOK func22 rfl rfl rfl rfl rfl (by simp [f22]) ?_
  unfold m_stopwatchref25_Possible at h
  refine Tr.seq ?_
  refine Tr.region layOK ?_
  conv => whnf
  refine Tr.seq ?_
  refine Tr.seq ?_
  refine Tr.region layOK ?_
  conv => whnf
  refine condS_bif h (fun hb4 h => ?_) (fun hb4 h => ?_)
  · conv => whnf
    refine Tr.cond ?_
    conv => whnf
    refine Tr.seq ?_
    refine Tr.region layOK ?_
    conv => whnf
    refine Tr.ret ?_
    conv => whnf
    cases h
    rfl
  · conv => whnf
    refine lnS_map ?_
    conv => whnf
    refine Tr.cond ?_
    conv => whnf
    refine condS_bif h (fun hb5 h => ?_) (fun hb5 h => ?_)
    · refine Tr.seq ?_
      refine Tr.region layOK ?_
      conv => whnf
      refine Tr.ret ?_
      conv => whnf
      cases h
      rfl
    · refine Tr.skip ?_
      conv => whnf
      refine Tr.seq ?_
      refine Tr.seq ?_
      refine Tr.region layOK ?_
      conv => whnf
      refine Tr.cutQ (α := Unit) (fun s => ([(4, .d (.b false))], [])) (fun s => m_stopwatchref25_Possible_J2 s = some r_3) ?_ ?_
      · refine Tr.block ?_
        refine Tr.loopM (σ := Int) (fun n s => m_stopwatchref25_Possible_L1 f_1 world_2 m_stopwatchref25_Possible_J2 n s) r_3 (fun s => ([(1, .d (.i .i64 world_2)), (2, .pt 0 0), (4, .d (.b false)), (5, .d (.i .i64 s))], [some (.var [.d (.ls (List.map eTSegment f_1.Clocks.Segments)), .d (.ls (List.map (eL eI) f_1.Clocks.Far)), .d (.ls (List.map eTPair f_1.Pairs)), .d (.ls (List.map eTRunner f_1.Runners))])])) (((((f_1.Runners).length : Int)) - 0 : Int).toNat + 1) (0) h (fun s => rfl) (Wk.mk2 [0] 1 rfl rfl (by decide) rfl ⟨⟨rfl, rfl⟩, trivial⟩ ⟨⟨rfl, rfl⟩, ⟨rfl, rfl⟩, ⟨rfl, rfl⟩, ⟨rfl, rfl⟩, trivial⟩) ?_
        clear h
        rintro n_8 i_7 h
        replace h : m_stopwatchref25_Possible_L1 f_1 world_2 m_stopwatchref25_Possible_J2 (n_8 + 1) i_7 = some r_3 := h
        rw [m_stopwatchref25_Possible_L1] at h
        refine Tr.seq ?_
        refine Tr.seq ?_
        refine Tr.region layOK ?_
        conv => whnf
        refine lnS_map ?_
        conv => whnf
        refine Tr.cond ?_
        conv => whnf
        refine condS_bif h (fun hb11 h => ?_) (fun hb11 h => ?_)
        · refine Tr.skip ?_
          conv => whnf
          refine Tr.seq ?_
          refine Tr.block ?_
          refine Tr.seq ?_
          refine Tr.region layOK ?_
          conv => whnf
          obtain ⟨x_12, hx_12, h⟩ := bind_some h
          refine ixP_of hx_12 ?_
          conv => whnf
          refine lnS_map ?_
          conv => whnf
          refine condS_bif h (fun hb13 h => ?_) (fun hb13 h => ?_)
          · conv => whnf
            refine Tr.cond ?_
            conv => whnf
            refine Tr.seq ?_
            refine Tr.region layOK ?_
            conv => whnf
            refine Tr.ret ?_
            conv => whnf
            cases h
            rfl
          · conv => whnf
            obtain ⟨x_14, hx_14, h⟩ := bind_some h
            refine ixP_of hx_14 ?_
            conv => whnf
            obtain ⟨x_15, hx_15, h⟩ := bind_some h
            refine ixP_of hx_15 ?_
            conv => whnf
            refine lnS_map ?_
            conv => whnf
            refine Tr.cond ?_
            conv => whnf
            refine condS_bif h (fun hb16 h => ?_) (fun hb16 h => ?_)
            · refine Tr.seq ?_
              refine Tr.region layOK ?_
              conv => whnf
              refine Tr.ret ?_
              conv => whnf
              cases h
              rfl
            · refine Tr.skip ?_
              conv => whnf
              refine Tr.region layOK ?_
              conv => whnf
              refine arS_raw ?_
              conv => whnf
              refine ⟨((w64 (i_7 + 1))), h, ?_⟩
              exact Wk.mk2 [0] 1 rfl rfl (by decide) rfl ⟨⟨rfl, rfl⟩, trivial⟩ ⟨⟨rfl, rfl⟩, ⟨rfl, rfl⟩, ⟨rfl, rfl⟩, ⟨rfl, rfl⟩, trivial⟩
        · refine Tr.exit ?_
          conv => whnf
          refine ⟨(), h, ?_⟩
          exact Wk.mk2 [] 1 rfl rfl (by decide) rfl trivial ⟨⟨rfl, rfl⟩, trivial⟩
      · clear h
        rintro _ h T1 H1 hw
        replace h : m_stopwatchref25_Possible_J2 () = some r_3 := h
        conv => whnf
        refine Tr.weak hw ?_
        unfold m_stopwatchref25_Possible_J2 at h
        refine Tr.seq ?_
        refine Tr.region layOK ?_
        conv => whnf
        refine Tr.ret ?_
        conv => whnf
        cases h
        rfl

theorem s_stopwatchref25_Less (a_1 : List Int) (b_2 : List Int) (r_3 : Bool) (h : m_stopwatchref25_Less a_1 b_2 = some r_3) :
    PC prog 48 [(.ls (List.map eI a_1)), (.ls (List.map eI b_2))] (fun rs => rs = [(.b r_3)]) := by
  refine PC.of_tr (cx := ⟨41, none, lay, 0⟩) layOK func48 rfl rfl rfl rfl rfl (by simp [f48]) ?_
  unfold m_stopwatchref25_Less at h
  refine Tr.seq ?_
  refine Tr.region layOK ?_
  conv => whnf
  refine Tr.seq ?_
  refine Tr.seq ?_
  refine Tr.region layOK ?_
  conv => whnf
  refine Tr.cutQ (α := Unit) (fun s => ([(0, .d (.ls (List.map eI a_1))), (1, .d (.ls (List.map eI b_2))), (4, .d (.b false))], [])) (fun s => m_stopwatchref25_Less_J2 a_1 b_2 s = some r_3) ?_ ?_
  · refine Tr.block ?_
    refine Tr.loopM (σ := Int) (fun n s => m_stopwatchref25_Less_L1 a_1 b_2 (m_stopwatchref25_Less_J2 a_1 b_2) n s) r_3 (fun s => ([(0, .d (.ls (List.map eI a_1))), (1, .d (.ls (List.map eI b_2))), (4, .d (.b false)), (5, .d (.i .i64 s))], [])) (((((a_1).length : Int)) - 0 : Int).toNat + 1) (0) h (fun s => rfl) (Wk.mk2 [] 0 rfl rfl (by decide) rfl trivial ⟨⟨rfl, rfl⟩, ⟨rfl, rfl⟩, ⟨rfl, rfl⟩, ⟨rfl, rfl⟩, trivial⟩) ?_
    clear h
    rintro n_6 i_5 h
    replace h : m_stopwatchref25_Less_L1 a_1 b_2 (m_stopwatchref25_Less_J2 a_1 b_2) (n_6 + 1) i_5 = some r_3 := h
    rw [m_stopwatchref25_Less_L1] at h
    refine Tr.seq ?_
    refine Tr.seq ?_
    refine Tr.region layOK ?_
    conv => whnf
    refine lnS_map ?_
    conv => whnf
    refine condS_bif h (fun hb9 h => ?_) (fun hb9 h => ?_)
    · conv => whnf
      refine lnS_map ?_
      conv => whnf
      refine Tr.cond ?_
      conv => whnf
      refine condS_bif h (fun hb10 h => ?_) (fun hb10 h => ?_)
      · refine Tr.skip ?_
        conv => whnf
        refine Tr.seq ?_
        refine Tr.block ?_
        refine Tr.seq ?_
        refine Tr.draw (DrawP.seqQ layOK mixed [] [(0, 1), (1, 1), (2, 2), (3, 2), (4, 1), (5, 1), (6, 2), (7, 2), (8, 1)] (by kernel_rfl) ?_)
        conv => whnf
        refine ⟨_, (fun H => by (conv => whnf); (exact ⟨rfl, rfl⟩)), ?_⟩
        conv => whnf
        refine ⟨_, (fun H => by (conv => whnf); (exact ⟨rfl, rfl⟩)), ?_⟩
        conv => whnf
        obtain ⟨x_11, hx_11, h⟩ := bind_some h
        refine ⟨_, ⟨rfl, rfl, (by (conv => whnf); (refine ixP_of hx_11 ?_); (conv => whnf); (exact ⟨rfl, rfl⟩))⟩, ?_⟩
        conv => whnf
        refine ⟨_, ⟨rfl, rfl, (by (conv => whnf); (exact ⟨rfl, rfl⟩))⟩, ?_⟩
        conv => whnf
        refine ⟨_, (fun H => by (conv => whnf); (exact ⟨rfl, rfl⟩)), ?_⟩
        conv => whnf
        refine ⟨_, (fun H => by (conv => whnf); (exact ⟨rfl, rfl⟩)), ?_⟩
        conv => whnf
        obtain ⟨x_12, hx_12, h⟩ := bind_some h
        refine ⟨_, ⟨rfl, rfl, (by (conv => whnf); (refine ixP_of hx_12 ?_); (conv => whnf); (exact ⟨rfl, rfl⟩))⟩, ?_⟩
        conv => whnf
        refine ⟨_, ⟨rfl, rfl, (by (conv => whnf); (exact ⟨rfl, rfl⟩))⟩, ?_⟩
        conv => whnf
        refine ⟨_, (fun H => by (conv => whnf); (exact ⟨rfl, rfl⟩)), ?_⟩
        conv => whnf
        refine Tr.cond ?_
        conv => whnf
        refine condS_bif h (fun hb13 h => ?_) (fun hb13 h => ?_)
        · refine Tr.seq ?_
          refine Tr.draw (DrawP.seqQ layOK mixed [] [(0, 1), (1, 1), (2, 2), (3, 2), (4, 1), (5, 1), (6, 2), (7, 2), (8, 1), (9, 1)] (by kernel_rfl) ?_)
          conv => whnf
          refine ⟨_, (fun H => by (conv => whnf); (exact ⟨rfl, rfl⟩)), ?_⟩
          conv => whnf
          refine ⟨_, (fun H => by (conv => whnf); (exact ⟨rfl, rfl⟩)), ?_⟩
          conv => whnf
          obtain ⟨x_14, hx_14, h⟩ := bind_some h
          refine ⟨_, ⟨rfl, rfl, (by (conv => whnf); (refine ixP_of hx_14 ?_); (conv => whnf); (exact ⟨rfl, rfl⟩))⟩, ?_⟩
          conv => whnf
          refine ⟨_, ⟨rfl, rfl, (by (conv => whnf); (exact ⟨rfl, rfl⟩))⟩, ?_⟩
          conv => whnf
          refine ⟨_, (fun H => by (conv => whnf); (exact ⟨rfl, rfl⟩)), ?_⟩
          conv => whnf
          refine ⟨_, (fun H => by (conv => whnf); (exact ⟨rfl, rfl⟩)), ?_⟩
          conv => whnf
          obtain ⟨x_15, hx_15, h⟩ := bind_some h
          refine ⟨_, ⟨rfl, rfl, (by (conv => whnf); (refine ixP_of hx_15 ?_); (conv => whnf); (exact ⟨rfl, rfl⟩))⟩, ?_⟩
          conv => whnf
          refine ⟨_, ⟨rfl, rfl, (by (conv => whnf); (exact ⟨rfl, rfl⟩))⟩, ?_⟩
          conv => whnf
          refine ⟨_, (fun H => by (conv => whnf); (exact ⟨rfl, rfl⟩)), ?_⟩
          conv => whnf
          refine ⟨_, (fun H => by (conv => whnf); (exact ⟨rfl, rfl⟩)), ?_⟩
          conv => whnf
          refine Tr.ret ?_
          conv => whnf
          cases h
          rfl
        · refine Tr.skip ?_
          conv => whnf
          refine Tr.region layOK ?_
          conv => whnf
          refine arS_raw ?_
          conv => whnf
          refine ⟨((w64 (i_5 + 1))), h, ?_⟩
          exact Wk.mk2 [] 0 rfl rfl (by decide) rfl trivial ⟨⟨rfl, rfl⟩, ⟨rfl, rfl⟩, ⟨rfl, rfl⟩, ⟨rfl, rfl⟩, trivial⟩
      · refine Tr.exit ?_
        conv => whnf
        refine ⟨(), h, ?_⟩
        exact Wk.mk2 [] 0 rfl rfl (by decide) rfl trivial ⟨⟨rfl, rfl⟩, ⟨rfl, rfl⟩, ⟨rfl, rfl⟩, trivial⟩
    · conv => whnf
      refine Tr.cond ?_
      conv => whnf
      refine Tr.exit ?_
      conv => whnf
      refine ⟨(), h, ?_⟩
      exact Wk.mk2 [] 0 rfl rfl (by decide) rfl trivial ⟨⟨rfl, rfl⟩, ⟨rfl, rfl⟩, ⟨rfl, rfl⟩, trivial⟩
  · clear h
    rintro _ h T1 H1 hw
    replace h : m_stopwatchref25_Less_J2 a_1 b_2 () = some r_3 := h
    conv => whnf
    refine Tr.weak hw ?_
    unfold m_stopwatchref25_Less_J2 at h
    refine Tr.seq ?_
    refine Tr.region layOK ?_
    conv => whnf
    refine lnS_map ?_
    conv => whnf
    refine lnS_map ?_
    conv => whnf
    refine Tr.ret ?_
    conv => whnf
    cases h
    rfl

theorem s_stopwatchref25_late (f_1 : TField) (x_2 : TOutcome) (runner_3 : Int) (y_4 : TOutcome) (rival_5 : Int) (r_6 : Bool) (h : m_stopwatchref25_late f_1 x_2 runner_3 y_4 rival_5 = some r_6) :
    PC prog 39 [(eTField f_1), (eTOutcome x_2), (.i .i64 runner_3), (eTOutcome y_4), (.i .i64 rival_5)] (fun rs => rs = [(.b r_6)]) := by
  refine PC.of_tr (cx := ⟨55, none, lay, 0⟩) layOK func39 rfl rfl rfl rfl rfl (by simp [f39]) ?_
  unfold m_stopwatchref25_late at h
  refine Tr.seq ?_
  refine Tr.region layOK ?_
  conv => whnf
  refine Tr.seq ?_
  refine Tr.seq ?_
  refine Tr.region layOK ?_
  conv => whnf
  refine Tr.cond ?_
  conv => whnf
  refine condS_bif h (fun hb7 h => ?_) (fun hb7 h => ?_)
  · refine Tr.seq ?_
    refine Tr.region layOK ?_
    conv => whnf
    refine Tr.ret ?_
    conv => whnf
    cases h
    rfl
  · refine Tr.skip ?_
    conv => whnf
    refine Tr.seq ?_
    refine Tr.draw (DrawP.seqQ layOK mixed [] [(0, 5), (1, 5), (2, 3), (3, 3), (4, 3), (5, 4), (6, 4), (7, 1), (8, 2), (9, 2), (10, 5), (11, 5), (12, 1), (13, 2), (14, 2), (15, 1), (16, 4), (17, 4), (18, 1), (19, 1)] (by kernel_rfl) ?_)
    conv => whnf
    refine ⟨_, ⟨rfl, rfl, (by (conv => whnf); (exact ⟨rfl, rfl⟩))⟩, ?_⟩
    conv => whnf
    refine ⟨_, ⟨rfl, rfl, (by (conv => whnf); (exact ⟨rfl, rfl⟩))⟩, ?_⟩
    conv => whnf
    refine ⟨_, ⟨rfl, rfl, (by (conv => whnf); (exact ⟨rfl, rfl⟩))⟩, ?_⟩
    conv => whnf
    refine ⟨_, ⟨rfl, rfl, (by (conv => whnf); (exact ⟨rfl, rfl⟩))⟩, ?_⟩
    conv => whnf
    refine ⟨_, ⟨rfl, rfl, (by (conv => whnf); (exact ⟨rfl, rfl⟩))⟩, ?_⟩
    conv => whnf
    refine ⟨_, ⟨rfl, rfl, (by (conv => whnf); (exact ⟨rfl, rfl⟩))⟩, ?_⟩
    conv => whnf
    refine ⟨_, ⟨rfl, rfl, (by (conv => whnf); (exact ⟨rfl, rfl⟩))⟩, ?_⟩
    conv => whnf
    refine ⟨_, (fun H => by (conv => whnf); (refine arS_raw ?_); (conv => whnf); (exact ⟨rfl, rfl⟩)), ?_⟩
    conv => whnf
    obtain ⟨x_8, hx_8, h⟩ := bind_some h
    refine ⟨_, ⟨rfl, rfl, (by (conv => whnf); (refine ixP_of hx_8 ?_); (conv => whnf); (exact ⟨rfl, rfl⟩))⟩, ?_⟩
    conv => whnf
    refine ⟨_, ⟨rfl, rfl, (by (conv => whnf); (exact ⟨rfl, rfl⟩))⟩, ?_⟩
    conv => whnf
    refine ⟨_, ⟨rfl, rfl, (by (conv => whnf); (exact ⟨rfl, rfl⟩))⟩, ?_⟩
    conv => whnf
    refine ⟨_, ⟨rfl, rfl, (by (conv => whnf); (exact ⟨rfl, rfl⟩))⟩, ?_⟩
    conv => whnf
    refine ⟨_, (fun H => by (conv => whnf); (refine arS_raw ?_); (conv => whnf); (exact ⟨rfl, rfl⟩)), ?_⟩
    conv => whnf
    obtain ⟨x_9, hx_9, h⟩ := bind_some h
    refine ⟨_, ⟨rfl, rfl, (by (conv => whnf); (refine ixP_of hx_9 ?_); (conv => whnf); (exact ⟨rfl, rfl⟩))⟩, ?_⟩
    conv => whnf
    refine ⟨_, ⟨rfl, rfl, (by (conv => whnf); (exact ⟨rfl, rfl⟩))⟩, ?_⟩
    conv => whnf
    refine ⟨_, (fun H => by (conv => whnf); (refine arS_raw ?_); (conv => whnf); (exact ⟨rfl, rfl⟩)), ?_⟩
    conv => whnf
    refine ⟨_, ⟨rfl, rfl, (by (conv => whnf); (exact ⟨rfl, rfl⟩))⟩, ?_⟩
    conv => whnf
    refine ⟨_, ⟨rfl, rfl, (by (conv => whnf); (exact ⟨rfl, rfl⟩))⟩, ?_⟩
    conv => whnf
    refine ⟨_, (fun H => by (conv => whnf); (refine arS_raw ?_); (conv => whnf); (exact ⟨rfl, rfl⟩)), ?_⟩
    conv => whnf
    refine ⟨_, (fun H => by (conv => whnf); (exact ⟨rfl, rfl⟩)), ?_⟩
    conv => whnf
    refine Tr.seq ?_
    refine Tr.draw (DrawP.seqQ layOK mixed [] [(0, 1), (1, 1), (2, 1), (3, 1), (4, 1), (5, 1), (6, 3), (7, 3), (8, 1), (9, 2), (10, 2), (11, 2), (12, 3), (13, 3), (14, 1), (15, 2), (16, 2), (17, 2), (18, 1), (19, 1), (20, 1), (21, 1), (22, 1)] (by kernel_rfl) ?_)
    conv => whnf
    refine ⟨_, (fun H => by (conv => whnf); (exact ⟨rfl, rfl⟩)), ?_⟩
    conv => whnf
    refine ⟨_, (fun H => by (conv => whnf); (exact ⟨rfl, rfl⟩)), ?_⟩
    conv => whnf
    refine ⟨_, (fun H => by (conv => whnf); (exact ⟨rfl, rfl⟩)), ?_⟩
    conv => whnf
    refine condS_bif h (fun hb10 h => ?_) (fun hb10 h => ?_)
    · conv => whnf
      refine ⟨_, (fun H => by (conv => whnf); (exact ⟨rfl, rfl⟩)), ?_⟩
      conv => whnf
      refine ⟨_, (fun H => by (conv => whnf); (exact ⟨rfl, rfl⟩)), ?_⟩
      conv => whnf
      refine Tr.ret ?_
      conv => whnf
      cases h
      rfl
    · conv => whnf
      refine ⟨_, (fun H => by (conv => whnf); (exact ⟨rfl, rfl⟩)), ?_⟩
      conv => whnf
      refine ⟨_, (fun H => by (conv => whnf); (exact ⟨rfl, rfl⟩)), ?_⟩
      conv => whnf
      refine ⟨_, (fun H => by (conv => whnf); (exact ⟨rfl, rfl⟩)), ?_⟩
      conv => whnf
      refine condS_bif h (fun hb11 h => ?_) (fun hb11 h => ?_)
      · conv => whnf
        refine ⟨_, ⟨rfl, rfl, (by (conv => whnf); (exact ⟨rfl, rfl⟩))⟩, ?_⟩
        conv => whnf
        refine ⟨_, ⟨rfl, rfl, (by (conv => whnf); (exact ⟨rfl, rfl⟩))⟩, ?_⟩
        conv => whnf
        refine ⟨_, (fun H => by (conv => whnf); (exact ⟨rfl, rfl⟩)), ?_⟩
        conv => whnf
        obtain ⟨x_12, hx_12, h⟩ := bind_some h
        refine ⟨_, ⟨rfl, rfl, (by (conv => whnf); (refine ixP_of hx_12 ?_); (conv => whnf); (exact ⟨rfl, rfl⟩))⟩, ?_⟩
        conv => whnf
        refine ⟨_, ⟨rfl, rfl, (by (conv => whnf); (exact ⟨rfl, rfl⟩))⟩, ?_⟩
        conv => whnf
        refine ⟨_, ⟨rfl, rfl, (by (conv => whnf); (exact ⟨rfl, rfl⟩))⟩, ?_⟩
        conv => whnf
        refine ⟨_, ⟨rfl, rfl, (by (conv => whnf); (exact ⟨rfl, rfl⟩))⟩, ?_⟩
        conv => whnf
        refine ⟨_, ⟨rfl, rfl, (by (conv => whnf); (exact ⟨rfl, rfl⟩))⟩, ?_⟩
        conv => whnf
        refine ⟨_, (fun H => by (conv => whnf); (exact ⟨rfl, rfl⟩)), ?_⟩
        conv => whnf
        obtain ⟨x_13, hx_13, h⟩ := bind_some h
        refine ⟨_, ⟨rfl, rfl, (by (conv => whnf); (refine ixP_of hx_13 ?_); (conv => whnf); (exact ⟨rfl, rfl⟩))⟩, ?_⟩
        conv => whnf
        refine ⟨_, ⟨rfl, rfl, (by (conv => whnf); (exact ⟨rfl, rfl⟩))⟩, ?_⟩
        conv => whnf
        refine ⟨_, ⟨rfl, rfl, (by (conv => whnf); (exact ⟨rfl, rfl⟩))⟩, ?_⟩
        conv => whnf
        obtain ⟨r_14, hc15, h⟩ := bind_some h
        refine ⟨_, (fun H => by (conv => whnf); (refine PC.ecall (s_stopwatchref25_Less x_12.Keys x_13.Keys r_14 hc15) (fun rs hrs => ?_)); (subst hrs); (conv => whnf); (exact ⟨rfl, rfl⟩)), ?_⟩
        conv => whnf
        refine ⟨_, (fun H => by (conv => whnf); (exact ⟨rfl, rfl⟩)), ?_⟩
        conv => whnf
        refine ⟨_, (fun H => by (conv => whnf); (exact ⟨rfl, rfl⟩)), ?_⟩
        conv => whnf
        refine ⟨_, (fun H => by (conv => whnf); (exact ⟨rfl, rfl⟩)), ?_⟩
        conv => whnf
        refine ⟨_, (fun H => by (conv => whnf); (exact ⟨rfl, rfl⟩)), ?_⟩
        conv => whnf
        refine Tr.ret ?_
        conv => whnf
        cases h
        rfl
      · conv => whnf
        refine ⟨_, (fun H => by (conv => whnf); (exact ⟨rfl, rfl⟩)), ?_⟩
        conv => whnf
        refine ⟨_, (fun H => by (conv => whnf); (exact ⟨rfl, rfl⟩)), ?_⟩
        conv => whnf
        refine ⟨_, (fun H => by (conv => whnf); (exact ⟨rfl, rfl⟩)), ?_⟩
        conv => whnf
        refine Tr.ret ?_
        conv => whnf
        cases h
        rfl

theorem s_stopwatchref25_early (f_1 : TField) (x_2 : TOutcome) (runner_3 : Int) (y_4 : TOutcome) (rival_5 : Int) (r_6 : Bool) (h : m_stopwatchref25_early f_1 x_2 runner_3 y_4 rival_5 = some r_6) :
    PC prog 40 [(eTField f_1), (eTOutcome x_2), (.i .i64 runner_3), (eTOutcome y_4), (.i .i64 rival_5)] (fun rs => rs = [(.b r_6)]) := by
  refine PC.of_tr (cx := ⟨54, none, lay, 0⟩) layOK func40 rfl rfl rfl rfl rfl (by simp [f40]) ?_
  unfold m_stopwatchref25_early at h
  refine Tr.seq ?_
  refine Tr.region layOK ?_
  conv => whnf
  refine Tr.seq ?_
  refine Tr.seq ?_
  refine Tr.region layOK ?_
  conv => whnf
  refine Tr.cond ?_
  conv => whnf
  refine condS_bif h (fun hb7 h => ?_) (fun hb7 h => ?_)
  · refine Tr.seq ?_
    refine Tr.region layOK ?_
    conv => whnf
    refine Tr.ret ?_
    conv => whnf
    cases h
    rfl
  · refine Tr.skip ?_
    conv => whnf
    refine Tr.seq ?_
    refine Tr.draw (DrawP.seqQ layOK mixed [] [(0, 5), (1, 5), (2, 3), (3, 3), (4, 3), (5, 5), (6, 5), (7, 1), (8, 2), (9, 2), (10, 4), (11, 4), (12, 1), (13, 2), (14, 2), (15, 1), (16, 4), (17, 4), (18, 1), (19, 1)] (by kernel_rfl) ?_)
    conv => whnf
    refine ⟨_, ⟨rfl, rfl, (by (conv => whnf); (exact ⟨rfl, rfl⟩))⟩, ?_⟩
    conv => whnf
    refine ⟨_, ⟨rfl, rfl, (by (conv => whnf); (exact ⟨rfl, rfl⟩))⟩, ?_⟩
    conv => whnf
    refine ⟨_, ⟨rfl, rfl, (by (conv => whnf); (exact ⟨rfl, rfl⟩))⟩, ?_⟩
    conv => whnf
    refine ⟨_, ⟨rfl, rfl, (by (conv => whnf); (exact ⟨rfl, rfl⟩))⟩, ?_⟩
    conv => whnf
    refine ⟨_, ⟨rfl, rfl, (by (conv => whnf); (exact ⟨rfl, rfl⟩))⟩, ?_⟩
    conv => whnf
    refine ⟨_, ⟨rfl, rfl, (by (conv => whnf); (exact ⟨rfl, rfl⟩))⟩, ?_⟩
    conv => whnf
    refine ⟨_, ⟨rfl, rfl, (by (conv => whnf); (exact ⟨rfl, rfl⟩))⟩, ?_⟩
    conv => whnf
    refine ⟨_, (fun H => by (conv => whnf); (refine arS_raw ?_); (conv => whnf); (exact ⟨rfl, rfl⟩)), ?_⟩
    conv => whnf
    obtain ⟨x_8, hx_8, h⟩ := bind_some h
    refine ⟨_, ⟨rfl, rfl, (by (conv => whnf); (refine ixP_of hx_8 ?_); (conv => whnf); (exact ⟨rfl, rfl⟩))⟩, ?_⟩
    conv => whnf
    refine ⟨_, ⟨rfl, rfl, (by (conv => whnf); (exact ⟨rfl, rfl⟩))⟩, ?_⟩
    conv => whnf
    refine ⟨_, ⟨rfl, rfl, (by (conv => whnf); (exact ⟨rfl, rfl⟩))⟩, ?_⟩
    conv => whnf
    refine ⟨_, ⟨rfl, rfl, (by (conv => whnf); (exact ⟨rfl, rfl⟩))⟩, ?_⟩
    conv => whnf
    refine ⟨_, (fun H => by (conv => whnf); (refine arS_raw ?_); (conv => whnf); (exact ⟨rfl, rfl⟩)), ?_⟩
    conv => whnf
    obtain ⟨x_9, hx_9, h⟩ := bind_some h
    refine ⟨_, ⟨rfl, rfl, (by (conv => whnf); (refine ixP_of hx_9 ?_); (conv => whnf); (exact ⟨rfl, rfl⟩))⟩, ?_⟩
    conv => whnf
    refine ⟨_, ⟨rfl, rfl, (by (conv => whnf); (exact ⟨rfl, rfl⟩))⟩, ?_⟩
    conv => whnf
    refine ⟨_, (fun H => by (conv => whnf); (refine arS_raw ?_); (conv => whnf); (exact ⟨rfl, rfl⟩)), ?_⟩
    conv => whnf
    refine ⟨_, ⟨rfl, rfl, (by (conv => whnf); (exact ⟨rfl, rfl⟩))⟩, ?_⟩
    conv => whnf
    refine ⟨_, ⟨rfl, rfl, (by (conv => whnf); (exact ⟨rfl, rfl⟩))⟩, ?_⟩
    conv => whnf
    refine ⟨_, (fun H => by (conv => whnf); (refine arS_raw ?_); (conv => whnf); (exact ⟨rfl, rfl⟩)), ?_⟩
    conv => whnf
    refine ⟨_, (fun H => by (conv => whnf); (exact ⟨rfl, rfl⟩)), ?_⟩
    conv => whnf
    refine Tr.seq ?_
    refine Tr.draw (DrawP.seqQ layOK mixed [] [(0, 1), (1, 1), (2, 1), (3, 1), (4, 1), (5, 1), (6, 3), (7, 3), (8, 1), (9, 2), (10, 2), (11, 2), (12, 3), (13, 3), (14, 1), (15, 2), (16, 2), (17, 2), (18, 1), (19, 1), (20, 1), (21, 1)] (by kernel_rfl) ?_)
    conv => whnf
    refine ⟨_, (fun H => by (conv => whnf); (exact ⟨rfl, rfl⟩)), ?_⟩
    conv => whnf
    refine ⟨_, (fun H => by (conv => whnf); (exact ⟨rfl, rfl⟩)), ?_⟩
    conv => whnf
    refine ⟨_, (fun H => by (conv => whnf); (exact ⟨rfl, rfl⟩)), ?_⟩
    conv => whnf
    refine condS_bif h (fun hb10 h => ?_) (fun hb10 h => ?_)
    · conv => whnf
      refine ⟨_, (fun H => by (conv => whnf); (exact ⟨rfl, rfl⟩)), ?_⟩
      conv => whnf
      refine ⟨_, (fun H => by (conv => whnf); (exact ⟨rfl, rfl⟩)), ?_⟩
      conv => whnf
      refine Tr.ret ?_
      conv => whnf
      cases h
      rfl
    · conv => whnf
      refine ⟨_, (fun H => by (conv => whnf); (exact ⟨rfl, rfl⟩)), ?_⟩
      conv => whnf
      refine ⟨_, (fun H => by (conv => whnf); (exact ⟨rfl, rfl⟩)), ?_⟩
      conv => whnf
      refine ⟨_, (fun H => by (conv => whnf); (exact ⟨rfl, rfl⟩)), ?_⟩
      conv => whnf
      refine condS_bif h (fun hb11 h => ?_) (fun hb11 h => ?_)
      · conv => whnf
        refine ⟨_, ⟨rfl, rfl, (by (conv => whnf); (exact ⟨rfl, rfl⟩))⟩, ?_⟩
        conv => whnf
        refine ⟨_, ⟨rfl, rfl, (by (conv => whnf); (exact ⟨rfl, rfl⟩))⟩, ?_⟩
        conv => whnf
        refine ⟨_, (fun H => by (conv => whnf); (exact ⟨rfl, rfl⟩)), ?_⟩
        conv => whnf
        obtain ⟨x_12, hx_12, h⟩ := bind_some h
        refine ⟨_, ⟨rfl, rfl, (by (conv => whnf); (refine ixP_of hx_12 ?_); (conv => whnf); (exact ⟨rfl, rfl⟩))⟩, ?_⟩
        conv => whnf
        refine ⟨_, ⟨rfl, rfl, (by (conv => whnf); (exact ⟨rfl, rfl⟩))⟩, ?_⟩
        conv => whnf
        refine ⟨_, ⟨rfl, rfl, (by (conv => whnf); (exact ⟨rfl, rfl⟩))⟩, ?_⟩
        conv => whnf
        refine ⟨_, ⟨rfl, rfl, (by (conv => whnf); (exact ⟨rfl, rfl⟩))⟩, ?_⟩
        conv => whnf
        refine ⟨_, ⟨rfl, rfl, (by (conv => whnf); (exact ⟨rfl, rfl⟩))⟩, ?_⟩
        conv => whnf
        refine ⟨_, (fun H => by (conv => whnf); (exact ⟨rfl, rfl⟩)), ?_⟩
        conv => whnf
        obtain ⟨x_13, hx_13, h⟩ := bind_some h
        refine ⟨_, ⟨rfl, rfl, (by (conv => whnf); (refine ixP_of hx_13 ?_); (conv => whnf); (exact ⟨rfl, rfl⟩))⟩, ?_⟩
        conv => whnf
        refine ⟨_, ⟨rfl, rfl, (by (conv => whnf); (exact ⟨rfl, rfl⟩))⟩, ?_⟩
        conv => whnf
        refine ⟨_, ⟨rfl, rfl, (by (conv => whnf); (exact ⟨rfl, rfl⟩))⟩, ?_⟩
        conv => whnf
        obtain ⟨r_14, hc15, h⟩ := bind_some h
        refine ⟨_, (fun H => by (conv => whnf); (refine PC.ecall (s_stopwatchref25_Less x_12.Keys x_13.Keys r_14 hc15) (fun rs hrs => ?_)); (subst hrs); (conv => whnf); (exact ⟨rfl, rfl⟩)), ?_⟩
        conv => whnf
        refine ⟨_, (fun H => by (conv => whnf); (exact ⟨rfl, rfl⟩)), ?_⟩
        conv => whnf
        refine ⟨_, (fun H => by (conv => whnf); (exact ⟨rfl, rfl⟩)), ?_⟩
        conv => whnf
        refine ⟨_, (fun H => by (conv => whnf); (exact ⟨rfl, rfl⟩)), ?_⟩
        conv => whnf
        refine Tr.ret ?_
        conv => whnf
        cases h
        rfl
      · conv => whnf
        refine ⟨_, (fun H => by (conv => whnf); (exact ⟨rfl, rfl⟩)), ?_⟩
        conv => whnf
        refine ⟨_, (fun H => by (conv => whnf); (exact ⟨rfl, rfl⟩)), ?_⟩
        conv => whnf
        refine ⟨_, (fun H => by (conv => whnf); (exact ⟨rfl, rfl⟩)), ?_⟩
        conv => whnf
        refine Tr.ret ?_
        conv => whnf
        cases h
        rfl

theorem s_stopwatchref25_anyLate (f_1 : TField) (world_2 : Int) (x_3 : TOutcome) (runner_4 : Int) (rival_5 : Int) (r_6 : Bool) (h : m_stopwatchref25_anyLate f_1 world_2 x_3 runner_4 rival_5 = some r_6) :
    PC prog 71 [(eTField f_1), (.i .i64 world_2), (eTOutcome x_3), (.i .i64 runner_4), (.i .i64 rival_5)] (fun rs => rs = [(.b r_6)]) := by
  refine PC.of_tr (cx := ⟨37, none, lay, 0⟩) layOK func71 rfl rfl rfl rfl rfl (by simp [f71]) ?_
  unfold m_stopwatchref25_anyLate at h
  refine Tr.seq ?_
  refine Tr.region layOK ?_
  conv => whnf
  refine Tr.seq ?_
  refine Tr.region layOK ?_
  conv => whnf
  obtain ⟨x_7, hx_7, h⟩ := bind_some h
  refine ixP_of hx_7 ?_
  conv => whnf
  obtain ⟨x_8, hx_8, h⟩ := bind_some h
  refine ixP_of hx_8 ?_
  conv => whnf
  refine Tr.seq ?_
  refine Tr.seq ?_
  refine Tr.region layOK ?_
  conv => whnf
  refine Tr.cutQ (α := Unit) (fun s => ([(10, .d (.b false))], [])) (fun s => m_stopwatchref25_anyLate_J2 s = some r_6) ?_ ?_
  · refine Tr.block ?_
    refine Tr.loopM (σ := Int) (fun n s => m_stopwatchref25_anyLate_L1 f_1 x_3 runner_4 rival_5 x_8 m_stopwatchref25_anyLate_J2 n s) r_6 (fun s => ([(3, .d (.i .i64 runner_4)), (4, .d (.i .i64 rival_5)), (5, .pt 0 0), (7, .pt 1 0), (10, .d (.b false)), (11, .d (.ls (List.map eTOutcome x_8))), (12, .d (.i .i64 s))], [some (.var [.d (.ls (List.map eTSegment f_1.Clocks.Segments)), .d (.ls (List.map (eL eI) f_1.Clocks.Far)), .d (.ls (List.map eTPair f_1.Pairs)), .d (.ls (List.map eTRunner f_1.Runners))]), some (.var [.d (.b x_3.Out), .d (.i .i64 x_3.Seg), .d (.i .i64 x_3.Lo), .d (.i .i64 x_3.Hi)])])) (((((x_8).length : Int)) - 0 : Int).toNat + 1) (0) h (fun s => rfl) (Wk.mk2 [0, 1] 2 rfl rfl (by decide) rfl ⟨⟨rfl, rfl⟩, ⟨rfl, rfl⟩, trivial⟩ ⟨⟨rfl, rfl⟩, ⟨rfl, rfl⟩, ⟨rfl, rfl⟩, ⟨rfl, rfl⟩, ⟨rfl, rfl⟩, ⟨rfl, rfl⟩, ⟨rfl, rfl⟩, trivial⟩) ?_
    clear h
    rintro n_11 i_10 h
    replace h : m_stopwatchref25_anyLate_L1 f_1 x_3 runner_4 rival_5 x_8 m_stopwatchref25_anyLate_J2 (n_11 + 1) i_10 = some r_6 := h
    rw [m_stopwatchref25_anyLate_L1] at h
    refine Tr.seq ?_
    refine Tr.seq ?_
    refine Tr.region layOK ?_
    conv => whnf
    refine lnS_map ?_
    conv => whnf
    refine Tr.cond ?_
    conv => whnf
    refine condS_bif h (fun hb14 h => ?_) (fun hb14 h => ?_)
    · refine Tr.skip ?_
      conv => whnf
      refine Tr.seq ?_
      refine Tr.block ?_
      refine Tr.seq ?_
      refine Tr.draw (DrawP.seqQ layOK mixed [] [(0, 3), (1, 4), (2, 1), (3, 1), (4, 1), (5, 2), (6, 2), (7, 1), (8, 1)] (by kernel_rfl) ?_)
      conv => whnf
      refine ⟨_, ⟨rfl, rfl, (by (conv => whnf); (exact ⟨rfl, rfl⟩))⟩, ?_⟩
      conv => whnf
      refine ⟨_, ⟨rfl, rfl, (by (conv => whnf); (exact ⟨rfl, rfl⟩))⟩, ?_⟩
      conv => whnf
      refine ⟨_, (fun H => by (conv => whnf); (exact ⟨rfl, rfl⟩)), ?_⟩
      conv => whnf
      refine ⟨_, (fun H => by (conv => whnf); (exact ⟨rfl, rfl⟩)), ?_⟩
      conv => whnf
      refine ⟨_, (fun H => by (conv => whnf); (exact ⟨rfl, rfl⟩)), ?_⟩
      conv => whnf
      obtain ⟨x_15, hx_15, h⟩ := bind_some h
      refine ⟨_, ⟨rfl, rfl, (by (conv => whnf); (refine ixP_of hx_15 ?_); (conv => whnf); (exact ⟨rfl, rfl⟩))⟩, ?_⟩
      conv => whnf
      refine ⟨_, ⟨rfl, rfl, (by (conv => whnf); (exact ⟨rfl, rfl⟩))⟩, ?_⟩
      conv => whnf
      refine ⟨_, (fun H => by (conv => whnf); (exact ⟨rfl, rfl⟩)), ?_⟩
      conv => whnf
      obtain ⟨r_16, hc17, h⟩ := bind_some h
      refine ⟨_, (fun H => by (conv => whnf); (refine PC.ecall (s_stopwatchref25_late f_1 x_3 runner_4 x_15 rival_5 r_16 hc17) (fun rs hrs => ?_)); (subst hrs); (conv => whnf); (exact ⟨rfl, rfl⟩)), ?_⟩
      conv => whnf
      refine Tr.cond ?_
      conv => whnf
      refine condS_bif h (fun hb18 h => ?_) (fun hb18 h => ?_)
      · refine Tr.seq ?_
        refine Tr.region layOK ?_
        conv => whnf
        refine Tr.ret ?_
        conv => whnf
        cases h
        rfl
      · refine Tr.skip ?_
        conv => whnf
        refine Tr.region layOK ?_
        conv => whnf
        refine arS_raw ?_
        conv => whnf
        refine ⟨((w64 (i_10 + 1))), h, ?_⟩
        exact Wk.mk2 [0, 1] 2 rfl rfl (by decide) rfl ⟨⟨rfl, rfl⟩, ⟨rfl, rfl⟩, trivial⟩ ⟨⟨rfl, rfl⟩, ⟨rfl, rfl⟩, ⟨rfl, rfl⟩, ⟨rfl, rfl⟩, ⟨rfl, rfl⟩, ⟨rfl, rfl⟩, ⟨rfl, rfl⟩, trivial⟩
    · refine Tr.exit ?_
      conv => whnf
      refine ⟨(), h, ?_⟩
      exact Wk.mk2 [] 2 rfl rfl (by decide) rfl trivial ⟨⟨rfl, rfl⟩, trivial⟩
  · clear h
    rintro _ h T1 H1 hw
    replace h : m_stopwatchref25_anyLate_J2 () = some r_6 := h
    conv => whnf
    refine Tr.weak hw ?_
    unfold m_stopwatchref25_anyLate_J2 at h
    refine Tr.seq ?_
    refine Tr.region layOK ?_
    conv => whnf
    refine Tr.ret ?_
    conv => whnf
    cases h
    rfl

theorem s_stopwatchref25_anyEarly (f_1 : TField) (world_2 : Int) (x_3 : TOutcome) (runner_4 : Int) (rival_5 : Int) (r_6 : Bool) (h : m_stopwatchref25_anyEarly f_1 world_2 x_3 runner_4 rival_5 = some r_6) :
    PC prog 72 [(eTField f_1), (.i .i64 world_2), (eTOutcome x_3), (.i .i64 runner_4), (.i .i64 rival_5)] (fun rs => rs = [(.b r_6)]) := by
  refine PC.of_tr (cx := ⟨37, none, lay, 0⟩) layOK func72 rfl rfl rfl rfl rfl (by simp [f72]) ?_
  unfold m_stopwatchref25_anyEarly at h
  refine Tr.seq ?_
  refine Tr.region layOK ?_
  conv => whnf
  refine Tr.seq ?_
  refine Tr.region layOK ?_
  conv => whnf
  obtain ⟨x_7, hx_7, h⟩ := bind_some h
  refine ixP_of hx_7 ?_
  conv => whnf
  obtain ⟨x_8, hx_8, h⟩ := bind_some h
  refine ixP_of hx_8 ?_
  conv => whnf
  refine Tr.seq ?_
  refine Tr.seq ?_
  refine Tr.region layOK ?_
  conv => whnf
  refine Tr.cutQ (α := Unit) (fun s => ([(10, .d (.b false))], [])) (fun s => m_stopwatchref25_anyEarly_J2 s = some r_6) ?_ ?_
  · refine Tr.block ?_
    refine Tr.loopM (σ := Int) (fun n s => m_stopwatchref25_anyEarly_L1 f_1 x_3 runner_4 rival_5 x_8 m_stopwatchref25_anyEarly_J2 n s) r_6 (fun s => ([(3, .d (.i .i64 runner_4)), (4, .d (.i .i64 rival_5)), (5, .pt 0 0), (7, .pt 1 0), (10, .d (.b false)), (11, .d (.ls (List.map eTOutcome x_8))), (12, .d (.i .i64 s))], [some (.var [.d (.ls (List.map eTSegment f_1.Clocks.Segments)), .d (.ls (List.map (eL eI) f_1.Clocks.Far)), .d (.ls (List.map eTPair f_1.Pairs)), .d (.ls (List.map eTRunner f_1.Runners))]), some (.var [.d (.b x_3.Out), .d (.i .i64 x_3.Seg), .d (.i .i64 x_3.Lo), .d (.i .i64 x_3.Hi)])])) (((((x_8).length : Int)) - 0 : Int).toNat + 1) (0) h (fun s => rfl) (Wk.mk2 [0, 1] 2 rfl rfl (by decide) rfl ⟨⟨rfl, rfl⟩, ⟨rfl, rfl⟩, trivial⟩ ⟨⟨rfl, rfl⟩, ⟨rfl, rfl⟩, ⟨rfl, rfl⟩, ⟨rfl, rfl⟩, ⟨rfl, rfl⟩, ⟨rfl, rfl⟩, ⟨rfl, rfl⟩, trivial⟩) ?_
    clear h
    rintro n_11 i_10 h
    replace h : m_stopwatchref25_anyEarly_L1 f_1 x_3 runner_4 rival_5 x_8 m_stopwatchref25_anyEarly_J2 (n_11 + 1) i_10 = some r_6 := h
    rw [m_stopwatchref25_anyEarly_L1] at h
    refine Tr.seq ?_
    refine Tr.seq ?_
    refine Tr.region layOK ?_
    conv => whnf
    refine lnS_map ?_
    conv => whnf
    refine Tr.cond ?_
    conv => whnf
    refine condS_bif h (fun hb14 h => ?_) (fun hb14 h => ?_)
    · refine Tr.skip ?_
      conv => whnf
      refine Tr.seq ?_
      refine Tr.block ?_
      refine Tr.seq ?_
      refine Tr.draw (DrawP.seqQ layOK mixed [] [(0, 3), (1, 4), (2, 1), (3, 1), (4, 1), (5, 2), (6, 2), (7, 1), (8, 1)] (by kernel_rfl) ?_)
      conv => whnf
      refine ⟨_, ⟨rfl, rfl, (by (conv => whnf); (exact ⟨rfl, rfl⟩))⟩, ?_⟩
      conv => whnf
      refine ⟨_, ⟨rfl, rfl, (by (conv => whnf); (exact ⟨rfl, rfl⟩))⟩, ?_⟩
      conv => whnf
      refine ⟨_, (fun H => by (conv => whnf); (exact ⟨rfl, rfl⟩)), ?_⟩
      conv => whnf
      refine ⟨_, (fun H => by (conv => whnf); (exact ⟨rfl, rfl⟩)), ?_⟩
      conv => whnf
      refine ⟨_, (fun H => by (conv => whnf); (exact ⟨rfl, rfl⟩)), ?_⟩
      conv => whnf
      obtain ⟨x_15, hx_15, h⟩ := bind_some h
      refine ⟨_, ⟨rfl, rfl, (by (conv => whnf); (refine ixP_of hx_15 ?_); (conv => whnf); (exact ⟨rfl, rfl⟩))⟩, ?_⟩
      conv => whnf
      refine ⟨_, ⟨rfl, rfl, (by (conv => whnf); (exact ⟨rfl, rfl⟩))⟩, ?_⟩
      conv => whnf
      refine ⟨_, (fun H => by (conv => whnf); (exact ⟨rfl, rfl⟩)), ?_⟩
      conv => whnf
      obtain ⟨r_16, hc17, h⟩ := bind_some h
      refine ⟨_, (fun H => by (conv => whnf); (refine PC.ecall (s_stopwatchref25_early f_1 x_3 runner_4 x_15 rival_5 r_16 hc17) (fun rs hrs => ?_)); (subst hrs); (conv => whnf); (exact ⟨rfl, rfl⟩)), ?_⟩
      conv => whnf
      refine Tr.cond ?_
      conv => whnf
      refine condS_bif h (fun hb18 h => ?_) (fun hb18 h => ?_)
      · refine Tr.seq ?_
        refine Tr.region layOK ?_
        conv => whnf
        refine Tr.ret ?_
        conv => whnf
        cases h
        rfl
      · refine Tr.skip ?_
        conv => whnf
        refine Tr.region layOK ?_
        conv => whnf
        refine arS_raw ?_
        conv => whnf
        refine ⟨((w64 (i_10 + 1))), h, ?_⟩
        exact Wk.mk2 [0, 1] 2 rfl rfl (by decide) rfl ⟨⟨rfl, rfl⟩, ⟨rfl, rfl⟩, trivial⟩ ⟨⟨rfl, rfl⟩, ⟨rfl, rfl⟩, ⟨rfl, rfl⟩, ⟨rfl, rfl⟩, ⟨rfl, rfl⟩, ⟨rfl, rfl⟩, ⟨rfl, rfl⟩, trivial⟩
    · refine Tr.exit ?_
      conv => whnf
      refine ⟨(), h, ?_⟩
      exact Wk.mk2 [] 2 rfl rfl (by decide) rfl trivial ⟨⟨rfl, rfl⟩, trivial⟩
  · clear h
    rintro _ h T1 H1 hw
    replace h : m_stopwatchref25_anyEarly_J2 () = some r_6 := h
    conv => whnf
    refine Tr.weak hw ?_
    unfold m_stopwatchref25_anyEarly_J2 at h
    refine Tr.seq ?_
    refine Tr.region layOK ?_
    conv => whnf
    refine Tr.ret ?_
    conv => whnf
    cases h
    rfl
end Go.Proofs.Try
