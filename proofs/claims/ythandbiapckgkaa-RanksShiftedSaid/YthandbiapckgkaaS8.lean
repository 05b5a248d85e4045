/- Contracts of functions, by program (gen.py). No condition. -/
import Derived.Test.YthandbiapckgkaaL
import Derived.Test.YthandbiapckgkaaM
import Derived.Test.YthandbiapckgkaaS7
namespace Go.Proofs.Try
open Go Go.Abs Go.Stop
set_option maxRecDepth 8000
set_option linter.unusedVariables false
set_option linter.unusedSimpArgs false

theorem s_stopwatchref24_Check (f_1 : TField) (r_2 : Int) (h : m_stopwatchref24_Check f_1 = some r_2) :
    PC prog 15 [(eTField f_1)] (fun rs => rs = [(.i .i64 r_2)]) := by
  refine PC.of_tr (cx := ⟨182, none, lay, 0⟩) layOK func15 rfl rfl rfl rfl rfl (by simp [f15]) ?_
  unfold m_stopwatchref24_Check at h
  refine Tr.seq ?_
  refine Tr.region layOK ?_
  conv => whnf
  refine Tr.seq ?_
  refine Tr.seq ?_
  obtain ⟨v_3, hv4, h⟩ := bind_some h
  refine Tr.cutQ1 ([(1, .pt 0 0), (2, .d (.i .i64 0)), (30, .d (.b v_3))]) ([some (.var [.d (.ls (List.map eTSegment f_1.Clocks.Segments)), .d (.ls (List.map (eL eI) f_1.Clocks.Far)), .d (.ls (List.map eTPair f_1.Pairs)), .d (.ls (List.map eTRunner f_1.Runners))])]) ?_ (fun T1 H1 hw => ?_)
  · replace h := hv4; clear hv4
    refine Tr.region layOK ?_
    conv => whnf
    obtain ⟨r_5, hc6, h⟩ := bind_some h
    refine PC.ecall (s_stopwatchref16_Check f_1.Clocks r_5 hc6) (fun rs hrs => ?_)
    subst hrs
    conv => whnf
    refine condS_bif h (fun hb7 h => ?_) (fun hb7 h => ?_)
    · conv => whnf
      cases h
      exact Wk.mk2 [0] 1 rfl rfl (by decide) rfl ⟨⟨rfl, rfl⟩, trivial⟩ ⟨⟨rfl, rfl⟩, ⟨rfl, rfl⟩, ⟨rfl, rfl⟩, trivial⟩
    · conv => whnf
      refine lnS_map ?_
      conv => whnf
      refine condS_bif h (fun hb8 h => ?_) (fun hb8 h => ?_)
      · conv => whnf
        cases h
        exact Wk.mk2 [0] 1 rfl rfl (by decide) rfl ⟨⟨rfl, rfl⟩, trivial⟩ ⟨⟨rfl, rfl⟩, ⟨rfl, rfl⟩, ⟨rfl, rfl⟩, trivial⟩
      · conv => whnf
        refine lnS_map ?_
        conv => whnf
        refine condS_bif h (fun hb9 h => ?_) (fun hb9 h => ?_)
        · conv => whnf
          cases h
          exact Wk.mk2 [0] 1 rfl rfl (by decide) rfl ⟨⟨rfl, rfl⟩, trivial⟩ ⟨⟨rfl, rfl⟩, ⟨rfl, rfl⟩, ⟨rfl, rfl⟩, trivial⟩
        · conv => whnf
          refine lnS_map ?_
          conv => whnf
          cases h
          exact Wk.mk2 [0] 1 rfl rfl (by decide) rfl ⟨⟨rfl, rfl⟩, trivial⟩ ⟨⟨rfl, rfl⟩, ⟨rfl, rfl⟩, ⟨rfl, rfl⟩, trivial⟩
  · clear hv4
    conv => whnf
    refine Tr.weak hw ?_
    refine Tr.cond ?_
    conv => whnf
    refine condS_bif h (fun hb10 h => ?_) (fun hb10 h => ?_)
    · refine Tr.seq ?_
      refine Tr.region layOK ?_
      conv => whnf
      refine Tr.ret ?_
      conv => whnf
      cases h
      rfl
    · refine Tr.skip ?_
      conv => whnf
      refine Tr.seq ?_
      refine Tr.seq ?_
      refine Tr.region layOK ?_
      conv => whnf
      refine Tr.cutQ (α := Unit) (fun s => ([(1, .pt 0 0), (2, .d (.i .i64 0))], [some (.var [.d (.ls (List.map eTSegment f_1.Clocks.Segments)), .d (.ls (List.map (eL eI) f_1.Clocks.Far)), .d (.ls (List.map eTPair f_1.Pairs)), .d (.ls (List.map eTRunner f_1.Runners))])])) (fun s => m_stopwatchref24_Check_J8 f_1 s = some r_2) ?_ ?_
      · refine Tr.block ?_
        refine Tr.loopM (σ := Int) (fun n s => m_stopwatchref24_Check_L1 f_1 (m_stopwatchref24_Check_J8 f_1) n s) r_2 (fun s => ([(1, .pt 0 0), (2, .d (.i .i64 0)), (3, .d (.i .i64 s))], [some (.var [.d (.ls (List.map eTSegment f_1.Clocks.Segments)), .d (.ls (List.map (eL eI) f_1.Clocks.Far)), .d (.ls (List.map eTPair f_1.Pairs)), .d (.ls (List.map eTRunner f_1.Runners))])])) (((((f_1.Pairs).length : Int)) - 0 : Int).toNat + 1) (0) h (fun s => rfl) (Wk.mk2 [0] 1 rfl rfl (by decide) rfl ⟨⟨rfl, rfl⟩, trivial⟩ ⟨⟨rfl, rfl⟩, ⟨rfl, rfl⟩, ⟨rfl, rfl⟩, trivial⟩) ?_
        clear h
        rintro n_13 i_12 h
        replace h : m_stopwatchref24_Check_L1 f_1 (m_stopwatchref24_Check_J8 f_1) (n_13 + 1) i_12 = some r_2 := h
        rw [m_stopwatchref24_Check_L1] at h
        refine Tr.seq ?_
        refine Tr.seq ?_
        refine Tr.region layOK ?_
        conv => whnf
        refine lnS_map ?_
        conv => whnf
        refine Tr.cond ?_
        conv => whnf
        refine condS_bif h (fun hb16 h => ?_) (fun hb16 h => ?_)
        · refine Tr.skip ?_
          conv => whnf
          refine Tr.seq ?_
          refine Tr.block ?_
          refine Tr.seq ?_
          refine Tr.region layOK ?_
          conv => whnf
          obtain ⟨x_17, hx_17, h⟩ := bind_some h
          refine ixP_of hx_17 ?_
          conv => whnf
          refine Tr.seq ?_
          refine Tr.seq ?_
          refine Tr.region layOK ?_
          conv => whnf
          refine condS_bif h (fun hb18 h => ?_) (fun hb18 h => ?_)
          · conv => whnf
            refine Tr.cond ?_
            conv => whnf
            refine Tr.seq ?_
            refine Tr.region layOK ?_
            conv => whnf
            refine Tr.ret ?_
            conv => whnf
            cases h
            rfl
          · conv => whnf
            refine condS_bif h (fun hb19 h => ?_) (fun hb19 h => ?_)
            · conv => whnf
              refine Tr.cond ?_
              conv => whnf
              refine Tr.seq ?_
              refine Tr.region layOK ?_
              conv => whnf
              refine Tr.ret ?_
              conv => whnf
              cases h
              rfl
            · conv => whnf
              refine Tr.cond ?_
              conv => whnf
              refine condS_bif h (fun hb20 h => ?_) (fun hb20 h => ?_)
              · refine Tr.seq ?_
                refine Tr.region layOK ?_
                conv => whnf
                refine Tr.ret ?_
                conv => whnf
                cases h
                rfl
              · refine Tr.skip ?_
                conv => whnf
                refine Tr.seq ?_
                obtain ⟨v_21, hv22, h⟩ := bind_some h
                refine Tr.cutQ1 ([(1, .pt 0 0), (2, .d (.i .i64 0)), (3, .d (.i .i64 i_12)), (95, .d (.b v_21))]) ([some (.var [.d (.ls (List.map eTSegment f_1.Clocks.Segments)), .d (.ls (List.map (eL eI) f_1.Clocks.Far)), .d (.ls (List.map eTPair f_1.Pairs)), .d (.ls (List.map eTRunner f_1.Runners))])]) ?_ (fun T1 H1 hw => ?_)
                · replace h := hv22; clear hv22
                  refine Tr.draw (DrawP.seqQ layOK mixed [] [(0, 1), (1, 1), (2, 1), (3, 3), (4, 3), (5, 1), (6, 1), (7, 2), (8, 2), (9, 2), (10, 4), (11, 4), (12, 1), (13, 1), (14, 3), (15, 3), (16, 1), (17, 1), (18, 2), (19, 2), (20, 2), (21, 4), (22, 4), (23, 1), (24, 1), (25, 3), (26, 3), (27, 1), (28, 1), (29, 2), (30, 2), (31, 2), (32, 4), (33, 4), (34, 1), (35, 1), (36, 1), (37, 1)] (by kernel_rfl) ?_)
                  conv => whnf
                  refine ⟨_, (fun H => by (conv => whnf); (exact ⟨rfl, rfl⟩)), ?_⟩
                  conv => whnf
                  refine ⟨_, (fun H => by (conv => whnf); (exact ⟨rfl, rfl⟩)), ?_⟩
                  conv => whnf
                  refine ⟨_, (fun H => by (conv => whnf); (exact ⟨rfl, rfl⟩)), ?_⟩
                  conv => whnf
                  refine condS_bif h (fun hb23 h => ?_) (fun hb23 h => ?_)
                  · conv => whnf
                    refine ⟨_, ⟨rfl, rfl, (by (conv => whnf); (exact ⟨rfl, rfl⟩))⟩, ?_⟩
                    conv => whnf
                    refine ⟨_, ⟨rfl, rfl, (by (conv => whnf); (exact ⟨rfl, rfl⟩))⟩, ?_⟩
                    conv => whnf
                    refine ⟨_, (fun H => by (conv => whnf); (exact ⟨rfl, rfl⟩)), ?_⟩
                    conv => whnf
                    refine ⟨_, (fun H => by (conv => whnf); (refine arS_raw ?_); (conv => whnf); (exact ⟨rfl, rfl⟩)), ?_⟩
                    conv => whnf
                    obtain ⟨x_24, hx_24, h⟩ := bind_some h
                    refine ⟨_, ⟨rfl, rfl, (by (conv => whnf); (refine ixP_of hx_24 ?_); (conv => whnf); (exact ⟨rfl, rfl⟩))⟩, ?_⟩
                    conv => whnf
                    refine ⟨_, ⟨rfl, rfl, (by (conv => whnf); (exact ⟨rfl, rfl⟩))⟩, ?_⟩
                    conv => whnf
                    refine ⟨_, ⟨rfl, rfl, (by (conv => whnf); (exact ⟨rfl, rfl⟩))⟩, ?_⟩
                    conv => whnf
                    refine ⟨_, ⟨rfl, rfl, (by (conv => whnf); (exact ⟨rfl, rfl⟩))⟩, ?_⟩
                    conv => whnf
                    refine ⟨_, ⟨rfl, rfl, (by (conv => whnf); (exact ⟨rfl, rfl⟩))⟩, ?_⟩
                    conv => whnf
                    refine ⟨_, (fun H => by (conv => whnf); (exact ⟨rfl, rfl⟩)), ?_⟩
                    conv => whnf
                    refine ⟨_, (fun H => by (conv => whnf); (exact ⟨rfl, rfl⟩)), ?_⟩
                    conv => whnf
                    refine condS_bif h (fun hb25 h => ?_) (fun hb25 h => ?_)
                    · conv => whnf
                      refine ⟨_, (fun H => by (conv => whnf); (exact ⟨rfl, rfl⟩)), ?_⟩
                      conv => whnf
                      refine ⟨_, (fun H => by (conv => whnf); (exact ⟨rfl, rfl⟩)), ?_⟩
                      conv => whnf
                      cases h
                      exact Wk.mk2 [0] 2 rfl rfl (by decide) rfl ⟨⟨rfl, rfl⟩, trivial⟩ ⟨⟨rfl, rfl⟩, ⟨rfl, rfl⟩, ⟨rfl, rfl⟩, ⟨rfl, rfl⟩, trivial⟩
                    · conv => whnf
                      refine ⟨_, ⟨rfl, rfl, (by (conv => whnf); (exact ⟨rfl, rfl⟩))⟩, ?_⟩
                      conv => whnf
                      refine ⟨_, ⟨rfl, rfl, (by (conv => whnf); (exact ⟨rfl, rfl⟩))⟩, ?_⟩
                      conv => whnf
                      refine ⟨_, (fun H => by (conv => whnf); (exact ⟨rfl, rfl⟩)), ?_⟩
                      conv => whnf
                      refine ⟨_, (fun H => by (conv => whnf); (refine arS_raw ?_); (conv => whnf); (exact ⟨rfl, rfl⟩)), ?_⟩
                      conv => whnf
                      obtain ⟨x_26, hx_26, h⟩ := bind_some h
                      refine ⟨_, ⟨rfl, rfl, (by (conv => whnf); (refine ixP_of hx_26 ?_); (conv => whnf); (exact ⟨rfl, rfl⟩))⟩, ?_⟩
                      conv => whnf
                      refine ⟨_, ⟨rfl, rfl, (by (conv => whnf); (exact ⟨rfl, rfl⟩))⟩, ?_⟩
                      conv => whnf
                      refine ⟨_, ⟨rfl, rfl, (by (conv => whnf); (exact ⟨rfl, rfl⟩))⟩, ?_⟩
                      conv => whnf
                      refine ⟨_, ⟨rfl, rfl, (by (conv => whnf); (exact ⟨rfl, rfl⟩))⟩, ?_⟩
                      conv => whnf
                      refine ⟨_, ⟨rfl, rfl, (by (conv => whnf); (exact ⟨rfl, rfl⟩))⟩, ?_⟩
                      conv => whnf
                      refine ⟨_, (fun H => by (conv => whnf); (exact ⟨rfl, rfl⟩)), ?_⟩
                      conv => whnf
                      refine ⟨_, (fun H => by (conv => whnf); (exact ⟨rfl, rfl⟩)), ?_⟩
                      conv => whnf
                      refine condS_bif h (fun hb27 h => ?_) (fun hb27 h => ?_)
                      · conv => whnf
                        refine ⟨_, ⟨rfl, rfl, (by (conv => whnf); (exact ⟨rfl, rfl⟩))⟩, ?_⟩
                        conv => whnf
                        refine ⟨_, ⟨rfl, rfl, (by (conv => whnf); (exact ⟨rfl, rfl⟩))⟩, ?_⟩
                        conv => whnf
                        refine ⟨_, (fun H => by (conv => whnf); (exact ⟨rfl, rfl⟩)), ?_⟩
                        conv => whnf
                        refine ⟨_, (fun H => by (conv => whnf); (refine arS_raw ?_); (conv => whnf); (exact ⟨rfl, rfl⟩)), ?_⟩
                        conv => whnf
                        obtain ⟨x_28, hx_28, h⟩ := bind_some h
                        refine ⟨_, ⟨rfl, rfl, (by (conv => whnf); (refine ixP_of hx_28 ?_); (conv => whnf); (exact ⟨rfl, rfl⟩))⟩, ?_⟩
                        conv => whnf
                        refine ⟨_, ⟨rfl, rfl, (by (conv => whnf); (exact ⟨rfl, rfl⟩))⟩, ?_⟩
                        conv => whnf
                        refine ⟨_, ⟨rfl, rfl, (by (conv => whnf); (exact ⟨rfl, rfl⟩))⟩, ?_⟩
                        conv => whnf
                        refine ⟨_, ⟨rfl, rfl, (by (conv => whnf); (exact ⟨rfl, rfl⟩))⟩, ?_⟩
                        conv => whnf
                        refine ⟨_, ⟨rfl, rfl, (by (conv => whnf); (exact ⟨rfl, rfl⟩))⟩, ?_⟩
                        conv => whnf
                        refine ⟨_, (fun H => by (conv => whnf); (exact ⟨rfl, rfl⟩)), ?_⟩
                        conv => whnf
                        refine ⟨_, (fun H => by (conv => whnf); (exact ⟨rfl, rfl⟩)), ?_⟩
                        conv => whnf
                        refine ⟨_, (fun H => by (conv => whnf); (exact ⟨rfl, rfl⟩)), ?_⟩
                        conv => whnf
                        refine ⟨_, (fun H => by (conv => whnf); (exact ⟨rfl, rfl⟩)), ?_⟩
                        conv => whnf
                        cases h
                        exact Wk.mk2 [0] 2 rfl rfl (by decide) rfl ⟨⟨rfl, rfl⟩, trivial⟩ ⟨⟨rfl, rfl⟩, ⟨rfl, rfl⟩, ⟨rfl, rfl⟩, ⟨rfl, rfl⟩, trivial⟩
                      · conv => whnf
                        refine ⟨_, (fun H => by (conv => whnf); (exact ⟨rfl, rfl⟩)), ?_⟩
                        conv => whnf
                        refine ⟨_, (fun H => by (conv => whnf); (exact ⟨rfl, rfl⟩)), ?_⟩
                        conv => whnf
                        refine ⟨_, (fun H => by (conv => whnf); (exact ⟨rfl, rfl⟩)), ?_⟩
                        conv => whnf
                        cases h
                        exact Wk.mk2 [0] 2 rfl rfl (by decide) rfl ⟨⟨rfl, rfl⟩, trivial⟩ ⟨⟨rfl, rfl⟩, ⟨rfl, rfl⟩, ⟨rfl, rfl⟩, ⟨rfl, rfl⟩, trivial⟩
                  · conv => whnf
                    refine ⟨_, (fun H => by (conv => whnf); (exact ⟨rfl, rfl⟩)), ?_⟩
                    conv => whnf
                    cases h
                    exact Wk.mk2 [0] 2 rfl rfl (by decide) rfl ⟨⟨rfl, rfl⟩, trivial⟩ ⟨⟨rfl, rfl⟩, ⟨rfl, rfl⟩, ⟨rfl, rfl⟩, ⟨rfl, rfl⟩, trivial⟩
                · clear hv22
                  conv => whnf
                  refine Tr.weak hw ?_
                  refine Tr.cond ?_
                  conv => whnf
                  refine condS_bif h (fun hb29 h => ?_) (fun hb29 h => ?_)
                  · refine Tr.seq ?_
                    refine Tr.region layOK ?_
                    conv => whnf
                    refine Tr.ret ?_
                    conv => whnf
                    cases h
                    rfl
                  · refine Tr.skip ?_
                    conv => whnf
                    refine Tr.region layOK ?_
                    conv => whnf
                    refine arS_raw ?_
                    conv => whnf
                    refine ⟨((w64 (i_12 + 1))), h, ?_⟩
                    exact Wk.mk2 [0] 1 rfl rfl (by decide) rfl ⟨⟨rfl, rfl⟩, trivial⟩ ⟨⟨rfl, rfl⟩, ⟨rfl, rfl⟩, ⟨rfl, rfl⟩, trivial⟩
        · refine Tr.exit ?_
          conv => whnf
          refine ⟨(), h, ?_⟩
          exact Wk.mk2 [0] 1 rfl rfl (by decide) rfl ⟨⟨rfl, rfl⟩, trivial⟩ ⟨⟨rfl, rfl⟩, ⟨rfl, rfl⟩, trivial⟩
      · clear h
        rintro _ h T1 H1 hw
        replace h : m_stopwatchref24_Check_J8 f_1 () = some r_2 := h
        conv => whnf
        refine Tr.weak hw ?_
        unfold m_stopwatchref24_Check_J8 at h
        refine Tr.seq ?_
        refine Tr.seq ?_
        refine Tr.region layOK ?_
        conv => whnf
        refine Tr.cutQ (α := Unit) (fun s => ([(1, .pt 0 0), (2, .d (.i .i64 0))], [some (.var [.d (.ls (List.map eTSegment f_1.Clocks.Segments)), .d (.ls (List.map (eL eI) f_1.Clocks.Far)), .d (.ls (List.map eTPair f_1.Pairs)), .d (.ls (List.map eTRunner f_1.Runners))])])) (fun s => m_stopwatchref24_Check_J7 f_1 s = some r_2) ?_ ?_
        · refine Tr.block ?_
          refine Tr.loopM (σ := Int) (fun n s => m_stopwatchref24_Check_L2 f_1 (m_stopwatchref24_Check_J7 f_1) n s) r_2 (fun s => ([(1, .pt 0 0), (2, .d (.i .i64 0)), (5, .d (.i .i64 s))], [some (.var [.d (.ls (List.map eTSegment f_1.Clocks.Segments)), .d (.ls (List.map (eL eI) f_1.Clocks.Far)), .d (.ls (List.map eTPair f_1.Pairs)), .d (.ls (List.map eTRunner f_1.Runners))])])) (((((f_1.Runners).length : Int)) - 0 : Int).toNat + 1) (0) h (fun s => rfl) (Wk.mk2 [0] 1 rfl rfl (by decide) rfl ⟨⟨rfl, rfl⟩, trivial⟩ ⟨⟨rfl, rfl⟩, ⟨rfl, rfl⟩, ⟨rfl, rfl⟩, trivial⟩) ?_
          clear h
          rintro n_32 i_31 h
          replace h : m_stopwatchref24_Check_L2 f_1 (m_stopwatchref24_Check_J7 f_1) (n_32 + 1) i_31 = some r_2 := h
          rw [m_stopwatchref24_Check_L2] at h
          refine Tr.seq ?_
          refine Tr.seq ?_
          refine Tr.region layOK ?_
          conv => whnf
          refine lnS_map ?_
          conv => whnf
          refine Tr.cond ?_
          conv => whnf
          refine condS_bif h (fun hb35 h => ?_) (fun hb35 h => ?_)
          · refine Tr.skip ?_
            conv => whnf
            refine Tr.seq ?_
            refine Tr.block ?_
            refine Tr.seq ?_
            refine Tr.region layOK ?_
            conv => whnf
            obtain ⟨x_36, hx_36, h⟩ := bind_some h
            refine ixP_of hx_36 ?_
            conv => whnf
            refine Tr.seq ?_
            refine Tr.seq ?_
            obtain ⟨v_37, hv38, h⟩ := bind_some h
            refine Tr.cutQ1 ([(1, .pt 0 0), (2, .d (.i .i64 0)), (5, .d (.i .i64 i_31)), (6, .pt 1 0), (149, .d (.b v_37))]) ([some (.var [.d (.ls (List.map eTSegment f_1.Clocks.Segments)), .d (.ls (List.map (eL eI) f_1.Clocks.Far)), .d (.ls (List.map eTPair f_1.Pairs)), .d (.ls (List.map eTRunner f_1.Runners))]), some (.var [.d (.i .i64 x_36.Bib), .d (.ls (List.map eI x_36.Keys)), .d (.ls (List.map (eL eTOutcome) x_36.Worlds))])]) ?_ (fun T1 H1 hw => ?_)
            · replace h := hv38; clear hv38
              refine Tr.draw (DrawP.seqQ layOK mixed [] [(0, 4), (1, 4), (2, 1), (3, 1), (4, 1), (5, 1), (6, 1), (7, 1), (8, 3), (9, 3), (10, 1), (11, 1), (12, 2), (13, 2), (14, 2), (15, 4), (16, 4), (17, 1), (18, 1), (19, 1), (20, 1), (21, 4), (22, 4), (23, 2), (24, 3), (25, 3), (26, 2), (27, 2), (28, 2), (29, 2), (30, 1), (31, 1), (32, 1), (33, 4), (34, 4), (35, 2), (36, 3), (37, 3), (38, 2), (39, 1), (40, 1), (41, 1)] (by kernel_rfl) ?_)
              conv => whnf
              refine ⟨_, ⟨rfl, rfl, (by (conv => whnf); (exact ⟨rfl, rfl⟩))⟩, ?_⟩
              conv => whnf
              refine ⟨_, ⟨rfl, rfl, (by (conv => whnf); (exact ⟨rfl, rfl⟩))⟩, ?_⟩
              conv => whnf
              obtain ⟨r_39, hc40, h⟩ := bind_some h
              refine ⟨_, (fun H => by (conv => whnf); (refine PC.ecall (s_stopwatchref12_Bib x_36.Bib r_39 hc40) (fun rs hrs => ?_)); (subst hrs); (conv => whnf); (exact ⟨rfl, rfl⟩)), ?_⟩
              conv => whnf
              refine ⟨_, (fun H => by (conv => whnf); (exact ⟨rfl, rfl⟩)), ?_⟩
              conv => whnf
              refine ⟨_, (fun H => by (conv => whnf); (exact ⟨rfl, rfl⟩)), ?_⟩
              conv => whnf
              refine condS_bif h (fun hb41 h => ?_) (fun hb41 h => ?_)
              · conv => whnf
                refine ⟨_, (fun H => by (conv => whnf); (exact ⟨rfl, rfl⟩)), ?_⟩
                conv => whnf
                refine ⟨_, (fun H => by (conv => whnf); (exact ⟨rfl, rfl⟩)), ?_⟩
                conv => whnf
                refine ⟨_, (fun H => by (conv => whnf); (exact ⟨rfl, rfl⟩)), ?_⟩
                conv => whnf
                refine ⟨_, (fun H => by (conv => whnf); (exact ⟨rfl, rfl⟩)), ?_⟩
                conv => whnf
                refine ⟨_, (fun H => by (conv => whnf); (exact ⟨rfl, rfl⟩)), ?_⟩
                conv => whnf
                cases h
                exact Wk.mk2 [0, 1] 2 rfl rfl (by decide) rfl ⟨⟨rfl, rfl⟩, ⟨rfl, rfl⟩, trivial⟩ ⟨⟨rfl, rfl⟩, ⟨rfl, rfl⟩, ⟨rfl, rfl⟩, ⟨rfl, rfl⟩, ⟨rfl, rfl⟩, trivial⟩
              · conv => whnf
                refine ⟨_, (fun H => by (conv => whnf); (exact ⟨rfl, rfl⟩)), ?_⟩
                conv => whnf
                refine ⟨_, (fun H => by (conv => whnf); (exact ⟨rfl, rfl⟩)), ?_⟩
                conv => whnf
                refine ⟨_, (fun H => by (conv => whnf); (exact ⟨rfl, rfl⟩)), ?_⟩
                conv => whnf
                refine condS_bif h (fun hb42 h => ?_) (fun hb42 h => ?_)
                · conv => whnf
                  refine ⟨_, ⟨rfl, rfl, (by (conv => whnf); (exact ⟨rfl, rfl⟩))⟩, ?_⟩
                  conv => whnf
                  refine ⟨_, ⟨rfl, rfl, (by (conv => whnf); (exact ⟨rfl, rfl⟩))⟩, ?_⟩
                  conv => whnf
                  refine ⟨_, (fun H => by (conv => whnf); (exact ⟨rfl, rfl⟩)), ?_⟩
                  conv => whnf
                  refine ⟨_, (fun H => by (conv => whnf); (refine arS_raw ?_); (conv => whnf); (exact ⟨rfl, rfl⟩)), ?_⟩
                  conv => whnf
                  obtain ⟨x_43, hx_43, h⟩ := bind_some h
                  refine ⟨_, ⟨rfl, rfl, (by (conv => whnf); (refine ixP_of hx_43 ?_); (conv => whnf); (exact ⟨rfl, rfl⟩))⟩, ?_⟩
                  conv => whnf
                  refine ⟨_, ⟨rfl, rfl, (by (conv => whnf); (exact ⟨rfl, rfl⟩))⟩, ?_⟩
                  conv => whnf
                  refine ⟨_, ⟨rfl, rfl, (by (conv => whnf); (exact ⟨rfl, rfl⟩))⟩, ?_⟩
                  conv => whnf
                  refine ⟨_, ⟨rfl, rfl, (by (conv => whnf); (exact ⟨rfl, rfl⟩))⟩, ?_⟩
                  conv => whnf
                  refine ⟨_, ⟨rfl, rfl, (by (conv => whnf); (exact ⟨rfl, rfl⟩))⟩, ?_⟩
                  conv => whnf
                  refine ⟨_, (fun H => by (conv => whnf); (exact ⟨rfl, rfl⟩)), ?_⟩
                  conv => whnf
                  refine ⟨_, (fun H => by (conv => whnf); (exact ⟨rfl, rfl⟩)), ?_⟩
                  conv => whnf
                  refine ⟨_, (fun H => by (conv => whnf); (exact ⟨rfl, rfl⟩)), ?_⟩
                  conv => whnf
                  refine ⟨_, (fun H => by (conv => whnf); (exact ⟨rfl, rfl⟩)), ?_⟩
                  conv => whnf
                  refine condS_bif h (fun hb44 h => ?_) (fun hb44 h => ?_)
                  · conv => whnf
                    refine ⟨_, (fun H => by (conv => whnf); (exact ⟨rfl, rfl⟩)), ?_⟩
                    conv => whnf
                    refine ⟨_, (fun H => by (conv => whnf); (exact ⟨rfl, rfl⟩)), ?_⟩
                    conv => whnf
                    refine ⟨_, (fun H => by (conv => whnf); (exact ⟨rfl, rfl⟩)), ?_⟩
                    conv => whnf
                    cases h
                    exact Wk.mk2 [0, 1] 2 rfl rfl (by decide) rfl ⟨⟨rfl, rfl⟩, ⟨rfl, rfl⟩, trivial⟩ ⟨⟨rfl, rfl⟩, ⟨rfl, rfl⟩, ⟨rfl, rfl⟩, ⟨rfl, rfl⟩, ⟨rfl, rfl⟩, trivial⟩
                  · conv => whnf
                    refine ⟨_, ⟨rfl, rfl, (by (conv => whnf); (exact ⟨rfl, rfl⟩))⟩, ?_⟩
                    conv => whnf
                    refine ⟨_, ⟨rfl, rfl, (by (conv => whnf); (exact ⟨rfl, rfl⟩))⟩, ?_⟩
                    conv => whnf
                    refine ⟨_, ⟨rfl, rfl, (by (conv => whnf); (refine lnS_map ?_); (conv => whnf); (exact ⟨rfl, rfl⟩))⟩, ?_⟩
                    conv => whnf
                    refine ⟨_, ⟨rfl, rfl, (by (conv => whnf); (exact ⟨rfl, rfl⟩))⟩, ?_⟩
                    conv => whnf
                    refine ⟨_, ⟨rfl, rfl, (by (conv => whnf); (exact ⟨rfl, rfl⟩))⟩, ?_⟩
                    conv => whnf
                    obtain ⟨x_45, hx_45, h⟩ := bind_some h
                    refine ⟨_, ⟨rfl, rfl, (by (conv => whnf); (refine ixP_of hx_45 ?_); (conv => whnf); (exact ⟨rfl, rfl⟩))⟩, ?_⟩
                    conv => whnf
                    refine ⟨_, ⟨rfl, rfl, (by (conv => whnf); (exact ⟨rfl, rfl⟩))⟩, ?_⟩
                    conv => whnf
                    refine ⟨_, ⟨rfl, rfl, (by (conv => whnf); (exact ⟨rfl, rfl⟩))⟩, ?_⟩
                    conv => whnf
                    refine ⟨_, ⟨rfl, rfl, (by (conv => whnf); (refine lnS_map ?_); (conv => whnf); (exact ⟨rfl, rfl⟩))⟩, ?_⟩
                    conv => whnf
                    refine ⟨_, (fun H => by (conv => whnf); (exact ⟨rfl, rfl⟩)), ?_⟩
                    conv => whnf
                    refine ⟨_, (fun H => by (conv => whnf); (exact ⟨rfl, rfl⟩)), ?_⟩
                    conv => whnf
                    refine ⟨_, (fun H => by (conv => whnf); (exact ⟨rfl, rfl⟩)), ?_⟩
                    conv => whnf
                    refine condS_bif h (fun hb46 h => ?_) (fun hb46 h => ?_)
                    · conv => whnf
                      refine ⟨_, (fun H => by (conv => whnf); (exact ⟨rfl, rfl⟩)), ?_⟩
                      conv => whnf
                      cases h
                      exact Wk.mk2 [0, 1] 2 rfl rfl (by decide) rfl ⟨⟨rfl, rfl⟩, ⟨rfl, rfl⟩, trivial⟩ ⟨⟨rfl, rfl⟩, ⟨rfl, rfl⟩, ⟨rfl, rfl⟩, ⟨rfl, rfl⟩, ⟨rfl, rfl⟩, trivial⟩
                    · conv => whnf
                      refine ⟨_, ⟨rfl, rfl, (by (conv => whnf); (exact ⟨rfl, rfl⟩))⟩, ?_⟩
                      conv => whnf
                      refine ⟨_, ⟨rfl, rfl, (by (conv => whnf); (exact ⟨rfl, rfl⟩))⟩, ?_⟩
                      conv => whnf
                      refine ⟨_, ⟨rfl, rfl, (by (conv => whnf); (refine lnS_map ?_); (conv => whnf); (exact ⟨rfl, rfl⟩))⟩, ?_⟩
                      conv => whnf
                      refine ⟨_, ⟨rfl, rfl, (by (conv => whnf); (exact ⟨rfl, rfl⟩))⟩, ?_⟩
                      conv => whnf
                      refine ⟨_, ⟨rfl, rfl, (by (conv => whnf); (exact ⟨rfl, rfl⟩))⟩, ?_⟩
                      conv => whnf
                      refine ⟨_, ⟨rfl, rfl, (by (conv => whnf); (refine lnS_map ?_); (conv => whnf); (exact ⟨rfl, rfl⟩))⟩, ?_⟩
                      conv => whnf
                      refine ⟨_, (fun H => by (conv => whnf); (refine arS_raw ?_); (conv => whnf); (exact ⟨rfl, rfl⟩)), ?_⟩
                      conv => whnf
                      refine ⟨_, (fun H => by (conv => whnf); (exact ⟨rfl, rfl⟩)), ?_⟩
                      conv => whnf
                      refine ⟨_, (fun H => by (conv => whnf); (exact ⟨rfl, rfl⟩)), ?_⟩
                      conv => whnf
                      cases h
                      exact Wk.mk2 [0, 1] 2 rfl rfl (by decide) rfl ⟨⟨rfl, rfl⟩, ⟨rfl, rfl⟩, trivial⟩ ⟨⟨rfl, rfl⟩, ⟨rfl, rfl⟩, ⟨rfl, rfl⟩, ⟨rfl, rfl⟩, ⟨rfl, rfl⟩, trivial⟩
                · conv => whnf
                  refine ⟨_, (fun H => by (conv => whnf); (exact ⟨rfl, rfl⟩)), ?_⟩
                  conv => whnf
                  refine ⟨_, (fun H => by (conv => whnf); (exact ⟨rfl, rfl⟩)), ?_⟩
                  conv => whnf
                  refine ⟨_, (fun H => by (conv => whnf); (exact ⟨rfl, rfl⟩)), ?_⟩
                  conv => whnf
                  refine ⟨_, ⟨rfl, rfl, (by (conv => whnf); (exact ⟨rfl, rfl⟩))⟩, ?_⟩
                  conv => whnf
                  refine ⟨_, ⟨rfl, rfl, (by (conv => whnf); (exact ⟨rfl, rfl⟩))⟩, ?_⟩
                  conv => whnf
                  refine ⟨_, ⟨rfl, rfl, (by (conv => whnf); (refine lnS_map ?_); (conv => whnf); (exact ⟨rfl, rfl⟩))⟩, ?_⟩
                  conv => whnf
                  refine ⟨_, ⟨rfl, rfl, (by (conv => whnf); (exact ⟨rfl, rfl⟩))⟩, ?_⟩
                  conv => whnf
                  refine ⟨_, ⟨rfl, rfl, (by (conv => whnf); (exact ⟨rfl, rfl⟩))⟩, ?_⟩
                  conv => whnf
                  obtain ⟨x_47, hx_47, h⟩ := bind_some h
                  refine ⟨_, ⟨rfl, rfl, (by (conv => whnf); (refine ixP_of hx_47 ?_); (conv => whnf); (exact ⟨rfl, rfl⟩))⟩, ?_⟩
                  conv => whnf
                  refine ⟨_, ⟨rfl, rfl, (by (conv => whnf); (exact ⟨rfl, rfl⟩))⟩, ?_⟩
                  conv => whnf
                  refine ⟨_, ⟨rfl, rfl, (by (conv => whnf); (exact ⟨rfl, rfl⟩))⟩, ?_⟩
                  conv => whnf
                  refine ⟨_, ⟨rfl, rfl, (by (conv => whnf); (refine lnS_map ?_); (conv => whnf); (exact ⟨rfl, rfl⟩))⟩, ?_⟩
                  conv => whnf
                  refine ⟨_, (fun H => by (conv => whnf); (exact ⟨rfl, rfl⟩)), ?_⟩
                  conv => whnf
                  refine ⟨_, (fun H => by (conv => whnf); (exact ⟨rfl, rfl⟩)), ?_⟩
                  conv => whnf
                  refine ⟨_, (fun H => by (conv => whnf); (exact ⟨rfl, rfl⟩)), ?_⟩
                  conv => whnf
                  refine condS_bif h (fun hb48 h => ?_) (fun hb48 h => ?_)
                  · conv => whnf
                    refine ⟨_, (fun H => by (conv => whnf); (exact ⟨rfl, rfl⟩)), ?_⟩
                    conv => whnf
                    cases h
                    exact Wk.mk2 [0, 1] 2 rfl rfl (by decide) rfl ⟨⟨rfl, rfl⟩, ⟨rfl, rfl⟩, trivial⟩ ⟨⟨rfl, rfl⟩, ⟨rfl, rfl⟩, ⟨rfl, rfl⟩, ⟨rfl, rfl⟩, ⟨rfl, rfl⟩, trivial⟩
                  · conv => whnf
                    refine ⟨_, ⟨rfl, rfl, (by (conv => whnf); (exact ⟨rfl, rfl⟩))⟩, ?_⟩
                    conv => whnf
                    refine ⟨_, ⟨rfl, rfl, (by (conv => whnf); (exact ⟨rfl, rfl⟩))⟩, ?_⟩
                    conv => whnf
                    refine ⟨_, ⟨rfl, rfl, (by (conv => whnf); (refine lnS_map ?_); (conv => whnf); (exact ⟨rfl, rfl⟩))⟩, ?_⟩
                    conv => whnf
                    refine ⟨_, ⟨rfl, rfl, (by (conv => whnf); (exact ⟨rfl, rfl⟩))⟩, ?_⟩
                    conv => whnf
                    refine ⟨_, ⟨rfl, rfl, (by (conv => whnf); (exact ⟨rfl, rfl⟩))⟩, ?_⟩
                    conv => whnf
                    refine ⟨_, ⟨rfl, rfl, (by (conv => whnf); (refine lnS_map ?_); (conv => whnf); (exact ⟨rfl, rfl⟩))⟩, ?_⟩
                    conv => whnf
                    refine ⟨_, (fun H => by (conv => whnf); (refine arS_raw ?_); (conv => whnf); (exact ⟨rfl, rfl⟩)), ?_⟩
                    conv => whnf
                    refine ⟨_, (fun H => by (conv => whnf); (exact ⟨rfl, rfl⟩)), ?_⟩
                    conv => whnf
                    refine ⟨_, (fun H => by (conv => whnf); (exact ⟨rfl, rfl⟩)), ?_⟩
                    conv => whnf
                    cases h
                    exact Wk.mk2 [0, 1] 2 rfl rfl (by decide) rfl ⟨⟨rfl, rfl⟩, ⟨rfl, rfl⟩, trivial⟩ ⟨⟨rfl, rfl⟩, ⟨rfl, rfl⟩, ⟨rfl, rfl⟩, ⟨rfl, rfl⟩, ⟨rfl, rfl⟩, trivial⟩
            · clear hv38
              conv => whnf
              refine Tr.weak hw ?_
              refine Tr.cond ?_
              conv => whnf
              refine condS_bif h (fun hb49 h => ?_) (fun hb49 h => ?_)
              · refine Tr.seq ?_
                refine Tr.region layOK ?_
                conv => whnf
                refine Tr.ret ?_
                conv => whnf
                cases h
                rfl
              · refine Tr.skip ?_
                conv => whnf
                refine Tr.seq ?_
                refine Tr.region layOK ?_
                conv => whnf
                refine Tr.cutQ (α := Unit) (fun s => ([(1, .pt 0 0), (2, .d (.i .i64 0)), (5, .d (.i .i64 i_31))], [some (.var [.d (.ls (List.map eTSegment f_1.Clocks.Segments)), .d (.ls (List.map (eL eI) f_1.Clocks.Far)), .d (.ls (List.map eTPair f_1.Pairs)), .d (.ls (List.map eTRunner f_1.Runners))])])) (fun s => m_stopwatchref24_Check_J6 i_31 (m_stopwatchref24_Check_L2 f_1 (m_stopwatchref24_Check_J7 f_1) n_32) s = some r_2) ?_ ?_
                · refine Tr.block ?_
                  refine Tr.loopM (σ := Int) (fun n s => m_stopwatchref24_Check_L3 f_1 x_36 (m_stopwatchref24_Check_J6 i_31 (m_stopwatchref24_Check_L2 f_1 (m_stopwatchref24_Check_J7 f_1) n_32)) n s) r_2 (fun s => ([(1, .pt 0 0), (2, .d (.i .i64 0)), (5, .d (.i .i64 i_31)), (6, .pt 1 0), (7, .d (.i .i64 s))], [some (.var [.d (.ls (List.map eTSegment f_1.Clocks.Segments)), .d (.ls (List.map (eL eI) f_1.Clocks.Far)), .d (.ls (List.map eTPair f_1.Pairs)), .d (.ls (List.map eTRunner f_1.Runners))]), some (.var [.d (.i .i64 x_36.Bib), .d (.ls (List.map eI x_36.Keys)), .d (.ls (List.map (eL eTOutcome) x_36.Worlds))])])) (((((x_36.Worlds).length : Int)) - 0 : Int).toNat + 1) (0) h (fun s => rfl) (Wk.mk2 [0, 1] 2 rfl rfl (by decide) rfl ⟨⟨rfl, rfl⟩, ⟨rfl, rfl⟩, trivial⟩ ⟨⟨rfl, rfl⟩, ⟨rfl, rfl⟩, ⟨rfl, rfl⟩, ⟨rfl, rfl⟩, ⟨rfl, rfl⟩, trivial⟩) ?_
                  clear h
                  rintro n_52 w_51 h
                  replace h : m_stopwatchref24_Check_L3 f_1 x_36 (m_stopwatchref24_Check_J6 i_31 (m_stopwatchref24_Check_L2 f_1 (m_stopwatchref24_Check_J7 f_1) n_32)) (n_52 + 1) w_51 = some r_2 := h
                  rw [m_stopwatchref24_Check_L3] at h
                  refine Tr.seq ?_
                  refine Tr.seq ?_
                  refine Tr.region layOK ?_
                  conv => whnf
                  refine lnS_map ?_
                  conv => whnf
                  refine Tr.cond ?_
                  conv => whnf
                  refine condS_bif h (fun hb55 h => ?_) (fun hb55 h => ?_)
                  · refine Tr.skip ?_
                    conv => whnf
                    refine Tr.seq ?_
                    refine Tr.block ?_
                    refine Tr.seq ?_
                    refine Tr.region layOK ?_
                    conv => whnf
                    refine Tr.cutQ (α := Unit) (fun s => ([(1, .pt 0 0), (2, .d (.i .i64 0)), (5, .d (.i .i64 i_31)), (6, .pt 1 0), (7, .d (.i .i64 w_51))], [some (.var [.d (.ls (List.map eTSegment f_1.Clocks.Segments)), .d (.ls (List.map (eL eI) f_1.Clocks.Far)), .d (.ls (List.map eTPair f_1.Pairs)), .d (.ls (List.map eTRunner f_1.Runners))]), some (.var [.d (.i .i64 x_36.Bib), .d (.ls (List.map eI x_36.Keys)), .d (.ls (List.map (eL eTOutcome) x_36.Worlds))])])) (fun s => m_stopwatchref24_Check_J5 w_51 (m_stopwatchref24_Check_L3 f_1 x_36 (m_stopwatchref24_Check_J6 i_31 (m_stopwatchref24_Check_L2 f_1 (m_stopwatchref24_Check_J7 f_1) n_32)) n_52) s = some r_2) ?_ ?_
                    · refine Tr.block ?_
                      refine Tr.loopM (σ := Int) (fun n s => m_stopwatchref24_Check_L4 f_1 x_36 w_51 (m_stopwatchref24_Check_J5 w_51 (m_stopwatchref24_Check_L3 f_1 x_36 (m_stopwatchref24_Check_J6 i_31 (m_stopwatchref24_Check_L2 f_1 (m_stopwatchref24_Check_J7 f_1) n_32)) n_52)) n s) r_2 (fun s => ([(1, .pt 0 0), (2, .d (.i .i64 0)), (5, .d (.i .i64 i_31)), (6, .pt 1 0), (7, .d (.i .i64 w_51)), (8, .d (.i .i64 s))], [some (.var [.d (.ls (List.map eTSegment f_1.Clocks.Segments)), .d (.ls (List.map (eL eI) f_1.Clocks.Far)), .d (.ls (List.map eTPair f_1.Pairs)), .d (.ls (List.map eTRunner f_1.Runners))]), some (.var [.d (.i .i64 x_36.Bib), .d (.ls (List.map eI x_36.Keys)), .d (.ls (List.map (eL eTOutcome) x_36.Worlds))])])) ((((((Option.getD (idx x_36.Worlds w_51) default)).length : Int)) - 0 : Int).toNat + 1) (0) h (fun s => rfl) (Wk.mk2 [0, 1] 2 rfl rfl (by decide) rfl ⟨⟨rfl, rfl⟩, ⟨rfl, rfl⟩, trivial⟩ ⟨⟨rfl, rfl⟩, ⟨rfl, rfl⟩, ⟨rfl, rfl⟩, ⟨rfl, rfl⟩, ⟨rfl, rfl⟩, ⟨rfl, rfl⟩, trivial⟩) ?_
                      clear h
                      rintro n_58 n_57 h
                      replace h : m_stopwatchref24_Check_L4 f_1 x_36 w_51 (m_stopwatchref24_Check_J5 w_51 (m_stopwatchref24_Check_L3 f_1 x_36 (m_stopwatchref24_Check_J6 i_31 (m_stopwatchref24_Check_L2 f_1 (m_stopwatchref24_Check_J7 f_1) n_32)) n_52)) (n_58 + 1) n_57 = some r_2 := h
                      rw [m_stopwatchref24_Check_L4] at h
                      refine Tr.seq ?_
                      refine Tr.seq ?_
                      refine Tr.region layOK ?_
                      conv => whnf
                      obtain ⟨x_61, hx_61, h⟩ := bind_some h
                      refine ixP_of hx_61 ?_
                      conv => whnf
                      refine lnS_map ?_
                      conv => whnf
                      refine Tr.cond ?_
                      conv => whnf
                      refine condS_bif h (fun hb62 h => ?_) (fun hb62 h => ?_)
                      · refine Tr.skip ?_
                        conv => whnf
                        refine Tr.seq ?_
                        refine Tr.block ?_
                        refine Tr.seq ?_
                        refine Tr.draw (DrawP.seqQ layOK mixed [] [(0, 3), (1, 3), (2, 4), (3, 4), (4, 1), (5, 2), (6, 2), (7, 1), (8, 2), (9, 2), (10, 1), (11, 1)] (by kernel_rfl) ?_)
                        conv => whnf
                        refine ⟨_, ⟨rfl, rfl, (by (conv => whnf); (exact ⟨rfl, rfl⟩))⟩, ?_⟩
                        conv => whnf
                        refine ⟨_, ⟨rfl, rfl, (by (conv => whnf); (exact ⟨rfl, rfl⟩))⟩, ?_⟩
                        conv => whnf
                        refine ⟨_, ⟨rfl, rfl, (by (conv => whnf); (exact ⟨rfl, rfl⟩))⟩, ?_⟩
                        conv => whnf
                        refine ⟨_, ⟨rfl, rfl, (by (conv => whnf); (exact ⟨rfl, rfl⟩))⟩, ?_⟩
                        conv => whnf
                        refine ⟨_, (fun H => by (conv => whnf); (exact ⟨rfl, rfl⟩)), ?_⟩
                        conv => whnf
                        obtain ⟨x_63, hx_63, h⟩ := bind_some h
                        refine ⟨_, ⟨rfl, rfl, (by (conv => whnf); (refine ixP_of hx_63 ?_); (conv => whnf); (exact ⟨rfl, rfl⟩))⟩, ?_⟩
                        conv => whnf
                        refine ⟨_, ⟨rfl, rfl, (by (conv => whnf); (exact ⟨rfl, rfl⟩))⟩, ?_⟩
                        conv => whnf
                        refine ⟨_, (fun H => by (conv => whnf); (exact ⟨rfl, rfl⟩)), ?_⟩
                        conv => whnf
                        obtain ⟨x_64, hx_64, h⟩ := bind_some h
                        refine ⟨_, ⟨rfl, rfl, (by (conv => whnf); (refine ixP_of hx_64 ?_); (conv => whnf); (exact ⟨rfl, rfl⟩))⟩, ?_⟩
                        conv => whnf
                        refine ⟨_, ⟨rfl, rfl, (by (conv => whnf); (exact ⟨rfl, rfl⟩))⟩, ?_⟩
                        conv => whnf
                        obtain ⟨r_65, hc66, h⟩ := bind_some h
                        refine ⟨_, (fun H => by (conv => whnf); (refine PC.ecall (s_stopwatchref23_Check f_1.Clocks x_64 r_65 hc66) (fun rs hrs => ?_)); (subst hrs); (conv => whnf); (exact ⟨rfl, rfl⟩)), ?_⟩
                        conv => whnf
                        refine ⟨_, (fun H => by (conv => whnf); (exact ⟨rfl, rfl⟩)), ?_⟩
                        conv => whnf
                        refine Tr.cond ?_
                        conv => whnf
                        refine condS_bif h (fun hb67 h => ?_) (fun hb67 h => ?_)
                        · refine Tr.seq ?_
                          refine Tr.region layOK ?_
                          conv => whnf
                          refine Tr.ret ?_
                          conv => whnf
                          cases h
                          rfl
                        · refine Tr.skip ?_
                          conv => whnf
                          refine Tr.region layOK ?_
                          conv => whnf
                          refine arS_raw ?_
                          conv => whnf
                          refine ⟨((w64 (n_57 + 1))), h, ?_⟩
                          exact Wk.mk2 [0, 1] 2 rfl rfl (by decide) rfl ⟨⟨rfl, rfl⟩, ⟨rfl, rfl⟩, trivial⟩ ⟨⟨rfl, rfl⟩, ⟨rfl, rfl⟩, ⟨rfl, rfl⟩, ⟨rfl, rfl⟩, ⟨rfl, rfl⟩, ⟨rfl, rfl⟩, trivial⟩
                      · refine Tr.exit ?_
                        conv => whnf
                        refine ⟨(), h, ?_⟩
                        exact Wk.mk2 [0, 1] 2 rfl rfl (by decide) rfl ⟨⟨rfl, rfl⟩, ⟨rfl, rfl⟩, trivial⟩ ⟨⟨rfl, rfl⟩, ⟨rfl, rfl⟩, ⟨rfl, rfl⟩, ⟨rfl, rfl⟩, ⟨rfl, rfl⟩, trivial⟩
                    · clear h
                      rintro _ h T1 H1 hw
                      replace h : m_stopwatchref24_Check_J5 w_51 (m_stopwatchref24_Check_L3 f_1 x_36 (m_stopwatchref24_Check_J6 i_31 (m_stopwatchref24_Check_L2 f_1 (m_stopwatchref24_Check_J7 f_1) n_32)) n_52) () = some r_2 := h
                      conv => whnf
                      refine Tr.weak hw ?_
                      unfold m_stopwatchref24_Check_J5 at h
                      refine Tr.region layOK ?_
                      conv => whnf
                      refine arS_raw ?_
                      conv => whnf
                      refine ⟨((w64 (w_51 + 1))), h, ?_⟩
                      exact Wk.mk2 [0, 1] 2 rfl rfl (by decide) rfl ⟨⟨rfl, rfl⟩, ⟨rfl, rfl⟩, trivial⟩ ⟨⟨rfl, rfl⟩, ⟨rfl, rfl⟩, ⟨rfl, rfl⟩, ⟨rfl, rfl⟩, ⟨rfl, rfl⟩, trivial⟩
                  · refine Tr.exit ?_
                    conv => whnf
                    refine ⟨(), h, ?_⟩
                    exact Wk.mk2 [0] 2 rfl rfl (by decide) rfl ⟨⟨rfl, rfl⟩, trivial⟩ ⟨⟨rfl, rfl⟩, ⟨rfl, rfl⟩, ⟨rfl, rfl⟩, trivial⟩
                · clear h
                  rintro _ h T1 H1 hw
                  replace h : m_stopwatchref24_Check_J6 i_31 (m_stopwatchref24_Check_L2 f_1 (m_stopwatchref24_Check_J7 f_1) n_32) () = some r_2 := h
                  conv => whnf
                  refine Tr.weak hw ?_
                  unfold m_stopwatchref24_Check_J6 at h
                  refine Tr.region layOK ?_
                  conv => whnf
                  refine arS_raw ?_
                  conv => whnf
                  refine ⟨((w64 (i_31 + 1))), h, ?_⟩
                  exact Wk.mk2 [0] 1 rfl rfl (by decide) rfl ⟨⟨rfl, rfl⟩, trivial⟩ ⟨⟨rfl, rfl⟩, ⟨rfl, rfl⟩, ⟨rfl, rfl⟩, trivial⟩
          · refine Tr.exit ?_
            conv => whnf
            refine ⟨(), h, ?_⟩
            exact Wk.mk2 [0] 1 rfl rfl (by decide) rfl ⟨⟨rfl, rfl⟩, trivial⟩ ⟨⟨rfl, rfl⟩, ⟨rfl, rfl⟩, trivial⟩
        · clear h
          rintro _ h T1 H1 hw
          replace h : m_stopwatchref24_Check_J7 f_1 () = some r_2 := h
          conv => whnf
          refine Tr.weak hw ?_
          unfold m_stopwatchref24_Check_J7 at h
          refine Tr.seq ?_
          refine Tr.seq ?_
          refine Tr.region layOK ?_
          conv => whnf
          obtain ⟨r_68, hc69, h⟩ := bind_some h
          refine PC.ecall (s_stopwatchref24_possible f_1 r_68 hc69) (fun rs hrs => ?_)
          subst hrs
          conv => whnf
          refine Tr.cond ?_
          conv => whnf
          refine condS_bif h (fun hb70 h => ?_) (fun hb70 h => ?_)
          · refine Tr.seq ?_
            refine Tr.region layOK ?_
            conv => whnf
            refine Tr.ret ?_
            conv => whnf
            cases h
            rfl
          · refine Tr.skip ?_
            conv => whnf
            refine Tr.seq ?_
            refine Tr.region layOK ?_
            conv => whnf
            refine Tr.ret ?_
            conv => whnf
            cases h
            rfl

theorem s_ranks_All (f_1 : TField) (r_2 : List TRank) (r_3 : Int) (h : m_ranks_All f_1 = some (r_2, r_3)) :
    PC prog 26 [(eTField f_1)] (fun rs => rs = [(.ls (List.map eTRank r_2)), (.i .i64 r_3)]) := by
  refine PC.of_tr (cx := ⟨25, none, lay, 0⟩) layOK func26 rfl rfl rfl rfl rfl (by simp [f26]) ?_
  unfold m_ranks_All at h
  refine Tr.seq ?_
  refine Tr.region layOK ?_
  conv => whnf
  refine Tr.seq ?_
  refine Tr.seq ?_
  refine Tr.region layOK ?_
  conv => whnf
  obtain ⟨r_4, hc5, h⟩ := bind_some h
  refine PC.ecall_lend ?_ ⟨_, _, func33, rfl, rfl⟩
  conv => whnf
  refine ⟨_, s_ranks_check f_1 ((([] : List Int))) r_4 hc5, fun rs hrs => ?_⟩
  subst hrs
  refine ⟨rfl, ?_⟩
  conv => whnf
  refine Tr.seq ?_
  refine Tr.region layOK ?_
  conv => whnf
  refine Tr.cond ?_
  conv => whnf
  refine condS_bif h (fun hb6 h => ?_) (fun hb6 h => ?_)
  · refine Tr.seq ?_
    refine Tr.region layOK ?_
    conv => whnf
    refine Tr.ret ?_
    conv => whnf
    cases h
    rfl
  · refine Tr.skip ?_
    conv => whnf
    refine Tr.seq ?_
    refine Tr.seq ?_
    refine Tr.region layOK ?_
    conv => whnf
    refine lnS_map ?_
    conv => whnf
    obtain ⟨l_12, hv19, h⟩ := bind_some h
    refine Tr.cutQ1 ([(2, .sl 0 5 0 (List.length l_12)), (3, .d (.i .i64 0))]) ([some (.arr 5 (List.map .d (List.map eTRank l_12)))]) ?_ (fun T1 H1 hw => ?_)
    · replace h := hv19; clear hv19
      refine Tr.block ?_
      refine Tr.loopM (σ := Int × List TRank) (fun n s => m_ranks_All_L1 f_1 n s.1 s.2) l_12 (fun s => ([(1, .pt 0 0), (2, .sl 1 5 0 (List.length s.2)), (3, .d (.i .i64 0)), (13, .d (.i .i64 (((f_1.Runners).length : Int)))), (14, .d (.i .i64 s.1))], [some (.var [.d (.ls (List.map eTSegment f_1.Clocks.Segments)), .d (.ls (List.map (eL eI) f_1.Clocks.Far)), .d (.ls (List.map eTPair f_1.Pairs)), .d (.ls (List.map eTRunner f_1.Runners))]), some (.arr 5 (List.map .d (List.map eTRank s.2)))])) (((((f_1.Runners).length : Int)) - 0 : Int).toNat + 1) (0, (([] : List TRank))) h (fun s => rfl) (Wk.mk2 [0, 1] 1 rfl rfl (by decide) rfl ⟨⟨rfl, rfl⟩, rfl, trivial⟩ ⟨⟨rfl, rfl⟩, ⟨rfl, (by first | rfl | (simp only [↓hb6, cond_true, cond_false, Bool.true_or, Bool.or_true, Bool.false_or, Bool.or_false, Bool.true_and, Bool.and_true, Bool.false_and, Bool.and_false, Bool.not_true, Bool.not_false]; done) | (simp only [↓hb6, cond_true, cond_false, Bool.true_or, Bool.or_true, Bool.false_or, Bool.or_false, Bool.true_and, Bool.and_true, Bool.false_and, Bool.and_false, Bool.not_true, Bool.not_false]; rfl))⟩, ⟨rfl, rfl⟩, ⟨rfl, rfl⟩, ⟨rfl, rfl⟩, trivial⟩) ?_
      clear h
      rintro n_11 ⟨v_9, l_10⟩ h
      replace h : m_ranks_All_L1 f_1 (n_11 + 1) v_9 l_10 = some l_12 := h
      rw [m_ranks_All_L1] at h
      refine Tr.seq ?_
      refine Tr.region layOK ?_
      conv => whnf
      refine Tr.seq ?_
      refine Tr.cond ?_
      conv => whnf
      refine condS_bif h (fun hb15 h => ?_) (fun hb15 h => ?_)
      · refine Tr.skip ?_
        conv => whnf
        refine Tr.seq ?_
        refine Tr.block ?_
        refine Tr.seq ?_
        refine Tr.region layOK ?_
        conv => whnf
        refine Tr.region layOK ?_
        conv => whnf
        obtain ⟨r_16, hc17, h⟩ := bind_some h
        refine PC.ecall (s_ranks_of f_1 v_9 r_16 hc17) (fun rs hrs => ?_)
        subst hrs
        conv => whnf
        refine orB_r ?_
        conv => whnf
        refine frP_no ?_
        conv => whnf
        refine eqS_mk (by first | rfl | simp) ?_
        conv => whnf
        obtain ⟨l_18, hl_18, h⟩ := bind_some h
        refine apS_of hl_18 (apq_map (f := eTRank) (l := (([r_16] : List TRank))) fun _ => rfl) (by first | rfl | simp) (by first | rfl | simp) (fun he => ?_)
        conv => whnf
        refine reS_mk (es' := List.map .d (List.map eTRank l_18)) (n' := List.length l_18) (by subst he; simp only [List.map_append, List.map_cons, List.map_nil, List.nil_append]; first | done | rfl) (by subst he; simp <;> omega) ?_
        clear he
        conv => whnf
        refine Tr.region layOK ?_
        conv => whnf
        refine arS_raw ?_
        conv => whnf
        refine ⟨((w64 (v_9 + 1)), l_18), h, ?_⟩
        exact Wk.mk2 [0, 2] 3 rfl rfl (by decide) rfl ⟨⟨rfl, rfl⟩, daS_d rfl, trivial⟩ ⟨⟨rfl, rfl⟩, ⟨rfl, (by first | rfl | (simp only [↓hb6, ↓hb15, cond_true, cond_false, Bool.true_or, Bool.or_true, Bool.false_or, Bool.or_false, Bool.true_and, Bool.and_true, Bool.false_and, Bool.and_false, Bool.not_true, Bool.not_false]; done) | (simp only [↓hb6, ↓hb15, cond_true, cond_false, Bool.true_or, Bool.or_true, Bool.false_or, Bool.or_false, Bool.true_and, Bool.and_true, Bool.false_and, Bool.and_false, Bool.not_true, Bool.not_false]; rfl))⟩, ⟨rfl, rfl⟩, ⟨rfl, rfl⟩, ⟨rfl, rfl⟩, trivial⟩
      · refine Tr.exit ?_
        conv => whnf
        cases h
        exact Wk.mk2 [1] 2 rfl rfl (by decide) rfl ⟨daS_d rfl, trivial⟩ ⟨⟨rfl, (by first | rfl | (simp only [↓hb6, ↓hb15, cond_true, cond_false, Bool.true_or, Bool.or_true, Bool.false_or, Bool.or_false, Bool.true_and, Bool.and_true, Bool.false_and, Bool.and_false, Bool.not_true, Bool.not_false]; done) | (simp only [↓hb6, ↓hb15, cond_true, cond_false, Bool.true_or, Bool.or_true, Bool.false_or, Bool.or_false, Bool.true_and, Bool.and_true, Bool.false_and, Bool.and_false, Bool.not_true, Bool.not_false]; rfl))⟩, ⟨rfl, rfl⟩, trivial⟩
    · clear hv19
      conv => whnf
      refine Tr.weak hw ?_
      refine Tr.seq ?_
      refine Tr.region layOK ?_
      conv => whnf
      refine Tr.ret ?_
      conv => whnf
      refine frE_of (f := eTRank) (l := l_12) rfl ?_
      conv => whnf
      cases h
      rfl

theorem s_stopwatchref25_SameRanks (a_1 : List TRank) (b_2 : List TRank) (r_3 : Bool) (h : m_stopwatchref25_SameRanks a_1 b_2 = some r_3) :
    PC prog 28 [(.ls (List.map eTRank a_1)), (.ls (List.map eTRank b_2))] (fun rs => rs = [(.b r_3)]) := by
  refine PC.of_tr (cx := ⟨26, none, lay, 0⟩) layOK func28 rfl rfl rfl rfl rfl (by simp [f28]) ?_
  unfold m_stopwatchref25_SameRanks at h
  refine Tr.seq ?_
  refine Tr.region layOK ?_
  conv => whnf
  refine Tr.seq ?_
  refine Tr.seq ?_
  refine Tr.region layOK ?_
  conv => whnf
  refine lnS_map ?_
  conv => whnf
  refine lnS_map ?_
  conv => whnf
  refine Tr.cond ?_
  conv => whnf
  refine condS_bif h (fun hb4 h => ?_) (fun hb4 h => ?_)
  · refine Tr.seq ?_
    refine Tr.region layOK ?_
    conv => whnf
    refine Tr.ret ?_
    conv => whnf
    cases h
    rfl
  · refine Tr.skip ?_
    conv => whnf
    refine Tr.seq ?_
    refine Tr.seq ?_
    refine Tr.region layOK ?_
    conv => whnf
    refine Tr.cutQ (α := Unit) (fun s => ([(4, .d (.b false))], [])) (fun s => m_stopwatchref25_SameRanks_J2 s = some r_3) ?_ ?_
    · refine Tr.block ?_
      refine Tr.loopM (σ := Int) (fun n s => m_stopwatchref25_SameRanks_L1 a_1 b_2 m_stopwatchref25_SameRanks_J2 n s) r_3 (fun s => ([(0, .d (.ls (List.map eTRank a_1))), (1, .d (.ls (List.map eTRank b_2))), (4, .d (.b false)), (5, .d (.i .i64 s))], [])) (((((a_1).length : Int)) - 0 : Int).toNat + 1) (0) h (fun s => rfl) (Wk.mk2 [] 0 rfl rfl (by decide) rfl trivial ⟨⟨rfl, rfl⟩, ⟨rfl, rfl⟩, ⟨rfl, rfl⟩, ⟨rfl, rfl⟩, trivial⟩) ?_
      clear h
      rintro n_7 i_6 h
      replace h : m_stopwatchref25_SameRanks_L1 a_1 b_2 m_stopwatchref25_SameRanks_J2 (n_7 + 1) i_6 = some r_3 := h
      rw [m_stopwatchref25_SameRanks_L1] at h
      refine Tr.seq ?_
      refine Tr.seq ?_
      refine Tr.region layOK ?_
      conv => whnf
      refine lnS_map ?_
      conv => whnf
      refine Tr.cond ?_
      conv => whnf
      refine condS_bif h (fun hb10 h => ?_) (fun hb10 h => ?_)
      · refine Tr.skip ?_
        conv => whnf
        refine Tr.seq ?_
        refine Tr.block ?_
        refine Tr.seq ?_
        refine Tr.draw (DrawP.seqQ layOK mixed [] [(0, 1), (1, 1), (2, 2), (3, 2), (4, 1), (5, 1), (6, 2), (7, 2), (8, 1)] (by kernel_rfl) ?_)
        conv => whnf
        refine ⟨_, (fun H => by (conv => whnf); (exact ⟨rfl, rfl⟩)), ?_⟩
        conv => whnf
        refine ⟨_, (fun H => by (conv => whnf); (exact ⟨rfl, rfl⟩)), ?_⟩
        conv => whnf
        obtain ⟨x_11, hx_11, h⟩ := bind_some h
        refine ⟨_, ⟨rfl, rfl, (by (conv => whnf); (refine ixP_of hx_11 ?_); (conv => whnf); (exact ⟨rfl, rfl⟩))⟩, ?_⟩
        conv => whnf
        refine ⟨_, ⟨rfl, rfl, (by (conv => whnf); (exact ⟨rfl, rfl⟩))⟩, ?_⟩
        conv => whnf
        refine ⟨_, (fun H => by (conv => whnf); (exact ⟨rfl, rfl⟩)), ?_⟩
        conv => whnf
        refine ⟨_, (fun H => by (conv => whnf); (exact ⟨rfl, rfl⟩)), ?_⟩
        conv => whnf
        obtain ⟨x_12, hx_12, h⟩ := bind_some h
        refine ⟨_, ⟨rfl, rfl, (by (conv => whnf); (refine ixP_of hx_12 ?_); (conv => whnf); (exact ⟨rfl, rfl⟩))⟩, ?_⟩
        conv => whnf
        refine ⟨_, ⟨rfl, rfl, (by (conv => whnf); (exact ⟨rfl, rfl⟩))⟩, ?_⟩
        conv => whnf
        refine ⟨_, (fun H => by (conv => whnf); (exact ⟨rfl, rfl⟩)), ?_⟩
        conv => whnf
        refine Tr.cond ?_
        conv => whnf
        refine condS_bif h (fun hb13 h => ?_) (fun hb13 h => ?_)
        · refine Tr.seq ?_
          refine Tr.region layOK ?_
          conv => whnf
          refine Tr.ret ?_
          conv => whnf
          cases h
          rfl
        · refine Tr.skip ?_
          conv => whnf
          refine Tr.region layOK ?_
          conv => whnf
          refine arS_raw ?_
          conv => whnf
          refine ⟨((w64 (i_6 + 1))), h, ?_⟩
          exact Wk.mk2 [] 0 rfl rfl (by decide) rfl trivial ⟨⟨rfl, rfl⟩, ⟨rfl, rfl⟩, ⟨rfl, rfl⟩, ⟨rfl, rfl⟩, trivial⟩
      · refine Tr.exit ?_
        conv => whnf
        refine ⟨(), h, ?_⟩
        exact Wk.mk2 [] 0 rfl rfl (by decide) rfl trivial ⟨⟨rfl, rfl⟩, trivial⟩
    · clear h
      rintro _ h T1 H1 hw
      replace h : m_stopwatchref25_SameRanks_J2 () = some r_3 := h
      conv => whnf
      refine Tr.weak hw ?_
      unfold m_stopwatchref25_SameRanks_J2 at h
      refine Tr.seq ?_
      refine Tr.region layOK ?_
      conv => whnf
      refine Tr.ret ?_
      conv => whnf
      cases h
      rfl

theorem s_stopwatchlaw25_RanksShifted (f_1 : TField) (by_2 : Int) (r_3 : Bool) (h : m_stopwatchlaw25_RanksShifted f_1 by_2 = some r_3) :
    PC prog 7 [(eTField f_1), (.i .i64 by_2)] (fun rs => rs = [(.b r_3)]) := by
  refine PC.of_tr (cx := ⟨111, none, lay, 0⟩) layOK func7 rfl rfl rfl rfl rfl (by simp [f7]) ?_
  unfold m_stopwatchlaw25_RanksShifted at h
  refine Tr.seq ?_
  refine Tr.region layOK ?_
  conv => whnf
  refine Tr.seq ?_
  refine Tr.seq ?_
  refine Tr.region layOK ?_
  conv => whnf
  obtain ⟨r_4, hc5, h⟩ := bind_some h
  refine PC.ecall (s_stopwatchlaw25_sane r_4 hc5) (fun rs hrs => ?_)
  subst hrs
  conv => whnf
  refine Tr.cond ?_
  conv => whnf
  refine condS_bif h (fun hb6 h => ?_) (fun hb6 h => ?_)
  · refine Tr.seq ?_
    refine Tr.region layOK ?_
    conv => whnf
    refine Tr.ret ?_
    conv => whnf
    cases h
    rfl
  · refine Tr.skip ?_
    conv => whnf
    refine Tr.seq ?_
    refine Tr.seq ?_
    refine Tr.region layOK ?_
    conv => whnf
    obtain ⟨r_7, hc8, h⟩ := bind_some h
    refine PC.ecall (s_stopwatchref25_Few f_1 r_7 hc8) (fun rs hrs => ?_)
    subst hrs
    conv => whnf
    refine condS_bif h (fun hb9 h => ?_) (fun hb9 h => ?_)
    · conv => whnf
      refine Tr.cond ?_
      conv => whnf
      refine Tr.seq ?_
      refine Tr.region layOK ?_
      conv => whnf
      refine Tr.ret ?_
      conv => whnf
      cases h
      rfl
    · conv => whnf
      obtain ⟨r_10, hc11, h⟩ := bind_some h
      refine PC.ecall (s_stopwatchref24_Check f_1 r_10 hc11) (fun rs hrs => ?_)
      subst hrs
      conv => whnf
      refine Tr.cond ?_
      conv => whnf
      refine condS_bif h (fun hb12 h => ?_) (fun hb12 h => ?_)
      · refine Tr.seq ?_
        refine Tr.region layOK ?_
        conv => whnf
        refine Tr.ret ?_
        conv => whnf
        cases h
        rfl
      · refine Tr.skip ?_
        conv => whnf
        refine Tr.seq ?_
        refine Tr.region layOK ?_
        conv => whnf
        refine Tr.seq ?_
        refine Tr.region layOK ?_
        conv => whnf
        refine Tr.seq ?_
        refine Tr.region layOK ?_
        conv => whnf
        refine orB_l ?_
        conv => whnf
        refine Tr.seq ?_
        refine Tr.seq ?_
        refine Tr.region layOK ?_
        conv => whnf
        refine lnS_map ?_
        conv => whnf
        obtain ⟨l_18, hv50, h⟩ := bind_some h
        refine Tr.cutQ1 ([(2, .pt 0 0), (4, .d (.b false)), (5, .pt 1 0)]) ([some (.var [.d (.ls (List.map eTSegment f_1.Clocks.Segments)), .d (.ls (List.map (eL eI) f_1.Clocks.Far)), .d (.ls (List.map eTPair f_1.Pairs)), .d (.ls (List.map eTRunner f_1.Runners))]), some (.var [.d (.ls (List.map eTSegment f_1.Clocks.Segments)), .d (.ls (List.map (eL eI) f_1.Clocks.Far)), .d (.ls (List.map eTPair f_1.Pairs)), .sl 2 3 0 (List.length l_18)]), some (.arr 3 (List.map .d (List.map eTRunner l_18)))]) ?_ (fun T1 H1 hw => ?_)
        · replace h := hv50; clear hv50
          refine Tr.block ?_
          refine Tr.loopM (σ := Int × List TRunner) (fun n s => m_stopwatchlaw25_RanksShifted_L1 f_1 by_2 n s.1 s.2) l_18 (fun s => ([(1, .d (.i .i64 (bitK .i64 (BitVec.ofInt 64 by_2 &&& BitVec.ofInt 64 1048575)))), (2, .pt 0 0), (4, .d (.b false)), (5, .pt 1 0), (33, .d (.ls (List.map eTRunner f_1.Runners))), (34, .d (.i .i64 (((f_1.Runners).length : Int)))), (35, .d (.i .i64 s.1))], [some (.var [.d (.ls (List.map eTSegment f_1.Clocks.Segments)), .d (.ls (List.map (eL eI) f_1.Clocks.Far)), .d (.ls (List.map eTPair f_1.Pairs)), .d (.ls (List.map eTRunner f_1.Runners))]), some (.var [.d (.ls (List.map eTSegment f_1.Clocks.Segments)), .d (.ls (List.map (eL eI) f_1.Clocks.Far)), .d (.ls (List.map eTPair f_1.Pairs)), .sl 2 3 0 (List.length s.2)]), some (.arr 3 (List.map .d (List.map eTRunner s.2)))])) (((((f_1.Runners).length : Int)) - 0 : Int).toNat + 1) (0, (([] : List TRunner))) h (fun s => rfl) (Wk.mk2 [0, 1, 2] 2 rfl rfl (by decide) rfl ⟨⟨rfl, rfl⟩, ⟨rfl, (by first | rfl | (simp only [↓hb6, ↓hb9, ↓hb12, cond_true, cond_false, Bool.true_or, Bool.or_true, Bool.false_or, Bool.or_false, Bool.true_and, Bool.and_true, Bool.false_and, Bool.and_false, Bool.not_true, Bool.not_false]; done) | (simp only [↓hb6, ↓hb9, ↓hb12, cond_true, cond_false, Bool.true_or, Bool.or_true, Bool.false_or, Bool.or_false, Bool.true_and, Bool.and_true, Bool.false_and, Bool.and_false, Bool.not_true, Bool.not_false]; rfl))⟩, rfl, trivial⟩ ⟨⟨rfl, rfl⟩, ⟨rfl, rfl⟩, ⟨rfl, rfl⟩, ⟨rfl, rfl⟩, ⟨rfl, rfl⟩, ⟨rfl, rfl⟩, ⟨rfl, rfl⟩, trivial⟩) ?_
          clear h
          rintro n_17 ⟨v_15, l_16⟩ h
          replace h : m_stopwatchlaw25_RanksShifted_L1 f_1 by_2 (n_17 + 1) v_15 l_16 = some l_18 := h
          rw [m_stopwatchlaw25_RanksShifted_L1] at h
          refine Tr.seq ?_
          refine Tr.region layOK ?_
          conv => whnf
          refine Tr.seq ?_
          refine Tr.cond ?_
          conv => whnf
          refine condS_bif h (fun hb21 h => ?_) (fun hb21 h => ?_)
          · refine Tr.skip ?_
            conv => whnf
            refine Tr.seq ?_
            refine Tr.block ?_
            refine Tr.seq ?_
            refine Tr.region layOK ?_
            conv => whnf
            obtain ⟨x_22, hx_22, h⟩ := bind_some h
            refine ixP_of hx_22 ?_
            conv => whnf
            refine Tr.seq ?_
            refine Tr.region layOK ?_
            conv => whnf
            refine Tr.seq ?_
            refine Tr.region layOK ?_
            conv => whnf
            refine orB_l ?_
            conv => whnf
            refine Tr.seq ?_
            refine Tr.seq ?_
            refine Tr.region layOK ?_
            conv => whnf
            refine lnS_map ?_
            conv => whnf
            obtain ⟨l_28, hv48, h⟩ := bind_some h
            refine Tr.cutQ1 ([(1, .d (.i .i64 (bitK .i64 (BitVec.ofInt 64 by_2 &&& BitVec.ofInt 64 1048575)))), (2, .pt 0 0), (4, .d (.b false)), (5, .pt 1 0), (8, .pt 2 0), (33, .d (.ls (List.map eTRunner f_1.Runners))), (34, .d (.i .i64 (((f_1.Runners).length : Int)))), (35, .d (.i .i64 v_15))]) ([some (.var [.d (.ls (List.map eTSegment f_1.Clocks.Segments)), .d (.ls (List.map (eL eI) f_1.Clocks.Far)), .d (.ls (List.map eTPair f_1.Pairs)), .d (.ls (List.map eTRunner f_1.Runners))]), some (.var [.d (.ls (List.map eTSegment f_1.Clocks.Segments)), .d (.ls (List.map (eL eI) f_1.Clocks.Far)), .d (.ls (List.map eTPair f_1.Pairs)), .sl 3 3 0 (List.length l_16)]), some (.var [.d (.i .i64 x_22.Bib), .d (.ls (List.map eI x_22.Keys)), .sl 4 1 0 (List.length l_28)]), some (.arr 3 (List.map .d (List.map eTRunner l_16))), some (.arr 1 (List.map .d (List.map (eL eTOutcome) l_28)))]) ?_ (fun T1 H1 hw => ?_)
            · replace h := hv48; clear hv48
              refine Tr.block ?_
              refine Tr.loopM (σ := Int × List (List TOutcome)) (fun n s => m_stopwatchlaw25_RanksShifted_L2 by_2 x_22 n s.1 s.2) l_28 (fun s => ([(1, .d (.i .i64 (bitK .i64 (BitVec.ofInt 64 by_2 &&& BitVec.ofInt 64 1048575)))), (2, .pt 0 0), (4, .d (.b false)), (5, .pt 1 0), (8, .pt 2 0), (33, .d (.ls (List.map eTRunner f_1.Runners))), (34, .d (.i .i64 (((f_1.Runners).length : Int)))), (35, .d (.i .i64 v_15)), (42, .d (.ls (List.map (eL eTOutcome) x_22.Worlds))), (43, .d (.i .i64 (((x_22.Worlds).length : Int)))), (44, .d (.i .i64 s.1))], [some (.var [.d (.ls (List.map eTSegment f_1.Clocks.Segments)), .d (.ls (List.map (eL eI) f_1.Clocks.Far)), .d (.ls (List.map eTPair f_1.Pairs)), .d (.ls (List.map eTRunner f_1.Runners))]), some (.var [.d (.ls (List.map eTSegment f_1.Clocks.Segments)), .d (.ls (List.map (eL eI) f_1.Clocks.Far)), .d (.ls (List.map eTPair f_1.Pairs)), .sl 3 3 0 (List.length l_16)]), some (.var [.d (.i .i64 x_22.Bib), .d (.ls (List.map eI x_22.Keys)), .sl 4 1 0 (List.length s.2)]), some (.arr 3 (List.map .d (List.map eTRunner l_16))), some (.arr 1 (List.map .d (List.map (eL eTOutcome) s.2)))])) (((((x_22.Worlds).length : Int)) - 0 : Int).toNat + 1) (0, (([] : List (List TOutcome)))) h (fun s => rfl) (Wk.mk2 [0, 1, 4, 2, 5] 5 rfl rfl (by decide) rfl ⟨⟨rfl, rfl⟩, ⟨rfl, (by first | rfl | (simp only [↓hb6, ↓hb9, ↓hb12, ↓hb21, cond_true, cond_false, Bool.true_or, Bool.or_true, Bool.false_or, Bool.or_false, Bool.true_and, Bool.and_true, Bool.false_and, Bool.and_false, Bool.not_true, Bool.not_false]; done) | (simp only [↓hb6, ↓hb9, ↓hb12, ↓hb21, cond_true, cond_false, Bool.true_or, Bool.or_true, Bool.false_or, Bool.or_false, Bool.true_and, Bool.and_true, Bool.false_and, Bool.and_false, Bool.not_true, Bool.not_false]; rfl))⟩, ⟨rfl, (by first | rfl | (simp only [↓hb6, ↓hb9, ↓hb12, ↓hb21, cond_true, cond_false, Bool.true_or, Bool.or_true, Bool.false_or, Bool.or_false, Bool.true_and, Bool.and_true, Bool.false_and, Bool.and_false, Bool.not_true, Bool.not_false]; done) | (simp only [↓hb6, ↓hb9, ↓hb12, ↓hb21, cond_true, cond_false, Bool.true_or, Bool.or_true, Bool.false_or, Bool.or_false, Bool.true_and, Bool.and_true, Bool.false_and, Bool.and_false, Bool.not_true, Bool.not_false]; rfl))⟩, daS_d rfl, rfl, trivial⟩ ⟨⟨rfl, rfl⟩, ⟨rfl, rfl⟩, ⟨rfl, rfl⟩, ⟨rfl, rfl⟩, ⟨rfl, (by first | rfl | (simp only [↓hb6, ↓hb9, ↓hb12, ↓hb21, cond_true, cond_false, Bool.true_or, Bool.or_true, Bool.false_or, Bool.or_false, Bool.true_and, Bool.and_true, Bool.false_and, Bool.and_false, Bool.not_true, Bool.not_false]; done) | (simp only [↓hb6, ↓hb9, ↓hb12, ↓hb21, cond_true, cond_false, Bool.true_or, Bool.or_true, Bool.false_or, Bool.or_false, Bool.true_and, Bool.and_true, Bool.false_and, Bool.and_false, Bool.not_true, Bool.not_false]; rfl))⟩, ⟨rfl, rfl⟩, ⟨rfl, rfl⟩, ⟨rfl, rfl⟩, ⟨rfl, rfl⟩, ⟨rfl, rfl⟩, ⟨rfl, rfl⟩, trivial⟩) ?_
              clear h
              rintro n_27 ⟨v_25, l_26⟩ h
              replace h : m_stopwatchlaw25_RanksShifted_L2 by_2 x_22 (n_27 + 1) v_25 l_26 = some l_28 := h
              rw [m_stopwatchlaw25_RanksShifted_L2] at h
              refine Tr.seq ?_
              refine Tr.region layOK ?_
              conv => whnf
              refine Tr.seq ?_
              refine Tr.cond ?_
              conv => whnf
              refine condS_bif h (fun hb31 h => ?_) (fun hb31 h => ?_)
              · refine Tr.skip ?_
                conv => whnf
                refine Tr.seq ?_
                refine Tr.block ?_
                refine Tr.seq ?_
                refine Tr.region layOK ?_
                conv => whnf
                obtain ⟨x_32, hx_32, h⟩ := bind_some h
                refine ixP_of hx_32 ?_
                conv => whnf
                refine Tr.seq ?_
                refine Tr.region layOK ?_
                conv => whnf
                refine orB_l ?_
                conv => whnf
                refine Tr.seq ?_
                refine Tr.seq ?_
                refine Tr.region layOK ?_
                conv => whnf
                refine lnS_map ?_
                conv => whnf
                obtain ⟨l_38, hv46, h⟩ := bind_some h
                refine Tr.cutQ1 ([(1, .d (.i .i64 (bitK .i64 (BitVec.ofInt 64 by_2 &&& BitVec.ofInt 64 1048575)))), (2, .pt 0 0), (4, .d (.b false)), (5, .pt 1 0), (8, .pt 2 0), (11, .sl 3 4 0 (List.length l_38)), (33, .d (.ls (List.map eTRunner f_1.Runners))), (34, .d (.i .i64 (((f_1.Runners).length : Int)))), (35, .d (.i .i64 v_15)), (42, .d (.ls (List.map (eL eTOutcome) x_22.Worlds))), (43, .d (.i .i64 (((x_22.Worlds).length : Int)))), (44, .d (.i .i64 v_25))]) ([some (.var [.d (.ls (List.map eTSegment f_1.Clocks.Segments)), .d (.ls (List.map (eL eI) f_1.Clocks.Far)), .d (.ls (List.map eTPair f_1.Pairs)), .d (.ls (List.map eTRunner f_1.Runners))]), some (.var [.d (.ls (List.map eTSegment f_1.Clocks.Segments)), .d (.ls (List.map (eL eI) f_1.Clocks.Far)), .d (.ls (List.map eTPair f_1.Pairs)), .sl 4 3 0 (List.length l_16)]), some (.var [.d (.i .i64 x_22.Bib), .d (.ls (List.map eI x_22.Keys)), .sl 5 1 0 (List.length l_26)]), some (.arr 4 (List.map .d (List.map eTOutcome l_38))), some (.arr 3 (List.map .d (List.map eTRunner l_16))), some (.arr 1 (List.map .d (List.map (eL eTOutcome) l_26)))]) ?_ (fun T1 H1 hw => ?_)
                · replace h := hv46; clear hv46
                  refine Tr.block ?_
                  refine Tr.loopM (σ := Int × List TOutcome) (fun n s => m_stopwatchlaw25_RanksShifted_L3 by_2 x_32 n s.1 s.2) l_38 (fun s => ([(1, .d (.i .i64 (bitK .i64 (BitVec.ofInt 64 by_2 &&& BitVec.ofInt 64 1048575)))), (2, .pt 0 0), (4, .d (.b false)), (5, .pt 1 0), (8, .pt 2 0), (11, .sl 3 4 0 (List.length s.2)), (33, .d (.ls (List.map eTRunner f_1.Runners))), (34, .d (.i .i64 (((f_1.Runners).length : Int)))), (35, .d (.i .i64 v_15)), (42, .d (.ls (List.map (eL eTOutcome) x_22.Worlds))), (43, .d (.i .i64 (((x_22.Worlds).length : Int)))), (44, .d (.i .i64 v_25)), (49, .d (.ls (List.map eTOutcome x_32))), (50, .d (.i .i64 (((x_32).length : Int)))), (51, .d (.i .i64 s.1))], [some (.var [.d (.ls (List.map eTSegment f_1.Clocks.Segments)), .d (.ls (List.map (eL eI) f_1.Clocks.Far)), .d (.ls (List.map eTPair f_1.Pairs)), .d (.ls (List.map eTRunner f_1.Runners))]), some (.var [.d (.ls (List.map eTSegment f_1.Clocks.Segments)), .d (.ls (List.map (eL eI) f_1.Clocks.Far)), .d (.ls (List.map eTPair f_1.Pairs)), .sl 4 3 0 (List.length l_16)]), some (.var [.d (.i .i64 x_22.Bib), .d (.ls (List.map eI x_22.Keys)), .sl 5 1 0 (List.length l_26)]), some (.arr 4 (List.map .d (List.map eTOutcome s.2))), some (.arr 3 (List.map .d (List.map eTRunner l_16))), some (.arr 1 (List.map .d (List.map (eL eTOutcome) l_26)))])) (((((x_32).length : Int)) - 0 : Int).toNat + 1) (0, (([] : List TOutcome))) h (fun s => rfl) (Wk.mk2 [0, 1, 2, 5, 3, 4] 6 rfl rfl (by decide) rfl ⟨⟨rfl, rfl⟩, ⟨rfl, (by first | rfl | (simp only [↓hb6, ↓hb9, ↓hb12, ↓hb21, ↓hb31, cond_true, cond_false, Bool.true_or, Bool.or_true, Bool.false_or, Bool.or_false, Bool.true_and, Bool.and_true, Bool.false_and, Bool.and_false, Bool.not_true, Bool.not_false]; done) | (simp only [↓hb6, ↓hb9, ↓hb12, ↓hb21, ↓hb31, cond_true, cond_false, Bool.true_or, Bool.or_true, Bool.false_or, Bool.or_false, Bool.true_and, Bool.and_true, Bool.false_and, Bool.and_false, Bool.not_true, Bool.not_false]; rfl))⟩, ⟨rfl, (by first | rfl | (simp only [↓hb6, ↓hb9, ↓hb12, ↓hb21, ↓hb31, cond_true, cond_false, Bool.true_or, Bool.or_true, Bool.false_or, Bool.or_false, Bool.true_and, Bool.and_true, Bool.false_and, Bool.and_false, Bool.not_true, Bool.not_false]; done) | (simp only [↓hb6, ↓hb9, ↓hb12, ↓hb21, ↓hb31, cond_true, cond_false, Bool.true_or, Bool.or_true, Bool.false_or, Bool.or_false, Bool.true_and, Bool.and_true, Bool.false_and, Bool.and_false, Bool.not_true, Bool.not_false]; rfl))⟩, daS_d rfl, daS_d rfl, daS_d rfl, trivial⟩ ⟨⟨rfl, rfl⟩, ⟨rfl, rfl⟩, ⟨rfl, rfl⟩, ⟨rfl, rfl⟩, ⟨rfl, rfl⟩, ⟨rfl, (by first | rfl | (simp only [↓hb6, ↓hb9, ↓hb12, ↓hb21, ↓hb31, cond_true, cond_false, Bool.true_or, Bool.or_true, Bool.false_or, Bool.or_false, Bool.true_and, Bool.and_true, Bool.false_and, Bool.and_false, Bool.not_true, Bool.not_false]; done) | (simp only [↓hb6, ↓hb9, ↓hb12, ↓hb21, ↓hb31, cond_true, cond_false, Bool.true_or, Bool.or_true, Bool.false_or, Bool.or_false, Bool.true_and, Bool.and_true, Bool.false_and, Bool.and_false, Bool.not_true, Bool.not_false]; rfl))⟩, ⟨rfl, rfl⟩, ⟨rfl, rfl⟩, ⟨rfl, rfl⟩, ⟨rfl, rfl⟩, ⟨rfl, rfl⟩, ⟨rfl, rfl⟩, ⟨rfl, rfl⟩, ⟨rfl, rfl⟩, ⟨rfl, rfl⟩, trivial⟩) ?_
                  clear h
                  rintro n_37 ⟨v_35, l_36⟩ h
                  replace h : m_stopwatchlaw25_RanksShifted_L3 by_2 x_32 (n_37 + 1) v_35 l_36 = some l_38 := h
                  rw [m_stopwatchlaw25_RanksShifted_L3] at h
                  refine Tr.seq ?_
                  refine Tr.region layOK ?_
                  conv => whnf
                  refine Tr.seq ?_
                  refine Tr.cond ?_
                  conv => whnf
                  refine condS_bif h (fun hb41 h => ?_) (fun hb41 h => ?_)
                  · refine Tr.skip ?_
                    conv => whnf
                    refine Tr.seq ?_
                    refine Tr.block ?_
                    refine Tr.seq ?_
                    refine Tr.region layOK ?_
                    conv => whnf
                    obtain ⟨x_42, hx_42, h⟩ := bind_some h
                    refine ixP_of hx_42 ?_
                    conv => whnf
                    refine Tr.seq ?_
                    refine Tr.seq ?_
                    refine Tr.region layOK ?_
                    conv => whnf
                    refine Tr.cond ?_
                    conv => whnf
                    refine condS_bif h (fun hb43 h => ?_) (fun hb43 h => ?_)
                    · refine Tr.region layOK ?_
                      conv => whnf
                      refine arS_raw ?_
                      conv => whnf
                      refine arS_raw ?_
                      conv => whnf
                      refine Tr.region layOK ?_
                      conv => whnf
                      refine orB_r ?_
                      conv => whnf
                      refine frP_no ?_
                      conv => whnf
                      refine eqS_mk (by first | rfl | simp) ?_
                      conv => whnf
                      obtain ⟨l_44, hl_44, h⟩ := bind_some h
                      refine apS_of hl_44 (apq_map (f := eTOutcome) (l := (([({ Out := x_42.Out, Seg := x_42.Seg, Lo := (w64 (x_42.Lo + (bitK .i64 (BitVec.ofInt 64 by_2 &&& BitVec.ofInt 64 1048575)))), Hi := (w64 (x_42.Hi + (bitK .i64 (BitVec.ofInt 64 by_2 &&& BitVec.ofInt 64 1048575)))) } : TOutcome)] : List TOutcome))) fun _ => rfl) (by first | rfl | simp) (by first | rfl | simp) (fun he => ?_)
                      conv => whnf
                      refine reS_mk (es' := List.map .d (List.map eTOutcome l_44)) (n' := List.length l_44) (by subst he; simp only [List.map_append, List.map_cons, List.map_nil, List.nil_append]; first | done | rfl) (by subst he; simp <;> omega) ?_
                      clear he
                      conv => whnf
                      refine Tr.region layOK ?_
                      conv => whnf
                      refine arS_raw ?_
                      conv => whnf
                      refine ⟨((w64 (v_35 + 1)), l_44), h, ?_⟩
                      exact Wk.mk2 [0, 1, 2, 7, 4, 5] 8 rfl rfl (by decide) rfl ⟨⟨rfl, rfl⟩, ⟨rfl, rfl⟩, ⟨rfl, rfl⟩, daS_d rfl, daS_d rfl, daS_d rfl, trivial⟩ ⟨⟨rfl, rfl⟩, ⟨rfl, rfl⟩, ⟨rfl, rfl⟩, ⟨rfl, rfl⟩, ⟨rfl, rfl⟩, ⟨rfl, (by first | rfl | (simp only [↓hb6, ↓hb9, ↓hb12, ↓hb21, ↓hb31, ↓hb41, ↓hb43, cond_true, cond_false, Bool.true_or, Bool.or_true, Bool.false_or, Bool.or_false, Bool.true_and, Bool.and_true, Bool.false_and, Bool.and_false, Bool.not_true, Bool.not_false]; done) | (simp only [↓hb6, ↓hb9, ↓hb12, ↓hb21, ↓hb31, ↓hb41, ↓hb43, cond_true, cond_false, Bool.true_or, Bool.or_true, Bool.false_or, Bool.or_false, Bool.true_and, Bool.and_true, Bool.false_and, Bool.and_false, Bool.not_true, Bool.not_false]; rfl))⟩, ⟨rfl, rfl⟩, ⟨rfl, rfl⟩, ⟨rfl, rfl⟩, ⟨rfl, rfl⟩, ⟨rfl, rfl⟩, ⟨rfl, rfl⟩, ⟨rfl, rfl⟩, ⟨rfl, rfl⟩, ⟨rfl, rfl⟩, trivial⟩
                    · refine Tr.skip ?_
                      conv => whnf
                      refine Tr.region layOK ?_
                      conv => whnf
                      refine orB_r ?_
                      conv => whnf
                      refine frP_no ?_
                      conv => whnf
                      refine eqS_mk (by first | rfl | simp) ?_
                      conv => whnf
                      obtain ⟨l_45, hl_45, h⟩ := bind_some h
                      refine apS_of hl_45 (apq_map (f := eTOutcome) (l := (([x_42] : List TOutcome))) fun _ => rfl) (by first | rfl | simp) (by first | rfl | simp) (fun he => ?_)
                      conv => whnf
                      refine reS_mk (es' := List.map .d (List.map eTOutcome l_45)) (n' := List.length l_45) (by subst he; simp only [List.map_append, List.map_cons, List.map_nil, List.nil_append]; first | done | rfl) (by subst he; simp <;> omega) ?_
                      clear he
                      conv => whnf
                      refine Tr.region layOK ?_
                      conv => whnf
                      refine arS_raw ?_
                      conv => whnf
                      refine ⟨((w64 (v_35 + 1)), l_45), h, ?_⟩
                      exact Wk.mk2 [0, 1, 2, 7, 4, 5] 8 rfl rfl (by decide) rfl ⟨⟨rfl, rfl⟩, ⟨rfl, rfl⟩, ⟨rfl, rfl⟩, daS_d rfl, daS_d rfl, daS_d rfl, trivial⟩ ⟨⟨rfl, rfl⟩, ⟨rfl, rfl⟩, ⟨rfl, rfl⟩, ⟨rfl, rfl⟩, ⟨rfl, rfl⟩, ⟨rfl, (by first | rfl | (simp only [↓hb6, ↓hb9, ↓hb12, ↓hb21, ↓hb31, ↓hb41, ↓hb43, cond_true, cond_false, Bool.true_or, Bool.or_true, Bool.false_or, Bool.or_false, Bool.true_and, Bool.and_true, Bool.false_and, Bool.and_false, Bool.not_true, Bool.not_false]; done) | (simp only [↓hb6, ↓hb9, ↓hb12, ↓hb21, ↓hb31, ↓hb41, ↓hb43, cond_true, cond_false, Bool.true_or, Bool.or_true, Bool.false_or, Bool.or_false, Bool.true_and, Bool.and_true, Bool.false_and, Bool.and_false, Bool.not_true, Bool.not_false]; rfl))⟩, ⟨rfl, rfl⟩, ⟨rfl, rfl⟩, ⟨rfl, rfl⟩, ⟨rfl, rfl⟩, ⟨rfl, rfl⟩, ⟨rfl, rfl⟩, ⟨rfl, rfl⟩, ⟨rfl, rfl⟩, ⟨rfl, rfl⟩, trivial⟩
                  · refine Tr.exit ?_
                    conv => whnf
                    cases h
                    exact Wk.mk2 [0, 1, 2, 3, 4, 5] 6 rfl rfl (by decide) rfl ⟨⟨rfl, rfl⟩, ⟨rfl, rfl⟩, ⟨rfl, rfl⟩, daS_d rfl, daS_d rfl, daS_d rfl, trivial⟩ ⟨⟨rfl, rfl⟩, ⟨rfl, rfl⟩, ⟨rfl, rfl⟩, ⟨rfl, rfl⟩, ⟨rfl, rfl⟩, ⟨rfl, rfl⟩, ⟨rfl, rfl⟩, ⟨rfl, rfl⟩, ⟨rfl, rfl⟩, ⟨rfl, rfl⟩, ⟨rfl, rfl⟩, ⟨rfl, rfl⟩, trivial⟩
                · clear hv46
                  conv => whnf
                  refine Tr.weak hw ?_
                  refine Tr.region layOK ?_
                  conv => whnf
                  refine orB_r ?_
                  conv => whnf
                  refine frE_of (f := eTOutcome) (l := l_38) rfl ?_
                  conv => whnf
                  refine frP_no ?_
                  conv => whnf
                  refine eqS_mk (by first | rfl | simp) ?_
                  conv => whnf
                  obtain ⟨l_47, hl_47, h⟩ := bind_some h
                  refine apS_of hl_47 (apq_map (f := (eL eTOutcome)) (l := (([l_38] : List (List TOutcome)))) fun _ => rfl) (by first | rfl | simp) (by first | rfl | simp) (fun he => ?_)
                  conv => whnf
                  refine reS_mk (es' := List.map .d (List.map (eL eTOutcome) l_47)) (n' := List.length l_47) (by subst he; simp only [List.map_append, List.map_cons, List.map_nil, List.nil_append]; first | done | rfl) (by subst he; simp <;> omega) ?_
                  clear he
                  conv => whnf
                  refine orB_l ?_
                  conv => whnf
                  refine Tr.region layOK ?_
                  conv => whnf
                  refine arS_raw ?_
                  conv => whnf
                  refine ⟨((w64 (v_25 + 1)), l_47), h, ?_⟩
                  exact Wk.mk2 [0, 1, 2, 4, 6] 7 rfl rfl (by decide) rfl ⟨⟨rfl, rfl⟩, ⟨rfl, (by first | rfl | (simp only [↓hb6, ↓hb9, ↓hb12, ↓hb21, ↓hb31, cond_true, cond_false, Bool.true_or, Bool.or_true, Bool.false_or, Bool.or_false, Bool.true_and, Bool.and_true, Bool.false_and, Bool.and_false, Bool.not_true, Bool.not_false]; done) | (simp only [↓hb6, ↓hb9, ↓hb12, ↓hb21, ↓hb31, cond_true, cond_false, Bool.true_or, Bool.or_true, Bool.false_or, Bool.or_false, Bool.true_and, Bool.and_true, Bool.false_and, Bool.and_false, Bool.not_true, Bool.not_false]; rfl))⟩, ⟨rfl, (by first | rfl | (simp only [↓hb6, ↓hb9, ↓hb12, ↓hb21, ↓hb31, cond_true, cond_false, Bool.true_or, Bool.or_true, Bool.false_or, Bool.or_false, Bool.true_and, Bool.and_true, Bool.false_and, Bool.and_false, Bool.not_true, Bool.not_false]; done) | (simp only [↓hb6, ↓hb9, ↓hb12, ↓hb21, ↓hb31, cond_true, cond_false, Bool.true_or, Bool.or_true, Bool.false_or, Bool.or_false, Bool.true_and, Bool.and_true, Bool.false_and, Bool.and_false, Bool.not_true, Bool.not_false]; rfl))⟩, daS_d rfl, daS_d rfl, trivial⟩ ⟨⟨rfl, rfl⟩, ⟨rfl, rfl⟩, ⟨rfl, rfl⟩, ⟨rfl, rfl⟩, ⟨rfl, rfl⟩, ⟨rfl, rfl⟩, ⟨rfl, rfl⟩, ⟨rfl, rfl⟩, ⟨rfl, rfl⟩, ⟨rfl, rfl⟩, ⟨rfl, rfl⟩, trivial⟩
              · refine Tr.exit ?_
                conv => whnf
                cases h
                exact Wk.mk2 [0, 1, 2, 3, 4] 5 rfl rfl (by decide) rfl ⟨⟨rfl, rfl⟩, ⟨rfl, rfl⟩, ⟨rfl, rfl⟩, daS_d rfl, daS_d rfl, trivial⟩ ⟨⟨rfl, rfl⟩, ⟨rfl, rfl⟩, ⟨rfl, rfl⟩, ⟨rfl, rfl⟩, ⟨rfl, rfl⟩, ⟨rfl, rfl⟩, ⟨rfl, rfl⟩, ⟨rfl, rfl⟩, trivial⟩
            · clear hv48
              conv => whnf
              refine Tr.weak hw ?_
              refine Tr.region layOK ?_
              conv => whnf
              refine orB_r ?_
              conv => whnf
              refine frE_of (f := (eL eTOutcome)) (l := l_28) rfl ?_
              conv => whnf
              refine frP_no ?_
              conv => whnf
              refine eqS_mk (by first | rfl | simp) ?_
              conv => whnf
              obtain ⟨l_49, hl_49, h⟩ := bind_some h
              refine apS_of hl_49 (apq_map (f := eTRunner) (l := (([({ Bib := x_22.Bib, Keys := x_22.Keys, Worlds := l_28 } : TRunner)] : List TRunner))) fun _ => rfl) (by first | rfl | simp) (by first | rfl | simp) (fun he => ?_)
              conv => whnf
              refine reS_mk (es' := List.map .d (List.map eTRunner l_49)) (n' := List.length l_49) (by subst he; simp only [List.map_append, List.map_cons, List.map_nil, List.nil_append]; first | done | rfl) (by subst he; simp <;> omega) ?_
              clear he
              conv => whnf
              refine orB_l ?_
              conv => whnf
              refine Tr.region layOK ?_
              conv => whnf
              refine arS_raw ?_
              conv => whnf
              refine ⟨((w64 (v_15 + 1)), l_49), h, ?_⟩
              exact Wk.mk2 [0, 1, 5] 6 rfl rfl (by decide) rfl ⟨⟨rfl, rfl⟩, ⟨rfl, (by first | rfl | (simp only [↓hb6, ↓hb9, ↓hb12, ↓hb21, cond_true, cond_false, Bool.true_or, Bool.or_true, Bool.false_or, Bool.or_false, Bool.true_and, Bool.and_true, Bool.false_and, Bool.and_false, Bool.not_true, Bool.not_false]; done) | (simp only [↓hb6, ↓hb9, ↓hb12, ↓hb21, cond_true, cond_false, Bool.true_or, Bool.or_true, Bool.false_or, Bool.or_false, Bool.true_and, Bool.and_true, Bool.false_and, Bool.and_false, Bool.not_true, Bool.not_false]; rfl))⟩, daS_d rfl, trivial⟩ ⟨⟨rfl, rfl⟩, ⟨rfl, rfl⟩, ⟨rfl, rfl⟩, ⟨rfl, rfl⟩, ⟨rfl, rfl⟩, ⟨rfl, rfl⟩, ⟨rfl, rfl⟩, trivial⟩
          · refine Tr.exit ?_
            conv => whnf
            cases h
            exact Wk.mk2 [0, 1, 2] 3 rfl rfl (by decide) rfl ⟨⟨rfl, rfl⟩, ⟨rfl, rfl⟩, daS_d rfl, trivial⟩ ⟨⟨rfl, rfl⟩, ⟨rfl, rfl⟩, ⟨rfl, rfl⟩, trivial⟩
        · clear hv50
          conv => whnf
          refine Tr.weak hw ?_
          refine Tr.seq ?_
          refine Tr.seq ?_
          refine Tr.region layOK ?_
          conv => whnf
          obtain ⟨r_51, hc52, h⟩ := bind_some h
          refine PC.ecall_lend ?_ ⟨_, _, func15, rfl, rfl⟩
          conv => whnf
          refine frE_of (f := eTRunner) (l := l_18) rfl ?_
          conv => whnf
          refine ⟨_, s_stopwatchref24_Check ({ Clocks := f_1.Clocks, Pairs := f_1.Pairs, Runners := l_18 } : TField) r_51 hc52, fun rs hrs => ?_⟩
          subst hrs
          refine ⟨rfl, ?_⟩
          conv => whnf
          refine Tr.cond ?_
          conv => whnf
          refine condS_bif h (fun hb53 h => ?_) (fun hb53 h => ?_)
          · refine Tr.seq ?_
            refine Tr.region layOK ?_
            conv => whnf
            refine Tr.ret ?_
            conv => whnf
            cases h
            rfl
          · refine Tr.skip ?_
            conv => whnf
            refine Tr.seq ?_
            refine Tr.region layOK ?_
            conv => whnf
            obtain ⟨⟨r_54, r_55⟩, hc56, h⟩ := bind_some h
            refine PC.ecall (s_ranks_All f_1 r_54 r_55 hc56) (fun rs hrs => ?_)
            subst hrs
            conv => whnf
            refine Tr.seq ?_
            refine Tr.region layOK ?_
            conv => whnf
            obtain ⟨⟨r_57, r_58⟩, hc59, h⟩ := bind_some h
            refine PC.ecall_frz ?_ ⟨_, _, func26, rfl, rfl⟩
            conv => whnf
            refine frE_of (f := eTRunner) (l := l_18) rfl ?_
            conv => whnf
            refine ⟨_, s_ranks_All ({ Clocks := f_1.Clocks, Pairs := f_1.Pairs, Runners := l_18 } : TField) r_57 r_58 hc59, fun rs hrs => ?_⟩
            subst hrs
            conv => whnf
            refine Tr.seq ?_
            refine Tr.region layOK ?_
            conv => whnf
            refine condS_bif h (fun hb60 h => ?_) (fun hb60 h => ?_)
            · conv => whnf
              refine condS_bif h (fun hb61 h => ?_) (fun hb61 h => ?_)
              · conv => whnf
                obtain ⟨r_62, hc63, h⟩ := bind_some h
                refine PC.ecall (s_stopwatchref25_SameRanks r_54 r_57 r_62 hc63) (fun rs hrs => ?_)
                subst hrs
                conv => whnf
                refine Tr.ret ?_
                conv => whnf
                cases h
                rfl
              · conv => whnf
                refine Tr.ret ?_
                conv => whnf
                cases h
                rfl
            · conv => whnf
              refine Tr.ret ?_
              conv => whnf
              cases h
              rfl
end Go.Proofs.Try
