/- Contracts of functions, by program (gen.py). No condition. -/
import Derived.Test.YtkefiomhjjoekaaL
import Derived.Test.YtkefiomhjjoekaaM
import Derived.Test.YtkefiomhjjoekaaS4
namespace Go.Proofs.Try
open Go Go.Abs Go.Stop
set_option maxRecDepth 8000
set_option linter.unusedVariables false
set_option linter.unusedSimpArgs false

theorem s_stopwatchref07_Same (a_1 : List Int) (b_2 : List Int) (r_3 : Bool) (h : m_stopwatchref07_Same a_1 b_2 = some r_3) :
    PC prog 19 [(.ls (List.map eI a_1)), (.ls (List.map eI b_2))] (fun rs => rs = [(.b r_3)]) := by
  refine PC.of_tr (cx := ⟨26, none, lay, 0⟩) layOK func19 rfl rfl rfl rfl rfl (by simp [f19]) ?_
  unfold m_stopwatchref07_Same at h
  refine Tr.seq ?_
  refine Tr.region layOK ?_
  conv => whnf
  refine Tr.seq ?_
  refine Tr.seq ?_
  refine Tr.region layOK ?_
  conv => whnf
  refine lnS_map ?_
  conv => whnf
  refine lnS_map ?_
  conv => whnf
  refine Tr.cond ?_
  conv => whnf
  refine condS_bif h (fun hb4 h => ?_) (fun hb4 h => ?_)
  · refine Tr.seq ?_
    refine Tr.region layOK ?_
    conv => whnf
    refine Tr.ret ?_
    conv => whnf
    cases h
    rfl
  · refine Tr.skip ?_
    conv => whnf
    refine Tr.seq ?_
    refine Tr.seq ?_
    refine Tr.region layOK ?_
    conv => whnf
    refine Tr.cutQ (α := Unit) (fun s => ([(4, .d (.b false))], [])) (fun s => m_stopwatchref07_Same_J2 s = some r_3) ?_ ?_
    · refine Tr.block ?_
      refine Tr.loopM (σ := Int) (fun n s => m_stopwatchref07_Same_L1 a_1 b_2 m_stopwatchref07_Same_J2 n s) r_3 (fun s => ([(0, .d (.ls (List.map eI a_1))), (1, .d (.ls (List.map eI b_2))), (4, .d (.b false)), (5, .d (.i .i64 s))], [])) (((((a_1).length : Int)) - 0 : Int).toNat + 1) (0) h (fun s => rfl) (Wk.mk2 [] 0 rfl rfl (by decide) rfl trivial ⟨⟨rfl, rfl⟩, ⟨rfl, rfl⟩, ⟨rfl, rfl⟩, ⟨rfl, rfl⟩, trivial⟩) ?_
      clear h
      rintro n_7 i_6 h
      replace h : m_stopwatchref07_Same_L1 a_1 b_2 m_stopwatchref07_Same_J2 (n_7 + 1) i_6 = some r_3 := h
      rw [m_stopwatchref07_Same_L1] at h
      refine Tr.seq ?_
      refine Tr.seq ?_
      refine Tr.region layOK ?_
      conv => whnf
      refine lnS_map ?_
      conv => whnf
      refine Tr.cond ?_
      conv => whnf
      refine condS_bif h (fun hb10 h => ?_) (fun hb10 h => ?_)
      · refine Tr.skip ?_
        conv => whnf
        refine Tr.seq ?_
        refine Tr.block ?_
        refine Tr.seq ?_
        refine Tr.draw (DrawP.seqQ layOK mixed [] [(0, 1), (1, 1), (2, 2), (3, 2), (4, 1), (5, 1), (6, 2), (7, 2), (8, 1)] (by kernel_rfl) ?_)
        conv => whnf
        refine ⟨_, (fun H => by (conv => whnf); (exact ⟨rfl, rfl⟩)), ?_⟩
        conv => whnf
        refine ⟨_, (fun H => by (conv => whnf); (exact ⟨rfl, rfl⟩)), ?_⟩
        conv => whnf
        obtain ⟨x_11, hx_11, h⟩ := bind_some h
        refine ⟨_, ⟨rfl, rfl, (by (conv => whnf); (refine ixP_of hx_11 ?_); (conv => whnf); (exact ⟨rfl, rfl⟩))⟩, ?_⟩
        conv => whnf
        refine ⟨_, ⟨rfl, rfl, (by (conv => whnf); (exact ⟨rfl, rfl⟩))⟩, ?_⟩
        conv => whnf
        refine ⟨_, (fun H => by (conv => whnf); (exact ⟨rfl, rfl⟩)), ?_⟩
        conv => whnf
        refine ⟨_, (fun H => by (conv => whnf); (exact ⟨rfl, rfl⟩)), ?_⟩
        conv => whnf
        obtain ⟨x_12, hx_12, h⟩ := bind_some h
        refine ⟨_, ⟨rfl, rfl, (by (conv => whnf); (refine ixP_of hx_12 ?_); (conv => whnf); (exact ⟨rfl, rfl⟩))⟩, ?_⟩
        conv => whnf
        refine ⟨_, ⟨rfl, rfl, (by (conv => whnf); (exact ⟨rfl, rfl⟩))⟩, ?_⟩
        conv => whnf
        refine ⟨_, (fun H => by (conv => whnf); (exact ⟨rfl, rfl⟩)), ?_⟩
        conv => whnf
        refine Tr.cond ?_
        conv => whnf
        refine condS_bif h (fun hb13 h => ?_) (fun hb13 h => ?_)
        · refine Tr.seq ?_
          refine Tr.region layOK ?_
          conv => whnf
          refine Tr.ret ?_
          conv => whnf
          cases h
          rfl
        · refine Tr.skip ?_
          conv => whnf
          refine Tr.region layOK ?_
          conv => whnf
          refine arS_raw ?_
          conv => whnf
          refine ⟨((w64 (i_6 + 1))), h, ?_⟩
          exact Wk.mk2 [] 0 rfl rfl (by decide) rfl trivial ⟨⟨rfl, rfl⟩, ⟨rfl, rfl⟩, ⟨rfl, rfl⟩, ⟨rfl, rfl⟩, trivial⟩
      · refine Tr.exit ?_
        conv => whnf
        refine ⟨(), h, ?_⟩
        exact Wk.mk2 [] 0 rfl rfl (by decide) rfl trivial ⟨⟨rfl, rfl⟩, trivial⟩
    · clear h
      rintro _ h T1 H1 hw
      replace h : m_stopwatchref07_Same_J2 () = some r_3 := h
      conv => whnf
      refine Tr.weak hw ?_
      unfold m_stopwatchref07_Same_J2 at h
      refine Tr.seq ?_
      refine Tr.region layOK ?_
      conv => whnf
      refine Tr.ret ?_
      conv => whnf
      cases h
      rfl

theorem s_stopwatchlaw26_later (f_1 : TField) (h_2 : THistory) (by_3 : Int) (r_4 : TField) (r_5 : THistory) (h : m_stopwatchlaw26_later f_1 h_2 by_3 = some (r_4, r_5)) :
    PC prog 20 [(eTField f_1), (eTHistory h_2), (.i .i64 by_3)] (fun rs => rs = [(eTField r_4), (eTHistory r_5)]) := by
  refine PC.of_tr (cx := ⟨192, none, lay, 0⟩) layOK func20 rfl rfl rfl rfl rfl (by simp [f20]) ?_
  unfold m_stopwatchlaw26_later at h
  refine Tr.seq ?_
  refine Tr.region layOK ?_
  conv => whnf
  refine Tr.seq ?_
  refine Tr.region layOK ?_
  conv => whnf
  refine orB_l ?_
  conv => whnf
  refine Tr.seq ?_
  refine Tr.seq ?_
  refine Tr.region layOK ?_
  conv => whnf
  obtain ⟨l_11, hv48, h⟩ := bind_some h
  refine Tr.cutQ1 ([(2, .d (.i .i64 by_3)), (3, .pt 0 0), (4, .pt 1 0), (6, .pt 2 0), (7, .pt 3 0), (8, .pt 4 0)]) ([some (.var [.d (.ls (List.map eTSegment f_1.Clocks.Segments)), .d (.ls (List.map (eL eI) f_1.Clocks.Far)), .d (.ls (List.map eTPair f_1.Pairs)), .d (.ls (List.map eTRunner f_1.Runners))]), some (.var [.d (.i .i64 h_2.World), .d (.ls (List.map eI h_2.Offsets)), .d (.ls (List.map eTChoice h_2.Choices))]), some (.var [.nsl, .nsl, .nsl, .nsl]), some (.var [.d (.i .i64 0), .nsl, .nsl]), some (.var [.d (.ls (List.map eTSegment f_1.Clocks.Segments)), .d (.ls (List.map (eL eI) f_1.Clocks.Far)), .d (.ls (List.map eTPair f_1.Pairs)), .sl 5 3 0 (List.length l_11)]), some (.arr 3 (List.map .d (List.map eTRunner l_11)))]) ?_ (fun T1 H1 hw => ?_)
  · replace h := hv48; clear hv48
    refine Tr.block ?_
    refine Tr.loopM (σ := Int × List TRunner) (fun n s => m_stopwatchlaw26_later_L1 f_1 by_3 n s.1 s.2) l_11 (fun s => ([(2, .d (.i .i64 by_3)), (3, .pt 0 0), (4, .pt 1 0), (6, .pt 2 0), (7, .pt 3 0), (8, .pt 4 0), (9, .d (.i .i64 s.1))], [some (.var [.d (.ls (List.map eTSegment f_1.Clocks.Segments)), .d (.ls (List.map (eL eI) f_1.Clocks.Far)), .d (.ls (List.map eTPair f_1.Pairs)), .d (.ls (List.map eTRunner f_1.Runners))]), some (.var [.d (.i .i64 h_2.World), .d (.ls (List.map eI h_2.Offsets)), .d (.ls (List.map eTChoice h_2.Choices))]), some (.var [.nsl, .nsl, .nsl, .nsl]), some (.var [.d (.i .i64 0), .nsl, .nsl]), some (.var [.d (.ls (List.map eTSegment f_1.Clocks.Segments)), .d (.ls (List.map (eL eI) f_1.Clocks.Far)), .d (.ls (List.map eTPair f_1.Pairs)), .sl 5 3 0 (List.length s.2)]), some (.arr 3 (List.map .d (List.map eTRunner s.2)))])) (((((f_1.Runners).length : Int)) - 0 : Int).toNat + 1) (0, (([] : List TRunner))) h (fun s => rfl) (Wk.mk2 [0, 1, 2, 3, 4, 5] 5 rfl rfl (by decide) rfl ⟨⟨rfl, rfl⟩, ⟨rfl, rfl⟩, ⟨rfl, rfl⟩, ⟨rfl, rfl⟩, ⟨rfl, (by first | rfl | simp)⟩, rfl, trivial⟩ ⟨⟨rfl, rfl⟩, ⟨rfl, rfl⟩, ⟨rfl, rfl⟩, ⟨rfl, rfl⟩, ⟨rfl, rfl⟩, ⟨rfl, rfl⟩, ⟨rfl, rfl⟩, trivial⟩) ?_
    clear h
    rintro n_10 ⟨i_8, l_9⟩ h
    replace h : m_stopwatchlaw26_later_L1 f_1 by_3 (n_10 + 1) i_8 l_9 = some l_11 := h
    rw [m_stopwatchlaw26_later_L1] at h
    refine Tr.seq ?_
    refine Tr.seq ?_
    refine Tr.region layOK ?_
    conv => whnf
    refine lnS_map ?_
    conv => whnf
    refine Tr.cond ?_
    conv => whnf
    refine condS_bif h (fun hb14 h => ?_) (fun hb14 h => ?_)
    · refine Tr.skip ?_
      conv => whnf
      refine Tr.seq ?_
      refine Tr.block ?_
      refine Tr.seq ?_
      refine Tr.draw (DrawP.seqQ layOK mixed [(14, 6)] [(0, 3), (1, 3), (2, 1), (3, 2), (4, 2), (5, 2), (6, 3), (7, 3), (8, 1), (9, 2), (10, 2), (11, 2), (12, 1), (13, 0), (14, 0)] (by kernel_rfl) ?_)
      conv => whnf
      refine ⟨_, ⟨rfl, rfl, (by (conv => whnf); (exact ⟨rfl, rfl⟩))⟩, ?_⟩
      conv => whnf
      refine ⟨_, ⟨rfl, rfl, (by (conv => whnf); (exact ⟨rfl, rfl⟩))⟩, ?_⟩
      conv => whnf
      refine ⟨_, (fun H => by (conv => whnf); (exact ⟨rfl, rfl⟩)), ?_⟩
      conv => whnf
      obtain ⟨x_15, hx_15, h⟩ := bind_some h
      refine ⟨_, ⟨rfl, rfl, (by (conv => whnf); (refine ixP_of hx_15 ?_); (conv => whnf); (exact ⟨rfl, rfl⟩))⟩, ?_⟩
      conv => whnf
      refine ⟨_, ⟨rfl, rfl, (by (conv => whnf); (exact ⟨rfl, rfl⟩))⟩, ?_⟩
      conv => whnf
      refine ⟨_, ⟨rfl, rfl, (by (conv => whnf); (exact ⟨rfl, rfl⟩))⟩, ?_⟩
      conv => whnf
      refine ⟨_, ⟨rfl, rfl, (by (conv => whnf); (exact ⟨rfl, rfl⟩))⟩, ?_⟩
      conv => whnf
      refine ⟨_, ⟨rfl, rfl, (by (conv => whnf); (exact ⟨rfl, rfl⟩))⟩, ?_⟩
      conv => whnf
      refine ⟨_, (fun H => by (conv => whnf); (exact ⟨rfl, rfl⟩)), ?_⟩
      conv => whnf
      obtain ⟨x_16, hx_16, h⟩ := bind_some h
      refine ⟨_, ⟨rfl, rfl, (by (conv => whnf); (refine ixP_of hx_16 ?_); (conv => whnf); (exact ⟨rfl, rfl⟩))⟩, ?_⟩
      conv => whnf
      refine ⟨_, ⟨rfl, rfl, (by (conv => whnf); (exact ⟨rfl, rfl⟩))⟩, ?_⟩
      conv => whnf
      refine ⟨_, ⟨rfl, rfl, (by (conv => whnf); (exact ⟨rfl, rfl⟩))⟩, ?_⟩
      conv => whnf
      refine ⟨_, (fun H => by (conv => whnf); (exact ⟨rfl, rfl⟩)), ?_⟩
      conv => whnf
      refine ⟨_, _, (by (conv => whnf); (exact ⟨rfl, rfl⟩)), kp_ok (by repeat (first | exact trivial | refine ⟨trivial, ?_⟩ | refine ⟨rfl, ?_⟩)), ?_⟩
      conv => whnf
      refine ⟨_, _, (by (conv => whnf); (refine orB_l ?_); (conv => whnf); (exact ⟨rfl, rfl⟩)), kp_ok (by repeat (first | exact trivial | refine ⟨trivial, ?_⟩ | refine ⟨rfl, ?_⟩)), ?_⟩
      conv => whnf
      refine Tr.seq ?_
      refine Tr.seq ?_
      refine Tr.region layOK ?_
      conv => whnf
      obtain ⟨l_22, hv46, h⟩ := bind_some h
      refine Tr.cutQ1 ([(2, .d (.i .i64 by_3)), (3, .pt 0 0), (4, .pt 1 0), (6, .pt 2 0), (7, .pt 3 0), (8, .pt 4 0), (9, .d (.i .i64 i_8)), (10, .pt 5 0)]) ([some (.var [.d (.ls (List.map eTSegment f_1.Clocks.Segments)), .d (.ls (List.map (eL eI) f_1.Clocks.Far)), .d (.ls (List.map eTPair f_1.Pairs)), .d (.ls (List.map eTRunner f_1.Runners))]), some (.var [.d (.i .i64 h_2.World), .d (.ls (List.map eI h_2.Offsets)), .d (.ls (List.map eTChoice h_2.Choices))]), some (.var [.nsl, .nsl, .nsl, .nsl]), some (.var [.d (.i .i64 0), .nsl, .nsl]), some (.var [.d (.ls (List.map eTSegment f_1.Clocks.Segments)), .d (.ls (List.map (eL eI) f_1.Clocks.Far)), .d (.ls (List.map eTPair f_1.Pairs)), .sl 6 3 0 (List.length l_9)]), some (.var [.d (.i .i64 x_15.Bib), .d (.ls (List.map eI x_16.Keys)), .sl 7 1 0 (List.length l_22)]), some (.arr 3 (List.map .d (List.map eTRunner l_9))), some (.arr 1 (List.map .d (List.map (eL eTOutcome) l_22)))]) ?_ (fun T1 H1 hw => ?_)
      · replace h := hv46; clear hv46
        refine Tr.block ?_
        refine Tr.loopM (σ := Int × List (List TOutcome)) (fun n s => m_stopwatchlaw26_later_L2 f_1 by_3 i_8 n s.1 s.2) l_22 (fun s => ([(2, .d (.i .i64 by_3)), (3, .pt 0 0), (4, .pt 1 0), (6, .pt 2 0), (7, .pt 3 0), (8, .pt 4 0), (9, .d (.i .i64 i_8)), (10, .pt 5 0), (11, .d (.i .i64 s.1))], [some (.var [.d (.ls (List.map eTSegment f_1.Clocks.Segments)), .d (.ls (List.map (eL eI) f_1.Clocks.Far)), .d (.ls (List.map eTPair f_1.Pairs)), .d (.ls (List.map eTRunner f_1.Runners))]), some (.var [.d (.i .i64 h_2.World), .d (.ls (List.map eI h_2.Offsets)), .d (.ls (List.map eTChoice h_2.Choices))]), some (.var [.nsl, .nsl, .nsl, .nsl]), some (.var [.d (.i .i64 0), .nsl, .nsl]), some (.var [.d (.ls (List.map eTSegment f_1.Clocks.Segments)), .d (.ls (List.map (eL eI) f_1.Clocks.Far)), .d (.ls (List.map eTPair f_1.Pairs)), .sl 6 3 0 (List.length l_9)]), some (.var [.d (.i .i64 x_15.Bib), .d (.ls (List.map eI x_16.Keys)), .sl 7 1 0 (List.length s.2)]), some (.arr 3 (List.map .d (List.map eTRunner l_9))), some (.arr 1 (List.map .d (List.map (eL eTOutcome) s.2)))])) ((((((Option.getD (idx f_1.Runners i_8) default).Worlds).length : Int)) - 0 : Int).toNat + 1) (0, (([] : List (List TOutcome)))) h (fun s => rfl) (Wk.mk2 [0, 1, 2, 3, 4, 6, 5, 7] 7 rfl rfl (by decide) rfl ⟨⟨rfl, rfl⟩, ⟨rfl, rfl⟩, ⟨rfl, rfl⟩, ⟨rfl, rfl⟩, ⟨rfl, (by first | rfl | (simp only [↓hb14, cond_true, cond_false, Bool.true_or, Bool.or_true, Bool.false_or, Bool.or_false, Bool.true_and, Bool.and_true, Bool.false_and, Bool.and_false, Bool.not_true, Bool.not_false]; done) | (simp only [↓hb14, cond_true, cond_false, Bool.true_or, Bool.or_true, Bool.false_or, Bool.or_false, Bool.true_and, Bool.and_true, Bool.false_and, Bool.and_false, Bool.not_true, Bool.not_false]; rfl))⟩, ⟨rfl, (by first | rfl | (simp only [↓hb14, cond_true, cond_false, Bool.true_or, Bool.or_true, Bool.false_or, Bool.or_false, Bool.true_and, Bool.and_true, Bool.false_and, Bool.and_false, Bool.not_true, Bool.not_false]; done) | (simp only [↓hb14, cond_true, cond_false, Bool.true_or, Bool.or_true, Bool.false_or, Bool.or_false, Bool.true_and, Bool.and_true, Bool.false_and, Bool.and_false, Bool.not_true, Bool.not_false]; rfl))⟩, daS_d rfl, rfl, trivial⟩ ⟨⟨rfl, rfl⟩, ⟨rfl, rfl⟩, ⟨rfl, rfl⟩, ⟨rfl, rfl⟩, ⟨rfl, rfl⟩, ⟨rfl, rfl⟩, ⟨rfl, rfl⟩, ⟨rfl, (by first | rfl | (simp only [↓hb14, cond_true, cond_false, Bool.true_or, Bool.or_true, Bool.false_or, Bool.or_false, Bool.true_and, Bool.and_true, Bool.false_and, Bool.and_false, Bool.not_true, Bool.not_false]; done) | (simp only [↓hb14, cond_true, cond_false, Bool.true_or, Bool.or_true, Bool.false_or, Bool.or_false, Bool.true_and, Bool.and_true, Bool.false_and, Bool.and_false, Bool.not_true, Bool.not_false]; rfl))⟩, ⟨rfl, rfl⟩, trivial⟩) ?_
        clear h
        rintro n_21 ⟨k_19, l_20⟩ h
        replace h : m_stopwatchlaw26_later_L2 f_1 by_3 i_8 (n_21 + 1) k_19 l_20 = some l_22 := h
        rw [m_stopwatchlaw26_later_L2] at h
        refine Tr.seq ?_
        refine Tr.seq ?_
        refine Tr.region layOK ?_
        conv => whnf
        obtain ⟨x_25, hx_25, h⟩ := bind_some h
        refine ixP_of hx_25 ?_
        conv => whnf
        refine lnS_map ?_
        conv => whnf
        refine Tr.cond ?_
        conv => whnf
        refine condS_bif h (fun hb26 h => ?_) (fun hb26 h => ?_)
        · refine Tr.skip ?_
          conv => whnf
          refine Tr.seq ?_
          refine Tr.block ?_
          refine Tr.seq ?_
          refine Tr.region layOK ?_
          conv => whnf
          refine orB_l ?_
          conv => whnf
          refine Tr.seq ?_
          refine Tr.seq ?_
          refine Tr.region layOK ?_
          conv => whnf
          obtain ⟨l_32, hv44, h⟩ := bind_some h
          refine Tr.cutQ1 ([(2, .d (.i .i64 by_3)), (3, .pt 0 0), (4, .pt 1 0), (6, .pt 2 0), (7, .pt 3 0), (8, .pt 4 0), (9, .d (.i .i64 i_8)), (10, .pt 5 0), (11, .d (.i .i64 k_19)), (12, .sl 6 4 0 (List.length l_32))]) ([some (.var [.d (.ls (List.map eTSegment f_1.Clocks.Segments)), .d (.ls (List.map (eL eI) f_1.Clocks.Far)), .d (.ls (List.map eTPair f_1.Pairs)), .d (.ls (List.map eTRunner f_1.Runners))]), some (.var [.d (.i .i64 h_2.World), .d (.ls (List.map eI h_2.Offsets)), .d (.ls (List.map eTChoice h_2.Choices))]), some (.var [.nsl, .nsl, .nsl, .nsl]), some (.var [.d (.i .i64 0), .nsl, .nsl]), some (.var [.d (.ls (List.map eTSegment f_1.Clocks.Segments)), .d (.ls (List.map (eL eI) f_1.Clocks.Far)), .d (.ls (List.map eTPair f_1.Pairs)), .sl 7 3 0 (List.length l_9)]), some (.var [.d (.i .i64 x_15.Bib), .d (.ls (List.map eI x_16.Keys)), .sl 8 1 0 (List.length l_20)]), some (.arr 4 (List.map .d (List.map eTOutcome l_32))), some (.arr 3 (List.map .d (List.map eTRunner l_9))), some (.arr 1 (List.map .d (List.map (eL eTOutcome) l_20)))]) ?_ (fun T1 H1 hw => ?_)
          · replace h := hv44; clear hv44
            refine Tr.block ?_
            refine Tr.loopM (σ := Int × List TOutcome) (fun n s => m_stopwatchlaw26_later_L3 f_1 by_3 i_8 k_19 n s.1 s.2) l_32 (fun s => ([(2, .d (.i .i64 by_3)), (3, .pt 0 0), (4, .pt 1 0), (6, .pt 2 0), (7, .pt 3 0), (8, .pt 4 0), (9, .d (.i .i64 i_8)), (10, .pt 5 0), (11, .d (.i .i64 k_19)), (12, .sl 6 4 0 (List.length s.2)), (13, .d (.i .i64 s.1))], [some (.var [.d (.ls (List.map eTSegment f_1.Clocks.Segments)), .d (.ls (List.map (eL eI) f_1.Clocks.Far)), .d (.ls (List.map eTPair f_1.Pairs)), .d (.ls (List.map eTRunner f_1.Runners))]), some (.var [.d (.i .i64 h_2.World), .d (.ls (List.map eI h_2.Offsets)), .d (.ls (List.map eTChoice h_2.Choices))]), some (.var [.nsl, .nsl, .nsl, .nsl]), some (.var [.d (.i .i64 0), .nsl, .nsl]), some (.var [.d (.ls (List.map eTSegment f_1.Clocks.Segments)), .d (.ls (List.map (eL eI) f_1.Clocks.Far)), .d (.ls (List.map eTPair f_1.Pairs)), .sl 7 3 0 (List.length l_9)]), some (.var [.d (.i .i64 x_15.Bib), .d (.ls (List.map eI x_16.Keys)), .sl 8 1 0 (List.length l_20)]), some (.arr 4 (List.map .d (List.map eTOutcome s.2))), some (.arr 3 (List.map .d (List.map eTRunner l_9))), some (.arr 1 (List.map .d (List.map (eL eTOutcome) l_20)))])) ((((((Option.getD (idx (Option.getD (idx f_1.Runners i_8) default).Worlds k_19) default)).length : Int)) - 0 : Int).toNat + 1) (0, (([] : List TOutcome))) h (fun s => rfl) (Wk.mk2 [0, 1, 2, 3, 4, 5, 8, 6, 7] 9 rfl rfl (by decide) rfl ⟨⟨rfl, rfl⟩, ⟨rfl, rfl⟩, ⟨rfl, rfl⟩, ⟨rfl, rfl⟩, ⟨rfl, (by first | rfl | (simp only [↓hb14, ↓hb26, cond_true, cond_false, Bool.true_or, Bool.or_true, Bool.false_or, Bool.or_false, Bool.true_and, Bool.and_true, Bool.false_and, Bool.and_false, Bool.not_true, Bool.not_false]; done) | (simp only [↓hb14, ↓hb26, cond_true, cond_false, Bool.true_or, Bool.or_true, Bool.false_or, Bool.or_false, Bool.true_and, Bool.and_true, Bool.false_and, Bool.and_false, Bool.not_true, Bool.not_false]; rfl))⟩, ⟨rfl, (by first | rfl | (simp only [↓hb14, ↓hb26, cond_true, cond_false, Bool.true_or, Bool.or_true, Bool.false_or, Bool.or_false, Bool.true_and, Bool.and_true, Bool.false_and, Bool.and_false, Bool.not_true, Bool.not_false]; done) | (simp only [↓hb14, ↓hb26, cond_true, cond_false, Bool.true_or, Bool.or_true, Bool.false_or, Bool.or_false, Bool.true_and, Bool.and_true, Bool.false_and, Bool.and_false, Bool.not_true, Bool.not_false]; rfl))⟩, daS_d rfl, daS_d rfl, daS_d rfl, trivial⟩ ⟨⟨rfl, rfl⟩, ⟨rfl, rfl⟩, ⟨rfl, rfl⟩, ⟨rfl, rfl⟩, ⟨rfl, rfl⟩, ⟨rfl, rfl⟩, ⟨rfl, rfl⟩, ⟨rfl, rfl⟩, ⟨rfl, rfl⟩, ⟨rfl, (by first | rfl | (simp only [↓hb14, ↓hb26, cond_true, cond_false, Bool.true_or, Bool.or_true, Bool.false_or, Bool.or_false, Bool.true_and, Bool.and_true, Bool.false_and, Bool.and_false, Bool.not_true, Bool.not_false]; done) | (simp only [↓hb14, ↓hb26, cond_true, cond_false, Bool.true_or, Bool.or_true, Bool.false_or, Bool.or_false, Bool.true_and, Bool.and_true, Bool.false_and, Bool.and_false, Bool.not_true, Bool.not_false]; rfl))⟩, ⟨rfl, rfl⟩, trivial⟩) ?_
            clear h
            rintro n_31 ⟨m_29, l_30⟩ h
            replace h : m_stopwatchlaw26_later_L3 f_1 by_3 i_8 k_19 (n_31 + 1) m_29 l_30 = some l_32 := h
            rw [m_stopwatchlaw26_later_L3] at h
            refine Tr.seq ?_
            refine Tr.seq ?_
            refine Tr.region layOK ?_
            conv => whnf
            obtain ⟨x_35, hx_35, h⟩ := bind_some h
            refine ixP_of hx_35 ?_
            conv => whnf
            obtain ⟨x_36, hx_36, h⟩ := bind_some h
            refine ixP_of hx_36 ?_
            conv => whnf
            refine lnS_map ?_
            conv => whnf
            refine Tr.cond ?_
            conv => whnf
            refine condS_bif h (fun hb37 h => ?_) (fun hb37 h => ?_)
            · refine Tr.skip ?_
              conv => whnf
              refine Tr.seq ?_
              refine Tr.block ?_
              refine Tr.seq ?_
              refine Tr.region layOK ?_
              conv => whnf
              obtain ⟨x_38, hx_38, h⟩ := bind_some h
              refine ixP_of hx_38 ?_
              conv => whnf
              obtain ⟨x_39, hx_39, h⟩ := bind_some h
              refine ixP_of hx_39 ?_
              conv => whnf
              obtain ⟨x_40, hx_40, h⟩ := bind_some h
              refine ixP_of hx_40 ?_
              conv => whnf
              refine Tr.seq ?_
              refine Tr.seq ?_
              refine Tr.region layOK ?_
              conv => whnf
              refine Tr.cond ?_
              conv => whnf
              refine condS_bif h (fun hb41 h => ?_) (fun hb41 h => ?_)
              · refine Tr.region layOK ?_
                conv => whnf
                refine arS_raw ?_
                conv => whnf
                refine arS_raw ?_
                conv => whnf
                refine Tr.region layOK ?_
                conv => whnf
                refine orB_r ?_
                conv => whnf
                refine frP_no ?_
                conv => whnf
                refine eqS_mk (by first | rfl | simp) ?_
                conv => whnf
                obtain ⟨l_42, hl_42, h⟩ := bind_some h
                refine apS_of hl_42 (apq_map (f := eTOutcome) (l := (([({ Out := x_40.Out, Seg := x_40.Seg, Lo := (w64 (x_40.Lo + by_3)), Hi := (w64 (x_40.Hi + by_3)) } : TOutcome)] : List TOutcome))) fun _ => rfl) (by first | rfl | simp) (by first | rfl | simp) (fun he => ?_)
                conv => whnf
                refine reS_mk (es' := List.map .d (List.map eTOutcome l_42)) (n' := List.length l_42) (by subst he; simp only [List.map_append, List.map_cons, List.map_nil, List.nil_append]; first | done | rfl) (by subst he; simp <;> omega) ?_
                clear he
                conv => whnf
                refine Tr.region layOK ?_
                conv => whnf
                refine arS_raw ?_
                conv => whnf
                refine ⟨((w64 (m_29 + 1)), l_42), h, ?_⟩
                exact Wk.mk2 [0, 1, 2, 3, 4, 5, 10, 7, 8] 11 rfl rfl (by decide) rfl ⟨⟨rfl, rfl⟩, ⟨rfl, rfl⟩, ⟨rfl, rfl⟩, ⟨rfl, rfl⟩, ⟨rfl, rfl⟩, ⟨rfl, rfl⟩, daS_d rfl, daS_d rfl, daS_d rfl, trivial⟩ ⟨⟨rfl, rfl⟩, ⟨rfl, rfl⟩, ⟨rfl, rfl⟩, ⟨rfl, rfl⟩, ⟨rfl, rfl⟩, ⟨rfl, rfl⟩, ⟨rfl, rfl⟩, ⟨rfl, rfl⟩, ⟨rfl, rfl⟩, ⟨rfl, (by first | rfl | (simp only [↓hb14, ↓hb26, ↓hb37, ↓hb41, cond_true, cond_false, Bool.true_or, Bool.or_true, Bool.false_or, Bool.or_false, Bool.true_and, Bool.and_true, Bool.false_and, Bool.and_false, Bool.not_true, Bool.not_false]; done) | (simp only [↓hb14, ↓hb26, ↓hb37, ↓hb41, cond_true, cond_false, Bool.true_or, Bool.or_true, Bool.false_or, Bool.or_false, Bool.true_and, Bool.and_true, Bool.false_and, Bool.and_false, Bool.not_true, Bool.not_false]; rfl))⟩, ⟨rfl, rfl⟩, trivial⟩
              · refine Tr.skip ?_
                conv => whnf
                refine Tr.region layOK ?_
                conv => whnf
                refine orB_r ?_
                conv => whnf
                refine frP_no ?_
                conv => whnf
                refine eqS_mk (by first | rfl | simp) ?_
                conv => whnf
                obtain ⟨l_43, hl_43, h⟩ := bind_some h
                refine apS_of hl_43 (apq_map (f := eTOutcome) (l := (([x_40] : List TOutcome))) fun _ => rfl) (by first | rfl | simp) (by first | rfl | simp) (fun he => ?_)
                conv => whnf
                refine reS_mk (es' := List.map .d (List.map eTOutcome l_43)) (n' := List.length l_43) (by subst he; simp only [List.map_append, List.map_cons, List.map_nil, List.nil_append]; first | done | rfl) (by subst he; simp <;> omega) ?_
                clear he
                conv => whnf
                refine Tr.region layOK ?_
                conv => whnf
                refine arS_raw ?_
                conv => whnf
                refine ⟨((w64 (m_29 + 1)), l_43), h, ?_⟩
                exact Wk.mk2 [0, 1, 2, 3, 4, 5, 10, 7, 8] 11 rfl rfl (by decide) rfl ⟨⟨rfl, rfl⟩, ⟨rfl, rfl⟩, ⟨rfl, rfl⟩, ⟨rfl, rfl⟩, ⟨rfl, rfl⟩, ⟨rfl, rfl⟩, daS_d rfl, daS_d rfl, daS_d rfl, trivial⟩ ⟨⟨rfl, rfl⟩, ⟨rfl, rfl⟩, ⟨rfl, rfl⟩, ⟨rfl, rfl⟩, ⟨rfl, rfl⟩, ⟨rfl, rfl⟩, ⟨rfl, rfl⟩, ⟨rfl, rfl⟩, ⟨rfl, rfl⟩, ⟨rfl, (by first | rfl | (simp only [↓hb14, ↓hb26, ↓hb37, ↓hb41, cond_true, cond_false, Bool.true_or, Bool.or_true, Bool.false_or, Bool.or_false, Bool.true_and, Bool.and_true, Bool.false_and, Bool.and_false, Bool.not_true, Bool.not_false]; done) | (simp only [↓hb14, ↓hb26, ↓hb37, ↓hb41, cond_true, cond_false, Bool.true_or, Bool.or_true, Bool.false_or, Bool.or_false, Bool.true_and, Bool.and_true, Bool.false_and, Bool.and_false, Bool.not_true, Bool.not_false]; rfl))⟩, ⟨rfl, rfl⟩, trivial⟩
            · refine Tr.exit ?_
              conv => whnf
              cases h
              exact Wk.mk2 [0, 1, 2, 3, 4, 5, 6, 7, 8] 9 rfl rfl (by decide) rfl ⟨⟨rfl, rfl⟩, ⟨rfl, rfl⟩, ⟨rfl, rfl⟩, ⟨rfl, rfl⟩, ⟨rfl, rfl⟩, ⟨rfl, rfl⟩, daS_d rfl, daS_d rfl, daS_d rfl, trivial⟩ ⟨⟨rfl, rfl⟩, ⟨rfl, rfl⟩, ⟨rfl, rfl⟩, ⟨rfl, rfl⟩, ⟨rfl, rfl⟩, ⟨rfl, rfl⟩, ⟨rfl, rfl⟩, ⟨rfl, rfl⟩, ⟨rfl, rfl⟩, ⟨rfl, rfl⟩, trivial⟩
          · clear hv44
            conv => whnf
            refine Tr.weak hw ?_
            refine Tr.region layOK ?_
            conv => whnf
            refine orB_r ?_
            conv => whnf
            refine frE_of (f := eTOutcome) (l := l_32) rfl ?_
            conv => whnf
            refine frP_no ?_
            conv => whnf
            refine eqS_mk (by first | rfl | simp) ?_
            conv => whnf
            obtain ⟨l_45, hl_45, h⟩ := bind_some h
            refine apS_of hl_45 (apq_map (f := (eL eTOutcome)) (l := (([l_32] : List (List TOutcome)))) fun _ => rfl) (by first | rfl | simp) (by first | rfl | simp) (fun he => ?_)
            conv => whnf
            refine reS_mk (es' := List.map .d (List.map (eL eTOutcome) l_45)) (n' := List.length l_45) (by subst he; simp only [List.map_append, List.map_cons, List.map_nil, List.nil_append]; first | done | rfl) (by subst he; simp <;> omega) ?_
            clear he
            conv => whnf
            refine orB_l ?_
            conv => whnf
            refine Tr.region layOK ?_
            conv => whnf
            refine arS_raw ?_
            conv => whnf
            refine ⟨((w64 (k_19 + 1)), l_45), h, ?_⟩
            exact Wk.mk2 [0, 1, 2, 3, 4, 5, 7, 9] 10 rfl rfl (by decide) rfl ⟨⟨rfl, rfl⟩, ⟨rfl, rfl⟩, ⟨rfl, rfl⟩, ⟨rfl, rfl⟩, ⟨rfl, (by first | rfl | (simp only [↓hb14, ↓hb26, cond_true, cond_false, Bool.true_or, Bool.or_true, Bool.false_or, Bool.or_false, Bool.true_and, Bool.and_true, Bool.false_and, Bool.and_false, Bool.not_true, Bool.not_false]; done) | (simp only [↓hb14, ↓hb26, cond_true, cond_false, Bool.true_or, Bool.or_true, Bool.false_or, Bool.or_false, Bool.true_and, Bool.and_true, Bool.false_and, Bool.and_false, Bool.not_true, Bool.not_false]; rfl))⟩, ⟨rfl, (by first | rfl | (simp only [↓hb14, ↓hb26, cond_true, cond_false, Bool.true_or, Bool.or_true, Bool.false_or, Bool.or_false, Bool.true_and, Bool.and_true, Bool.false_and, Bool.and_false, Bool.not_true, Bool.not_false]; done) | (simp only [↓hb14, ↓hb26, cond_true, cond_false, Bool.true_or, Bool.or_true, Bool.false_or, Bool.or_false, Bool.true_and, Bool.and_true, Bool.false_and, Bool.and_false, Bool.not_true, Bool.not_false]; rfl))⟩, daS_d rfl, daS_d rfl, trivial⟩ ⟨⟨rfl, rfl⟩, ⟨rfl, rfl⟩, ⟨rfl, rfl⟩, ⟨rfl, rfl⟩, ⟨rfl, rfl⟩, ⟨rfl, rfl⟩, ⟨rfl, rfl⟩, ⟨rfl, rfl⟩, ⟨rfl, rfl⟩, trivial⟩
        · refine Tr.exit ?_
          conv => whnf
          cases h
          exact Wk.mk2 [0, 1, 2, 3, 4, 5, 6, 7] 8 rfl rfl (by decide) rfl ⟨⟨rfl, rfl⟩, ⟨rfl, rfl⟩, ⟨rfl, rfl⟩, ⟨rfl, rfl⟩, ⟨rfl, rfl⟩, ⟨rfl, rfl⟩, daS_d rfl, daS_d rfl, trivial⟩ ⟨⟨rfl, rfl⟩, ⟨rfl, rfl⟩, ⟨rfl, rfl⟩, ⟨rfl, rfl⟩, ⟨rfl, rfl⟩, ⟨rfl, rfl⟩, ⟨rfl, rfl⟩, ⟨rfl, rfl⟩, trivial⟩
      · clear hv46
        conv => whnf
        refine Tr.weak hw ?_
        refine Tr.region layOK ?_
        conv => whnf
        refine orB_r ?_
        conv => whnf
        refine frE_of (f := (eL eTOutcome)) (l := l_22) rfl ?_
        conv => whnf
        refine frP_no ?_
        conv => whnf
        refine eqS_mk (by first | rfl | simp) ?_
        conv => whnf
        obtain ⟨l_47, hl_47, h⟩ := bind_some h
        refine apS_of hl_47 (apq_map (f := eTRunner) (l := (([({ Bib := x_15.Bib, Keys := x_16.Keys, Worlds := l_22 } : TRunner)] : List TRunner))) fun _ => rfl) (by first | rfl | simp) (by first | rfl | simp) (fun he => ?_)
        conv => whnf
        refine reS_mk (es' := List.map .d (List.map eTRunner l_47)) (n' := List.length l_47) (by subst he; simp only [List.map_append, List.map_cons, List.map_nil, List.nil_append]; first | done | rfl) (by subst he; simp <;> omega) ?_
        clear he
        conv => whnf
        refine orB_l ?_
        conv => whnf
        refine Tr.region layOK ?_
        conv => whnf
        refine arS_raw ?_
        conv => whnf
        refine ⟨((w64 (i_8 + 1)), l_47), h, ?_⟩
        exact Wk.mk2 [0, 1, 2, 3, 4, 8] 9 rfl rfl (by decide) rfl ⟨⟨rfl, rfl⟩, ⟨rfl, rfl⟩, ⟨rfl, rfl⟩, ⟨rfl, rfl⟩, ⟨rfl, (by first | rfl | (simp only [↓hb14, cond_true, cond_false, Bool.true_or, Bool.or_true, Bool.false_or, Bool.or_false, Bool.true_and, Bool.and_true, Bool.false_and, Bool.and_false, Bool.not_true, Bool.not_false]; done) | (simp only [↓hb14, cond_true, cond_false, Bool.true_or, Bool.or_true, Bool.false_or, Bool.or_false, Bool.true_and, Bool.and_true, Bool.false_and, Bool.and_false, Bool.not_true, Bool.not_false]; rfl))⟩, daS_d rfl, trivial⟩ ⟨⟨rfl, rfl⟩, ⟨rfl, rfl⟩, ⟨rfl, rfl⟩, ⟨rfl, rfl⟩, ⟨rfl, rfl⟩, ⟨rfl, rfl⟩, ⟨rfl, rfl⟩, trivial⟩
    · refine Tr.exit ?_
      conv => whnf
      cases h
      exact Wk.mk2 [0, 1, 2, 3, 4, 5] 6 rfl rfl (by decide) rfl ⟨⟨rfl, rfl⟩, ⟨rfl, rfl⟩, ⟨rfl, rfl⟩, ⟨rfl, rfl⟩, ⟨rfl, rfl⟩, daS_d rfl, trivial⟩ ⟨⟨rfl, rfl⟩, ⟨rfl, rfl⟩, ⟨rfl, rfl⟩, ⟨rfl, rfl⟩, ⟨rfl, rfl⟩, ⟨rfl, rfl⟩, trivial⟩
  · clear hv48
    conv => whnf
    refine Tr.weak hw ?_
    refine Tr.seq ?_
    refine Tr.region layOK ?_
    conv => whnf
    refine orB_l ?_
    conv => whnf
    refine Tr.seq ?_
    refine Tr.seq ?_
    refine Tr.region layOK ?_
    conv => whnf
    obtain ⟨l_54, hv76, h⟩ := bind_some h
    refine Tr.cutQ1 ([(6, .pt 0 0), (7, .pt 1 0), (8, .pt 2 0), (15, .pt 3 0)]) ([some (.var [.nsl, .nsl, .nsl, .nsl]), some (.var [.d (.i .i64 0), .nsl, .nsl]), some (.var [.d (.ls (List.map eTSegment f_1.Clocks.Segments)), .d (.ls (List.map (eL eI) f_1.Clocks.Far)), .d (.ls (List.map eTPair f_1.Pairs)), .sl 4 3 0 (List.length l_11)]), some (.var [.d (.i .i64 h_2.World), .d (.ls (List.map eI h_2.Offsets)), .sl 5 2 0 (List.length l_54)]), some (.arr 3 (List.map .d (List.map eTRunner l_11))), some (.arr 2 (List.map .d (List.map eTChoice l_54)))]) ?_ (fun T1 H1 hw => ?_)
    · replace h := hv76; clear hv76
      refine Tr.block ?_
      refine Tr.loopM (σ := Int × List TChoice) (fun n s => m_stopwatchlaw26_later_L4 f_1 h_2 by_3 n s.1 s.2) l_54 (fun s => ([(2, .d (.i .i64 by_3)), (3, .pt 0 0), (4, .pt 1 0), (6, .pt 2 0), (7, .pt 3 0), (8, .pt 4 0), (15, .pt 5 0), (16, .d (.i .i64 s.1))], [some (.var [.d (.ls (List.map eTSegment f_1.Clocks.Segments)), .d (.ls (List.map (eL eI) f_1.Clocks.Far)), .d (.ls (List.map eTPair f_1.Pairs)), .d (.ls (List.map eTRunner f_1.Runners))]), some (.var [.d (.i .i64 h_2.World), .d (.ls (List.map eI h_2.Offsets)), .d (.ls (List.map eTChoice h_2.Choices))]), some (.var [.nsl, .nsl, .nsl, .nsl]), some (.var [.d (.i .i64 0), .nsl, .nsl]), some (.var [.d (.ls (List.map eTSegment f_1.Clocks.Segments)), .d (.ls (List.map (eL eI) f_1.Clocks.Far)), .d (.ls (List.map eTPair f_1.Pairs)), .sl 6 3 0 (List.length l_11)]), some (.var [.d (.i .i64 h_2.World), .d (.ls (List.map eI h_2.Offsets)), .sl 7 2 0 (List.length s.2)]), some (.arr 3 (List.map .d (List.map eTRunner l_11))), some (.arr 2 (List.map .d (List.map eTChoice s.2)))])) (((((h_2.Choices).length : Int)) - 0 : Int).toNat + 1) (0, (([] : List TChoice))) h (fun s => rfl) (Wk.mk2 [0, 1, 2, 3, 4, 6, 5, 7] 7 rfl rfl (by decide) rfl ⟨⟨rfl, rfl⟩, ⟨rfl, rfl⟩, ⟨rfl, rfl⟩, ⟨rfl, rfl⟩, ⟨rfl, (by first | rfl | simp)⟩, ⟨rfl, (by first | rfl | simp)⟩, daS_d rfl, rfl, trivial⟩ ⟨⟨rfl, rfl⟩, ⟨rfl, rfl⟩, ⟨rfl, rfl⟩, ⟨rfl, rfl⟩, ⟨rfl, rfl⟩, ⟨rfl, rfl⟩, ⟨rfl, (by first | rfl | simp)⟩, ⟨rfl, rfl⟩, trivial⟩) ?_
      clear h
      rintro n_53 ⟨i_51, l_52⟩ h
      replace h : m_stopwatchlaw26_later_L4 f_1 h_2 by_3 (n_53 + 1) i_51 l_52 = some l_54 := h
      rw [m_stopwatchlaw26_later_L4] at h
      refine Tr.seq ?_
      refine Tr.seq ?_
      refine Tr.region layOK ?_
      conv => whnf
      refine lnS_map ?_
      conv => whnf
      refine Tr.cond ?_
      conv => whnf
      refine condS_bif h (fun hb57 h => ?_) (fun hb57 h => ?_)
      · refine Tr.skip ?_
        conv => whnf
        refine Tr.seq ?_
        refine Tr.block ?_
        refine Tr.seq ?_
        refine Tr.region layOK ?_
        conv => whnf
        obtain ⟨x_58, hx_58, h⟩ := bind_some h
        refine ixP_of hx_58 ?_
        conv => whnf
        refine Tr.seq ?_
        refine Tr.seq ?_
        obtain ⟨v_59, hv60, h⟩ := bind_some h
        refine Tr.cutQ1 ([(2, .d (.i .i64 by_3)), (3, .pt 0 0), (4, .pt 1 0), (6, .pt 2 0), (7, .pt 3 0), (8, .pt 4 0), (15, .pt 5 0), (16, .d (.i .i64 i_51)), (17, .pt 6 0), (149, .d (.b v_59))]) ([some (.var [.d (.ls (List.map eTSegment f_1.Clocks.Segments)), .d (.ls (List.map (eL eI) f_1.Clocks.Far)), .d (.ls (List.map eTPair f_1.Pairs)), .d (.ls (List.map eTRunner f_1.Runners))]), some (.var [.d (.i .i64 h_2.World), .d (.ls (List.map eI h_2.Offsets)), .d (.ls (List.map eTChoice h_2.Choices))]), some (.var [.nsl, .nsl, .nsl, .nsl]), some (.var [.d (.i .i64 0), .nsl, .nsl]), some (.var [.d (.ls (List.map eTSegment f_1.Clocks.Segments)), .d (.ls (List.map (eL eI) f_1.Clocks.Far)), .d (.ls (List.map eTPair f_1.Pairs)), .sl 7 3 0 (List.length l_11)]), some (.var [.d (.i .i64 h_2.World), .d (.ls (List.map eI h_2.Offsets)), .sl 8 2 0 (List.length l_52)]), some (.var [.d (.i .i64 x_58.Outcome), .d (.i .i64 x_58.X)]), some (.arr 3 (List.map .d (List.map eTRunner l_11))), some (.arr 2 (List.map .d (List.map eTChoice l_52)))]) ?_ (fun T1 H1 hw => ?_)
        · replace h := hv60; clear hv60
          refine Tr.draw (DrawP.seqQ layOK mixed [] [(0, 1), (1, 3), (2, 3), (3, 2), (4, 1), (5, 1), (6, 4), (7, 4), (8, 1), (9, 1), (10, 1), (11, 4), (12, 4), (13, 3), (14, 3), (15, 1), (16, 2), (17, 2), (18, 2), (19, 2), (20, 1), (21, 1)] (by kernel_rfl) ?_)
          conv => whnf
          refine ⟨_, (fun H => by (conv => whnf); (exact ⟨rfl, rfl⟩)), ?_⟩
          conv => whnf
          refine ⟨_, ⟨rfl, rfl, (by (conv => whnf); (exact ⟨rfl, rfl⟩))⟩, ?_⟩
          conv => whnf
          refine ⟨_, ⟨rfl, rfl, (by (conv => whnf); (exact ⟨rfl, rfl⟩))⟩, ?_⟩
          conv => whnf
          refine ⟨_, ⟨rfl, rfl, (by (conv => whnf); (refine lnS_map ?_); (conv => whnf); (exact ⟨rfl, rfl⟩))⟩, ?_⟩
          conv => whnf
          refine ⟨_, (fun H => by (conv => whnf); (exact ⟨rfl, rfl⟩)), ?_⟩
          conv => whnf
          refine ⟨_, (fun H => by (conv => whnf); (exact ⟨rfl, rfl⟩)), ?_⟩
          conv => whnf
          refine condS_bif h (fun hb61 h => ?_) (fun hb61 h => ?_)
          · conv => whnf
            refine ⟨_, ⟨rfl, rfl, (by (conv => whnf); (exact ⟨rfl, rfl⟩))⟩, ?_⟩
            conv => whnf
            refine ⟨_, ⟨rfl, rfl, (by (conv => whnf); (exact ⟨rfl, rfl⟩))⟩, ?_⟩
            conv => whnf
            refine ⟨_, (fun H => by (conv => whnf); (exact ⟨rfl, rfl⟩)), ?_⟩
            conv => whnf
            refine ⟨_, (fun H => by (conv => whnf); (exact ⟨rfl, rfl⟩)), ?_⟩
            conv => whnf
            refine ⟨_, (fun H => by (conv => whnf); (exact ⟨rfl, rfl⟩)), ?_⟩
            conv => whnf
            refine condS_bif h (fun hb62 h => ?_) (fun hb62 h => ?_)
            · conv => whnf
              refine ⟨_, ⟨rfl, rfl, (by (conv => whnf); (exact ⟨rfl, rfl⟩))⟩, ?_⟩
              conv => whnf
              refine ⟨_, ⟨rfl, rfl, (by (conv => whnf); (exact ⟨rfl, rfl⟩))⟩, ?_⟩
              conv => whnf
              refine ⟨_, ⟨rfl, rfl, (by (conv => whnf); (exact ⟨rfl, rfl⟩))⟩, ?_⟩
              conv => whnf
              refine ⟨_, ⟨rfl, rfl, (by (conv => whnf); (exact ⟨rfl, rfl⟩))⟩, ?_⟩
              conv => whnf
              refine ⟨_, (fun H => by (conv => whnf); (exact ⟨rfl, rfl⟩)), ?_⟩
              conv => whnf
              obtain ⟨x_63, hx_63, h⟩ := bind_some h
              refine ⟨_, ⟨rfl, rfl, (by (conv => whnf); (refine ixP_of hx_63 ?_); (conv => whnf); (exact ⟨rfl, rfl⟩))⟩, ?_⟩
              conv => whnf
              refine ⟨_, ⟨rfl, rfl, (by (conv => whnf); (exact ⟨rfl, rfl⟩))⟩, ?_⟩
              conv => whnf
              refine ⟨_, ⟨rfl, rfl, (by (conv => whnf); (exact ⟨rfl, rfl⟩))⟩, ?_⟩
              conv => whnf
              refine ⟨_, ⟨rfl, rfl, (by (conv => whnf); (refine lnS_map ?_); (conv => whnf); (exact ⟨rfl, rfl⟩))⟩, ?_⟩
              conv => whnf
              refine ⟨_, (fun H => by (conv => whnf); (exact ⟨rfl, rfl⟩)), ?_⟩
              conv => whnf
              refine ⟨_, (fun H => by (conv => whnf); (exact ⟨rfl, rfl⟩)), ?_⟩
              conv => whnf
              cases h
              exact Wk.mk2 [0, 1, 2, 3, 4, 5, 8, 6, 7] 9 rfl rfl (by decide) rfl ⟨⟨rfl, rfl⟩, ⟨rfl, rfl⟩, ⟨rfl, rfl⟩, ⟨rfl, rfl⟩, ⟨rfl, (by first | rfl | (simp only [↓hb57, ↓hb61, ↓hb62, cond_true, cond_false, Bool.true_or, Bool.or_true, Bool.false_or, Bool.or_false, Bool.true_and, Bool.and_true, Bool.false_and, Bool.and_false, Bool.not_true, Bool.not_false]; done) | (simp only [↓hb57, ↓hb61, ↓hb62, cond_true, cond_false, Bool.true_or, Bool.or_true, Bool.false_or, Bool.or_false, Bool.true_and, Bool.and_true, Bool.false_and, Bool.and_false, Bool.not_true, Bool.not_false]; rfl))⟩, ⟨rfl, (by first | rfl | (simp only [↓hb57, ↓hb61, ↓hb62, cond_true, cond_false, Bool.true_or, Bool.or_true, Bool.false_or, Bool.or_false, Bool.true_and, Bool.and_true, Bool.false_and, Bool.and_false, Bool.not_true, Bool.not_false]; done) | (simp only [↓hb57, ↓hb61, ↓hb62, cond_true, cond_false, Bool.true_or, Bool.or_true, Bool.false_or, Bool.or_false, Bool.true_and, Bool.and_true, Bool.false_and, Bool.and_false, Bool.not_true, Bool.not_false]; rfl))⟩, ⟨rfl, rfl⟩, daS_d rfl, daS_d rfl, trivial⟩ ⟨⟨rfl, rfl⟩, ⟨rfl, rfl⟩, ⟨rfl, rfl⟩, ⟨rfl, rfl⟩, ⟨rfl, rfl⟩, ⟨rfl, rfl⟩, ⟨rfl, rfl⟩, ⟨rfl, rfl⟩, ⟨rfl, (by first | rfl | (simp only [↓hb57, ↓hb61, ↓hb62, cond_true, cond_false, Bool.true_or, Bool.or_true, Bool.false_or, Bool.or_false, Bool.true_and, Bool.and_true, Bool.false_and, Bool.and_false, Bool.not_true, Bool.not_false]; done) | (simp only [↓hb57, ↓hb61, ↓hb62, cond_true, cond_false, Bool.true_or, Bool.or_true, Bool.false_or, Bool.or_false, Bool.true_and, Bool.and_true, Bool.false_and, Bool.and_false, Bool.not_true, Bool.not_false]; rfl))⟩, ⟨rfl, rfl⟩, trivial⟩
            · conv => whnf
              refine ⟨_, (fun H => by (conv => whnf); (exact ⟨rfl, rfl⟩)), ?_⟩
              conv => whnf
              cases h
              exact Wk.mk2 [0, 1, 2, 3, 4, 5, 8, 6, 7] 9 rfl rfl (by decide) rfl ⟨⟨rfl, rfl⟩, ⟨rfl, rfl⟩, ⟨rfl, rfl⟩, ⟨rfl, rfl⟩, ⟨rfl, (by first | rfl | (simp only [↓hb57, ↓hb61, ↓hb62, cond_true, cond_false, Bool.true_or, Bool.or_true, Bool.false_or, Bool.or_false, Bool.true_and, Bool.and_true, Bool.false_and, Bool.and_false, Bool.not_true, Bool.not_false]; done) | (simp only [↓hb57, ↓hb61, ↓hb62, cond_true, cond_false, Bool.true_or, Bool.or_true, Bool.false_or, Bool.or_false, Bool.true_and, Bool.and_true, Bool.false_and, Bool.and_false, Bool.not_true, Bool.not_false]; rfl))⟩, ⟨rfl, (by first | rfl | (simp only [↓hb57, ↓hb61, ↓hb62, cond_true, cond_false, Bool.true_or, Bool.or_true, Bool.false_or, Bool.or_false, Bool.true_and, Bool.and_true, Bool.false_and, Bool.and_false, Bool.not_true, Bool.not_false]; done) | (simp only [↓hb57, ↓hb61, ↓hb62, cond_true, cond_false, Bool.true_or, Bool.or_true, Bool.false_or, Bool.or_false, Bool.true_and, Bool.and_true, Bool.false_and, Bool.and_false, Bool.not_true, Bool.not_false]; rfl))⟩, ⟨rfl, rfl⟩, daS_d rfl, daS_d rfl, trivial⟩ ⟨⟨rfl, rfl⟩, ⟨rfl, rfl⟩, ⟨rfl, rfl⟩, ⟨rfl, rfl⟩, ⟨rfl, rfl⟩, ⟨rfl, rfl⟩, ⟨rfl, rfl⟩, ⟨rfl, rfl⟩, ⟨rfl, (by first | rfl | (simp only [↓hb57, ↓hb61, ↓hb62, cond_true, cond_false, Bool.true_or, Bool.or_true, Bool.false_or, Bool.or_false, Bool.true_and, Bool.and_true, Bool.false_and, Bool.and_false, Bool.not_true, Bool.not_false]; done) | (simp only [↓hb57, ↓hb61, ↓hb62, cond_true, cond_false, Bool.true_or, Bool.or_true, Bool.false_or, Bool.or_false, Bool.true_and, Bool.and_true, Bool.false_and, Bool.and_false, Bool.not_true, Bool.not_false]; rfl))⟩, ⟨rfl, rfl⟩, trivial⟩
          · conv => whnf
            refine ⟨_, (fun H => by (conv => whnf); (exact ⟨rfl, rfl⟩)), ?_⟩
            conv => whnf
            refine ⟨_, (fun H => by (conv => whnf); (exact ⟨rfl, rfl⟩)), ?_⟩
            conv => whnf
            refine ⟨_, (fun H => by (conv => whnf); (exact ⟨rfl, rfl⟩)), ?_⟩
            conv => whnf
            cases h
            exact Wk.mk2 [0, 1, 2, 3, 4, 5, 8, 6, 7] 9 rfl rfl (by decide) rfl ⟨⟨rfl, rfl⟩, ⟨rfl, rfl⟩, ⟨rfl, rfl⟩, ⟨rfl, rfl⟩, ⟨rfl, (by first | rfl | (simp only [↓hb57, ↓hb61, cond_true, cond_false, Bool.true_or, Bool.or_true, Bool.false_or, Bool.or_false, Bool.true_and, Bool.and_true, Bool.false_and, Bool.and_false, Bool.not_true, Bool.not_false]; done) | (simp only [↓hb57, ↓hb61, cond_true, cond_false, Bool.true_or, Bool.or_true, Bool.false_or, Bool.or_false, Bool.true_and, Bool.and_true, Bool.false_and, Bool.and_false, Bool.not_true, Bool.not_false]; rfl))⟩, ⟨rfl, (by first | rfl | (simp only [↓hb57, ↓hb61, cond_true, cond_false, Bool.true_or, Bool.or_true, Bool.false_or, Bool.or_false, Bool.true_and, Bool.and_true, Bool.false_and, Bool.and_false, Bool.not_true, Bool.not_false]; done) | (simp only [↓hb57, ↓hb61, cond_true, cond_false, Bool.true_or, Bool.or_true, Bool.false_or, Bool.or_false, Bool.true_and, Bool.and_true, Bool.false_and, Bool.and_false, Bool.not_true, Bool.not_false]; rfl))⟩, ⟨rfl, rfl⟩, daS_d rfl, daS_d rfl, trivial⟩ ⟨⟨rfl, rfl⟩, ⟨rfl, rfl⟩, ⟨rfl, rfl⟩, ⟨rfl, rfl⟩, ⟨rfl, rfl⟩, ⟨rfl, rfl⟩, ⟨rfl, rfl⟩, ⟨rfl, rfl⟩, ⟨rfl, (by first | rfl | (simp only [↓hb57, ↓hb61, cond_true, cond_false, Bool.true_or, Bool.or_true, Bool.false_or, Bool.or_false, Bool.true_and, Bool.and_true, Bool.false_and, Bool.and_false, Bool.not_true, Bool.not_false]; done) | (simp only [↓hb57, ↓hb61, cond_true, cond_false, Bool.true_or, Bool.or_true, Bool.false_or, Bool.or_false, Bool.true_and, Bool.and_true, Bool.false_and, Bool.and_false, Bool.not_true, Bool.not_false]; rfl))⟩, ⟨rfl, rfl⟩, trivial⟩
        · clear hv60
          conv => whnf
          refine Tr.weak hw ?_
          refine Tr.cond ?_
          conv => whnf
          refine condS_bif h (fun hb64 h => ?_) (fun hb64 h => ?_)
          · refine Tr.seq ?_
            refine Tr.draw (DrawP.seqQ layOK mixed [] [(0, 3), (1, 3), (2, 1), (3, 2), (4, 2), (5, 2), (6, 4), (7, 4), (8, 2), (9, 2), (10, 1)] (by kernel_rfl) ?_)
            conv => whnf
            refine ⟨_, ⟨rfl, rfl, (by (conv => whnf); (exact ⟨rfl, rfl⟩))⟩, ?_⟩
            conv => whnf
            refine ⟨_, ⟨rfl, rfl, (by (conv => whnf); (exact ⟨rfl, rfl⟩))⟩, ?_⟩
            conv => whnf
            refine ⟨_, (fun H => by (conv => whnf); (exact ⟨rfl, rfl⟩)), ?_⟩
            conv => whnf
            obtain ⟨x_65, hx_65, h⟩ := bind_some h
            refine ⟨_, ⟨rfl, rfl, (by (conv => whnf); (refine ixP_of hx_65 ?_); (conv => whnf); (exact ⟨rfl, rfl⟩))⟩, ?_⟩
            conv => whnf
            refine ⟨_, ⟨rfl, rfl, (by (conv => whnf); (exact ⟨rfl, rfl⟩))⟩, ?_⟩
            conv => whnf
            refine ⟨_, ⟨rfl, rfl, (by (conv => whnf); (exact ⟨rfl, rfl⟩))⟩, ?_⟩
            conv => whnf
            refine ⟨_, ⟨rfl, rfl, (by (conv => whnf); (exact ⟨rfl, rfl⟩))⟩, ?_⟩
            conv => whnf
            refine ⟨_, ⟨rfl, rfl, (by (conv => whnf); (exact ⟨rfl, rfl⟩))⟩, ?_⟩
            conv => whnf
            obtain ⟨x_66, hx_66, h⟩ := bind_some h
            refine ⟨_, ⟨rfl, rfl, (by (conv => whnf); (refine ixP_of hx_66 ?_); (conv => whnf); (exact ⟨rfl, rfl⟩))⟩, ?_⟩
            conv => whnf
            refine ⟨_, ⟨rfl, rfl, (by (conv => whnf); (exact ⟨rfl, rfl⟩))⟩, ?_⟩
            conv => whnf
            refine ⟨_, (fun H => by (conv => whnf); (exact ⟨rfl, rfl⟩)), ?_⟩
            conv => whnf
            refine Tr.seq ?_
            obtain ⟨v_67, hv68, h⟩ := bind_some h
            refine Tr.cutQ1 ([(2, .d (.i .i64 by_3)), (3, .pt 0 0), (4, .pt 1 0), (6, .pt 2 0), (7, .pt 3 0), (8, .pt 4 0), (15, .pt 5 0), (16, .d (.i .i64 i_51)), (17, .pt 6 0), (178, .d (.b v_67))]) ([some (.var [.d (.ls (List.map eTSegment f_1.Clocks.Segments)), .d (.ls (List.map (eL eI) f_1.Clocks.Far)), .d (.ls (List.map eTPair f_1.Pairs)), .d (.ls (List.map eTRunner f_1.Runners))]), some (.var [.d (.i .i64 h_2.World), .d (.ls (List.map eI h_2.Offsets)), .d (.ls (List.map eTChoice h_2.Choices))]), some (.var [.nsl, .nsl, .nsl, .nsl]), some (.var [.d (.i .i64 0), .nsl, .nsl]), some (.var [.d (.ls (List.map eTSegment f_1.Clocks.Segments)), .d (.ls (List.map (eL eI) f_1.Clocks.Far)), .d (.ls (List.map eTPair f_1.Pairs)), .sl 7 3 0 (List.length l_11)]), some (.var [.d (.i .i64 h_2.World), .d (.ls (List.map eI h_2.Offsets)), .sl 8 2 0 (List.length l_52)]), some (.var [.d (.i .i64 x_58.Outcome), .d (.i .i64 x_58.X)]), some (.arr 3 (List.map .d (List.map eTRunner l_11))), some (.arr 2 (List.map .d (List.map eTChoice l_52)))]) ?_ (fun T1 H1 hw => ?_)
            · replace h := hv68; clear hv68
              refine Tr.region layOK ?_
              conv => whnf
              refine condS_bif h (fun hb69 h => ?_) (fun hb69 h => ?_)
              · conv => whnf
                refine lnS_map ?_
                conv => whnf
                refine condS_bif h (fun hb70 h => ?_) (fun hb70 h => ?_)
                · conv => whnf
                  obtain ⟨x_71, hx_71, h⟩ := bind_some h
                  refine ixP_of hx_71 ?_
                  conv => whnf
                  cases h
                  exact Wk.mk2 [0, 1, 2, 3, 4, 5, 6, 7, 8] 9 rfl rfl (by decide) rfl ⟨⟨rfl, rfl⟩, ⟨rfl, rfl⟩, ⟨rfl, rfl⟩, ⟨rfl, rfl⟩, ⟨rfl, rfl⟩, ⟨rfl, rfl⟩, ⟨rfl, rfl⟩, daS_d rfl, daS_d rfl, trivial⟩ ⟨⟨rfl, rfl⟩, ⟨rfl, rfl⟩, ⟨rfl, rfl⟩, ⟨rfl, rfl⟩, ⟨rfl, rfl⟩, ⟨rfl, rfl⟩, ⟨rfl, rfl⟩, ⟨rfl, rfl⟩, ⟨rfl, rfl⟩, ⟨rfl, rfl⟩, trivial⟩
                · conv => whnf
                  cases h
                  exact Wk.mk2 [0, 1, 2, 3, 4, 5, 6, 7, 8] 9 rfl rfl (by decide) rfl ⟨⟨rfl, rfl⟩, ⟨rfl, rfl⟩, ⟨rfl, rfl⟩, ⟨rfl, rfl⟩, ⟨rfl, rfl⟩, ⟨rfl, rfl⟩, ⟨rfl, rfl⟩, daS_d rfl, daS_d rfl, trivial⟩ ⟨⟨rfl, rfl⟩, ⟨rfl, rfl⟩, ⟨rfl, rfl⟩, ⟨rfl, rfl⟩, ⟨rfl, rfl⟩, ⟨rfl, rfl⟩, ⟨rfl, rfl⟩, ⟨rfl, rfl⟩, ⟨rfl, rfl⟩, ⟨rfl, rfl⟩, trivial⟩
              · conv => whnf
                cases h
                exact Wk.mk2 [0, 1, 2, 3, 4, 5, 6, 7, 8] 9 rfl rfl (by decide) rfl ⟨⟨rfl, rfl⟩, ⟨rfl, rfl⟩, ⟨rfl, rfl⟩, ⟨rfl, rfl⟩, ⟨rfl, rfl⟩, ⟨rfl, rfl⟩, ⟨rfl, rfl⟩, daS_d rfl, daS_d rfl, trivial⟩ ⟨⟨rfl, rfl⟩, ⟨rfl, rfl⟩, ⟨rfl, rfl⟩, ⟨rfl, rfl⟩, ⟨rfl, rfl⟩, ⟨rfl, rfl⟩, ⟨rfl, rfl⟩, ⟨rfl, rfl⟩, ⟨rfl, rfl⟩, ⟨rfl, rfl⟩, trivial⟩
            · clear hv68
              conv => whnf
              refine Tr.weak hw ?_
              refine Tr.cond ?_
              conv => whnf
              refine condS_bif h (fun hb72 h => ?_) (fun hb72 h => ?_)
              · refine Tr.region layOK ?_
                conv => whnf
                refine arS_raw ?_
                conv => whnf
                refine Tr.region layOK ?_
                conv => whnf
                refine orB_r ?_
                conv => whnf
                refine frP_no ?_
                conv => whnf
                refine eqS_mk (by first | rfl | simp) ?_
                conv => whnf
                obtain ⟨l_73, hl_73, h⟩ := bind_some h
                refine apS_of hl_73 (apq_map (f := eTChoice) (l := (([({ Outcome := x_58.Outcome, X := (w64 (x_58.X + by_3)) } : TChoice)] : List TChoice))) fun _ => rfl) (by first | rfl | simp) (by first | rfl | simp) (fun he => ?_)
                conv => whnf
                refine reS_mk (es' := List.map .d (List.map eTChoice l_73)) (n' := List.length l_73) (by subst he; simp only [List.map_append, List.map_cons, List.map_nil, List.nil_append]; first | done | rfl) (by subst he; simp <;> omega) ?_
                clear he
                conv => whnf
                refine orB_l ?_
                conv => whnf
                refine Tr.region layOK ?_
                conv => whnf
                refine arS_raw ?_
                conv => whnf
                refine ⟨((w64 (i_51 + 1)), l_73), h, ?_⟩
                exact Wk.mk2 [0, 1, 2, 3, 4, 5, 7, 9] 10 rfl rfl (by decide) rfl ⟨⟨rfl, rfl⟩, ⟨rfl, rfl⟩, ⟨rfl, rfl⟩, ⟨rfl, rfl⟩, ⟨rfl, (by first | rfl | (simp only [↓hb57, ↓hb64, ↓hb72, cond_true, cond_false, Bool.true_or, Bool.or_true, Bool.false_or, Bool.or_false, Bool.true_and, Bool.and_true, Bool.false_and, Bool.and_false, Bool.not_true, Bool.not_false]; done) | (simp only [↓hb57, ↓hb64, ↓hb72, cond_true, cond_false, Bool.true_or, Bool.or_true, Bool.false_or, Bool.or_false, Bool.true_and, Bool.and_true, Bool.false_and, Bool.and_false, Bool.not_true, Bool.not_false]; rfl))⟩, ⟨rfl, (by first | rfl | (simp only [↓hb57, ↓hb64, ↓hb72, cond_true, cond_false, Bool.true_or, Bool.or_true, Bool.false_or, Bool.or_false, Bool.true_and, Bool.and_true, Bool.false_and, Bool.and_false, Bool.not_true, Bool.not_false]; done) | (simp only [↓hb57, ↓hb64, ↓hb72, cond_true, cond_false, Bool.true_or, Bool.or_true, Bool.false_or, Bool.or_false, Bool.true_and, Bool.and_true, Bool.false_and, Bool.and_false, Bool.not_true, Bool.not_false]; rfl))⟩, daS_d rfl, daS_d rfl, trivial⟩ ⟨⟨rfl, rfl⟩, ⟨rfl, rfl⟩, ⟨rfl, rfl⟩, ⟨rfl, rfl⟩, ⟨rfl, rfl⟩, ⟨rfl, rfl⟩, ⟨rfl, rfl⟩, ⟨rfl, rfl⟩, trivial⟩
              · refine Tr.skip ?_
                conv => whnf
                refine Tr.region layOK ?_
                conv => whnf
                refine orB_r ?_
                conv => whnf
                refine frP_no ?_
                conv => whnf
                refine eqS_mk (by first | rfl | simp) ?_
                conv => whnf
                obtain ⟨l_74, hl_74, h⟩ := bind_some h
                refine apS_of hl_74 (apq_map (f := eTChoice) (l := (([x_58] : List TChoice))) fun _ => rfl) (by first | rfl | simp) (by first | rfl | simp) (fun he => ?_)
                conv => whnf
                refine reS_mk (es' := List.map .d (List.map eTChoice l_74)) (n' := List.length l_74) (by subst he; simp only [List.map_append, List.map_cons, List.map_nil, List.nil_append]; first | done | rfl) (by subst he; simp <;> omega) ?_
                clear he
                conv => whnf
                refine orB_l ?_
                conv => whnf
                refine Tr.region layOK ?_
                conv => whnf
                refine arS_raw ?_
                conv => whnf
                refine ⟨((w64 (i_51 + 1)), l_74), h, ?_⟩
                exact Wk.mk2 [0, 1, 2, 3, 4, 5, 7, 9] 10 rfl rfl (by decide) rfl ⟨⟨rfl, rfl⟩, ⟨rfl, rfl⟩, ⟨rfl, rfl⟩, ⟨rfl, rfl⟩, ⟨rfl, (by first | rfl | (simp only [↓hb57, ↓hb64, ↓hb72, cond_true, cond_false, Bool.true_or, Bool.or_true, Bool.false_or, Bool.or_false, Bool.true_and, Bool.and_true, Bool.false_and, Bool.and_false, Bool.not_true, Bool.not_false]; done) | (simp only [↓hb57, ↓hb64, ↓hb72, cond_true, cond_false, Bool.true_or, Bool.or_true, Bool.false_or, Bool.or_false, Bool.true_and, Bool.and_true, Bool.false_and, Bool.and_false, Bool.not_true, Bool.not_false]; rfl))⟩, ⟨rfl, (by first | rfl | (simp only [↓hb57, ↓hb64, ↓hb72, cond_true, cond_false, Bool.true_or, Bool.or_true, Bool.false_or, Bool.or_false, Bool.true_and, Bool.and_true, Bool.false_and, Bool.and_false, Bool.not_true, Bool.not_false]; done) | (simp only [↓hb57, ↓hb64, ↓hb72, cond_true, cond_false, Bool.true_or, Bool.or_true, Bool.false_or, Bool.or_false, Bool.true_and, Bool.and_true, Bool.false_and, Bool.and_false, Bool.not_true, Bool.not_false]; rfl))⟩, daS_d rfl, daS_d rfl, trivial⟩ ⟨⟨rfl, rfl⟩, ⟨rfl, rfl⟩, ⟨rfl, rfl⟩, ⟨rfl, rfl⟩, ⟨rfl, rfl⟩, ⟨rfl, rfl⟩, ⟨rfl, rfl⟩, ⟨rfl, rfl⟩, trivial⟩
          · refine Tr.skip ?_
            conv => whnf
            refine Tr.region layOK ?_
            conv => whnf
            refine orB_r ?_
            conv => whnf
            refine frP_no ?_
            conv => whnf
            refine eqS_mk (by first | rfl | simp) ?_
            conv => whnf
            obtain ⟨l_75, hl_75, h⟩ := bind_some h
            refine apS_of hl_75 (apq_map (f := eTChoice) (l := (([x_58] : List TChoice))) fun _ => rfl) (by first | rfl | simp) (by first | rfl | simp) (fun he => ?_)
            conv => whnf
            refine reS_mk (es' := List.map .d (List.map eTChoice l_75)) (n' := List.length l_75) (by subst he; simp only [List.map_append, List.map_cons, List.map_nil, List.nil_append]; first | done | rfl) (by subst he; simp <;> omega) ?_
            clear he
            conv => whnf
            refine orB_l ?_
            conv => whnf
            refine Tr.region layOK ?_
            conv => whnf
            refine arS_raw ?_
            conv => whnf
            refine ⟨((w64 (i_51 + 1)), l_75), h, ?_⟩
            exact Wk.mk2 [0, 1, 2, 3, 4, 5, 7, 9] 10 rfl rfl (by decide) rfl ⟨⟨rfl, rfl⟩, ⟨rfl, rfl⟩, ⟨rfl, rfl⟩, ⟨rfl, rfl⟩, ⟨rfl, (by first | rfl | (simp only [↓hb57, ↓hb64, cond_true, cond_false, Bool.true_or, Bool.or_true, Bool.false_or, Bool.or_false, Bool.true_and, Bool.and_true, Bool.false_and, Bool.and_false, Bool.not_true, Bool.not_false]; done) | (simp only [↓hb57, ↓hb64, cond_true, cond_false, Bool.true_or, Bool.or_true, Bool.false_or, Bool.or_false, Bool.true_and, Bool.and_true, Bool.false_and, Bool.and_false, Bool.not_true, Bool.not_false]; rfl))⟩, ⟨rfl, (by first | rfl | (simp only [↓hb57, ↓hb64, cond_true, cond_false, Bool.true_or, Bool.or_true, Bool.false_or, Bool.or_false, Bool.true_and, Bool.and_true, Bool.false_and, Bool.and_false, Bool.not_true, Bool.not_false]; done) | (simp only [↓hb57, ↓hb64, cond_true, cond_false, Bool.true_or, Bool.or_true, Bool.false_or, Bool.or_false, Bool.true_and, Bool.and_true, Bool.false_and, Bool.and_false, Bool.not_true, Bool.not_false]; rfl))⟩, daS_d rfl, daS_d rfl, trivial⟩ ⟨⟨rfl, rfl⟩, ⟨rfl, rfl⟩, ⟨rfl, rfl⟩, ⟨rfl, rfl⟩, ⟨rfl, rfl⟩, ⟨rfl, rfl⟩, ⟨rfl, rfl⟩, ⟨rfl, rfl⟩, trivial⟩
      · refine Tr.exit ?_
        conv => whnf
        cases h
        exact Wk.mk2 [2, 3, 4, 5, 6, 7] 8 rfl rfl (by decide) rfl ⟨⟨rfl, rfl⟩, ⟨rfl, rfl⟩, ⟨rfl, (by first | rfl | (simp only [↓hb57, cond_true, cond_false, Bool.true_or, Bool.or_true, Bool.false_or, Bool.or_false, Bool.true_and, Bool.and_true, Bool.false_and, Bool.and_false, Bool.not_true, Bool.not_false]; done) | (simp only [↓hb57, cond_true, cond_false, Bool.true_or, Bool.or_true, Bool.false_or, Bool.or_false, Bool.true_and, Bool.and_true, Bool.false_and, Bool.and_false, Bool.not_true, Bool.not_false]; rfl))⟩, ⟨rfl, (by first | rfl | (simp only [↓hb57, cond_true, cond_false, Bool.true_or, Bool.or_true, Bool.false_or, Bool.or_false, Bool.true_and, Bool.and_true, Bool.false_and, Bool.and_false, Bool.not_true, Bool.not_false]; done) | (simp only [↓hb57, cond_true, cond_false, Bool.true_or, Bool.or_true, Bool.false_or, Bool.or_false, Bool.true_and, Bool.and_true, Bool.false_and, Bool.and_false, Bool.not_true, Bool.not_false]; rfl))⟩, daS_d rfl, daS_d rfl, trivial⟩ ⟨⟨rfl, (by first | rfl | (simp only [↓hb57, cond_true, cond_false, Bool.true_or, Bool.or_true, Bool.false_or, Bool.or_false, Bool.true_and, Bool.and_true, Bool.false_and, Bool.and_false, Bool.not_true, Bool.not_false]; done) | (simp only [↓hb57, cond_true, cond_false, Bool.true_or, Bool.or_true, Bool.false_or, Bool.or_false, Bool.true_and, Bool.and_true, Bool.false_and, Bool.and_false, Bool.not_true, Bool.not_false]; rfl))⟩, ⟨rfl, (by first | rfl | (simp only [↓hb57, cond_true, cond_false, Bool.true_or, Bool.or_true, Bool.false_or, Bool.or_false, Bool.true_and, Bool.and_true, Bool.false_and, Bool.and_false, Bool.not_true, Bool.not_false]; done) | (simp only [↓hb57, cond_true, cond_false, Bool.true_or, Bool.or_true, Bool.false_or, Bool.or_false, Bool.true_and, Bool.and_true, Bool.false_and, Bool.and_false, Bool.not_true, Bool.not_false]; rfl))⟩, ⟨rfl, (by first | rfl | (simp only [↓hb57, cond_true, cond_false, Bool.true_or, Bool.or_true, Bool.false_or, Bool.or_false, Bool.true_and, Bool.and_true, Bool.false_and, Bool.and_false, Bool.not_true, Bool.not_false]; done) | (simp only [↓hb57, cond_true, cond_false, Bool.true_or, Bool.or_true, Bool.false_or, Bool.or_false, Bool.true_and, Bool.and_true, Bool.false_and, Bool.and_false, Bool.not_true, Bool.not_false]; rfl))⟩, ⟨rfl, (by first | rfl | (simp only [↓hb57, cond_true, cond_false, Bool.true_or, Bool.or_true, Bool.false_or, Bool.or_false, Bool.true_and, Bool.and_true, Bool.false_and, Bool.and_false, Bool.not_true, Bool.not_false]; done) | (simp only [↓hb57, cond_true, cond_false, Bool.true_or, Bool.or_true, Bool.false_or, Bool.or_false, Bool.true_and, Bool.and_true, Bool.false_and, Bool.and_false, Bool.not_true, Bool.not_false]; rfl))⟩, trivial⟩
    · clear hv76
      conv => whnf
      refine Tr.weak hw ?_
      refine Tr.seq ?_
      refine Tr.draw (DrawP.seqQ layOK mixed [(2, 0), (3, 1)] [(0, 5), (1, 6), (2, 0), (3, 0)] (by kernel_rfl) ?_)
      conv => whnf
      refine ⟨_, ⟨rfl, rfl, (by (conv => whnf); (exact ⟨rfl, rfl⟩))⟩, ?_⟩
      conv => whnf
      refine ⟨_, ⟨rfl, rfl, (by (conv => whnf); (exact ⟨rfl, rfl⟩))⟩, ?_⟩
      conv => whnf
      refine ⟨_, _, (by (conv => whnf); (refine orB_l ?_); (conv => whnf); (exact ⟨rfl, rfl⟩)), kp_ok (by repeat (first | exact trivial | refine ⟨trivial, ?_⟩ | refine ⟨rfl, ?_⟩)), ?_⟩
      conv => whnf
      refine ⟨_, _, (by (conv => whnf); (refine orB_l ?_); (conv => whnf); (exact ⟨rfl, rfl⟩)), kp_ok (by repeat (first | exact trivial | refine ⟨trivial, ?_⟩ | refine ⟨rfl, ?_⟩)), ?_⟩
      conv => whnf
      refine Tr.ret ?_
      conv => whnf
      refine frE_of (f := eTRunner) (l := l_11) rfl ?_
      conv => whnf
      refine frE_of (f := eTChoice) (l := l_54) rfl ?_
      conv => whnf
      cases h
      rfl

theorem s_stopwatchlaw26_HistoryLater (f_1 : TField) (h_2 : THistory) (by_3 : Int) (r_4 : Bool) (h : m_stopwatchlaw26_HistoryLater f_1 h_2 by_3 = some r_4) :
    PC prog 5 [(eTField f_1), (eTHistory h_2), (.i .i64 by_3)] (fun rs => rs = [(.b r_4)]) := by
  refine PC.of_tr (cx := ⟨66, none, lay, 0⟩) layOK func5 rfl rfl rfl rfl rfl (by simp [f5]) ?_
  unfold m_stopwatchlaw26_HistoryLater at h
  refine Tr.seq ?_
  refine Tr.region layOK ?_
  conv => whnf
  refine Tr.seq ?_
  refine Tr.seq ?_
  refine Tr.region layOK ?_
  conv => whnf
  obtain ⟨r_5, hc6, h⟩ := bind_some h
  refine PC.ecall (s_stopwatchlaw26_sane r_5 hc6) (fun rs hrs => ?_)
  subst hrs
  conv => whnf
  refine Tr.cond ?_
  conv => whnf
  refine condS_bif h (fun hb7 h => ?_) (fun hb7 h => ?_)
  · refine Tr.seq ?_
    refine Tr.region layOK ?_
    conv => whnf
    refine Tr.ret ?_
    conv => whnf
    cases h
    rfl
  · refine Tr.skip ?_
    conv => whnf
    refine Tr.seq ?_
    refine Tr.seq ?_
    obtain ⟨v_8, hv9, h⟩ := bind_some h
    refine Tr.cutQ1 ([(2, .d (.i .i64 by_3)), (3, .pt 0 0), (4, .pt 1 0), (6, .d (.b false)), (32, .d (.b v_8))]) ([some (.var [.d (.ls (List.map eTSegment f_1.Clocks.Segments)), .d (.ls (List.map (eL eI) f_1.Clocks.Far)), .d (.ls (List.map eTPair f_1.Pairs)), .d (.ls (List.map eTRunner f_1.Runners))]), some (.var [.d (.i .i64 h_2.World), .d (.ls (List.map eI h_2.Offsets)), .d (.ls (List.map eTChoice h_2.Choices))])]) ?_ (fun T1 H1 hw => ?_)
    · replace h := hv9; clear hv9
      refine Tr.region layOK ?_
      conv => whnf
      obtain ⟨r_10, hc11, h⟩ := bind_some h
      refine PC.ecall (s_stopwatchlaw26_few f_1 h_2 r_10 hc11) (fun rs hrs => ?_)
      subst hrs
      conv => whnf
      refine condS_bif h (fun hb12 h => ?_) (fun hb12 h => ?_)
      · conv => whnf
        cases h
        exact Wk.mk2 [0, 1] 2 rfl rfl (by decide) rfl ⟨⟨rfl, rfl⟩, ⟨rfl, rfl⟩, trivial⟩ ⟨⟨rfl, rfl⟩, ⟨rfl, rfl⟩, ⟨rfl, rfl⟩, ⟨rfl, rfl⟩, ⟨rfl, rfl⟩, trivial⟩
      · conv => whnf
        refine condS_bif h (fun hb13 h => ?_) (fun hb13 h => ?_)
        · conv => whnf
          cases h
          exact Wk.mk2 [0, 1] 2 rfl rfl (by decide) rfl ⟨⟨rfl, rfl⟩, ⟨rfl, rfl⟩, trivial⟩ ⟨⟨rfl, rfl⟩, ⟨rfl, rfl⟩, ⟨rfl, rfl⟩, ⟨rfl, rfl⟩, ⟨rfl, rfl⟩, trivial⟩
        · conv => whnf
          refine condS_bif h (fun hb14 h => ?_) (fun hb14 h => ?_)
          · conv => whnf
            cases h
            exact Wk.mk2 [0, 1] 2 rfl rfl (by decide) rfl ⟨⟨rfl, rfl⟩, ⟨rfl, rfl⟩, trivial⟩ ⟨⟨rfl, rfl⟩, ⟨rfl, rfl⟩, ⟨rfl, rfl⟩, ⟨rfl, rfl⟩, ⟨rfl, rfl⟩, trivial⟩
          · conv => whnf
            obtain ⟨r_15, hc16, h⟩ := bind_some h
            refine PC.ecall (s_history_Check f_1 h_2 r_15 hc16) (fun rs hrs => ?_)
            subst hrs
            conv => whnf
            cases h
            exact Wk.mk2 [0, 1] 2 rfl rfl (by decide) rfl ⟨⟨rfl, rfl⟩, ⟨rfl, rfl⟩, trivial⟩ ⟨⟨rfl, rfl⟩, ⟨rfl, rfl⟩, ⟨rfl, rfl⟩, ⟨rfl, rfl⟩, ⟨rfl, rfl⟩, trivial⟩
    · clear hv9
      conv => whnf
      refine Tr.weak hw ?_
      refine Tr.cond ?_
      conv => whnf
      refine condS_bif h (fun hb17 h => ?_) (fun hb17 h => ?_)
      · refine Tr.seq ?_
        refine Tr.region layOK ?_
        conv => whnf
        refine Tr.ret ?_
        conv => whnf
        cases h
        rfl
      · refine Tr.skip ?_
        conv => whnf
        refine Tr.seq ?_
        refine Tr.region layOK ?_
        conv => whnf
        obtain ⟨⟨r_18, r_19⟩, hc20, h⟩ := bind_some h
        refine PC.ecall (s_stopwatchlaw26_later f_1 h_2 by_3 r_18 r_19 hc20) (fun rs hrs => ?_)
        subst hrs
        conv => whnf
        refine Tr.seq ?_
        refine Tr.seq ?_
        refine Tr.region layOK ?_
        conv => whnf
        obtain ⟨r_21, hc22, h⟩ := bind_some h
        refine PC.ecall (s_field_Check r_18 r_21 hc22) (fun rs hrs => ?_)
        subst hrs
        conv => whnf
        refine Tr.cond ?_
        conv => whnf
        refine condS_bif h (fun hb23 h => ?_) (fun hb23 h => ?_)
        · refine Tr.seq ?_
          refine Tr.region layOK ?_
          conv => whnf
          refine Tr.ret ?_
          conv => whnf
          cases h
          rfl
        · refine Tr.skip ?_
          conv => whnf
          refine Tr.seq ?_
          refine Tr.region layOK ?_
          conv => whnf
          obtain ⟨⟨r_24, r_25⟩, hc26, h⟩ := bind_some h
          refine PC.ecall (s_history_Order f_1 h_2 r_24 r_25 hc26) (fun rs hrs => ?_)
          subst hrs
          conv => whnf
          refine Tr.seq ?_
          refine Tr.region layOK ?_
          conv => whnf
          obtain ⟨⟨r_27, r_28⟩, hc29, h⟩ := bind_some h
          refine PC.ecall (s_history_Order r_18 r_19 r_27 r_28 hc29) (fun rs hrs => ?_)
          subst hrs
          conv => whnf
          refine Tr.seq ?_
          refine Tr.region layOK ?_
          conv => whnf
          refine condS_bif h (fun hb30 h => ?_) (fun hb30 h => ?_)
          · conv => whnf
            refine condS_bif h (fun hb31 h => ?_) (fun hb31 h => ?_)
            · conv => whnf
              obtain ⟨r_32, hc33, h⟩ := bind_some h
              refine PC.ecall (s_stopwatchref07_Same r_24 r_27 r_32 hc33) (fun rs hrs => ?_)
              subst hrs
              conv => whnf
              refine Tr.ret ?_
              conv => whnf
              cases h
              rfl
            · conv => whnf
              refine Tr.ret ?_
              conv => whnf
              cases h
              rfl
          · conv => whnf
            refine Tr.ret ?_
            conv => whnf
            cases h
            rfl
end Go.Proofs.Try
