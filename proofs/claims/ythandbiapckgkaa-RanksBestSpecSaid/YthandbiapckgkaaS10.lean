/- Contracts of functions, by program (gen.py). No condition. -/
import Derived.Test.YthandbiapckgkaaL
import Derived.Test.YthandbiapckgkaaM
import Derived.Test.YthandbiapckgkaaS9
namespace Go.Proofs.Try
open Go Go.Abs Go.Stop
set_option maxRecDepth 8000
set_option linter.unusedVariables false
set_option linter.unusedSimpArgs false

theorem s_ranks_extreme_with_ranks_worst_2 (f_1 : TField) (runner_2 : Int) (r_3 : THistory) (r_4 : Bool) (r_5 : Int) (h : m_ranks_extreme_with_ranks_worst_2 f_1 runner_2 = some (r_3, r_4, r_5)) :
    PC prog 50 [(.ag [(.fn 56 []), (.fn 55 []), (.fn 60 []), (.fn 61 [])]), (eTField f_1), (.i .i64 runner_2)] (fun rs => rs = [(eTHistory r_3), (.b r_4), (.i .i64 r_5)]) := by
  refine PC.of_tr (cx := ⟨34, none, lay, 0⟩) layOK func50 rfl rfl rfl rfl rfl (by simp [f50]) ?_
  unfold m_ranks_extreme_with_ranks_worst_2 at h
  refine Tr.seq ?_
  refine Tr.region layOK ?_
  conv => whnf
  refine Tr.seq ?_
  refine Tr.seq ?_
  refine Tr.region layOK ?_
  conv => whnf
  refine orB_r ?_
  conv => whnf
  obtain ⟨r_6, hc7, h⟩ := bind_some h
  refine PC.ecall (s_ranks_check f_1 ((([runner_2] : List Int))) r_6 hc7) (fun rs hrs => ?_)
  subst hrs
  conv => whnf
  refine Tr.seq ?_
  refine Tr.region layOK ?_
  conv => whnf
  refine Tr.cond ?_
  conv => whnf
  refine condS_bif h (fun hb8 h => ?_) (fun hb8 h => ?_)
  · refine Tr.seq ?_
    refine Tr.region layOK ?_
    conv => whnf
    refine orB_l ?_
    conv => whnf
    refine Tr.ret ?_
    conv => whnf
    cases h
    rfl
  · refine Tr.skip ?_
    conv => whnf
    refine Tr.seq ?_
    refine Tr.region layOK ?_
    conv => whnf
    obtain ⟨⟨r_9, r_10⟩, hc11, h⟩ := bind_some h
    refine PC.ecall (s_ranks_direction_drive_with_ranks_worst_2 f_1 runner_2 r_9 r_10 hc11) (fun rs hrs => ?_)
    subst hrs
    conv => whnf
    refine Tr.seq ?_
    refine Tr.seq ?_
    refine Tr.region layOK ?_
    conv => whnf
    refine Tr.cond ?_
    conv => whnf
    refine condS_bif h (fun hb12 h => ?_) (fun hb12 h => ?_)
    · refine Tr.seq ?_
      refine Tr.region layOK ?_
      conv => whnf
      refine orB_l ?_
      conv => whnf
      refine Tr.ret ?_
      conv => whnf
      cases h
      rfl
    · refine Tr.skip ?_
      conv => whnf
      refine Tr.seq ?_
      refine Tr.region layOK ?_
      conv => whnf
      obtain ⟨r_13, hc14, h⟩ := bind_some h
      refine PC.ecall (s_ranks_direction_history_with_ranks_worst_2 f_1 runner_2 r_9 r_13 hc14) (fun rs hrs => ?_)
      subst hrs
      conv => whnf
      refine Tr.ret ?_
      conv => whnf
      cases h
      rfl

theorem s_ranks_Worst (f_1 : TField) (runner_2 : Int) (r_3 : THistory) (r_4 : Bool) (r_5 : Int) (h : m_ranks_Worst f_1 runner_2 = some (r_3, r_4, r_5)) :
    PC prog 30 [(eTField f_1), (.i .i64 runner_2)] (fun rs => rs = [(eTHistory r_3), (.b r_4), (.i .i64 r_5)]) := by
  refine PC.of_tr (cx := ⟨14, none, lay, 0⟩) layOK func30 rfl rfl rfl rfl rfl (by simp [f30]) ?_
  unfold m_ranks_Worst at h
  refine Tr.seq ?_
  refine Tr.region layOK ?_
  conv => whnf
  refine Tr.seq ?_
  refine Tr.draw (DrawP.seqQ layOK mixed [(7, 1)] [(0, 1), (1, 3), (2, 1), (3, 1), (4, 1), (5, 1), (6, 1), (7, 0), (8, 1), (9, 1)] (by kernel_rfl) ?_)
  conv => whnf
  obtain ⟨_, hc6, h⟩ := bind_some h
  refine ⟨_, (fun H => by (conv => whnf); (refine PC.ecall (s_ranks_worst  hc6) (fun rs hrs => ?_)); (subst hrs); (conv => whnf); (exact ⟨rfl, rfl⟩)), ?_⟩
  conv => whnf
  refine ⟨_, ⟨rfl, rfl, (by (conv => whnf); (exact ⟨rfl, rfl⟩))⟩, ?_⟩
  conv => whnf
  refine ⟨_, (fun H => by (conv => whnf); (exact ⟨rfl, rfl⟩)), ?_⟩
  conv => whnf
  obtain ⟨⟨r_7, r_8, r_9⟩, hc10, h⟩ := bind_some h
  refine ⟨_, (fun H => by (conv => whnf); (refine PC.ecall (s_ranks_extreme_with_ranks_worst_2 f_1 runner_2 r_7 r_8 r_9 hc10) (fun rs hrs => ?_)); (subst hrs); (conv => whnf); (exact ⟨rfl, rfl⟩)), ?_⟩
  conv => whnf
  refine ⟨_, (fun H => by (conv => whnf); (exact ⟨rfl, rfl⟩)), ?_⟩
  conv => whnf
  refine ⟨_, (fun H => by (conv => whnf); (exact ⟨rfl, rfl⟩)), ?_⟩
  conv => whnf
  refine ⟨_, (fun H => by (conv => whnf); (exact ⟨rfl, rfl⟩)), ?_⟩
  conv => whnf
  refine ⟨_, _, (by (conv => whnf); (exact ⟨rfl, rfl⟩)), kp_ok (by repeat (first | exact trivial | refine ⟨trivial, ?_⟩ | refine ⟨rfl, ?_⟩)), ?_⟩
  conv => whnf
  refine ⟨_, (fun H => by (conv => whnf); (exact ⟨rfl, rfl⟩)), ?_⟩
  conv => whnf
  refine ⟨_, (fun H => by (conv => whnf); (exact ⟨rfl, rfl⟩)), ?_⟩
  conv => whnf
  refine Tr.ret ?_
  conv => whnf
  cases h
  rfl

theorem s_stopwatchlaw25_ranksZero (h_1 : THistory) (r_2 : Bool) (h : m_stopwatchlaw25_ranksZero h_1 = some r_2) :
    PC prog 31 [(eTHistory h_1)] (fun rs => rs = [(.b r_2)]) := by
  refine PC.of_tr (cx := ⟨18, none, lay, 0⟩) layOK func31 rfl rfl rfl rfl rfl (by simp [f31]) ?_
  unfold m_stopwatchlaw25_ranksZero at h
  refine Tr.seq ?_
  refine Tr.region layOK ?_
  conv => whnf
  refine Tr.seq ?_
  refine Tr.region layOK ?_
  conv => whnf
  refine condS_bif h (fun hb3 h => ?_) (fun hb3 h => ?_)
  · conv => whnf
    refine lnS_map ?_
    conv => whnf
    refine condS_bif h (fun hb4 h => ?_) (fun hb4 h => ?_)
    · conv => whnf
      refine lnS_map ?_
      conv => whnf
      refine Tr.ret ?_
      conv => whnf
      cases h
      rfl
    · conv => whnf
      refine Tr.ret ?_
      conv => whnf
      cases h
      rfl
  · conv => whnf
    refine Tr.ret ?_
    conv => whnf
    cases h
    rfl

theorem s_stopwatchref25_Admissible (f_1 : TField) (h_2 : THistory) (r_3 : Bool) (h : m_stopwatchref25_Admissible f_1 h_2 = some r_3) :
    PC prog 17 [(eTField f_1), (eTHistory h_2)] (fun rs => rs = [(.b r_3)]) := by
  refine PC.of_tr (cx := ⟨153, none, lay, 0⟩) layOK func17 rfl rfl rfl rfl rfl (by simp [f17]) ?_
  unfold m_stopwatchref25_Admissible at h
  refine Tr.seq ?_
  refine Tr.region layOK ?_
  conv => whnf
  refine Tr.seq ?_
  refine Tr.seq ?_
  refine Tr.region layOK ?_
  conv => whnf
  obtain ⟨r_4, hc5, h⟩ := bind_some h
  refine PC.ecall (s_stopwatchref25_Possible f_1 h_2.World r_4 hc5) (fun rs hrs => ?_)
  subst hrs
  conv => whnf
  refine condS_bif h (fun hb6 h => ?_) (fun hb6 h => ?_)
  · conv => whnf
    refine Tr.cond ?_
    conv => whnf
    refine Tr.seq ?_
    refine Tr.region layOK ?_
    conv => whnf
    refine Tr.ret ?_
    conv => whnf
    cases h
    rfl
  · conv => whnf
    refine lnS_map ?_
    conv => whnf
    refine lnS_map ?_
    conv => whnf
    refine condS_bif h (fun hb7 h => ?_) (fun hb7 h => ?_)
    · conv => whnf
      refine Tr.cond ?_
      conv => whnf
      refine Tr.seq ?_
      refine Tr.region layOK ?_
      conv => whnf
      refine Tr.ret ?_
      conv => whnf
      cases h
      rfl
    · conv => whnf
      refine lnS_map ?_
      conv => whnf
      refine lnS_map ?_
      conv => whnf
      refine Tr.cond ?_
      conv => whnf
      refine condS_bif h (fun hb8 h => ?_) (fun hb8 h => ?_)
      · refine Tr.seq ?_
        refine Tr.region layOK ?_
        conv => whnf
        refine Tr.ret ?_
        conv => whnf
        cases h
        rfl
      · refine Tr.skip ?_
        conv => whnf
        refine Tr.seq ?_
        refine Tr.region layOK ?_
        conv => whnf
        refine orB_l ?_
        conv => whnf
        refine frP_no ?_
        conv => whnf
        refine eqS_mk (by first | rfl | simp) ?_
        conv => whnf
        obtain ⟨l_9, hl_9, h⟩ := bind_some h
        refine apS_of hl_9 (apq_map (f := eI) (l := h_2.Offsets) fun _ => rfl) (by first | rfl | simp) (by first | rfl | simp) (fun he => ?_)
        conv => whnf
        refine reS_mk (es' := List.map .d (List.map eI l_9)) (n' := List.length l_9) (by subst he; simp only [List.map_append, List.map_cons, List.map_nil, List.nil_append]; first | done | rfl) (by subst he; simp <;> omega) ?_
        clear he
        conv => whnf
        refine Tr.seq ?_
        refine Tr.seq ?_
        refine Tr.region layOK ?_
        conv => whnf
        refine Tr.cutQ (α := Unit) (fun s => ([(2, .pt 0 0), (3, .pt 1 0), (4, .d (.b false)), (5, .sl 2 1 0 (List.length l_9))], [some (.var [.d (.ls (List.map eTSegment f_1.Clocks.Segments)), .d (.ls (List.map (eL eI) f_1.Clocks.Far)), .d (.ls (List.map eTPair f_1.Pairs)), .d (.ls (List.map eTRunner f_1.Runners))]), some (.var [.d (.i .i64 h_2.World), .d (.ls (List.map eI h_2.Offsets)), .d (.ls (List.map eTChoice h_2.Choices))]), some (.arr 1 (List.map .d (List.map eI l_9)))])) (fun s => m_stopwatchref25_Admissible_J8 f_1 h_2 l_9 s = some r_3) ?_ ?_
        · refine Tr.block ?_
          refine Tr.loopM (σ := Int) (fun n s => m_stopwatchref25_Admissible_L1 l_9 (m_stopwatchref25_Admissible_J8 f_1 h_2 l_9) n s) r_3 (fun s => ([(2, .pt 0 0), (3, .pt 1 0), (4, .d (.b false)), (5, .sl 2 1 0 (List.length l_9)), (6, .d (.i .i64 s))], [some (.var [.d (.ls (List.map eTSegment f_1.Clocks.Segments)), .d (.ls (List.map (eL eI) f_1.Clocks.Far)), .d (.ls (List.map eTPair f_1.Pairs)), .d (.ls (List.map eTRunner f_1.Runners))]), some (.var [.d (.i .i64 h_2.World), .d (.ls (List.map eI h_2.Offsets)), .d (.ls (List.map eTChoice h_2.Choices))]), some (.arr 1 (List.map .d (List.map eI l_9)))])) (((((l_9).length : Int)) - 0 : Int).toNat + 1) (0) h (fun s => rfl) (Wk.mk2 [0, 1, 3] 4 rfl rfl (by decide) rfl ⟨⟨rfl, rfl⟩, ⟨rfl, rfl⟩, daS_d rfl, trivial⟩ ⟨⟨rfl, rfl⟩, ⟨rfl, rfl⟩, ⟨rfl, rfl⟩, ⟨rfl, (by first | rfl | (simp only [↓hb6, ↓hb7, ↓hb8, cond_true, cond_false, Bool.true_or, Bool.or_true, Bool.false_or, Bool.or_false, Bool.true_and, Bool.and_true, Bool.false_and, Bool.and_false, Bool.not_true, Bool.not_false]; done) | (simp only [↓hb6, ↓hb7, ↓hb8, cond_true, cond_false, Bool.true_or, Bool.or_true, Bool.false_or, Bool.or_false, Bool.true_and, Bool.and_true, Bool.false_and, Bool.and_false, Bool.not_true, Bool.not_false]; rfl))⟩, ⟨rfl, rfl⟩, trivial⟩) ?_
          clear h
          rintro n_12 i_11 h
          replace h : m_stopwatchref25_Admissible_L1 l_9 (m_stopwatchref25_Admissible_J8 f_1 h_2 l_9) (n_12 + 1) i_11 = some r_3 := h
          rw [m_stopwatchref25_Admissible_L1] at h
          refine Tr.seq ?_
          refine Tr.seq ?_
          refine Tr.region layOK ?_
          conv => whnf
          refine lnS_mk rfl ?_
          conv => whnf
          refine Tr.cond ?_
          conv => whnf
          refine condS_bif h (fun hb15 h => ?_) (fun hb15 h => ?_)
          · refine Tr.skip ?_
            conv => whnf
            refine Tr.seq ?_
            refine Tr.block ?_
            refine Tr.seq ?_
            refine Tr.region layOK ?_
            conv => whnf
            obtain ⟨x_16, hx_16, h⟩ := bind_some h
            refine ixS_of hx_16 rfl ?_
            conv => whnf
            refine elP_of hx_16 ?_
            conv => whnf
            refine condS_bif h (fun hb17 h => ?_) (fun hb17 h => ?_)
            · conv => whnf
              refine Tr.cond ?_
              conv => whnf
              refine Tr.seq ?_
              refine Tr.region layOK ?_
              conv => whnf
              refine Tr.ret ?_
              conv => whnf
              cases h
              rfl
            · conv => whnf
              obtain ⟨x_18, hx_18, h⟩ := bind_some h
              refine ixS_of hx_18 rfl ?_
              conv => whnf
              refine elP_of hx_18 ?_
              conv => whnf
              refine Tr.cond ?_
              conv => whnf
              refine condS_bif h (fun hb19 h => ?_) (fun hb19 h => ?_)
              · refine Tr.seq ?_
                refine Tr.region layOK ?_
                conv => whnf
                refine Tr.ret ?_
                conv => whnf
                cases h
                rfl
              · refine Tr.skip ?_
                conv => whnf
                refine Tr.region layOK ?_
                conv => whnf
                refine arS_raw ?_
                conv => whnf
                refine ⟨((w64 (i_11 + 1))), h, ?_⟩
                exact Wk.mk2 [0, 1, 2] 3 rfl rfl (by decide) rfl ⟨⟨rfl, rfl⟩, ⟨rfl, rfl⟩, daS_d rfl, trivial⟩ ⟨⟨rfl, rfl⟩, ⟨rfl, rfl⟩, ⟨rfl, rfl⟩, ⟨rfl, rfl⟩, ⟨rfl, rfl⟩, trivial⟩
          · refine Tr.exit ?_
            conv => whnf
            refine ⟨(), h, ?_⟩
            exact Wk.mk2 [0, 1, 2] 3 rfl rfl (by decide) rfl ⟨⟨rfl, rfl⟩, ⟨rfl, rfl⟩, daS_d rfl, trivial⟩ ⟨⟨rfl, rfl⟩, ⟨rfl, rfl⟩, ⟨rfl, rfl⟩, ⟨rfl, rfl⟩, trivial⟩
        · clear h
          rintro _ h T1 H1 hw
          replace h : m_stopwatchref25_Admissible_J8 f_1 h_2 l_9 () = some r_3 := h
          conv => whnf
          refine Tr.weak hw ?_
          unfold m_stopwatchref25_Admissible_J8 at h
          refine Tr.seq ?_
          refine Tr.seq ?_
          refine Tr.region layOK ?_
          conv => whnf
          refine Tr.cutQ (α := Unit) (fun s => ([(2, .pt 0 0), (3, .pt 1 0), (4, .d (.b false))], [some (.var [.d (.ls (List.map eTSegment f_1.Clocks.Segments)), .d (.ls (List.map (eL eI) f_1.Clocks.Far)), .d (.ls (List.map eTPair f_1.Pairs)), .d (.ls (List.map eTRunner f_1.Runners))]), some (.var [.d (.i .i64 h_2.World), .d (.ls (List.map eI h_2.Offsets)), .d (.ls (List.map eTChoice h_2.Choices))])])) (fun s => m_stopwatchref25_Admissible_J7 f_1 h_2 s = some r_3) ?_ ?_
          · refine Tr.block ?_
            refine Tr.loopM (σ := Int) (fun n s => m_stopwatchref25_Admissible_L2 f_1 l_9 (m_stopwatchref25_Admissible_J7 f_1 h_2) n s) r_3 (fun s => ([(2, .pt 0 0), (3, .pt 1 0), (4, .d (.b false)), (5, .sl 2 1 0 (List.length l_9)), (7, .d (.i .i64 s))], [some (.var [.d (.ls (List.map eTSegment f_1.Clocks.Segments)), .d (.ls (List.map (eL eI) f_1.Clocks.Far)), .d (.ls (List.map eTPair f_1.Pairs)), .d (.ls (List.map eTRunner f_1.Runners))]), some (.var [.d (.i .i64 h_2.World), .d (.ls (List.map eI h_2.Offsets)), .d (.ls (List.map eTChoice h_2.Choices))]), some (.arr 1 (List.map .d (List.map eI l_9)))])) (((((l_9).length : Int)) - 0 : Int).toNat + 1) (0) h (fun s => rfl) (Wk.mk2 [0, 1, 2] 3 rfl rfl (by decide) rfl ⟨⟨rfl, rfl⟩, ⟨rfl, rfl⟩, daS_d rfl, trivial⟩ ⟨⟨rfl, rfl⟩, ⟨rfl, rfl⟩, ⟨rfl, rfl⟩, ⟨rfl, rfl⟩, ⟨rfl, rfl⟩, trivial⟩) ?_
            clear h
            rintro n_22 i_21 h
            replace h : m_stopwatchref25_Admissible_L2 f_1 l_9 (m_stopwatchref25_Admissible_J7 f_1 h_2) (n_22 + 1) i_21 = some r_3 := h
            rw [m_stopwatchref25_Admissible_L2] at h
            refine Tr.seq ?_
            refine Tr.seq ?_
            refine Tr.region layOK ?_
            conv => whnf
            refine lnS_mk rfl ?_
            conv => whnf
            refine Tr.cond ?_
            conv => whnf
            refine condS_bif h (fun hb25 h => ?_) (fun hb25 h => ?_)
            · refine Tr.skip ?_
              conv => whnf
              refine Tr.seq ?_
              refine Tr.block ?_
              refine Tr.seq ?_
              refine Tr.region layOK ?_
              conv => whnf
              refine Tr.cutQ (α := Unit) (fun s => ([(2, .pt 0 0), (3, .pt 1 0), (4, .d (.b false)), (5, .sl 2 1 0 (List.length l_9)), (7, .d (.i .i64 i_21))], [some (.var [.d (.ls (List.map eTSegment f_1.Clocks.Segments)), .d (.ls (List.map (eL eI) f_1.Clocks.Far)), .d (.ls (List.map eTPair f_1.Pairs)), .d (.ls (List.map eTRunner f_1.Runners))]), some (.var [.d (.i .i64 h_2.World), .d (.ls (List.map eI h_2.Offsets)), .d (.ls (List.map eTChoice h_2.Choices))]), some (.arr 1 (List.map .d (List.map eI l_9)))])) (fun s => m_stopwatchref25_Admissible_J4 i_21 (m_stopwatchref25_Admissible_L2 f_1 l_9 (m_stopwatchref25_Admissible_J7 f_1 h_2) n_22) s = some r_3) ?_ ?_
              · refine Tr.block ?_
                refine Tr.loopM (σ := Int) (fun n s => m_stopwatchref25_Admissible_L3 f_1 l_9 i_21 (m_stopwatchref25_Admissible_J4 i_21 (m_stopwatchref25_Admissible_L2 f_1 l_9 (m_stopwatchref25_Admissible_J7 f_1 h_2) n_22)) n s) r_3 (fun s => ([(2, .pt 0 0), (3, .pt 1 0), (4, .d (.b false)), (5, .sl 2 1 0 (List.length l_9)), (7, .d (.i .i64 i_21)), (8, .d (.i .i64 s))], [some (.var [.d (.ls (List.map eTSegment f_1.Clocks.Segments)), .d (.ls (List.map (eL eI) f_1.Clocks.Far)), .d (.ls (List.map eTPair f_1.Pairs)), .d (.ls (List.map eTRunner f_1.Runners))]), some (.var [.d (.i .i64 h_2.World), .d (.ls (List.map eI h_2.Offsets)), .d (.ls (List.map eTChoice h_2.Choices))]), some (.arr 1 (List.map .d (List.map eI l_9)))])) (((((l_9).length : Int)) - 0 : Int).toNat + 1) (0) h (fun s => rfl) (Wk.mk2 [0, 1, 2] 3 rfl rfl (by decide) rfl ⟨⟨rfl, rfl⟩, ⟨rfl, rfl⟩, daS_d rfl, trivial⟩ ⟨⟨rfl, rfl⟩, ⟨rfl, rfl⟩, ⟨rfl, rfl⟩, ⟨rfl, rfl⟩, ⟨rfl, rfl⟩, ⟨rfl, rfl⟩, trivial⟩) ?_
                clear h
                rintro n_28 k_27 h
                replace h : m_stopwatchref25_Admissible_L3 f_1 l_9 i_21 (m_stopwatchref25_Admissible_J4 i_21 (m_stopwatchref25_Admissible_L2 f_1 l_9 (m_stopwatchref25_Admissible_J7 f_1 h_2) n_22)) (n_28 + 1) k_27 = some r_3 := h
                rw [m_stopwatchref25_Admissible_L3] at h
                refine Tr.seq ?_
                refine Tr.seq ?_
                refine Tr.region layOK ?_
                conv => whnf
                refine lnS_mk rfl ?_
                conv => whnf
                refine Tr.cond ?_
                conv => whnf
                refine condS_bif h (fun hb31 h => ?_) (fun hb31 h => ?_)
                · refine Tr.skip ?_
                  conv => whnf
                  refine Tr.seq ?_
                  refine Tr.block ?_
                  refine Tr.seq ?_
                  refine Tr.draw (DrawP.seqQ layOK mixed [] [(0, 1), (1, 1), (2, 5), (3, 5), (4, 1), (5, 1), (6, 5), (7, 5), (8, 1), (9, 3), (10, 3), (11, 3), (12, 1), (13, 2), (14, 2), (15, 1), (16, 2), (17, 2), (18, 1)] (by kernel_rfl) ?_)
                  conv => whnf
                  refine ⟨_, (fun H => by (conv => whnf); (exact ⟨rfl, rfl⟩)), ?_⟩
                  conv => whnf
                  refine ⟨_, (fun H => by (conv => whnf); (exact ⟨rfl, rfl⟩)), ?_⟩
                  conv => whnf
                  obtain ⟨x_32, hx_32, h⟩ := bind_some h
                  refine ⟨_, ⟨rfl, rfl, (by (conv => whnf); (refine ixS_of hx_32 rfl ?_); (conv => whnf); (exact ⟨rfl, rfl⟩))⟩, ?_⟩
                  conv => whnf
                  refine ⟨_, ⟨rfl, rfl, (by (conv => whnf); (refine elP_of hx_32 ?_); (conv => whnf); (exact ⟨rfl, rfl⟩))⟩, ?_⟩
                  conv => whnf
                  refine ⟨_, (fun H => by (conv => whnf); (exact ⟨rfl, rfl⟩)), ?_⟩
                  conv => whnf
                  refine ⟨_, (fun H => by (conv => whnf); (exact ⟨rfl, rfl⟩)), ?_⟩
                  conv => whnf
                  obtain ⟨x_33, hx_33, h⟩ := bind_some h
                  refine ⟨_, ⟨rfl, rfl, (by (conv => whnf); (refine ixS_of hx_33 rfl ?_); (conv => whnf); (exact ⟨rfl, rfl⟩))⟩, ?_⟩
                  conv => whnf
                  refine ⟨_, ⟨rfl, rfl, (by (conv => whnf); (refine elP_of hx_33 ?_); (conv => whnf); (exact ⟨rfl, rfl⟩))⟩, ?_⟩
                  conv => whnf
                  refine ⟨_, (fun H => by (conv => whnf); (refine arS_raw ?_); (conv => whnf); (exact ⟨rfl, rfl⟩)), ?_⟩
                  conv => whnf
                  refine ⟨_, ⟨rfl, rfl, (by (conv => whnf); (exact ⟨rfl, rfl⟩))⟩, ?_⟩
                  conv => whnf
                  refine ⟨_, ⟨rfl, rfl, (by (conv => whnf); (exact ⟨rfl, rfl⟩))⟩, ?_⟩
                  conv => whnf
                  refine ⟨_, ⟨rfl, rfl, (by (conv => whnf); (exact ⟨rfl, rfl⟩))⟩, ?_⟩
                  conv => whnf
                  refine ⟨_, (fun H => by (conv => whnf); (exact ⟨rfl, rfl⟩)), ?_⟩
                  conv => whnf
                  obtain ⟨x_34, hx_34, h⟩ := bind_some h
                  refine ⟨_, ⟨rfl, rfl, (by (conv => whnf); (refine ixP_of hx_34 ?_); (conv => whnf); (exact ⟨rfl, rfl⟩))⟩, ?_⟩
                  conv => whnf
                  refine ⟨_, ⟨rfl, rfl, (by (conv => whnf); (exact ⟨rfl, rfl⟩))⟩, ?_⟩
                  conv => whnf
                  refine ⟨_, (fun H => by (conv => whnf); (exact ⟨rfl, rfl⟩)), ?_⟩
                  conv => whnf
                  obtain ⟨x_35, hx_35, h⟩ := bind_some h
                  refine ⟨_, ⟨rfl, rfl, (by (conv => whnf); (refine ixP_of hx_35 ?_); (conv => whnf); (exact ⟨rfl, rfl⟩))⟩, ?_⟩
                  conv => whnf
                  refine ⟨_, ⟨rfl, rfl, (by (conv => whnf); (exact ⟨rfl, rfl⟩))⟩, ?_⟩
                  conv => whnf
                  refine ⟨_, (fun H => by (conv => whnf); (exact ⟨rfl, rfl⟩)), ?_⟩
                  conv => whnf
                  refine Tr.cond ?_
                  conv => whnf
                  refine condS_bif h (fun hb36 h => ?_) (fun hb36 h => ?_)
                  · refine Tr.seq ?_
                    refine Tr.region layOK ?_
                    conv => whnf
                    refine Tr.ret ?_
                    conv => whnf
                    cases h
                    rfl
                  · refine Tr.skip ?_
                    conv => whnf
                    refine Tr.region layOK ?_
                    conv => whnf
                    refine arS_raw ?_
                    conv => whnf
                    refine ⟨((w64 (k_27 + 1))), h, ?_⟩
                    exact Wk.mk2 [0, 1, 2] 3 rfl rfl (by decide) rfl ⟨⟨rfl, rfl⟩, ⟨rfl, rfl⟩, daS_d rfl, trivial⟩ ⟨⟨rfl, rfl⟩, ⟨rfl, rfl⟩, ⟨rfl, rfl⟩, ⟨rfl, rfl⟩, ⟨rfl, rfl⟩, ⟨rfl, rfl⟩, trivial⟩
                · refine Tr.exit ?_
                  conv => whnf
                  refine ⟨(), h, ?_⟩
                  exact Wk.mk2 [0, 1, 2] 3 rfl rfl (by decide) rfl ⟨⟨rfl, rfl⟩, ⟨rfl, rfl⟩, daS_d rfl, trivial⟩ ⟨⟨rfl, rfl⟩, ⟨rfl, rfl⟩, ⟨rfl, rfl⟩, ⟨rfl, rfl⟩, ⟨rfl, rfl⟩, trivial⟩
              · clear h
                rintro _ h T1 H1 hw
                replace h : m_stopwatchref25_Admissible_J4 i_21 (m_stopwatchref25_Admissible_L2 f_1 l_9 (m_stopwatchref25_Admissible_J7 f_1 h_2) n_22) () = some r_3 := h
                conv => whnf
                refine Tr.weak hw ?_
                unfold m_stopwatchref25_Admissible_J4 at h
                refine Tr.region layOK ?_
                conv => whnf
                refine arS_raw ?_
                conv => whnf
                refine ⟨((w64 (i_21 + 1))), h, ?_⟩
                exact Wk.mk2 [0, 1, 2] 3 rfl rfl (by decide) rfl ⟨⟨rfl, rfl⟩, ⟨rfl, rfl⟩, daS_d rfl, trivial⟩ ⟨⟨rfl, rfl⟩, ⟨rfl, rfl⟩, ⟨rfl, rfl⟩, ⟨rfl, rfl⟩, ⟨rfl, rfl⟩, trivial⟩
            · refine Tr.exit ?_
              conv => whnf
              refine ⟨(), h, ?_⟩
              exact Wk.mk2 [0, 1] 3 rfl rfl (by decide) rfl ⟨⟨rfl, rfl⟩, ⟨rfl, rfl⟩, trivial⟩ ⟨⟨rfl, rfl⟩, ⟨rfl, rfl⟩, ⟨rfl, rfl⟩, trivial⟩
          · clear h
            rintro _ h T1 H1 hw
            replace h : m_stopwatchref25_Admissible_J7 f_1 h_2 () = some r_3 := h
            conv => whnf
            refine Tr.weak hw ?_
            unfold m_stopwatchref25_Admissible_J7 at h
            refine Tr.seq ?_
            refine Tr.seq ?_
            refine Tr.region layOK ?_
            conv => whnf
            refine Tr.cutQ (α := Unit) (fun s => ([(4, .d (.b false))], [])) (fun s => m_stopwatchref25_Admissible_J6 s = some r_3) ?_ ?_
            · refine Tr.block ?_
              refine Tr.loopM (σ := Int) (fun n s => m_stopwatchref25_Admissible_L5 f_1 h_2 m_stopwatchref25_Admissible_J6 n s) r_3 (fun s => ([(2, .pt 0 0), (3, .pt 1 0), (4, .d (.b false)), (9, .d (.i .i64 s))], [some (.var [.d (.ls (List.map eTSegment f_1.Clocks.Segments)), .d (.ls (List.map (eL eI) f_1.Clocks.Far)), .d (.ls (List.map eTPair f_1.Pairs)), .d (.ls (List.map eTRunner f_1.Runners))]), some (.var [.d (.i .i64 h_2.World), .d (.ls (List.map eI h_2.Offsets)), .d (.ls (List.map eTChoice h_2.Choices))])])) (((((h_2.Choices).length : Int)) - 0 : Int).toNat + 1) (0) h (fun s => rfl) (Wk.mk2 [0, 1] 2 rfl rfl (by decide) rfl ⟨⟨rfl, rfl⟩, ⟨rfl, rfl⟩, trivial⟩ ⟨⟨rfl, rfl⟩, ⟨rfl, rfl⟩, ⟨rfl, rfl⟩, ⟨rfl, rfl⟩, trivial⟩) ?_
              clear h
              rintro n_39 i_38 h
              replace h : m_stopwatchref25_Admissible_L5 f_1 h_2 m_stopwatchref25_Admissible_J6 (n_39 + 1) i_38 = some r_3 := h
              rw [m_stopwatchref25_Admissible_L5] at h
              refine Tr.seq ?_
              refine Tr.seq ?_
              refine Tr.region layOK ?_
              conv => whnf
              refine lnS_map ?_
              conv => whnf
              refine Tr.cond ?_
              conv => whnf
              refine condS_bif h (fun hb42 h => ?_) (fun hb42 h => ?_)
              · refine Tr.skip ?_
                conv => whnf
                refine Tr.seq ?_
                refine Tr.block ?_
                refine Tr.seq ?_
                refine Tr.draw (DrawP.seqQ layOK mixed [] [(0, 3), (1, 3), (2, 1), (3, 2), (4, 2), (5, 2), (6, 4), (7, 4), (8, 2), (9, 2), (10, 1)] (by kernel_rfl) ?_)
                conv => whnf
                refine ⟨_, ⟨rfl, rfl, (by (conv => whnf); (exact ⟨rfl, rfl⟩))⟩, ?_⟩
                conv => whnf
                refine ⟨_, ⟨rfl, rfl, (by (conv => whnf); (exact ⟨rfl, rfl⟩))⟩, ?_⟩
                conv => whnf
                refine ⟨_, (fun H => by (conv => whnf); (exact ⟨rfl, rfl⟩)), ?_⟩
                conv => whnf
                obtain ⟨x_43, hx_43, h⟩ := bind_some h
                refine ⟨_, ⟨rfl, rfl, (by (conv => whnf); (refine ixP_of hx_43 ?_); (conv => whnf); (exact ⟨rfl, rfl⟩))⟩, ?_⟩
                conv => whnf
                refine ⟨_, ⟨rfl, rfl, (by (conv => whnf); (exact ⟨rfl, rfl⟩))⟩, ?_⟩
                conv => whnf
                refine ⟨_, ⟨rfl, rfl, (by (conv => whnf); (exact ⟨rfl, rfl⟩))⟩, ?_⟩
                conv => whnf
                refine ⟨_, ⟨rfl, rfl, (by (conv => whnf); (exact ⟨rfl, rfl⟩))⟩, ?_⟩
                conv => whnf
                refine ⟨_, ⟨rfl, rfl, (by (conv => whnf); (exact ⟨rfl, rfl⟩))⟩, ?_⟩
                conv => whnf
                obtain ⟨x_44, hx_44, h⟩ := bind_some h
                refine ⟨_, ⟨rfl, rfl, (by (conv => whnf); (refine ixP_of hx_44 ?_); (conv => whnf); (exact ⟨rfl, rfl⟩))⟩, ?_⟩
                conv => whnf
                refine ⟨_, ⟨rfl, rfl, (by (conv => whnf); (exact ⟨rfl, rfl⟩))⟩, ?_⟩
                conv => whnf
                refine ⟨_, (fun H => by (conv => whnf); (exact ⟨rfl, rfl⟩)), ?_⟩
                conv => whnf
                refine Tr.seq ?_
                refine Tr.region layOK ?_
                conv => whnf
                obtain ⟨x_45, hx_45, h⟩ := bind_some h
                refine ixP_of hx_45 ?_
                conv => whnf
                refine Tr.seq ?_
                refine Tr.seq ?_
                refine Tr.region layOK ?_
                conv => whnf
                refine condS_bif h (fun hb46 h => ?_) (fun hb46 h => ?_)
                · conv => whnf
                  refine Tr.cond ?_
                  conv => whnf
                  refine Tr.seq ?_
                  refine Tr.region layOK ?_
                  conv => whnf
                  refine Tr.ret ?_
                  conv => whnf
                  cases h
                  rfl
                · conv => whnf
                  refine lnS_map ?_
                  conv => whnf
                  refine Tr.cond ?_
                  conv => whnf
                  refine condS_bif h (fun hb47 h => ?_) (fun hb47 h => ?_)
                  · refine Tr.seq ?_
                    refine Tr.region layOK ?_
                    conv => whnf
                    refine Tr.ret ?_
                    conv => whnf
                    cases h
                    rfl
                  · refine Tr.skip ?_
                    conv => whnf
                    refine Tr.seq ?_
                    refine Tr.region layOK ?_
                    conv => whnf
                    obtain ⟨x_48, hx_48, h⟩ := bind_some h
                    refine ixP_of hx_48 ?_
                    conv => whnf
                    refine Tr.seq ?_
                    refine Tr.cutQ1 ([(2, .pt 0 0), (3, .pt 1 0), (4, .d (.b false)), (9, .d (.i .i64 i_38)), (152, .d (.b (bif x_48.Out then (x_45.X != 0) else ((decide (x_45.X < x_48.Lo)) || (decide (x_45.X > x_48.Hi))))))]) ([some (.var [.d (.ls (List.map eTSegment f_1.Clocks.Segments)), .d (.ls (List.map (eL eI) f_1.Clocks.Far)), .d (.ls (List.map eTPair f_1.Pairs)), .d (.ls (List.map eTRunner f_1.Runners))]), some (.var [.d (.i .i64 h_2.World), .d (.ls (List.map eI h_2.Offsets)), .d (.ls (List.map eTChoice h_2.Choices))])]) ?_ (fun T1 H1 hw => ?_)
                    · refine Tr.region layOK ?_
                      conv => whnf
                      refine condS_mk (fun hb50 => ?_) (fun hb50 => ?_)
                      · conv => whnf
                        refine condS_mk (fun hb51 => ?_) (fun hb51 => ?_)
                        · conv => whnf
                          exact Wk.mk2 [0, 1] 4 rfl rfl (by decide) rfl ⟨⟨rfl, rfl⟩, ⟨rfl, rfl⟩, trivial⟩ ⟨⟨rfl, rfl⟩, ⟨rfl, rfl⟩, ⟨rfl, rfl⟩, ⟨rfl, rfl⟩, ⟨rfl, (by first | rfl | (simp only [↓hb6, ↓hb7, ↓hb8, ↓hb42, ↓hb46, ↓hb47, ↓hb50, ↓hb51, cond_true, cond_false, Bool.true_or, Bool.or_true, Bool.false_or, Bool.or_false, Bool.true_and, Bool.and_true, Bool.false_and, Bool.and_false, Bool.not_true, Bool.not_false]; done) | (simp only [↓hb6, ↓hb7, ↓hb8, ↓hb42, ↓hb46, ↓hb47, ↓hb50, ↓hb51, cond_true, cond_false, Bool.true_or, Bool.or_true, Bool.false_or, Bool.or_false, Bool.true_and, Bool.and_true, Bool.false_and, Bool.and_false, Bool.not_true, Bool.not_false]; rfl))⟩, trivial⟩
                        · conv => whnf
                          refine condS_kf (by rw [hb50]; rfl) ?_
                          conv => whnf
                          exact Wk.mk2 [0, 1] 4 rfl rfl (by decide) rfl ⟨⟨rfl, rfl⟩, ⟨rfl, rfl⟩, trivial⟩ ⟨⟨rfl, rfl⟩, ⟨rfl, rfl⟩, ⟨rfl, rfl⟩, ⟨rfl, rfl⟩, ⟨rfl, (by first | rfl | (simp only [↓hb6, ↓hb7, ↓hb8, ↓hb42, ↓hb46, ↓hb47, ↓hb50, ↓hb51, cond_true, cond_false, Bool.true_or, Bool.or_true, Bool.false_or, Bool.or_false, Bool.true_and, Bool.and_true, Bool.false_and, Bool.and_false, Bool.not_true, Bool.not_false]; done) | (simp only [↓hb6, ↓hb7, ↓hb8, ↓hb42, ↓hb46, ↓hb47, ↓hb50, ↓hb51, cond_true, cond_false, Bool.true_or, Bool.or_true, Bool.false_or, Bool.or_false, Bool.true_and, Bool.and_true, Bool.false_and, Bool.and_false, Bool.not_true, Bool.not_false]; rfl))⟩, trivial⟩
                      · conv => whnf
                        refine condS_kt (by rw [hb50]; rfl) ?_
                        conv => whnf
                        refine condS_mk (fun hb52 => ?_) (fun hb52 => ?_)
                        · conv => whnf
                          exact Wk.mk2 [0, 1] 4 rfl rfl (by decide) rfl ⟨⟨rfl, rfl⟩, ⟨rfl, rfl⟩, trivial⟩ ⟨⟨rfl, rfl⟩, ⟨rfl, rfl⟩, ⟨rfl, rfl⟩, ⟨rfl, rfl⟩, ⟨rfl, (by first | rfl | (simp only [↓hb6, ↓hb7, ↓hb8, ↓hb42, ↓hb46, ↓hb47, ↓hb50, ↓hb52, cond_true, cond_false, Bool.true_or, Bool.or_true, Bool.false_or, Bool.or_false, Bool.true_and, Bool.and_true, Bool.false_and, Bool.and_false, Bool.not_true, Bool.not_false]; done) | (simp only [↓hb6, ↓hb7, ↓hb8, ↓hb42, ↓hb46, ↓hb47, ↓hb50, ↓hb52, cond_true, cond_false, Bool.true_or, Bool.or_true, Bool.false_or, Bool.or_false, Bool.true_and, Bool.and_true, Bool.false_and, Bool.and_false, Bool.not_true, Bool.not_false]; rfl))⟩, trivial⟩
                        · conv => whnf
                          exact Wk.mk2 [0, 1] 4 rfl rfl (by decide) rfl ⟨⟨rfl, rfl⟩, ⟨rfl, rfl⟩, trivial⟩ ⟨⟨rfl, rfl⟩, ⟨rfl, rfl⟩, ⟨rfl, rfl⟩, ⟨rfl, rfl⟩, ⟨rfl, (by first | rfl | (simp only [↓hb6, ↓hb7, ↓hb8, ↓hb42, ↓hb46, ↓hb47, ↓hb50, ↓hb52, cond_true, cond_false, Bool.true_or, Bool.or_true, Bool.false_or, Bool.or_false, Bool.true_and, Bool.and_true, Bool.false_and, Bool.and_false, Bool.not_true, Bool.not_false]; done) | (simp only [↓hb6, ↓hb7, ↓hb8, ↓hb42, ↓hb46, ↓hb47, ↓hb50, ↓hb52, cond_true, cond_false, Bool.true_or, Bool.or_true, Bool.false_or, Bool.or_false, Bool.true_and, Bool.and_true, Bool.false_and, Bool.and_false, Bool.not_true, Bool.not_false]; rfl))⟩, trivial⟩
                    · conv => whnf
                      refine Tr.weak hw ?_
                      refine Tr.cond ?_
                      conv => whnf
                      refine condS_bif h (fun hb53 h => ?_) (fun hb53 h => ?_)
                      · refine Tr.seq ?_
                        refine Tr.region layOK ?_
                        conv => whnf
                        refine Tr.ret ?_
                        conv => whnf
                        cases h
                        rfl
                      · refine Tr.skip ?_
                        conv => whnf
                        refine Tr.region layOK ?_
                        conv => whnf
                        refine arS_raw ?_
                        conv => whnf
                        refine ⟨((w64 (i_38 + 1))), h, ?_⟩
                        exact Wk.mk2 [0, 1] 2 rfl rfl (by decide) rfl ⟨⟨rfl, rfl⟩, ⟨rfl, rfl⟩, trivial⟩ ⟨⟨rfl, rfl⟩, ⟨rfl, rfl⟩, ⟨rfl, rfl⟩, ⟨rfl, rfl⟩, trivial⟩
              · refine Tr.exit ?_
                conv => whnf
                refine ⟨(), h, ?_⟩
                exact Wk.mk2 [] 2 rfl rfl (by decide) rfl trivial ⟨⟨rfl, rfl⟩, trivial⟩
            · clear h
              rintro _ h T1 H1 hw
              replace h : m_stopwatchref25_Admissible_J6 () = some r_3 := h
              conv => whnf
              refine Tr.weak hw ?_
              unfold m_stopwatchref25_Admissible_J6 at h
              refine Tr.seq ?_
              refine Tr.region layOK ?_
              conv => whnf
              refine Tr.ret ?_
              conv => whnf
              cases h
              rfl

theorem s_stopwatchref25_Outcome (f_1 : TField) (h_2 : THistory) (runner_3 : Int) (r_4 : TOutcome) (h : m_stopwatchref25_Outcome f_1 h_2 runner_3 = some r_4) :
    PC prog 69 [(eTField f_1), (eTHistory h_2), (.i .i64 runner_3)] (fun rs => rs = [(eTOutcome r_4)]) := by
  refine PC.of_tr (cx := ⟨25, none, lay, 0⟩) layOK func69 rfl rfl rfl rfl rfl (by simp [f69]) ?_
  unfold m_stopwatchref25_Outcome at h
  refine Tr.seq ?_
  refine Tr.region layOK ?_
  conv => whnf
  refine Tr.seq ?_
  refine Tr.draw (DrawP.seqQ layOK mixed [(18, 2)] [(0, 3), (1, 3), (2, 1), (3, 2), (4, 2), (5, 2), (6, 4), (7, 4), (8, 2), (9, 2), (10, 4), (11, 4), (12, 1), (13, 2), (14, 2), (15, 2), (16, 2), (17, 2), (18, 0)] (by kernel_rfl) ?_)
  conv => whnf
  refine ⟨_, ⟨rfl, rfl, (by (conv => whnf); (exact ⟨rfl, rfl⟩))⟩, ?_⟩
  conv => whnf
  refine ⟨_, ⟨rfl, rfl, (by (conv => whnf); (exact ⟨rfl, rfl⟩))⟩, ?_⟩
  conv => whnf
  refine ⟨_, (fun H => by (conv => whnf); (exact ⟨rfl, rfl⟩)), ?_⟩
  conv => whnf
  obtain ⟨x_5, hx_5, h⟩ := bind_some h
  refine ⟨_, ⟨rfl, rfl, (by (conv => whnf); (refine ixP_of hx_5 ?_); (conv => whnf); (exact ⟨rfl, rfl⟩))⟩, ?_⟩
  conv => whnf
  refine ⟨_, ⟨rfl, rfl, (by (conv => whnf); (exact ⟨rfl, rfl⟩))⟩, ?_⟩
  conv => whnf
  refine ⟨_, ⟨rfl, rfl, (by (conv => whnf); (exact ⟨rfl, rfl⟩))⟩, ?_⟩
  conv => whnf
  refine ⟨_, ⟨rfl, rfl, (by (conv => whnf); (exact ⟨rfl, rfl⟩))⟩, ?_⟩
  conv => whnf
  refine ⟨_, ⟨rfl, rfl, (by (conv => whnf); (exact ⟨rfl, rfl⟩))⟩, ?_⟩
  conv => whnf
  obtain ⟨x_6, hx_6, h⟩ := bind_some h
  refine ⟨_, ⟨rfl, rfl, (by (conv => whnf); (refine ixP_of hx_6 ?_); (conv => whnf); (exact ⟨rfl, rfl⟩))⟩, ?_⟩
  conv => whnf
  refine ⟨_, ⟨rfl, rfl, (by (conv => whnf); (exact ⟨rfl, rfl⟩))⟩, ?_⟩
  conv => whnf
  refine ⟨_, ⟨rfl, rfl, (by (conv => whnf); (exact ⟨rfl, rfl⟩))⟩, ?_⟩
  conv => whnf
  refine ⟨_, ⟨rfl, rfl, (by (conv => whnf); (exact ⟨rfl, rfl⟩))⟩, ?_⟩
  conv => whnf
  refine ⟨_, (fun H => by (conv => whnf); (exact ⟨rfl, rfl⟩)), ?_⟩
  conv => whnf
  obtain ⟨x_7, hx_7, h⟩ := bind_some h
  refine ⟨_, ⟨rfl, rfl, (by (conv => whnf); (refine ixP_of hx_7 ?_); (conv => whnf); (exact ⟨rfl, rfl⟩))⟩, ?_⟩
  conv => whnf
  refine ⟨_, ⟨rfl, rfl, (by (conv => whnf); (exact ⟨rfl, rfl⟩))⟩, ?_⟩
  conv => whnf
  refine ⟨_, ⟨rfl, rfl, (by (conv => whnf); (exact ⟨rfl, rfl⟩))⟩, ?_⟩
  conv => whnf
  obtain ⟨x_8, hx_8, h⟩ := bind_some h
  refine ⟨_, ⟨rfl, rfl, (by (conv => whnf); (refine ixP_of hx_8 ?_); (conv => whnf); (exact ⟨rfl, rfl⟩))⟩, ?_⟩
  conv => whnf
  refine ⟨_, ⟨rfl, rfl, (by (conv => whnf); (exact ⟨rfl, rfl⟩))⟩, ?_⟩
  conv => whnf
  refine ⟨_, _, (by (conv => whnf); (exact ⟨rfl, rfl⟩)), kp_ok (by repeat (first | exact trivial | refine ⟨trivial, ?_⟩ | refine ⟨rfl, ?_⟩)), ?_⟩
  conv => whnf
  refine Tr.ret ?_
  conv => whnf
  cases h
  rfl

theorem s_stopwatchref25_offset (h_1 : THistory) (x_2 : TOutcome) (r_3 : Int) (h : m_stopwatchref25_offset h_1 x_2 = some r_3) :
    PC prog 70 [(eTHistory h_1), (eTOutcome x_2)] (fun rs => rs = [(.i .i64 r_3)]) := by
  refine PC.of_tr (cx := ⟨14, none, lay, 0⟩) layOK func70 rfl rfl rfl rfl rfl (by simp [f70]) ?_
  unfold m_stopwatchref25_offset at h
  refine Tr.seq ?_
  refine Tr.region layOK ?_
  conv => whnf
  refine Tr.seq ?_
  refine Tr.seq ?_
  refine Tr.region layOK ?_
  conv => whnf
  refine Tr.cond ?_
  conv => whnf
  refine condS_bif h (fun hb4 h => ?_) (fun hb4 h => ?_)
  · refine Tr.seq ?_
    refine Tr.region layOK ?_
    conv => whnf
    refine Tr.ret ?_
    conv => whnf
    cases h
    rfl
  · refine Tr.skip ?_
    conv => whnf
    refine Tr.seq ?_
    refine Tr.region layOK ?_
    conv => whnf
    obtain ⟨x_5, hx_5, h⟩ := bind_some h
    refine ixP_of hx_5 ?_
    conv => whnf
    refine Tr.ret ?_
    conv => whnf
    cases h
    rfl

theorem s_stopwatchref25_Net (f_1 : TField) (h_2 : THistory) (runner_3 : Int) (r_4 : Int) (r_5 : Bool) (h : m_stopwatchref25_Net f_1 h_2 runner_3 = some (r_4, r_5)) :
    PC prog 47 [(eTField f_1), (eTHistory h_2), (.i .i64 runner_3)] (fun rs => rs = [(.i .i64 r_4), (.b r_5)]) := by
  refine PC.of_tr (cx := ⟨25, none, lay, 0⟩) layOK func47 rfl rfl rfl rfl rfl (by simp [f47]) ?_
  unfold m_stopwatchref25_Net at h
  refine Tr.seq ?_
  refine Tr.region layOK ?_
  conv => whnf
  refine Tr.seq ?_
  refine Tr.region layOK ?_
  conv => whnf
  obtain ⟨r_6, hc7, h⟩ := bind_some h
  refine PC.ecall (s_stopwatchref25_Outcome f_1 h_2 runner_3 r_6 hc7) (fun rs hrs => ?_)
  subst hrs
  conv => whnf
  refine Tr.seq ?_
  refine Tr.seq ?_
  refine Tr.region layOK ?_
  conv => whnf
  refine Tr.cond ?_
  conv => whnf
  refine condS_bif h (fun hb8 h => ?_) (fun hb8 h => ?_)
  · refine Tr.seq ?_
    refine Tr.region layOK ?_
    conv => whnf
    refine Tr.ret ?_
    conv => whnf
    cases h
    rfl
  · refine Tr.skip ?_
    conv => whnf
    refine Tr.seq ?_
    refine Tr.draw (DrawP.seqQ layOK mixed [] [(0, 4), (1, 4), (2, 1), (3, 2), (4, 2), (5, 2), (6, 4), (7, 5), (8, 1), (9, 1), (10, 1), (11, 1)] (by kernel_rfl) ?_)
    conv => whnf
    refine ⟨_, ⟨rfl, rfl, (by (conv => whnf); (exact ⟨rfl, rfl⟩))⟩, ?_⟩
    conv => whnf
    refine ⟨_, ⟨rfl, rfl, (by (conv => whnf); (exact ⟨rfl, rfl⟩))⟩, ?_⟩
    conv => whnf
    refine ⟨_, (fun H => by (conv => whnf); (exact ⟨rfl, rfl⟩)), ?_⟩
    conv => whnf
    obtain ⟨x_9, hx_9, h⟩ := bind_some h
    refine ⟨_, ⟨rfl, rfl, (by (conv => whnf); (refine ixP_of hx_9 ?_); (conv => whnf); (exact ⟨rfl, rfl⟩))⟩, ?_⟩
    conv => whnf
    refine ⟨_, ⟨rfl, rfl, (by (conv => whnf); (exact ⟨rfl, rfl⟩))⟩, ?_⟩
    conv => whnf
    refine ⟨_, ⟨rfl, rfl, (by (conv => whnf); (exact ⟨rfl, rfl⟩))⟩, ?_⟩
    conv => whnf
    refine ⟨_, ⟨rfl, rfl, (by (conv => whnf); (exact ⟨rfl, rfl⟩))⟩, ?_⟩
    conv => whnf
    refine ⟨_, ⟨rfl, rfl, (by (conv => whnf); (exact ⟨rfl, rfl⟩))⟩, ?_⟩
    conv => whnf
    obtain ⟨r_10, hc11, h⟩ := bind_some h
    refine ⟨_, (fun H => by (conv => whnf); (refine PC.ecall (s_stopwatchref25_offset h_2 r_6 r_10 hc11) (fun rs hrs => ?_)); (subst hrs); (conv => whnf); (exact ⟨rfl, rfl⟩)), ?_⟩
    conv => whnf
    refine ⟨_, (fun H => by (conv => whnf); (refine arS_raw ?_); (conv => whnf); (exact ⟨rfl, rfl⟩)), ?_⟩
    conv => whnf
    refine ⟨_, (fun H => by (conv => whnf); (exact ⟨rfl, rfl⟩)), ?_⟩
    conv => whnf
    refine ⟨_, (fun H => by (conv => whnf); (exact ⟨rfl, rfl⟩)), ?_⟩
    conv => whnf
    refine Tr.ret ?_
    conv => whnf
    cases h
    rfl

theorem s_stopwatchref25_InFront (f_1 : TField) (h_2 : THistory) (a_3 : Int) (b_4 : Int) (r_5 : Bool) (h : m_stopwatchref25_InFront f_1 h_2 a_3 b_4 = some r_5) :
    PC prog 20 [(eTField f_1), (eTHistory h_2), (.i .i64 a_3), (.i .i64 b_4)] (fun rs => rs = [(.b r_5)]) := by
  refine PC.of_tr (cx := ⟨57, none, lay, 0⟩) layOK func20 rfl rfl rfl rfl rfl (by simp [f20]) ?_
  unfold m_stopwatchref25_InFront at h
  refine Tr.seq ?_
  refine Tr.region layOK ?_
  conv => whnf
  refine Tr.seq ?_
  refine Tr.region layOK ?_
  conv => whnf
  obtain ⟨⟨r_6, r_7⟩, hc8, h⟩ := bind_some h
  refine PC.ecall (s_stopwatchref25_Net f_1 h_2 a_3 r_6 r_7 hc8) (fun rs hrs => ?_)
  subst hrs
  conv => whnf
  refine Tr.seq ?_
  refine Tr.region layOK ?_
  conv => whnf
  obtain ⟨⟨r_9, r_10⟩, hc11, h⟩ := bind_some h
  refine PC.ecall (s_stopwatchref25_Net f_1 h_2 b_4 r_9 r_10 hc11) (fun rs hrs => ?_)
  subst hrs
  conv => whnf
  refine Tr.seq ?_
  refine Tr.seq ?_
  refine Tr.region layOK ?_
  conv => whnf
  refine condS_bif h (fun hb12 h => ?_) (fun hb12 h => ?_)
  · conv => whnf
    refine Tr.cond ?_
    conv => whnf
    refine Tr.seq ?_
    refine Tr.region layOK ?_
    conv => whnf
    refine Tr.ret ?_
    conv => whnf
    cases h
    rfl
  · conv => whnf
    refine Tr.cond ?_
    conv => whnf
    refine condS_bif h (fun hb13 h => ?_) (fun hb13 h => ?_)
    · refine Tr.seq ?_
      refine Tr.region layOK ?_
      conv => whnf
      refine Tr.ret ?_
      conv => whnf
      cases h
      rfl
    · refine Tr.skip ?_
      conv => whnf
      refine Tr.seq ?_
      refine Tr.draw (DrawP.seqQ layOK mixed [] [(0, 1), (1, 1), (2, 1), (3, 1), (4, 1), (5, 1), (6, 1), (7, 1), (8, 3), (9, 3), (10, 1), (11, 2), (12, 2), (13, 2), (14, 3), (15, 3), (16, 1), (17, 2), (18, 2), (19, 2), (20, 1), (21, 1), (22, 1), (23, 1)] (by kernel_rfl) ?_)
      conv => whnf
      refine ⟨_, (fun H => by (conv => whnf); (exact ⟨rfl, rfl⟩)), ?_⟩
      conv => whnf
      refine ⟨_, (fun H => by (conv => whnf); (exact ⟨rfl, rfl⟩)), ?_⟩
      conv => whnf
      refine ⟨_, (fun H => by (conv => whnf); (exact ⟨rfl, rfl⟩)), ?_⟩
      conv => whnf
      refine ⟨_, (fun H => by (conv => whnf); (exact ⟨rfl, rfl⟩)), ?_⟩
      conv => whnf
      refine condS_bif h (fun hb14 h => ?_) (fun hb14 h => ?_)
      · conv => whnf
        refine ⟨_, (fun H => by (conv => whnf); (exact ⟨rfl, rfl⟩)), ?_⟩
        conv => whnf
        refine ⟨_, (fun H => by (conv => whnf); (exact ⟨rfl, rfl⟩)), ?_⟩
        conv => whnf
        refine Tr.ret ?_
        conv => whnf
        cases h
        rfl
      · conv => whnf
        refine ⟨_, (fun H => by (conv => whnf); (exact ⟨rfl, rfl⟩)), ?_⟩
        conv => whnf
        refine ⟨_, (fun H => by (conv => whnf); (exact ⟨rfl, rfl⟩)), ?_⟩
        conv => whnf
        refine ⟨_, (fun H => by (conv => whnf); (exact ⟨rfl, rfl⟩)), ?_⟩
        conv => whnf
        refine ⟨_, (fun H => by (conv => whnf); (exact ⟨rfl, rfl⟩)), ?_⟩
        conv => whnf
        refine condS_bif h (fun hb15 h => ?_) (fun hb15 h => ?_)
        · conv => whnf
          refine ⟨_, ⟨rfl, rfl, (by (conv => whnf); (exact ⟨rfl, rfl⟩))⟩, ?_⟩
          conv => whnf
          refine ⟨_, ⟨rfl, rfl, (by (conv => whnf); (exact ⟨rfl, rfl⟩))⟩, ?_⟩
          conv => whnf
          refine ⟨_, (fun H => by (conv => whnf); (exact ⟨rfl, rfl⟩)), ?_⟩
          conv => whnf
          obtain ⟨x_16, hx_16, h⟩ := bind_some h
          refine ⟨_, ⟨rfl, rfl, (by (conv => whnf); (refine ixP_of hx_16 ?_); (conv => whnf); (exact ⟨rfl, rfl⟩))⟩, ?_⟩
          conv => whnf
          refine ⟨_, ⟨rfl, rfl, (by (conv => whnf); (exact ⟨rfl, rfl⟩))⟩, ?_⟩
          conv => whnf
          refine ⟨_, ⟨rfl, rfl, (by (conv => whnf); (exact ⟨rfl, rfl⟩))⟩, ?_⟩
          conv => whnf
          refine ⟨_, ⟨rfl, rfl, (by (conv => whnf); (exact ⟨rfl, rfl⟩))⟩, ?_⟩
          conv => whnf
          refine ⟨_, ⟨rfl, rfl, (by (conv => whnf); (exact ⟨rfl, rfl⟩))⟩, ?_⟩
          conv => whnf
          refine ⟨_, (fun H => by (conv => whnf); (exact ⟨rfl, rfl⟩)), ?_⟩
          conv => whnf
          obtain ⟨x_17, hx_17, h⟩ := bind_some h
          refine ⟨_, ⟨rfl, rfl, (by (conv => whnf); (refine ixP_of hx_17 ?_); (conv => whnf); (exact ⟨rfl, rfl⟩))⟩, ?_⟩
          conv => whnf
          refine ⟨_, ⟨rfl, rfl, (by (conv => whnf); (exact ⟨rfl, rfl⟩))⟩, ?_⟩
          conv => whnf
          refine ⟨_, ⟨rfl, rfl, (by (conv => whnf); (exact ⟨rfl, rfl⟩))⟩, ?_⟩
          conv => whnf
          obtain ⟨r_18, hc19, h⟩ := bind_some h
          refine ⟨_, (fun H => by (conv => whnf); (refine PC.ecall (s_stopwatchref25_Less x_16.Keys x_17.Keys r_18 hc19) (fun rs hrs => ?_)); (subst hrs); (conv => whnf); (exact ⟨rfl, rfl⟩)), ?_⟩
          conv => whnf
          refine ⟨_, (fun H => by (conv => whnf); (exact ⟨rfl, rfl⟩)), ?_⟩
          conv => whnf
          refine ⟨_, (fun H => by (conv => whnf); (exact ⟨rfl, rfl⟩)), ?_⟩
          conv => whnf
          refine ⟨_, (fun H => by (conv => whnf); (exact ⟨rfl, rfl⟩)), ?_⟩
          conv => whnf
          refine Tr.ret ?_
          conv => whnf
          cases h
          rfl
        · conv => whnf
          refine ⟨_, (fun H => by (conv => whnf); (exact ⟨rfl, rfl⟩)), ?_⟩
          conv => whnf
          refine ⟨_, (fun H => by (conv => whnf); (exact ⟨rfl, rfl⟩)), ?_⟩
          conv => whnf
          refine ⟨_, (fun H => by (conv => whnf); (exact ⟨rfl, rfl⟩)), ?_⟩
          conv => whnf
          refine Tr.ret ?_
          conv => whnf
          cases h
          rfl
end Go.Proofs.Try
