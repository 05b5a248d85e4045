/- Contracts of functions, by program (gen.py). No condition. -/
import Derived.Test.YthandbiapckgkaaL
import Derived.Test.YthandbiapckgkaaM
import Derived.Test.YthandbiapckgkaaS5
namespace Go.Proofs.Try
open Go Go.Abs Go.Stop
set_option maxRecDepth 8000
set_option linter.unusedVariables false
set_option linter.unusedSimpArgs false

theorem s_stopwatchref25_Outcome (f_1 : TField) (h_2 : THistory) (runner_3 : Int) (r_4 : TOutcome) (h : m_stopwatchref25_Outcome f_1 h_2 runner_3 = some r_4) :
    PC prog 69 [(eTField f_1), (eTHistory h_2), (.i .i64 runner_3)] (fun rs => rs = [(eTOutcome r_4)]) := by
  refine PC.of_tr (cx := ⟨25, none, lay, 0⟩) layOK func69 rfl rfl rfl rfl rfl (by simp [f69]) ?_
  unfold m_stopwatchref25_Outcome at h
  refine Tr.seq ?_
  refine Tr.region layOK ?_
  conv => whnf
  refine Tr.seq ?_
  refine Tr.draw (DrawP.seqQ layOK mixed [(18, 2)] [(0, 3), (1, 3), (2, 1), (3, 2), (4, 2), (5, 2), (6, 4), (7, 4), (8, 2), (9, 2), (10, 4), (11, 4), (12, 1), (13, 2), (14, 2), (15, 2), (16, 2), (17, 2), (18, 0)] (by kernel_rfl) ?_)
  conv => whnf
  refine ⟨_, ⟨rfl, rfl, (by (conv => whnf); (exact ⟨rfl, rfl⟩))⟩, ?_⟩
  conv => whnf
  refine ⟨_, ⟨rfl, rfl, (by (conv => whnf); (exact ⟨rfl, rfl⟩))⟩, ?_⟩
  conv => whnf
  refine ⟨_, (fun H => by (conv => whnf); (exact ⟨rfl, rfl⟩)), ?_⟩
  conv => whnf
  obtain ⟨x_5, hx_5, h⟩ := bind_some h
  refine ⟨_, ⟨rfl, rfl, (by (conv => whnf); (refine ixP_of hx_5 ?_); (conv => whnf); (exact ⟨rfl, rfl⟩))⟩, ?_⟩
  conv => whnf
  refine ⟨_, ⟨rfl, rfl, (by (conv => whnf); (exact ⟨rfl, rfl⟩))⟩, ?_⟩
  conv => whnf
  refine ⟨_, ⟨rfl, rfl, (by (conv => whnf); (exact ⟨rfl, rfl⟩))⟩, ?_⟩
  conv => whnf
  refine ⟨_, ⟨rfl, rfl, (by (conv => whnf); (exact ⟨rfl, rfl⟩))⟩, ?_⟩
  conv => whnf
  refine ⟨_, ⟨rfl, rfl, (by (conv => whnf); (exact ⟨rfl, rfl⟩))⟩, ?_⟩
  conv => whnf
  obtain ⟨x_6, hx_6, h⟩ := bind_some h
  refine ⟨_, ⟨rfl, rfl, (by (conv => whnf); (refine ixP_of hx_6 ?_); (conv => whnf); (exact ⟨rfl, rfl⟩))⟩, ?_⟩
  conv => whnf
  refine ⟨_, ⟨rfl, rfl, (by (conv => whnf); (exact ⟨rfl, rfl⟩))⟩, ?_⟩
  conv => whnf
  refine ⟨_, ⟨rfl, rfl, (by (conv => whnf); (exact ⟨rfl, rfl⟩))⟩, ?_⟩
  conv => whnf
  refine ⟨_, ⟨rfl, rfl, (by (conv => whnf); (exact ⟨rfl, rfl⟩))⟩, ?_⟩
  conv => whnf
  refine ⟨_, (fun H => by (conv => whnf); (exact ⟨rfl, rfl⟩)), ?_⟩
  conv => whnf
  obtain ⟨x_7, hx_7, h⟩ := bind_some h
  refine ⟨_, ⟨rfl, rfl, (by (conv => whnf); (refine ixP_of hx_7 ?_); (conv => whnf); (exact ⟨rfl, rfl⟩))⟩, ?_⟩
  conv => whnf
  refine ⟨_, ⟨rfl, rfl, (by (conv => whnf); (exact ⟨rfl, rfl⟩))⟩, ?_⟩
  conv => whnf
  refine ⟨_, ⟨rfl, rfl, (by (conv => whnf); (exact ⟨rfl, rfl⟩))⟩, ?_⟩
  conv => whnf
  obtain ⟨x_8, hx_8, h⟩ := bind_some h
  refine ⟨_, ⟨rfl, rfl, (by (conv => whnf); (refine ixP_of hx_8 ?_); (conv => whnf); (exact ⟨rfl, rfl⟩))⟩, ?_⟩
  conv => whnf
  refine ⟨_, ⟨rfl, rfl, (by (conv => whnf); (exact ⟨rfl, rfl⟩))⟩, ?_⟩
  conv => whnf
  refine ⟨_, _, (by (conv => whnf); (exact ⟨rfl, rfl⟩)), kp_ok (by repeat (first | exact trivial | refine ⟨trivial, ?_⟩ | refine ⟨rfl, ?_⟩)), ?_⟩
  conv => whnf
  refine Tr.ret ?_
  conv => whnf
  cases h
  rfl

theorem s_stopwatchref25_offset (h_1 : THistory) (x_2 : TOutcome) (r_3 : Int) (h : m_stopwatchref25_offset h_1 x_2 = some r_3) :
    PC prog 70 [(eTHistory h_1), (eTOutcome x_2)] (fun rs => rs = [(.i .i64 r_3)]) := by
  refine PC.of_tr (cx := ⟨14, none, lay, 0⟩) layOK func70 rfl rfl rfl rfl rfl (by simp [f70]) ?_
  unfold m_stopwatchref25_offset at h
  refine Tr.seq ?_
  refine Tr.region layOK ?_
  conv => whnf
  refine Tr.seq ?_
  refine Tr.seq ?_
  refine Tr.region layOK ?_
  conv => whnf
  refine Tr.cond ?_
  conv => whnf
  refine condS_bif h (fun hb4 h => ?_) (fun hb4 h => ?_)
  · refine Tr.seq ?_
    refine Tr.region layOK ?_
    conv => whnf
    refine Tr.ret ?_
    conv => whnf
    cases h
    rfl
  · refine Tr.skip ?_
    conv => whnf
    refine Tr.seq ?_
    refine Tr.region layOK ?_
    conv => whnf
    obtain ⟨x_5, hx_5, h⟩ := bind_some h
    refine ixP_of hx_5 ?_
    conv => whnf
    refine Tr.ret ?_
    conv => whnf
    cases h
    rfl

theorem s_stopwatchref25_Net (f_1 : TField) (h_2 : THistory) (runner_3 : Int) (r_4 : Int) (r_5 : Bool) (h : m_stopwatchref25_Net f_1 h_2 runner_3 = some (r_4, r_5)) :
    PC prog 47 [(eTField f_1), (eTHistory h_2), (.i .i64 runner_3)] (fun rs => rs = [(.i .i64 r_4), (.b r_5)]) := by
  refine PC.of_tr (cx := ⟨25, none, lay, 0⟩) layOK func47 rfl rfl rfl rfl rfl (by simp [f47]) ?_
  unfold m_stopwatchref25_Net at h
  refine Tr.seq ?_
  refine Tr.region layOK ?_
  conv => whnf
  refine Tr.seq ?_
  refine Tr.region layOK ?_
  conv => whnf
  obtain ⟨r_6, hc7, h⟩ := bind_some h
  refine PC.ecall (s_stopwatchref25_Outcome f_1 h_2 runner_3 r_6 hc7) (fun rs hrs => ?_)
  subst hrs
  conv => whnf
  refine Tr.seq ?_
  refine Tr.seq ?_
  refine Tr.region layOK ?_
  conv => whnf
  refine Tr.cond ?_
  conv => whnf
  refine condS_bif h (fun hb8 h => ?_) (fun hb8 h => ?_)
  · refine Tr.seq ?_
    refine Tr.region layOK ?_
    conv => whnf
    refine Tr.ret ?_
    conv => whnf
    cases h
    rfl
  · refine Tr.skip ?_
    conv => whnf
    refine Tr.seq ?_
    refine Tr.draw (DrawP.seqQ layOK mixed [] [(0, 4), (1, 4), (2, 1), (3, 2), (4, 2), (5, 2), (6, 4), (7, 5), (8, 1), (9, 1), (10, 1), (11, 1)] (by kernel_rfl) ?_)
    conv => whnf
    refine ⟨_, ⟨rfl, rfl, (by (conv => whnf); (exact ⟨rfl, rfl⟩))⟩, ?_⟩
    conv => whnf
    refine ⟨_, ⟨rfl, rfl, (by (conv => whnf); (exact ⟨rfl, rfl⟩))⟩, ?_⟩
    conv => whnf
    refine ⟨_, (fun H => by (conv => whnf); (exact ⟨rfl, rfl⟩)), ?_⟩
    conv => whnf
    obtain ⟨x_9, hx_9, h⟩ := bind_some h
    refine ⟨_, ⟨rfl, rfl, (by (conv => whnf); (refine ixP_of hx_9 ?_); (conv => whnf); (exact ⟨rfl, rfl⟩))⟩, ?_⟩
    conv => whnf
    refine ⟨_, ⟨rfl, rfl, (by (conv => whnf); (exact ⟨rfl, rfl⟩))⟩, ?_⟩
    conv => whnf
    refine ⟨_, ⟨rfl, rfl, (by (conv => whnf); (exact ⟨rfl, rfl⟩))⟩, ?_⟩
    conv => whnf
    refine ⟨_, ⟨rfl, rfl, (by (conv => whnf); (exact ⟨rfl, rfl⟩))⟩, ?_⟩
    conv => whnf
    refine ⟨_, ⟨rfl, rfl, (by (conv => whnf); (exact ⟨rfl, rfl⟩))⟩, ?_⟩
    conv => whnf
    obtain ⟨r_10, hc11, h⟩ := bind_some h
    refine ⟨_, (fun H => by (conv => whnf); (refine PC.ecall (s_stopwatchref25_offset h_2 r_6 r_10 hc11) (fun rs hrs => ?_)); (subst hrs); (conv => whnf); (exact ⟨rfl, rfl⟩)), ?_⟩
    conv => whnf
    refine ⟨_, (fun H => by (conv => whnf); (refine arS_raw ?_); (conv => whnf); (exact ⟨rfl, rfl⟩)), ?_⟩
    conv => whnf
    refine ⟨_, (fun H => by (conv => whnf); (exact ⟨rfl, rfl⟩)), ?_⟩
    conv => whnf
    refine ⟨_, (fun H => by (conv => whnf); (exact ⟨rfl, rfl⟩)), ?_⟩
    conv => whnf
    refine Tr.ret ?_
    conv => whnf
    cases h
    rfl

theorem s_stopwatchref25_InFront (f_1 : TField) (h_2 : THistory) (a_3 : Int) (b_4 : Int) (r_5 : Bool) (h : m_stopwatchref25_InFront f_1 h_2 a_3 b_4 = some r_5) :
    PC prog 20 [(eTField f_1), (eTHistory h_2), (.i .i64 a_3), (.i .i64 b_4)] (fun rs => rs = [(.b r_5)]) := by
  refine PC.of_tr (cx := ⟨57, none, lay, 0⟩) layOK func20 rfl rfl rfl rfl rfl (by simp [f20]) ?_
  unfold m_stopwatchref25_InFront at h
  refine Tr.seq ?_
  refine Tr.region layOK ?_
  conv => whnf
  refine Tr.seq ?_
  refine Tr.region layOK ?_
  conv => whnf
  obtain ⟨⟨r_6, r_7⟩, hc8, h⟩ := bind_some h
  refine PC.ecall (s_stopwatchref25_Net f_1 h_2 a_3 r_6 r_7 hc8) (fun rs hrs => ?_)
  subst hrs
  conv => whnf
  refine Tr.seq ?_
  refine Tr.region layOK ?_
  conv => whnf
  obtain ⟨⟨r_9, r_10⟩, hc11, h⟩ := bind_some h
  refine PC.ecall (s_stopwatchref25_Net f_1 h_2 b_4 r_9 r_10 hc11) (fun rs hrs => ?_)
  subst hrs
  conv => whnf
  refine Tr.seq ?_
  refine Tr.seq ?_
  refine Tr.region layOK ?_
  conv => whnf
  refine condS_bif h (fun hb12 h => ?_) (fun hb12 h => ?_)
  · conv => whnf
    refine Tr.cond ?_
    conv => whnf
    refine Tr.seq ?_
    refine Tr.region layOK ?_
    conv => whnf
    refine Tr.ret ?_
    conv => whnf
    cases h
    rfl
  · conv => whnf
    refine Tr.cond ?_
    conv => whnf
    refine condS_bif h (fun hb13 h => ?_) (fun hb13 h => ?_)
    · refine Tr.seq ?_
      refine Tr.region layOK ?_
      conv => whnf
      refine Tr.ret ?_
      conv => whnf
      cases h
      rfl
    · refine Tr.skip ?_
      conv => whnf
      refine Tr.seq ?_
      refine Tr.draw (DrawP.seqQ layOK mixed [] [(0, 1), (1, 1), (2, 1), (3, 1), (4, 1), (5, 1), (6, 1), (7, 1), (8, 3), (9, 3), (10, 1), (11, 2), (12, 2), (13, 2), (14, 3), (15, 3), (16, 1), (17, 2), (18, 2), (19, 2), (20, 1), (21, 1), (22, 1), (23, 1)] (by kernel_rfl) ?_)
      conv => whnf
      refine ⟨_, (fun H => by (conv => whnf); (exact ⟨rfl, rfl⟩)), ?_⟩
      conv => whnf
      refine ⟨_, (fun H => by (conv => whnf); (exact ⟨rfl, rfl⟩)), ?_⟩
      conv => whnf
      refine ⟨_, (fun H => by (conv => whnf); (exact ⟨rfl, rfl⟩)), ?_⟩
      conv => whnf
      refine ⟨_, (fun H => by (conv => whnf); (exact ⟨rfl, rfl⟩)), ?_⟩
      conv => whnf
      refine condS_bif h (fun hb14 h => ?_) (fun hb14 h => ?_)
      · conv => whnf
        refine ⟨_, (fun H => by (conv => whnf); (exact ⟨rfl, rfl⟩)), ?_⟩
        conv => whnf
        refine ⟨_, (fun H => by (conv => whnf); (exact ⟨rfl, rfl⟩)), ?_⟩
        conv => whnf
        refine Tr.ret ?_
        conv => whnf
        cases h
        rfl
      · conv => whnf
        refine ⟨_, (fun H => by (conv => whnf); (exact ⟨rfl, rfl⟩)), ?_⟩
        conv => whnf
        refine ⟨_, (fun H => by (conv => whnf); (exact ⟨rfl, rfl⟩)), ?_⟩
        conv => whnf
        refine ⟨_, (fun H => by (conv => whnf); (exact ⟨rfl, rfl⟩)), ?_⟩
        conv => whnf
        refine ⟨_, (fun H => by (conv => whnf); (exact ⟨rfl, rfl⟩)), ?_⟩
        conv => whnf
        refine condS_bif h (fun hb15 h => ?_) (fun hb15 h => ?_)
        · conv => whnf
          refine ⟨_, ⟨rfl, rfl, (by (conv => whnf); (exact ⟨rfl, rfl⟩))⟩, ?_⟩
          conv => whnf
          refine ⟨_, ⟨rfl, rfl, (by (conv => whnf); (exact ⟨rfl, rfl⟩))⟩, ?_⟩
          conv => whnf
          refine ⟨_, (fun H => by (conv => whnf); (exact ⟨rfl, rfl⟩)), ?_⟩
          conv => whnf
          obtain ⟨x_16, hx_16, h⟩ := bind_some h
          refine ⟨_, ⟨rfl, rfl, (by (conv => whnf); (refine ixP_of hx_16 ?_); (conv => whnf); (exact ⟨rfl, rfl⟩))⟩, ?_⟩
          conv => whnf
          refine ⟨_, ⟨rfl, rfl, (by (conv => whnf); (exact ⟨rfl, rfl⟩))⟩, ?_⟩
          conv => whnf
          refine ⟨_, ⟨rfl, rfl, (by (conv => whnf); (exact ⟨rfl, rfl⟩))⟩, ?_⟩
          conv => whnf
          refine ⟨_, ⟨rfl, rfl, (by (conv => whnf); (exact ⟨rfl, rfl⟩))⟩, ?_⟩
          conv => whnf
          refine ⟨_, ⟨rfl, rfl, (by (conv => whnf); (exact ⟨rfl, rfl⟩))⟩, ?_⟩
          conv => whnf
          refine ⟨_, (fun H => by (conv => whnf); (exact ⟨rfl, rfl⟩)), ?_⟩
          conv => whnf
          obtain ⟨x_17, hx_17, h⟩ := bind_some h
          refine ⟨_, ⟨rfl, rfl, (by (conv => whnf); (refine ixP_of hx_17 ?_); (conv => whnf); (exact ⟨rfl, rfl⟩))⟩, ?_⟩
          conv => whnf
          refine ⟨_, ⟨rfl, rfl, (by (conv => whnf); (exact ⟨rfl, rfl⟩))⟩, ?_⟩
          conv => whnf
          refine ⟨_, ⟨rfl, rfl, (by (conv => whnf); (exact ⟨rfl, rfl⟩))⟩, ?_⟩
          conv => whnf
          obtain ⟨r_18, hc19, h⟩ := bind_some h
          refine ⟨_, (fun H => by (conv => whnf); (refine PC.ecall (s_stopwatchref25_Less x_16.Keys x_17.Keys r_18 hc19) (fun rs hrs => ?_)); (subst hrs); (conv => whnf); (exact ⟨rfl, rfl⟩)), ?_⟩
          conv => whnf
          refine ⟨_, (fun H => by (conv => whnf); (exact ⟨rfl, rfl⟩)), ?_⟩
          conv => whnf
          refine ⟨_, (fun H => by (conv => whnf); (exact ⟨rfl, rfl⟩)), ?_⟩
          conv => whnf
          refine ⟨_, (fun H => by (conv => whnf); (exact ⟨rfl, rfl⟩)), ?_⟩
          conv => whnf
          refine Tr.ret ?_
          conv => whnf
          cases h
          rfl
        · conv => whnf
          refine ⟨_, (fun H => by (conv => whnf); (exact ⟨rfl, rfl⟩)), ?_⟩
          conv => whnf
          refine ⟨_, (fun H => by (conv => whnf); (exact ⟨rfl, rfl⟩)), ?_⟩
          conv => whnf
          refine ⟨_, (fun H => by (conv => whnf); (exact ⟨rfl, rfl⟩)), ?_⟩
          conv => whnf
          refine Tr.ret ?_
          conv => whnf
          cases h
          rfl

theorem s_stopwatchref25_Rank (f_1 : TField) (h_2 : THistory) (runner_3 : Int) (r_4 : Int) (h : m_stopwatchref25_Rank f_1 h_2 runner_3 = some r_4) :
    PC prog 19 [(eTField f_1), (eTHistory h_2), (.i .i64 runner_3)] (fun rs => rs = [(.i .i64 r_4)]) := by
  refine PC.of_tr (cx := ⟨35, none, lay, 0⟩) layOK func19 rfl rfl rfl rfl rfl (by simp [f19]) ?_
  unfold m_stopwatchref25_Rank at h
  refine Tr.seq ?_
  refine Tr.region layOK ?_
  conv => whnf
  refine Tr.seq ?_
  refine Tr.region layOK ?_
  conv => whnf
  obtain ⟨⟨r_5, r_6⟩, hc7, h⟩ := bind_some h
  refine PC.ecall (s_stopwatchref25_Net f_1 h_2 runner_3 r_5 r_6 hc7) (fun rs hrs => ?_)
  subst hrs
  conv => whnf
  refine Tr.seq ?_
  refine Tr.seq ?_
  refine Tr.region layOK ?_
  conv => whnf
  refine Tr.cond ?_
  conv => whnf
  refine condS_bif h (fun hb8 h => ?_) (fun hb8 h => ?_)
  · refine Tr.seq ?_
    refine Tr.region layOK ?_
    conv => whnf
    refine Tr.ret ?_
    conv => whnf
    cases h
    rfl
  · refine Tr.skip ?_
    conv => whnf
    refine Tr.seq ?_
    refine Tr.region layOK ?_
    conv => whnf
    refine Tr.seq ?_
    refine Tr.seq ?_
    refine Tr.region layOK ?_
    conv => whnf
    obtain ⟨n_14, hv21, h⟩ := bind_some h
    refine Tr.cutQ1 ([(6, .d (.i .i64 0)), (9, .d (.i .i64 n_14))]) ([]) ?_ (fun T1 H1 hw => ?_)
    · replace h := hv21; clear hv21
      refine Tr.block ?_
      refine Tr.loopM (σ := Int × Int) (fun n s => m_stopwatchref25_Rank_L1 f_1 h_2 runner_3 n s.1 s.2) n_14 (fun s => ([(2, .d (.i .i64 runner_3)), (3, .pt 0 0), (4, .pt 1 0), (6, .d (.i .i64 0)), (9, .d (.i .i64 s.1)), (10, .d (.i .i64 s.2))], [some (.var [.d (.ls (List.map eTSegment f_1.Clocks.Segments)), .d (.ls (List.map (eL eI) f_1.Clocks.Far)), .d (.ls (List.map eTPair f_1.Pairs)), .d (.ls (List.map eTRunner f_1.Runners))]), some (.var [.d (.i .i64 h_2.World), .d (.ls (List.map eI h_2.Offsets)), .d (.ls (List.map eTChoice h_2.Choices))])])) (((((f_1.Runners).length : Int)) - 0 : Int).toNat + 1) (1, 0) h (fun s => rfl) (Wk.mk2 [0, 1] 2 rfl rfl (by decide) rfl ⟨⟨rfl, rfl⟩, ⟨rfl, rfl⟩, trivial⟩ ⟨⟨rfl, rfl⟩, ⟨rfl, rfl⟩, ⟨rfl, rfl⟩, ⟨rfl, rfl⟩, ⟨rfl, rfl⟩, ⟨rfl, rfl⟩, trivial⟩) ?_
      clear h
      rintro n_13 ⟨n_11, i_12⟩ h
      replace h : m_stopwatchref25_Rank_L1 f_1 h_2 runner_3 (n_13 + 1) n_11 i_12 = some n_14 := h
      rw [m_stopwatchref25_Rank_L1] at h
      refine Tr.seq ?_
      refine Tr.seq ?_
      refine Tr.region layOK ?_
      conv => whnf
      refine lnS_map ?_
      conv => whnf
      refine Tr.cond ?_
      conv => whnf
      refine condS_bif h (fun hb17 h => ?_) (fun hb17 h => ?_)
      · refine Tr.skip ?_
        conv => whnf
        refine Tr.seq ?_
        refine Tr.block ?_
        refine Tr.seq ?_
        refine Tr.region layOK ?_
        conv => whnf
        obtain ⟨r_18, hc19, h⟩ := bind_some h
        refine PC.ecall (s_stopwatchref25_InFront f_1 h_2 i_12 runner_3 r_18 hc19) (fun rs hrs => ?_)
        subst hrs
        conv => whnf
        refine Tr.cond ?_
        conv => whnf
        refine condS_bif h (fun hb20 h => ?_) (fun hb20 h => ?_)
        · refine Tr.region layOK ?_
          conv => whnf
          refine arS_raw ?_
          conv => whnf
          refine Tr.region layOK ?_
          conv => whnf
          refine arS_raw ?_
          conv => whnf
          refine ⟨((w64 (n_11 + 1)), (w64 (i_12 + 1))), h, ?_⟩
          exact Wk.mk2 [0, 1] 2 rfl rfl (by decide) rfl ⟨⟨rfl, rfl⟩, ⟨rfl, rfl⟩, trivial⟩ ⟨⟨rfl, rfl⟩, ⟨rfl, rfl⟩, ⟨rfl, rfl⟩, ⟨rfl, rfl⟩, ⟨rfl, rfl⟩, ⟨rfl, rfl⟩, trivial⟩
        · refine Tr.skip ?_
          conv => whnf
          refine Tr.region layOK ?_
          conv => whnf
          refine arS_raw ?_
          conv => whnf
          refine ⟨(n_11, (w64 (i_12 + 1))), h, ?_⟩
          exact Wk.mk2 [0, 1] 2 rfl rfl (by decide) rfl ⟨⟨rfl, rfl⟩, ⟨rfl, rfl⟩, trivial⟩ ⟨⟨rfl, rfl⟩, ⟨rfl, rfl⟩, ⟨rfl, rfl⟩, ⟨rfl, rfl⟩, ⟨rfl, rfl⟩, ⟨rfl, rfl⟩, trivial⟩
      · refine Tr.exit ?_
        conv => whnf
        cases h
        exact Wk.mk2 [] 2 rfl rfl (by decide) rfl trivial ⟨⟨rfl, rfl⟩, ⟨rfl, rfl⟩, trivial⟩
    · clear hv21
      conv => whnf
      refine Tr.weak hw ?_
      refine Tr.seq ?_
      refine Tr.region layOK ?_
      conv => whnf
      refine Tr.ret ?_
      conv => whnf
      cases h
      rfl

theorem s_stopwatchlaw25_history_1 (v_1 : Int) (v_2 : List Int) (r_3 : Int) (b_4 : Int) (h : m_stopwatchlaw25_history_1 v_1 v_2 = some (r_3, b_4)) :
    MC prog 45 [.pt 0 0, .pt 1 0] [.var [.d (.i .i64 v_1)], .var [.d (.ls (List.map eI v_2))]] (fun rs Bs => rs = [(.i .i64 r_3)] ∧ Bs = [.var [.d (.i .i64 b_4)], .var [.d (.ls (List.map eI v_2))]]) := by
  refine MC.of_tr (cx := ⟨14, none, lay, 2⟩) layOK func45 rfl rfl rfl rfl rfl (by simp [f45]) ?_
  refine Tr.unW ?_
  unfold m_stopwatchlaw25_history_1 at h
  refine Tr.seq ?_
  refine Tr.region layOK ?_
  conv => whnf
  refine Tr.seq ?_
  refine Tr.seq ?_
  refine Tr.region layOK ?_
  conv => whnf
  refine lnS_map ?_
  conv => whnf
  refine Tr.cond ?_
  conv => whnf
  refine condS_bif h (fun hb5 h => ?_) (fun hb5 h => ?_)
  · refine Tr.seq ?_
    refine Tr.region layOK ?_
    conv => whnf
    refine Tr.ret ?_
    conv => whnf
    refine endH ?_
    conv => whnf
    cases h
    exact endB rfl rfl rfl ⟨rfl, rfl, trivial⟩
  · refine Tr.skip ?_
    conv => whnf
    refine Tr.seq ?_
    refine Tr.region layOK ?_
    conv => whnf
    refine arS_raw ?_
    conv => whnf
    refine Tr.seq ?_
    refine Tr.region layOK ?_
    conv => whnf
    refine arS_raw ?_
    conv => whnf
    obtain ⟨x_6, hx_6, h⟩ := bind_some h
    refine ixP_of hx_6 ?_
    conv => whnf
    refine Tr.ret ?_
    conv => whnf
    refine endH ?_
    conv => whnf
    cases h
    exact endB rfl rfl rfl ⟨rfl, rfl, trivial⟩

theorem s_stopwatchlaw25_history (f_1 : TField) (picks_2 : List Int) (r_3 : THistory) (h : m_stopwatchlaw25_history f_1 picks_2 = some r_3) :
    PC prog 16 [(eTField f_1), (.ls (List.map eI picks_2))] (fun rs => rs = [(eTHistory r_3)]) := by
  refine PC.of_tr (cx := ⟨88, none, lay, 0⟩) layOK func16 rfl rfl rfl rfl rfl (by simp [f16]) ?_
  unfold m_stopwatchlaw25_history at h
  refine Tr.seq ?_
  refine Tr.region layOK ?_
  conv => whnf
  refine Tr.seq ?_
  refine Tr.region layOK ?_
  conv => whnf
  refine Tr.seq ?_
  refine Tr.region layOK ?_
  conv => whnf
  refine Tr.seq ?_
  refine Tr.region layOK ?_
  conv => whnf
  refine ECall.of_tr (cx := ⟨14, none, lay, 4⟩) layOK func45 rfl rfl rfl rfl rfl (by simp [f45]) ?_
  refine Tr.seq ?_
  refine Tr.region layOK ?_
  conv => whnf
  refine Tr.seq ?_
  refine Tr.seq ?_
  refine Tr.region layOK ?_
  conv => whnf
  refine lnS_map ?_
  conv => whnf
  refine Tr.cond ?_
  conv => whnf
  refine condS_bif h (fun hb4 h => ?_) (fun hb4 h => ?_)
  · refine Tr.seq ?_
    refine Tr.region layOK ?_
    conv => whnf
    refine Tr.ret ?_
    conv => whnf
    refine orB_l ?_
    conv => whnf
    refine Tr.seq ?_
    refine Tr.seq ?_
    refine Tr.region layOK ?_
    conv => whnf
    refine lnS_map ?_
    conv => whnf
    obtain ⟨⟨v_12, l_13⟩, hv21, h⟩ := bind_some h
    refine Tr.cutQ1 ([(2, .pt 0 0), (4, .pt 1 0), (6, .fn 45 [.pt 2 0, .pt 3 0]), (7, .pt 4 0)]) ([some (.var [.d (.ls (List.map eTSegment f_1.Clocks.Segments)), .d (.ls (List.map (eL eI) f_1.Clocks.Far)), .d (.ls (List.map eTPair f_1.Pairs)), .d (.ls (List.map eTRunner f_1.Runners))]), some (.var [.d (.i .i64 0), .nsl, .nsl]), some (.var [.d (.i .i64 v_12)]), some (.var [.d (.ls (List.map eI picks_2))]), some (.var [.d (.i .i64 (bitK .i64 (BitVec.ofInt 64 0 &&& BitVec.ofInt 64 3))), .sl 5 1 0 (List.length l_13), .nsl]), some (.arr 1 (List.map .d (List.map eI l_13)))]) ?_ (fun T1 H1 hw => ?_)
    · replace h := hv21; clear hv21
      refine Tr.block ?_
      refine Tr.loopM (σ := Int × Int × List Int) (fun n s => m_stopwatchlaw25_history_L1 f_1 picks_2 n s.1 s.2.1 s.2.2) (v_12, l_13) (fun s => ([(2, .pt 0 0), (4, .pt 1 0), (6, .fn 45 [.pt 2 0, .pt 3 0]), (7, .pt 4 0), (20, .d (.i .i64 (((f_1.Clocks.Segments).length : Int)))), (21, .d (.i .i64 s.1))], [some (.var [.d (.ls (List.map eTSegment f_1.Clocks.Segments)), .d (.ls (List.map (eL eI) f_1.Clocks.Far)), .d (.ls (List.map eTPair f_1.Pairs)), .d (.ls (List.map eTRunner f_1.Runners))]), some (.var [.d (.i .i64 0), .nsl, .nsl]), some (.var [.d (.i .i64 s.2.1)]), some (.var [.d (.ls (List.map eI picks_2))]), some (.var [.d (.i .i64 (bitK .i64 (BitVec.ofInt 64 0 &&& BitVec.ofInt 64 3))), .sl 5 1 0 (List.length s.2.2), .nsl]), some (.arr 1 (List.map .d (List.map eI s.2.2)))])) (((((f_1.Clocks.Segments).length : Int)) - 0 : Int).toNat + 1) (0, 0, (([] : List Int))) h (fun s => rfl) (Wk.mk2 [0, 2, 3, 1, 4, 5] 5 rfl rfl (by decide) rfl ⟨⟨rfl, rfl⟩, ⟨rfl, rfl⟩, ⟨rfl, rfl⟩, ⟨rfl, rfl⟩, ⟨rfl, (by first | rfl | (simp only [↓hb4, cond_true, cond_false, Bool.true_or, Bool.or_true, Bool.false_or, Bool.or_false, Bool.true_and, Bool.and_true, Bool.false_and, Bool.and_false, Bool.not_true, Bool.not_false]; done) | (simp only [↓hb4, cond_true, cond_false, Bool.true_or, Bool.or_true, Bool.false_or, Bool.or_false, Bool.true_and, Bool.and_true, Bool.false_and, Bool.and_false, Bool.not_true, Bool.not_false]; rfl))⟩, rfl, trivial⟩ ⟨⟨rfl, rfl⟩, ⟨rfl, (by first | rfl | (simp only [↓hb4, cond_true, cond_false, Bool.true_or, Bool.or_true, Bool.false_or, Bool.or_false, Bool.true_and, Bool.and_true, Bool.false_and, Bool.and_false, Bool.not_true, Bool.not_false]; done) | (simp only [↓hb4, cond_true, cond_false, Bool.true_or, Bool.or_true, Bool.false_or, Bool.or_false, Bool.true_and, Bool.and_true, Bool.false_and, Bool.and_false, Bool.not_true, Bool.not_false]; rfl))⟩, ⟨rfl, (by first | rfl | (simp only [↓hb4, cond_true, cond_false, Bool.true_or, Bool.or_true, Bool.false_or, Bool.or_false, Bool.true_and, Bool.and_true, Bool.false_and, Bool.and_false, Bool.not_true, Bool.not_false]; done) | (simp only [↓hb4, cond_true, cond_false, Bool.true_or, Bool.or_true, Bool.false_or, Bool.or_false, Bool.true_and, Bool.and_true, Bool.false_and, Bool.and_false, Bool.not_true, Bool.not_false]; rfl))⟩, ⟨rfl, rfl⟩, ⟨rfl, rfl⟩, ⟨rfl, rfl⟩, trivial⟩) ?_
      clear h
      rintro n_11 ⟨v_8, v_9, l_10⟩ h
      replace h : m_stopwatchlaw25_history_L1 f_1 picks_2 (n_11 + 1) v_8 v_9 l_10 = some (v_12, l_13) := h
      rw [m_stopwatchlaw25_history_L1] at h
      refine Tr.seq ?_
      refine Tr.region layOK ?_
      conv => whnf
      refine Tr.seq ?_
      refine Tr.cond ?_
      conv => whnf
      refine condS_bif h (fun hb16 h => ?_) (fun hb16 h => ?_)
      · refine Tr.skip ?_
        conv => whnf
        refine Tr.seq ?_
        refine Tr.block ?_
        refine Tr.draw (DrawP.seqQ layOK mixed [(3, 2), (5, 5), (7, 4)] [(0, 7), (1, 7), (2, 1), (3, 0), (4, 1), (5, 0), (6, 7), (7, 0)] (by kernel_rfl) ?_)
        conv => whnf
        refine ⟨_, ⟨rfl, rfl, (by (conv => whnf); (exact ⟨rfl, rfl⟩))⟩, ?_⟩
        conv => whnf
        refine ⟨_, ⟨rfl, rfl, (by (conv => whnf); (exact ⟨rfl, rfl⟩))⟩, ?_⟩
        conv => whnf
        refine ⟨_, (fun H => by (conv => whnf); (exact ⟨rfl, rfl⟩)), ?_⟩
        conv => whnf
        obtain ⟨⟨r_17, b_18⟩, hc19, h⟩ := bind_some h
        refine ⟨_, _, (by (conv => whnf); (refine MC.ecall (s_stopwatchlaw25_history_1 v_9 picks_2 r_17 b_18 hc19) [2, 3] (by decide) rfl rfl ?_ (fun rs Bs1 hrs => ?_)); (· exact ⟨⟨rfl, rfl⟩, ⟨rfl, rfl⟩, trivial⟩); (obtain ⟨rfl, rfl⟩ := hrs); (conv => whnf); (exact ⟨rfl, rfl⟩)), kp_ok (by repeat (first | exact trivial | refine ⟨trivial, ?_⟩ | refine ⟨rfl, ?_⟩)), ?_⟩
        conv => whnf
        refine ⟨_, (fun H => by (conv => whnf); (refine orB_r ?_); (conv => whnf); (exact ⟨rfl, rfl⟩)), ?_⟩
        conv => whnf
        obtain ⟨l_20, hl_20, h⟩ := bind_some h
        refine ⟨_, _, (by (conv => whnf); (refine frP_no ?_); (conv => whnf); (refine eqS_mk (by first | rfl | simp) ?_); (conv => whnf); (refine apS_of hl_20 (apq_map (f := eI) (l := (([r_17] : List Int))) fun _ => rfl) (by first | rfl | simp) (by first | rfl | simp) (fun he => ?_)); (conv => whnf); (refine reS_mk (es' := List.map .d (List.map eI l_20)) (n' := List.length l_20) (by subst he; simp only [List.map_append, List.map_cons, List.map_nil, List.nil_append]; first | done | rfl) (by subst he; simp <;> omega) ?_); (clear he); (conv => whnf); (exact ⟨rfl, rfl⟩)), kp_ok (by repeat (first | exact trivial | refine ⟨trivial, ?_⟩ | refine ⟨rfl, ?_⟩)), ?_⟩
        conv => whnf
        refine ⟨_, ⟨rfl, rfl, (by (conv => whnf); (exact ⟨rfl, rfl⟩))⟩, ?_⟩
        conv => whnf
        refine ⟨_, _, (by (conv => whnf); (refine orB_l ?_); (conv => whnf); (exact ⟨rfl, rfl⟩)), kp_ok (by repeat (first | exact trivial | refine ⟨trivial, ?_⟩ | refine ⟨rfl, ?_⟩)), ?_⟩
        conv => whnf
        refine Tr.region layOK ?_
        conv => whnf
        refine arS_raw ?_
        conv => whnf
        refine ⟨((w64 (v_8 + 1)), b_18, l_20), h, ?_⟩
        exact Wk.mk2 [0, 1, 2, 3, 4, 6] 7 rfl rfl (by decide) rfl ⟨⟨rfl, rfl⟩, ⟨rfl, rfl⟩, ⟨rfl, rfl⟩, ⟨rfl, rfl⟩, ⟨rfl, (by first | rfl | (simp only [↓hb4, ↓hb16, cond_true, cond_false, Bool.true_or, Bool.or_true, Bool.false_or, Bool.or_false, Bool.true_and, Bool.and_true, Bool.false_and, Bool.and_false, Bool.not_true, Bool.not_false]; done) | (simp only [↓hb4, ↓hb16, cond_true, cond_false, Bool.true_or, Bool.or_true, Bool.false_or, Bool.or_false, Bool.true_and, Bool.and_true, Bool.false_and, Bool.and_false, Bool.not_true, Bool.not_false]; rfl))⟩, daS_d rfl, trivial⟩ ⟨⟨rfl, rfl⟩, ⟨rfl, rfl⟩, ⟨rfl, rfl⟩, ⟨rfl, rfl⟩, ⟨rfl, rfl⟩, ⟨rfl, rfl⟩, trivial⟩
      · refine Tr.exit ?_
        conv => whnf
        cases h
        exact Wk.mk2 [0, 1, 2, 3, 4, 5] 6 rfl rfl (by decide) rfl ⟨⟨rfl, rfl⟩, ⟨rfl, rfl⟩, ⟨rfl, rfl⟩, ⟨rfl, rfl⟩, ⟨rfl, rfl⟩, daS_d rfl, trivial⟩ ⟨⟨rfl, rfl⟩, ⟨rfl, rfl⟩, ⟨rfl, rfl⟩, ⟨rfl, rfl⟩, trivial⟩
    · clear hv21
      conv => whnf
      refine Tr.weak hw ?_
      refine Tr.seq ?_
      refine Tr.seq ?_
      refine Tr.region layOK ?_
      conv => whnf
      refine lnS_map ?_
      conv => whnf
      obtain ⟨l_29, hv67, h⟩ := bind_some h
      refine Tr.cutQ1 ([(4, .pt 0 0), (7, .pt 1 0)]) ([some (.var [.d (.i .i64 0), .nsl, .nsl]), some (.var [.d (.i .i64 (bitK .i64 (BitVec.ofInt 64 0 &&& BitVec.ofInt 64 3))), .sl 2 1 0 (List.length l_13), .sl 3 2 0 (List.length l_29)]), some (.arr 1 (List.map .d (List.map eI l_13))), some (.arr 2 (List.map .d (List.map eTChoice l_29)))]) ?_ (fun T1 H1 hw => ?_)
      · replace h := hv67; clear hv67
        refine Tr.block ?_
        refine Tr.loopM (σ := Int × Int × List TChoice) (fun n s => m_stopwatchlaw25_history_L2 f_1 picks_2 n s.1 s.2.1 s.2.2) l_29 (fun s => ([(4, .pt 0 0), (6, .fn 45 [.pt 1 0, .pt 2 0]), (7, .pt 3 0), (32, .d (.ls (List.map eTRunner f_1.Runners))), (33, .d (.i .i64 (((f_1.Runners).length : Int)))), (34, .d (.i .i64 s.1))], [some (.var [.d (.i .i64 0), .nsl, .nsl]), some (.var [.d (.i .i64 s.2.1)]), some (.var [.d (.ls (List.map eI picks_2))]), some (.var [.d (.i .i64 (bitK .i64 (BitVec.ofInt 64 0 &&& BitVec.ofInt 64 3))), .sl 4 1 0 (List.length l_13), .sl 5 2 0 (List.length s.2.2)]), some (.arr 1 (List.map .d (List.map eI l_13))), some (.arr 2 (List.map .d (List.map eTChoice s.2.2)))])) (((((f_1.Runners).length : Int)) - 0 : Int).toNat + 1) (0, v_12, (([] : List TChoice))) h (fun s => rfl) (Wk.mk2 [1, 2, 3, 4, 5, 6] 6 rfl rfl (by decide) rfl ⟨⟨rfl, rfl⟩, ⟨rfl, rfl⟩, ⟨rfl, rfl⟩, ⟨rfl, (by first | rfl | (simp only [↓hb4, cond_true, cond_false, Bool.true_or, Bool.or_true, Bool.false_or, Bool.or_false, Bool.true_and, Bool.and_true, Bool.false_and, Bool.and_false, Bool.not_true, Bool.not_false]; done) | (simp only [↓hb4, cond_true, cond_false, Bool.true_or, Bool.or_true, Bool.false_or, Bool.or_false, Bool.true_and, Bool.and_true, Bool.false_and, Bool.and_false, Bool.not_true, Bool.not_false]; rfl))⟩, daS_d rfl, rfl, trivial⟩ ⟨⟨rfl, (by first | rfl | (simp only [↓hb4, cond_true, cond_false, Bool.true_or, Bool.or_true, Bool.false_or, Bool.or_false, Bool.true_and, Bool.and_true, Bool.false_and, Bool.and_false, Bool.not_true, Bool.not_false]; done) | (simp only [↓hb4, cond_true, cond_false, Bool.true_or, Bool.or_true, Bool.false_or, Bool.or_false, Bool.true_and, Bool.and_true, Bool.false_and, Bool.and_false, Bool.not_true, Bool.not_false]; rfl))⟩, ⟨rfl, (by first | rfl | (simp only [↓hb4, cond_true, cond_false, Bool.true_or, Bool.or_true, Bool.false_or, Bool.or_false, Bool.true_and, Bool.and_true, Bool.false_and, Bool.and_false, Bool.not_true, Bool.not_false]; done) | (simp only [↓hb4, cond_true, cond_false, Bool.true_or, Bool.or_true, Bool.false_or, Bool.or_false, Bool.true_and, Bool.and_true, Bool.false_and, Bool.and_false, Bool.not_true, Bool.not_false]; rfl))⟩, ⟨rfl, (by first | rfl | (simp only [↓hb4, cond_true, cond_false, Bool.true_or, Bool.or_true, Bool.false_or, Bool.or_false, Bool.true_and, Bool.and_true, Bool.false_and, Bool.and_false, Bool.not_true, Bool.not_false]; done) | (simp only [↓hb4, cond_true, cond_false, Bool.true_or, Bool.or_true, Bool.false_or, Bool.or_false, Bool.true_and, Bool.and_true, Bool.false_and, Bool.and_false, Bool.not_true, Bool.not_false]; rfl))⟩, ⟨rfl, rfl⟩, ⟨rfl, rfl⟩, ⟨rfl, rfl⟩, trivial⟩) ?_
        clear h
        rintro n_28 ⟨v_25, v_26, l_27⟩ h
        replace h : m_stopwatchlaw25_history_L2 f_1 picks_2 (n_28 + 1) v_25 v_26 l_27 = some l_29 := h
        rw [m_stopwatchlaw25_history_L2] at h
        refine Tr.seq ?_
        refine Tr.region layOK ?_
        conv => whnf
        refine Tr.seq ?_
        refine Tr.cond ?_
        conv => whnf
        refine condS_bif h (fun hb32 h => ?_) (fun hb32 h => ?_)
        · refine Tr.skip ?_
          conv => whnf
          refine Tr.seq ?_
          obtain ⟨⟨v_33, l_34⟩, hv35, h⟩ := bind_some h
          refine Tr.cutQ1 ([(4, .pt 0 0), (6, .fn 45 [.pt 1 0, .pt 2 0]), (7, .pt 3 0), (32, .d (.ls (List.map eTRunner f_1.Runners))), (33, .d (.i .i64 (((f_1.Runners).length : Int)))), (34, .d (.i .i64 v_25))]) ([some (.var [.d (.i .i64 0), .nsl, .nsl]), some (.var [.d (.i .i64 v_33)]), some (.var [.d (.ls (List.map eI picks_2))]), some (.var [.d (.i .i64 (bitK .i64 (BitVec.ofInt 64 0 &&& BitVec.ofInt 64 3))), .sl 4 1 0 (List.length l_13), .sl 5 2 0 (List.length l_34)]), some (.arr 1 (List.map .d (List.map eI l_13))), some (.arr 2 (List.map .d (List.map eTChoice l_34)))]) ?_ (fun T1 H1 hw => ?_)
          · replace h := hv35; clear hv35
            refine Tr.block ?_
            refine Tr.seq ?_
            refine Tr.region layOK ?_
            conv => whnf
            obtain ⟨x_36, hx_36, h⟩ := bind_some h
            refine ixP_of hx_36 ?_
            conv => whnf
            refine Tr.seq ?_
            refine Tr.region layOK ?_
            conv => whnf
            refine ECall.of_tr (cx := ⟨14, none, lay, 7⟩) layOK func45 rfl rfl rfl rfl rfl (by simp [f45]) ?_
            refine Tr.seq ?_
            refine Tr.region layOK ?_
            conv => whnf
            refine Tr.seq ?_
            refine Tr.seq ?_
            refine Tr.region layOK ?_
            conv => whnf
            refine lnS_map ?_
            conv => whnf
            refine Tr.cond ?_
            conv => whnf
            refine condS_bif h (fun hb37 h => ?_) (fun hb37 h => ?_)
            · refine Tr.seq ?_
              refine Tr.region layOK ?_
              conv => whnf
              refine Tr.ret ?_
              conv => whnf
              refine Tr.seq ?_
              refine Tr.seq ?_
              obtain ⟨v_38, hv39, h⟩ := bind_some h
              refine Tr.cutQ1 ([(4, .pt 0 0), (6, .fn 45 [.pt 1 0, .pt 2 0]), (7, .pt 3 0), (9, .pt 4 0), (10, .pt 5 0), (32, .d (.ls (List.map eTRunner f_1.Runners))), (33, .d (.i .i64 (((f_1.Runners).length : Int)))), (34, .d (.i .i64 v_25)), (59, .d (.b v_38))]) ([some (.var [.d (.i .i64 0), .nsl, .nsl]), some (.var [.d (.i .i64 v_26)]), some (.var [.d (.ls (List.map eI picks_2))]), some (.var [.d (.i .i64 (bitK .i64 (BitVec.ofInt 64 0 &&& BitVec.ofInt 64 3))), .sl 6 1 0 (List.length l_13), .sl 7 2 0 (List.length l_27)]), some (.var [.d (.i .i64 x_36.Bib), .d (.ls (List.map eI x_36.Keys)), .d (.ls (List.map (eL eTOutcome) x_36.Worlds))]), some (.var [.d (.i .i64 (bitK .i64 (BitVec.ofInt 64 0 &&& BitVec.ofInt 64 3))), .d (.i .i64 0)]), some (.arr 1 (List.map .d (List.map eI l_13))), some (.arr 2 (List.map .d (List.map eTChoice l_27)))]) ?_ (fun T1 H1 hw => ?_)
              · replace h := hv39; clear hv39
                refine Tr.draw (DrawP.seqQ layOK mixed [] [(0, 6), (1, 6), (2, 9), (3, 9), (4, 2), (5, 1), (6, 1), (7, 10), (8, 10), (9, 9), (10, 9), (11, 6), (12, 6), (13, 2), (14, 2), (15, 2), (16, 1), (17, 1)] (by kernel_rfl) ?_)
                conv => whnf
                refine ⟨_, ⟨rfl, rfl, (by (conv => whnf); (exact ⟨rfl, rfl⟩))⟩, ?_⟩
                conv => whnf
                refine ⟨_, ⟨rfl, rfl, (by (conv => whnf); (exact ⟨rfl, rfl⟩))⟩, ?_⟩
                conv => whnf
                refine ⟨_, ⟨rfl, rfl, (by (conv => whnf); (exact ⟨rfl, rfl⟩))⟩, ?_⟩
                conv => whnf
                refine ⟨_, ⟨rfl, rfl, (by (conv => whnf); (exact ⟨rfl, rfl⟩))⟩, ?_⟩
                conv => whnf
                refine ⟨_, ⟨rfl, rfl, (by (conv => whnf); (refine lnS_map ?_); (conv => whnf); (exact ⟨rfl, rfl⟩))⟩, ?_⟩
                conv => whnf
                refine ⟨_, (fun H => by (conv => whnf); (exact ⟨rfl, rfl⟩)), ?_⟩
                conv => whnf
                refine ⟨_, (fun H => by (conv => whnf); (exact ⟨rfl, rfl⟩)), ?_⟩
                conv => whnf
                refine condS_bif h (fun hb40 h => ?_) (fun hb40 h => ?_)
                · conv => whnf
                  refine ⟨_, ⟨rfl, rfl, (by (conv => whnf); (exact ⟨rfl, rfl⟩))⟩, ?_⟩
                  conv => whnf
                  refine ⟨_, ⟨rfl, rfl, (by (conv => whnf); (exact ⟨rfl, rfl⟩))⟩, ?_⟩
                  conv => whnf
                  refine ⟨_, ⟨rfl, rfl, (by (conv => whnf); (exact ⟨rfl, rfl⟩))⟩, ?_⟩
                  conv => whnf
                  refine ⟨_, ⟨rfl, rfl, (by (conv => whnf); (exact ⟨rfl, rfl⟩))⟩, ?_⟩
                  conv => whnf
                  refine ⟨_, ⟨rfl, rfl, (by (conv => whnf); (exact ⟨rfl, rfl⟩))⟩, ?_⟩
                  conv => whnf
                  refine ⟨_, ⟨rfl, rfl, (by (conv => whnf); (exact ⟨rfl, rfl⟩))⟩, ?_⟩
                  conv => whnf
                  obtain ⟨x_41, hx_41, h⟩ := bind_some h
                  refine ⟨_, ⟨rfl, rfl, (by (conv => whnf); (refine ixP_of hx_41 ?_); (conv => whnf); (exact ⟨rfl, rfl⟩))⟩, ?_⟩
                  conv => whnf
                  refine ⟨_, ⟨rfl, rfl, (by (conv => whnf); (exact ⟨rfl, rfl⟩))⟩, ?_⟩
                  conv => whnf
                  refine ⟨_, ⟨rfl, rfl, (by (conv => whnf); (refine lnS_map ?_); (conv => whnf); (exact ⟨rfl, rfl⟩))⟩, ?_⟩
                  conv => whnf
                  refine ⟨_, (fun H => by (conv => whnf); (exact ⟨rfl, rfl⟩)), ?_⟩
                  conv => whnf
                  refine ⟨_, (fun H => by (conv => whnf); (exact ⟨rfl, rfl⟩)), ?_⟩
                  conv => whnf
                  cases h
                  exact Wk.mk2 [0, 1, 2, 3, 6, 7, 4, 5] 8 rfl rfl (by decide) rfl ⟨⟨rfl, rfl⟩, ⟨rfl, rfl⟩, ⟨rfl, rfl⟩, ⟨rfl, (by first | rfl | (simp only [↓hb4, ↓hb32, ↓hb37, ↓hb40, cond_true, cond_false, Bool.true_or, Bool.or_true, Bool.false_or, Bool.or_false, Bool.true_and, Bool.and_true, Bool.false_and, Bool.and_false, Bool.not_true, Bool.not_false]; done) | (simp only [↓hb4, ↓hb32, ↓hb37, ↓hb40, cond_true, cond_false, Bool.true_or, Bool.or_true, Bool.false_or, Bool.or_false, Bool.true_and, Bool.and_true, Bool.false_and, Bool.and_false, Bool.not_true, Bool.not_false]; rfl))⟩, ⟨rfl, rfl⟩, ⟨rfl, rfl⟩, daS_d rfl, daS_d rfl, trivial⟩ ⟨⟨rfl, rfl⟩, ⟨rfl, rfl⟩, ⟨rfl, rfl⟩, ⟨rfl, (by first | rfl | (simp only [↓hb4, ↓hb32, ↓hb37, ↓hb40, cond_true, cond_false, Bool.true_or, Bool.or_true, Bool.false_or, Bool.or_false, Bool.true_and, Bool.and_true, Bool.false_and, Bool.and_false, Bool.not_true, Bool.not_false]; done) | (simp only [↓hb4, ↓hb32, ↓hb37, ↓hb40, cond_true, cond_false, Bool.true_or, Bool.or_true, Bool.false_or, Bool.or_false, Bool.true_and, Bool.and_true, Bool.false_and, Bool.and_false, Bool.not_true, Bool.not_false]; rfl))⟩, ⟨rfl, (by first | rfl | (simp only [↓hb4, ↓hb32, ↓hb37, ↓hb40, cond_true, cond_false, Bool.true_or, Bool.or_true, Bool.false_or, Bool.or_false, Bool.true_and, Bool.and_true, Bool.false_and, Bool.and_false, Bool.not_true, Bool.not_false]; done) | (simp only [↓hb4, ↓hb32, ↓hb37, ↓hb40, cond_true, cond_false, Bool.true_or, Bool.or_true, Bool.false_or, Bool.or_false, Bool.true_and, Bool.and_true, Bool.false_and, Bool.and_false, Bool.not_true, Bool.not_false]; rfl))⟩, ⟨rfl, rfl⟩, ⟨rfl, rfl⟩, ⟨rfl, rfl⟩, ⟨rfl, rfl⟩, trivial⟩
                · conv => whnf
                  refine ⟨_, (fun H => by (conv => whnf); (exact ⟨rfl, rfl⟩)), ?_⟩
                  conv => whnf
                  cases h
                  exact Wk.mk2 [0, 1, 2, 3, 6, 7, 4, 5] 8 rfl rfl (by decide) rfl ⟨⟨rfl, rfl⟩, ⟨rfl, rfl⟩, ⟨rfl, rfl⟩, ⟨rfl, (by first | rfl | (simp only [↓hb4, ↓hb32, ↓hb37, ↓hb40, cond_true, cond_false, Bool.true_or, Bool.or_true, Bool.false_or, Bool.or_false, Bool.true_and, Bool.and_true, Bool.false_and, Bool.and_false, Bool.not_true, Bool.not_false]; done) | (simp only [↓hb4, ↓hb32, ↓hb37, ↓hb40, cond_true, cond_false, Bool.true_or, Bool.or_true, Bool.false_or, Bool.or_false, Bool.true_and, Bool.and_true, Bool.false_and, Bool.and_false, Bool.not_true, Bool.not_false]; rfl))⟩, ⟨rfl, rfl⟩, ⟨rfl, rfl⟩, daS_d rfl, daS_d rfl, trivial⟩ ⟨⟨rfl, rfl⟩, ⟨rfl, rfl⟩, ⟨rfl, rfl⟩, ⟨rfl, (by first | rfl | (simp only [↓hb4, ↓hb32, ↓hb37, ↓hb40, cond_true, cond_false, Bool.true_or, Bool.or_true, Bool.false_or, Bool.or_false, Bool.true_and, Bool.and_true, Bool.false_and, Bool.and_false, Bool.not_true, Bool.not_false]; done) | (simp only [↓hb4, ↓hb32, ↓hb37, ↓hb40, cond_true, cond_false, Bool.true_or, Bool.or_true, Bool.false_or, Bool.or_false, Bool.true_and, Bool.and_true, Bool.false_and, Bool.and_false, Bool.not_true, Bool.not_false]; rfl))⟩, ⟨rfl, (by first | rfl | (simp only [↓hb4, ↓hb32, ↓hb37, ↓hb40, cond_true, cond_false, Bool.true_or, Bool.or_true, Bool.false_or, Bool.or_false, Bool.true_and, Bool.and_true, Bool.false_and, Bool.and_false, Bool.not_true, Bool.not_false]; done) | (simp only [↓hb4, ↓hb32, ↓hb37, ↓hb40, cond_true, cond_false, Bool.true_or, Bool.or_true, Bool.false_or, Bool.or_false, Bool.true_and, Bool.and_true, Bool.false_and, Bool.and_false, Bool.not_true, Bool.not_false]; rfl))⟩, ⟨rfl, rfl⟩, ⟨rfl, rfl⟩, ⟨rfl, rfl⟩, ⟨rfl, rfl⟩, trivial⟩
              · clear hv39
                conv => whnf
                refine Tr.weak hw ?_
                refine Tr.cond ?_
                conv => whnf
                refine condS_bif h (fun hb42 h => ?_) (fun hb42 h => ?_)
                · refine Tr.seq ?_
                  refine Tr.draw (DrawP.seqQ layOK mixed [(11, 8)] [(0, 7), (1, 7), (2, 6), (3, 6), (4, 2), (5, 2), (6, 8), (7, 8), (8, 2), (9, 2), (10, 0), (11, 0)] (by kernel_rfl) ?_)
                  conv => whnf
                  refine ⟨_, ⟨rfl, rfl, (by (conv => whnf); (exact ⟨rfl, rfl⟩))⟩, ?_⟩
                  conv => whnf
                  refine ⟨_, ⟨rfl, rfl, (by (conv => whnf); (exact ⟨rfl, rfl⟩))⟩, ?_⟩
                  conv => whnf
                  refine ⟨_, ⟨rfl, rfl, (by (conv => whnf); (exact ⟨rfl, rfl⟩))⟩, ?_⟩
                  conv => whnf
                  refine ⟨_, ⟨rfl, rfl, (by (conv => whnf); (exact ⟨rfl, rfl⟩))⟩, ?_⟩
                  conv => whnf
                  obtain ⟨x_43, hx_43, h⟩ := bind_some h
                  refine ⟨_, ⟨rfl, rfl, (by (conv => whnf); (refine ixP_of hx_43 ?_); (conv => whnf); (exact ⟨rfl, rfl⟩))⟩, ?_⟩
                  conv => whnf
                  refine ⟨_, ⟨rfl, rfl, (by (conv => whnf); (exact ⟨rfl, rfl⟩))⟩, ?_⟩
                  conv => whnf
                  refine ⟨_, ⟨rfl, rfl, (by (conv => whnf); (exact ⟨rfl, rfl⟩))⟩, ?_⟩
                  conv => whnf
                  refine ⟨_, ⟨rfl, rfl, (by (conv => whnf); (exact ⟨rfl, rfl⟩))⟩, ?_⟩
                  conv => whnf
                  obtain ⟨x_44, hx_44, h⟩ := bind_some h
                  refine ⟨_, ⟨rfl, rfl, (by (conv => whnf); (refine ixP_of hx_44 ?_); (conv => whnf); (exact ⟨rfl, rfl⟩))⟩, ?_⟩
                  conv => whnf
                  refine ⟨_, ⟨rfl, rfl, (by (conv => whnf); (exact ⟨rfl, rfl⟩))⟩, ?_⟩
                  conv => whnf
                  refine ⟨_, _, (by (conv => whnf); (exact ⟨rfl, rfl⟩)), kp_ok (by repeat (first | exact trivial | refine ⟨trivial, ?_⟩ | refine ⟨rfl, ?_⟩)), ?_⟩
                  conv => whnf
                  refine ⟨_, _, (by (conv => whnf); (exact ⟨rfl, rfl⟩)), kp_ok (by repeat (first | exact trivial | refine ⟨trivial, ?_⟩ | refine ⟨rfl, ?_⟩)), ?_⟩
                  conv => whnf
                  refine Tr.seq ?_
                  refine Tr.region layOK ?_
                  conv => whnf
                  refine Tr.cond ?_
                  conv => whnf
                  refine condS_bif h (fun hb45 h => ?_) (fun hb45 h => ?_)
                  · refine Tr.draw (DrawP.seqQ layOK mixed [(3, 1), (7, 5)] [(0, 11), (1, 11), (2, 1), (3, 0), (4, 1), (5, 1), (6, 8), (7, 0)] (by kernel_rfl) ?_)
                    conv => whnf
                    refine ⟨_, ⟨rfl, rfl, (by (conv => whnf); (exact ⟨rfl, rfl⟩))⟩, ?_⟩
                    conv => whnf
                    refine ⟨_, ⟨rfl, rfl, (by (conv => whnf); (exact ⟨rfl, rfl⟩))⟩, ?_⟩
                    conv => whnf
                    refine ⟨_, (fun H => by (conv => whnf); (exact ⟨rfl, rfl⟩)), ?_⟩
                    conv => whnf
                    obtain ⟨⟨r_46, b_47⟩, hc48, h⟩ := bind_some h
                    refine ⟨_, _, (by (conv => whnf); (refine MC.ecall (s_stopwatchlaw25_history_1 v_26 picks_2 r_46 b_47 hc48) [1, 2] (by decide) rfl rfl ?_ (fun rs Bs1 hrs => ?_)); (· exact ⟨⟨rfl, rfl⟩, ⟨rfl, rfl⟩, trivial⟩); (obtain ⟨rfl, rfl⟩ := hrs); (conv => whnf); (exact ⟨rfl, rfl⟩)), kp_ok (by repeat (first | exact trivial | refine ⟨trivial, ?_⟩ | refine ⟨rfl, ?_⟩)), ?_⟩
                    conv => whnf
                    refine ⟨_, (fun H => by (conv => whnf); (exact ⟨rfl, rfl⟩)), ?_⟩
                    conv => whnf
                    refine ⟨_, (fun H => by (conv => whnf); (refine arS_raw ?_); (conv => whnf); (exact ⟨rfl, rfl⟩)), ?_⟩
                    conv => whnf
                    refine ⟨_, ⟨rfl, rfl, (by (conv => whnf); (exact ⟨rfl, rfl⟩))⟩, ?_⟩
                    conv => whnf
                    refine ⟨_, _, (by (conv => whnf); (exact ⟨rfl, rfl⟩)), kp_ok (by repeat (first | exact trivial | refine ⟨trivial, ?_⟩ | refine ⟨rfl, ?_⟩)), ?_⟩
                    conv => whnf
                    refine Tr.region layOK ?_
                    conv => whnf
                    refine orB_r ?_
                    conv => whnf
                    refine frP_no ?_
                    conv => whnf
                    refine eqS_mk (by first | rfl | simp) ?_
                    conv => whnf
                    obtain ⟨l_49, hl_49, h⟩ := bind_some h
                    refine apS_of hl_49 (apq_map (f := eTChoice) (l := (([({ Outcome := (bitK .i64 (BitVec.ofInt 64 0 &&& BitVec.ofInt 64 3)), X := (w64 (x_44.Lo + (bitK .i64 (BitVec.ofInt 64 r_46 &&& BitVec.ofInt 64 3)))) } : TChoice)] : List TChoice))) fun _ => rfl) (by first | rfl | simp) (by first | rfl | simp) (fun he => ?_)
                    conv => whnf
                    refine reS_mk (es' := List.map .d (List.map eTChoice l_49)) (n' := List.length l_49) (by subst he; simp only [List.map_append, List.map_cons, List.map_nil, List.nil_append]; first | done | rfl) (by subst he; simp <;> omega) ?_
                    clear he
                    conv => whnf
                    refine orB_l ?_
                    conv => whnf
                    cases h
                    exact Wk.mk2 [0, 1, 2, 3, 6, 9] 10 rfl rfl (by decide) rfl ⟨⟨rfl, rfl⟩, ⟨rfl, rfl⟩, ⟨rfl, rfl⟩, ⟨rfl, (by first | rfl | (simp only [↓hb4, ↓hb32, ↓hb37, ↓hb42, ↓hb45, cond_true, cond_false, Bool.true_or, Bool.or_true, Bool.false_or, Bool.or_false, Bool.true_and, Bool.and_true, Bool.false_and, Bool.and_false, Bool.not_true, Bool.not_false]; done) | (simp only [↓hb4, ↓hb32, ↓hb37, ↓hb42, ↓hb45, cond_true, cond_false, Bool.true_or, Bool.or_true, Bool.false_or, Bool.or_false, Bool.true_and, Bool.and_true, Bool.false_and, Bool.and_false, Bool.not_true, Bool.not_false]; rfl))⟩, daS_d rfl, daS_d rfl, trivial⟩ ⟨⟨rfl, rfl⟩, ⟨rfl, rfl⟩, ⟨rfl, rfl⟩, ⟨rfl, rfl⟩, ⟨rfl, rfl⟩, ⟨rfl, rfl⟩, trivial⟩
                  · refine Tr.skip ?_
                    conv => whnf
                    refine Tr.region layOK ?_
                    conv => whnf
                    refine orB_r ?_
                    conv => whnf
                    refine frP_no ?_
                    conv => whnf
                    refine eqS_mk (by first | rfl | simp) ?_
                    conv => whnf
                    obtain ⟨l_50, hl_50, h⟩ := bind_some h
                    refine apS_of hl_50 (apq_map (f := eTChoice) (l := (([({ Outcome := (bitK .i64 (BitVec.ofInt 64 0 &&& BitVec.ofInt 64 3)), X := 0 } : TChoice)] : List TChoice))) fun _ => rfl) (by first | rfl | simp) (by first | rfl | simp) (fun he => ?_)
                    conv => whnf
                    refine reS_mk (es' := List.map .d (List.map eTChoice l_50)) (n' := List.length l_50) (by subst he; simp only [List.map_append, List.map_cons, List.map_nil, List.nil_append]; first | done | rfl) (by subst he; simp <;> omega) ?_
                    clear he
                    conv => whnf
                    refine orB_l ?_
                    conv => whnf
                    cases h
                    exact Wk.mk2 [0, 1, 2, 3, 6, 9] 10 rfl rfl (by decide) rfl ⟨⟨rfl, rfl⟩, ⟨rfl, rfl⟩, ⟨rfl, rfl⟩, ⟨rfl, (by first | rfl | (simp only [↓hb4, ↓hb32, ↓hb37, ↓hb42, ↓hb45, cond_true, cond_false, Bool.true_or, Bool.or_true, Bool.false_or, Bool.or_false, Bool.true_and, Bool.and_true, Bool.false_and, Bool.and_false, Bool.not_true, Bool.not_false]; done) | (simp only [↓hb4, ↓hb32, ↓hb37, ↓hb42, ↓hb45, cond_true, cond_false, Bool.true_or, Bool.or_true, Bool.false_or, Bool.or_false, Bool.true_and, Bool.and_true, Bool.false_and, Bool.and_false, Bool.not_true, Bool.not_false]; rfl))⟩, daS_d rfl, daS_d rfl, trivial⟩ ⟨⟨rfl, rfl⟩, ⟨rfl, rfl⟩, ⟨rfl, rfl⟩, ⟨rfl, rfl⟩, ⟨rfl, rfl⟩, ⟨rfl, rfl⟩, trivial⟩
                · refine Tr.skip ?_
                  conv => whnf
                  refine Tr.region layOK ?_
                  conv => whnf
                  refine orB_r ?_
                  conv => whnf
                  refine frP_no ?_
                  conv => whnf
                  refine eqS_mk (by first | rfl | simp) ?_
                  conv => whnf
                  obtain ⟨l_51, hl_51, h⟩ := bind_some h
                  refine apS_of hl_51 (apq_map (f := eTChoice) (l := (([({ Outcome := (bitK .i64 (BitVec.ofInt 64 0 &&& BitVec.ofInt 64 3)), X := 0 } : TChoice)] : List TChoice))) fun _ => rfl) (by first | rfl | simp) (by first | rfl | simp) (fun he => ?_)
                  conv => whnf
                  refine reS_mk (es' := List.map .d (List.map eTChoice l_51)) (n' := List.length l_51) (by subst he; simp only [List.map_append, List.map_cons, List.map_nil, List.nil_append]; first | done | rfl) (by subst he; simp <;> omega) ?_
                  clear he
                  conv => whnf
                  refine orB_l ?_
                  conv => whnf
                  cases h
                  exact Wk.mk2 [0, 1, 2, 3, 6, 8] 9 rfl rfl (by decide) rfl ⟨⟨rfl, rfl⟩, ⟨rfl, rfl⟩, ⟨rfl, rfl⟩, ⟨rfl, (by first | rfl | (simp only [↓hb4, ↓hb32, ↓hb37, ↓hb42, cond_true, cond_false, Bool.true_or, Bool.or_true, Bool.false_or, Bool.or_false, Bool.true_and, Bool.and_true, Bool.false_and, Bool.and_false, Bool.not_true, Bool.not_false]; done) | (simp only [↓hb4, ↓hb32, ↓hb37, ↓hb42, cond_true, cond_false, Bool.true_or, Bool.or_true, Bool.false_or, Bool.or_false, Bool.true_and, Bool.and_true, Bool.false_and, Bool.and_false, Bool.not_true, Bool.not_false]; rfl))⟩, daS_d rfl, daS_d rfl, trivial⟩ ⟨⟨rfl, rfl⟩, ⟨rfl, rfl⟩, ⟨rfl, rfl⟩, ⟨rfl, rfl⟩, ⟨rfl, rfl⟩, ⟨rfl, rfl⟩, trivial⟩
            · refine Tr.skip ?_
              conv => whnf
              refine Tr.seq ?_
              refine Tr.region layOK ?_
              conv => whnf
              refine arS_raw ?_
              conv => whnf
              refine Tr.seq ?_
              refine Tr.region layOK ?_
              conv => whnf
              refine arS_raw ?_
              conv => whnf
              obtain ⟨x_52, hx_52, h⟩ := bind_some h
              refine ixP_of hx_52 ?_
              conv => whnf
              refine Tr.ret ?_
              conv => whnf
              refine Tr.seq ?_
              refine Tr.seq ?_
              obtain ⟨v_53, hv54, h⟩ := bind_some h
              refine Tr.cutQ1 ([(4, .pt 0 0), (6, .fn 45 [.pt 1 0, .pt 2 0]), (7, .pt 3 0), (9, .pt 4 0), (10, .pt 5 0), (32, .d (.ls (List.map eTRunner f_1.Runners))), (33, .d (.i .i64 (((f_1.Runners).length : Int)))), (34, .d (.i .i64 v_25)), (59, .d (.b v_53))]) ([some (.var [.d (.i .i64 0), .nsl, .nsl]), some (.var [.d (.i .i64 (w64 (v_26 + 1)))]), some (.var [.d (.ls (List.map eI picks_2))]), some (.var [.d (.i .i64 (bitK .i64 (BitVec.ofInt 64 0 &&& BitVec.ofInt 64 3))), .sl 6 1 0 (List.length l_13), .sl 7 2 0 (List.length l_27)]), some (.var [.d (.i .i64 x_36.Bib), .d (.ls (List.map eI x_36.Keys)), .d (.ls (List.map (eL eTOutcome) x_36.Worlds))]), some (.var [.d (.i .i64 (bitK .i64 (BitVec.ofInt 64 x_52 &&& BitVec.ofInt 64 3))), .d (.i .i64 0)]), some (.arr 1 (List.map .d (List.map eI l_13))), some (.arr 2 (List.map .d (List.map eTChoice l_27)))]) ?_ (fun T1 H1 hw => ?_)
              · replace h := hv54; clear hv54
                refine Tr.draw (DrawP.seqQ layOK mixed [] [(0, 6), (1, 6), (2, 9), (3, 9), (4, 2), (5, 1), (6, 1), (7, 10), (8, 10), (9, 9), (10, 9), (11, 6), (12, 6), (13, 2), (14, 2), (15, 2), (16, 1), (17, 1)] (by kernel_rfl) ?_)
                conv => whnf
                refine ⟨_, ⟨rfl, rfl, (by (conv => whnf); (exact ⟨rfl, rfl⟩))⟩, ?_⟩
                conv => whnf
                refine ⟨_, ⟨rfl, rfl, (by (conv => whnf); (exact ⟨rfl, rfl⟩))⟩, ?_⟩
                conv => whnf
                refine ⟨_, ⟨rfl, rfl, (by (conv => whnf); (exact ⟨rfl, rfl⟩))⟩, ?_⟩
                conv => whnf
                refine ⟨_, ⟨rfl, rfl, (by (conv => whnf); (exact ⟨rfl, rfl⟩))⟩, ?_⟩
                conv => whnf
                refine ⟨_, ⟨rfl, rfl, (by (conv => whnf); (refine lnS_map ?_); (conv => whnf); (exact ⟨rfl, rfl⟩))⟩, ?_⟩
                conv => whnf
                refine ⟨_, (fun H => by (conv => whnf); (exact ⟨rfl, rfl⟩)), ?_⟩
                conv => whnf
                refine ⟨_, (fun H => by (conv => whnf); (exact ⟨rfl, rfl⟩)), ?_⟩
                conv => whnf
                refine condS_bif h (fun hb55 h => ?_) (fun hb55 h => ?_)
                · conv => whnf
                  refine ⟨_, ⟨rfl, rfl, (by (conv => whnf); (exact ⟨rfl, rfl⟩))⟩, ?_⟩
                  conv => whnf
                  refine ⟨_, ⟨rfl, rfl, (by (conv => whnf); (exact ⟨rfl, rfl⟩))⟩, ?_⟩
                  conv => whnf
                  refine ⟨_, ⟨rfl, rfl, (by (conv => whnf); (exact ⟨rfl, rfl⟩))⟩, ?_⟩
                  conv => whnf
                  refine ⟨_, ⟨rfl, rfl, (by (conv => whnf); (exact ⟨rfl, rfl⟩))⟩, ?_⟩
                  conv => whnf
                  refine ⟨_, ⟨rfl, rfl, (by (conv => whnf); (exact ⟨rfl, rfl⟩))⟩, ?_⟩
                  conv => whnf
                  refine ⟨_, ⟨rfl, rfl, (by (conv => whnf); (exact ⟨rfl, rfl⟩))⟩, ?_⟩
                  conv => whnf
                  obtain ⟨x_56, hx_56, h⟩ := bind_some h
                  refine ⟨_, ⟨rfl, rfl, (by (conv => whnf); (refine ixP_of hx_56 ?_); (conv => whnf); (exact ⟨rfl, rfl⟩))⟩, ?_⟩
                  conv => whnf
                  refine ⟨_, ⟨rfl, rfl, (by (conv => whnf); (exact ⟨rfl, rfl⟩))⟩, ?_⟩
                  conv => whnf
                  refine ⟨_, ⟨rfl, rfl, (by (conv => whnf); (refine lnS_map ?_); (conv => whnf); (exact ⟨rfl, rfl⟩))⟩, ?_⟩
                  conv => whnf
                  refine ⟨_, (fun H => by (conv => whnf); (exact ⟨rfl, rfl⟩)), ?_⟩
                  conv => whnf
                  refine ⟨_, (fun H => by (conv => whnf); (exact ⟨rfl, rfl⟩)), ?_⟩
                  conv => whnf
                  cases h
                  exact Wk.mk2 [0, 1, 2, 3, 6, 7, 4, 5] 8 rfl rfl (by decide) rfl ⟨⟨rfl, rfl⟩, ⟨rfl, rfl⟩, ⟨rfl, rfl⟩, ⟨rfl, (by first | rfl | (simp only [↓hb4, ↓hb32, ↓hb37, ↓hb55, cond_true, cond_false, Bool.true_or, Bool.or_true, Bool.false_or, Bool.or_false, Bool.true_and, Bool.and_true, Bool.false_and, Bool.and_false, Bool.not_true, Bool.not_false]; done) | (simp only [↓hb4, ↓hb32, ↓hb37, ↓hb55, cond_true, cond_false, Bool.true_or, Bool.or_true, Bool.false_or, Bool.or_false, Bool.true_and, Bool.and_true, Bool.false_and, Bool.and_false, Bool.not_true, Bool.not_false]; rfl))⟩, ⟨rfl, rfl⟩, ⟨rfl, rfl⟩, daS_d rfl, daS_d rfl, trivial⟩ ⟨⟨rfl, rfl⟩, ⟨rfl, rfl⟩, ⟨rfl, rfl⟩, ⟨rfl, (by first | rfl | (simp only [↓hb4, ↓hb32, ↓hb37, ↓hb55, cond_true, cond_false, Bool.true_or, Bool.or_true, Bool.false_or, Bool.or_false, Bool.true_and, Bool.and_true, Bool.false_and, Bool.and_false, Bool.not_true, Bool.not_false]; done) | (simp only [↓hb4, ↓hb32, ↓hb37, ↓hb55, cond_true, cond_false, Bool.true_or, Bool.or_true, Bool.false_or, Bool.or_false, Bool.true_and, Bool.and_true, Bool.false_and, Bool.and_false, Bool.not_true, Bool.not_false]; rfl))⟩, ⟨rfl, (by first | rfl | (simp only [↓hb4, ↓hb32, ↓hb37, ↓hb55, cond_true, cond_false, Bool.true_or, Bool.or_true, Bool.false_or, Bool.or_false, Bool.true_and, Bool.and_true, Bool.false_and, Bool.and_false, Bool.not_true, Bool.not_false]; done) | (simp only [↓hb4, ↓hb32, ↓hb37, ↓hb55, cond_true, cond_false, Bool.true_or, Bool.or_true, Bool.false_or, Bool.or_false, Bool.true_and, Bool.and_true, Bool.false_and, Bool.and_false, Bool.not_true, Bool.not_false]; rfl))⟩, ⟨rfl, rfl⟩, ⟨rfl, rfl⟩, ⟨rfl, rfl⟩, ⟨rfl, rfl⟩, trivial⟩
                · conv => whnf
                  refine ⟨_, (fun H => by (conv => whnf); (exact ⟨rfl, rfl⟩)), ?_⟩
                  conv => whnf
                  cases h
                  exact Wk.mk2 [0, 1, 2, 3, 6, 7, 4, 5] 8 rfl rfl (by decide) rfl ⟨⟨rfl, rfl⟩, ⟨rfl, rfl⟩, ⟨rfl, rfl⟩, ⟨rfl, (by first | rfl | (simp only [↓hb4, ↓hb32, ↓hb37, ↓hb55, cond_true, cond_false, Bool.true_or, Bool.or_true, Bool.false_or, Bool.or_false, Bool.true_and, Bool.and_true, Bool.false_and, Bool.and_false, Bool.not_true, Bool.not_false]; done) | (simp only [↓hb4, ↓hb32, ↓hb37, ↓hb55, cond_true, cond_false, Bool.true_or, Bool.or_true, Bool.false_or, Bool.or_false, Bool.true_and, Bool.and_true, Bool.false_and, Bool.and_false, Bool.not_true, Bool.not_false]; rfl))⟩, ⟨rfl, rfl⟩, ⟨rfl, rfl⟩, daS_d rfl, daS_d rfl, trivial⟩ ⟨⟨rfl, rfl⟩, ⟨rfl, rfl⟩, ⟨rfl, rfl⟩, ⟨rfl, (by first | rfl | (simp only [↓hb4, ↓hb32, ↓hb37, ↓hb55, cond_true, cond_false, Bool.true_or, Bool.or_true, Bool.false_or, Bool.or_false, Bool.true_and, Bool.and_true, Bool.false_and, Bool.and_false, Bool.not_true, Bool.not_false]; done) | (simp only [↓hb4, ↓hb32, ↓hb37, ↓hb55, cond_true, cond_false, Bool.true_or, Bool.or_true, Bool.false_or, Bool.or_false, Bool.true_and, Bool.and_true, Bool.false_and, Bool.and_false, Bool.not_true, Bool.not_false]; rfl))⟩, ⟨rfl, (by first | rfl | (simp only [↓hb4, ↓hb32, ↓hb37, ↓hb55, cond_true, cond_false, Bool.true_or, Bool.or_true, Bool.false_or, Bool.or_false, Bool.true_and, Bool.and_true, Bool.false_and, Bool.and_false, Bool.not_true, Bool.not_false]; done) | (simp only [↓hb4, ↓hb32, ↓hb37, ↓hb55, cond_true, cond_false, Bool.true_or, Bool.or_true, Bool.false_or, Bool.or_false, Bool.true_and, Bool.and_true, Bool.false_and, Bool.and_false, Bool.not_true, Bool.not_false]; rfl))⟩, ⟨rfl, rfl⟩, ⟨rfl, rfl⟩, ⟨rfl, rfl⟩, ⟨rfl, rfl⟩, trivial⟩
              · clear hv54
                conv => whnf
                refine Tr.weak hw ?_
                refine Tr.cond ?_
                conv => whnf
                refine condS_bif h (fun hb57 h => ?_) (fun hb57 h => ?_)
                · refine Tr.seq ?_
                  refine Tr.draw (DrawP.seqQ layOK mixed [(11, 8)] [(0, 7), (1, 7), (2, 6), (3, 6), (4, 2), (5, 2), (6, 8), (7, 8), (8, 2), (9, 2), (10, 0), (11, 0)] (by kernel_rfl) ?_)
                  conv => whnf
                  refine ⟨_, ⟨rfl, rfl, (by (conv => whnf); (exact ⟨rfl, rfl⟩))⟩, ?_⟩
                  conv => whnf
                  refine ⟨_, ⟨rfl, rfl, (by (conv => whnf); (exact ⟨rfl, rfl⟩))⟩, ?_⟩
                  conv => whnf
                  refine ⟨_, ⟨rfl, rfl, (by (conv => whnf); (exact ⟨rfl, rfl⟩))⟩, ?_⟩
                  conv => whnf
                  refine ⟨_, ⟨rfl, rfl, (by (conv => whnf); (exact ⟨rfl, rfl⟩))⟩, ?_⟩
                  conv => whnf
                  obtain ⟨x_58, hx_58, h⟩ := bind_some h
                  refine ⟨_, ⟨rfl, rfl, (by (conv => whnf); (refine ixP_of hx_58 ?_); (conv => whnf); (exact ⟨rfl, rfl⟩))⟩, ?_⟩
                  conv => whnf
                  refine ⟨_, ⟨rfl, rfl, (by (conv => whnf); (exact ⟨rfl, rfl⟩))⟩, ?_⟩
                  conv => whnf
                  refine ⟨_, ⟨rfl, rfl, (by (conv => whnf); (exact ⟨rfl, rfl⟩))⟩, ?_⟩
                  conv => whnf
                  refine ⟨_, ⟨rfl, rfl, (by (conv => whnf); (exact ⟨rfl, rfl⟩))⟩, ?_⟩
                  conv => whnf
                  obtain ⟨x_59, hx_59, h⟩ := bind_some h
                  refine ⟨_, ⟨rfl, rfl, (by (conv => whnf); (refine ixP_of hx_59 ?_); (conv => whnf); (exact ⟨rfl, rfl⟩))⟩, ?_⟩
                  conv => whnf
                  refine ⟨_, ⟨rfl, rfl, (by (conv => whnf); (exact ⟨rfl, rfl⟩))⟩, ?_⟩
                  conv => whnf
                  refine ⟨_, _, (by (conv => whnf); (exact ⟨rfl, rfl⟩)), kp_ok (by repeat (first | exact trivial | refine ⟨trivial, ?_⟩ | refine ⟨rfl, ?_⟩)), ?_⟩
                  conv => whnf
                  refine ⟨_, _, (by (conv => whnf); (exact ⟨rfl, rfl⟩)), kp_ok (by repeat (first | exact trivial | refine ⟨trivial, ?_⟩ | refine ⟨rfl, ?_⟩)), ?_⟩
                  conv => whnf
                  refine Tr.seq ?_
                  refine Tr.region layOK ?_
                  conv => whnf
                  refine Tr.cond ?_
                  conv => whnf
                  refine condS_bif h (fun hb60 h => ?_) (fun hb60 h => ?_)
                  · refine Tr.draw (DrawP.seqQ layOK mixed [(3, 1), (7, 5)] [(0, 11), (1, 11), (2, 1), (3, 0), (4, 1), (5, 1), (6, 8), (7, 0)] (by kernel_rfl) ?_)
                    conv => whnf
                    refine ⟨_, ⟨rfl, rfl, (by (conv => whnf); (exact ⟨rfl, rfl⟩))⟩, ?_⟩
                    conv => whnf
                    refine ⟨_, ⟨rfl, rfl, (by (conv => whnf); (exact ⟨rfl, rfl⟩))⟩, ?_⟩
                    conv => whnf
                    refine ⟨_, (fun H => by (conv => whnf); (exact ⟨rfl, rfl⟩)), ?_⟩
                    conv => whnf
                    obtain ⟨⟨r_61, b_62⟩, hc63, h⟩ := bind_some h
                    refine ⟨_, _, (by (conv => whnf); (refine MC.ecall (s_stopwatchlaw25_history_1 ((w64 (v_26 + 1))) picks_2 r_61 b_62 hc63) [1, 2] (by decide) rfl rfl ?_ (fun rs Bs1 hrs => ?_)); (· exact ⟨⟨rfl, rfl⟩, ⟨rfl, rfl⟩, trivial⟩); (obtain ⟨rfl, rfl⟩ := hrs); (conv => whnf); (exact ⟨rfl, rfl⟩)), kp_ok (by repeat (first | exact trivial | refine ⟨trivial, ?_⟩ | refine ⟨rfl, ?_⟩)), ?_⟩
                    conv => whnf
                    refine ⟨_, (fun H => by (conv => whnf); (exact ⟨rfl, rfl⟩)), ?_⟩
                    conv => whnf
                    refine ⟨_, (fun H => by (conv => whnf); (refine arS_raw ?_); (conv => whnf); (exact ⟨rfl, rfl⟩)), ?_⟩
                    conv => whnf
                    refine ⟨_, ⟨rfl, rfl, (by (conv => whnf); (exact ⟨rfl, rfl⟩))⟩, ?_⟩
                    conv => whnf
                    refine ⟨_, _, (by (conv => whnf); (exact ⟨rfl, rfl⟩)), kp_ok (by repeat (first | exact trivial | refine ⟨trivial, ?_⟩ | refine ⟨rfl, ?_⟩)), ?_⟩
                    conv => whnf
                    refine Tr.region layOK ?_
                    conv => whnf
                    refine orB_r ?_
                    conv => whnf
                    refine frP_no ?_
                    conv => whnf
                    refine eqS_mk (by first | rfl | simp) ?_
                    conv => whnf
                    obtain ⟨l_64, hl_64, h⟩ := bind_some h
                    refine apS_of hl_64 (apq_map (f := eTChoice) (l := (([({ Outcome := (bitK .i64 (BitVec.ofInt 64 x_52 &&& BitVec.ofInt 64 3)), X := (w64 (x_59.Lo + (bitK .i64 (BitVec.ofInt 64 r_61 &&& BitVec.ofInt 64 3)))) } : TChoice)] : List TChoice))) fun _ => rfl) (by first | rfl | simp) (by first | rfl | simp) (fun he => ?_)
                    conv => whnf
                    refine reS_mk (es' := List.map .d (List.map eTChoice l_64)) (n' := List.length l_64) (by subst he; simp only [List.map_append, List.map_cons, List.map_nil, List.nil_append]; first | done | rfl) (by subst he; simp <;> omega) ?_
                    clear he
                    conv => whnf
                    refine orB_l ?_
                    conv => whnf
                    cases h
                    exact Wk.mk2 [0, 1, 2, 3, 6, 9] 10 rfl rfl (by decide) rfl ⟨⟨rfl, rfl⟩, ⟨rfl, rfl⟩, ⟨rfl, rfl⟩, ⟨rfl, (by first | rfl | (simp only [↓hb4, ↓hb32, ↓hb37, ↓hb57, ↓hb60, cond_true, cond_false, Bool.true_or, Bool.or_true, Bool.false_or, Bool.or_false, Bool.true_and, Bool.and_true, Bool.false_and, Bool.and_false, Bool.not_true, Bool.not_false]; done) | (simp only [↓hb4, ↓hb32, ↓hb37, ↓hb57, ↓hb60, cond_true, cond_false, Bool.true_or, Bool.or_true, Bool.false_or, Bool.or_false, Bool.true_and, Bool.and_true, Bool.false_and, Bool.and_false, Bool.not_true, Bool.not_false]; rfl))⟩, daS_d rfl, daS_d rfl, trivial⟩ ⟨⟨rfl, rfl⟩, ⟨rfl, rfl⟩, ⟨rfl, rfl⟩, ⟨rfl, rfl⟩, ⟨rfl, rfl⟩, ⟨rfl, rfl⟩, trivial⟩
                  · refine Tr.skip ?_
                    conv => whnf
                    refine Tr.region layOK ?_
                    conv => whnf
                    refine orB_r ?_
                    conv => whnf
                    refine frP_no ?_
                    conv => whnf
                    refine eqS_mk (by first | rfl | simp) ?_
                    conv => whnf
                    obtain ⟨l_65, hl_65, h⟩ := bind_some h
                    refine apS_of hl_65 (apq_map (f := eTChoice) (l := (([({ Outcome := (bitK .i64 (BitVec.ofInt 64 x_52 &&& BitVec.ofInt 64 3)), X := 0 } : TChoice)] : List TChoice))) fun _ => rfl) (by first | rfl | simp) (by first | rfl | simp) (fun he => ?_)
                    conv => whnf
                    refine reS_mk (es' := List.map .d (List.map eTChoice l_65)) (n' := List.length l_65) (by subst he; simp only [List.map_append, List.map_cons, List.map_nil, List.nil_append]; first | done | rfl) (by subst he; simp <;> omega) ?_
                    clear he
                    conv => whnf
                    refine orB_l ?_
                    conv => whnf
                    cases h
                    exact Wk.mk2 [0, 1, 2, 3, 6, 9] 10 rfl rfl (by decide) rfl ⟨⟨rfl, rfl⟩, ⟨rfl, rfl⟩, ⟨rfl, rfl⟩, ⟨rfl, (by first | rfl | (simp only [↓hb4, ↓hb32, ↓hb37, ↓hb57, ↓hb60, cond_true, cond_false, Bool.true_or, Bool.or_true, Bool.false_or, Bool.or_false, Bool.true_and, Bool.and_true, Bool.false_and, Bool.and_false, Bool.not_true, Bool.not_false]; done) | (simp only [↓hb4, ↓hb32, ↓hb37, ↓hb57, ↓hb60, cond_true, cond_false, Bool.true_or, Bool.or_true, Bool.false_or, Bool.or_false, Bool.true_and, Bool.and_true, Bool.false_and, Bool.and_false, Bool.not_true, Bool.not_false]; rfl))⟩, daS_d rfl, daS_d rfl, trivial⟩ ⟨⟨rfl, rfl⟩, ⟨rfl, rfl⟩, ⟨rfl, rfl⟩, ⟨rfl, rfl⟩, ⟨rfl, rfl⟩, ⟨rfl, rfl⟩, trivial⟩
                · refine Tr.skip ?_
                  conv => whnf
                  refine Tr.region layOK ?_
                  conv => whnf
                  refine orB_r ?_
                  conv => whnf
                  refine frP_no ?_
                  conv => whnf
                  refine eqS_mk (by first | rfl | simp) ?_
                  conv => whnf
                  obtain ⟨l_66, hl_66, h⟩ := bind_some h
                  refine apS_of hl_66 (apq_map (f := eTChoice) (l := (([({ Outcome := (bitK .i64 (BitVec.ofInt 64 x_52 &&& BitVec.ofInt 64 3)), X := 0 } : TChoice)] : List TChoice))) fun _ => rfl) (by first | rfl | simp) (by first | rfl | simp) (fun he => ?_)
                  conv => whnf
                  refine reS_mk (es' := List.map .d (List.map eTChoice l_66)) (n' := List.length l_66) (by subst he; simp only [List.map_append, List.map_cons, List.map_nil, List.nil_append]; first | done | rfl) (by subst he; simp <;> omega) ?_
                  clear he
                  conv => whnf
                  refine orB_l ?_
                  conv => whnf
                  cases h
                  exact Wk.mk2 [0, 1, 2, 3, 6, 8] 9 rfl rfl (by decide) rfl ⟨⟨rfl, rfl⟩, ⟨rfl, rfl⟩, ⟨rfl, rfl⟩, ⟨rfl, (by first | rfl | (simp only [↓hb4, ↓hb32, ↓hb37, ↓hb57, cond_true, cond_false, Bool.true_or, Bool.or_true, Bool.false_or, Bool.or_false, Bool.true_and, Bool.and_true, Bool.false_and, Bool.and_false, Bool.not_true, Bool.not_false]; done) | (simp only [↓hb4, ↓hb32, ↓hb37, ↓hb57, cond_true, cond_false, Bool.true_or, Bool.or_true, Bool.false_or, Bool.or_false, Bool.true_and, Bool.and_true, Bool.false_and, Bool.and_false, Bool.not_true, Bool.not_false]; rfl))⟩, daS_d rfl, daS_d rfl, trivial⟩ ⟨⟨rfl, rfl⟩, ⟨rfl, rfl⟩, ⟨rfl, rfl⟩, ⟨rfl, rfl⟩, ⟨rfl, rfl⟩, ⟨rfl, rfl⟩, trivial⟩
          · clear hv35
            conv => whnf
            refine Tr.weak hw ?_
            refine Tr.region layOK ?_
            conv => whnf
            refine arS_raw ?_
            conv => whnf
            refine ⟨((w64 (v_25 + 1)), v_33, l_34), h, ?_⟩
            exact Wk.mk2 [0, 1, 2, 3, 4, 5] 6 rfl rfl (by decide) rfl ⟨⟨rfl, rfl⟩, ⟨rfl, rfl⟩, ⟨rfl, rfl⟩, ⟨rfl, rfl⟩, daS_d rfl, daS_d rfl, trivial⟩ ⟨⟨rfl, rfl⟩, ⟨rfl, rfl⟩, ⟨rfl, rfl⟩, ⟨rfl, rfl⟩, ⟨rfl, rfl⟩, ⟨rfl, rfl⟩, trivial⟩
        · refine Tr.exit ?_
          conv => whnf
          cases h
          exact Wk.mk2 [0, 3, 4, 5] 6 rfl rfl (by decide) rfl ⟨⟨rfl, rfl⟩, ⟨rfl, (by first | rfl | (simp only [↓hb4, ↓hb32, cond_true, cond_false, Bool.true_or, Bool.or_true, Bool.false_or, Bool.or_false, Bool.true_and, Bool.and_true, Bool.false_and, Bool.and_false, Bool.not_true, Bool.not_false]; done) | (simp only [↓hb4, ↓hb32, cond_true, cond_false, Bool.true_or, Bool.or_true, Bool.false_or, Bool.or_false, Bool.true_and, Bool.and_true, Bool.false_and, Bool.and_false, Bool.not_true, Bool.not_false]; rfl))⟩, daS_d rfl, daS_d rfl, trivial⟩ ⟨⟨rfl, rfl⟩, ⟨rfl, (by first | rfl | (simp only [↓hb4, ↓hb32, cond_true, cond_false, Bool.true_or, Bool.or_true, Bool.false_or, Bool.or_false, Bool.true_and, Bool.and_true, Bool.false_and, Bool.and_false, Bool.not_true, Bool.not_false]; done) | (simp only [↓hb4, ↓hb32, cond_true, cond_false, Bool.true_or, Bool.or_true, Bool.false_or, Bool.or_false, Bool.true_and, Bool.and_true, Bool.false_and, Bool.and_false, Bool.not_true, Bool.not_false]; rfl))⟩, trivial⟩
      · clear hv67
        conv => whnf
        refine Tr.weak hw ?_
        refine Tr.seq ?_
        refine Tr.region layOK ?_
        conv => whnf
        refine orB_l ?_
        conv => whnf
        refine Tr.ret ?_
        conv => whnf
        refine frE_of (f := eI) (l := l_13) rfl ?_
        conv => whnf
        refine frE_of (f := eTChoice) (l := l_29) rfl ?_
        conv => whnf
        cases h
        rfl
  · refine Tr.skip ?_
    conv => whnf
    refine Tr.seq ?_
    refine Tr.region layOK ?_
    conv => whnf
    refine arS_raw ?_
    conv => whnf
    refine Tr.seq ?_
    refine Tr.region layOK ?_
    conv => whnf
    refine arS_raw ?_
    conv => whnf
    obtain ⟨x_68, hx_68, h⟩ := bind_some h
    refine ixP_of hx_68 ?_
    conv => whnf
    refine Tr.ret ?_
    conv => whnf
    refine orB_l ?_
    conv => whnf
    refine Tr.seq ?_
    refine Tr.seq ?_
    refine Tr.region layOK ?_
    conv => whnf
    refine lnS_map ?_
    conv => whnf
    obtain ⟨⟨v_76, l_77⟩, hv85, h⟩ := bind_some h
    refine Tr.cutQ1 ([(2, .pt 0 0), (4, .pt 1 0), (6, .fn 45 [.pt 2 0, .pt 3 0]), (7, .pt 4 0)]) ([some (.var [.d (.ls (List.map eTSegment f_1.Clocks.Segments)), .d (.ls (List.map (eL eI) f_1.Clocks.Far)), .d (.ls (List.map eTPair f_1.Pairs)), .d (.ls (List.map eTRunner f_1.Runners))]), some (.var [.d (.i .i64 0), .nsl, .nsl]), some (.var [.d (.i .i64 v_76)]), some (.var [.d (.ls (List.map eI picks_2))]), some (.var [.d (.i .i64 (bitK .i64 (BitVec.ofInt 64 x_68 &&& BitVec.ofInt 64 3))), .sl 5 1 0 (List.length l_77), .nsl]), some (.arr 1 (List.map .d (List.map eI l_77)))]) ?_ (fun T1 H1 hw => ?_)
    · replace h := hv85; clear hv85
      refine Tr.block ?_
      refine Tr.loopM (σ := Int × Int × List Int) (fun n s => m_stopwatchlaw25_history_L3 f_1 picks_2 n s.1 s.2.1 s.2.2) (v_76, l_77) (fun s => ([(2, .pt 0 0), (4, .pt 1 0), (6, .fn 45 [.pt 2 0, .pt 3 0]), (7, .pt 4 0), (20, .d (.i .i64 (((f_1.Clocks.Segments).length : Int)))), (21, .d (.i .i64 s.1))], [some (.var [.d (.ls (List.map eTSegment f_1.Clocks.Segments)), .d (.ls (List.map (eL eI) f_1.Clocks.Far)), .d (.ls (List.map eTPair f_1.Pairs)), .d (.ls (List.map eTRunner f_1.Runners))]), some (.var [.d (.i .i64 0), .nsl, .nsl]), some (.var [.d (.i .i64 s.2.1)]), some (.var [.d (.ls (List.map eI picks_2))]), some (.var [.d (.i .i64 (bitK .i64 (BitVec.ofInt 64 x_68 &&& BitVec.ofInt 64 3))), .sl 5 1 0 (List.length s.2.2), .nsl]), some (.arr 1 (List.map .d (List.map eI s.2.2)))])) (((((f_1.Clocks.Segments).length : Int)) - 0 : Int).toNat + 1) (0, 1, (([] : List Int))) h (fun s => rfl) (Wk.mk2 [0, 2, 3, 1, 4, 5] 5 rfl rfl (by decide) rfl ⟨⟨rfl, rfl⟩, ⟨rfl, rfl⟩, ⟨rfl, rfl⟩, ⟨rfl, rfl⟩, ⟨rfl, (by first | rfl | (simp only [↓hb4, cond_true, cond_false, Bool.true_or, Bool.or_true, Bool.false_or, Bool.or_false, Bool.true_and, Bool.and_true, Bool.false_and, Bool.and_false, Bool.not_true, Bool.not_false]; done) | (simp only [↓hb4, cond_true, cond_false, Bool.true_or, Bool.or_true, Bool.false_or, Bool.or_false, Bool.true_and, Bool.and_true, Bool.false_and, Bool.and_false, Bool.not_true, Bool.not_false]; rfl))⟩, rfl, trivial⟩ ⟨⟨rfl, rfl⟩, ⟨rfl, (by first | rfl | (simp only [↓hb4, cond_true, cond_false, Bool.true_or, Bool.or_true, Bool.false_or, Bool.or_false, Bool.true_and, Bool.and_true, Bool.false_and, Bool.and_false, Bool.not_true, Bool.not_false]; done) | (simp only [↓hb4, cond_true, cond_false, Bool.true_or, Bool.or_true, Bool.false_or, Bool.or_false, Bool.true_and, Bool.and_true, Bool.false_and, Bool.and_false, Bool.not_true, Bool.not_false]; rfl))⟩, ⟨rfl, (by first | rfl | (simp only [↓hb4, cond_true, cond_false, Bool.true_or, Bool.or_true, Bool.false_or, Bool.or_false, Bool.true_and, Bool.and_true, Bool.false_and, Bool.and_false, Bool.not_true, Bool.not_false]; done) | (simp only [↓hb4, cond_true, cond_false, Bool.true_or, Bool.or_true, Bool.false_or, Bool.or_false, Bool.true_and, Bool.and_true, Bool.false_and, Bool.and_false, Bool.not_true, Bool.not_false]; rfl))⟩, ⟨rfl, rfl⟩, ⟨rfl, rfl⟩, ⟨rfl, rfl⟩, trivial⟩) ?_
      clear h
      rintro n_75 ⟨v_72, v_73, l_74⟩ h
      replace h : m_stopwatchlaw25_history_L3 f_1 picks_2 (n_75 + 1) v_72 v_73 l_74 = some (v_76, l_77) := h
      rw [m_stopwatchlaw25_history_L3] at h
      refine Tr.seq ?_
      refine Tr.region layOK ?_
      conv => whnf
      refine Tr.seq ?_
      refine Tr.cond ?_
      conv => whnf
      refine condS_bif h (fun hb80 h => ?_) (fun hb80 h => ?_)
      · refine Tr.skip ?_
        conv => whnf
        refine Tr.seq ?_
        refine Tr.block ?_
        refine Tr.draw (DrawP.seqQ layOK mixed [(3, 2), (5, 5), (7, 4)] [(0, 7), (1, 7), (2, 1), (3, 0), (4, 1), (5, 0), (6, 7), (7, 0)] (by kernel_rfl) ?_)
        conv => whnf
        refine ⟨_, ⟨rfl, rfl, (by (conv => whnf); (exact ⟨rfl, rfl⟩))⟩, ?_⟩
        conv => whnf
        refine ⟨_, ⟨rfl, rfl, (by (conv => whnf); (exact ⟨rfl, rfl⟩))⟩, ?_⟩
        conv => whnf
        refine ⟨_, (fun H => by (conv => whnf); (exact ⟨rfl, rfl⟩)), ?_⟩
        conv => whnf
        obtain ⟨⟨r_81, b_82⟩, hc83, h⟩ := bind_some h
        refine ⟨_, _, (by (conv => whnf); (refine MC.ecall (s_stopwatchlaw25_history_1 v_73 picks_2 r_81 b_82 hc83) [2, 3] (by decide) rfl rfl ?_ (fun rs Bs1 hrs => ?_)); (· exact ⟨⟨rfl, rfl⟩, ⟨rfl, rfl⟩, trivial⟩); (obtain ⟨rfl, rfl⟩ := hrs); (conv => whnf); (exact ⟨rfl, rfl⟩)), kp_ok (by repeat (first | exact trivial | refine ⟨trivial, ?_⟩ | refine ⟨rfl, ?_⟩)), ?_⟩
        conv => whnf
        refine ⟨_, (fun H => by (conv => whnf); (refine orB_r ?_); (conv => whnf); (exact ⟨rfl, rfl⟩)), ?_⟩
        conv => whnf
        obtain ⟨l_84, hl_84, h⟩ := bind_some h
        refine ⟨_, _, (by (conv => whnf); (refine frP_no ?_); (conv => whnf); (refine eqS_mk (by first | rfl | simp) ?_); (conv => whnf); (refine apS_of hl_84 (apq_map (f := eI) (l := (([r_81] : List Int))) fun _ => rfl) (by first | rfl | simp) (by first | rfl | simp) (fun he => ?_)); (conv => whnf); (refine reS_mk (es' := List.map .d (List.map eI l_84)) (n' := List.length l_84) (by subst he; simp only [List.map_append, List.map_cons, List.map_nil, List.nil_append]; first | done | rfl) (by subst he; simp <;> omega) ?_); (clear he); (conv => whnf); (exact ⟨rfl, rfl⟩)), kp_ok (by repeat (first | exact trivial | refine ⟨trivial, ?_⟩ | refine ⟨rfl, ?_⟩)), ?_⟩
        conv => whnf
        refine ⟨_, ⟨rfl, rfl, (by (conv => whnf); (exact ⟨rfl, rfl⟩))⟩, ?_⟩
        conv => whnf
        refine ⟨_, _, (by (conv => whnf); (refine orB_l ?_); (conv => whnf); (exact ⟨rfl, rfl⟩)), kp_ok (by repeat (first | exact trivial | refine ⟨trivial, ?_⟩ | refine ⟨rfl, ?_⟩)), ?_⟩
        conv => whnf
        refine Tr.region layOK ?_
        conv => whnf
        refine arS_raw ?_
        conv => whnf
        refine ⟨((w64 (v_72 + 1)), b_82, l_84), h, ?_⟩
        exact Wk.mk2 [0, 1, 2, 3, 4, 6] 7 rfl rfl (by decide) rfl ⟨⟨rfl, rfl⟩, ⟨rfl, rfl⟩, ⟨rfl, rfl⟩, ⟨rfl, rfl⟩, ⟨rfl, (by first | rfl | (simp only [↓hb4, ↓hb80, cond_true, cond_false, Bool.true_or, Bool.or_true, Bool.false_or, Bool.or_false, Bool.true_and, Bool.and_true, Bool.false_and, Bool.and_false, Bool.not_true, Bool.not_false]; done) | (simp only [↓hb4, ↓hb80, cond_true, cond_false, Bool.true_or, Bool.or_true, Bool.false_or, Bool.or_false, Bool.true_and, Bool.and_true, Bool.false_and, Bool.and_false, Bool.not_true, Bool.not_false]; rfl))⟩, daS_d rfl, trivial⟩ ⟨⟨rfl, rfl⟩, ⟨rfl, rfl⟩, ⟨rfl, rfl⟩, ⟨rfl, rfl⟩, ⟨rfl, rfl⟩, ⟨rfl, rfl⟩, trivial⟩
      · refine Tr.exit ?_
        conv => whnf
        cases h
        exact Wk.mk2 [0, 1, 2, 3, 4, 5] 6 rfl rfl (by decide) rfl ⟨⟨rfl, rfl⟩, ⟨rfl, rfl⟩, ⟨rfl, rfl⟩, ⟨rfl, rfl⟩, ⟨rfl, rfl⟩, daS_d rfl, trivial⟩ ⟨⟨rfl, rfl⟩, ⟨rfl, rfl⟩, ⟨rfl, rfl⟩, ⟨rfl, rfl⟩, trivial⟩
    · clear hv85
      conv => whnf
      refine Tr.weak hw ?_
      refine Tr.seq ?_
      refine Tr.seq ?_
      refine Tr.region layOK ?_
      conv => whnf
      refine lnS_map ?_
      conv => whnf
      obtain ⟨l_93, hv131, h⟩ := bind_some h
      refine Tr.cutQ1 ([(4, .pt 0 0), (7, .pt 1 0)]) ([some (.var [.d (.i .i64 0), .nsl, .nsl]), some (.var [.d (.i .i64 (bitK .i64 (BitVec.ofInt 64 x_68 &&& BitVec.ofInt 64 3))), .sl 2 1 0 (List.length l_77), .sl 3 2 0 (List.length l_93)]), some (.arr 1 (List.map .d (List.map eI l_77))), some (.arr 2 (List.map .d (List.map eTChoice l_93)))]) ?_ (fun T1 H1 hw => ?_)
      · replace h := hv131; clear hv131
        refine Tr.block ?_
        refine Tr.loopM (σ := Int × Int × List TChoice) (fun n s => m_stopwatchlaw25_history_L4 f_1 picks_2 x_68 n s.1 s.2.1 s.2.2) l_93 (fun s => ([(4, .pt 0 0), (6, .fn 45 [.pt 1 0, .pt 2 0]), (7, .pt 3 0), (32, .d (.ls (List.map eTRunner f_1.Runners))), (33, .d (.i .i64 (((f_1.Runners).length : Int)))), (34, .d (.i .i64 s.1))], [some (.var [.d (.i .i64 0), .nsl, .nsl]), some (.var [.d (.i .i64 s.2.1)]), some (.var [.d (.ls (List.map eI picks_2))]), some (.var [.d (.i .i64 (bitK .i64 (BitVec.ofInt 64 x_68 &&& BitVec.ofInt 64 3))), .sl 4 1 0 (List.length l_77), .sl 5 2 0 (List.length s.2.2)]), some (.arr 1 (List.map .d (List.map eI l_77))), some (.arr 2 (List.map .d (List.map eTChoice s.2.2)))])) (((((f_1.Runners).length : Int)) - 0 : Int).toNat + 1) (0, v_76, (([] : List TChoice))) h (fun s => rfl) (Wk.mk2 [1, 2, 3, 4, 5, 6] 6 rfl rfl (by decide) rfl ⟨⟨rfl, rfl⟩, ⟨rfl, rfl⟩, ⟨rfl, rfl⟩, ⟨rfl, (by first | rfl | (simp only [↓hb4, cond_true, cond_false, Bool.true_or, Bool.or_true, Bool.false_or, Bool.or_false, Bool.true_and, Bool.and_true, Bool.false_and, Bool.and_false, Bool.not_true, Bool.not_false]; done) | (simp only [↓hb4, cond_true, cond_false, Bool.true_or, Bool.or_true, Bool.false_or, Bool.or_false, Bool.true_and, Bool.and_true, Bool.false_and, Bool.and_false, Bool.not_true, Bool.not_false]; rfl))⟩, daS_d rfl, rfl, trivial⟩ ⟨⟨rfl, (by first | rfl | (simp only [↓hb4, cond_true, cond_false, Bool.true_or, Bool.or_true, Bool.false_or, Bool.or_false, Bool.true_and, Bool.and_true, Bool.false_and, Bool.and_false, Bool.not_true, Bool.not_false]; done) | (simp only [↓hb4, cond_true, cond_false, Bool.true_or, Bool.or_true, Bool.false_or, Bool.or_false, Bool.true_and, Bool.and_true, Bool.false_and, Bool.and_false, Bool.not_true, Bool.not_false]; rfl))⟩, ⟨rfl, (by first | rfl | (simp only [↓hb4, cond_true, cond_false, Bool.true_or, Bool.or_true, Bool.false_or, Bool.or_false, Bool.true_and, Bool.and_true, Bool.false_and, Bool.and_false, Bool.not_true, Bool.not_false]; done) | (simp only [↓hb4, cond_true, cond_false, Bool.true_or, Bool.or_true, Bool.false_or, Bool.or_false, Bool.true_and, Bool.and_true, Bool.false_and, Bool.and_false, Bool.not_true, Bool.not_false]; rfl))⟩, ⟨rfl, (by first | rfl | (simp only [↓hb4, cond_true, cond_false, Bool.true_or, Bool.or_true, Bool.false_or, Bool.or_false, Bool.true_and, Bool.and_true, Bool.false_and, Bool.and_false, Bool.not_true, Bool.not_false]; done) | (simp only [↓hb4, cond_true, cond_false, Bool.true_or, Bool.or_true, Bool.false_or, Bool.or_false, Bool.true_and, Bool.and_true, Bool.false_and, Bool.and_false, Bool.not_true, Bool.not_false]; rfl))⟩, ⟨rfl, rfl⟩, ⟨rfl, rfl⟩, ⟨rfl, rfl⟩, trivial⟩) ?_
        clear h
        rintro n_92 ⟨v_89, v_90, l_91⟩ h
        replace h : m_stopwatchlaw25_history_L4 f_1 picks_2 x_68 (n_92 + 1) v_89 v_90 l_91 = some l_93 := h
        rw [m_stopwatchlaw25_history_L4] at h
        refine Tr.seq ?_
        refine Tr.region layOK ?_
        conv => whnf
        refine Tr.seq ?_
        refine Tr.cond ?_
        conv => whnf
        refine condS_bif h (fun hb96 h => ?_) (fun hb96 h => ?_)
        · refine Tr.skip ?_
          conv => whnf
          refine Tr.seq ?_
          obtain ⟨⟨v_97, l_98⟩, hv99, h⟩ := bind_some h
          refine Tr.cutQ1 ([(4, .pt 0 0), (6, .fn 45 [.pt 1 0, .pt 2 0]), (7, .pt 3 0), (32, .d (.ls (List.map eTRunner f_1.Runners))), (33, .d (.i .i64 (((f_1.Runners).length : Int)))), (34, .d (.i .i64 v_89))]) ([some (.var [.d (.i .i64 0), .nsl, .nsl]), some (.var [.d (.i .i64 v_97)]), some (.var [.d (.ls (List.map eI picks_2))]), some (.var [.d (.i .i64 (bitK .i64 (BitVec.ofInt 64 x_68 &&& BitVec.ofInt 64 3))), .sl 4 1 0 (List.length l_77), .sl 5 2 0 (List.length l_98)]), some (.arr 1 (List.map .d (List.map eI l_77))), some (.arr 2 (List.map .d (List.map eTChoice l_98)))]) ?_ (fun T1 H1 hw => ?_)
          · replace h := hv99; clear hv99
            refine Tr.block ?_
            refine Tr.seq ?_
            refine Tr.region layOK ?_
            conv => whnf
            obtain ⟨x_100, hx_100, h⟩ := bind_some h
            refine ixP_of hx_100 ?_
            conv => whnf
            refine Tr.seq ?_
            refine Tr.region layOK ?_
            conv => whnf
            refine ECall.of_tr (cx := ⟨14, none, lay, 7⟩) layOK func45 rfl rfl rfl rfl rfl (by simp [f45]) ?_
            refine Tr.seq ?_
            refine Tr.region layOK ?_
            conv => whnf
            refine Tr.seq ?_
            refine Tr.seq ?_
            refine Tr.region layOK ?_
            conv => whnf
            refine lnS_map ?_
            conv => whnf
            refine Tr.cond ?_
            conv => whnf
            refine condS_bif h (fun hb101 h => ?_) (fun hb101 h => ?_)
            · refine Tr.seq ?_
              refine Tr.region layOK ?_
              conv => whnf
              refine Tr.ret ?_
              conv => whnf
              refine Tr.seq ?_
              refine Tr.seq ?_
              obtain ⟨v_102, hv103, h⟩ := bind_some h
              refine Tr.cutQ1 ([(4, .pt 0 0), (6, .fn 45 [.pt 1 0, .pt 2 0]), (7, .pt 3 0), (9, .pt 4 0), (10, .pt 5 0), (32, .d (.ls (List.map eTRunner f_1.Runners))), (33, .d (.i .i64 (((f_1.Runners).length : Int)))), (34, .d (.i .i64 v_89)), (59, .d (.b v_102))]) ([some (.var [.d (.i .i64 0), .nsl, .nsl]), some (.var [.d (.i .i64 v_90)]), some (.var [.d (.ls (List.map eI picks_2))]), some (.var [.d (.i .i64 (bitK .i64 (BitVec.ofInt 64 x_68 &&& BitVec.ofInt 64 3))), .sl 6 1 0 (List.length l_77), .sl 7 2 0 (List.length l_91)]), some (.var [.d (.i .i64 x_100.Bib), .d (.ls (List.map eI x_100.Keys)), .d (.ls (List.map (eL eTOutcome) x_100.Worlds))]), some (.var [.d (.i .i64 (bitK .i64 (BitVec.ofInt 64 0 &&& BitVec.ofInt 64 3))), .d (.i .i64 0)]), some (.arr 1 (List.map .d (List.map eI l_77))), some (.arr 2 (List.map .d (List.map eTChoice l_91)))]) ?_ (fun T1 H1 hw => ?_)
              · replace h := hv103; clear hv103
                refine Tr.draw (DrawP.seqQ layOK mixed [] [(0, 6), (1, 6), (2, 9), (3, 9), (4, 2), (5, 1), (6, 1), (7, 10), (8, 10), (9, 9), (10, 9), (11, 6), (12, 6), (13, 2), (14, 2), (15, 2), (16, 1), (17, 1)] (by kernel_rfl) ?_)
                conv => whnf
                refine ⟨_, ⟨rfl, rfl, (by (conv => whnf); (exact ⟨rfl, rfl⟩))⟩, ?_⟩
                conv => whnf
                refine ⟨_, ⟨rfl, rfl, (by (conv => whnf); (exact ⟨rfl, rfl⟩))⟩, ?_⟩
                conv => whnf
                refine ⟨_, ⟨rfl, rfl, (by (conv => whnf); (exact ⟨rfl, rfl⟩))⟩, ?_⟩
                conv => whnf
                refine ⟨_, ⟨rfl, rfl, (by (conv => whnf); (exact ⟨rfl, rfl⟩))⟩, ?_⟩
                conv => whnf
                refine ⟨_, ⟨rfl, rfl, (by (conv => whnf); (refine lnS_map ?_); (conv => whnf); (exact ⟨rfl, rfl⟩))⟩, ?_⟩
                conv => whnf
                refine ⟨_, (fun H => by (conv => whnf); (exact ⟨rfl, rfl⟩)), ?_⟩
                conv => whnf
                refine ⟨_, (fun H => by (conv => whnf); (exact ⟨rfl, rfl⟩)), ?_⟩
                conv => whnf
                refine condS_bif h (fun hb104 h => ?_) (fun hb104 h => ?_)
                · conv => whnf
                  refine ⟨_, ⟨rfl, rfl, (by (conv => whnf); (exact ⟨rfl, rfl⟩))⟩, ?_⟩
                  conv => whnf
                  refine ⟨_, ⟨rfl, rfl, (by (conv => whnf); (exact ⟨rfl, rfl⟩))⟩, ?_⟩
                  conv => whnf
                  refine ⟨_, ⟨rfl, rfl, (by (conv => whnf); (exact ⟨rfl, rfl⟩))⟩, ?_⟩
                  conv => whnf
                  refine ⟨_, ⟨rfl, rfl, (by (conv => whnf); (exact ⟨rfl, rfl⟩))⟩, ?_⟩
                  conv => whnf
                  refine ⟨_, ⟨rfl, rfl, (by (conv => whnf); (exact ⟨rfl, rfl⟩))⟩, ?_⟩
                  conv => whnf
                  refine ⟨_, ⟨rfl, rfl, (by (conv => whnf); (exact ⟨rfl, rfl⟩))⟩, ?_⟩
                  conv => whnf
                  obtain ⟨x_105, hx_105, h⟩ := bind_some h
                  refine ⟨_, ⟨rfl, rfl, (by (conv => whnf); (refine ixP_of hx_105 ?_); (conv => whnf); (exact ⟨rfl, rfl⟩))⟩, ?_⟩
                  conv => whnf
                  refine ⟨_, ⟨rfl, rfl, (by (conv => whnf); (exact ⟨rfl, rfl⟩))⟩, ?_⟩
                  conv => whnf
                  refine ⟨_, ⟨rfl, rfl, (by (conv => whnf); (refine lnS_map ?_); (conv => whnf); (exact ⟨rfl, rfl⟩))⟩, ?_⟩
                  conv => whnf
                  refine ⟨_, (fun H => by (conv => whnf); (exact ⟨rfl, rfl⟩)), ?_⟩
                  conv => whnf
                  refine ⟨_, (fun H => by (conv => whnf); (exact ⟨rfl, rfl⟩)), ?_⟩
                  conv => whnf
                  cases h
                  exact Wk.mk2 [0, 1, 2, 3, 6, 7, 4, 5] 8 rfl rfl (by decide) rfl ⟨⟨rfl, rfl⟩, ⟨rfl, rfl⟩, ⟨rfl, rfl⟩, ⟨rfl, (by first | rfl | (simp only [↓hb4, ↓hb96, ↓hb101, ↓hb104, cond_true, cond_false, Bool.true_or, Bool.or_true, Bool.false_or, Bool.or_false, Bool.true_and, Bool.and_true, Bool.false_and, Bool.and_false, Bool.not_true, Bool.not_false]; done) | (simp only [↓hb4, ↓hb96, ↓hb101, ↓hb104, cond_true, cond_false, Bool.true_or, Bool.or_true, Bool.false_or, Bool.or_false, Bool.true_and, Bool.and_true, Bool.false_and, Bool.and_false, Bool.not_true, Bool.not_false]; rfl))⟩, ⟨rfl, rfl⟩, ⟨rfl, rfl⟩, daS_d rfl, daS_d rfl, trivial⟩ ⟨⟨rfl, rfl⟩, ⟨rfl, rfl⟩, ⟨rfl, rfl⟩, ⟨rfl, (by first | rfl | (simp only [↓hb4, ↓hb96, ↓hb101, ↓hb104, cond_true, cond_false, Bool.true_or, Bool.or_true, Bool.false_or, Bool.or_false, Bool.true_and, Bool.and_true, Bool.false_and, Bool.and_false, Bool.not_true, Bool.not_false]; done) | (simp only [↓hb4, ↓hb96, ↓hb101, ↓hb104, cond_true, cond_false, Bool.true_or, Bool.or_true, Bool.false_or, Bool.or_false, Bool.true_and, Bool.and_true, Bool.false_and, Bool.and_false, Bool.not_true, Bool.not_false]; rfl))⟩, ⟨rfl, (by first | rfl | (simp only [↓hb4, ↓hb96, ↓hb101, ↓hb104, cond_true, cond_false, Bool.true_or, Bool.or_true, Bool.false_or, Bool.or_false, Bool.true_and, Bool.and_true, Bool.false_and, Bool.and_false, Bool.not_true, Bool.not_false]; done) | (simp only [↓hb4, ↓hb96, ↓hb101, ↓hb104, cond_true, cond_false, Bool.true_or, Bool.or_true, Bool.false_or, Bool.or_false, Bool.true_and, Bool.and_true, Bool.false_and, Bool.and_false, Bool.not_true, Bool.not_false]; rfl))⟩, ⟨rfl, rfl⟩, ⟨rfl, rfl⟩, ⟨rfl, rfl⟩, ⟨rfl, rfl⟩, trivial⟩
                · conv => whnf
                  refine ⟨_, (fun H => by (conv => whnf); (exact ⟨rfl, rfl⟩)), ?_⟩
                  conv => whnf
                  cases h
                  exact Wk.mk2 [0, 1, 2, 3, 6, 7, 4, 5] 8 rfl rfl (by decide) rfl ⟨⟨rfl, rfl⟩, ⟨rfl, rfl⟩, ⟨rfl, rfl⟩, ⟨rfl, (by first | rfl | (simp only [↓hb4, ↓hb96, ↓hb101, ↓hb104, cond_true, cond_false, Bool.true_or, Bool.or_true, Bool.false_or, Bool.or_false, Bool.true_and, Bool.and_true, Bool.false_and, Bool.and_false, Bool.not_true, Bool.not_false]; done) | (simp only [↓hb4, ↓hb96, ↓hb101, ↓hb104, cond_true, cond_false, Bool.true_or, Bool.or_true, Bool.false_or, Bool.or_false, Bool.true_and, Bool.and_true, Bool.false_and, Bool.and_false, Bool.not_true, Bool.not_false]; rfl))⟩, ⟨rfl, rfl⟩, ⟨rfl, rfl⟩, daS_d rfl, daS_d rfl, trivial⟩ ⟨⟨rfl, rfl⟩, ⟨rfl, rfl⟩, ⟨rfl, rfl⟩, ⟨rfl, (by first | rfl | (simp only [↓hb4, ↓hb96, ↓hb101, ↓hb104, cond_true, cond_false, Bool.true_or, Bool.or_true, Bool.false_or, Bool.or_false, Bool.true_and, Bool.and_true, Bool.false_and, Bool.and_false, Bool.not_true, Bool.not_false]; done) | (simp only [↓hb4, ↓hb96, ↓hb101, ↓hb104, cond_true, cond_false, Bool.true_or, Bool.or_true, Bool.false_or, Bool.or_false, Bool.true_and, Bool.and_true, Bool.false_and, Bool.and_false, Bool.not_true, Bool.not_false]; rfl))⟩, ⟨rfl, (by first | rfl | (simp only [↓hb4, ↓hb96, ↓hb101, ↓hb104, cond_true, cond_false, Bool.true_or, Bool.or_true, Bool.false_or, Bool.or_false, Bool.true_and, Bool.and_true, Bool.false_and, Bool.and_false, Bool.not_true, Bool.not_false]; done) | (simp only [↓hb4, ↓hb96, ↓hb101, ↓hb104, cond_true, cond_false, Bool.true_or, Bool.or_true, Bool.false_or, Bool.or_false, Bool.true_and, Bool.and_true, Bool.false_and, Bool.and_false, Bool.not_true, Bool.not_false]; rfl))⟩, ⟨rfl, rfl⟩, ⟨rfl, rfl⟩, ⟨rfl, rfl⟩, ⟨rfl, rfl⟩, trivial⟩
              · clear hv103
                conv => whnf
                refine Tr.weak hw ?_
                refine Tr.cond ?_
                conv => whnf
                refine condS_bif h (fun hb106 h => ?_) (fun hb106 h => ?_)
                · refine Tr.seq ?_
                  refine Tr.draw (DrawP.seqQ layOK mixed [(11, 8)] [(0, 7), (1, 7), (2, 6), (3, 6), (4, 2), (5, 2), (6, 8), (7, 8), (8, 2), (9, 2), (10, 0), (11, 0)] (by kernel_rfl) ?_)
                  conv => whnf
                  refine ⟨_, ⟨rfl, rfl, (by (conv => whnf); (exact ⟨rfl, rfl⟩))⟩, ?_⟩
                  conv => whnf
                  refine ⟨_, ⟨rfl, rfl, (by (conv => whnf); (exact ⟨rfl, rfl⟩))⟩, ?_⟩
                  conv => whnf
                  refine ⟨_, ⟨rfl, rfl, (by (conv => whnf); (exact ⟨rfl, rfl⟩))⟩, ?_⟩
                  conv => whnf
                  refine ⟨_, ⟨rfl, rfl, (by (conv => whnf); (exact ⟨rfl, rfl⟩))⟩, ?_⟩
                  conv => whnf
                  obtain ⟨x_107, hx_107, h⟩ := bind_some h
                  refine ⟨_, ⟨rfl, rfl, (by (conv => whnf); (refine ixP_of hx_107 ?_); (conv => whnf); (exact ⟨rfl, rfl⟩))⟩, ?_⟩
                  conv => whnf
                  refine ⟨_, ⟨rfl, rfl, (by (conv => whnf); (exact ⟨rfl, rfl⟩))⟩, ?_⟩
                  conv => whnf
                  refine ⟨_, ⟨rfl, rfl, (by (conv => whnf); (exact ⟨rfl, rfl⟩))⟩, ?_⟩
                  conv => whnf
                  refine ⟨_, ⟨rfl, rfl, (by (conv => whnf); (exact ⟨rfl, rfl⟩))⟩, ?_⟩
                  conv => whnf
                  obtain ⟨x_108, hx_108, h⟩ := bind_some h
                  refine ⟨_, ⟨rfl, rfl, (by (conv => whnf); (refine ixP_of hx_108 ?_); (conv => whnf); (exact ⟨rfl, rfl⟩))⟩, ?_⟩
                  conv => whnf
                  refine ⟨_, ⟨rfl, rfl, (by (conv => whnf); (exact ⟨rfl, rfl⟩))⟩, ?_⟩
                  conv => whnf
                  refine ⟨_, _, (by (conv => whnf); (exact ⟨rfl, rfl⟩)), kp_ok (by repeat (first | exact trivial | refine ⟨trivial, ?_⟩ | refine ⟨rfl, ?_⟩)), ?_⟩
                  conv => whnf
                  refine ⟨_, _, (by (conv => whnf); (exact ⟨rfl, rfl⟩)), kp_ok (by repeat (first | exact trivial | refine ⟨trivial, ?_⟩ | refine ⟨rfl, ?_⟩)), ?_⟩
                  conv => whnf
                  refine Tr.seq ?_
                  refine Tr.region layOK ?_
                  conv => whnf
                  refine Tr.cond ?_
                  conv => whnf
                  refine condS_bif h (fun hb109 h => ?_) (fun hb109 h => ?_)
                  · refine Tr.draw (DrawP.seqQ layOK mixed [(3, 1), (7, 5)] [(0, 11), (1, 11), (2, 1), (3, 0), (4, 1), (5, 1), (6, 8), (7, 0)] (by kernel_rfl) ?_)
                    conv => whnf
                    refine ⟨_, ⟨rfl, rfl, (by (conv => whnf); (exact ⟨rfl, rfl⟩))⟩, ?_⟩
                    conv => whnf
                    refine ⟨_, ⟨rfl, rfl, (by (conv => whnf); (exact ⟨rfl, rfl⟩))⟩, ?_⟩
                    conv => whnf
                    refine ⟨_, (fun H => by (conv => whnf); (exact ⟨rfl, rfl⟩)), ?_⟩
                    conv => whnf
                    obtain ⟨⟨r_110, b_111⟩, hc112, h⟩ := bind_some h
                    refine ⟨_, _, (by (conv => whnf); (refine MC.ecall (s_stopwatchlaw25_history_1 v_90 picks_2 r_110 b_111 hc112) [1, 2] (by decide) rfl rfl ?_ (fun rs Bs1 hrs => ?_)); (· exact ⟨⟨rfl, rfl⟩, ⟨rfl, rfl⟩, trivial⟩); (obtain ⟨rfl, rfl⟩ := hrs); (conv => whnf); (exact ⟨rfl, rfl⟩)), kp_ok (by repeat (first | exact trivial | refine ⟨trivial, ?_⟩ | refine ⟨rfl, ?_⟩)), ?_⟩
                    conv => whnf
                    refine ⟨_, (fun H => by (conv => whnf); (exact ⟨rfl, rfl⟩)), ?_⟩
                    conv => whnf
                    refine ⟨_, (fun H => by (conv => whnf); (refine arS_raw ?_); (conv => whnf); (exact ⟨rfl, rfl⟩)), ?_⟩
                    conv => whnf
                    refine ⟨_, ⟨rfl, rfl, (by (conv => whnf); (exact ⟨rfl, rfl⟩))⟩, ?_⟩
                    conv => whnf
                    refine ⟨_, _, (by (conv => whnf); (exact ⟨rfl, rfl⟩)), kp_ok (by repeat (first | exact trivial | refine ⟨trivial, ?_⟩ | refine ⟨rfl, ?_⟩)), ?_⟩
                    conv => whnf
                    refine Tr.region layOK ?_
                    conv => whnf
                    refine orB_r ?_
                    conv => whnf
                    refine frP_no ?_
                    conv => whnf
                    refine eqS_mk (by first | rfl | simp) ?_
                    conv => whnf
                    obtain ⟨l_113, hl_113, h⟩ := bind_some h
                    refine apS_of hl_113 (apq_map (f := eTChoice) (l := (([({ Outcome := (bitK .i64 (BitVec.ofInt 64 0 &&& BitVec.ofInt 64 3)), X := (w64 (x_108.Lo + (bitK .i64 (BitVec.ofInt 64 r_110 &&& BitVec.ofInt 64 3)))) } : TChoice)] : List TChoice))) fun _ => rfl) (by first | rfl | simp) (by first | rfl | simp) (fun he => ?_)
                    conv => whnf
                    refine reS_mk (es' := List.map .d (List.map eTChoice l_113)) (n' := List.length l_113) (by subst he; simp only [List.map_append, List.map_cons, List.map_nil, List.nil_append]; first | done | rfl) (by subst he; simp <;> omega) ?_
                    clear he
                    conv => whnf
                    refine orB_l ?_
                    conv => whnf
                    cases h
                    exact Wk.mk2 [0, 1, 2, 3, 6, 9] 10 rfl rfl (by decide) rfl ⟨⟨rfl, rfl⟩, ⟨rfl, rfl⟩, ⟨rfl, rfl⟩, ⟨rfl, (by first | rfl | (simp only [↓hb4, ↓hb96, ↓hb101, ↓hb106, ↓hb109, cond_true, cond_false, Bool.true_or, Bool.or_true, Bool.false_or, Bool.or_false, Bool.true_and, Bool.and_true, Bool.false_and, Bool.and_false, Bool.not_true, Bool.not_false]; done) | (simp only [↓hb4, ↓hb96, ↓hb101, ↓hb106, ↓hb109, cond_true, cond_false, Bool.true_or, Bool.or_true, Bool.false_or, Bool.or_false, Bool.true_and, Bool.and_true, Bool.false_and, Bool.and_false, Bool.not_true, Bool.not_false]; rfl))⟩, daS_d rfl, daS_d rfl, trivial⟩ ⟨⟨rfl, rfl⟩, ⟨rfl, rfl⟩, ⟨rfl, rfl⟩, ⟨rfl, rfl⟩, ⟨rfl, rfl⟩, ⟨rfl, rfl⟩, trivial⟩
                  · refine Tr.skip ?_
                    conv => whnf
                    refine Tr.region layOK ?_
                    conv => whnf
                    refine orB_r ?_
                    conv => whnf
                    refine frP_no ?_
                    conv => whnf
                    refine eqS_mk (by first | rfl | simp) ?_
                    conv => whnf
                    obtain ⟨l_114, hl_114, h⟩ := bind_some h
                    refine apS_of hl_114 (apq_map (f := eTChoice) (l := (([({ Outcome := (bitK .i64 (BitVec.ofInt 64 0 &&& BitVec.ofInt 64 3)), X := 0 } : TChoice)] : List TChoice))) fun _ => rfl) (by first | rfl | simp) (by first | rfl | simp) (fun he => ?_)
                    conv => whnf
                    refine reS_mk (es' := List.map .d (List.map eTChoice l_114)) (n' := List.length l_114) (by subst he; simp only [List.map_append, List.map_cons, List.map_nil, List.nil_append]; first | done | rfl) (by subst he; simp <;> omega) ?_
                    clear he
                    conv => whnf
                    refine orB_l ?_
                    conv => whnf
                    cases h
                    exact Wk.mk2 [0, 1, 2, 3, 6, 9] 10 rfl rfl (by decide) rfl ⟨⟨rfl, rfl⟩, ⟨rfl, rfl⟩, ⟨rfl, rfl⟩, ⟨rfl, (by first | rfl | (simp only [↓hb4, ↓hb96, ↓hb101, ↓hb106, ↓hb109, cond_true, cond_false, Bool.true_or, Bool.or_true, Bool.false_or, Bool.or_false, Bool.true_and, Bool.and_true, Bool.false_and, Bool.and_false, Bool.not_true, Bool.not_false]; done) | (simp only [↓hb4, ↓hb96, ↓hb101, ↓hb106, ↓hb109, cond_true, cond_false, Bool.true_or, Bool.or_true, Bool.false_or, Bool.or_false, Bool.true_and, Bool.and_true, Bool.false_and, Bool.and_false, Bool.not_true, Bool.not_false]; rfl))⟩, daS_d rfl, daS_d rfl, trivial⟩ ⟨⟨rfl, rfl⟩, ⟨rfl, rfl⟩, ⟨rfl, rfl⟩, ⟨rfl, rfl⟩, ⟨rfl, rfl⟩, ⟨rfl, rfl⟩, trivial⟩
                · refine Tr.skip ?_
                  conv => whnf
                  refine Tr.region layOK ?_
                  conv => whnf
                  refine orB_r ?_
                  conv => whnf
                  refine frP_no ?_
                  conv => whnf
                  refine eqS_mk (by first | rfl | simp) ?_
                  conv => whnf
                  obtain ⟨l_115, hl_115, h⟩ := bind_some h
                  refine apS_of hl_115 (apq_map (f := eTChoice) (l := (([({ Outcome := (bitK .i64 (BitVec.ofInt 64 0 &&& BitVec.ofInt 64 3)), X := 0 } : TChoice)] : List TChoice))) fun _ => rfl) (by first | rfl | simp) (by first | rfl | simp) (fun he => ?_)
                  conv => whnf
                  refine reS_mk (es' := List.map .d (List.map eTChoice l_115)) (n' := List.length l_115) (by subst he; simp only [List.map_append, List.map_cons, List.map_nil, List.nil_append]; first | done | rfl) (by subst he; simp <;> omega) ?_
                  clear he
                  conv => whnf
                  refine orB_l ?_
                  conv => whnf
                  cases h
                  exact Wk.mk2 [0, 1, 2, 3, 6, 8] 9 rfl rfl (by decide) rfl ⟨⟨rfl, rfl⟩, ⟨rfl, rfl⟩, ⟨rfl, rfl⟩, ⟨rfl, (by first | rfl | (simp only [↓hb4, ↓hb96, ↓hb101, ↓hb106, cond_true, cond_false, Bool.true_or, Bool.or_true, Bool.false_or, Bool.or_false, Bool.true_and, Bool.and_true, Bool.false_and, Bool.and_false, Bool.not_true, Bool.not_false]; done) | (simp only [↓hb4, ↓hb96, ↓hb101, ↓hb106, cond_true, cond_false, Bool.true_or, Bool.or_true, Bool.false_or, Bool.or_false, Bool.true_and, Bool.and_true, Bool.false_and, Bool.and_false, Bool.not_true, Bool.not_false]; rfl))⟩, daS_d rfl, daS_d rfl, trivial⟩ ⟨⟨rfl, rfl⟩, ⟨rfl, rfl⟩, ⟨rfl, rfl⟩, ⟨rfl, rfl⟩, ⟨rfl, rfl⟩, ⟨rfl, rfl⟩, trivial⟩
            · refine Tr.skip ?_
              conv => whnf
              refine Tr.seq ?_
              refine Tr.region layOK ?_
              conv => whnf
              refine arS_raw ?_
              conv => whnf
              refine Tr.seq ?_
              refine Tr.region layOK ?_
              conv => whnf
              refine arS_raw ?_
              conv => whnf
              obtain ⟨x_116, hx_116, h⟩ := bind_some h
              refine ixP_of hx_116 ?_
              conv => whnf
              refine Tr.ret ?_
              conv => whnf
              refine Tr.seq ?_
              refine Tr.seq ?_
              obtain ⟨v_117, hv118, h⟩ := bind_some h
              refine Tr.cutQ1 ([(4, .pt 0 0), (6, .fn 45 [.pt 1 0, .pt 2 0]), (7, .pt 3 0), (9, .pt 4 0), (10, .pt 5 0), (32, .d (.ls (List.map eTRunner f_1.Runners))), (33, .d (.i .i64 (((f_1.Runners).length : Int)))), (34, .d (.i .i64 v_89)), (59, .d (.b v_117))]) ([some (.var [.d (.i .i64 0), .nsl, .nsl]), some (.var [.d (.i .i64 (w64 (v_90 + 1)))]), some (.var [.d (.ls (List.map eI picks_2))]), some (.var [.d (.i .i64 (bitK .i64 (BitVec.ofInt 64 x_68 &&& BitVec.ofInt 64 3))), .sl 6 1 0 (List.length l_77), .sl 7 2 0 (List.length l_91)]), some (.var [.d (.i .i64 x_100.Bib), .d (.ls (List.map eI x_100.Keys)), .d (.ls (List.map (eL eTOutcome) x_100.Worlds))]), some (.var [.d (.i .i64 (bitK .i64 (BitVec.ofInt 64 x_116 &&& BitVec.ofInt 64 3))), .d (.i .i64 0)]), some (.arr 1 (List.map .d (List.map eI l_77))), some (.arr 2 (List.map .d (List.map eTChoice l_91)))]) ?_ (fun T1 H1 hw => ?_)
              · replace h := hv118; clear hv118
                refine Tr.draw (DrawP.seqQ layOK mixed [] [(0, 6), (1, 6), (2, 9), (3, 9), (4, 2), (5, 1), (6, 1), (7, 10), (8, 10), (9, 9), (10, 9), (11, 6), (12, 6), (13, 2), (14, 2), (15, 2), (16, 1), (17, 1)] (by kernel_rfl) ?_)
                conv => whnf
                refine ⟨_, ⟨rfl, rfl, (by (conv => whnf); (exact ⟨rfl, rfl⟩))⟩, ?_⟩
                conv => whnf
                refine ⟨_, ⟨rfl, rfl, (by (conv => whnf); (exact ⟨rfl, rfl⟩))⟩, ?_⟩
                conv => whnf
                refine ⟨_, ⟨rfl, rfl, (by (conv => whnf); (exact ⟨rfl, rfl⟩))⟩, ?_⟩
                conv => whnf
                refine ⟨_, ⟨rfl, rfl, (by (conv => whnf); (exact ⟨rfl, rfl⟩))⟩, ?_⟩
                conv => whnf
                refine ⟨_, ⟨rfl, rfl, (by (conv => whnf); (refine lnS_map ?_); (conv => whnf); (exact ⟨rfl, rfl⟩))⟩, ?_⟩
                conv => whnf
                refine ⟨_, (fun H => by (conv => whnf); (exact ⟨rfl, rfl⟩)), ?_⟩
                conv => whnf
                refine ⟨_, (fun H => by (conv => whnf); (exact ⟨rfl, rfl⟩)), ?_⟩
                conv => whnf
                refine condS_bif h (fun hb119 h => ?_) (fun hb119 h => ?_)
                · conv => whnf
                  refine ⟨_, ⟨rfl, rfl, (by (conv => whnf); (exact ⟨rfl, rfl⟩))⟩, ?_⟩
                  conv => whnf
                  refine ⟨_, ⟨rfl, rfl, (by (conv => whnf); (exact ⟨rfl, rfl⟩))⟩, ?_⟩
                  conv => whnf
                  refine ⟨_, ⟨rfl, rfl, (by (conv => whnf); (exact ⟨rfl, rfl⟩))⟩, ?_⟩
                  conv => whnf
                  refine ⟨_, ⟨rfl, rfl, (by (conv => whnf); (exact ⟨rfl, rfl⟩))⟩, ?_⟩
                  conv => whnf
                  refine ⟨_, ⟨rfl, rfl, (by (conv => whnf); (exact ⟨rfl, rfl⟩))⟩, ?_⟩
                  conv => whnf
                  refine ⟨_, ⟨rfl, rfl, (by (conv => whnf); (exact ⟨rfl, rfl⟩))⟩, ?_⟩
                  conv => whnf
                  obtain ⟨x_120, hx_120, h⟩ := bind_some h
                  refine ⟨_, ⟨rfl, rfl, (by (conv => whnf); (refine ixP_of hx_120 ?_); (conv => whnf); (exact ⟨rfl, rfl⟩))⟩, ?_⟩
                  conv => whnf
                  refine ⟨_, ⟨rfl, rfl, (by (conv => whnf); (exact ⟨rfl, rfl⟩))⟩, ?_⟩
                  conv => whnf
                  refine ⟨_, ⟨rfl, rfl, (by (conv => whnf); (refine lnS_map ?_); (conv => whnf); (exact ⟨rfl, rfl⟩))⟩, ?_⟩
                  conv => whnf
                  refine ⟨_, (fun H => by (conv => whnf); (exact ⟨rfl, rfl⟩)), ?_⟩
                  conv => whnf
                  refine ⟨_, (fun H => by (conv => whnf); (exact ⟨rfl, rfl⟩)), ?_⟩
                  conv => whnf
                  cases h
                  exact Wk.mk2 [0, 1, 2, 3, 6, 7, 4, 5] 8 rfl rfl (by decide) rfl ⟨⟨rfl, rfl⟩, ⟨rfl, rfl⟩, ⟨rfl, rfl⟩, ⟨rfl, (by first | rfl | (simp only [↓hb4, ↓hb96, ↓hb101, ↓hb119, cond_true, cond_false, Bool.true_or, Bool.or_true, Bool.false_or, Bool.or_false, Bool.true_and, Bool.and_true, Bool.false_and, Bool.and_false, Bool.not_true, Bool.not_false]; done) | (simp only [↓hb4, ↓hb96, ↓hb101, ↓hb119, cond_true, cond_false, Bool.true_or, Bool.or_true, Bool.false_or, Bool.or_false, Bool.true_and, Bool.and_true, Bool.false_and, Bool.and_false, Bool.not_true, Bool.not_false]; rfl))⟩, ⟨rfl, rfl⟩, ⟨rfl, rfl⟩, daS_d rfl, daS_d rfl, trivial⟩ ⟨⟨rfl, rfl⟩, ⟨rfl, rfl⟩, ⟨rfl, rfl⟩, ⟨rfl, (by first | rfl | (simp only [↓hb4, ↓hb96, ↓hb101, ↓hb119, cond_true, cond_false, Bool.true_or, Bool.or_true, Bool.false_or, Bool.or_false, Bool.true_and, Bool.and_true, Bool.false_and, Bool.and_false, Bool.not_true, Bool.not_false]; done) | (simp only [↓hb4, ↓hb96, ↓hb101, ↓hb119, cond_true, cond_false, Bool.true_or, Bool.or_true, Bool.false_or, Bool.or_false, Bool.true_and, Bool.and_true, Bool.false_and, Bool.and_false, Bool.not_true, Bool.not_false]; rfl))⟩, ⟨rfl, (by first | rfl | (simp only [↓hb4, ↓hb96, ↓hb101, ↓hb119, cond_true, cond_false, Bool.true_or, Bool.or_true, Bool.false_or, Bool.or_false, Bool.true_and, Bool.and_true, Bool.false_and, Bool.and_false, Bool.not_true, Bool.not_false]; done) | (simp only [↓hb4, ↓hb96, ↓hb101, ↓hb119, cond_true, cond_false, Bool.true_or, Bool.or_true, Bool.false_or, Bool.or_false, Bool.true_and, Bool.and_true, Bool.false_and, Bool.and_false, Bool.not_true, Bool.not_false]; rfl))⟩, ⟨rfl, rfl⟩, ⟨rfl, rfl⟩, ⟨rfl, rfl⟩, ⟨rfl, rfl⟩, trivial⟩
                · conv => whnf
                  refine ⟨_, (fun H => by (conv => whnf); (exact ⟨rfl, rfl⟩)), ?_⟩
                  conv => whnf
                  cases h
                  exact Wk.mk2 [0, 1, 2, 3, 6, 7, 4, 5] 8 rfl rfl (by decide) rfl ⟨⟨rfl, rfl⟩, ⟨rfl, rfl⟩, ⟨rfl, rfl⟩, ⟨rfl, (by first | rfl | (simp only [↓hb4, ↓hb96, ↓hb101, ↓hb119, cond_true, cond_false, Bool.true_or, Bool.or_true, Bool.false_or, Bool.or_false, Bool.true_and, Bool.and_true, Bool.false_and, Bool.and_false, Bool.not_true, Bool.not_false]; done) | (simp only [↓hb4, ↓hb96, ↓hb101, ↓hb119, cond_true, cond_false, Bool.true_or, Bool.or_true, Bool.false_or, Bool.or_false, Bool.true_and, Bool.and_true, Bool.false_and, Bool.and_false, Bool.not_true, Bool.not_false]; rfl))⟩, ⟨rfl, rfl⟩, ⟨rfl, rfl⟩, daS_d rfl, daS_d rfl, trivial⟩ ⟨⟨rfl, rfl⟩, ⟨rfl, rfl⟩, ⟨rfl, rfl⟩, ⟨rfl, (by first | rfl | (simp only [↓hb4, ↓hb96, ↓hb101, ↓hb119, cond_true, cond_false, Bool.true_or, Bool.or_true, Bool.false_or, Bool.or_false, Bool.true_and, Bool.and_true, Bool.false_and, Bool.and_false, Bool.not_true, Bool.not_false]; done) | (simp only [↓hb4, ↓hb96, ↓hb101, ↓hb119, cond_true, cond_false, Bool.true_or, Bool.or_true, Bool.false_or, Bool.or_false, Bool.true_and, Bool.and_true, Bool.false_and, Bool.and_false, Bool.not_true, Bool.not_false]; rfl))⟩, ⟨rfl, (by first | rfl | (simp only [↓hb4, ↓hb96, ↓hb101, ↓hb119, cond_true, cond_false, Bool.true_or, Bool.or_true, Bool.false_or, Bool.or_false, Bool.true_and, Bool.and_true, Bool.false_and, Bool.and_false, Bool.not_true, Bool.not_false]; done) | (simp only [↓hb4, ↓hb96, ↓hb101, ↓hb119, cond_true, cond_false, Bool.true_or, Bool.or_true, Bool.false_or, Bool.or_false, Bool.true_and, Bool.and_true, Bool.false_and, Bool.and_false, Bool.not_true, Bool.not_false]; rfl))⟩, ⟨rfl, rfl⟩, ⟨rfl, rfl⟩, ⟨rfl, rfl⟩, ⟨rfl, rfl⟩, trivial⟩
              · clear hv118
                conv => whnf
                refine Tr.weak hw ?_
                refine Tr.cond ?_
                conv => whnf
                refine condS_bif h (fun hb121 h => ?_) (fun hb121 h => ?_)
                · refine Tr.seq ?_
                  refine Tr.draw (DrawP.seqQ layOK mixed [(11, 8)] [(0, 7), (1, 7), (2, 6), (3, 6), (4, 2), (5, 2), (6, 8), (7, 8), (8, 2), (9, 2), (10, 0), (11, 0)] (by kernel_rfl) ?_)
                  conv => whnf
                  refine ⟨_, ⟨rfl, rfl, (by (conv => whnf); (exact ⟨rfl, rfl⟩))⟩, ?_⟩
                  conv => whnf
                  refine ⟨_, ⟨rfl, rfl, (by (conv => whnf); (exact ⟨rfl, rfl⟩))⟩, ?_⟩
                  conv => whnf
                  refine ⟨_, ⟨rfl, rfl, (by (conv => whnf); (exact ⟨rfl, rfl⟩))⟩, ?_⟩
                  conv => whnf
                  refine ⟨_, ⟨rfl, rfl, (by (conv => whnf); (exact ⟨rfl, rfl⟩))⟩, ?_⟩
                  conv => whnf
                  obtain ⟨x_122, hx_122, h⟩ := bind_some h
                  refine ⟨_, ⟨rfl, rfl, (by (conv => whnf); (refine ixP_of hx_122 ?_); (conv => whnf); (exact ⟨rfl, rfl⟩))⟩, ?_⟩
                  conv => whnf
                  refine ⟨_, ⟨rfl, rfl, (by (conv => whnf); (exact ⟨rfl, rfl⟩))⟩, ?_⟩
                  conv => whnf
                  refine ⟨_, ⟨rfl, rfl, (by (conv => whnf); (exact ⟨rfl, rfl⟩))⟩, ?_⟩
                  conv => whnf
                  refine ⟨_, ⟨rfl, rfl, (by (conv => whnf); (exact ⟨rfl, rfl⟩))⟩, ?_⟩
                  conv => whnf
                  obtain ⟨x_123, hx_123, h⟩ := bind_some h
                  refine ⟨_, ⟨rfl, rfl, (by (conv => whnf); (refine ixP_of hx_123 ?_); (conv => whnf); (exact ⟨rfl, rfl⟩))⟩, ?_⟩
                  conv => whnf
                  refine ⟨_, ⟨rfl, rfl, (by (conv => whnf); (exact ⟨rfl, rfl⟩))⟩, ?_⟩
                  conv => whnf
                  refine ⟨_, _, (by (conv => whnf); (exact ⟨rfl, rfl⟩)), kp_ok (by repeat (first | exact trivial | refine ⟨trivial, ?_⟩ | refine ⟨rfl, ?_⟩)), ?_⟩
                  conv => whnf
                  refine ⟨_, _, (by (conv => whnf); (exact ⟨rfl, rfl⟩)), kp_ok (by repeat (first | exact trivial | refine ⟨trivial, ?_⟩ | refine ⟨rfl, ?_⟩)), ?_⟩
                  conv => whnf
                  refine Tr.seq ?_
                  refine Tr.region layOK ?_
                  conv => whnf
                  refine Tr.cond ?_
                  conv => whnf
                  refine condS_bif h (fun hb124 h => ?_) (fun hb124 h => ?_)
                  · refine Tr.draw (DrawP.seqQ layOK mixed [(3, 1), (7, 5)] [(0, 11), (1, 11), (2, 1), (3, 0), (4, 1), (5, 1), (6, 8), (7, 0)] (by kernel_rfl) ?_)
                    conv => whnf
                    refine ⟨_, ⟨rfl, rfl, (by (conv => whnf); (exact ⟨rfl, rfl⟩))⟩, ?_⟩
                    conv => whnf
                    refine ⟨_, ⟨rfl, rfl, (by (conv => whnf); (exact ⟨rfl, rfl⟩))⟩, ?_⟩
                    conv => whnf
                    refine ⟨_, (fun H => by (conv => whnf); (exact ⟨rfl, rfl⟩)), ?_⟩
                    conv => whnf
                    obtain ⟨⟨r_125, b_126⟩, hc127, h⟩ := bind_some h
                    refine ⟨_, _, (by (conv => whnf); (refine MC.ecall (s_stopwatchlaw25_history_1 ((w64 (v_90 + 1))) picks_2 r_125 b_126 hc127) [1, 2] (by decide) rfl rfl ?_ (fun rs Bs1 hrs => ?_)); (· exact ⟨⟨rfl, rfl⟩, ⟨rfl, rfl⟩, trivial⟩); (obtain ⟨rfl, rfl⟩ := hrs); (conv => whnf); (exact ⟨rfl, rfl⟩)), kp_ok (by repeat (first | exact trivial | refine ⟨trivial, ?_⟩ | refine ⟨rfl, ?_⟩)), ?_⟩
                    conv => whnf
                    refine ⟨_, (fun H => by (conv => whnf); (exact ⟨rfl, rfl⟩)), ?_⟩
                    conv => whnf
                    refine ⟨_, (fun H => by (conv => whnf); (refine arS_raw ?_); (conv => whnf); (exact ⟨rfl, rfl⟩)), ?_⟩
                    conv => whnf
                    refine ⟨_, ⟨rfl, rfl, (by (conv => whnf); (exact ⟨rfl, rfl⟩))⟩, ?_⟩
                    conv => whnf
                    refine ⟨_, _, (by (conv => whnf); (exact ⟨rfl, rfl⟩)), kp_ok (by repeat (first | exact trivial | refine ⟨trivial, ?_⟩ | refine ⟨rfl, ?_⟩)), ?_⟩
                    conv => whnf
                    refine Tr.region layOK ?_
                    conv => whnf
                    refine orB_r ?_
                    conv => whnf
                    refine frP_no ?_
                    conv => whnf
                    refine eqS_mk (by first | rfl | simp) ?_
                    conv => whnf
                    obtain ⟨l_128, hl_128, h⟩ := bind_some h
                    refine apS_of hl_128 (apq_map (f := eTChoice) (l := (([({ Outcome := (bitK .i64 (BitVec.ofInt 64 x_116 &&& BitVec.ofInt 64 3)), X := (w64 (x_123.Lo + (bitK .i64 (BitVec.ofInt 64 r_125 &&& BitVec.ofInt 64 3)))) } : TChoice)] : List TChoice))) fun _ => rfl) (by first | rfl | simp) (by first | rfl | simp) (fun he => ?_)
                    conv => whnf
                    refine reS_mk (es' := List.map .d (List.map eTChoice l_128)) (n' := List.length l_128) (by subst he; simp only [List.map_append, List.map_cons, List.map_nil, List.nil_append]; first | done | rfl) (by subst he; simp <;> omega) ?_
                    clear he
                    conv => whnf
                    refine orB_l ?_
                    conv => whnf
                    cases h
                    exact Wk.mk2 [0, 1, 2, 3, 6, 9] 10 rfl rfl (by decide) rfl ⟨⟨rfl, rfl⟩, ⟨rfl, rfl⟩, ⟨rfl, rfl⟩, ⟨rfl, (by first | rfl | (simp only [↓hb4, ↓hb96, ↓hb101, ↓hb121, ↓hb124, cond_true, cond_false, Bool.true_or, Bool.or_true, Bool.false_or, Bool.or_false, Bool.true_and, Bool.and_true, Bool.false_and, Bool.and_false, Bool.not_true, Bool.not_false]; done) | (simp only [↓hb4, ↓hb96, ↓hb101, ↓hb121, ↓hb124, cond_true, cond_false, Bool.true_or, Bool.or_true, Bool.false_or, Bool.or_false, Bool.true_and, Bool.and_true, Bool.false_and, Bool.and_false, Bool.not_true, Bool.not_false]; rfl))⟩, daS_d rfl, daS_d rfl, trivial⟩ ⟨⟨rfl, rfl⟩, ⟨rfl, rfl⟩, ⟨rfl, rfl⟩, ⟨rfl, rfl⟩, ⟨rfl, rfl⟩, ⟨rfl, rfl⟩, trivial⟩
                  · refine Tr.skip ?_
                    conv => whnf
                    refine Tr.region layOK ?_
                    conv => whnf
                    refine orB_r ?_
                    conv => whnf
                    refine frP_no ?_
                    conv => whnf
                    refine eqS_mk (by first | rfl | simp) ?_
                    conv => whnf
                    obtain ⟨l_129, hl_129, h⟩ := bind_some h
                    refine apS_of hl_129 (apq_map (f := eTChoice) (l := (([({ Outcome := (bitK .i64 (BitVec.ofInt 64 x_116 &&& BitVec.ofInt 64 3)), X := 0 } : TChoice)] : List TChoice))) fun _ => rfl) (by first | rfl | simp) (by first | rfl | simp) (fun he => ?_)
                    conv => whnf
                    refine reS_mk (es' := List.map .d (List.map eTChoice l_129)) (n' := List.length l_129) (by subst he; simp only [List.map_append, List.map_cons, List.map_nil, List.nil_append]; first | done | rfl) (by subst he; simp <;> omega) ?_
                    clear he
                    conv => whnf
                    refine orB_l ?_
                    conv => whnf
                    cases h
                    exact Wk.mk2 [0, 1, 2, 3, 6, 9] 10 rfl rfl (by decide) rfl ⟨⟨rfl, rfl⟩, ⟨rfl, rfl⟩, ⟨rfl, rfl⟩, ⟨rfl, (by first | rfl | (simp only [↓hb4, ↓hb96, ↓hb101, ↓hb121, ↓hb124, cond_true, cond_false, Bool.true_or, Bool.or_true, Bool.false_or, Bool.or_false, Bool.true_and, Bool.and_true, Bool.false_and, Bool.and_false, Bool.not_true, Bool.not_false]; done) | (simp only [↓hb4, ↓hb96, ↓hb101, ↓hb121, ↓hb124, cond_true, cond_false, Bool.true_or, Bool.or_true, Bool.false_or, Bool.or_false, Bool.true_and, Bool.and_true, Bool.false_and, Bool.and_false, Bool.not_true, Bool.not_false]; rfl))⟩, daS_d rfl, daS_d rfl, trivial⟩ ⟨⟨rfl, rfl⟩, ⟨rfl, rfl⟩, ⟨rfl, rfl⟩, ⟨rfl, rfl⟩, ⟨rfl, rfl⟩, ⟨rfl, rfl⟩, trivial⟩
                · refine Tr.skip ?_
                  conv => whnf
                  refine Tr.region layOK ?_
                  conv => whnf
                  refine orB_r ?_
                  conv => whnf
                  refine frP_no ?_
                  conv => whnf
                  refine eqS_mk (by first | rfl | simp) ?_
                  conv => whnf
                  obtain ⟨l_130, hl_130, h⟩ := bind_some h
                  refine apS_of hl_130 (apq_map (f := eTChoice) (l := (([({ Outcome := (bitK .i64 (BitVec.ofInt 64 x_116 &&& BitVec.ofInt 64 3)), X := 0 } : TChoice)] : List TChoice))) fun _ => rfl) (by first | rfl | simp) (by first | rfl | simp) (fun he => ?_)
                  conv => whnf
                  refine reS_mk (es' := List.map .d (List.map eTChoice l_130)) (n' := List.length l_130) (by subst he; simp only [List.map_append, List.map_cons, List.map_nil, List.nil_append]; first | done | rfl) (by subst he; simp <;> omega) ?_
                  clear he
                  conv => whnf
                  refine orB_l ?_
                  conv => whnf
                  cases h
                  exact Wk.mk2 [0, 1, 2, 3, 6, 8] 9 rfl rfl (by decide) rfl ⟨⟨rfl, rfl⟩, ⟨rfl, rfl⟩, ⟨rfl, rfl⟩, ⟨rfl, (by first | rfl | (simp only [↓hb4, ↓hb96, ↓hb101, ↓hb121, cond_true, cond_false, Bool.true_or, Bool.or_true, Bool.false_or, Bool.or_false, Bool.true_and, Bool.and_true, Bool.false_and, Bool.and_false, Bool.not_true, Bool.not_false]; done) | (simp only [↓hb4, ↓hb96, ↓hb101, ↓hb121, cond_true, cond_false, Bool.true_or, Bool.or_true, Bool.false_or, Bool.or_false, Bool.true_and, Bool.and_true, Bool.false_and, Bool.and_false, Bool.not_true, Bool.not_false]; rfl))⟩, daS_d rfl, daS_d rfl, trivial⟩ ⟨⟨rfl, rfl⟩, ⟨rfl, rfl⟩, ⟨rfl, rfl⟩, ⟨rfl, rfl⟩, ⟨rfl, rfl⟩, ⟨rfl, rfl⟩, trivial⟩
          · clear hv99
            conv => whnf
            refine Tr.weak hw ?_
            refine Tr.region layOK ?_
            conv => whnf
            refine arS_raw ?_
            conv => whnf
            refine ⟨((w64 (v_89 + 1)), v_97, l_98), h, ?_⟩
            exact Wk.mk2 [0, 1, 2, 3, 4, 5] 6 rfl rfl (by decide) rfl ⟨⟨rfl, rfl⟩, ⟨rfl, rfl⟩, ⟨rfl, rfl⟩, ⟨rfl, rfl⟩, daS_d rfl, daS_d rfl, trivial⟩ ⟨⟨rfl, rfl⟩, ⟨rfl, rfl⟩, ⟨rfl, rfl⟩, ⟨rfl, rfl⟩, ⟨rfl, rfl⟩, ⟨rfl, rfl⟩, trivial⟩
        · refine Tr.exit ?_
          conv => whnf
          cases h
          exact Wk.mk2 [0, 3, 4, 5] 6 rfl rfl (by decide) rfl ⟨⟨rfl, rfl⟩, ⟨rfl, (by first | rfl | (simp only [↓hb4, ↓hb96, cond_true, cond_false, Bool.true_or, Bool.or_true, Bool.false_or, Bool.or_false, Bool.true_and, Bool.and_true, Bool.false_and, Bool.and_false, Bool.not_true, Bool.not_false]; done) | (simp only [↓hb4, ↓hb96, cond_true, cond_false, Bool.true_or, Bool.or_true, Bool.false_or, Bool.or_false, Bool.true_and, Bool.and_true, Bool.false_and, Bool.and_false, Bool.not_true, Bool.not_false]; rfl))⟩, daS_d rfl, daS_d rfl, trivial⟩ ⟨⟨rfl, rfl⟩, ⟨rfl, (by first | rfl | (simp only [↓hb4, ↓hb96, cond_true, cond_false, Bool.true_or, Bool.or_true, Bool.false_or, Bool.or_false, Bool.true_and, Bool.and_true, Bool.false_and, Bool.and_false, Bool.not_true, Bool.not_false]; done) | (simp only [↓hb4, ↓hb96, cond_true, cond_false, Bool.true_or, Bool.or_true, Bool.false_or, Bool.or_false, Bool.true_and, Bool.and_true, Bool.false_and, Bool.and_false, Bool.not_true, Bool.not_false]; rfl))⟩, trivial⟩
      · clear hv131
        conv => whnf
        refine Tr.weak hw ?_
        refine Tr.seq ?_
        refine Tr.region layOK ?_
        conv => whnf
        refine orB_l ?_
        conv => whnf
        refine Tr.ret ?_
        conv => whnf
        refine frE_of (f := eI) (l := l_77) rfl ?_
        conv => whnf
        refine frE_of (f := eTChoice) (l := l_93) rfl ?_
        conv => whnf
        cases h
        rfl

theorem s_stopwatchlaw25_RanksInside (f_1 : TField) (picks_2 : List Int) (r_3 : Bool) (h : m_stopwatchlaw25_RanksInside f_1 picks_2 = some r_3) :
    PC prog 4 [(eTField f_1), (.ls (List.map eI picks_2))] (fun rs => rs = [(.b r_3)]) := by
  refine PC.of_tr (cx := ⟨142, none, lay, 0⟩) layOK func4 rfl rfl rfl rfl rfl (by simp [f4]) ?_
  unfold m_stopwatchlaw25_RanksInside at h
  refine Tr.seq ?_
  refine Tr.region layOK ?_
  conv => whnf
  refine Tr.seq ?_
  refine Tr.seq ?_
  refine Tr.region layOK ?_
  conv => whnf
  obtain ⟨r_4, hc5, h⟩ := bind_some h
  refine PC.ecall (s_stopwatchlaw25_sane r_4 hc5) (fun rs hrs => ?_)
  subst hrs
  conv => whnf
  refine Tr.cond ?_
  conv => whnf
  refine condS_bif h (fun hb6 h => ?_) (fun hb6 h => ?_)
  · refine Tr.seq ?_
    refine Tr.region layOK ?_
    conv => whnf
    refine Tr.ret ?_
    conv => whnf
    cases h
    rfl
  · refine Tr.skip ?_
    conv => whnf
    refine Tr.seq ?_
    refine Tr.seq ?_
    refine Tr.region layOK ?_
    conv => whnf
    obtain ⟨r_7, hc8, h⟩ := bind_some h
    refine PC.ecall (s_stopwatchref25_Few f_1 r_7 hc8) (fun rs hrs => ?_)
    subst hrs
    conv => whnf
    refine condS_bif h (fun hb9 h => ?_) (fun hb9 h => ?_)
    · conv => whnf
      refine Tr.cond ?_
      conv => whnf
      refine Tr.seq ?_
      refine Tr.region layOK ?_
      conv => whnf
      refine Tr.ret ?_
      conv => whnf
      cases h
      rfl
    · conv => whnf
      obtain ⟨r_10, hc11, h⟩ := bind_some h
      refine PC.ecall (s_stopwatchref24_Check f_1 r_10 hc11) (fun rs hrs => ?_)
      subst hrs
      conv => whnf
      refine Tr.cond ?_
      conv => whnf
      refine condS_bif h (fun hb12 h => ?_) (fun hb12 h => ?_)
      · refine Tr.seq ?_
        refine Tr.region layOK ?_
        conv => whnf
        refine Tr.ret ?_
        conv => whnf
        cases h
        rfl
      · refine Tr.skip ?_
        conv => whnf
        refine Tr.seq ?_
        refine Tr.region layOK ?_
        conv => whnf
        obtain ⟨r_13, hc14, h⟩ := bind_some h
        refine PC.ecall (s_stopwatchlaw25_history f_1 picks_2 r_13 hc14) (fun rs hrs => ?_)
        subst hrs
        conv => whnf
        refine Tr.seq ?_
        refine Tr.seq ?_
        refine Tr.region layOK ?_
        conv => whnf
        obtain ⟨r_15, hc16, h⟩ := bind_some h
        refine PC.ecall (s_stopwatchref25_Admissible f_1 r_13 r_15 hc16) (fun rs hrs => ?_)
        subst hrs
        conv => whnf
        refine Tr.cond ?_
        conv => whnf
        refine condS_bif h (fun hb17 h => ?_) (fun hb17 h => ?_)
        · refine Tr.seq ?_
          refine Tr.region layOK ?_
          conv => whnf
          refine Tr.ret ?_
          conv => whnf
          cases h
          rfl
        · refine Tr.skip ?_
          conv => whnf
          refine Tr.seq ?_
          refine Tr.seq ?_
          refine Tr.region layOK ?_
          conv => whnf
          refine lnS_map ?_
          conv => whnf
          refine Tr.cutQ (α := Unit) (fun s => ([(4, .d (.b false))], [])) (fun s => m_stopwatchlaw25_RanksInside_J4 s = some r_3) ?_ ?_
          · refine Tr.block ?_
            refine Tr.loopM (σ := Int) (fun n s => m_stopwatchlaw25_RanksInside_L1 f_1 r_13 m_stopwatchlaw25_RanksInside_J4 n s) r_3 (fun s => ([(2, .pt 0 0), (4, .d (.b false)), (5, .pt 1 0), (34, .d (.ls (List.map eTRunner f_1.Runners))), (35, .d (.i .i64 (((f_1.Runners).length : Int)))), (36, .d (.i .i64 s))], [some (.var [.d (.ls (List.map eTSegment f_1.Clocks.Segments)), .d (.ls (List.map (eL eI) f_1.Clocks.Far)), .d (.ls (List.map eTPair f_1.Pairs)), .d (.ls (List.map eTRunner f_1.Runners))]), some (.var [.d (.i .i64 r_13.World), .d (.ls (List.map eI r_13.Offsets)), .d (.ls (List.map eTChoice r_13.Choices))])])) (((((f_1.Runners).length : Int)) - 0 : Int).toNat + 1) (0) h (fun s => rfl) (Wk.mk2 [0, 1] 2 rfl rfl (by decide) rfl ⟨⟨rfl, rfl⟩, ⟨rfl, rfl⟩, trivial⟩ ⟨⟨rfl, rfl⟩, ⟨rfl, rfl⟩, ⟨rfl, rfl⟩, ⟨rfl, rfl⟩, ⟨rfl, rfl⟩, ⟨rfl, rfl⟩, trivial⟩) ?_
            clear h
            rintro n_20 v_19 h
            replace h : m_stopwatchlaw25_RanksInside_L1 f_1 r_13 m_stopwatchlaw25_RanksInside_J4 (n_20 + 1) v_19 = some r_3 := h
            rw [m_stopwatchlaw25_RanksInside_L1] at h
            refine Tr.seq ?_
            refine Tr.region layOK ?_
            conv => whnf
            refine Tr.seq ?_
            refine Tr.cond ?_
            conv => whnf
            refine condS_bif h (fun hb23 h => ?_) (fun hb23 h => ?_)
            · refine Tr.skip ?_
              conv => whnf
              refine Tr.seq ?_
              refine Tr.block ?_
              refine Tr.seq ?_
              refine Tr.region layOK ?_
              conv => whnf
              obtain ⟨x_24, hx_24, h⟩ := bind_some h
              refine ixP_of hx_24 ?_
              conv => whnf
              refine Tr.seq ?_
              refine Tr.region layOK ?_
              conv => whnf
              obtain ⟨⟨r_25, r_26⟩, hc27, h⟩ := bind_some h
              refine PC.ecall (s_ranks_Of f_1 v_19 r_25 r_26 hc27) (fun rs hrs => ?_)
              subst hrs
              conv => whnf
              refine Tr.seq ?_
              refine Tr.region layOK ?_
              conv => whnf
              obtain ⟨r_28, hc29, h⟩ := bind_some h
              refine PC.ecall (s_stopwatchref25_Rank f_1 r_13 v_19 r_28 hc29) (fun rs hrs => ?_)
              subst hrs
              conv => whnf
              refine Tr.seq ?_
              refine Tr.seq ?_
              refine Tr.cutQ1 ([(2, .pt 0 0), (4, .d (.b false)), (5, .pt 1 0), (6, .d (.i .i64 v_19)), (34, .d (.ls (List.map eTRunner f_1.Runners))), (35, .d (.i .i64 (((f_1.Runners).length : Int)))), (36, .d (.i .i64 v_19)), (104, .d (.b ((r_26 != 0) || ((r_25.Bib != x_24.Bib) || (bif (r_28 == 0) then ((!r_25.Out) || (bif (decide (r_28 > 0)) then ((decide (r_28 < r_25.Lo)) || ((decide (r_28 > r_25.Hi)) || (bif (r_25.Kind == 1) then ((r_28 != r_25.Lo) || ((r_25.Kind == 3) && (r_28 != 0))) else ((r_25.Kind == 3) && (r_28 != 0))))) else (bif (r_25.Kind == 1) then ((r_28 != r_25.Lo) || ((r_25.Kind == 3) && (r_28 != 0))) else ((r_25.Kind == 3) && (r_28 != 0))))) else (bif (decide (r_28 > 0)) then ((decide (r_28 < r_25.Lo)) || ((decide (r_28 > r_25.Hi)) || (bif (r_25.Kind == 1) then ((r_28 != r_25.Lo) || ((r_25.Kind == 3) && (r_28 != 0))) else ((r_25.Kind == 3) && (r_28 != 0))))) else (bif (r_25.Kind == 1) then ((r_28 != r_25.Lo) || ((r_25.Kind == 3) && (r_28 != 0))) else ((r_25.Kind == 3) && (r_28 != 0)))))))))]) ([some (.var [.d (.ls (List.map eTSegment f_1.Clocks.Segments)), .d (.ls (List.map (eL eI) f_1.Clocks.Far)), .d (.ls (List.map eTPair f_1.Pairs)), .d (.ls (List.map eTRunner f_1.Runners))]), some (.var [.d (.i .i64 r_13.World), .d (.ls (List.map eI r_13.Offsets)), .d (.ls (List.map eTChoice r_13.Choices))])]) ?_ (fun T1 H1 hw => ?_)
              · refine Tr.region layOK ?_
                conv => whnf
                refine condS_mk (fun hb31 => ?_) (fun hb31 => ?_)
                · conv => whnf
                  exact Wk.mk2 [0, 1] 4 rfl rfl (by decide) rfl ⟨⟨rfl, rfl⟩, ⟨rfl, rfl⟩, trivial⟩ ⟨⟨rfl, rfl⟩, ⟨rfl, rfl⟩, ⟨rfl, rfl⟩, ⟨rfl, rfl⟩, ⟨rfl, rfl⟩, ⟨rfl, rfl⟩, ⟨rfl, rfl⟩, ⟨rfl, (by first | rfl | (simp only [↓hb6, ↓hb9, ↓hb12, ↓hb17, ↓hb23, ↓hb31, cond_true, cond_false, Bool.true_or, Bool.or_true, Bool.false_or, Bool.or_false, Bool.true_and, Bool.and_true, Bool.false_and, Bool.and_false, Bool.not_true, Bool.not_false]; done) | (simp only [↓hb6, ↓hb9, ↓hb12, ↓hb17, ↓hb23, ↓hb31, cond_true, cond_false, Bool.true_or, Bool.or_true, Bool.false_or, Bool.or_false, Bool.true_and, Bool.and_true, Bool.false_and, Bool.and_false, Bool.not_true, Bool.not_false]; rfl))⟩, trivial⟩
                · conv => whnf
                  refine condS_mk (fun hb32 => ?_) (fun hb32 => ?_)
                  · conv => whnf
                    exact Wk.mk2 [0, 1] 4 rfl rfl (by decide) rfl ⟨⟨rfl, rfl⟩, ⟨rfl, rfl⟩, trivial⟩ ⟨⟨rfl, rfl⟩, ⟨rfl, rfl⟩, ⟨rfl, rfl⟩, ⟨rfl, rfl⟩, ⟨rfl, rfl⟩, ⟨rfl, rfl⟩, ⟨rfl, rfl⟩, ⟨rfl, (by first | rfl | (simp only [↓hb6, ↓hb9, ↓hb12, ↓hb17, ↓hb23, ↓hb31, ↓hb32, cond_true, cond_false, Bool.true_or, Bool.or_true, Bool.false_or, Bool.or_false, Bool.true_and, Bool.and_true, Bool.false_and, Bool.and_false, Bool.not_true, Bool.not_false]; done) | (simp only [↓hb6, ↓hb9, ↓hb12, ↓hb17, ↓hb23, ↓hb31, ↓hb32, cond_true, cond_false, Bool.true_or, Bool.or_true, Bool.false_or, Bool.or_false, Bool.true_and, Bool.and_true, Bool.false_and, Bool.and_false, Bool.not_true, Bool.not_false]; rfl))⟩, trivial⟩
                  · conv => whnf
                    refine condS_mk (fun hb33 => ?_) (fun hb33 => ?_)
                    · conv => whnf
                      refine condS_mk (fun hb34 => ?_) (fun hb34 => ?_)
                      · conv => whnf
                        exact Wk.mk2 [0, 1] 4 rfl rfl (by decide) rfl ⟨⟨rfl, rfl⟩, ⟨rfl, rfl⟩, trivial⟩ ⟨⟨rfl, rfl⟩, ⟨rfl, rfl⟩, ⟨rfl, rfl⟩, ⟨rfl, rfl⟩, ⟨rfl, rfl⟩, ⟨rfl, rfl⟩, ⟨rfl, rfl⟩, ⟨rfl, (by first | rfl | (simp only [↓hb6, ↓hb9, ↓hb12, ↓hb17, ↓hb23, ↓hb31, ↓hb32, ↓hb33, ↓hb34, cond_true, cond_false, Bool.true_or, Bool.or_true, Bool.false_or, Bool.or_false, Bool.true_and, Bool.and_true, Bool.false_and, Bool.and_false, Bool.not_true, Bool.not_false]; done) | (simp only [↓hb6, ↓hb9, ↓hb12, ↓hb17, ↓hb23, ↓hb31, ↓hb32, ↓hb33, ↓hb34, cond_true, cond_false, Bool.true_or, Bool.or_true, Bool.false_or, Bool.or_false, Bool.true_and, Bool.and_true, Bool.false_and, Bool.and_false, Bool.not_true, Bool.not_false]; rfl))⟩, trivial⟩
                      · conv => whnf
                        refine condS_mk (fun hb35 => ?_) (fun hb35 => ?_)
                        · conv => whnf
                          refine condS_mk (fun hb36 => ?_) (fun hb36 => ?_)
                          · conv => whnf
                            exact Wk.mk2 [0, 1] 4 rfl rfl (by decide) rfl ⟨⟨rfl, rfl⟩, ⟨rfl, rfl⟩, trivial⟩ ⟨⟨rfl, rfl⟩, ⟨rfl, rfl⟩, ⟨rfl, rfl⟩, ⟨rfl, rfl⟩, ⟨rfl, rfl⟩, ⟨rfl, rfl⟩, ⟨rfl, rfl⟩, ⟨rfl, (by first | rfl | (simp only [↓hb6, ↓hb9, ↓hb12, ↓hb17, ↓hb23, ↓hb31, ↓hb32, ↓hb33, ↓hb34, ↓hb35, ↓hb36, cond_true, cond_false, Bool.true_or, Bool.or_true, Bool.false_or, Bool.or_false, Bool.true_and, Bool.and_true, Bool.false_and, Bool.and_false, Bool.not_true, Bool.not_false]; done) | (simp only [↓hb6, ↓hb9, ↓hb12, ↓hb17, ↓hb23, ↓hb31, ↓hb32, ↓hb33, ↓hb34, ↓hb35, ↓hb36, cond_true, cond_false, Bool.true_or, Bool.or_true, Bool.false_or, Bool.or_false, Bool.true_and, Bool.and_true, Bool.false_and, Bool.and_false, Bool.not_true, Bool.not_false]; rfl))⟩, trivial⟩
                          · conv => whnf
                            refine condS_mk (fun hb37 => ?_) (fun hb37 => ?_)
                            · conv => whnf
                              exact Wk.mk2 [0, 1] 4 rfl rfl (by decide) rfl ⟨⟨rfl, rfl⟩, ⟨rfl, rfl⟩, trivial⟩ ⟨⟨rfl, rfl⟩, ⟨rfl, rfl⟩, ⟨rfl, rfl⟩, ⟨rfl, rfl⟩, ⟨rfl, rfl⟩, ⟨rfl, rfl⟩, ⟨rfl, rfl⟩, ⟨rfl, (by first | rfl | (simp only [↓hb6, ↓hb9, ↓hb12, ↓hb17, ↓hb23, ↓hb31, ↓hb32, ↓hb33, ↓hb34, ↓hb35, ↓hb36, ↓hb37, cond_true, cond_false, Bool.true_or, Bool.or_true, Bool.false_or, Bool.or_false, Bool.true_and, Bool.and_true, Bool.false_and, Bool.and_false, Bool.not_true, Bool.not_false]; done) | (simp only [↓hb6, ↓hb9, ↓hb12, ↓hb17, ↓hb23, ↓hb31, ↓hb32, ↓hb33, ↓hb34, ↓hb35, ↓hb36, ↓hb37, cond_true, cond_false, Bool.true_or, Bool.or_true, Bool.false_or, Bool.or_false, Bool.true_and, Bool.and_true, Bool.false_and, Bool.and_false, Bool.not_true, Bool.not_false]; rfl))⟩, trivial⟩
                            · conv => whnf
                              refine condS_mk (fun hb38 => ?_) (fun hb38 => ?_)
                              · conv => whnf
                                refine condS_mk (fun hb39 => ?_) (fun hb39 => ?_)
                                · conv => whnf
                                  exact Wk.mk2 [0, 1] 4 rfl rfl (by decide) rfl ⟨⟨rfl, rfl⟩, ⟨rfl, rfl⟩, trivial⟩ ⟨⟨rfl, rfl⟩, ⟨rfl, rfl⟩, ⟨rfl, rfl⟩, ⟨rfl, rfl⟩, ⟨rfl, rfl⟩, ⟨rfl, rfl⟩, ⟨rfl, rfl⟩, ⟨rfl, (by first | rfl | (simp only [↓hb6, ↓hb9, ↓hb12, ↓hb17, ↓hb23, ↓hb31, ↓hb32, ↓hb33, ↓hb34, ↓hb35, ↓hb36, ↓hb37, ↓hb38, ↓hb39, cond_true, cond_false, Bool.true_or, Bool.or_true, Bool.false_or, Bool.or_false, Bool.true_and, Bool.and_true, Bool.false_and, Bool.and_false, Bool.not_true, Bool.not_false]; done) | (simp only [↓hb6, ↓hb9, ↓hb12, ↓hb17, ↓hb23, ↓hb31, ↓hb32, ↓hb33, ↓hb34, ↓hb35, ↓hb36, ↓hb37, ↓hb38, ↓hb39, cond_true, cond_false, Bool.true_or, Bool.or_true, Bool.false_or, Bool.or_false, Bool.true_and, Bool.and_true, Bool.false_and, Bool.and_false, Bool.not_true, Bool.not_false]; rfl))⟩, trivial⟩
                                · conv => whnf
                                  refine condS_mk (fun hb40 => ?_) (fun hb40 => ?_)
                                  · conv => whnf
                                    exact Wk.mk2 [0, 1] 4 rfl rfl (by decide) rfl ⟨⟨rfl, rfl⟩, ⟨rfl, rfl⟩, trivial⟩ ⟨⟨rfl, rfl⟩, ⟨rfl, rfl⟩, ⟨rfl, rfl⟩, ⟨rfl, rfl⟩, ⟨rfl, rfl⟩, ⟨rfl, rfl⟩, ⟨rfl, rfl⟩, ⟨rfl, (by first | rfl | (simp only [↓hb6, ↓hb9, ↓hb12, ↓hb17, ↓hb23, ↓hb31, ↓hb32, ↓hb33, ↓hb34, ↓hb35, ↓hb36, ↓hb37, ↓hb38, ↓hb39, ↓hb40, cond_true, cond_false, Bool.true_or, Bool.or_true, Bool.false_or, Bool.or_false, Bool.true_and, Bool.and_true, Bool.false_and, Bool.and_false, Bool.not_true, Bool.not_false]; done) | (simp only [↓hb6, ↓hb9, ↓hb12, ↓hb17, ↓hb23, ↓hb31, ↓hb32, ↓hb33, ↓hb34, ↓hb35, ↓hb36, ↓hb37, ↓hb38, ↓hb39, ↓hb40, cond_true, cond_false, Bool.true_or, Bool.or_true, Bool.false_or, Bool.or_false, Bool.true_and, Bool.and_true, Bool.false_and, Bool.and_false, Bool.not_true, Bool.not_false]; rfl))⟩, trivial⟩
                                  · conv => whnf
                                    exact Wk.mk2 [0, 1] 4 rfl rfl (by decide) rfl ⟨⟨rfl, rfl⟩, ⟨rfl, rfl⟩, trivial⟩ ⟨⟨rfl, rfl⟩, ⟨rfl, rfl⟩, ⟨rfl, rfl⟩, ⟨rfl, rfl⟩, ⟨rfl, rfl⟩, ⟨rfl, rfl⟩, ⟨rfl, rfl⟩, ⟨rfl, (by first | rfl | (simp only [↓hb6, ↓hb9, ↓hb12, ↓hb17, ↓hb23, ↓hb31, ↓hb32, ↓hb33, ↓hb34, ↓hb35, ↓hb36, ↓hb37, ↓hb38, ↓hb39, ↓hb40, cond_true, cond_false, Bool.true_or, Bool.or_true, Bool.false_or, Bool.or_false, Bool.true_and, Bool.and_true, Bool.false_and, Bool.and_false, Bool.not_true, Bool.not_false]; done) | (simp only [↓hb6, ↓hb9, ↓hb12, ↓hb17, ↓hb23, ↓hb31, ↓hb32, ↓hb33, ↓hb34, ↓hb35, ↓hb36, ↓hb37, ↓hb38, ↓hb39, ↓hb40, cond_true, cond_false, Bool.true_or, Bool.or_true, Bool.false_or, Bool.or_false, Bool.true_and, Bool.and_true, Bool.false_and, Bool.and_false, Bool.not_true, Bool.not_false]; rfl))⟩, trivial⟩
                              · conv => whnf
                                refine condS_mk (fun hb41 => ?_) (fun hb41 => ?_)
                                · conv => whnf
                                  exact Wk.mk2 [0, 1] 4 rfl rfl (by decide) rfl ⟨⟨rfl, rfl⟩, ⟨rfl, rfl⟩, trivial⟩ ⟨⟨rfl, rfl⟩, ⟨rfl, rfl⟩, ⟨rfl, rfl⟩, ⟨rfl, rfl⟩, ⟨rfl, rfl⟩, ⟨rfl, rfl⟩, ⟨rfl, rfl⟩, ⟨rfl, (by first | rfl | (simp only [↓hb6, ↓hb9, ↓hb12, ↓hb17, ↓hb23, ↓hb31, ↓hb32, ↓hb33, ↓hb34, ↓hb35, ↓hb36, ↓hb37, ↓hb38, ↓hb41, cond_true, cond_false, Bool.true_or, Bool.or_true, Bool.false_or, Bool.or_false, Bool.true_and, Bool.and_true, Bool.false_and, Bool.and_false, Bool.not_true, Bool.not_false]; done) | (simp only [↓hb6, ↓hb9, ↓hb12, ↓hb17, ↓hb23, ↓hb31, ↓hb32, ↓hb33, ↓hb34, ↓hb35, ↓hb36, ↓hb37, ↓hb38, ↓hb41, cond_true, cond_false, Bool.true_or, Bool.or_true, Bool.false_or, Bool.or_false, Bool.true_and, Bool.and_true, Bool.false_and, Bool.and_false, Bool.not_true, Bool.not_false]; rfl))⟩, trivial⟩
                                · conv => whnf
                                  exact Wk.mk2 [0, 1] 4 rfl rfl (by decide) rfl ⟨⟨rfl, rfl⟩, ⟨rfl, rfl⟩, trivial⟩ ⟨⟨rfl, rfl⟩, ⟨rfl, rfl⟩, ⟨rfl, rfl⟩, ⟨rfl, rfl⟩, ⟨rfl, rfl⟩, ⟨rfl, rfl⟩, ⟨rfl, rfl⟩, ⟨rfl, (by first | rfl | (simp only [↓hb6, ↓hb9, ↓hb12, ↓hb17, ↓hb23, ↓hb31, ↓hb32, ↓hb33, ↓hb34, ↓hb35, ↓hb36, ↓hb37, ↓hb38, ↓hb41, cond_true, cond_false, Bool.true_or, Bool.or_true, Bool.false_or, Bool.or_false, Bool.true_and, Bool.and_true, Bool.false_and, Bool.and_false, Bool.not_true, Bool.not_false]; done) | (simp only [↓hb6, ↓hb9, ↓hb12, ↓hb17, ↓hb23, ↓hb31, ↓hb32, ↓hb33, ↓hb34, ↓hb35, ↓hb36, ↓hb37, ↓hb38, ↓hb41, cond_true, cond_false, Bool.true_or, Bool.or_true, Bool.false_or, Bool.or_false, Bool.true_and, Bool.and_true, Bool.false_and, Bool.and_false, Bool.not_true, Bool.not_false]; rfl))⟩, trivial⟩
                        · conv => whnf
                          refine condS_mk (fun hb42 => ?_) (fun hb42 => ?_)
                          · conv => whnf
                            refine condS_mk (fun hb43 => ?_) (fun hb43 => ?_)
                            · conv => whnf
                              exact Wk.mk2 [0, 1] 4 rfl rfl (by decide) rfl ⟨⟨rfl, rfl⟩, ⟨rfl, rfl⟩, trivial⟩ ⟨⟨rfl, rfl⟩, ⟨rfl, rfl⟩, ⟨rfl, rfl⟩, ⟨rfl, rfl⟩, ⟨rfl, rfl⟩, ⟨rfl, rfl⟩, ⟨rfl, rfl⟩, ⟨rfl, (by first | rfl | (simp only [↓hb6, ↓hb9, ↓hb12, ↓hb17, ↓hb23, ↓hb31, ↓hb32, ↓hb33, ↓hb34, ↓hb35, ↓hb42, ↓hb43, cond_true, cond_false, Bool.true_or, Bool.or_true, Bool.false_or, Bool.or_false, Bool.true_and, Bool.and_true, Bool.false_and, Bool.and_false, Bool.not_true, Bool.not_false]; done) | (simp only [↓hb6, ↓hb9, ↓hb12, ↓hb17, ↓hb23, ↓hb31, ↓hb32, ↓hb33, ↓hb34, ↓hb35, ↓hb42, ↓hb43, cond_true, cond_false, Bool.true_or, Bool.or_true, Bool.false_or, Bool.or_false, Bool.true_and, Bool.and_true, Bool.false_and, Bool.and_false, Bool.not_true, Bool.not_false]; rfl))⟩, trivial⟩
                            · conv => whnf
                              refine condS_mk (fun hb44 => ?_) (fun hb44 => ?_)
                              · conv => whnf
                                exact Wk.mk2 [0, 1] 4 rfl rfl (by decide) rfl ⟨⟨rfl, rfl⟩, ⟨rfl, rfl⟩, trivial⟩ ⟨⟨rfl, rfl⟩, ⟨rfl, rfl⟩, ⟨rfl, rfl⟩, ⟨rfl, rfl⟩, ⟨rfl, rfl⟩, ⟨rfl, rfl⟩, ⟨rfl, rfl⟩, ⟨rfl, (by first | rfl | (simp only [↓hb6, ↓hb9, ↓hb12, ↓hb17, ↓hb23, ↓hb31, ↓hb32, ↓hb33, ↓hb34, ↓hb35, ↓hb42, ↓hb43, ↓hb44, cond_true, cond_false, Bool.true_or, Bool.or_true, Bool.false_or, Bool.or_false, Bool.true_and, Bool.and_true, Bool.false_and, Bool.and_false, Bool.not_true, Bool.not_false]; done) | (simp only [↓hb6, ↓hb9, ↓hb12, ↓hb17, ↓hb23, ↓hb31, ↓hb32, ↓hb33, ↓hb34, ↓hb35, ↓hb42, ↓hb43, ↓hb44, cond_true, cond_false, Bool.true_or, Bool.or_true, Bool.false_or, Bool.or_false, Bool.true_and, Bool.and_true, Bool.false_and, Bool.and_false, Bool.not_true, Bool.not_false]; rfl))⟩, trivial⟩
                              · conv => whnf
                                exact Wk.mk2 [0, 1] 4 rfl rfl (by decide) rfl ⟨⟨rfl, rfl⟩, ⟨rfl, rfl⟩, trivial⟩ ⟨⟨rfl, rfl⟩, ⟨rfl, rfl⟩, ⟨rfl, rfl⟩, ⟨rfl, rfl⟩, ⟨rfl, rfl⟩, ⟨rfl, rfl⟩, ⟨rfl, rfl⟩, ⟨rfl, (by first | rfl | (simp only [↓hb6, ↓hb9, ↓hb12, ↓hb17, ↓hb23, ↓hb31, ↓hb32, ↓hb33, ↓hb34, ↓hb35, ↓hb42, ↓hb43, ↓hb44, cond_true, cond_false, Bool.true_or, Bool.or_true, Bool.false_or, Bool.or_false, Bool.true_and, Bool.and_true, Bool.false_and, Bool.and_false, Bool.not_true, Bool.not_false]; done) | (simp only [↓hb6, ↓hb9, ↓hb12, ↓hb17, ↓hb23, ↓hb31, ↓hb32, ↓hb33, ↓hb34, ↓hb35, ↓hb42, ↓hb43, ↓hb44, cond_true, cond_false, Bool.true_or, Bool.or_true, Bool.false_or, Bool.or_false, Bool.true_and, Bool.and_true, Bool.false_and, Bool.and_false, Bool.not_true, Bool.not_false]; rfl))⟩, trivial⟩
                          · conv => whnf
                            refine condS_mk (fun hb45 => ?_) (fun hb45 => ?_)
                            · conv => whnf
                              exact Wk.mk2 [0, 1] 4 rfl rfl (by decide) rfl ⟨⟨rfl, rfl⟩, ⟨rfl, rfl⟩, trivial⟩ ⟨⟨rfl, rfl⟩, ⟨rfl, rfl⟩, ⟨rfl, rfl⟩, ⟨rfl, rfl⟩, ⟨rfl, rfl⟩, ⟨rfl, rfl⟩, ⟨rfl, rfl⟩, ⟨rfl, (by first | rfl | (simp only [↓hb6, ↓hb9, ↓hb12, ↓hb17, ↓hb23, ↓hb31, ↓hb32, ↓hb33, ↓hb34, ↓hb35, ↓hb42, ↓hb45, cond_true, cond_false, Bool.true_or, Bool.or_true, Bool.false_or, Bool.or_false, Bool.true_and, Bool.and_true, Bool.false_and, Bool.and_false, Bool.not_true, Bool.not_false]; done) | (simp only [↓hb6, ↓hb9, ↓hb12, ↓hb17, ↓hb23, ↓hb31, ↓hb32, ↓hb33, ↓hb34, ↓hb35, ↓hb42, ↓hb45, cond_true, cond_false, Bool.true_or, Bool.or_true, Bool.false_or, Bool.or_false, Bool.true_and, Bool.and_true, Bool.false_and, Bool.and_false, Bool.not_true, Bool.not_false]; rfl))⟩, trivial⟩
                            · conv => whnf
                              exact Wk.mk2 [0, 1] 4 rfl rfl (by decide) rfl ⟨⟨rfl, rfl⟩, ⟨rfl, rfl⟩, trivial⟩ ⟨⟨rfl, rfl⟩, ⟨rfl, rfl⟩, ⟨rfl, rfl⟩, ⟨rfl, rfl⟩, ⟨rfl, rfl⟩, ⟨rfl, rfl⟩, ⟨rfl, rfl⟩, ⟨rfl, (by first | rfl | (simp only [↓hb6, ↓hb9, ↓hb12, ↓hb17, ↓hb23, ↓hb31, ↓hb32, ↓hb33, ↓hb34, ↓hb35, ↓hb42, ↓hb45, cond_true, cond_false, Bool.true_or, Bool.or_true, Bool.false_or, Bool.or_false, Bool.true_and, Bool.and_true, Bool.false_and, Bool.and_false, Bool.not_true, Bool.not_false]; done) | (simp only [↓hb6, ↓hb9, ↓hb12, ↓hb17, ↓hb23, ↓hb31, ↓hb32, ↓hb33, ↓hb34, ↓hb35, ↓hb42, ↓hb45, cond_true, cond_false, Bool.true_or, Bool.or_true, Bool.false_or, Bool.or_false, Bool.true_and, Bool.and_true, Bool.false_and, Bool.and_false, Bool.not_true, Bool.not_false]; rfl))⟩, trivial⟩
                    · conv => whnf
                      refine condS_mk (fun hb46 => ?_) (fun hb46 => ?_)
                      · conv => whnf
                        refine condS_mk (fun hb47 => ?_) (fun hb47 => ?_)
                        · conv => whnf
                          exact Wk.mk2 [0, 1] 4 rfl rfl (by decide) rfl ⟨⟨rfl, rfl⟩, ⟨rfl, rfl⟩, trivial⟩ ⟨⟨rfl, rfl⟩, ⟨rfl, rfl⟩, ⟨rfl, rfl⟩, ⟨rfl, rfl⟩, ⟨rfl, rfl⟩, ⟨rfl, rfl⟩, ⟨rfl, rfl⟩, ⟨rfl, (by first | rfl | (simp only [↓hb6, ↓hb9, ↓hb12, ↓hb17, ↓hb23, ↓hb31, ↓hb32, ↓hb33, ↓hb46, ↓hb47, cond_true, cond_false, Bool.true_or, Bool.or_true, Bool.false_or, Bool.or_false, Bool.true_and, Bool.and_true, Bool.false_and, Bool.and_false, Bool.not_true, Bool.not_false]; done) | (simp only [↓hb6, ↓hb9, ↓hb12, ↓hb17, ↓hb23, ↓hb31, ↓hb32, ↓hb33, ↓hb46, ↓hb47, cond_true, cond_false, Bool.true_or, Bool.or_true, Bool.false_or, Bool.or_false, Bool.true_and, Bool.and_true, Bool.false_and, Bool.and_false, Bool.not_true, Bool.not_false]; rfl))⟩, trivial⟩
                        · conv => whnf
                          refine condS_mk (fun hb48 => ?_) (fun hb48 => ?_)
                          · conv => whnf
                            exact Wk.mk2 [0, 1] 4 rfl rfl (by decide) rfl ⟨⟨rfl, rfl⟩, ⟨rfl, rfl⟩, trivial⟩ ⟨⟨rfl, rfl⟩, ⟨rfl, rfl⟩, ⟨rfl, rfl⟩, ⟨rfl, rfl⟩, ⟨rfl, rfl⟩, ⟨rfl, rfl⟩, ⟨rfl, rfl⟩, ⟨rfl, (by first | rfl | (simp only [↓hb6, ↓hb9, ↓hb12, ↓hb17, ↓hb23, ↓hb31, ↓hb32, ↓hb33, ↓hb46, ↓hb47, ↓hb48, cond_true, cond_false, Bool.true_or, Bool.or_true, Bool.false_or, Bool.or_false, Bool.true_and, Bool.and_true, Bool.false_and, Bool.and_false, Bool.not_true, Bool.not_false]; done) | (simp only [↓hb6, ↓hb9, ↓hb12, ↓hb17, ↓hb23, ↓hb31, ↓hb32, ↓hb33, ↓hb46, ↓hb47, ↓hb48, cond_true, cond_false, Bool.true_or, Bool.or_true, Bool.false_or, Bool.or_false, Bool.true_and, Bool.and_true, Bool.false_and, Bool.and_false, Bool.not_true, Bool.not_false]; rfl))⟩, trivial⟩
                          · conv => whnf
                            refine condS_mk (fun hb49 => ?_) (fun hb49 => ?_)
                            · conv => whnf
                              refine condS_mk (fun hb50 => ?_) (fun hb50 => ?_)
                              · conv => whnf
                                exact Wk.mk2 [0, 1] 4 rfl rfl (by decide) rfl ⟨⟨rfl, rfl⟩, ⟨rfl, rfl⟩, trivial⟩ ⟨⟨rfl, rfl⟩, ⟨rfl, rfl⟩, ⟨rfl, rfl⟩, ⟨rfl, rfl⟩, ⟨rfl, rfl⟩, ⟨rfl, rfl⟩, ⟨rfl, rfl⟩, ⟨rfl, (by first | rfl | (simp only [↓hb6, ↓hb9, ↓hb12, ↓hb17, ↓hb23, ↓hb31, ↓hb32, ↓hb33, ↓hb46, ↓hb47, ↓hb48, ↓hb49, ↓hb50, cond_true, cond_false, Bool.true_or, Bool.or_true, Bool.false_or, Bool.or_false, Bool.true_and, Bool.and_true, Bool.false_and, Bool.and_false, Bool.not_true, Bool.not_false]; done) | (simp only [↓hb6, ↓hb9, ↓hb12, ↓hb17, ↓hb23, ↓hb31, ↓hb32, ↓hb33, ↓hb46, ↓hb47, ↓hb48, ↓hb49, ↓hb50, cond_true, cond_false, Bool.true_or, Bool.or_true, Bool.false_or, Bool.or_false, Bool.true_and, Bool.and_true, Bool.false_and, Bool.and_false, Bool.not_true, Bool.not_false]; rfl))⟩, trivial⟩
                              · conv => whnf
                                refine condS_mk (fun hb51 => ?_) (fun hb51 => ?_)
                                · conv => whnf
                                  exact Wk.mk2 [0, 1] 4 rfl rfl (by decide) rfl ⟨⟨rfl, rfl⟩, ⟨rfl, rfl⟩, trivial⟩ ⟨⟨rfl, rfl⟩, ⟨rfl, rfl⟩, ⟨rfl, rfl⟩, ⟨rfl, rfl⟩, ⟨rfl, rfl⟩, ⟨rfl, rfl⟩, ⟨rfl, rfl⟩, ⟨rfl, (by first | rfl | (simp only [↓hb6, ↓hb9, ↓hb12, ↓hb17, ↓hb23, ↓hb31, ↓hb32, ↓hb33, ↓hb46, ↓hb47, ↓hb48, ↓hb49, ↓hb50, ↓hb51, cond_true, cond_false, Bool.true_or, Bool.or_true, Bool.false_or, Bool.or_false, Bool.true_and, Bool.and_true, Bool.false_and, Bool.and_false, Bool.not_true, Bool.not_false]; done) | (simp only [↓hb6, ↓hb9, ↓hb12, ↓hb17, ↓hb23, ↓hb31, ↓hb32, ↓hb33, ↓hb46, ↓hb47, ↓hb48, ↓hb49, ↓hb50, ↓hb51, cond_true, cond_false, Bool.true_or, Bool.or_true, Bool.false_or, Bool.or_false, Bool.true_and, Bool.and_true, Bool.false_and, Bool.and_false, Bool.not_true, Bool.not_false]; rfl))⟩, trivial⟩
                                · conv => whnf
                                  exact Wk.mk2 [0, 1] 4 rfl rfl (by decide) rfl ⟨⟨rfl, rfl⟩, ⟨rfl, rfl⟩, trivial⟩ ⟨⟨rfl, rfl⟩, ⟨rfl, rfl⟩, ⟨rfl, rfl⟩, ⟨rfl, rfl⟩, ⟨rfl, rfl⟩, ⟨rfl, rfl⟩, ⟨rfl, rfl⟩, ⟨rfl, (by first | rfl | (simp only [↓hb6, ↓hb9, ↓hb12, ↓hb17, ↓hb23, ↓hb31, ↓hb32, ↓hb33, ↓hb46, ↓hb47, ↓hb48, ↓hb49, ↓hb50, ↓hb51, cond_true, cond_false, Bool.true_or, Bool.or_true, Bool.false_or, Bool.or_false, Bool.true_and, Bool.and_true, Bool.false_and, Bool.and_false, Bool.not_true, Bool.not_false]; done) | (simp only [↓hb6, ↓hb9, ↓hb12, ↓hb17, ↓hb23, ↓hb31, ↓hb32, ↓hb33, ↓hb46, ↓hb47, ↓hb48, ↓hb49, ↓hb50, ↓hb51, cond_true, cond_false, Bool.true_or, Bool.or_true, Bool.false_or, Bool.or_false, Bool.true_and, Bool.and_true, Bool.false_and, Bool.and_false, Bool.not_true, Bool.not_false]; rfl))⟩, trivial⟩
                            · conv => whnf
                              refine condS_mk (fun hb52 => ?_) (fun hb52 => ?_)
                              · conv => whnf
                                exact Wk.mk2 [0, 1] 4 rfl rfl (by decide) rfl ⟨⟨rfl, rfl⟩, ⟨rfl, rfl⟩, trivial⟩ ⟨⟨rfl, rfl⟩, ⟨rfl, rfl⟩, ⟨rfl, rfl⟩, ⟨rfl, rfl⟩, ⟨rfl, rfl⟩, ⟨rfl, rfl⟩, ⟨rfl, rfl⟩, ⟨rfl, (by first | rfl | (simp only [↓hb6, ↓hb9, ↓hb12, ↓hb17, ↓hb23, ↓hb31, ↓hb32, ↓hb33, ↓hb46, ↓hb47, ↓hb48, ↓hb49, ↓hb52, cond_true, cond_false, Bool.true_or, Bool.or_true, Bool.false_or, Bool.or_false, Bool.true_and, Bool.and_true, Bool.false_and, Bool.and_false, Bool.not_true, Bool.not_false]; done) | (simp only [↓hb6, ↓hb9, ↓hb12, ↓hb17, ↓hb23, ↓hb31, ↓hb32, ↓hb33, ↓hb46, ↓hb47, ↓hb48, ↓hb49, ↓hb52, cond_true, cond_false, Bool.true_or, Bool.or_true, Bool.false_or, Bool.or_false, Bool.true_and, Bool.and_true, Bool.false_and, Bool.and_false, Bool.not_true, Bool.not_false]; rfl))⟩, trivial⟩
                              · conv => whnf
                                exact Wk.mk2 [0, 1] 4 rfl rfl (by decide) rfl ⟨⟨rfl, rfl⟩, ⟨rfl, rfl⟩, trivial⟩ ⟨⟨rfl, rfl⟩, ⟨rfl, rfl⟩, ⟨rfl, rfl⟩, ⟨rfl, rfl⟩, ⟨rfl, rfl⟩, ⟨rfl, rfl⟩, ⟨rfl, rfl⟩, ⟨rfl, (by first | rfl | (simp only [↓hb6, ↓hb9, ↓hb12, ↓hb17, ↓hb23, ↓hb31, ↓hb32, ↓hb33, ↓hb46, ↓hb47, ↓hb48, ↓hb49, ↓hb52, cond_true, cond_false, Bool.true_or, Bool.or_true, Bool.false_or, Bool.or_false, Bool.true_and, Bool.and_true, Bool.false_and, Bool.and_false, Bool.not_true, Bool.not_false]; done) | (simp only [↓hb6, ↓hb9, ↓hb12, ↓hb17, ↓hb23, ↓hb31, ↓hb32, ↓hb33, ↓hb46, ↓hb47, ↓hb48, ↓hb49, ↓hb52, cond_true, cond_false, Bool.true_or, Bool.or_true, Bool.false_or, Bool.or_false, Bool.true_and, Bool.and_true, Bool.false_and, Bool.and_false, Bool.not_true, Bool.not_false]; rfl))⟩, trivial⟩
                      · conv => whnf
                        refine condS_mk (fun hb53 => ?_) (fun hb53 => ?_)
                        · conv => whnf
                          refine condS_mk (fun hb54 => ?_) (fun hb54 => ?_)
                          · conv => whnf
                            exact Wk.mk2 [0, 1] 4 rfl rfl (by decide) rfl ⟨⟨rfl, rfl⟩, ⟨rfl, rfl⟩, trivial⟩ ⟨⟨rfl, rfl⟩, ⟨rfl, rfl⟩, ⟨rfl, rfl⟩, ⟨rfl, rfl⟩, ⟨rfl, rfl⟩, ⟨rfl, rfl⟩, ⟨rfl, rfl⟩, ⟨rfl, (by first | rfl | (simp only [↓hb6, ↓hb9, ↓hb12, ↓hb17, ↓hb23, ↓hb31, ↓hb32, ↓hb33, ↓hb46, ↓hb53, ↓hb54, cond_true, cond_false, Bool.true_or, Bool.or_true, Bool.false_or, Bool.or_false, Bool.true_and, Bool.and_true, Bool.false_and, Bool.and_false, Bool.not_true, Bool.not_false]; done) | (simp only [↓hb6, ↓hb9, ↓hb12, ↓hb17, ↓hb23, ↓hb31, ↓hb32, ↓hb33, ↓hb46, ↓hb53, ↓hb54, cond_true, cond_false, Bool.true_or, Bool.or_true, Bool.false_or, Bool.or_false, Bool.true_and, Bool.and_true, Bool.false_and, Bool.and_false, Bool.not_true, Bool.not_false]; rfl))⟩, trivial⟩
                          · conv => whnf
                            refine condS_mk (fun hb55 => ?_) (fun hb55 => ?_)
                            · conv => whnf
                              exact Wk.mk2 [0, 1] 4 rfl rfl (by decide) rfl ⟨⟨rfl, rfl⟩, ⟨rfl, rfl⟩, trivial⟩ ⟨⟨rfl, rfl⟩, ⟨rfl, rfl⟩, ⟨rfl, rfl⟩, ⟨rfl, rfl⟩, ⟨rfl, rfl⟩, ⟨rfl, rfl⟩, ⟨rfl, rfl⟩, ⟨rfl, (by first | rfl | (simp only [↓hb6, ↓hb9, ↓hb12, ↓hb17, ↓hb23, ↓hb31, ↓hb32, ↓hb33, ↓hb46, ↓hb53, ↓hb54, ↓hb55, cond_true, cond_false, Bool.true_or, Bool.or_true, Bool.false_or, Bool.or_false, Bool.true_and, Bool.and_true, Bool.false_and, Bool.and_false, Bool.not_true, Bool.not_false]; done) | (simp only [↓hb6, ↓hb9, ↓hb12, ↓hb17, ↓hb23, ↓hb31, ↓hb32, ↓hb33, ↓hb46, ↓hb53, ↓hb54, ↓hb55, cond_true, cond_false, Bool.true_or, Bool.or_true, Bool.false_or, Bool.or_false, Bool.true_and, Bool.and_true, Bool.false_and, Bool.and_false, Bool.not_true, Bool.not_false]; rfl))⟩, trivial⟩
                            · conv => whnf
                              exact Wk.mk2 [0, 1] 4 rfl rfl (by decide) rfl ⟨⟨rfl, rfl⟩, ⟨rfl, rfl⟩, trivial⟩ ⟨⟨rfl, rfl⟩, ⟨rfl, rfl⟩, ⟨rfl, rfl⟩, ⟨rfl, rfl⟩, ⟨rfl, rfl⟩, ⟨rfl, rfl⟩, ⟨rfl, rfl⟩, ⟨rfl, (by first | rfl | (simp only [↓hb6, ↓hb9, ↓hb12, ↓hb17, ↓hb23, ↓hb31, ↓hb32, ↓hb33, ↓hb46, ↓hb53, ↓hb54, ↓hb55, cond_true, cond_false, Bool.true_or, Bool.or_true, Bool.false_or, Bool.or_false, Bool.true_and, Bool.and_true, Bool.false_and, Bool.and_false, Bool.not_true, Bool.not_false]; done) | (simp only [↓hb6, ↓hb9, ↓hb12, ↓hb17, ↓hb23, ↓hb31, ↓hb32, ↓hb33, ↓hb46, ↓hb53, ↓hb54, ↓hb55, cond_true, cond_false, Bool.true_or, Bool.or_true, Bool.false_or, Bool.or_false, Bool.true_and, Bool.and_true, Bool.false_and, Bool.and_false, Bool.not_true, Bool.not_false]; rfl))⟩, trivial⟩
                        · conv => whnf
                          refine condS_mk (fun hb56 => ?_) (fun hb56 => ?_)
                          · conv => whnf
                            exact Wk.mk2 [0, 1] 4 rfl rfl (by decide) rfl ⟨⟨rfl, rfl⟩, ⟨rfl, rfl⟩, trivial⟩ ⟨⟨rfl, rfl⟩, ⟨rfl, rfl⟩, ⟨rfl, rfl⟩, ⟨rfl, rfl⟩, ⟨rfl, rfl⟩, ⟨rfl, rfl⟩, ⟨rfl, rfl⟩, ⟨rfl, (by first | rfl | (simp only [↓hb6, ↓hb9, ↓hb12, ↓hb17, ↓hb23, ↓hb31, ↓hb32, ↓hb33, ↓hb46, ↓hb53, ↓hb56, cond_true, cond_false, Bool.true_or, Bool.or_true, Bool.false_or, Bool.or_false, Bool.true_and, Bool.and_true, Bool.false_and, Bool.and_false, Bool.not_true, Bool.not_false]; done) | (simp only [↓hb6, ↓hb9, ↓hb12, ↓hb17, ↓hb23, ↓hb31, ↓hb32, ↓hb33, ↓hb46, ↓hb53, ↓hb56, cond_true, cond_false, Bool.true_or, Bool.or_true, Bool.false_or, Bool.or_false, Bool.true_and, Bool.and_true, Bool.false_and, Bool.and_false, Bool.not_true, Bool.not_false]; rfl))⟩, trivial⟩
                          · conv => whnf
                            exact Wk.mk2 [0, 1] 4 rfl rfl (by decide) rfl ⟨⟨rfl, rfl⟩, ⟨rfl, rfl⟩, trivial⟩ ⟨⟨rfl, rfl⟩, ⟨rfl, rfl⟩, ⟨rfl, rfl⟩, ⟨rfl, rfl⟩, ⟨rfl, rfl⟩, ⟨rfl, rfl⟩, ⟨rfl, rfl⟩, ⟨rfl, (by first | rfl | (simp only [↓hb6, ↓hb9, ↓hb12, ↓hb17, ↓hb23, ↓hb31, ↓hb32, ↓hb33, ↓hb46, ↓hb53, ↓hb56, cond_true, cond_false, Bool.true_or, Bool.or_true, Bool.false_or, Bool.or_false, Bool.true_and, Bool.and_true, Bool.false_and, Bool.and_false, Bool.not_true, Bool.not_false]; done) | (simp only [↓hb6, ↓hb9, ↓hb12, ↓hb17, ↓hb23, ↓hb31, ↓hb32, ↓hb33, ↓hb46, ↓hb53, ↓hb56, cond_true, cond_false, Bool.true_or, Bool.or_true, Bool.false_or, Bool.or_false, Bool.true_and, Bool.and_true, Bool.false_and, Bool.and_false, Bool.not_true, Bool.not_false]; rfl))⟩, trivial⟩
              · conv => whnf
                refine Tr.weak hw ?_
                refine Tr.cond ?_
                conv => whnf
                refine condS_bif h (fun hb57 h => ?_) (fun hb57 h => ?_)
                · refine Tr.seq ?_
                  refine Tr.region layOK ?_
                  conv => whnf
                  refine Tr.ret ?_
                  conv => whnf
                  cases h
                  rfl
                · refine Tr.skip ?_
                  conv => whnf
                  refine Tr.seq ?_
                  refine Tr.region layOK ?_
                  conv => whnf
                  refine lnS_map ?_
                  conv => whnf
                  refine Tr.cutQ (α := Unit) (fun s => ([(2, .pt 0 0), (4, .d (.b false)), (5, .pt 1 0), (34, .d (.ls (List.map eTRunner f_1.Runners))), (35, .d (.i .i64 (((f_1.Runners).length : Int)))), (36, .d (.i .i64 v_19))], [some (.var [.d (.ls (List.map eTSegment f_1.Clocks.Segments)), .d (.ls (List.map (eL eI) f_1.Clocks.Far)), .d (.ls (List.map eTPair f_1.Pairs)), .d (.ls (List.map eTRunner f_1.Runners))]), some (.var [.d (.i .i64 r_13.World), .d (.ls (List.map eI r_13.Offsets)), .d (.ls (List.map eTChoice r_13.Choices))])])) (fun s => m_stopwatchlaw25_RanksInside_J3 v_19 (m_stopwatchlaw25_RanksInside_L1 f_1 r_13 m_stopwatchlaw25_RanksInside_J4 n_20) s = some r_3) ?_ ?_
                  · refine Tr.block ?_
                    refine Tr.loopM (σ := Int) (fun n s => m_stopwatchlaw25_RanksInside_L2 f_1 r_13 v_19 (m_stopwatchlaw25_RanksInside_J3 v_19 (m_stopwatchlaw25_RanksInside_L1 f_1 r_13 m_stopwatchlaw25_RanksInside_J4 n_20)) n s) r_3 (fun s => ([(2, .pt 0 0), (4, .d (.b false)), (5, .pt 1 0), (6, .d (.i .i64 v_19)), (34, .d (.ls (List.map eTRunner f_1.Runners))), (35, .d (.i .i64 (((f_1.Runners).length : Int)))), (36, .d (.i .i64 v_19)), (107, .d (.i .i64 (((f_1.Runners).length : Int)))), (108, .d (.i .i64 s))], [some (.var [.d (.ls (List.map eTSegment f_1.Clocks.Segments)), .d (.ls (List.map (eL eI) f_1.Clocks.Far)), .d (.ls (List.map eTPair f_1.Pairs)), .d (.ls (List.map eTRunner f_1.Runners))]), some (.var [.d (.i .i64 r_13.World), .d (.ls (List.map eI r_13.Offsets)), .d (.ls (List.map eTChoice r_13.Choices))])])) (((((f_1.Runners).length : Int)) - 0 : Int).toNat + 1) (0) h (fun s => rfl) (Wk.mk2 [0, 1] 2 rfl rfl (by decide) rfl ⟨⟨rfl, rfl⟩, ⟨rfl, rfl⟩, trivial⟩ ⟨⟨rfl, rfl⟩, ⟨rfl, rfl⟩, ⟨rfl, rfl⟩, ⟨rfl, rfl⟩, ⟨rfl, rfl⟩, ⟨rfl, rfl⟩, ⟨rfl, rfl⟩, ⟨rfl, rfl⟩, ⟨rfl, rfl⟩, trivial⟩) ?_
                    clear h
                    rintro n_60 v_59 h
                    replace h : m_stopwatchlaw25_RanksInside_L2 f_1 r_13 v_19 (m_stopwatchlaw25_RanksInside_J3 v_19 (m_stopwatchlaw25_RanksInside_L1 f_1 r_13 m_stopwatchlaw25_RanksInside_J4 n_20)) (n_60 + 1) v_59 = some r_3 := h
                    rw [m_stopwatchlaw25_RanksInside_L2] at h
                    refine Tr.seq ?_
                    refine Tr.region layOK ?_
                    conv => whnf
                    refine Tr.seq ?_
                    refine Tr.cond ?_
                    conv => whnf
                    refine condS_bif h (fun hb63 h => ?_) (fun hb63 h => ?_)
                    · refine Tr.skip ?_
                      conv => whnf
                      refine Tr.seq ?_
                      refine Tr.block ?_
                      refine Tr.seq ?_
                      refine Tr.region layOK ?_
                      conv => whnf
                      refine Tr.seq ?_
                      refine Tr.region layOK ?_
                      conv => whnf
                      obtain ⟨⟨r_64, r_65, r_66⟩, hc67, h⟩ := bind_some h
                      refine PC.ecall (s_ranks_Ahead f_1 v_59 v_19 r_64 r_65 r_66 hc67) (fun rs hrs => ?_)
                      subst hrs
                      conv => whnf
                      refine Tr.seq ?_
                      refine Tr.region layOK ?_
                      conv => whnf
                      obtain ⟨r_68, hc69, h⟩ := bind_some h
                      refine PC.ecall (s_stopwatchref25_InFront f_1 r_13 v_59 v_19 r_68 hc69) (fun rs hrs => ?_)
                      subst hrs
                      conv => whnf
                      refine Tr.seq ?_
                      refine Tr.cutQ1 ([(2, .pt 0 0), (4, .d (.b false)), (5, .pt 1 0), (6, .d (.i .i64 v_19)), (34, .d (.ls (List.map eTRunner f_1.Runners))), (35, .d (.i .i64 (((f_1.Runners).length : Int)))), (36, .d (.i .i64 v_19)), (107, .d (.i .i64 (((f_1.Runners).length : Int)))), (108, .d (.i .i64 v_59)), (139, .d (.b ((r_66 != 0) || (bif r_64 then ((!r_68) || (!r_65)) else (r_68 && (!r_65))))))]) ([some (.var [.d (.ls (List.map eTSegment f_1.Clocks.Segments)), .d (.ls (List.map (eL eI) f_1.Clocks.Far)), .d (.ls (List.map eTPair f_1.Pairs)), .d (.ls (List.map eTRunner f_1.Runners))]), some (.var [.d (.i .i64 r_13.World), .d (.ls (List.map eI r_13.Offsets)), .d (.ls (List.map eTChoice r_13.Choices))])]) ?_ (fun T1 H1 hw => ?_)
                      · refine Tr.region layOK ?_
                        conv => whnf
                        refine condS_mk (fun hb71 => ?_) (fun hb71 => ?_)
                        · conv => whnf
                          exact Wk.mk2 [0, 1] 2 rfl rfl (by decide) rfl ⟨⟨rfl, rfl⟩, ⟨rfl, rfl⟩, trivial⟩ ⟨⟨rfl, rfl⟩, ⟨rfl, rfl⟩, ⟨rfl, rfl⟩, ⟨rfl, rfl⟩, ⟨rfl, rfl⟩, ⟨rfl, rfl⟩, ⟨rfl, rfl⟩, ⟨rfl, rfl⟩, ⟨rfl, rfl⟩, ⟨rfl, (by first | rfl | (simp only [↓hb6, ↓hb9, ↓hb12, ↓hb17, ↓hb23, ↓hb57, ↓hb63, ↓hb71, cond_true, cond_false, Bool.true_or, Bool.or_true, Bool.false_or, Bool.or_false, Bool.true_and, Bool.and_true, Bool.false_and, Bool.and_false, Bool.not_true, Bool.not_false]; done) | (simp only [↓hb6, ↓hb9, ↓hb12, ↓hb17, ↓hb23, ↓hb57, ↓hb63, ↓hb71, cond_true, cond_false, Bool.true_or, Bool.or_true, Bool.false_or, Bool.or_false, Bool.true_and, Bool.and_true, Bool.false_and, Bool.and_false, Bool.not_true, Bool.not_false]; rfl))⟩, trivial⟩
                        · conv => whnf
                          refine condS_mk (fun hb72 => ?_) (fun hb72 => ?_)
                          · conv => whnf
                            refine condS_mk (fun hb73 => ?_) (fun hb73 => ?_)
                            · conv => whnf
                              exact Wk.mk2 [0, 1] 2 rfl rfl (by decide) rfl ⟨⟨rfl, rfl⟩, ⟨rfl, rfl⟩, trivial⟩ ⟨⟨rfl, rfl⟩, ⟨rfl, rfl⟩, ⟨rfl, rfl⟩, ⟨rfl, rfl⟩, ⟨rfl, rfl⟩, ⟨rfl, rfl⟩, ⟨rfl, rfl⟩, ⟨rfl, rfl⟩, ⟨rfl, rfl⟩, ⟨rfl, (by first | rfl | (simp only [↓hb6, ↓hb9, ↓hb12, ↓hb17, ↓hb23, ↓hb57, ↓hb63, ↓hb71, ↓hb72, ↓hb73, cond_true, cond_false, Bool.true_or, Bool.or_true, Bool.false_or, Bool.or_false, Bool.true_and, Bool.and_true, Bool.false_and, Bool.and_false, Bool.not_true, Bool.not_false]; done) | (simp only [↓hb6, ↓hb9, ↓hb12, ↓hb17, ↓hb23, ↓hb57, ↓hb63, ↓hb71, ↓hb72, ↓hb73, cond_true, cond_false, Bool.true_or, Bool.or_true, Bool.false_or, Bool.or_false, Bool.true_and, Bool.and_true, Bool.false_and, Bool.and_false, Bool.not_true, Bool.not_false]; rfl))⟩, trivial⟩
                            · conv => whnf
                              refine condS_kt (by simpa using hb73) ?_
                              conv => whnf
                              exact Wk.mk2 [0, 1] 2 rfl rfl (by decide) rfl ⟨⟨rfl, rfl⟩, ⟨rfl, rfl⟩, trivial⟩ ⟨⟨rfl, rfl⟩, ⟨rfl, rfl⟩, ⟨rfl, rfl⟩, ⟨rfl, rfl⟩, ⟨rfl, rfl⟩, ⟨rfl, rfl⟩, ⟨rfl, rfl⟩, ⟨rfl, rfl⟩, ⟨rfl, rfl⟩, ⟨rfl, (by first | rfl | (simp only [↓hb6, ↓hb9, ↓hb12, ↓hb17, ↓hb23, ↓hb57, ↓hb63, ↓hb71, ↓hb72, ↓hb73, cond_true, cond_false, Bool.true_or, Bool.or_true, Bool.false_or, Bool.or_false, Bool.true_and, Bool.and_true, Bool.false_and, Bool.and_false, Bool.not_true, Bool.not_false]; done) | (simp only [↓hb6, ↓hb9, ↓hb12, ↓hb17, ↓hb23, ↓hb57, ↓hb63, ↓hb71, ↓hb72, ↓hb73, cond_true, cond_false, Bool.true_or, Bool.or_true, Bool.false_or, Bool.or_false, Bool.true_and, Bool.and_true, Bool.false_and, Bool.and_false, Bool.not_true, Bool.not_false]; rfl))⟩, trivial⟩
                          · conv => whnf
                            refine condS_mk (fun hb74 => ?_) (fun hb74 => ?_)
                            · conv => whnf
                              exact Wk.mk2 [0, 1] 2 rfl rfl (by decide) rfl ⟨⟨rfl, rfl⟩, ⟨rfl, rfl⟩, trivial⟩ ⟨⟨rfl, rfl⟩, ⟨rfl, rfl⟩, ⟨rfl, rfl⟩, ⟨rfl, rfl⟩, ⟨rfl, rfl⟩, ⟨rfl, rfl⟩, ⟨rfl, rfl⟩, ⟨rfl, rfl⟩, ⟨rfl, rfl⟩, ⟨rfl, (by first | rfl | (simp only [↓hb6, ↓hb9, ↓hb12, ↓hb17, ↓hb23, ↓hb57, ↓hb63, ↓hb71, ↓hb72, ↓hb74, cond_true, cond_false, Bool.true_or, Bool.or_true, Bool.false_or, Bool.or_false, Bool.true_and, Bool.and_true, Bool.false_and, Bool.and_false, Bool.not_true, Bool.not_false]; done) | (simp only [↓hb6, ↓hb9, ↓hb12, ↓hb17, ↓hb23, ↓hb57, ↓hb63, ↓hb71, ↓hb72, ↓hb74, cond_true, cond_false, Bool.true_or, Bool.or_true, Bool.false_or, Bool.or_false, Bool.true_and, Bool.and_true, Bool.false_and, Bool.and_false, Bool.not_true, Bool.not_false]; rfl))⟩, trivial⟩
                            · conv => whnf
                              exact Wk.mk2 [0, 1] 2 rfl rfl (by decide) rfl ⟨⟨rfl, rfl⟩, ⟨rfl, rfl⟩, trivial⟩ ⟨⟨rfl, rfl⟩, ⟨rfl, rfl⟩, ⟨rfl, rfl⟩, ⟨rfl, rfl⟩, ⟨rfl, rfl⟩, ⟨rfl, rfl⟩, ⟨rfl, rfl⟩, ⟨rfl, rfl⟩, ⟨rfl, rfl⟩, ⟨rfl, (by first | rfl | (simp only [↓hb6, ↓hb9, ↓hb12, ↓hb17, ↓hb23, ↓hb57, ↓hb63, ↓hb71, ↓hb72, ↓hb74, cond_true, cond_false, Bool.true_or, Bool.or_true, Bool.false_or, Bool.or_false, Bool.true_and, Bool.and_true, Bool.false_and, Bool.and_false, Bool.not_true, Bool.not_false]; done) | (simp only [↓hb6, ↓hb9, ↓hb12, ↓hb17, ↓hb23, ↓hb57, ↓hb63, ↓hb71, ↓hb72, ↓hb74, cond_true, cond_false, Bool.true_or, Bool.or_true, Bool.false_or, Bool.or_false, Bool.true_and, Bool.and_true, Bool.false_and, Bool.and_false, Bool.not_true, Bool.not_false]; rfl))⟩, trivial⟩
                      · conv => whnf
                        refine Tr.weak hw ?_
                        refine Tr.cond ?_
                        conv => whnf
                        refine condS_bif h (fun hb75 h => ?_) (fun hb75 h => ?_)
                        · refine Tr.seq ?_
                          refine Tr.region layOK ?_
                          conv => whnf
                          refine Tr.ret ?_
                          conv => whnf
                          cases h
                          rfl
                        · refine Tr.skip ?_
                          conv => whnf
                          refine Tr.region layOK ?_
                          conv => whnf
                          refine arS_raw ?_
                          conv => whnf
                          refine ⟨((w64 (v_59 + 1))), h, ?_⟩
                          exact Wk.mk2 [0, 1] 2 rfl rfl (by decide) rfl ⟨⟨rfl, rfl⟩, ⟨rfl, rfl⟩, trivial⟩ ⟨⟨rfl, rfl⟩, ⟨rfl, rfl⟩, ⟨rfl, rfl⟩, ⟨rfl, rfl⟩, ⟨rfl, rfl⟩, ⟨rfl, rfl⟩, ⟨rfl, rfl⟩, ⟨rfl, rfl⟩, ⟨rfl, rfl⟩, trivial⟩
                    · refine Tr.exit ?_
                      conv => whnf
                      refine ⟨(), h, ?_⟩
                      exact Wk.mk2 [0, 1] 2 rfl rfl (by decide) rfl ⟨⟨rfl, rfl⟩, ⟨rfl, rfl⟩, trivial⟩ ⟨⟨rfl, rfl⟩, ⟨rfl, rfl⟩, ⟨rfl, rfl⟩, ⟨rfl, rfl⟩, ⟨rfl, rfl⟩, ⟨rfl, rfl⟩, trivial⟩
                  · clear h
                    rintro _ h T1 H1 hw
                    replace h : m_stopwatchlaw25_RanksInside_J3 v_19 (m_stopwatchlaw25_RanksInside_L1 f_1 r_13 m_stopwatchlaw25_RanksInside_J4 n_20) () = some r_3 := h
                    conv => whnf
                    refine Tr.weak hw ?_
                    unfold m_stopwatchlaw25_RanksInside_J3 at h
                    refine Tr.region layOK ?_
                    conv => whnf
                    refine arS_raw ?_
                    conv => whnf
                    refine ⟨((w64 (v_19 + 1))), h, ?_⟩
                    exact Wk.mk2 [0, 1] 2 rfl rfl (by decide) rfl ⟨⟨rfl, rfl⟩, ⟨rfl, rfl⟩, trivial⟩ ⟨⟨rfl, rfl⟩, ⟨rfl, rfl⟩, ⟨rfl, rfl⟩, ⟨rfl, rfl⟩, ⟨rfl, rfl⟩, ⟨rfl, rfl⟩, trivial⟩
            · refine Tr.exit ?_
              conv => whnf
              refine ⟨(), h, ?_⟩
              exact Wk.mk2 [] 2 rfl rfl (by decide) rfl trivial ⟨⟨rfl, rfl⟩, trivial⟩
          · clear h
            rintro _ h T1 H1 hw
            replace h : m_stopwatchlaw25_RanksInside_J4 () = some r_3 := h
            conv => whnf
            refine Tr.weak hw ?_
            unfold m_stopwatchlaw25_RanksInside_J4 at h
            refine Tr.seq ?_
            refine Tr.region layOK ?_
            conv => whnf
            refine Tr.ret ?_
            conv => whnf
            cases h
            rfl
end Go.Proofs.Try
