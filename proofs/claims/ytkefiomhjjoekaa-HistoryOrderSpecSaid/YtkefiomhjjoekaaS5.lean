/- Contracts of functions, by program (gen.py). No condition. -/
import Derived.Test.YtkefiomhjjoekaaL
import Derived.Test.YtkefiomhjjoekaaM
import Derived.Test.YtkefiomhjjoekaaS4
namespace Go.Proofs.Try
open Go Go.Abs Go.Stop
set_option maxRecDepth 8000
set_option linter.unusedVariables false
set_option linter.unusedSimpArgs false

theorem s_stopwatchref16_time (n_1 : Int) (r_2 : Bool) (h : m_stopwatchref16_time n_1 = some r_2) :
    PC prog 91 [(.i .i64 n_1)] (fun rs => rs = [(.b r_2)]) := by
  refine PC.of_tr (cx := ⟨9, none, lay, 0⟩) layOK func91 rfl rfl rfl rfl rfl (by simp [f91]) ?_
  unfold m_stopwatchref16_time at h
  refine Tr.seq ?_
  refine Tr.region layOK ?_
  conv => whnf
  refine Tr.seq ?_
  refine Tr.region layOK ?_
  conv => whnf
  refine condS_bif h (fun hb3 h => ?_) (fun hb3 h => ?_)
  · conv => whnf
    refine Tr.ret ?_
    conv => whnf
    cases h
    rfl
  · conv => whnf
    refine Tr.ret ?_
    conv => whnf
    cases h
    rfl

theorem s_stopwatchref16_less (a_1 : TSegment) (b_2 : TSegment) (r_3 : Bool) (h : m_stopwatchref16_less a_1 b_2 = some r_3) :
    PC prog 92 [(eTSegment a_1), (eTSegment b_2)] (fun rs => rs = [(.b r_3)]) := by
  refine PC.of_tr (cx := ⟨24, none, lay, 0⟩) layOK func92 rfl rfl rfl rfl rfl (by simp [f92]) ?_
  unfold m_stopwatchref16_less at h
  refine Tr.seq ?_
  refine Tr.region layOK ?_
  conv => whnf
  refine Tr.seq ?_
  refine Tr.region layOK ?_
  conv => whnf
  refine condS_bif h (fun hb4 h => ?_) (fun hb4 h => ?_)
  · conv => whnf
    refine Tr.ret ?_
    conv => whnf
    cases h
    rfl
  · conv => whnf
    refine condS_bif h (fun hb5 h => ?_) (fun hb5 h => ?_)
    · conv => whnf
      refine Tr.ret ?_
      conv => whnf
      cases h
      rfl
    · conv => whnf
      refine Tr.ret ?_
      conv => whnf
      cases h
      rfl

theorem s_stopwatchref16_Check (k_1 : TClocks) (r_2 : Int) (h : m_stopwatchref16_Check k_1 = some r_2) :
    PC prog 58 [(eTClocks k_1)] (fun rs => rs = [(.i .i64 r_2)]) := by
  refine PC.of_tr (cx := ⟨164, none, lay, 0⟩) layOK func58 rfl rfl rfl rfl rfl (by simp [f58]) ?_
  unfold m_stopwatchref16_Check at h
  refine Tr.seq ?_
  refine Tr.region layOK ?_
  conv => whnf
  refine Tr.seq ?_
  refine Tr.region layOK ?_
  conv => whnf
  refine lnS_map ?_
  conv => whnf
  refine Tr.seq ?_
  refine Tr.seq ?_
  refine Tr.region layOK ?_
  conv => whnf
  refine condS_bif h (fun hb3 h => ?_) (fun hb3 h => ?_)
  · conv => whnf
    refine Tr.cond ?_
    conv => whnf
    refine Tr.seq ?_
    refine Tr.region layOK ?_
    conv => whnf
    refine Tr.ret ?_
    conv => whnf
    cases h
    rfl
  · conv => whnf
    refine lnS_map ?_
    conv => whnf
    refine arS_raw ?_
    conv => whnf
    refine Tr.cond ?_
    conv => whnf
    refine condS_bif h (fun hb4 h => ?_) (fun hb4 h => ?_)
    · refine Tr.seq ?_
      refine Tr.region layOK ?_
      conv => whnf
      refine Tr.ret ?_
      conv => whnf
      cases h
      rfl
    · refine Tr.skip ?_
      conv => whnf
      refine Tr.seq ?_
      refine Tr.seq ?_
      refine Tr.region layOK ?_
      conv => whnf
      refine Tr.cutQ (α := Unit) (fun s => ([(1, .pt 0 0), (2, .d (.i .i64 0)), (3, .d (.i .i64 (((k_1.Segments).length : Int))))], [some (.var [.d (.ls (List.map eTSegment k_1.Segments)), .d (.ls (List.map (eL eI) k_1.Far))])])) (fun s => m_stopwatchref16_Check_J12 k_1 s = some r_2) ?_ ?_
      · refine Tr.block ?_
        refine Tr.loopM (σ := Int) (fun n s => m_stopwatchref16_Check_L1 k_1 (m_stopwatchref16_Check_J12 k_1) n s) r_2 (fun s => ([(1, .pt 0 0), (2, .d (.i .i64 0)), (3, .d (.i .i64 (((k_1.Segments).length : Int)))), (4, .d (.i .i64 s))], [some (.var [.d (.ls (List.map eTSegment k_1.Segments)), .d (.ls (List.map (eL eI) k_1.Far))])])) (((((k_1.Segments).length : Int)) - 0 : Int).toNat + 1) (0) h (fun s => rfl) (Wk.mk2 [0] 1 rfl rfl (by decide) rfl ⟨⟨rfl, rfl⟩, trivial⟩ ⟨⟨rfl, rfl⟩, ⟨rfl, rfl⟩, ⟨rfl, rfl⟩, ⟨rfl, rfl⟩, trivial⟩) ?_
        clear h
        rintro n_7 i_6 h
        replace h : m_stopwatchref16_Check_L1 k_1 (m_stopwatchref16_Check_J12 k_1) (n_7 + 1) i_6 = some r_2 := h
        rw [m_stopwatchref16_Check_L1] at h
        refine Tr.seq ?_
        refine Tr.seq ?_
        refine Tr.region layOK ?_
        conv => whnf
        refine Tr.cond ?_
        conv => whnf
        refine condS_bif h (fun hb10 h => ?_) (fun hb10 h => ?_)
        · refine Tr.skip ?_
          conv => whnf
          refine Tr.seq ?_
          refine Tr.block ?_
          refine Tr.seq ?_
          refine Tr.region layOK ?_
          conv => whnf
          obtain ⟨x_11, hx_11, h⟩ := bind_some h
          refine ixP_of hx_11 ?_
          conv => whnf
          refine Tr.seq ?_
          obtain ⟨v_12, hv13, h⟩ := bind_some h
          refine Tr.cutQ1 ([(1, .pt 0 0), (2, .d (.i .i64 0)), (3, .d (.i .i64 (((k_1.Segments).length : Int)))), (4, .d (.i .i64 i_6)), (72, .d (.b v_12))]) ([some (.var [.d (.ls (List.map eTSegment k_1.Segments)), .d (.ls (List.map (eL eI) k_1.Far))])]) ?_ (fun T1 H1 hw => ?_)
          · replace h := hv13; clear hv13
            refine Tr.draw (DrawP.seqQ layOK mixed [] [(0, 4), (1, 4), (2, 1), (3, 1), (4, 4), (5, 4), (6, 1), (7, 1), (8, 1), (9, 4), (10, 4), (11, 1), (12, 1), (13, 1), (14, 4), (15, 4), (16, 1), (17, 1), (18, 1), (19, 4), (20, 4), (21, 1), (22, 1), (23, 1), (24, 1), (25, 1), (26, 1), (27, 1), (28, 3), (29, 3), (30, 1), (31, 1), (32, 2), (33, 2), (34, 4), (35, 1), (36, 1), (37, 1), (38, 1)] (by kernel_rfl) ?_)
            conv => whnf
            refine ⟨_, ⟨rfl, rfl, (by (conv => whnf); (exact ⟨rfl, rfl⟩))⟩, ?_⟩
            conv => whnf
            refine ⟨_, ⟨rfl, rfl, (by (conv => whnf); (exact ⟨rfl, rfl⟩))⟩, ?_⟩
            conv => whnf
            refine ⟨_, (fun H => by (conv => whnf); (exact ⟨rfl, rfl⟩)), ?_⟩
            conv => whnf
            refine ⟨_, (fun H => by (conv => whnf); (exact ⟨rfl, rfl⟩)), ?_⟩
            conv => whnf
            refine condS_bif h (fun hb14 h => ?_) (fun hb14 h => ?_)
            · conv => whnf
              refine ⟨_, (fun H => by (conv => whnf); (exact ⟨rfl, rfl⟩)), ?_⟩
              conv => whnf
              refine ⟨_, (fun H => by (conv => whnf); (exact ⟨rfl, rfl⟩)), ?_⟩
              conv => whnf
              refine ⟨_, (fun H => by (conv => whnf); (exact ⟨rfl, rfl⟩)), ?_⟩
              conv => whnf
              refine ⟨_, (fun H => by (conv => whnf); (exact ⟨rfl, rfl⟩)), ?_⟩
              conv => whnf
              refine ⟨_, (fun H => by (conv => whnf); (exact ⟨rfl, rfl⟩)), ?_⟩
              conv => whnf
              refine ⟨_, (fun H => by (conv => whnf); (exact ⟨rfl, rfl⟩)), ?_⟩
              conv => whnf
              refine ⟨_, (fun H => by (conv => whnf); (exact ⟨rfl, rfl⟩)), ?_⟩
              conv => whnf
              refine ⟨_, (fun H => by (conv => whnf); (exact ⟨rfl, rfl⟩)), ?_⟩
              conv => whnf
              refine ⟨_, (fun H => by (conv => whnf); (exact ⟨rfl, rfl⟩)), ?_⟩
              conv => whnf
              cases h
              exact Wk.mk2 [0] 2 rfl rfl (by decide) rfl ⟨⟨rfl, rfl⟩, trivial⟩ ⟨⟨rfl, rfl⟩, ⟨rfl, rfl⟩, ⟨rfl, rfl⟩, ⟨rfl, rfl⟩, ⟨rfl, rfl⟩, trivial⟩
            · conv => whnf
              refine ⟨_, ⟨rfl, rfl, (by (conv => whnf); (exact ⟨rfl, rfl⟩))⟩, ?_⟩
              conv => whnf
              refine ⟨_, ⟨rfl, rfl, (by (conv => whnf); (exact ⟨rfl, rfl⟩))⟩, ?_⟩
              conv => whnf
              refine ⟨_, (fun H => by (conv => whnf); (exact ⟨rfl, rfl⟩)), ?_⟩
              conv => whnf
              refine ⟨_, (fun H => by (conv => whnf); (exact ⟨rfl, rfl⟩)), ?_⟩
              conv => whnf
              refine ⟨_, (fun H => by (conv => whnf); (exact ⟨rfl, rfl⟩)), ?_⟩
              conv => whnf
              refine condS_bif h (fun hb15 h => ?_) (fun hb15 h => ?_)
              · conv => whnf
                refine ⟨_, (fun H => by (conv => whnf); (exact ⟨rfl, rfl⟩)), ?_⟩
                conv => whnf
                refine ⟨_, (fun H => by (conv => whnf); (exact ⟨rfl, rfl⟩)), ?_⟩
                conv => whnf
                refine ⟨_, (fun H => by (conv => whnf); (exact ⟨rfl, rfl⟩)), ?_⟩
                conv => whnf
                refine ⟨_, (fun H => by (conv => whnf); (exact ⟨rfl, rfl⟩)), ?_⟩
                conv => whnf
                refine ⟨_, (fun H => by (conv => whnf); (exact ⟨rfl, rfl⟩)), ?_⟩
                conv => whnf
                refine ⟨_, (fun H => by (conv => whnf); (exact ⟨rfl, rfl⟩)), ?_⟩
                conv => whnf
                refine ⟨_, (fun H => by (conv => whnf); (exact ⟨rfl, rfl⟩)), ?_⟩
                conv => whnf
                cases h
                exact Wk.mk2 [0] 2 rfl rfl (by decide) rfl ⟨⟨rfl, rfl⟩, trivial⟩ ⟨⟨rfl, rfl⟩, ⟨rfl, rfl⟩, ⟨rfl, rfl⟩, ⟨rfl, rfl⟩, ⟨rfl, rfl⟩, trivial⟩
              · conv => whnf
                refine ⟨_, ⟨rfl, rfl, (by (conv => whnf); (exact ⟨rfl, rfl⟩))⟩, ?_⟩
                conv => whnf
                refine ⟨_, ⟨rfl, rfl, (by (conv => whnf); (exact ⟨rfl, rfl⟩))⟩, ?_⟩
                conv => whnf
                refine ⟨_, (fun H => by (conv => whnf); (exact ⟨rfl, rfl⟩)), ?_⟩
                conv => whnf
                refine ⟨_, (fun H => by (conv => whnf); (exact ⟨rfl, rfl⟩)), ?_⟩
                conv => whnf
                refine ⟨_, (fun H => by (conv => whnf); (exact ⟨rfl, rfl⟩)), ?_⟩
                conv => whnf
                refine condS_bif h (fun hb16 h => ?_) (fun hb16 h => ?_)
                · conv => whnf
                  refine ⟨_, (fun H => by (conv => whnf); (exact ⟨rfl, rfl⟩)), ?_⟩
                  conv => whnf
                  refine ⟨_, (fun H => by (conv => whnf); (exact ⟨rfl, rfl⟩)), ?_⟩
                  conv => whnf
                  refine ⟨_, (fun H => by (conv => whnf); (exact ⟨rfl, rfl⟩)), ?_⟩
                  conv => whnf
                  refine ⟨_, (fun H => by (conv => whnf); (exact ⟨rfl, rfl⟩)), ?_⟩
                  conv => whnf
                  refine ⟨_, (fun H => by (conv => whnf); (exact ⟨rfl, rfl⟩)), ?_⟩
                  conv => whnf
                  cases h
                  exact Wk.mk2 [0] 2 rfl rfl (by decide) rfl ⟨⟨rfl, rfl⟩, trivial⟩ ⟨⟨rfl, rfl⟩, ⟨rfl, rfl⟩, ⟨rfl, rfl⟩, ⟨rfl, rfl⟩, ⟨rfl, rfl⟩, trivial⟩
                · conv => whnf
                  refine ⟨_, ⟨rfl, rfl, (by (conv => whnf); (exact ⟨rfl, rfl⟩))⟩, ?_⟩
                  conv => whnf
                  refine ⟨_, ⟨rfl, rfl, (by (conv => whnf); (exact ⟨rfl, rfl⟩))⟩, ?_⟩
                  conv => whnf
                  refine ⟨_, (fun H => by (conv => whnf); (exact ⟨rfl, rfl⟩)), ?_⟩
                  conv => whnf
                  refine ⟨_, (fun H => by (conv => whnf); (exact ⟨rfl, rfl⟩)), ?_⟩
                  conv => whnf
                  refine ⟨_, (fun H => by (conv => whnf); (exact ⟨rfl, rfl⟩)), ?_⟩
                  conv => whnf
                  refine condS_bif h (fun hb17 h => ?_) (fun hb17 h => ?_)
                  · conv => whnf
                    refine ⟨_, (fun H => by (conv => whnf); (exact ⟨rfl, rfl⟩)), ?_⟩
                    conv => whnf
                    refine ⟨_, (fun H => by (conv => whnf); (exact ⟨rfl, rfl⟩)), ?_⟩
                    conv => whnf
                    refine ⟨_, (fun H => by (conv => whnf); (exact ⟨rfl, rfl⟩)), ?_⟩
                    conv => whnf
                    cases h
                    exact Wk.mk2 [0] 2 rfl rfl (by decide) rfl ⟨⟨rfl, rfl⟩, trivial⟩ ⟨⟨rfl, rfl⟩, ⟨rfl, rfl⟩, ⟨rfl, rfl⟩, ⟨rfl, rfl⟩, ⟨rfl, rfl⟩, trivial⟩
                  · conv => whnf
                    refine ⟨_, ⟨rfl, rfl, (by (conv => whnf); (exact ⟨rfl, rfl⟩))⟩, ?_⟩
                    conv => whnf
                    refine ⟨_, ⟨rfl, rfl, (by (conv => whnf); (exact ⟨rfl, rfl⟩))⟩, ?_⟩
                    conv => whnf
                    obtain ⟨r_18, hc19, h⟩ := bind_some h
                    refine ⟨_, (fun H => by (conv => whnf); (refine PC.ecall (s_stopwatchref16_time x_11.Anchor r_18 hc19) (fun rs hrs => ?_)); (subst hrs); (conv => whnf); (exact ⟨rfl, rfl⟩)), ?_⟩
                    conv => whnf
                    refine ⟨_, (fun H => by (conv => whnf); (exact ⟨rfl, rfl⟩)), ?_⟩
                    conv => whnf
                    refine ⟨_, (fun H => by (conv => whnf); (exact ⟨rfl, rfl⟩)), ?_⟩
                    conv => whnf
                    refine ⟨_, (fun H => by (conv => whnf); (exact ⟨rfl, rfl⟩)), ?_⟩
                    conv => whnf
                    refine condS_bif h (fun hb20 h => ?_) (fun hb20 h => ?_)
                    · conv => whnf
                      refine ⟨_, (fun H => by (conv => whnf); (exact ⟨rfl, rfl⟩)), ?_⟩
                      conv => whnf
                      cases h
                      exact Wk.mk2 [0] 2 rfl rfl (by decide) rfl ⟨⟨rfl, rfl⟩, trivial⟩ ⟨⟨rfl, rfl⟩, ⟨rfl, rfl⟩, ⟨rfl, rfl⟩, ⟨rfl, rfl⟩, ⟨rfl, rfl⟩, trivial⟩
                    · conv => whnf
                      refine ⟨_, (fun H => by (conv => whnf); (exact ⟨rfl, rfl⟩)), ?_⟩
                      conv => whnf
                      refine ⟨_, (fun H => by (conv => whnf); (exact ⟨rfl, rfl⟩)), ?_⟩
                      conv => whnf
                      refine ⟨_, (fun H => by (conv => whnf); (exact ⟨rfl, rfl⟩)), ?_⟩
                      conv => whnf
                      refine condS_bif h (fun hb21 h => ?_) (fun hb21 h => ?_)
                      · conv => whnf
                        refine ⟨_, ⟨rfl, rfl, (by (conv => whnf); (exact ⟨rfl, rfl⟩))⟩, ?_⟩
                        conv => whnf
                        refine ⟨_, ⟨rfl, rfl, (by (conv => whnf); (exact ⟨rfl, rfl⟩))⟩, ?_⟩
                        conv => whnf
                        refine ⟨_, (fun H => by (conv => whnf); (exact ⟨rfl, rfl⟩)), ?_⟩
                        conv => whnf
                        refine ⟨_, (fun H => by (conv => whnf); (refine arS_raw ?_); (conv => whnf); (exact ⟨rfl, rfl⟩)), ?_⟩
                        conv => whnf
                        obtain ⟨x_22, hx_22, h⟩ := bind_some h
                        refine ⟨_, ⟨rfl, rfl, (by (conv => whnf); (refine ixP_of hx_22 ?_); (conv => whnf); (exact ⟨rfl, rfl⟩))⟩, ?_⟩
                        conv => whnf
                        refine ⟨_, ⟨rfl, rfl, (by (conv => whnf); (exact ⟨rfl, rfl⟩))⟩, ?_⟩
                        conv => whnf
                        refine ⟨_, ⟨rfl, rfl, (by (conv => whnf); (exact ⟨rfl, rfl⟩))⟩, ?_⟩
                        conv => whnf
                        obtain ⟨r_23, hc24, h⟩ := bind_some h
                        refine ⟨_, (fun H => by (conv => whnf); (refine PC.ecall (s_stopwatchref16_less x_22 x_11 r_23 hc24) (fun rs hrs => ?_)); (subst hrs); (conv => whnf); (exact ⟨rfl, rfl⟩)), ?_⟩
                        conv => whnf
                        refine ⟨_, (fun H => by (conv => whnf); (exact ⟨rfl, rfl⟩)), ?_⟩
                        conv => whnf
                        refine ⟨_, (fun H => by (conv => whnf); (exact ⟨rfl, rfl⟩)), ?_⟩
                        conv => whnf
                        refine ⟨_, (fun H => by (conv => whnf); (exact ⟨rfl, rfl⟩)), ?_⟩
                        conv => whnf
                        cases h
                        exact Wk.mk2 [0] 2 rfl rfl (by decide) rfl ⟨⟨rfl, rfl⟩, trivial⟩ ⟨⟨rfl, rfl⟩, ⟨rfl, rfl⟩, ⟨rfl, rfl⟩, ⟨rfl, rfl⟩, ⟨rfl, rfl⟩, trivial⟩
                      · conv => whnf
                        refine ⟨_, (fun H => by (conv => whnf); (exact ⟨rfl, rfl⟩)), ?_⟩
                        conv => whnf
                        refine ⟨_, (fun H => by (conv => whnf); (exact ⟨rfl, rfl⟩)), ?_⟩
                        conv => whnf
                        cases h
                        exact Wk.mk2 [0] 2 rfl rfl (by decide) rfl ⟨⟨rfl, rfl⟩, trivial⟩ ⟨⟨rfl, rfl⟩, ⟨rfl, rfl⟩, ⟨rfl, rfl⟩, ⟨rfl, rfl⟩, ⟨rfl, rfl⟩, trivial⟩
          · clear hv13
            conv => whnf
            refine Tr.weak hw ?_
            refine Tr.cond ?_
            conv => whnf
            refine condS_bif h (fun hb25 h => ?_) (fun hb25 h => ?_)
            · refine Tr.seq ?_
              refine Tr.region layOK ?_
              conv => whnf
              refine Tr.ret ?_
              conv => whnf
              cases h
              rfl
            · refine Tr.skip ?_
              conv => whnf
              refine Tr.region layOK ?_
              conv => whnf
              refine arS_raw ?_
              conv => whnf
              refine ⟨((w64 (i_6 + 1))), h, ?_⟩
              exact Wk.mk2 [0] 1 rfl rfl (by decide) rfl ⟨⟨rfl, rfl⟩, trivial⟩ ⟨⟨rfl, rfl⟩, ⟨rfl, rfl⟩, ⟨rfl, rfl⟩, ⟨rfl, rfl⟩, trivial⟩
        · refine Tr.exit ?_
          conv => whnf
          refine ⟨(), h, ?_⟩
          exact Wk.mk2 [0] 1 rfl rfl (by decide) rfl ⟨⟨rfl, rfl⟩, trivial⟩ ⟨⟨rfl, rfl⟩, ⟨rfl, rfl⟩, ⟨rfl, rfl⟩, trivial⟩
      · clear h
        rintro _ h T1 H1 hw
        replace h : m_stopwatchref16_Check_J12 k_1 () = some r_2 := h
        conv => whnf
        refine Tr.weak hw ?_
        unfold m_stopwatchref16_Check_J12 at h
        refine Tr.seq ?_
        refine Tr.seq ?_
        refine Tr.region layOK ?_
        conv => whnf
        refine Tr.cutQ (α := Unit) (fun s => ([(1, .pt 0 0), (2, .d (.i .i64 0)), (3, .d (.i .i64 (((k_1.Segments).length : Int))))], [some (.var [.d (.ls (List.map eTSegment k_1.Segments)), .d (.ls (List.map (eL eI) k_1.Far))])])) (fun s => m_stopwatchref16_Check_J11 k_1 s = some r_2) ?_ ?_
        · refine Tr.block ?_
          refine Tr.loopM (σ := Int) (fun n s => m_stopwatchref16_Check_L2 k_1 (m_stopwatchref16_Check_J11 k_1) n s) r_2 (fun s => ([(1, .pt 0 0), (2, .d (.i .i64 0)), (3, .d (.i .i64 (((k_1.Segments).length : Int)))), (6, .d (.i .i64 s))], [some (.var [.d (.ls (List.map eTSegment k_1.Segments)), .d (.ls (List.map (eL eI) k_1.Far))])])) (((((k_1.Segments).length : Int)) + 1 - 0 : Int).toNat + 1) (0) h (fun s => rfl) (Wk.mk2 [0] 1 rfl rfl (by decide) rfl ⟨⟨rfl, rfl⟩, trivial⟩ ⟨⟨rfl, rfl⟩, ⟨rfl, rfl⟩, ⟨rfl, rfl⟩, ⟨rfl, rfl⟩, trivial⟩) ?_
          clear h
          rintro n_28 i_27 h
          replace h : m_stopwatchref16_Check_L2 k_1 (m_stopwatchref16_Check_J11 k_1) (n_28 + 1) i_27 = some r_2 := h
          rw [m_stopwatchref16_Check_L2] at h
          refine Tr.seq ?_
          refine Tr.seq ?_
          refine Tr.region layOK ?_
          conv => whnf
          refine Tr.cond ?_
          conv => whnf
          refine condS_bif h (fun hb31 h => ?_) (fun hb31 h => ?_)
          · refine Tr.skip ?_
            conv => whnf
            refine Tr.seq ?_
            refine Tr.block ?_
            refine Tr.seq ?_
            refine Tr.seq ?_
            refine Tr.region layOK ?_
            conv => whnf
            obtain ⟨x_32, hx_32, h⟩ := bind_some h
            refine ixP_of hx_32 ?_
            conv => whnf
            refine lnS_map ?_
            conv => whnf
            refine arS_raw ?_
            conv => whnf
            refine condS_bif h (fun hb33 h => ?_) (fun hb33 h => ?_)
            · conv => whnf
              refine Tr.cond ?_
              conv => whnf
              refine Tr.seq ?_
              refine Tr.region layOK ?_
              conv => whnf
              refine Tr.ret ?_
              conv => whnf
              cases h
              rfl
            · conv => whnf
              obtain ⟨x_34, hx_34, h⟩ := bind_some h
              refine ixP_of hx_34 ?_
              conv => whnf
              obtain ⟨x_35, hx_35, h⟩ := bind_some h
              refine ixP_of hx_35 ?_
              conv => whnf
              refine Tr.cond ?_
              conv => whnf
              refine condS_bif h (fun hb36 h => ?_) (fun hb36 h => ?_)
              · refine Tr.seq ?_
                refine Tr.region layOK ?_
                conv => whnf
                refine Tr.ret ?_
                conv => whnf
                cases h
                rfl
              · refine Tr.skip ?_
                conv => whnf
                refine Tr.seq ?_
                refine Tr.region layOK ?_
                conv => whnf
                refine Tr.cutQ (α := Unit) (fun s => ([(1, .pt 0 0), (2, .d (.i .i64 0)), (3, .d (.i .i64 (((k_1.Segments).length : Int)))), (6, .d (.i .i64 i_27))], [some (.var [.d (.ls (List.map eTSegment k_1.Segments)), .d (.ls (List.map (eL eI) k_1.Far))])])) (fun s => m_stopwatchref16_Check_J4 i_27 (m_stopwatchref16_Check_L2 k_1 (m_stopwatchref16_Check_J11 k_1) n_28) s = some r_2) ?_ ?_
                · refine Tr.block ?_
                  refine Tr.loopM (σ := Int) (fun n s => m_stopwatchref16_Check_L3 k_1 i_27 (m_stopwatchref16_Check_J4 i_27 (m_stopwatchref16_Check_L2 k_1 (m_stopwatchref16_Check_J11 k_1) n_28)) n s) r_2 (fun s => ([(1, .pt 0 0), (2, .d (.i .i64 0)), (3, .d (.i .i64 (((k_1.Segments).length : Int)))), (6, .d (.i .i64 i_27)), (7, .d (.i .i64 s))], [some (.var [.d (.ls (List.map eTSegment k_1.Segments)), .d (.ls (List.map (eL eI) k_1.Far))])])) (((((k_1.Segments).length : Int)) + 1 - 0 : Int).toNat + 1) (0) h (fun s => rfl) (Wk.mk2 [0] 1 rfl rfl (by decide) rfl ⟨⟨rfl, rfl⟩, trivial⟩ ⟨⟨rfl, rfl⟩, ⟨rfl, rfl⟩, ⟨rfl, rfl⟩, ⟨rfl, rfl⟩, ⟨rfl, rfl⟩, trivial⟩) ?_
                  clear h
                  rintro n_39 j_38 h
                  replace h : m_stopwatchref16_Check_L3 k_1 i_27 (m_stopwatchref16_Check_J4 i_27 (m_stopwatchref16_Check_L2 k_1 (m_stopwatchref16_Check_J11 k_1) n_28)) (n_39 + 1) j_38 = some r_2 := h
                  rw [m_stopwatchref16_Check_L3] at h
                  refine Tr.seq ?_
                  refine Tr.seq ?_
                  refine Tr.region layOK ?_
                  conv => whnf
                  refine Tr.cond ?_
                  conv => whnf
                  refine condS_bif h (fun hb42 h => ?_) (fun hb42 h => ?_)
                  · refine Tr.skip ?_
                    conv => whnf
                    refine Tr.seq ?_
                    refine Tr.block ?_
                    refine Tr.seq ?_
                    refine Tr.region layOK ?_
                    conv => whnf
                    obtain ⟨x_43, hx_43, h⟩ := bind_some h
                    refine ixP_of hx_43 ?_
                    conv => whnf
                    obtain ⟨x_44, hx_44, h⟩ := bind_some h
                    refine ixP_of hx_44 ?_
                    conv => whnf
                    refine condS_bif h (fun hb45 h => ?_) (fun hb45 h => ?_)
                    · conv => whnf
                      refine Tr.cond ?_
                      conv => whnf
                      refine Tr.seq ?_
                      refine Tr.region layOK ?_
                      conv => whnf
                      refine Tr.ret ?_
                      conv => whnf
                      cases h
                      rfl
                    · conv => whnf
                      obtain ⟨x_46, hx_46, h⟩ := bind_some h
                      refine ixP_of hx_46 ?_
                      conv => whnf
                      obtain ⟨x_47, hx_47, h⟩ := bind_some h
                      refine ixP_of hx_47 ?_
                      conv => whnf
                      refine Tr.cond ?_
                      conv => whnf
                      refine condS_bif h (fun hb48 h => ?_) (fun hb48 h => ?_)
                      · refine Tr.seq ?_
                        refine Tr.region layOK ?_
                        conv => whnf
                        refine Tr.ret ?_
                        conv => whnf
                        cases h
                        rfl
                      · refine Tr.skip ?_
                        conv => whnf
                        refine Tr.region layOK ?_
                        conv => whnf
                        refine arS_raw ?_
                        conv => whnf
                        refine ⟨((w64 (j_38 + 1))), h, ?_⟩
                        exact Wk.mk2 [0] 1 rfl rfl (by decide) rfl ⟨⟨rfl, rfl⟩, trivial⟩ ⟨⟨rfl, rfl⟩, ⟨rfl, rfl⟩, ⟨rfl, rfl⟩, ⟨rfl, rfl⟩, ⟨rfl, rfl⟩, trivial⟩
                  · refine Tr.exit ?_
                    conv => whnf
                    refine ⟨(), h, ?_⟩
                    exact Wk.mk2 [0] 1 rfl rfl (by decide) rfl ⟨⟨rfl, rfl⟩, trivial⟩ ⟨⟨rfl, rfl⟩, ⟨rfl, rfl⟩, ⟨rfl, rfl⟩, ⟨rfl, rfl⟩, trivial⟩
                · clear h
                  rintro _ h T1 H1 hw
                  replace h : m_stopwatchref16_Check_J4 i_27 (m_stopwatchref16_Check_L2 k_1 (m_stopwatchref16_Check_J11 k_1) n_28) () = some r_2 := h
                  conv => whnf
                  refine Tr.weak hw ?_
                  unfold m_stopwatchref16_Check_J4 at h
                  refine Tr.region layOK ?_
                  conv => whnf
                  refine arS_raw ?_
                  conv => whnf
                  refine ⟨((w64 (i_27 + 1))), h, ?_⟩
                  exact Wk.mk2 [0] 1 rfl rfl (by decide) rfl ⟨⟨rfl, rfl⟩, trivial⟩ ⟨⟨rfl, rfl⟩, ⟨rfl, rfl⟩, ⟨rfl, rfl⟩, ⟨rfl, rfl⟩, trivial⟩
          · refine Tr.exit ?_
            conv => whnf
            refine ⟨(), h, ?_⟩
            exact Wk.mk2 [0] 1 rfl rfl (by decide) rfl ⟨⟨rfl, rfl⟩, trivial⟩ ⟨⟨rfl, rfl⟩, ⟨rfl, rfl⟩, ⟨rfl, rfl⟩, trivial⟩
        · clear h
          rintro _ h T1 H1 hw
          replace h : m_stopwatchref16_Check_J11 k_1 () = some r_2 := h
          conv => whnf
          refine Tr.weak hw ?_
          unfold m_stopwatchref16_Check_J11 at h
          refine Tr.seq ?_
          refine Tr.seq ?_
          refine Tr.region layOK ?_
          conv => whnf
          refine Tr.cutQ (α := Unit) (fun s => ([(2, .d (.i .i64 0))], [])) (fun s => m_stopwatchref16_Check_J10 s = some r_2) ?_ ?_
          · refine Tr.block ?_
            refine Tr.loopM (σ := Int) (fun n s => m_stopwatchref16_Check_L5 k_1 m_stopwatchref16_Check_J10 n s) r_2 (fun s => ([(1, .pt 0 0), (2, .d (.i .i64 0)), (3, .d (.i .i64 (((k_1.Segments).length : Int)))), (8, .d (.i .i64 s))], [some (.var [.d (.ls (List.map eTSegment k_1.Segments)), .d (.ls (List.map (eL eI) k_1.Far))])])) (((((k_1.Segments).length : Int)) + 1 - 0 : Int).toNat + 1) (0) h (fun s => rfl) (Wk.mk2 [0] 1 rfl rfl (by decide) rfl ⟨⟨rfl, rfl⟩, trivial⟩ ⟨⟨rfl, rfl⟩, ⟨rfl, rfl⟩, ⟨rfl, rfl⟩, ⟨rfl, rfl⟩, trivial⟩) ?_
            clear h
            rintro n_51 i_50 h
            replace h : m_stopwatchref16_Check_L5 k_1 m_stopwatchref16_Check_J10 (n_51 + 1) i_50 = some r_2 := h
            rw [m_stopwatchref16_Check_L5] at h
            refine Tr.seq ?_
            refine Tr.seq ?_
            refine Tr.region layOK ?_
            conv => whnf
            refine Tr.cond ?_
            conv => whnf
            refine condS_bif h (fun hb54 h => ?_) (fun hb54 h => ?_)
            · refine Tr.skip ?_
              conv => whnf
              refine Tr.seq ?_
              refine Tr.block ?_
              refine Tr.seq ?_
              refine Tr.region layOK ?_
              conv => whnf
              refine Tr.cutQ (α := Unit) (fun s => ([(1, .pt 0 0), (2, .d (.i .i64 0)), (3, .d (.i .i64 (((k_1.Segments).length : Int)))), (8, .d (.i .i64 i_50))], [some (.var [.d (.ls (List.map eTSegment k_1.Segments)), .d (.ls (List.map (eL eI) k_1.Far))])])) (fun s => m_stopwatchref16_Check_J9 i_50 (m_stopwatchref16_Check_L5 k_1 m_stopwatchref16_Check_J10 n_51) s = some r_2) ?_ ?_
              · refine Tr.block ?_
                refine Tr.loopM (σ := Int) (fun n s => m_stopwatchref16_Check_L6 k_1 i_50 (m_stopwatchref16_Check_J9 i_50 (m_stopwatchref16_Check_L5 k_1 m_stopwatchref16_Check_J10 n_51)) n s) r_2 (fun s => ([(1, .pt 0 0), (2, .d (.i .i64 0)), (3, .d (.i .i64 (((k_1.Segments).length : Int)))), (8, .d (.i .i64 i_50)), (9, .d (.i .i64 s))], [some (.var [.d (.ls (List.map eTSegment k_1.Segments)), .d (.ls (List.map (eL eI) k_1.Far))])])) (((((k_1.Segments).length : Int)) + 1 - 0 : Int).toNat + 1) (0) h (fun s => rfl) (Wk.mk2 [0] 1 rfl rfl (by decide) rfl ⟨⟨rfl, rfl⟩, trivial⟩ ⟨⟨rfl, rfl⟩, ⟨rfl, rfl⟩, ⟨rfl, rfl⟩, ⟨rfl, rfl⟩, ⟨rfl, rfl⟩, trivial⟩) ?_
                clear h
                rintro n_57 j_56 h
                replace h : m_stopwatchref16_Check_L6 k_1 i_50 (m_stopwatchref16_Check_J9 i_50 (m_stopwatchref16_Check_L5 k_1 m_stopwatchref16_Check_J10 n_51)) (n_57 + 1) j_56 = some r_2 := h
                rw [m_stopwatchref16_Check_L6] at h
                refine Tr.seq ?_
                refine Tr.seq ?_
                refine Tr.region layOK ?_
                conv => whnf
                refine Tr.cond ?_
                conv => whnf
                refine condS_bif h (fun hb60 h => ?_) (fun hb60 h => ?_)
                · refine Tr.skip ?_
                  conv => whnf
                  refine Tr.seq ?_
                  refine Tr.block ?_
                  refine Tr.seq ?_
                  refine Tr.region layOK ?_
                  conv => whnf
                  refine Tr.cutQ (α := Unit) (fun s => ([(1, .pt 0 0), (2, .d (.i .i64 0)), (3, .d (.i .i64 (((k_1.Segments).length : Int)))), (8, .d (.i .i64 i_50)), (9, .d (.i .i64 j_56))], [some (.var [.d (.ls (List.map eTSegment k_1.Segments)), .d (.ls (List.map (eL eI) k_1.Far))])])) (fun s => m_stopwatchref16_Check_J8 j_56 (m_stopwatchref16_Check_L6 k_1 i_50 (m_stopwatchref16_Check_J9 i_50 (m_stopwatchref16_Check_L5 k_1 m_stopwatchref16_Check_J10 n_51)) n_57) s = some r_2) ?_ ?_
                  · refine Tr.block ?_
                    refine Tr.loopM (σ := Int) (fun n s => m_stopwatchref16_Check_L7 k_1 i_50 j_56 (m_stopwatchref16_Check_J8 j_56 (m_stopwatchref16_Check_L6 k_1 i_50 (m_stopwatchref16_Check_J9 i_50 (m_stopwatchref16_Check_L5 k_1 m_stopwatchref16_Check_J10 n_51)) n_57)) n s) r_2 (fun s => ([(1, .pt 0 0), (2, .d (.i .i64 0)), (3, .d (.i .i64 (((k_1.Segments).length : Int)))), (8, .d (.i .i64 i_50)), (9, .d (.i .i64 j_56)), (10, .d (.i .i64 s))], [some (.var [.d (.ls (List.map eTSegment k_1.Segments)), .d (.ls (List.map (eL eI) k_1.Far))])])) (((((k_1.Segments).length : Int)) + 1 - 0 : Int).toNat + 1) (0) h (fun s => rfl) (Wk.mk2 [0] 1 rfl rfl (by decide) rfl ⟨⟨rfl, rfl⟩, trivial⟩ ⟨⟨rfl, rfl⟩, ⟨rfl, rfl⟩, ⟨rfl, rfl⟩, ⟨rfl, rfl⟩, ⟨rfl, rfl⟩, ⟨rfl, rfl⟩, trivial⟩) ?_
                    clear h
                    rintro n_63 m_62 h
                    replace h : m_stopwatchref16_Check_L7 k_1 i_50 j_56 (m_stopwatchref16_Check_J8 j_56 (m_stopwatchref16_Check_L6 k_1 i_50 (m_stopwatchref16_Check_J9 i_50 (m_stopwatchref16_Check_L5 k_1 m_stopwatchref16_Check_J10 n_51)) n_57)) (n_63 + 1) m_62 = some r_2 := h
                    rw [m_stopwatchref16_Check_L7] at h
                    refine Tr.seq ?_
                    refine Tr.seq ?_
                    refine Tr.region layOK ?_
                    conv => whnf
                    refine Tr.cond ?_
                    conv => whnf
                    refine condS_bif h (fun hb66 h => ?_) (fun hb66 h => ?_)
                    · refine Tr.skip ?_
                      conv => whnf
                      refine Tr.seq ?_
                      refine Tr.block ?_
                      refine Tr.seq ?_
                      refine Tr.draw (DrawP.seqQ layOK mixed [] [(0, 3), (1, 3), (2, 1), (3, 2), (4, 2), (5, 1), (6, 2), (7, 2), (8, 3), (9, 3), (10, 1), (11, 2), (12, 2), (13, 1), (14, 2), (15, 2), (16, 3), (17, 3), (18, 1), (19, 2), (20, 2), (21, 1), (22, 2), (23, 2), (24, 1), (25, 1)] (by kernel_rfl) ?_)
                      conv => whnf
                      refine ⟨_, ⟨rfl, rfl, (by (conv => whnf); (exact ⟨rfl, rfl⟩))⟩, ?_⟩
                      conv => whnf
                      refine ⟨_, ⟨rfl, rfl, (by (conv => whnf); (exact ⟨rfl, rfl⟩))⟩, ?_⟩
                      conv => whnf
                      refine ⟨_, (fun H => by (conv => whnf); (exact ⟨rfl, rfl⟩)), ?_⟩
                      conv => whnf
                      obtain ⟨x_67, hx_67, h⟩ := bind_some h
                      refine ⟨_, ⟨rfl, rfl, (by (conv => whnf); (refine ixP_of hx_67 ?_); (conv => whnf); (exact ⟨rfl, rfl⟩))⟩, ?_⟩
                      conv => whnf
                      refine ⟨_, ⟨rfl, rfl, (by (conv => whnf); (exact ⟨rfl, rfl⟩))⟩, ?_⟩
                      conv => whnf
                      refine ⟨_, (fun H => by (conv => whnf); (exact ⟨rfl, rfl⟩)), ?_⟩
                      conv => whnf
                      obtain ⟨x_68, hx_68, h⟩ := bind_some h
                      refine ⟨_, ⟨rfl, rfl, (by (conv => whnf); (refine ixP_of hx_68 ?_); (conv => whnf); (exact ⟨rfl, rfl⟩))⟩, ?_⟩
                      conv => whnf
                      refine ⟨_, ⟨rfl, rfl, (by (conv => whnf); (exact ⟨rfl, rfl⟩))⟩, ?_⟩
                      conv => whnf
                      refine ⟨_, ⟨rfl, rfl, (by (conv => whnf); (exact ⟨rfl, rfl⟩))⟩, ?_⟩
                      conv => whnf
                      refine ⟨_, ⟨rfl, rfl, (by (conv => whnf); (exact ⟨rfl, rfl⟩))⟩, ?_⟩
                      conv => whnf
                      refine ⟨_, (fun H => by (conv => whnf); (exact ⟨rfl, rfl⟩)), ?_⟩
                      conv => whnf
                      obtain ⟨x_69, hx_69, h⟩ := bind_some h
                      refine ⟨_, ⟨rfl, rfl, (by (conv => whnf); (refine ixP_of hx_69 ?_); (conv => whnf); (exact ⟨rfl, rfl⟩))⟩, ?_⟩
                      conv => whnf
                      refine ⟨_, ⟨rfl, rfl, (by (conv => whnf); (exact ⟨rfl, rfl⟩))⟩, ?_⟩
                      conv => whnf
                      refine ⟨_, (fun H => by (conv => whnf); (exact ⟨rfl, rfl⟩)), ?_⟩
                      conv => whnf
                      obtain ⟨x_70, hx_70, h⟩ := bind_some h
                      refine ⟨_, ⟨rfl, rfl, (by (conv => whnf); (refine ixP_of hx_70 ?_); (conv => whnf); (exact ⟨rfl, rfl⟩))⟩, ?_⟩
                      conv => whnf
                      refine ⟨_, ⟨rfl, rfl, (by (conv => whnf); (exact ⟨rfl, rfl⟩))⟩, ?_⟩
                      conv => whnf
                      refine ⟨_, ⟨rfl, rfl, (by (conv => whnf); (exact ⟨rfl, rfl⟩))⟩, ?_⟩
                      conv => whnf
                      refine ⟨_, ⟨rfl, rfl, (by (conv => whnf); (exact ⟨rfl, rfl⟩))⟩, ?_⟩
                      conv => whnf
                      refine ⟨_, (fun H => by (conv => whnf); (exact ⟨rfl, rfl⟩)), ?_⟩
                      conv => whnf
                      obtain ⟨x_71, hx_71, h⟩ := bind_some h
                      refine ⟨_, ⟨rfl, rfl, (by (conv => whnf); (refine ixP_of hx_71 ?_); (conv => whnf); (exact ⟨rfl, rfl⟩))⟩, ?_⟩
                      conv => whnf
                      refine ⟨_, ⟨rfl, rfl, (by (conv => whnf); (exact ⟨rfl, rfl⟩))⟩, ?_⟩
                      conv => whnf
                      refine ⟨_, (fun H => by (conv => whnf); (exact ⟨rfl, rfl⟩)), ?_⟩
                      conv => whnf
                      obtain ⟨x_72, hx_72, h⟩ := bind_some h
                      refine ⟨_, ⟨rfl, rfl, (by (conv => whnf); (refine ixP_of hx_72 ?_); (conv => whnf); (exact ⟨rfl, rfl⟩))⟩, ?_⟩
                      conv => whnf
                      refine ⟨_, ⟨rfl, rfl, (by (conv => whnf); (exact ⟨rfl, rfl⟩))⟩, ?_⟩
                      conv => whnf
                      refine ⟨_, (fun H => by (conv => whnf); (refine arS_raw ?_); (conv => whnf); (exact ⟨rfl, rfl⟩)), ?_⟩
                      conv => whnf
                      refine ⟨_, (fun H => by (conv => whnf); (exact ⟨rfl, rfl⟩)), ?_⟩
                      conv => whnf
                      refine Tr.cond ?_
                      conv => whnf
                      refine condS_bif h (fun hb73 h => ?_) (fun hb73 h => ?_)
                      · refine Tr.seq ?_
                        refine Tr.region layOK ?_
                        conv => whnf
                        refine Tr.ret ?_
                        conv => whnf
                        cases h
                        rfl
                      · refine Tr.skip ?_
                        conv => whnf
                        refine Tr.region layOK ?_
                        conv => whnf
                        refine arS_raw ?_
                        conv => whnf
                        refine ⟨((w64 (m_62 + 1))), h, ?_⟩
                        exact Wk.mk2 [0] 1 rfl rfl (by decide) rfl ⟨⟨rfl, rfl⟩, trivial⟩ ⟨⟨rfl, rfl⟩, ⟨rfl, rfl⟩, ⟨rfl, rfl⟩, ⟨rfl, rfl⟩, ⟨rfl, rfl⟩, ⟨rfl, rfl⟩, trivial⟩
                    · refine Tr.exit ?_
                      conv => whnf
                      refine ⟨(), h, ?_⟩
                      exact Wk.mk2 [0] 1 rfl rfl (by decide) rfl ⟨⟨rfl, rfl⟩, trivial⟩ ⟨⟨rfl, rfl⟩, ⟨rfl, rfl⟩, ⟨rfl, rfl⟩, ⟨rfl, rfl⟩, ⟨rfl, rfl⟩, trivial⟩
                  · clear h
                    rintro _ h T1 H1 hw
                    replace h : m_stopwatchref16_Check_J8 j_56 (m_stopwatchref16_Check_L6 k_1 i_50 (m_stopwatchref16_Check_J9 i_50 (m_stopwatchref16_Check_L5 k_1 m_stopwatchref16_Check_J10 n_51)) n_57) () = some r_2 := h
                    conv => whnf
                    refine Tr.weak hw ?_
                    unfold m_stopwatchref16_Check_J8 at h
                    refine Tr.region layOK ?_
                    conv => whnf
                    refine arS_raw ?_
                    conv => whnf
                    refine ⟨((w64 (j_56 + 1))), h, ?_⟩
                    exact Wk.mk2 [0] 1 rfl rfl (by decide) rfl ⟨⟨rfl, rfl⟩, trivial⟩ ⟨⟨rfl, rfl⟩, ⟨rfl, rfl⟩, ⟨rfl, rfl⟩, ⟨rfl, rfl⟩, ⟨rfl, rfl⟩, trivial⟩
                · refine Tr.exit ?_
                  conv => whnf
                  refine ⟨(), h, ?_⟩
                  exact Wk.mk2 [0] 1 rfl rfl (by decide) rfl ⟨⟨rfl, rfl⟩, trivial⟩ ⟨⟨rfl, rfl⟩, ⟨rfl, rfl⟩, ⟨rfl, rfl⟩, ⟨rfl, rfl⟩, trivial⟩
              · clear h
                rintro _ h T1 H1 hw
                replace h : m_stopwatchref16_Check_J9 i_50 (m_stopwatchref16_Check_L5 k_1 m_stopwatchref16_Check_J10 n_51) () = some r_2 := h
                conv => whnf
                refine Tr.weak hw ?_
                unfold m_stopwatchref16_Check_J9 at h
                refine Tr.region layOK ?_
                conv => whnf
                refine arS_raw ?_
                conv => whnf
                refine ⟨((w64 (i_50 + 1))), h, ?_⟩
                exact Wk.mk2 [0] 1 rfl rfl (by decide) rfl ⟨⟨rfl, rfl⟩, trivial⟩ ⟨⟨rfl, rfl⟩, ⟨rfl, rfl⟩, ⟨rfl, rfl⟩, ⟨rfl, rfl⟩, trivial⟩
            · refine Tr.exit ?_
              conv => whnf
              refine ⟨(), h, ?_⟩
              exact Wk.mk2 [] 1 rfl rfl (by decide) rfl trivial ⟨⟨rfl, rfl⟩, trivial⟩
          · clear h
            rintro _ h T1 H1 hw
            replace h : m_stopwatchref16_Check_J10 () = some r_2 := h
            conv => whnf
            refine Tr.weak hw ?_
            unfold m_stopwatchref16_Check_J10 at h
            refine Tr.seq ?_
            refine Tr.region layOK ?_
            conv => whnf
            refine Tr.ret ?_
            conv => whnf
            cases h
            rfl

theorem s_stopwatchref12_in (n_1 : Int) (least_2 : Int) (most_3 : Int) (r_4 : Bool) (h : m_stopwatchref12_in n_1 least_2 most_3 = some r_4) :
    PC prog 93 [(.i .i64 n_1), (.i .i64 least_2), (.i .i64 most_3)] (fun rs => rs = [(.b r_4)]) := by
  refine PC.of_tr (cx := ⟨15, none, lay, 0⟩) layOK func93 rfl rfl rfl rfl rfl (by simp [f93]) ?_
  unfold m_stopwatchref12_in at h
  refine Tr.seq ?_
  refine Tr.region layOK ?_
  conv => whnf
  refine Tr.seq ?_
  refine Tr.region layOK ?_
  conv => whnf
  refine condS_bif h (fun hb5 h => ?_) (fun hb5 h => ?_)
  · conv => whnf
    refine Tr.ret ?_
    conv => whnf
    cases h
    rfl
  · conv => whnf
    refine Tr.ret ?_
    conv => whnf
    cases h
    rfl

theorem s_stopwatchref12_Bib (n_1 : Int) (r_2 : Bool) (h : m_stopwatchref12_Bib n_1 = some r_2) :
    PC prog 59 [(.i .i64 n_1)] (fun rs => rs = [(.b r_2)]) := by
  refine PC.of_tr (cx := ⟨5, none, lay, 0⟩) layOK func59 rfl rfl rfl rfl rfl (by simp [f59]) ?_
  unfold m_stopwatchref12_Bib at h
  refine Tr.seq ?_
  refine Tr.region layOK ?_
  conv => whnf
  refine Tr.seq ?_
  refine Tr.region layOK ?_
  conv => whnf
  obtain ⟨r_3, hc4, h⟩ := bind_some h
  refine PC.ecall (s_stopwatchref12_in n_1 1 9999 r_3 hc4) (fun rs hrs => ?_)
  subst hrs
  conv => whnf
  refine Tr.ret ?_
  conv => whnf
  cases h
  rfl

theorem s_stopwatchref23_Check (k_1 : TClocks) (x_2 : TOutcome) (r_3 : Int) (h : m_stopwatchref23_Check k_1 x_2 = some r_3) :
    PC prog 60 [(eTClocks k_1), (eTOutcome x_2)] (fun rs => rs = [(.i .i64 r_3)]) := by
  refine PC.of_tr (cx := ⟨63, none, lay, 0⟩) layOK func60 rfl rfl rfl rfl rfl (by simp [f60]) ?_
  unfold m_stopwatchref23_Check at h
  refine Tr.seq ?_
  refine Tr.region layOK ?_
  conv => whnf
  refine Tr.seq ?_
  refine Tr.region layOK ?_
  conv => whnf
  obtain ⟨r_4, hc5, h⟩ := bind_some h
  refine PC.ecall (s_stopwatchref16_Check k_1 r_4 hc5) (fun rs hrs => ?_)
  subst hrs
  conv => whnf
  refine Tr.seq ?_
  refine Tr.seq ?_
  refine Tr.region layOK ?_
  conv => whnf
  refine Tr.cond ?_
  conv => whnf
  refine condS_bif h (fun hb6 h => ?_) (fun hb6 h => ?_)
  · refine Tr.seq ?_
    refine Tr.region layOK ?_
    conv => whnf
    refine Tr.ret ?_
    conv => whnf
    cases h
    rfl
  · refine Tr.skip ?_
    conv => whnf
    refine Tr.seq ?_
    refine Tr.seq ?_
    refine Tr.cutQ1 ([(4, .d (.i .i64 0)), (62, .d (.b (bif x_2.Out then ((x_2.Seg != (-1)) || ((x_2.Lo != 0) || (x_2.Hi != 0))) else ((decide (x_2.Seg < (-1))) || ((decide (x_2.Seg ≥ (((k_1.Segments).length : Int)))) || ((decide (x_2.Lo < (-288230376151711744))) || ((decide (x_2.Lo > x_2.Hi)) || (decide (x_2.Hi > 288230376151711744)))))))))]) ([]) ?_ (fun T1 H1 hw => ?_)
    · refine Tr.region layOK ?_
      conv => whnf
      refine condS_mk (fun hb8 => ?_) (fun hb8 => ?_)
      · conv => whnf
        refine condS_mk (fun hb9 => ?_) (fun hb9 => ?_)
        · conv => whnf
          exact Wk.mk2 [] 2 rfl rfl (by decide) rfl trivial ⟨⟨rfl, rfl⟩, ⟨rfl, (by first | rfl | (simp only [↓hb6, ↓hb8, ↓hb9, cond_true, cond_false, Bool.true_or, Bool.or_true, Bool.false_or, Bool.or_false, Bool.true_and, Bool.and_true, Bool.false_and, Bool.and_false, Bool.not_true, Bool.not_false]; done) | (simp only [↓hb6, ↓hb8, ↓hb9, cond_true, cond_false, Bool.true_or, Bool.or_true, Bool.false_or, Bool.or_false, Bool.true_and, Bool.and_true, Bool.false_and, Bool.and_false, Bool.not_true, Bool.not_false]; rfl))⟩, trivial⟩
        · conv => whnf
          refine condS_mk (fun hb10 => ?_) (fun hb10 => ?_)
          · conv => whnf
            exact Wk.mk2 [] 2 rfl rfl (by decide) rfl trivial ⟨⟨rfl, rfl⟩, ⟨rfl, (by first | rfl | (simp only [↓hb6, ↓hb8, ↓hb9, ↓hb10, cond_true, cond_false, Bool.true_or, Bool.or_true, Bool.false_or, Bool.or_false, Bool.true_and, Bool.and_true, Bool.false_and, Bool.and_false, Bool.not_true, Bool.not_false]; done) | (simp only [↓hb6, ↓hb8, ↓hb9, ↓hb10, cond_true, cond_false, Bool.true_or, Bool.or_true, Bool.false_or, Bool.or_false, Bool.true_and, Bool.and_true, Bool.false_and, Bool.and_false, Bool.not_true, Bool.not_false]; rfl))⟩, trivial⟩
          · conv => whnf
            refine condS_mk (fun hb11 => ?_) (fun hb11 => ?_)
            · conv => whnf
              exact Wk.mk2 [] 2 rfl rfl (by decide) rfl trivial ⟨⟨rfl, rfl⟩, ⟨rfl, (by first | rfl | (simp only [↓hb6, ↓hb8, ↓hb9, ↓hb10, ↓hb11, cond_true, cond_false, Bool.true_or, Bool.or_true, Bool.false_or, Bool.or_false, Bool.true_and, Bool.and_true, Bool.false_and, Bool.and_false, Bool.not_true, Bool.not_false]; done) | (simp only [↓hb6, ↓hb8, ↓hb9, ↓hb10, ↓hb11, cond_true, cond_false, Bool.true_or, Bool.or_true, Bool.false_or, Bool.or_false, Bool.true_and, Bool.and_true, Bool.false_and, Bool.and_false, Bool.not_true, Bool.not_false]; rfl))⟩, trivial⟩
            · conv => whnf
              refine condS_kf (by rw [hb8]; rfl) ?_
              conv => whnf
              exact Wk.mk2 [] 2 rfl rfl (by decide) rfl trivial ⟨⟨rfl, rfl⟩, ⟨rfl, (by first | rfl | (simp only [↓hb6, ↓hb8, ↓hb9, ↓hb10, ↓hb11, cond_true, cond_false, Bool.true_or, Bool.or_true, Bool.false_or, Bool.or_false, Bool.true_and, Bool.and_true, Bool.false_and, Bool.and_false, Bool.not_true, Bool.not_false]; done) | (simp only [↓hb6, ↓hb8, ↓hb9, ↓hb10, ↓hb11, cond_true, cond_false, Bool.true_or, Bool.or_true, Bool.false_or, Bool.or_false, Bool.true_and, Bool.and_true, Bool.false_and, Bool.and_false, Bool.not_true, Bool.not_false]; rfl))⟩, trivial⟩
      · conv => whnf
        refine condS_kt (by rw [hb8]; rfl) ?_
        conv => whnf
        refine condS_mk (fun hb12 => ?_) (fun hb12 => ?_)
        · conv => whnf
          exact Wk.mk2 [] 2 rfl rfl (by decide) rfl trivial ⟨⟨rfl, rfl⟩, ⟨rfl, (by first | rfl | (simp only [↓hb6, ↓hb8, ↓hb12, cond_true, cond_false, Bool.true_or, Bool.or_true, Bool.false_or, Bool.or_false, Bool.true_and, Bool.and_true, Bool.false_and, Bool.and_false, Bool.not_true, Bool.not_false]; done) | (simp only [↓hb6, ↓hb8, ↓hb12, cond_true, cond_false, Bool.true_or, Bool.or_true, Bool.false_or, Bool.or_false, Bool.true_and, Bool.and_true, Bool.false_and, Bool.and_false, Bool.not_true, Bool.not_false]; rfl))⟩, trivial⟩
        · conv => whnf
          refine lnS_map ?_
          conv => whnf
          refine condS_mk (fun hb13 => ?_) (fun hb13 => ?_)
          · conv => whnf
            exact Wk.mk2 [] 2 rfl rfl (by decide) rfl trivial ⟨⟨rfl, rfl⟩, ⟨rfl, (by first | rfl | (simp only [↓hb6, ↓hb8, ↓hb12, ↓hb13, cond_true, cond_false, Bool.true_or, Bool.or_true, Bool.false_or, Bool.or_false, Bool.true_and, Bool.and_true, Bool.false_and, Bool.and_false, Bool.not_true, Bool.not_false]; done) | (simp only [↓hb6, ↓hb8, ↓hb12, ↓hb13, cond_true, cond_false, Bool.true_or, Bool.or_true, Bool.false_or, Bool.or_false, Bool.true_and, Bool.and_true, Bool.false_and, Bool.and_false, Bool.not_true, Bool.not_false]; rfl))⟩, trivial⟩
          · conv => whnf
            refine condS_mk (fun hb14 => ?_) (fun hb14 => ?_)
            · conv => whnf
              exact Wk.mk2 [] 2 rfl rfl (by decide) rfl trivial ⟨⟨rfl, rfl⟩, ⟨rfl, (by first | rfl | (simp only [↓hb6, ↓hb8, ↓hb12, ↓hb13, ↓hb14, cond_true, cond_false, Bool.true_or, Bool.or_true, Bool.false_or, Bool.or_false, Bool.true_and, Bool.and_true, Bool.false_and, Bool.and_false, Bool.not_true, Bool.not_false]; done) | (simp only [↓hb6, ↓hb8, ↓hb12, ↓hb13, ↓hb14, cond_true, cond_false, Bool.true_or, Bool.or_true, Bool.false_or, Bool.or_false, Bool.true_and, Bool.and_true, Bool.false_and, Bool.and_false, Bool.not_true, Bool.not_false]; rfl))⟩, trivial⟩
            · conv => whnf
              refine condS_mk (fun hb15 => ?_) (fun hb15 => ?_)
              · conv => whnf
                exact Wk.mk2 [] 2 rfl rfl (by decide) rfl trivial ⟨⟨rfl, rfl⟩, ⟨rfl, (by first | rfl | (simp only [↓hb6, ↓hb8, ↓hb12, ↓hb13, ↓hb14, ↓hb15, cond_true, cond_false, Bool.true_or, Bool.or_true, Bool.false_or, Bool.or_false, Bool.true_and, Bool.and_true, Bool.false_and, Bool.and_false, Bool.not_true, Bool.not_false]; done) | (simp only [↓hb6, ↓hb8, ↓hb12, ↓hb13, ↓hb14, ↓hb15, cond_true, cond_false, Bool.true_or, Bool.or_true, Bool.false_or, Bool.or_false, Bool.true_and, Bool.and_true, Bool.false_and, Bool.and_false, Bool.not_true, Bool.not_false]; rfl))⟩, trivial⟩
              · conv => whnf
                exact Wk.mk2 [] 2 rfl rfl (by decide) rfl trivial ⟨⟨rfl, rfl⟩, ⟨rfl, (by first | rfl | (simp only [↓hb6, ↓hb8, ↓hb12, ↓hb13, ↓hb14, ↓hb15, cond_true, cond_false, Bool.true_or, Bool.or_true, Bool.false_or, Bool.or_false, Bool.true_and, Bool.and_true, Bool.false_and, Bool.and_false, Bool.not_true, Bool.not_false]; done) | (simp only [↓hb6, ↓hb8, ↓hb12, ↓hb13, ↓hb14, ↓hb15, cond_true, cond_false, Bool.true_or, Bool.or_true, Bool.false_or, Bool.or_false, Bool.true_and, Bool.and_true, Bool.false_and, Bool.and_false, Bool.not_true, Bool.not_false]; rfl))⟩, trivial⟩
    · conv => whnf
      refine Tr.weak hw ?_
      refine Tr.cond ?_
      conv => whnf
      refine condS_bif h (fun hb16 h => ?_) (fun hb16 h => ?_)
      · refine Tr.seq ?_
        refine Tr.region layOK ?_
        conv => whnf
        refine Tr.ret ?_
        conv => whnf
        cases h
        rfl
      · refine Tr.skip ?_
        conv => whnf
        refine Tr.seq ?_
        refine Tr.region layOK ?_
        conv => whnf
        refine Tr.ret ?_
        conv => whnf
        cases h
        rfl

theorem s_stopwatchref24_Possible (f_1 : TField) (world_2 : Int) (r_3 : Bool) (h : m_stopwatchref24_Possible f_1 world_2 = some r_3) :
    PC prog 94 [(eTField f_1), (.i .i64 world_2)] (fun rs => rs = [(.b r_3)]) := by
  refine PC.of_tr (cx := ⟨39, none, lay, 0⟩) layOK func94 rfl rfl rfl rfl rfl (by simp [f94]) ?_
  unfold m_stopwatchref24_Possible at h
  refine Tr.seq ?_
  refine Tr.region layOK ?_
  conv => whnf
  refine Tr.seq ?_
  refine Tr.seq ?_
  refine Tr.region layOK ?_
  conv => whnf
  refine Tr.cutQ (α := Unit) (fun s => ([(4, .d (.b false))], [])) (fun s => m_stopwatchref24_Possible_J2 s = some r_3) ?_ ?_
  · refine Tr.block ?_
    refine Tr.loopM (σ := Int) (fun n s => m_stopwatchref24_Possible_L1 f_1 world_2 m_stopwatchref24_Possible_J2 n s) r_3 (fun s => ([(1, .d (.i .i64 world_2)), (2, .pt 0 0), (4, .d (.b false)), (5, .d (.i .i64 s))], [some (.var [.d (.ls (List.map eTSegment f_1.Clocks.Segments)), .d (.ls (List.map (eL eI) f_1.Clocks.Far)), .d (.ls (List.map eTPair f_1.Pairs)), .d (.ls (List.map eTRunner f_1.Runners))])])) (((((f_1.Runners).length : Int)) - 0 : Int).toNat + 1) (0) h (fun s => rfl) (Wk.mk2 [0] 1 rfl rfl (by decide) rfl ⟨⟨rfl, rfl⟩, trivial⟩ ⟨⟨rfl, rfl⟩, ⟨rfl, rfl⟩, ⟨rfl, rfl⟩, ⟨rfl, rfl⟩, trivial⟩) ?_
    clear h
    rintro n_6 i_5 h
    replace h : m_stopwatchref24_Possible_L1 f_1 world_2 m_stopwatchref24_Possible_J2 (n_6 + 1) i_5 = some r_3 := h
    rw [m_stopwatchref24_Possible_L1] at h
    refine Tr.seq ?_
    refine Tr.seq ?_
    refine Tr.region layOK ?_
    conv => whnf
    refine lnS_map ?_
    conv => whnf
    refine Tr.cond ?_
    conv => whnf
    refine condS_bif h (fun hb9 h => ?_) (fun hb9 h => ?_)
    · refine Tr.skip ?_
      conv => whnf
      refine Tr.seq ?_
      refine Tr.block ?_
      refine Tr.seq ?_
      refine Tr.region layOK ?_
      conv => whnf
      refine condS_bif h (fun hb10 h => ?_) (fun hb10 h => ?_)
      · conv => whnf
        refine Tr.cond ?_
        conv => whnf
        refine Tr.seq ?_
        refine Tr.region layOK ?_
        conv => whnf
        refine Tr.ret ?_
        conv => whnf
        cases h
        rfl
      · conv => whnf
        obtain ⟨x_11, hx_11, h⟩ := bind_some h
        refine ixP_of hx_11 ?_
        conv => whnf
        refine lnS_map ?_
        conv => whnf
        refine condS_bif h (fun hb12 h => ?_) (fun hb12 h => ?_)
        · conv => whnf
          refine Tr.cond ?_
          conv => whnf
          refine Tr.seq ?_
          refine Tr.region layOK ?_
          conv => whnf
          refine Tr.ret ?_
          conv => whnf
          cases h
          rfl
        · conv => whnf
          obtain ⟨x_13, hx_13, h⟩ := bind_some h
          refine ixP_of hx_13 ?_
          conv => whnf
          obtain ⟨x_14, hx_14, h⟩ := bind_some h
          refine ixP_of hx_14 ?_
          conv => whnf
          refine lnS_map ?_
          conv => whnf
          refine Tr.cond ?_
          conv => whnf
          refine condS_bif h (fun hb15 h => ?_) (fun hb15 h => ?_)
          · refine Tr.seq ?_
            refine Tr.region layOK ?_
            conv => whnf
            refine Tr.ret ?_
            conv => whnf
            cases h
            rfl
          · refine Tr.skip ?_
            conv => whnf
            refine Tr.region layOK ?_
            conv => whnf
            refine arS_raw ?_
            conv => whnf
            refine ⟨((w64 (i_5 + 1))), h, ?_⟩
            exact Wk.mk2 [0] 1 rfl rfl (by decide) rfl ⟨⟨rfl, rfl⟩, trivial⟩ ⟨⟨rfl, rfl⟩, ⟨rfl, rfl⟩, ⟨rfl, rfl⟩, ⟨rfl, rfl⟩, trivial⟩
    · refine Tr.exit ?_
      conv => whnf
      refine ⟨(), h, ?_⟩
      exact Wk.mk2 [] 1 rfl rfl (by decide) rfl trivial ⟨⟨rfl, rfl⟩, trivial⟩
  · clear h
    rintro _ h T1 H1 hw
    replace h : m_stopwatchref24_Possible_J2 () = some r_3 := h
    conv => whnf
    refine Tr.weak hw ?_
    unfold m_stopwatchref24_Possible_J2 at h
    refine Tr.seq ?_
    refine Tr.region layOK ?_
    conv => whnf
    refine Tr.ret ?_
    conv => whnf
    cases h
    rfl

theorem s_stopwatchref24_possible (f_1 : TField) (r_2 : Bool) (h : m_stopwatchref24_possible f_1 = some r_2) :
    PC prog 61 [(eTField f_1)] (fun rs => rs = [(.b r_2)]) := by
  refine PC.of_tr (cx := ⟨14, none, lay, 0⟩) layOK func61 rfl rfl rfl rfl rfl (by simp [f61]) ?_
  unfold m_stopwatchref24_possible at h
  refine Tr.seq ?_
  refine Tr.region layOK ?_
  conv => whnf
  refine Tr.seq ?_
  refine Tr.seq ?_
  refine Tr.region layOK ?_
  conv => whnf
  refine Tr.cutQ (α := Unit) (fun s => ([(2, .d (.b false))], [])) (fun s => m_stopwatchref24_possible_J2 s = some r_2) ?_ ?_
  · refine Tr.block ?_
    refine Tr.loopM (σ := Int) (fun n s => m_stopwatchref24_possible_L1 f_1 m_stopwatchref24_possible_J2 n s) r_2 (fun s => ([(1, .pt 0 0), (2, .d (.b false)), (3, .d (.i .i64 s))], [some (.var [.d (.ls (List.map eTSegment f_1.Clocks.Segments)), .d (.ls (List.map (eL eI) f_1.Clocks.Far)), .d (.ls (List.map eTPair f_1.Pairs)), .d (.ls (List.map eTRunner f_1.Runners))])])) (((((f_1.Pairs).length : Int)) + 1 - 0 : Int).toNat + 1) (0) h (fun s => rfl) (Wk.mk2 [0] 1 rfl rfl (by decide) rfl ⟨⟨rfl, rfl⟩, trivial⟩ ⟨⟨rfl, rfl⟩, ⟨rfl, rfl⟩, ⟨rfl, rfl⟩, trivial⟩) ?_
    clear h
    rintro n_5 w_4 h
    replace h : m_stopwatchref24_possible_L1 f_1 m_stopwatchref24_possible_J2 (n_5 + 1) w_4 = some r_2 := h
    rw [m_stopwatchref24_possible_L1] at h
    refine Tr.seq ?_
    refine Tr.seq ?_
    refine Tr.region layOK ?_
    conv => whnf
    refine lnS_map ?_
    conv => whnf
    refine Tr.cond ?_
    conv => whnf
    refine condS_bif h (fun hb8 h => ?_) (fun hb8 h => ?_)
    · refine Tr.skip ?_
      conv => whnf
      refine Tr.seq ?_
      refine Tr.block ?_
      refine Tr.seq ?_
      refine Tr.region layOK ?_
      conv => whnf
      obtain ⟨r_9, hc10, h⟩ := bind_some h
      refine PC.ecall (s_stopwatchref24_Possible f_1 w_4 r_9 hc10) (fun rs hrs => ?_)
      subst hrs
      conv => whnf
      refine Tr.cond ?_
      conv => whnf
      refine condS_bif h (fun hb11 h => ?_) (fun hb11 h => ?_)
      · refine Tr.seq ?_
        refine Tr.region layOK ?_
        conv => whnf
        refine Tr.ret ?_
        conv => whnf
        cases h
        rfl
      · refine Tr.skip ?_
        conv => whnf
        refine Tr.region layOK ?_
        conv => whnf
        refine arS_raw ?_
        conv => whnf
        refine ⟨((w64 (w_4 + 1))), h, ?_⟩
        exact Wk.mk2 [0] 1 rfl rfl (by decide) rfl ⟨⟨rfl, rfl⟩, trivial⟩ ⟨⟨rfl, rfl⟩, ⟨rfl, rfl⟩, ⟨rfl, rfl⟩, trivial⟩
    · refine Tr.exit ?_
      conv => whnf
      refine ⟨(), h, ?_⟩
      exact Wk.mk2 [] 1 rfl rfl (by decide) rfl trivial ⟨⟨rfl, rfl⟩, trivial⟩
  · clear h
    rintro _ h T1 H1 hw
    replace h : m_stopwatchref24_possible_J2 () = some r_2 := h
    conv => whnf
    refine Tr.weak hw ?_
    unfold m_stopwatchref24_possible_J2 at h
    refine Tr.seq ?_
    refine Tr.region layOK ?_
    conv => whnf
    refine Tr.ret ?_
    conv => whnf
    cases h
    rfl

theorem s_stopwatchref24_Check (f_1 : TField) (r_2 : Int) (h : m_stopwatchref24_Check f_1 = some r_2) :
    PC prog 33 [(eTField f_1)] (fun rs => rs = [(.i .i64 r_2)]) := by
  refine PC.of_tr (cx := ⟨182, none, lay, 0⟩) layOK func33 rfl rfl rfl rfl rfl (by simp [f33]) ?_
  unfold m_stopwatchref24_Check at h
  refine Tr.seq ?_
  refine Tr.region layOK ?_
  conv => whnf
  refine Tr.seq ?_
  refine Tr.seq ?_
  obtain ⟨v_3, hv4, h⟩ := bind_some h
  refine Tr.cutQ1 ([(1, .pt 0 0), (2, .d (.i .i64 0)), (30, .d (.b v_3))]) ([some (.var [.d (.ls (List.map eTSegment f_1.Clocks.Segments)), .d (.ls (List.map (eL eI) f_1.Clocks.Far)), .d (.ls (List.map eTPair f_1.Pairs)), .d (.ls (List.map eTRunner f_1.Runners))])]) ?_ (fun T1 H1 hw => ?_)
  · replace h := hv4; clear hv4
    refine Tr.region layOK ?_
    conv => whnf
    obtain ⟨r_5, hc6, h⟩ := bind_some h
    refine PC.ecall (s_stopwatchref16_Check f_1.Clocks r_5 hc6) (fun rs hrs => ?_)
    subst hrs
    conv => whnf
    refine condS_bif h (fun hb7 h => ?_) (fun hb7 h => ?_)
    · conv => whnf
      cases h
      exact Wk.mk2 [0] 1 rfl rfl (by decide) rfl ⟨⟨rfl, rfl⟩, trivial⟩ ⟨⟨rfl, rfl⟩, ⟨rfl, rfl⟩, ⟨rfl, rfl⟩, trivial⟩
    · conv => whnf
      refine lnS_map ?_
      conv => whnf
      refine condS_bif h (fun hb8 h => ?_) (fun hb8 h => ?_)
      · conv => whnf
        cases h
        exact Wk.mk2 [0] 1 rfl rfl (by decide) rfl ⟨⟨rfl, rfl⟩, trivial⟩ ⟨⟨rfl, rfl⟩, ⟨rfl, rfl⟩, ⟨rfl, rfl⟩, trivial⟩
      · conv => whnf
        refine lnS_map ?_
        conv => whnf
        refine condS_bif h (fun hb9 h => ?_) (fun hb9 h => ?_)
        · conv => whnf
          cases h
          exact Wk.mk2 [0] 1 rfl rfl (by decide) rfl ⟨⟨rfl, rfl⟩, trivial⟩ ⟨⟨rfl, rfl⟩, ⟨rfl, rfl⟩, ⟨rfl, rfl⟩, trivial⟩
        · conv => whnf
          refine lnS_map ?_
          conv => whnf
          cases h
          exact Wk.mk2 [0] 1 rfl rfl (by decide) rfl ⟨⟨rfl, rfl⟩, trivial⟩ ⟨⟨rfl, rfl⟩, ⟨rfl, rfl⟩, ⟨rfl, rfl⟩, trivial⟩
  · clear hv4
    conv => whnf
    refine Tr.weak hw ?_
    refine Tr.cond ?_
    conv => whnf
    refine condS_bif h (fun hb10 h => ?_) (fun hb10 h => ?_)
    · refine Tr.seq ?_
      refine Tr.region layOK ?_
      conv => whnf
      refine Tr.ret ?_
      conv => whnf
      cases h
      rfl
    · refine Tr.skip ?_
      conv => whnf
      refine Tr.seq ?_
      refine Tr.seq ?_
      refine Tr.region layOK ?_
      conv => whnf
      refine Tr.cutQ (α := Unit) (fun s => ([(1, .pt 0 0), (2, .d (.i .i64 0))], [some (.var [.d (.ls (List.map eTSegment f_1.Clocks.Segments)), .d (.ls (List.map (eL eI) f_1.Clocks.Far)), .d (.ls (List.map eTPair f_1.Pairs)), .d (.ls (List.map eTRunner f_1.Runners))])])) (fun s => m_stopwatchref24_Check_J8 f_1 s = some r_2) ?_ ?_
      · refine Tr.block ?_
        refine Tr.loopM (σ := Int) (fun n s => m_stopwatchref24_Check_L1 f_1 (m_stopwatchref24_Check_J8 f_1) n s) r_2 (fun s => ([(1, .pt 0 0), (2, .d (.i .i64 0)), (3, .d (.i .i64 s))], [some (.var [.d (.ls (List.map eTSegment f_1.Clocks.Segments)), .d (.ls (List.map (eL eI) f_1.Clocks.Far)), .d (.ls (List.map eTPair f_1.Pairs)), .d (.ls (List.map eTRunner f_1.Runners))])])) (((((f_1.Pairs).length : Int)) - 0 : Int).toNat + 1) (0) h (fun s => rfl) (Wk.mk2 [0] 1 rfl rfl (by decide) rfl ⟨⟨rfl, rfl⟩, trivial⟩ ⟨⟨rfl, rfl⟩, ⟨rfl, rfl⟩, ⟨rfl, rfl⟩, trivial⟩) ?_
        clear h
        rintro n_13 i_12 h
        replace h : m_stopwatchref24_Check_L1 f_1 (m_stopwatchref24_Check_J8 f_1) (n_13 + 1) i_12 = some r_2 := h
        rw [m_stopwatchref24_Check_L1] at h
        refine Tr.seq ?_
        refine Tr.seq ?_
        refine Tr.region layOK ?_
        conv => whnf
        refine lnS_map ?_
        conv => whnf
        refine Tr.cond ?_
        conv => whnf
        refine condS_bif h (fun hb16 h => ?_) (fun hb16 h => ?_)
        · refine Tr.skip ?_
          conv => whnf
          refine Tr.seq ?_
          refine Tr.block ?_
          refine Tr.seq ?_
          refine Tr.region layOK ?_
          conv => whnf
          obtain ⟨x_17, hx_17, h⟩ := bind_some h
          refine ixP_of hx_17 ?_
          conv => whnf
          refine Tr.seq ?_
          refine Tr.seq ?_
          refine Tr.region layOK ?_
          conv => whnf
          refine condS_bif h (fun hb18 h => ?_) (fun hb18 h => ?_)
          · conv => whnf
            refine Tr.cond ?_
            conv => whnf
            refine Tr.seq ?_
            refine Tr.region layOK ?_
            conv => whnf
            refine Tr.ret ?_
            conv => whnf
            cases h
            rfl
          · conv => whnf
            refine condS_bif h (fun hb19 h => ?_) (fun hb19 h => ?_)
            · conv => whnf
              refine Tr.cond ?_
              conv => whnf
              refine Tr.seq ?_
              refine Tr.region layOK ?_
              conv => whnf
              refine Tr.ret ?_
              conv => whnf
              cases h
              rfl
            · conv => whnf
              refine Tr.cond ?_
              conv => whnf
              refine condS_bif h (fun hb20 h => ?_) (fun hb20 h => ?_)
              · refine Tr.seq ?_
                refine Tr.region layOK ?_
                conv => whnf
                refine Tr.ret ?_
                conv => whnf
                cases h
                rfl
              · refine Tr.skip ?_
                conv => whnf
                refine Tr.seq ?_
                obtain ⟨v_21, hv22, h⟩ := bind_some h
                refine Tr.cutQ1 ([(1, .pt 0 0), (2, .d (.i .i64 0)), (3, .d (.i .i64 i_12)), (95, .d (.b v_21))]) ([some (.var [.d (.ls (List.map eTSegment f_1.Clocks.Segments)), .d (.ls (List.map (eL eI) f_1.Clocks.Far)), .d (.ls (List.map eTPair f_1.Pairs)), .d (.ls (List.map eTRunner f_1.Runners))])]) ?_ (fun T1 H1 hw => ?_)
                · replace h := hv22; clear hv22
                  refine Tr.draw (DrawP.seqQ layOK mixed [] [(0, 1), (1, 1), (2, 1), (3, 3), (4, 3), (5, 1), (6, 1), (7, 2), (8, 2), (9, 2), (10, 4), (11, 4), (12, 1), (13, 1), (14, 3), (15, 3), (16, 1), (17, 1), (18, 2), (19, 2), (20, 2), (21, 4), (22, 4), (23, 1), (24, 1), (25, 3), (26, 3), (27, 1), (28, 1), (29, 2), (30, 2), (31, 2), (32, 4), (33, 4), (34, 1), (35, 1), (36, 1), (37, 1)] (by kernel_rfl) ?_)
                  conv => whnf
                  refine ⟨_, (fun H => by (conv => whnf); (exact ⟨rfl, rfl⟩)), ?_⟩
                  conv => whnf
                  refine ⟨_, (fun H => by (conv => whnf); (exact ⟨rfl, rfl⟩)), ?_⟩
                  conv => whnf
                  refine ⟨_, (fun H => by (conv => whnf); (exact ⟨rfl, rfl⟩)), ?_⟩
                  conv => whnf
                  refine condS_bif h (fun hb23 h => ?_) (fun hb23 h => ?_)
                  · conv => whnf
                    refine ⟨_, ⟨rfl, rfl, (by (conv => whnf); (exact ⟨rfl, rfl⟩))⟩, ?_⟩
                    conv => whnf
                    refine ⟨_, ⟨rfl, rfl, (by (conv => whnf); (exact ⟨rfl, rfl⟩))⟩, ?_⟩
                    conv => whnf
                    refine ⟨_, (fun H => by (conv => whnf); (exact ⟨rfl, rfl⟩)), ?_⟩
                    conv => whnf
                    refine ⟨_, (fun H => by (conv => whnf); (refine arS_raw ?_); (conv => whnf); (exact ⟨rfl, rfl⟩)), ?_⟩
                    conv => whnf
                    obtain ⟨x_24, hx_24, h⟩ := bind_some h
                    refine ⟨_, ⟨rfl, rfl, (by (conv => whnf); (refine ixP_of hx_24 ?_); (conv => whnf); (exact ⟨rfl, rfl⟩))⟩, ?_⟩
                    conv => whnf
                    refine ⟨_, ⟨rfl, rfl, (by (conv => whnf); (exact ⟨rfl, rfl⟩))⟩, ?_⟩
                    conv => whnf
                    refine ⟨_, ⟨rfl, rfl, (by (conv => whnf); (exact ⟨rfl, rfl⟩))⟩, ?_⟩
                    conv => whnf
                    refine ⟨_, ⟨rfl, rfl, (by (conv => whnf); (exact ⟨rfl, rfl⟩))⟩, ?_⟩
                    conv => whnf
                    refine ⟨_, ⟨rfl, rfl, (by (conv => whnf); (exact ⟨rfl, rfl⟩))⟩, ?_⟩
                    conv => whnf
                    refine ⟨_, (fun H => by (conv => whnf); (exact ⟨rfl, rfl⟩)), ?_⟩
                    conv => whnf
                    refine ⟨_, (fun H => by (conv => whnf); (exact ⟨rfl, rfl⟩)), ?_⟩
                    conv => whnf
                    refine condS_bif h (fun hb25 h => ?_) (fun hb25 h => ?_)
                    · conv => whnf
                      refine ⟨_, (fun H => by (conv => whnf); (exact ⟨rfl, rfl⟩)), ?_⟩
                      conv => whnf
                      refine ⟨_, (fun H => by (conv => whnf); (exact ⟨rfl, rfl⟩)), ?_⟩
                      conv => whnf
                      cases h
                      exact Wk.mk2 [0] 2 rfl rfl (by decide) rfl ⟨⟨rfl, rfl⟩, trivial⟩ ⟨⟨rfl, rfl⟩, ⟨rfl, rfl⟩, ⟨rfl, rfl⟩, ⟨rfl, rfl⟩, trivial⟩
                    · conv => whnf
                      refine ⟨_, ⟨rfl, rfl, (by (conv => whnf); (exact ⟨rfl, rfl⟩))⟩, ?_⟩
                      conv => whnf
                      refine ⟨_, ⟨rfl, rfl, (by (conv => whnf); (exact ⟨rfl, rfl⟩))⟩, ?_⟩
                      conv => whnf
                      refine ⟨_, (fun H => by (conv => whnf); (exact ⟨rfl, rfl⟩)), ?_⟩
                      conv => whnf
                      refine ⟨_, (fun H => by (conv => whnf); (refine arS_raw ?_); (conv => whnf); (exact ⟨rfl, rfl⟩)), ?_⟩
                      conv => whnf
                      obtain ⟨x_26, hx_26, h⟩ := bind_some h
                      refine ⟨_, ⟨rfl, rfl, (by (conv => whnf); (refine ixP_of hx_26 ?_); (conv => whnf); (exact ⟨rfl, rfl⟩))⟩, ?_⟩
                      conv => whnf
                      refine ⟨_, ⟨rfl, rfl, (by (conv => whnf); (exact ⟨rfl, rfl⟩))⟩, ?_⟩
                      conv => whnf
                      refine ⟨_, ⟨rfl, rfl, (by (conv => whnf); (exact ⟨rfl, rfl⟩))⟩, ?_⟩
                      conv => whnf
                      refine ⟨_, ⟨rfl, rfl, (by (conv => whnf); (exact ⟨rfl, rfl⟩))⟩, ?_⟩
                      conv => whnf
                      refine ⟨_, ⟨rfl, rfl, (by (conv => whnf); (exact ⟨rfl, rfl⟩))⟩, ?_⟩
                      conv => whnf
                      refine ⟨_, (fun H => by (conv => whnf); (exact ⟨rfl, rfl⟩)), ?_⟩
                      conv => whnf
                      refine ⟨_, (fun H => by (conv => whnf); (exact ⟨rfl, rfl⟩)), ?_⟩
                      conv => whnf
                      refine condS_bif h (fun hb27 h => ?_) (fun hb27 h => ?_)
                      · conv => whnf
                        refine ⟨_, ⟨rfl, rfl, (by (conv => whnf); (exact ⟨rfl, rfl⟩))⟩, ?_⟩
                        conv => whnf
                        refine ⟨_, ⟨rfl, rfl, (by (conv => whnf); (exact ⟨rfl, rfl⟩))⟩, ?_⟩
                        conv => whnf
                        refine ⟨_, (fun H => by (conv => whnf); (exact ⟨rfl, rfl⟩)), ?_⟩
                        conv => whnf
                        refine ⟨_, (fun H => by (conv => whnf); (refine arS_raw ?_); (conv => whnf); (exact ⟨rfl, rfl⟩)), ?_⟩
                        conv => whnf
                        obtain ⟨x_28, hx_28, h⟩ := bind_some h
                        refine ⟨_, ⟨rfl, rfl, (by (conv => whnf); (refine ixP_of hx_28 ?_); (conv => whnf); (exact ⟨rfl, rfl⟩))⟩, ?_⟩
                        conv => whnf
                        refine ⟨_, ⟨rfl, rfl, (by (conv => whnf); (exact ⟨rfl, rfl⟩))⟩, ?_⟩
                        conv => whnf
                        refine ⟨_, ⟨rfl, rfl, (by (conv => whnf); (exact ⟨rfl, rfl⟩))⟩, ?_⟩
                        conv => whnf
                        refine ⟨_, ⟨rfl, rfl, (by (conv => whnf); (exact ⟨rfl, rfl⟩))⟩, ?_⟩
                        conv => whnf
                        refine ⟨_, ⟨rfl, rfl, (by (conv => whnf); (exact ⟨rfl, rfl⟩))⟩, ?_⟩
                        conv => whnf
                        refine ⟨_, (fun H => by (conv => whnf); (exact ⟨rfl, rfl⟩)), ?_⟩
                        conv => whnf
                        refine ⟨_, (fun H => by (conv => whnf); (exact ⟨rfl, rfl⟩)), ?_⟩
                        conv => whnf
                        refine ⟨_, (fun H => by (conv => whnf); (exact ⟨rfl, rfl⟩)), ?_⟩
                        conv => whnf
                        refine ⟨_, (fun H => by (conv => whnf); (exact ⟨rfl, rfl⟩)), ?_⟩
                        conv => whnf
                        cases h
                        exact Wk.mk2 [0] 2 rfl rfl (by decide) rfl ⟨⟨rfl, rfl⟩, trivial⟩ ⟨⟨rfl, rfl⟩, ⟨rfl, rfl⟩, ⟨rfl, rfl⟩, ⟨rfl, rfl⟩, trivial⟩
                      · conv => whnf
                        refine ⟨_, (fun H => by (conv => whnf); (exact ⟨rfl, rfl⟩)), ?_⟩
                        conv => whnf
                        refine ⟨_, (fun H => by (conv => whnf); (exact ⟨rfl, rfl⟩)), ?_⟩
                        conv => whnf
                        refine ⟨_, (fun H => by (conv => whnf); (exact ⟨rfl, rfl⟩)), ?_⟩
                        conv => whnf
                        cases h
                        exact Wk.mk2 [0] 2 rfl rfl (by decide) rfl ⟨⟨rfl, rfl⟩, trivial⟩ ⟨⟨rfl, rfl⟩, ⟨rfl, rfl⟩, ⟨rfl, rfl⟩, ⟨rfl, rfl⟩, trivial⟩
                  · conv => whnf
                    refine ⟨_, (fun H => by (conv => whnf); (exact ⟨rfl, rfl⟩)), ?_⟩
                    conv => whnf
                    cases h
                    exact Wk.mk2 [0] 2 rfl rfl (by decide) rfl ⟨⟨rfl, rfl⟩, trivial⟩ ⟨⟨rfl, rfl⟩, ⟨rfl, rfl⟩, ⟨rfl, rfl⟩, ⟨rfl, rfl⟩, trivial⟩
                · clear hv22
                  conv => whnf
                  refine Tr.weak hw ?_
                  refine Tr.cond ?_
                  conv => whnf
                  refine condS_bif h (fun hb29 h => ?_) (fun hb29 h => ?_)
                  · refine Tr.seq ?_
                    refine Tr.region layOK ?_
                    conv => whnf
                    refine Tr.ret ?_
                    conv => whnf
                    cases h
                    rfl
                  · refine Tr.skip ?_
                    conv => whnf
                    refine Tr.region layOK ?_
                    conv => whnf
                    refine arS_raw ?_
                    conv => whnf
                    refine ⟨((w64 (i_12 + 1))), h, ?_⟩
                    exact Wk.mk2 [0] 1 rfl rfl (by decide) rfl ⟨⟨rfl, rfl⟩, trivial⟩ ⟨⟨rfl, rfl⟩, ⟨rfl, rfl⟩, ⟨rfl, rfl⟩, trivial⟩
        · refine Tr.exit ?_
          conv => whnf
          refine ⟨(), h, ?_⟩
          exact Wk.mk2 [0] 1 rfl rfl (by decide) rfl ⟨⟨rfl, rfl⟩, trivial⟩ ⟨⟨rfl, rfl⟩, ⟨rfl, rfl⟩, trivial⟩
      · clear h
        rintro _ h T1 H1 hw
        replace h : m_stopwatchref24_Check_J8 f_1 () = some r_2 := h
        conv => whnf
        refine Tr.weak hw ?_
        unfold m_stopwatchref24_Check_J8 at h
        refine Tr.seq ?_
        refine Tr.seq ?_
        refine Tr.region layOK ?_
        conv => whnf
        refine Tr.cutQ (α := Unit) (fun s => ([(1, .pt 0 0), (2, .d (.i .i64 0))], [some (.var [.d (.ls (List.map eTSegment f_1.Clocks.Segments)), .d (.ls (List.map (eL eI) f_1.Clocks.Far)), .d (.ls (List.map eTPair f_1.Pairs)), .d (.ls (List.map eTRunner f_1.Runners))])])) (fun s => m_stopwatchref24_Check_J7 f_1 s = some r_2) ?_ ?_
        · refine Tr.block ?_
          refine Tr.loopM (σ := Int) (fun n s => m_stopwatchref24_Check_L2 f_1 (m_stopwatchref24_Check_J7 f_1) n s) r_2 (fun s => ([(1, .pt 0 0), (2, .d (.i .i64 0)), (5, .d (.i .i64 s))], [some (.var [.d (.ls (List.map eTSegment f_1.Clocks.Segments)), .d (.ls (List.map (eL eI) f_1.Clocks.Far)), .d (.ls (List.map eTPair f_1.Pairs)), .d (.ls (List.map eTRunner f_1.Runners))])])) (((((f_1.Runners).length : Int)) - 0 : Int).toNat + 1) (0) h (fun s => rfl) (Wk.mk2 [0] 1 rfl rfl (by decide) rfl ⟨⟨rfl, rfl⟩, trivial⟩ ⟨⟨rfl, rfl⟩, ⟨rfl, rfl⟩, ⟨rfl, rfl⟩, trivial⟩) ?_
          clear h
          rintro n_32 i_31 h
          replace h : m_stopwatchref24_Check_L2 f_1 (m_stopwatchref24_Check_J7 f_1) (n_32 + 1) i_31 = some r_2 := h
          rw [m_stopwatchref24_Check_L2] at h
          refine Tr.seq ?_
          refine Tr.seq ?_
          refine Tr.region layOK ?_
          conv => whnf
          refine lnS_map ?_
          conv => whnf
          refine Tr.cond ?_
          conv => whnf
          refine condS_bif h (fun hb35 h => ?_) (fun hb35 h => ?_)
          · refine Tr.skip ?_
            conv => whnf
            refine Tr.seq ?_
            refine Tr.block ?_
            refine Tr.seq ?_
            refine Tr.region layOK ?_
            conv => whnf
            obtain ⟨x_36, hx_36, h⟩ := bind_some h
            refine ixP_of hx_36 ?_
            conv => whnf
            refine Tr.seq ?_
            refine Tr.seq ?_
            obtain ⟨v_37, hv38, h⟩ := bind_some h
            refine Tr.cutQ1 ([(1, .pt 0 0), (2, .d (.i .i64 0)), (5, .d (.i .i64 i_31)), (6, .pt 1 0), (149, .d (.b v_37))]) ([some (.var [.d (.ls (List.map eTSegment f_1.Clocks.Segments)), .d (.ls (List.map (eL eI) f_1.Clocks.Far)), .d (.ls (List.map eTPair f_1.Pairs)), .d (.ls (List.map eTRunner f_1.Runners))]), some (.var [.d (.i .i64 x_36.Bib), .d (.ls (List.map eI x_36.Keys)), .d (.ls (List.map (eL eTOutcome) x_36.Worlds))])]) ?_ (fun T1 H1 hw => ?_)
            · replace h := hv38; clear hv38
              refine Tr.draw (DrawP.seqQ layOK mixed [] [(0, 4), (1, 4), (2, 1), (3, 1), (4, 1), (5, 1), (6, 1), (7, 1), (8, 3), (9, 3), (10, 1), (11, 1), (12, 2), (13, 2), (14, 2), (15, 4), (16, 4), (17, 1), (18, 1), (19, 1), (20, 1), (21, 4), (22, 4), (23, 2), (24, 3), (25, 3), (26, 2), (27, 2), (28, 2), (29, 2), (30, 1), (31, 1), (32, 1), (33, 4), (34, 4), (35, 2), (36, 3), (37, 3), (38, 2), (39, 1), (40, 1), (41, 1)] (by kernel_rfl) ?_)
              conv => whnf
              refine ⟨_, ⟨rfl, rfl, (by (conv => whnf); (exact ⟨rfl, rfl⟩))⟩, ?_⟩
              conv => whnf
              refine ⟨_, ⟨rfl, rfl, (by (conv => whnf); (exact ⟨rfl, rfl⟩))⟩, ?_⟩
              conv => whnf
              obtain ⟨r_39, hc40, h⟩ := bind_some h
              refine ⟨_, (fun H => by (conv => whnf); (refine PC.ecall (s_stopwatchref12_Bib x_36.Bib r_39 hc40) (fun rs hrs => ?_)); (subst hrs); (conv => whnf); (exact ⟨rfl, rfl⟩)), ?_⟩
              conv => whnf
              refine ⟨_, (fun H => by (conv => whnf); (exact ⟨rfl, rfl⟩)), ?_⟩
              conv => whnf
              refine ⟨_, (fun H => by (conv => whnf); (exact ⟨rfl, rfl⟩)), ?_⟩
              conv => whnf
              refine condS_bif h (fun hb41 h => ?_) (fun hb41 h => ?_)
              · conv => whnf
                refine ⟨_, (fun H => by (conv => whnf); (exact ⟨rfl, rfl⟩)), ?_⟩
                conv => whnf
                refine ⟨_, (fun H => by (conv => whnf); (exact ⟨rfl, rfl⟩)), ?_⟩
                conv => whnf
                refine ⟨_, (fun H => by (conv => whnf); (exact ⟨rfl, rfl⟩)), ?_⟩
                conv => whnf
                refine ⟨_, (fun H => by (conv => whnf); (exact ⟨rfl, rfl⟩)), ?_⟩
                conv => whnf
                refine ⟨_, (fun H => by (conv => whnf); (exact ⟨rfl, rfl⟩)), ?_⟩
                conv => whnf
                cases h
                exact Wk.mk2 [0, 1] 2 rfl rfl (by decide) rfl ⟨⟨rfl, rfl⟩, ⟨rfl, rfl⟩, trivial⟩ ⟨⟨rfl, rfl⟩, ⟨rfl, rfl⟩, ⟨rfl, rfl⟩, ⟨rfl, rfl⟩, ⟨rfl, rfl⟩, trivial⟩
              · conv => whnf
                refine ⟨_, (fun H => by (conv => whnf); (exact ⟨rfl, rfl⟩)), ?_⟩
                conv => whnf
                refine ⟨_, (fun H => by (conv => whnf); (exact ⟨rfl, rfl⟩)), ?_⟩
                conv => whnf
                refine ⟨_, (fun H => by (conv => whnf); (exact ⟨rfl, rfl⟩)), ?_⟩
                conv => whnf
                refine condS_bif h (fun hb42 h => ?_) (fun hb42 h => ?_)
                · conv => whnf
                  refine ⟨_, ⟨rfl, rfl, (by (conv => whnf); (exact ⟨rfl, rfl⟩))⟩, ?_⟩
                  conv => whnf
                  refine ⟨_, ⟨rfl, rfl, (by (conv => whnf); (exact ⟨rfl, rfl⟩))⟩, ?_⟩
                  conv => whnf
                  refine ⟨_, (fun H => by (conv => whnf); (exact ⟨rfl, rfl⟩)), ?_⟩
                  conv => whnf
                  refine ⟨_, (fun H => by (conv => whnf); (refine arS_raw ?_); (conv => whnf); (exact ⟨rfl, rfl⟩)), ?_⟩
                  conv => whnf
                  obtain ⟨x_43, hx_43, h⟩ := bind_some h
                  refine ⟨_, ⟨rfl, rfl, (by (conv => whnf); (refine ixP_of hx_43 ?_); (conv => whnf); (exact ⟨rfl, rfl⟩))⟩, ?_⟩
                  conv => whnf
                  refine ⟨_, ⟨rfl, rfl, (by (conv => whnf); (exact ⟨rfl, rfl⟩))⟩, ?_⟩
                  conv => whnf
                  refine ⟨_, ⟨rfl, rfl, (by (conv => whnf); (exact ⟨rfl, rfl⟩))⟩, ?_⟩
                  conv => whnf
                  refine ⟨_, ⟨rfl, rfl, (by (conv => whnf); (exact ⟨rfl, rfl⟩))⟩, ?_⟩
                  conv => whnf
                  refine ⟨_, ⟨rfl, rfl, (by (conv => whnf); (exact ⟨rfl, rfl⟩))⟩, ?_⟩
                  conv => whnf
                  refine ⟨_, (fun H => by (conv => whnf); (exact ⟨rfl, rfl⟩)), ?_⟩
                  conv => whnf
                  refine ⟨_, (fun H => by (conv => whnf); (exact ⟨rfl, rfl⟩)), ?_⟩
                  conv => whnf
                  refine ⟨_, (fun H => by (conv => whnf); (exact ⟨rfl, rfl⟩)), ?_⟩
                  conv => whnf
                  refine ⟨_, (fun H => by (conv => whnf); (exact ⟨rfl, rfl⟩)), ?_⟩
                  conv => whnf
                  refine condS_bif h (fun hb44 h => ?_) (fun hb44 h => ?_)
                  · conv => whnf
                    refine ⟨_, (fun H => by (conv => whnf); (exact ⟨rfl, rfl⟩)), ?_⟩
                    conv => whnf
                    refine ⟨_, (fun H => by (conv => whnf); (exact ⟨rfl, rfl⟩)), ?_⟩
                    conv => whnf
                    refine ⟨_, (fun H => by (conv => whnf); (exact ⟨rfl, rfl⟩)), ?_⟩
                    conv => whnf
                    cases h
                    exact Wk.mk2 [0, 1] 2 rfl rfl (by decide) rfl ⟨⟨rfl, rfl⟩, ⟨rfl, rfl⟩, trivial⟩ ⟨⟨rfl, rfl⟩, ⟨rfl, rfl⟩, ⟨rfl, rfl⟩, ⟨rfl, rfl⟩, ⟨rfl, rfl⟩, trivial⟩
                  · conv => whnf
                    refine ⟨_, ⟨rfl, rfl, (by (conv => whnf); (exact ⟨rfl, rfl⟩))⟩, ?_⟩
                    conv => whnf
                    refine ⟨_, ⟨rfl, rfl, (by (conv => whnf); (exact ⟨rfl, rfl⟩))⟩, ?_⟩
                    conv => whnf
                    refine ⟨_, ⟨rfl, rfl, (by (conv => whnf); (refine lnS_map ?_); (conv => whnf); (exact ⟨rfl, rfl⟩))⟩, ?_⟩
                    conv => whnf
                    refine ⟨_, ⟨rfl, rfl, (by (conv => whnf); (exact ⟨rfl, rfl⟩))⟩, ?_⟩
                    conv => whnf
                    refine ⟨_, ⟨rfl, rfl, (by (conv => whnf); (exact ⟨rfl, rfl⟩))⟩, ?_⟩
                    conv => whnf
                    obtain ⟨x_45, hx_45, h⟩ := bind_some h
                    refine ⟨_, ⟨rfl, rfl, (by (conv => whnf); (refine ixP_of hx_45 ?_); (conv => whnf); (exact ⟨rfl, rfl⟩))⟩, ?_⟩
                    conv => whnf
                    refine ⟨_, ⟨rfl, rfl, (by (conv => whnf); (exact ⟨rfl, rfl⟩))⟩, ?_⟩
                    conv => whnf
                    refine ⟨_, ⟨rfl, rfl, (by (conv => whnf); (exact ⟨rfl, rfl⟩))⟩, ?_⟩
                    conv => whnf
                    refine ⟨_, ⟨rfl, rfl, (by (conv => whnf); (refine lnS_map ?_); (conv => whnf); (exact ⟨rfl, rfl⟩))⟩, ?_⟩
                    conv => whnf
                    refine ⟨_, (fun H => by (conv => whnf); (exact ⟨rfl, rfl⟩)), ?_⟩
                    conv => whnf
                    refine ⟨_, (fun H => by (conv => whnf); (exact ⟨rfl, rfl⟩)), ?_⟩
                    conv => whnf
                    refine ⟨_, (fun H => by (conv => whnf); (exact ⟨rfl, rfl⟩)), ?_⟩
                    conv => whnf
                    refine condS_bif h (fun hb46 h => ?_) (fun hb46 h => ?_)
                    · conv => whnf
                      refine ⟨_, (fun H => by (conv => whnf); (exact ⟨rfl, rfl⟩)), ?_⟩
                      conv => whnf
                      cases h
                      exact Wk.mk2 [0, 1] 2 rfl rfl (by decide) rfl ⟨⟨rfl, rfl⟩, ⟨rfl, rfl⟩, trivial⟩ ⟨⟨rfl, rfl⟩, ⟨rfl, rfl⟩, ⟨rfl, rfl⟩, ⟨rfl, rfl⟩, ⟨rfl, rfl⟩, trivial⟩
                    · conv => whnf
                      refine ⟨_, ⟨rfl, rfl, (by (conv => whnf); (exact ⟨rfl, rfl⟩))⟩, ?_⟩
                      conv => whnf
                      refine ⟨_, ⟨rfl, rfl, (by (conv => whnf); (exact ⟨rfl, rfl⟩))⟩, ?_⟩
                      conv => whnf
                      refine ⟨_, ⟨rfl, rfl, (by (conv => whnf); (refine lnS_map ?_); (conv => whnf); (exact ⟨rfl, rfl⟩))⟩, ?_⟩
                      conv => whnf
                      refine ⟨_, ⟨rfl, rfl, (by (conv => whnf); (exact ⟨rfl, rfl⟩))⟩, ?_⟩
                      conv => whnf
                      refine ⟨_, ⟨rfl, rfl, (by (conv => whnf); (exact ⟨rfl, rfl⟩))⟩, ?_⟩
                      conv => whnf
                      refine ⟨_, ⟨rfl, rfl, (by (conv => whnf); (refine lnS_map ?_); (conv => whnf); (exact ⟨rfl, rfl⟩))⟩, ?_⟩
                      conv => whnf
                      refine ⟨_, (fun H => by (conv => whnf); (refine arS_raw ?_); (conv => whnf); (exact ⟨rfl, rfl⟩)), ?_⟩
                      conv => whnf
                      refine ⟨_, (fun H => by (conv => whnf); (exact ⟨rfl, rfl⟩)), ?_⟩
                      conv => whnf
                      refine ⟨_, (fun H => by (conv => whnf); (exact ⟨rfl, rfl⟩)), ?_⟩
                      conv => whnf
                      cases h
                      exact Wk.mk2 [0, 1] 2 rfl rfl (by decide) rfl ⟨⟨rfl, rfl⟩, ⟨rfl, rfl⟩, trivial⟩ ⟨⟨rfl, rfl⟩, ⟨rfl, rfl⟩, ⟨rfl, rfl⟩, ⟨rfl, rfl⟩, ⟨rfl, rfl⟩, trivial⟩
                · conv => whnf
                  refine ⟨_, (fun H => by (conv => whnf); (exact ⟨rfl, rfl⟩)), ?_⟩
                  conv => whnf
                  refine ⟨_, (fun H => by (conv => whnf); (exact ⟨rfl, rfl⟩)), ?_⟩
                  conv => whnf
                  refine ⟨_, (fun H => by (conv => whnf); (exact ⟨rfl, rfl⟩)), ?_⟩
                  conv => whnf
                  refine ⟨_, ⟨rfl, rfl, (by (conv => whnf); (exact ⟨rfl, rfl⟩))⟩, ?_⟩
                  conv => whnf
                  refine ⟨_, ⟨rfl, rfl, (by (conv => whnf); (exact ⟨rfl, rfl⟩))⟩, ?_⟩
                  conv => whnf
                  refine ⟨_, ⟨rfl, rfl, (by (conv => whnf); (refine lnS_map ?_); (conv => whnf); (exact ⟨rfl, rfl⟩))⟩, ?_⟩
                  conv => whnf
                  refine ⟨_, ⟨rfl, rfl, (by (conv => whnf); (exact ⟨rfl, rfl⟩))⟩, ?_⟩
                  conv => whnf
                  refine ⟨_, ⟨rfl, rfl, (by (conv => whnf); (exact ⟨rfl, rfl⟩))⟩, ?_⟩
                  conv => whnf
                  obtain ⟨x_47, hx_47, h⟩ := bind_some h
                  refine ⟨_, ⟨rfl, rfl, (by (conv => whnf); (refine ixP_of hx_47 ?_); (conv => whnf); (exact ⟨rfl, rfl⟩))⟩, ?_⟩
                  conv => whnf
                  refine ⟨_, ⟨rfl, rfl, (by (conv => whnf); (exact ⟨rfl, rfl⟩))⟩, ?_⟩
                  conv => whnf
                  refine ⟨_, ⟨rfl, rfl, (by (conv => whnf); (exact ⟨rfl, rfl⟩))⟩, ?_⟩
                  conv => whnf
                  refine ⟨_, ⟨rfl, rfl, (by (conv => whnf); (refine lnS_map ?_); (conv => whnf); (exact ⟨rfl, rfl⟩))⟩, ?_⟩
                  conv => whnf
                  refine ⟨_, (fun H => by (conv => whnf); (exact ⟨rfl, rfl⟩)), ?_⟩
                  conv => whnf
                  refine ⟨_, (fun H => by (conv => whnf); (exact ⟨rfl, rfl⟩)), ?_⟩
                  conv => whnf
                  refine ⟨_, (fun H => by (conv => whnf); (exact ⟨rfl, rfl⟩)), ?_⟩
                  conv => whnf
                  refine condS_bif h (fun hb48 h => ?_) (fun hb48 h => ?_)
                  · conv => whnf
                    refine ⟨_, (fun H => by (conv => whnf); (exact ⟨rfl, rfl⟩)), ?_⟩
                    conv => whnf
                    cases h
                    exact Wk.mk2 [0, 1] 2 rfl rfl (by decide) rfl ⟨⟨rfl, rfl⟩, ⟨rfl, rfl⟩, trivial⟩ ⟨⟨rfl, rfl⟩, ⟨rfl, rfl⟩, ⟨rfl, rfl⟩, ⟨rfl, rfl⟩, ⟨rfl, rfl⟩, trivial⟩
                  · conv => whnf
                    refine ⟨_, ⟨rfl, rfl, (by (conv => whnf); (exact ⟨rfl, rfl⟩))⟩, ?_⟩
                    conv => whnf
                    refine ⟨_, ⟨rfl, rfl, (by (conv => whnf); (exact ⟨rfl, rfl⟩))⟩, ?_⟩
                    conv => whnf
                    refine ⟨_, ⟨rfl, rfl, (by (conv => whnf); (refine lnS_map ?_); (conv => whnf); (exact ⟨rfl, rfl⟩))⟩, ?_⟩
                    conv => whnf
                    refine ⟨_, ⟨rfl, rfl, (by (conv => whnf); (exact ⟨rfl, rfl⟩))⟩, ?_⟩
                    conv => whnf
                    refine ⟨_, ⟨rfl, rfl, (by (conv => whnf); (exact ⟨rfl, rfl⟩))⟩, ?_⟩
                    conv => whnf
                    refine ⟨_, ⟨rfl, rfl, (by (conv => whnf); (refine lnS_map ?_); (conv => whnf); (exact ⟨rfl, rfl⟩))⟩, ?_⟩
                    conv => whnf
                    refine ⟨_, (fun H => by (conv => whnf); (refine arS_raw ?_); (conv => whnf); (exact ⟨rfl, rfl⟩)), ?_⟩
                    conv => whnf
                    refine ⟨_, (fun H => by (conv => whnf); (exact ⟨rfl, rfl⟩)), ?_⟩
                    conv => whnf
                    refine ⟨_, (fun H => by (conv => whnf); (exact ⟨rfl, rfl⟩)), ?_⟩
                    conv => whnf
                    cases h
                    exact Wk.mk2 [0, 1] 2 rfl rfl (by decide) rfl ⟨⟨rfl, rfl⟩, ⟨rfl, rfl⟩, trivial⟩ ⟨⟨rfl, rfl⟩, ⟨rfl, rfl⟩, ⟨rfl, rfl⟩, ⟨rfl, rfl⟩, ⟨rfl, rfl⟩, trivial⟩
            · clear hv38
              conv => whnf
              refine Tr.weak hw ?_
              refine Tr.cond ?_
              conv => whnf
              refine condS_bif h (fun hb49 h => ?_) (fun hb49 h => ?_)
              · refine Tr.seq ?_
                refine Tr.region layOK ?_
                conv => whnf
                refine Tr.ret ?_
                conv => whnf
                cases h
                rfl
              · refine Tr.skip ?_
                conv => whnf
                refine Tr.seq ?_
                refine Tr.region layOK ?_
                conv => whnf
                refine Tr.cutQ (α := Unit) (fun s => ([(1, .pt 0 0), (2, .d (.i .i64 0)), (5, .d (.i .i64 i_31))], [some (.var [.d (.ls (List.map eTSegment f_1.Clocks.Segments)), .d (.ls (List.map (eL eI) f_1.Clocks.Far)), .d (.ls (List.map eTPair f_1.Pairs)), .d (.ls (List.map eTRunner f_1.Runners))])])) (fun s => m_stopwatchref24_Check_J6 i_31 (m_stopwatchref24_Check_L2 f_1 (m_stopwatchref24_Check_J7 f_1) n_32) s = some r_2) ?_ ?_
                · refine Tr.block ?_
                  refine Tr.loopM (σ := Int) (fun n s => m_stopwatchref24_Check_L3 f_1 x_36 (m_stopwatchref24_Check_J6 i_31 (m_stopwatchref24_Check_L2 f_1 (m_stopwatchref24_Check_J7 f_1) n_32)) n s) r_2 (fun s => ([(1, .pt 0 0), (2, .d (.i .i64 0)), (5, .d (.i .i64 i_31)), (6, .pt 1 0), (7, .d (.i .i64 s))], [some (.var [.d (.ls (List.map eTSegment f_1.Clocks.Segments)), .d (.ls (List.map (eL eI) f_1.Clocks.Far)), .d (.ls (List.map eTPair f_1.Pairs)), .d (.ls (List.map eTRunner f_1.Runners))]), some (.var [.d (.i .i64 x_36.Bib), .d (.ls (List.map eI x_36.Keys)), .d (.ls (List.map (eL eTOutcome) x_36.Worlds))])])) (((((x_36.Worlds).length : Int)) - 0 : Int).toNat + 1) (0) h (fun s => rfl) (Wk.mk2 [0, 1] 2 rfl rfl (by decide) rfl ⟨⟨rfl, rfl⟩, ⟨rfl, rfl⟩, trivial⟩ ⟨⟨rfl, rfl⟩, ⟨rfl, rfl⟩, ⟨rfl, rfl⟩, ⟨rfl, rfl⟩, ⟨rfl, rfl⟩, trivial⟩) ?_
                  clear h
                  rintro n_52 w_51 h
                  replace h : m_stopwatchref24_Check_L3 f_1 x_36 (m_stopwatchref24_Check_J6 i_31 (m_stopwatchref24_Check_L2 f_1 (m_stopwatchref24_Check_J7 f_1) n_32)) (n_52 + 1) w_51 = some r_2 := h
                  rw [m_stopwatchref24_Check_L3] at h
                  refine Tr.seq ?_
                  refine Tr.seq ?_
                  refine Tr.region layOK ?_
                  conv => whnf
                  refine lnS_map ?_
                  conv => whnf
                  refine Tr.cond ?_
                  conv => whnf
                  refine condS_bif h (fun hb55 h => ?_) (fun hb55 h => ?_)
                  · refine Tr.skip ?_
                    conv => whnf
                    refine Tr.seq ?_
                    refine Tr.block ?_
                    refine Tr.seq ?_
                    refine Tr.region layOK ?_
                    conv => whnf
                    refine Tr.cutQ (α := Unit) (fun s => ([(1, .pt 0 0), (2, .d (.i .i64 0)), (5, .d (.i .i64 i_31)), (6, .pt 1 0), (7, .d (.i .i64 w_51))], [some (.var [.d (.ls (List.map eTSegment f_1.Clocks.Segments)), .d (.ls (List.map (eL eI) f_1.Clocks.Far)), .d (.ls (List.map eTPair f_1.Pairs)), .d (.ls (List.map eTRunner f_1.Runners))]), some (.var [.d (.i .i64 x_36.Bib), .d (.ls (List.map eI x_36.Keys)), .d (.ls (List.map (eL eTOutcome) x_36.Worlds))])])) (fun s => m_stopwatchref24_Check_J5 w_51 (m_stopwatchref24_Check_L3 f_1 x_36 (m_stopwatchref24_Check_J6 i_31 (m_stopwatchref24_Check_L2 f_1 (m_stopwatchref24_Check_J7 f_1) n_32)) n_52) s = some r_2) ?_ ?_
                    · refine Tr.block ?_
                      refine Tr.loopM (σ := Int) (fun n s => m_stopwatchref24_Check_L4 f_1 x_36 w_51 (m_stopwatchref24_Check_J5 w_51 (m_stopwatchref24_Check_L3 f_1 x_36 (m_stopwatchref24_Check_J6 i_31 (m_stopwatchref24_Check_L2 f_1 (m_stopwatchref24_Check_J7 f_1) n_32)) n_52)) n s) r_2 (fun s => ([(1, .pt 0 0), (2, .d (.i .i64 0)), (5, .d (.i .i64 i_31)), (6, .pt 1 0), (7, .d (.i .i64 w_51)), (8, .d (.i .i64 s))], [some (.var [.d (.ls (List.map eTSegment f_1.Clocks.Segments)), .d (.ls (List.map (eL eI) f_1.Clocks.Far)), .d (.ls (List.map eTPair f_1.Pairs)), .d (.ls (List.map eTRunner f_1.Runners))]), some (.var [.d (.i .i64 x_36.Bib), .d (.ls (List.map eI x_36.Keys)), .d (.ls (List.map (eL eTOutcome) x_36.Worlds))])])) ((((((Option.getD (idx x_36.Worlds w_51) default)).length : Int)) - 0 : Int).toNat + 1) (0) h (fun s => rfl) (Wk.mk2 [0, 1] 2 rfl rfl (by decide) rfl ⟨⟨rfl, rfl⟩, ⟨rfl, rfl⟩, trivial⟩ ⟨⟨rfl, rfl⟩, ⟨rfl, rfl⟩, ⟨rfl, rfl⟩, ⟨rfl, rfl⟩, ⟨rfl, rfl⟩, ⟨rfl, rfl⟩, trivial⟩) ?_
                      clear h
                      rintro n_58 n_57 h
                      replace h : m_stopwatchref24_Check_L4 f_1 x_36 w_51 (m_stopwatchref24_Check_J5 w_51 (m_stopwatchref24_Check_L3 f_1 x_36 (m_stopwatchref24_Check_J6 i_31 (m_stopwatchref24_Check_L2 f_1 (m_stopwatchref24_Check_J7 f_1) n_32)) n_52)) (n_58 + 1) n_57 = some r_2 := h
                      rw [m_stopwatchref24_Check_L4] at h
                      refine Tr.seq ?_
                      refine Tr.seq ?_
                      refine Tr.region layOK ?_
                      conv => whnf
                      obtain ⟨x_61, hx_61, h⟩ := bind_some h
                      refine ixP_of hx_61 ?_
                      conv => whnf
                      refine lnS_map ?_
                      conv => whnf
                      refine Tr.cond ?_
                      conv => whnf
                      refine condS_bif h (fun hb62 h => ?_) (fun hb62 h => ?_)
                      · refine Tr.skip ?_
                        conv => whnf
                        refine Tr.seq ?_
                        refine Tr.block ?_
                        refine Tr.seq ?_
                        refine Tr.draw (DrawP.seqQ layOK mixed [] [(0, 3), (1, 3), (2, 4), (3, 4), (4, 1), (5, 2), (6, 2), (7, 1), (8, 2), (9, 2), (10, 1), (11, 1)] (by kernel_rfl) ?_)
                        conv => whnf
                        refine ⟨_, ⟨rfl, rfl, (by (conv => whnf); (exact ⟨rfl, rfl⟩))⟩, ?_⟩
                        conv => whnf
                        refine ⟨_, ⟨rfl, rfl, (by (conv => whnf); (exact ⟨rfl, rfl⟩))⟩, ?_⟩
                        conv => whnf
                        refine ⟨_, ⟨rfl, rfl, (by (conv => whnf); (exact ⟨rfl, rfl⟩))⟩, ?_⟩
                        conv => whnf
                        refine ⟨_, ⟨rfl, rfl, (by (conv => whnf); (exact ⟨rfl, rfl⟩))⟩, ?_⟩
                        conv => whnf
                        refine ⟨_, (fun H => by (conv => whnf); (exact ⟨rfl, rfl⟩)), ?_⟩
                        conv => whnf
                        obtain ⟨x_63, hx_63, h⟩ := bind_some h
                        refine ⟨_, ⟨rfl, rfl, (by (conv => whnf); (refine ixP_of hx_63 ?_); (conv => whnf); (exact ⟨rfl, rfl⟩))⟩, ?_⟩
                        conv => whnf
                        refine ⟨_, ⟨rfl, rfl, (by (conv => whnf); (exact ⟨rfl, rfl⟩))⟩, ?_⟩
                        conv => whnf
                        refine ⟨_, (fun H => by (conv => whnf); (exact ⟨rfl, rfl⟩)), ?_⟩
                        conv => whnf
                        obtain ⟨x_64, hx_64, h⟩ := bind_some h
                        refine ⟨_, ⟨rfl, rfl, (by (conv => whnf); (refine ixP_of hx_64 ?_); (conv => whnf); (exact ⟨rfl, rfl⟩))⟩, ?_⟩
                        conv => whnf
                        refine ⟨_, ⟨rfl, rfl, (by (conv => whnf); (exact ⟨rfl, rfl⟩))⟩, ?_⟩
                        conv => whnf
                        obtain ⟨r_65, hc66, h⟩ := bind_some h
                        refine ⟨_, (fun H => by (conv => whnf); (refine PC.ecall (s_stopwatchref23_Check f_1.Clocks x_64 r_65 hc66) (fun rs hrs => ?_)); (subst hrs); (conv => whnf); (exact ⟨rfl, rfl⟩)), ?_⟩
                        conv => whnf
                        refine ⟨_, (fun H => by (conv => whnf); (exact ⟨rfl, rfl⟩)), ?_⟩
                        conv => whnf
                        refine Tr.cond ?_
                        conv => whnf
                        refine condS_bif h (fun hb67 h => ?_) (fun hb67 h => ?_)
                        · refine Tr.seq ?_
                          refine Tr.region layOK ?_
                          conv => whnf
                          refine Tr.ret ?_
                          conv => whnf
                          cases h
                          rfl
                        · refine Tr.skip ?_
                          conv => whnf
                          refine Tr.region layOK ?_
                          conv => whnf
                          refine arS_raw ?_
                          conv => whnf
                          refine ⟨((w64 (n_57 + 1))), h, ?_⟩
                          exact Wk.mk2 [0, 1] 2 rfl rfl (by decide) rfl ⟨⟨rfl, rfl⟩, ⟨rfl, rfl⟩, trivial⟩ ⟨⟨rfl, rfl⟩, ⟨rfl, rfl⟩, ⟨rfl, rfl⟩, ⟨rfl, rfl⟩, ⟨rfl, rfl⟩, ⟨rfl, rfl⟩, trivial⟩
                      · refine Tr.exit ?_
                        conv => whnf
                        refine ⟨(), h, ?_⟩
                        exact Wk.mk2 [0, 1] 2 rfl rfl (by decide) rfl ⟨⟨rfl, rfl⟩, ⟨rfl, rfl⟩, trivial⟩ ⟨⟨rfl, rfl⟩, ⟨rfl, rfl⟩, ⟨rfl, rfl⟩, ⟨rfl, rfl⟩, ⟨rfl, rfl⟩, trivial⟩
                    · clear h
                      rintro _ h T1 H1 hw
                      replace h : m_stopwatchref24_Check_J5 w_51 (m_stopwatchref24_Check_L3 f_1 x_36 (m_stopwatchref24_Check_J6 i_31 (m_stopwatchref24_Check_L2 f_1 (m_stopwatchref24_Check_J7 f_1) n_32)) n_52) () = some r_2 := h
                      conv => whnf
                      refine Tr.weak hw ?_
                      unfold m_stopwatchref24_Check_J5 at h
                      refine Tr.region layOK ?_
                      conv => whnf
                      refine arS_raw ?_
                      conv => whnf
                      refine ⟨((w64 (w_51 + 1))), h, ?_⟩
                      exact Wk.mk2 [0, 1] 2 rfl rfl (by decide) rfl ⟨⟨rfl, rfl⟩, ⟨rfl, rfl⟩, trivial⟩ ⟨⟨rfl, rfl⟩, ⟨rfl, rfl⟩, ⟨rfl, rfl⟩, ⟨rfl, rfl⟩, ⟨rfl, rfl⟩, trivial⟩
                  · refine Tr.exit ?_
                    conv => whnf
                    refine ⟨(), h, ?_⟩
                    exact Wk.mk2 [0] 2 rfl rfl (by decide) rfl ⟨⟨rfl, rfl⟩, trivial⟩ ⟨⟨rfl, rfl⟩, ⟨rfl, rfl⟩, ⟨rfl, rfl⟩, trivial⟩
                · clear h
                  rintro _ h T1 H1 hw
                  replace h : m_stopwatchref24_Check_J6 i_31 (m_stopwatchref24_Check_L2 f_1 (m_stopwatchref24_Check_J7 f_1) n_32) () = some r_2 := h
                  conv => whnf
                  refine Tr.weak hw ?_
                  unfold m_stopwatchref24_Check_J6 at h
                  refine Tr.region layOK ?_
                  conv => whnf
                  refine arS_raw ?_
                  conv => whnf
                  refine ⟨((w64 (i_31 + 1))), h, ?_⟩
                  exact Wk.mk2 [0] 1 rfl rfl (by decide) rfl ⟨⟨rfl, rfl⟩, trivial⟩ ⟨⟨rfl, rfl⟩, ⟨rfl, rfl⟩, ⟨rfl, rfl⟩, trivial⟩
          · refine Tr.exit ?_
            conv => whnf
            refine ⟨(), h, ?_⟩
            exact Wk.mk2 [0] 1 rfl rfl (by decide) rfl ⟨⟨rfl, rfl⟩, trivial⟩ ⟨⟨rfl, rfl⟩, ⟨rfl, rfl⟩, trivial⟩
        · clear h
          rintro _ h T1 H1 hw
          replace h : m_stopwatchref24_Check_J7 f_1 () = some r_2 := h
          conv => whnf
          refine Tr.weak hw ?_
          unfold m_stopwatchref24_Check_J7 at h
          refine Tr.seq ?_
          refine Tr.seq ?_
          refine Tr.region layOK ?_
          conv => whnf
          obtain ⟨r_68, hc69, h⟩ := bind_some h
          refine PC.ecall (s_stopwatchref24_possible f_1 r_68 hc69) (fun rs hrs => ?_)
          subst hrs
          conv => whnf
          refine Tr.cond ?_
          conv => whnf
          refine condS_bif h (fun hb70 h => ?_) (fun hb70 h => ?_)
          · refine Tr.seq ?_
            refine Tr.region layOK ?_
            conv => whnf
            refine Tr.ret ?_
            conv => whnf
            cases h
            rfl
          · refine Tr.skip ?_
            conv => whnf
            refine Tr.seq ?_
            refine Tr.region layOK ?_
            conv => whnf
            refine Tr.ret ?_
            conv => whnf
            cases h
            rfl

theorem s_stopwatchref25_Possible (f_1 : TField) (world_2 : Int) (r_3 : Bool) (h : m_stopwatchref25_Possible f_1 world_2 = some r_3) :
    PC prog 62 [(eTField f_1), (.i .i64 world_2)] (fun rs => rs = [(.b r_3)]) := by
  refine PC.of_tr (cx := ⟨44, none, lay, 0⟩) layOK func62 rfl rfl rfl rfl rfl (by simp [f62]) ?_
  unfold m_stopwatchref25_Possible at h
  refine Tr.seq ?_
  refine Tr.region layOK ?_
  conv => whnf
  refine Tr.seq ?_
  refine Tr.seq ?_
  refine Tr.region layOK ?_
  conv => whnf
  refine condS_bif h (fun hb4 h => ?_) (fun hb4 h => ?_)
  · conv => whnf
    refine Tr.cond ?_
    conv => whnf
    refine Tr.seq ?_
    refine Tr.region layOK ?_
    conv => whnf
    refine Tr.ret ?_
    conv => whnf
    cases h
    rfl
  · conv => whnf
    refine lnS_map ?_
    conv => whnf
    refine Tr.cond ?_
    conv => whnf
    refine condS_bif h (fun hb5 h => ?_) (fun hb5 h => ?_)
    · refine Tr.seq ?_
      refine Tr.region layOK ?_
      conv => whnf
      refine Tr.ret ?_
      conv => whnf
      cases h
      rfl
    · refine Tr.skip ?_
      conv => whnf
      refine Tr.seq ?_
      refine Tr.seq ?_
      refine Tr.region layOK ?_
      conv => whnf
      refine Tr.cutQ (α := Unit) (fun s => ([(4, .d (.b false))], [])) (fun s => m_stopwatchref25_Possible_J2 s = some r_3) ?_ ?_
      · refine Tr.block ?_
        refine Tr.loopM (σ := Int) (fun n s => m_stopwatchref25_Possible_L1 f_1 world_2 m_stopwatchref25_Possible_J2 n s) r_3 (fun s => ([(1, .d (.i .i64 world_2)), (2, .pt 0 0), (4, .d (.b false)), (5, .d (.i .i64 s))], [some (.var [.d (.ls (List.map eTSegment f_1.Clocks.Segments)), .d (.ls (List.map (eL eI) f_1.Clocks.Far)), .d (.ls (List.map eTPair f_1.Pairs)), .d (.ls (List.map eTRunner f_1.Runners))])])) (((((f_1.Runners).length : Int)) - 0 : Int).toNat + 1) (0) h (fun s => rfl) (Wk.mk2 [0] 1 rfl rfl (by decide) rfl ⟨⟨rfl, rfl⟩, trivial⟩ ⟨⟨rfl, rfl⟩, ⟨rfl, rfl⟩, ⟨rfl, rfl⟩, ⟨rfl, rfl⟩, trivial⟩) ?_
        clear h
        rintro n_8 i_7 h
        replace h : m_stopwatchref25_Possible_L1 f_1 world_2 m_stopwatchref25_Possible_J2 (n_8 + 1) i_7 = some r_3 := h
        rw [m_stopwatchref25_Possible_L1] at h
        refine Tr.seq ?_
        refine Tr.seq ?_
        refine Tr.region layOK ?_
        conv => whnf
        refine lnS_map ?_
        conv => whnf
        refine Tr.cond ?_
        conv => whnf
        refine condS_bif h (fun hb11 h => ?_) (fun hb11 h => ?_)
        · refine Tr.skip ?_
          conv => whnf
          refine Tr.seq ?_
          refine Tr.block ?_
          refine Tr.seq ?_
          refine Tr.region layOK ?_
          conv => whnf
          obtain ⟨x_12, hx_12, h⟩ := bind_some h
          refine ixP_of hx_12 ?_
          conv => whnf
          refine lnS_map ?_
          conv => whnf
          refine condS_bif h (fun hb13 h => ?_) (fun hb13 h => ?_)
          · conv => whnf
            refine Tr.cond ?_
            conv => whnf
            refine Tr.seq ?_
            refine Tr.region layOK ?_
            conv => whnf
            refine Tr.ret ?_
            conv => whnf
            cases h
            rfl
          · conv => whnf
            obtain ⟨x_14, hx_14, h⟩ := bind_some h
            refine ixP_of hx_14 ?_
            conv => whnf
            obtain ⟨x_15, hx_15, h⟩ := bind_some h
            refine ixP_of hx_15 ?_
            conv => whnf
            refine lnS_map ?_
            conv => whnf
            refine Tr.cond ?_
            conv => whnf
            refine condS_bif h (fun hb16 h => ?_) (fun hb16 h => ?_)
            · refine Tr.seq ?_
              refine Tr.region layOK ?_
              conv => whnf
              refine Tr.ret ?_
              conv => whnf
              cases h
              rfl
            · refine Tr.skip ?_
              conv => whnf
              refine Tr.region layOK ?_
              conv => whnf
              refine arS_raw ?_
              conv => whnf
              refine ⟨((w64 (i_7 + 1))), h, ?_⟩
              exact Wk.mk2 [0] 1 rfl rfl (by decide) rfl ⟨⟨rfl, rfl⟩, trivial⟩ ⟨⟨rfl, rfl⟩, ⟨rfl, rfl⟩, ⟨rfl, rfl⟩, ⟨rfl, rfl⟩, trivial⟩
        · refine Tr.exit ?_
          conv => whnf
          refine ⟨(), h, ?_⟩
          exact Wk.mk2 [] 1 rfl rfl (by decide) rfl trivial ⟨⟨rfl, rfl⟩, trivial⟩
      · clear h
        rintro _ h T1 H1 hw
        replace h : m_stopwatchref25_Possible_J2 () = some r_3 := h
        conv => whnf
        refine Tr.weak hw ?_
        unfold m_stopwatchref25_Possible_J2 at h
        refine Tr.seq ?_
        refine Tr.region layOK ?_
        conv => whnf
        refine Tr.ret ?_
        conv => whnf
        cases h
        rfl

theorem s_stopwatchref25_Admissible (f_1 : TField) (h_2 : THistory) (r_3 : Bool) (h : m_stopwatchref25_Admissible f_1 h_2 = some r_3) :
    PC prog 34 [(eTField f_1), (eTHistory h_2)] (fun rs => rs = [(.b r_3)]) := by
  refine PC.of_tr (cx := ⟨153, none, lay, 0⟩) layOK func34 rfl rfl rfl rfl rfl (by simp [f34]) ?_
  unfold m_stopwatchref25_Admissible at h
  refine Tr.seq ?_
  refine Tr.region layOK ?_
  conv => whnf
  refine Tr.seq ?_
  refine Tr.seq ?_
  refine Tr.region layOK ?_
  conv => whnf
  obtain ⟨r_4, hc5, h⟩ := bind_some h
  refine PC.ecall (s_stopwatchref25_Possible f_1 h_2.World r_4 hc5) (fun rs hrs => ?_)
  subst hrs
  conv => whnf
  refine condS_bif h (fun hb6 h => ?_) (fun hb6 h => ?_)
  · conv => whnf
    refine Tr.cond ?_
    conv => whnf
    refine Tr.seq ?_
    refine Tr.region layOK ?_
    conv => whnf
    refine Tr.ret ?_
    conv => whnf
    cases h
    rfl
  · conv => whnf
    refine lnS_map ?_
    conv => whnf
    refine lnS_map ?_
    conv => whnf
    refine condS_bif h (fun hb7 h => ?_) (fun hb7 h => ?_)
    · conv => whnf
      refine Tr.cond ?_
      conv => whnf
      refine Tr.seq ?_
      refine Tr.region layOK ?_
      conv => whnf
      refine Tr.ret ?_
      conv => whnf
      cases h
      rfl
    · conv => whnf
      refine lnS_map ?_
      conv => whnf
      refine lnS_map ?_
      conv => whnf
      refine Tr.cond ?_
      conv => whnf
      refine condS_bif h (fun hb8 h => ?_) (fun hb8 h => ?_)
      · refine Tr.seq ?_
        refine Tr.region layOK ?_
        conv => whnf
        refine Tr.ret ?_
        conv => whnf
        cases h
        rfl
      · refine Tr.skip ?_
        conv => whnf
        refine Tr.seq ?_
        refine Tr.region layOK ?_
        conv => whnf
        refine orB_l ?_
        conv => whnf
        refine frP_no ?_
        conv => whnf
        refine eqS_mk (by first | rfl | simp) ?_
        conv => whnf
        obtain ⟨l_9, hl_9, h⟩ := bind_some h
        refine apS_of hl_9 (apq_map (f := eI) (l := h_2.Offsets) fun _ => rfl) (by first | rfl | simp) (by first | rfl | simp) (fun he => ?_)
        conv => whnf
        refine reS_mk (es' := List.map .d (List.map eI l_9)) (n' := List.length l_9) (by subst he; simp only [List.map_append, List.map_cons, List.map_nil, List.nil_append]; first | done | rfl) (by subst he; simp <;> omega) ?_
        clear he
        conv => whnf
        refine Tr.seq ?_
        refine Tr.seq ?_
        refine Tr.region layOK ?_
        conv => whnf
        refine Tr.cutQ (α := Unit) (fun s => ([(2, .pt 0 0), (3, .pt 1 0), (4, .d (.b false)), (5, .sl 2 1 0 (List.length l_9))], [some (.var [.d (.ls (List.map eTSegment f_1.Clocks.Segments)), .d (.ls (List.map (eL eI) f_1.Clocks.Far)), .d (.ls (List.map eTPair f_1.Pairs)), .d (.ls (List.map eTRunner f_1.Runners))]), some (.var [.d (.i .i64 h_2.World), .d (.ls (List.map eI h_2.Offsets)), .d (.ls (List.map eTChoice h_2.Choices))]), some (.arr 1 (List.map .d (List.map eI l_9)))])) (fun s => m_stopwatchref25_Admissible_J8 f_1 h_2 l_9 s = some r_3) ?_ ?_
        · refine Tr.block ?_
          refine Tr.loopM (σ := Int) (fun n s => m_stopwatchref25_Admissible_L1 l_9 (m_stopwatchref25_Admissible_J8 f_1 h_2 l_9) n s) r_3 (fun s => ([(2, .pt 0 0), (3, .pt 1 0), (4, .d (.b false)), (5, .sl 2 1 0 (List.length l_9)), (6, .d (.i .i64 s))], [some (.var [.d (.ls (List.map eTSegment f_1.Clocks.Segments)), .d (.ls (List.map (eL eI) f_1.Clocks.Far)), .d (.ls (List.map eTPair f_1.Pairs)), .d (.ls (List.map eTRunner f_1.Runners))]), some (.var [.d (.i .i64 h_2.World), .d (.ls (List.map eI h_2.Offsets)), .d (.ls (List.map eTChoice h_2.Choices))]), some (.arr 1 (List.map .d (List.map eI l_9)))])) (((((l_9).length : Int)) - 0 : Int).toNat + 1) (0) h (fun s => rfl) (Wk.mk2 [0, 1, 3] 4 rfl rfl (by decide) rfl ⟨⟨rfl, rfl⟩, ⟨rfl, rfl⟩, daS_d rfl, trivial⟩ ⟨⟨rfl, rfl⟩, ⟨rfl, rfl⟩, ⟨rfl, rfl⟩, ⟨rfl, (by first | rfl | (simp only [↓hb6, ↓hb7, ↓hb8, cond_true, cond_false, Bool.true_or, Bool.or_true, Bool.false_or, Bool.or_false, Bool.true_and, Bool.and_true, Bool.false_and, Bool.and_false, Bool.not_true, Bool.not_false]; done) | (simp only [↓hb6, ↓hb7, ↓hb8, cond_true, cond_false, Bool.true_or, Bool.or_true, Bool.false_or, Bool.or_false, Bool.true_and, Bool.and_true, Bool.false_and, Bool.and_false, Bool.not_true, Bool.not_false]; rfl))⟩, ⟨rfl, rfl⟩, trivial⟩) ?_
          clear h
          rintro n_12 i_11 h
          replace h : m_stopwatchref25_Admissible_L1 l_9 (m_stopwatchref25_Admissible_J8 f_1 h_2 l_9) (n_12 + 1) i_11 = some r_3 := h
          rw [m_stopwatchref25_Admissible_L1] at h
          refine Tr.seq ?_
          refine Tr.seq ?_
          refine Tr.region layOK ?_
          conv => whnf
          refine lnS_mk rfl ?_
          conv => whnf
          refine Tr.cond ?_
          conv => whnf
          refine condS_bif h (fun hb15 h => ?_) (fun hb15 h => ?_)
          · refine Tr.skip ?_
            conv => whnf
            refine Tr.seq ?_
            refine Tr.block ?_
            refine Tr.seq ?_
            refine Tr.region layOK ?_
            conv => whnf
            obtain ⟨x_16, hx_16, h⟩ := bind_some h
            refine ixS_of hx_16 rfl ?_
            conv => whnf
            refine elP_of hx_16 ?_
            conv => whnf
            refine condS_bif h (fun hb17 h => ?_) (fun hb17 h => ?_)
            · conv => whnf
              refine Tr.cond ?_
              conv => whnf
              refine Tr.seq ?_
              refine Tr.region layOK ?_
              conv => whnf
              refine Tr.ret ?_
              conv => whnf
              cases h
              rfl
            · conv => whnf
              obtain ⟨x_18, hx_18, h⟩ := bind_some h
              refine ixS_of hx_18 rfl ?_
              conv => whnf
              refine elP_of hx_18 ?_
              conv => whnf
              refine Tr.cond ?_
              conv => whnf
              refine condS_bif h (fun hb19 h => ?_) (fun hb19 h => ?_)
              · refine Tr.seq ?_
                refine Tr.region layOK ?_
                conv => whnf
                refine Tr.ret ?_
                conv => whnf
                cases h
                rfl
              · refine Tr.skip ?_
                conv => whnf
                refine Tr.region layOK ?_
                conv => whnf
                refine arS_raw ?_
                conv => whnf
                refine ⟨((w64 (i_11 + 1))), h, ?_⟩
                exact Wk.mk2 [0, 1, 2] 3 rfl rfl (by decide) rfl ⟨⟨rfl, rfl⟩, ⟨rfl, rfl⟩, daS_d rfl, trivial⟩ ⟨⟨rfl, rfl⟩, ⟨rfl, rfl⟩, ⟨rfl, rfl⟩, ⟨rfl, rfl⟩, ⟨rfl, rfl⟩, trivial⟩
          · refine Tr.exit ?_
            conv => whnf
            refine ⟨(), h, ?_⟩
            exact Wk.mk2 [0, 1, 2] 3 rfl rfl (by decide) rfl ⟨⟨rfl, rfl⟩, ⟨rfl, rfl⟩, daS_d rfl, trivial⟩ ⟨⟨rfl, rfl⟩, ⟨rfl, rfl⟩, ⟨rfl, rfl⟩, ⟨rfl, rfl⟩, trivial⟩
        · clear h
          rintro _ h T1 H1 hw
          replace h : m_stopwatchref25_Admissible_J8 f_1 h_2 l_9 () = some r_3 := h
          conv => whnf
          refine Tr.weak hw ?_
          unfold m_stopwatchref25_Admissible_J8 at h
          refine Tr.seq ?_
          refine Tr.seq ?_
          refine Tr.region layOK ?_
          conv => whnf
          refine Tr.cutQ (α := Unit) (fun s => ([(2, .pt 0 0), (3, .pt 1 0), (4, .d (.b false))], [some (.var [.d (.ls (List.map eTSegment f_1.Clocks.Segments)), .d (.ls (List.map (eL eI) f_1.Clocks.Far)), .d (.ls (List.map eTPair f_1.Pairs)), .d (.ls (List.map eTRunner f_1.Runners))]), some (.var [.d (.i .i64 h_2.World), .d (.ls (List.map eI h_2.Offsets)), .d (.ls (List.map eTChoice h_2.Choices))])])) (fun s => m_stopwatchref25_Admissible_J7 f_1 h_2 s = some r_3) ?_ ?_
          · refine Tr.block ?_
            refine Tr.loopM (σ := Int) (fun n s => m_stopwatchref25_Admissible_L2 f_1 l_9 (m_stopwatchref25_Admissible_J7 f_1 h_2) n s) r_3 (fun s => ([(2, .pt 0 0), (3, .pt 1 0), (4, .d (.b false)), (5, .sl 2 1 0 (List.length l_9)), (7, .d (.i .i64 s))], [some (.var [.d (.ls (List.map eTSegment f_1.Clocks.Segments)), .d (.ls (List.map (eL eI) f_1.Clocks.Far)), .d (.ls (List.map eTPair f_1.Pairs)), .d (.ls (List.map eTRunner f_1.Runners))]), some (.var [.d (.i .i64 h_2.World), .d (.ls (List.map eI h_2.Offsets)), .d (.ls (List.map eTChoice h_2.Choices))]), some (.arr 1 (List.map .d (List.map eI l_9)))])) (((((l_9).length : Int)) - 0 : Int).toNat + 1) (0) h (fun s => rfl) (Wk.mk2 [0, 1, 2] 3 rfl rfl (by decide) rfl ⟨⟨rfl, rfl⟩, ⟨rfl, rfl⟩, daS_d rfl, trivial⟩ ⟨⟨rfl, rfl⟩, ⟨rfl, rfl⟩, ⟨rfl, rfl⟩, ⟨rfl, rfl⟩, ⟨rfl, rfl⟩, trivial⟩) ?_
            clear h
            rintro n_22 i_21 h
            replace h : m_stopwatchref25_Admissible_L2 f_1 l_9 (m_stopwatchref25_Admissible_J7 f_1 h_2) (n_22 + 1) i_21 = some r_3 := h
            rw [m_stopwatchref25_Admissible_L2] at h
            refine Tr.seq ?_
            refine Tr.seq ?_
            refine Tr.region layOK ?_
            conv => whnf
            refine lnS_mk rfl ?_
            conv => whnf
            refine Tr.cond ?_
            conv => whnf
            refine condS_bif h (fun hb25 h => ?_) (fun hb25 h => ?_)
            · refine Tr.skip ?_
              conv => whnf
              refine Tr.seq ?_
              refine Tr.block ?_
              refine Tr.seq ?_
              refine Tr.region layOK ?_
              conv => whnf
              refine Tr.cutQ (α := Unit) (fun s => ([(2, .pt 0 0), (3, .pt 1 0), (4, .d (.b false)), (5, .sl 2 1 0 (List.length l_9)), (7, .d (.i .i64 i_21))], [some (.var [.d (.ls (List.map eTSegment f_1.Clocks.Segments)), .d (.ls (List.map (eL eI) f_1.Clocks.Far)), .d (.ls (List.map eTPair f_1.Pairs)), .d (.ls (List.map eTRunner f_1.Runners))]), some (.var [.d (.i .i64 h_2.World), .d (.ls (List.map eI h_2.Offsets)), .d (.ls (List.map eTChoice h_2.Choices))]), some (.arr 1 (List.map .d (List.map eI l_9)))])) (fun s => m_stopwatchref25_Admissible_J4 i_21 (m_stopwatchref25_Admissible_L2 f_1 l_9 (m_stopwatchref25_Admissible_J7 f_1 h_2) n_22) s = some r_3) ?_ ?_
              · refine Tr.block ?_
                refine Tr.loopM (σ := Int) (fun n s => m_stopwatchref25_Admissible_L3 f_1 l_9 i_21 (m_stopwatchref25_Admissible_J4 i_21 (m_stopwatchref25_Admissible_L2 f_1 l_9 (m_stopwatchref25_Admissible_J7 f_1 h_2) n_22)) n s) r_3 (fun s => ([(2, .pt 0 0), (3, .pt 1 0), (4, .d (.b false)), (5, .sl 2 1 0 (List.length l_9)), (7, .d (.i .i64 i_21)), (8, .d (.i .i64 s))], [some (.var [.d (.ls (List.map eTSegment f_1.Clocks.Segments)), .d (.ls (List.map (eL eI) f_1.Clocks.Far)), .d (.ls (List.map eTPair f_1.Pairs)), .d (.ls (List.map eTRunner f_1.Runners))]), some (.var [.d (.i .i64 h_2.World), .d (.ls (List.map eI h_2.Offsets)), .d (.ls (List.map eTChoice h_2.Choices))]), some (.arr 1 (List.map .d (List.map eI l_9)))])) (((((l_9).length : Int)) - 0 : Int).toNat + 1) (0) h (fun s => rfl) (Wk.mk2 [0, 1, 2] 3 rfl rfl (by decide) rfl ⟨⟨rfl, rfl⟩, ⟨rfl, rfl⟩, daS_d rfl, trivial⟩ ⟨⟨rfl, rfl⟩, ⟨rfl, rfl⟩, ⟨rfl, rfl⟩, ⟨rfl, rfl⟩, ⟨rfl, rfl⟩, ⟨rfl, rfl⟩, trivial⟩) ?_
                clear h
                rintro n_28 k_27 h
                replace h : m_stopwatchref25_Admissible_L3 f_1 l_9 i_21 (m_stopwatchref25_Admissible_J4 i_21 (m_stopwatchref25_Admissible_L2 f_1 l_9 (m_stopwatchref25_Admissible_J7 f_1 h_2) n_22)) (n_28 + 1) k_27 = some r_3 := h
                rw [m_stopwatchref25_Admissible_L3] at h
                refine Tr.seq ?_
                refine Tr.seq ?_
                refine Tr.region layOK ?_
                conv => whnf
                refine lnS_mk rfl ?_
                conv => whnf
                refine Tr.cond ?_
                conv => whnf
                refine condS_bif h (fun hb31 h => ?_) (fun hb31 h => ?_)
                · refine Tr.skip ?_
                  conv => whnf
                  refine Tr.seq ?_
                  refine Tr.block ?_
                  refine Tr.seq ?_
                  refine Tr.draw (DrawP.seqQ layOK mixed [] [(0, 1), (1, 1), (2, 5), (3, 5), (4, 1), (5, 1), (6, 5), (7, 5), (8, 1), (9, 3), (10, 3), (11, 3), (12, 1), (13, 2), (14, 2), (15, 1), (16, 2), (17, 2), (18, 1)] (by kernel_rfl) ?_)
                  conv => whnf
                  refine ⟨_, (fun H => by (conv => whnf); (exact ⟨rfl, rfl⟩)), ?_⟩
                  conv => whnf
                  refine ⟨_, (fun H => by (conv => whnf); (exact ⟨rfl, rfl⟩)), ?_⟩
                  conv => whnf
                  obtain ⟨x_32, hx_32, h⟩ := bind_some h
                  refine ⟨_, ⟨rfl, rfl, (by (conv => whnf); (refine ixS_of hx_32 rfl ?_); (conv => whnf); (exact ⟨rfl, rfl⟩))⟩, ?_⟩
                  conv => whnf
                  refine ⟨_, ⟨rfl, rfl, (by (conv => whnf); (refine elP_of hx_32 ?_); (conv => whnf); (exact ⟨rfl, rfl⟩))⟩, ?_⟩
                  conv => whnf
                  refine ⟨_, (fun H => by (conv => whnf); (exact ⟨rfl, rfl⟩)), ?_⟩
                  conv => whnf
                  refine ⟨_, (fun H => by (conv => whnf); (exact ⟨rfl, rfl⟩)), ?_⟩
                  conv => whnf
                  obtain ⟨x_33, hx_33, h⟩ := bind_some h
                  refine ⟨_, ⟨rfl, rfl, (by (conv => whnf); (refine ixS_of hx_33 rfl ?_); (conv => whnf); (exact ⟨rfl, rfl⟩))⟩, ?_⟩
                  conv => whnf
                  refine ⟨_, ⟨rfl, rfl, (by (conv => whnf); (refine elP_of hx_33 ?_); (conv => whnf); (exact ⟨rfl, rfl⟩))⟩, ?_⟩
                  conv => whnf
                  refine ⟨_, (fun H => by (conv => whnf); (refine arS_raw ?_); (conv => whnf); (exact ⟨rfl, rfl⟩)), ?_⟩
                  conv => whnf
                  refine ⟨_, ⟨rfl, rfl, (by (conv => whnf); (exact ⟨rfl, rfl⟩))⟩, ?_⟩
                  conv => whnf
                  refine ⟨_, ⟨rfl, rfl, (by (conv => whnf); (exact ⟨rfl, rfl⟩))⟩, ?_⟩
                  conv => whnf
                  refine ⟨_, ⟨rfl, rfl, (by (conv => whnf); (exact ⟨rfl, rfl⟩))⟩, ?_⟩
                  conv => whnf
                  refine ⟨_, (fun H => by (conv => whnf); (exact ⟨rfl, rfl⟩)), ?_⟩
                  conv => whnf
                  obtain ⟨x_34, hx_34, h⟩ := bind_some h
                  refine ⟨_, ⟨rfl, rfl, (by (conv => whnf); (refine ixP_of hx_34 ?_); (conv => whnf); (exact ⟨rfl, rfl⟩))⟩, ?_⟩
                  conv => whnf
                  refine ⟨_, ⟨rfl, rfl, (by (conv => whnf); (exact ⟨rfl, rfl⟩))⟩, ?_⟩
                  conv => whnf
                  refine ⟨_, (fun H => by (conv => whnf); (exact ⟨rfl, rfl⟩)), ?_⟩
                  conv => whnf
                  obtain ⟨x_35, hx_35, h⟩ := bind_some h
                  refine ⟨_, ⟨rfl, rfl, (by (conv => whnf); (refine ixP_of hx_35 ?_); (conv => whnf); (exact ⟨rfl, rfl⟩))⟩, ?_⟩
                  conv => whnf
                  refine ⟨_, ⟨rfl, rfl, (by (conv => whnf); (exact ⟨rfl, rfl⟩))⟩, ?_⟩
                  conv => whnf
                  refine ⟨_, (fun H => by (conv => whnf); (exact ⟨rfl, rfl⟩)), ?_⟩
                  conv => whnf
                  refine Tr.cond ?_
                  conv => whnf
                  refine condS_bif h (fun hb36 h => ?_) (fun hb36 h => ?_)
                  · refine Tr.seq ?_
                    refine Tr.region layOK ?_
                    conv => whnf
                    refine Tr.ret ?_
                    conv => whnf
                    cases h
                    rfl
                  · refine Tr.skip ?_
                    conv => whnf
                    refine Tr.region layOK ?_
                    conv => whnf
                    refine arS_raw ?_
                    conv => whnf
                    refine ⟨((w64 (k_27 + 1))), h, ?_⟩
                    exact Wk.mk2 [0, 1, 2] 3 rfl rfl (by decide) rfl ⟨⟨rfl, rfl⟩, ⟨rfl, rfl⟩, daS_d rfl, trivial⟩ ⟨⟨rfl, rfl⟩, ⟨rfl, rfl⟩, ⟨rfl, rfl⟩, ⟨rfl, rfl⟩, ⟨rfl, rfl⟩, ⟨rfl, rfl⟩, trivial⟩
                · refine Tr.exit ?_
                  conv => whnf
                  refine ⟨(), h, ?_⟩
                  exact Wk.mk2 [0, 1, 2] 3 rfl rfl (by decide) rfl ⟨⟨rfl, rfl⟩, ⟨rfl, rfl⟩, daS_d rfl, trivial⟩ ⟨⟨rfl, rfl⟩, ⟨rfl, rfl⟩, ⟨rfl, rfl⟩, ⟨rfl, rfl⟩, ⟨rfl, rfl⟩, trivial⟩
              · clear h
                rintro _ h T1 H1 hw
                replace h : m_stopwatchref25_Admissible_J4 i_21 (m_stopwatchref25_Admissible_L2 f_1 l_9 (m_stopwatchref25_Admissible_J7 f_1 h_2) n_22) () = some r_3 := h
                conv => whnf
                refine Tr.weak hw ?_
                unfold m_stopwatchref25_Admissible_J4 at h
                refine Tr.region layOK ?_
                conv => whnf
                refine arS_raw ?_
                conv => whnf
                refine ⟨((w64 (i_21 + 1))), h, ?_⟩
                exact Wk.mk2 [0, 1, 2] 3 rfl rfl (by decide) rfl ⟨⟨rfl, rfl⟩, ⟨rfl, rfl⟩, daS_d rfl, trivial⟩ ⟨⟨rfl, rfl⟩, ⟨rfl, rfl⟩, ⟨rfl, rfl⟩, ⟨rfl, rfl⟩, ⟨rfl, rfl⟩, trivial⟩
            · refine Tr.exit ?_
              conv => whnf
              refine ⟨(), h, ?_⟩
              exact Wk.mk2 [0, 1] 3 rfl rfl (by decide) rfl ⟨⟨rfl, rfl⟩, ⟨rfl, rfl⟩, trivial⟩ ⟨⟨rfl, rfl⟩, ⟨rfl, rfl⟩, ⟨rfl, rfl⟩, trivial⟩
          · clear h
            rintro _ h T1 H1 hw
            replace h : m_stopwatchref25_Admissible_J7 f_1 h_2 () = some r_3 := h
            conv => whnf
            refine Tr.weak hw ?_
            unfold m_stopwatchref25_Admissible_J7 at h
            refine Tr.seq ?_
            refine Tr.seq ?_
            refine Tr.region layOK ?_
            conv => whnf
            refine Tr.cutQ (α := Unit) (fun s => ([(4, .d (.b false))], [])) (fun s => m_stopwatchref25_Admissible_J6 s = some r_3) ?_ ?_
            · refine Tr.block ?_
              refine Tr.loopM (σ := Int) (fun n s => m_stopwatchref25_Admissible_L5 f_1 h_2 m_stopwatchref25_Admissible_J6 n s) r_3 (fun s => ([(2, .pt 0 0), (3, .pt 1 0), (4, .d (.b false)), (9, .d (.i .i64 s))], [some (.var [.d (.ls (List.map eTSegment f_1.Clocks.Segments)), .d (.ls (List.map (eL eI) f_1.Clocks.Far)), .d (.ls (List.map eTPair f_1.Pairs)), .d (.ls (List.map eTRunner f_1.Runners))]), some (.var [.d (.i .i64 h_2.World), .d (.ls (List.map eI h_2.Offsets)), .d (.ls (List.map eTChoice h_2.Choices))])])) (((((h_2.Choices).length : Int)) - 0 : Int).toNat + 1) (0) h (fun s => rfl) (Wk.mk2 [0, 1] 2 rfl rfl (by decide) rfl ⟨⟨rfl, rfl⟩, ⟨rfl, rfl⟩, trivial⟩ ⟨⟨rfl, rfl⟩, ⟨rfl, rfl⟩, ⟨rfl, rfl⟩, ⟨rfl, rfl⟩, trivial⟩) ?_
              clear h
              rintro n_39 i_38 h
              replace h : m_stopwatchref25_Admissible_L5 f_1 h_2 m_stopwatchref25_Admissible_J6 (n_39 + 1) i_38 = some r_3 := h
              rw [m_stopwatchref25_Admissible_L5] at h
              refine Tr.seq ?_
              refine Tr.seq ?_
              refine Tr.region layOK ?_
              conv => whnf
              refine lnS_map ?_
              conv => whnf
              refine Tr.cond ?_
              conv => whnf
              refine condS_bif h (fun hb42 h => ?_) (fun hb42 h => ?_)
              · refine Tr.skip ?_
                conv => whnf
                refine Tr.seq ?_
                refine Tr.block ?_
                refine Tr.seq ?_
                refine Tr.draw (DrawP.seqQ layOK mixed [] [(0, 3), (1, 3), (2, 1), (3, 2), (4, 2), (5, 2), (6, 4), (7, 4), (8, 2), (9, 2), (10, 1)] (by kernel_rfl) ?_)
                conv => whnf
                refine ⟨_, ⟨rfl, rfl, (by (conv => whnf); (exact ⟨rfl, rfl⟩))⟩, ?_⟩
                conv => whnf
                refine ⟨_, ⟨rfl, rfl, (by (conv => whnf); (exact ⟨rfl, rfl⟩))⟩, ?_⟩
                conv => whnf
                refine ⟨_, (fun H => by (conv => whnf); (exact ⟨rfl, rfl⟩)), ?_⟩
                conv => whnf
                obtain ⟨x_43, hx_43, h⟩ := bind_some h
                refine ⟨_, ⟨rfl, rfl, (by (conv => whnf); (refine ixP_of hx_43 ?_); (conv => whnf); (exact ⟨rfl, rfl⟩))⟩, ?_⟩
                conv => whnf
                refine ⟨_, ⟨rfl, rfl, (by (conv => whnf); (exact ⟨rfl, rfl⟩))⟩, ?_⟩
                conv => whnf
                refine ⟨_, ⟨rfl, rfl, (by (conv => whnf); (exact ⟨rfl, rfl⟩))⟩, ?_⟩
                conv => whnf
                refine ⟨_, ⟨rfl, rfl, (by (conv => whnf); (exact ⟨rfl, rfl⟩))⟩, ?_⟩
                conv => whnf
                refine ⟨_, ⟨rfl, rfl, (by (conv => whnf); (exact ⟨rfl, rfl⟩))⟩, ?_⟩
                conv => whnf
                obtain ⟨x_44, hx_44, h⟩ := bind_some h
                refine ⟨_, ⟨rfl, rfl, (by (conv => whnf); (refine ixP_of hx_44 ?_); (conv => whnf); (exact ⟨rfl, rfl⟩))⟩, ?_⟩
                conv => whnf
                refine ⟨_, ⟨rfl, rfl, (by (conv => whnf); (exact ⟨rfl, rfl⟩))⟩, ?_⟩
                conv => whnf
                refine ⟨_, (fun H => by (conv => whnf); (exact ⟨rfl, rfl⟩)), ?_⟩
                conv => whnf
                refine Tr.seq ?_
                refine Tr.region layOK ?_
                conv => whnf
                obtain ⟨x_45, hx_45, h⟩ := bind_some h
                refine ixP_of hx_45 ?_
                conv => whnf
                refine Tr.seq ?_
                refine Tr.seq ?_
                refine Tr.region layOK ?_
                conv => whnf
                refine condS_bif h (fun hb46 h => ?_) (fun hb46 h => ?_)
                · conv => whnf
                  refine Tr.cond ?_
                  conv => whnf
                  refine Tr.seq ?_
                  refine Tr.region layOK ?_
                  conv => whnf
                  refine Tr.ret ?_
                  conv => whnf
                  cases h
                  rfl
                · conv => whnf
                  refine lnS_map ?_
                  conv => whnf
                  refine Tr.cond ?_
                  conv => whnf
                  refine condS_bif h (fun hb47 h => ?_) (fun hb47 h => ?_)
                  · refine Tr.seq ?_
                    refine Tr.region layOK ?_
                    conv => whnf
                    refine Tr.ret ?_
                    conv => whnf
                    cases h
                    rfl
                  · refine Tr.skip ?_
                    conv => whnf
                    refine Tr.seq ?_
                    refine Tr.region layOK ?_
                    conv => whnf
                    obtain ⟨x_48, hx_48, h⟩ := bind_some h
                    refine ixP_of hx_48 ?_
                    conv => whnf
                    refine Tr.seq ?_
                    refine Tr.cutQ1 ([(2, .pt 0 0), (3, .pt 1 0), (4, .d (.b false)), (9, .d (.i .i64 i_38)), (152, .d (.b (bif x_48.Out then (x_45.X != 0) else ((decide (x_45.X < x_48.Lo)) || (decide (x_45.X > x_48.Hi))))))]) ([some (.var [.d (.ls (List.map eTSegment f_1.Clocks.Segments)), .d (.ls (List.map (eL eI) f_1.Clocks.Far)), .d (.ls (List.map eTPair f_1.Pairs)), .d (.ls (List.map eTRunner f_1.Runners))]), some (.var [.d (.i .i64 h_2.World), .d (.ls (List.map eI h_2.Offsets)), .d (.ls (List.map eTChoice h_2.Choices))])]) ?_ (fun T1 H1 hw => ?_)
                    · refine Tr.region layOK ?_
                      conv => whnf
                      refine condS_mk (fun hb50 => ?_) (fun hb50 => ?_)
                      · conv => whnf
                        refine condS_mk (fun hb51 => ?_) (fun hb51 => ?_)
                        · conv => whnf
                          exact Wk.mk2 [0, 1] 4 rfl rfl (by decide) rfl ⟨⟨rfl, rfl⟩, ⟨rfl, rfl⟩, trivial⟩ ⟨⟨rfl, rfl⟩, ⟨rfl, rfl⟩, ⟨rfl, rfl⟩, ⟨rfl, rfl⟩, ⟨rfl, (by first | rfl | (simp only [↓hb6, ↓hb7, ↓hb8, ↓hb42, ↓hb46, ↓hb47, ↓hb50, ↓hb51, cond_true, cond_false, Bool.true_or, Bool.or_true, Bool.false_or, Bool.or_false, Bool.true_and, Bool.and_true, Bool.false_and, Bool.and_false, Bool.not_true, Bool.not_false]; done) | (simp only [↓hb6, ↓hb7, ↓hb8, ↓hb42, ↓hb46, ↓hb47, ↓hb50, ↓hb51, cond_true, cond_false, Bool.true_or, Bool.or_true, Bool.false_or, Bool.or_false, Bool.true_and, Bool.and_true, Bool.false_and, Bool.and_false, Bool.not_true, Bool.not_false]; rfl))⟩, trivial⟩
                        · conv => whnf
                          refine condS_kf (by rw [hb50]; rfl) ?_
                          conv => whnf
                          exact Wk.mk2 [0, 1] 4 rfl rfl (by decide) rfl ⟨⟨rfl, rfl⟩, ⟨rfl, rfl⟩, trivial⟩ ⟨⟨rfl, rfl⟩, ⟨rfl, rfl⟩, ⟨rfl, rfl⟩, ⟨rfl, rfl⟩, ⟨rfl, (by first | rfl | (simp only [↓hb6, ↓hb7, ↓hb8, ↓hb42, ↓hb46, ↓hb47, ↓hb50, ↓hb51, cond_true, cond_false, Bool.true_or, Bool.or_true, Bool.false_or, Bool.or_false, Bool.true_and, Bool.and_true, Bool.false_and, Bool.and_false, Bool.not_true, Bool.not_false]; done) | (simp only [↓hb6, ↓hb7, ↓hb8, ↓hb42, ↓hb46, ↓hb47, ↓hb50, ↓hb51, cond_true, cond_false, Bool.true_or, Bool.or_true, Bool.false_or, Bool.or_false, Bool.true_and, Bool.and_true, Bool.false_and, Bool.and_false, Bool.not_true, Bool.not_false]; rfl))⟩, trivial⟩
                      · conv => whnf
                        refine condS_kt (by rw [hb50]; rfl) ?_
                        conv => whnf
                        refine condS_mk (fun hb52 => ?_) (fun hb52 => ?_)
                        · conv => whnf
                          exact Wk.mk2 [0, 1] 4 rfl rfl (by decide) rfl ⟨⟨rfl, rfl⟩, ⟨rfl, rfl⟩, trivial⟩ ⟨⟨rfl, rfl⟩, ⟨rfl, rfl⟩, ⟨rfl, rfl⟩, ⟨rfl, rfl⟩, ⟨rfl, (by first | rfl | (simp only [↓hb6, ↓hb7, ↓hb8, ↓hb42, ↓hb46, ↓hb47, ↓hb50, ↓hb52, cond_true, cond_false, Bool.true_or, Bool.or_true, Bool.false_or, Bool.or_false, Bool.true_and, Bool.and_true, Bool.false_and, Bool.and_false, Bool.not_true, Bool.not_false]; done) | (simp only [↓hb6, ↓hb7, ↓hb8, ↓hb42, ↓hb46, ↓hb47, ↓hb50, ↓hb52, cond_true, cond_false, Bool.true_or, Bool.or_true, Bool.false_or, Bool.or_false, Bool.true_and, Bool.and_true, Bool.false_and, Bool.and_false, Bool.not_true, Bool.not_false]; rfl))⟩, trivial⟩
                        · conv => whnf
                          exact Wk.mk2 [0, 1] 4 rfl rfl (by decide) rfl ⟨⟨rfl, rfl⟩, ⟨rfl, rfl⟩, trivial⟩ ⟨⟨rfl, rfl⟩, ⟨rfl, rfl⟩, ⟨rfl, rfl⟩, ⟨rfl, rfl⟩, ⟨rfl, (by first | rfl | (simp only [↓hb6, ↓hb7, ↓hb8, ↓hb42, ↓hb46, ↓hb47, ↓hb50, ↓hb52, cond_true, cond_false, Bool.true_or, Bool.or_true, Bool.false_or, Bool.or_false, Bool.true_and, Bool.and_true, Bool.false_and, Bool.and_false, Bool.not_true, Bool.not_false]; done) | (simp only [↓hb6, ↓hb7, ↓hb8, ↓hb42, ↓hb46, ↓hb47, ↓hb50, ↓hb52, cond_true, cond_false, Bool.true_or, Bool.or_true, Bool.false_or, Bool.or_false, Bool.true_and, Bool.and_true, Bool.false_and, Bool.and_false, Bool.not_true, Bool.not_false]; rfl))⟩, trivial⟩
                    · conv => whnf
                      refine Tr.weak hw ?_
                      refine Tr.cond ?_
                      conv => whnf
                      refine condS_bif h (fun hb53 h => ?_) (fun hb53 h => ?_)
                      · refine Tr.seq ?_
                        refine Tr.region layOK ?_
                        conv => whnf
                        refine Tr.ret ?_
                        conv => whnf
                        cases h
                        rfl
                      · refine Tr.skip ?_
                        conv => whnf
                        refine Tr.region layOK ?_
                        conv => whnf
                        refine arS_raw ?_
                        conv => whnf
                        refine ⟨((w64 (i_38 + 1))), h, ?_⟩
                        exact Wk.mk2 [0, 1] 2 rfl rfl (by decide) rfl ⟨⟨rfl, rfl⟩, ⟨rfl, rfl⟩, trivial⟩ ⟨⟨rfl, rfl⟩, ⟨rfl, rfl⟩, ⟨rfl, rfl⟩, ⟨rfl, rfl⟩, trivial⟩
              · refine Tr.exit ?_
                conv => whnf
                refine ⟨(), h, ?_⟩
                exact Wk.mk2 [] 2 rfl rfl (by decide) rfl trivial ⟨⟨rfl, rfl⟩, trivial⟩
            · clear h
              rintro _ h T1 H1 hw
              replace h : m_stopwatchref25_Admissible_J6 () = some r_3 := h
              conv => whnf
              refine Tr.weak hw ?_
              unfold m_stopwatchref25_Admissible_J6 at h
              refine Tr.seq ?_
              refine Tr.region layOK ?_
              conv => whnf
              refine Tr.ret ?_
              conv => whnf
              cases h
              rfl

theorem s_stopwatchref26_Check (f_1 : TField) (h_2 : THistory) (r_3 : Int) (h : m_stopwatchref26_Check f_1 h_2 = some r_3) :
    PC prog 14 [(eTField f_1), (eTHistory h_2)] (fun rs => rs = [(.i .i64 r_3)]) := by
  refine PC.of_tr (cx := ⟨12, none, lay, 0⟩) layOK func14 rfl rfl rfl rfl rfl (by simp [f14]) ?_
  unfold m_stopwatchref26_Check at h
  refine Tr.seq ?_
  refine Tr.region layOK ?_
  conv => whnf
  refine Tr.seq ?_
  refine Tr.seq ?_
  refine Tr.region layOK ?_
  conv => whnf
  obtain ⟨r_4, hc5, h⟩ := bind_some h
  refine PC.ecall (s_stopwatchref24_Check f_1 r_4 hc5) (fun rs hrs => ?_)
  subst hrs
  conv => whnf
  refine Tr.cond ?_
  conv => whnf
  refine condS_bif h (fun hb6 h => ?_) (fun hb6 h => ?_)
  · refine Tr.seq ?_
    refine Tr.region layOK ?_
    conv => whnf
    refine Tr.ret ?_
    conv => whnf
    cases h
    rfl
  · refine Tr.skip ?_
    conv => whnf
    refine Tr.seq ?_
    refine Tr.seq ?_
    refine Tr.region layOK ?_
    conv => whnf
    obtain ⟨r_7, hc8, h⟩ := bind_some h
    refine PC.ecall (s_stopwatchref25_Admissible f_1 h_2 r_7 hc8) (fun rs hrs => ?_)
    subst hrs
    conv => whnf
    refine Tr.cond ?_
    conv => whnf
    refine condS_bif h (fun hb9 h => ?_) (fun hb9 h => ?_)
    · refine Tr.seq ?_
      refine Tr.region layOK ?_
      conv => whnf
      refine Tr.ret ?_
      conv => whnf
      cases h
      rfl
    · refine Tr.skip ?_
      conv => whnf
      refine Tr.seq ?_
      refine Tr.region layOK ?_
      conv => whnf
      refine Tr.ret ?_
      conv => whnf
      cases h
      rfl
end Go.Proofs.Try
