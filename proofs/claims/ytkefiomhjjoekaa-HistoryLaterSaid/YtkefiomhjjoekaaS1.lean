/- Contracts of functions, by program (gen.py). No condition. -/
import Derived.Test.YtkefiomhjjoekaaL
import Derived.Test.YtkefiomhjjoekaaM
namespace Go.Proofs.Try
open Go Go.Abs Go.Stop
set_option maxRecDepth 8000
set_option linter.unusedVariables false
set_option linter.unusedSimpArgs false

theorem s_stopwatchlaw26_two_1 (lo_1 : Int) (hi_2 : Int) (r_3 : TOutcome) (h : m_stopwatchlaw26_two_1 lo_1 hi_2 = some r_3) :
    PC prog 53 [(.i .i64 lo_1), (.i .i64 hi_2)] (fun rs => rs = [(eTOutcome r_3)]) := by
  refine PC.of_tr (cx := ⟨8, none, lay, 0⟩) layOK func53 rfl rfl rfl rfl rfl (by simp [f53]) ?_
  unfold m_stopwatchlaw26_two_1 at h
  refine Tr.seq ?_
  refine Tr.region layOK ?_
  conv => whnf
  refine Tr.seq ?_
  refine Tr.region layOK ?_
  conv => whnf
  refine Tr.ret ?_
  conv => whnf
  cases h
  rfl

theorem s_stopwatchlaw26_two (r_1 : TField) (h : m_stopwatchlaw26_two = some r_1) :
    PC prog 30 [] (fun rs => rs = [(eTField r_1)]) := by
  refine PC.of_tr (cx := ⟨25, none, lay, 0⟩) layOK func30 rfl rfl rfl rfl rfl (by simp [f30]) ?_
  unfold m_stopwatchlaw26_two at h
  refine Tr.seq ?_
  refine Tr.region layOK ?_
  conv => whnf
  refine Tr.seq ?_
  refine Tr.region layOK ?_
  conv => whnf
  refine Tr.seq ?_
  refine Tr.region layOK ?_
  conv => whnf
  refine Tr.seq ?_
  refine Tr.draw (DrawP.seqQ layOK mixed [(21, 0)] [(0, 1), (1, 1), (2, 1), (3, 1), (4, 4), (5, 1), (6, 1), (7, 1), (8, 1), (9, 1), (10, 1), (11, 4), (12, 1), (13, 1), (14, 1), (15, 1), (16, 1), (17, 1), (18, 1), (19, 1), (20, 1), (21, 0)] (by kernel_rfl) ?_)
  conv => whnf
  refine ⟨_, (fun H => by (conv => whnf); (refine orB_r ?_); (conv => whnf); (exact ⟨rfl, rfl⟩)), ?_⟩
  conv => whnf
  refine ⟨_, (fun H => by (conv => whnf); (refine orB_r ?_); (conv => whnf); (exact ⟨rfl, rfl⟩)), ?_⟩
  conv => whnf
  refine ⟨_, (fun H => by (conv => whnf); (exact ⟨rfl, rfl⟩)), ?_⟩
  conv => whnf
  refine ⟨_, (fun H => by (conv => whnf); (refine orB_r ?_); (conv => whnf); (exact ⟨rfl, rfl⟩)), ?_⟩
  conv => whnf
  refine ⟨_, ⟨rfl, rfl, (by (conv => whnf); (exact ⟨rfl, rfl⟩))⟩, ?_⟩
  conv => whnf
  refine ⟨_, (fun H => by (conv => whnf); (exact ⟨rfl, rfl⟩)), ?_⟩
  conv => whnf
  obtain ⟨r_2, hc3, h⟩ := bind_some h
  refine ⟨_, (fun H => by (conv => whnf); (refine PC.ecall (s_stopwatchlaw26_two_1 10 12 r_2 hc3) (fun rs hrs => ?_)); (subst hrs); (conv => whnf); (exact ⟨rfl, rfl⟩)), ?_⟩
  conv => whnf
  refine ⟨_, (fun H => by (conv => whnf); (refine orB_r ?_); (conv => whnf); (exact ⟨rfl, rfl⟩)), ?_⟩
  conv => whnf
  refine ⟨_, (fun H => by (conv => whnf); (refine orB_r ?_); (conv => whnf); (exact ⟨rfl, rfl⟩)), ?_⟩
  conv => whnf
  refine ⟨_, (fun H => by (conv => whnf); (exact ⟨rfl, rfl⟩)), ?_⟩
  conv => whnf
  refine ⟨_, (fun H => by (conv => whnf); (refine orB_r ?_); (conv => whnf); (exact ⟨rfl, rfl⟩)), ?_⟩
  conv => whnf
  refine ⟨_, ⟨rfl, rfl, (by (conv => whnf); (exact ⟨rfl, rfl⟩))⟩, ?_⟩
  conv => whnf
  refine ⟨_, (fun H => by (conv => whnf); (exact ⟨rfl, rfl⟩)), ?_⟩
  conv => whnf
  obtain ⟨r_4, hc5, h⟩ := bind_some h
  refine ⟨_, (fun H => by (conv => whnf); (refine PC.ecall (s_stopwatchlaw26_two_1 11 13 r_4 hc5) (fun rs hrs => ?_)); (subst hrs); (conv => whnf); (exact ⟨rfl, rfl⟩)), ?_⟩
  conv => whnf
  refine ⟨_, (fun H => by (conv => whnf); (exact ⟨rfl, rfl⟩)), ?_⟩
  conv => whnf
  obtain ⟨r_6, hc7, h⟩ := bind_some h
  refine ⟨_, (fun H => by (conv => whnf); (refine PC.ecall (s_stopwatchlaw26_two_1 20 21 r_6 hc7) (fun rs hrs => ?_)); (subst hrs); (conv => whnf); (exact ⟨rfl, rfl⟩)), ?_⟩
  conv => whnf
  refine ⟨_, (fun H => by (conv => whnf); (refine orB_r ?_); (conv => whnf); (exact ⟨rfl, rfl⟩)), ?_⟩
  conv => whnf
  refine ⟨_, (fun H => by (conv => whnf); (refine orB_r ?_); (conv => whnf); (exact ⟨rfl, rfl⟩)), ?_⟩
  conv => whnf
  refine ⟨_, (fun H => by (conv => whnf); (exact ⟨rfl, rfl⟩)), ?_⟩
  conv => whnf
  refine ⟨_, (fun H => by (conv => whnf); (refine orB_r ?_); (conv => whnf); (exact ⟨rfl, rfl⟩)), ?_⟩
  conv => whnf
  refine ⟨_, (fun H => by (conv => whnf); (exact ⟨rfl, rfl⟩)), ?_⟩
  conv => whnf
  refine ⟨_, _, (by (conv => whnf); (refine orB_l ?_); (conv => whnf); (exact ⟨rfl, rfl⟩)), kp_ok (by repeat (first | exact trivial | refine ⟨trivial, ?_⟩ | refine ⟨rfl, ?_⟩)), ?_⟩
  conv => whnf
  refine Tr.ret ?_
  conv => whnf
  cases h
  rfl

theorem s_clocks_isTime (n_1 : Int) (r_2 : Bool) (h : m_clocks_isTime n_1 = some r_2) :
    PC prog 68 [(.i .i64 n_1)] (fun rs => rs = [(.b r_2)]) := by
  refine PC.of_tr (cx := ⟨9, none, lay, 0⟩) layOK func68 rfl rfl rfl rfl rfl (by simp [f68]) ?_
  unfold m_clocks_isTime at h
  refine Tr.seq ?_
  refine Tr.region layOK ?_
  conv => whnf
  refine Tr.seq ?_
  refine Tr.region layOK ?_
  conv => whnf
  refine condS_bif h (fun hb3 h => ?_) (fun hb3 h => ?_)
  · conv => whnf
    refine Tr.ret ?_
    conv => whnf
    cases h
    rfl
  · conv => whnf
    refine Tr.ret ?_
    conv => whnf
    cases h
    rfl

theorem s_cmp_isNaN_int (x_1 : Int) (r_2 : Bool) (h : m_cmp_isNaN_int x_1 = some r_2) :
    PC prog 97 [(.i .i64 x_1)] (fun rs => rs = [(.b r_2)]) := by
  refine PC.of_tr (cx := ⟨6, none, lay, 0⟩) layOK func97 rfl rfl rfl rfl rfl (by simp [f97]) ?_
  unfold m_cmp_isNaN_int at h
  refine Tr.seq ?_
  refine Tr.region layOK ?_
  conv => whnf
  refine Tr.seq ?_
  refine Tr.region layOK ?_
  conv => whnf
  refine Tr.ret ?_
  conv => whnf
  cases h
  rfl

theorem s_cmp_Compare_int (x_1 : Int) (y_2 : Int) (r_3 : Int) (h : m_cmp_Compare_int x_1 y_2 = some r_3) :
    PC prog 65 [(.i .i64 x_1), (.i .i64 y_2)] (fun rs => rs = [(.i .i64 r_3)]) := by
  refine PC.of_tr (cx := ⟨20, none, lay, 0⟩) layOK func65 rfl rfl rfl rfl rfl (by simp [f65]) ?_
  unfold m_cmp_Compare_int at h
  refine Tr.seq ?_
  refine Tr.region layOK ?_
  conv => whnf
  refine Tr.seq ?_
  refine Tr.region layOK ?_
  conv => whnf
  obtain ⟨r_4, hc5, h⟩ := bind_some h
  refine PC.ecall (s_cmp_isNaN_int x_1 r_4 hc5) (fun rs hrs => ?_)
  subst hrs
  conv => whnf
  refine Tr.seq ?_
  refine Tr.region layOK ?_
  conv => whnf
  obtain ⟨r_6, hc7, h⟩ := bind_some h
  refine PC.ecall (s_cmp_isNaN_int y_2 r_6 hc7) (fun rs hrs => ?_)
  subst hrs
  conv => whnf
  refine Tr.seq ?_
  refine Tr.seq ?_
  refine Tr.region layOK ?_
  conv => whnf
  refine Tr.cond ?_
  conv => whnf
  refine condS_bif h (fun hb8 h => ?_) (fun hb8 h => ?_)
  · refine Tr.seq ?_
    refine Tr.seq ?_
    refine Tr.region layOK ?_
    conv => whnf
    refine Tr.cond ?_
    conv => whnf
    refine condS_bif h (fun hb9 h => ?_) (fun hb9 h => ?_)
    · refine Tr.seq ?_
      refine Tr.region layOK ?_
      conv => whnf
      refine Tr.ret ?_
      conv => whnf
      cases h
      rfl
    · refine Tr.skip ?_
      conv => whnf
      refine Tr.seq ?_
      refine Tr.region layOK ?_
      conv => whnf
      refine Tr.ret ?_
      conv => whnf
      cases h
      rfl
  · refine Tr.skip ?_
    conv => whnf
    refine Tr.seq ?_
    refine Tr.seq ?_
    refine Tr.region layOK ?_
    conv => whnf
    refine Tr.cond ?_
    conv => whnf
    refine condS_bif h (fun hb10 h => ?_) (fun hb10 h => ?_)
    · refine Tr.seq ?_
      refine Tr.region layOK ?_
      conv => whnf
      refine Tr.ret ?_
      conv => whnf
      cases h
      rfl
    · refine Tr.skip ?_
      conv => whnf
      refine Tr.seq ?_
      refine Tr.seq ?_
      refine Tr.region layOK ?_
      conv => whnf
      refine Tr.cond ?_
      conv => whnf
      refine condS_bif h (fun hb11 h => ?_) (fun hb11 h => ?_)
      · refine Tr.seq ?_
        refine Tr.region layOK ?_
        conv => whnf
        refine Tr.ret ?_
        conv => whnf
        cases h
        rfl
      · refine Tr.skip ?_
        conv => whnf
        refine Tr.seq ?_
        refine Tr.seq ?_
        refine Tr.region layOK ?_
        conv => whnf
        refine Tr.cond ?_
        conv => whnf
        refine condS_bif h (fun hb12 h => ?_) (fun hb12 h => ?_)
        · refine Tr.seq ?_
          refine Tr.region layOK ?_
          conv => whnf
          refine Tr.ret ?_
          conv => whnf
          cases h
          rfl
        · refine Tr.skip ?_
          conv => whnf
          refine Tr.seq ?_
          refine Tr.region layOK ?_
          conv => whnf
          refine Tr.ret ?_
          conv => whnf
          cases h
          rfl

theorem s_cmp_Or_int (vals_1 : List Int) (r_2 : Int) (h : m_cmp_Or_int vals_1 = some r_2) :
    PC prog 64 [(.ls (List.map eI vals_1))] (fun rs => rs = [(.i .i64 r_2)]) := by
  refine PC.of_tr (cx := ⟨18, none, lay, 0⟩) layOK func64 rfl rfl rfl rfl rfl (by simp [f64]) ?_
  unfold m_cmp_Or_int at h
  refine Tr.seq ?_
  refine Tr.region layOK ?_
  conv => whnf
  refine Tr.seq ?_
  refine Tr.region layOK ?_
  conv => whnf
  refine Tr.seq ?_
  refine Tr.seq ?_
  refine Tr.region layOK ?_
  conv => whnf
  refine lnS_map ?_
  conv => whnf
  refine Tr.cutQ (α := Unit) (fun s => ([(2, .d (.i .i64 0)), (3, .d (.i .i64 0))], [])) (fun s => m_cmp_Or_int_J2 s = some r_2) ?_ ?_
  · refine Tr.block ?_
    refine Tr.loopM (σ := Int) (fun n s => m_cmp_Or_int_L1 vals_1 m_cmp_Or_int_J2 n s) r_2 (fun s => ([(2, .d (.i .i64 0)), (3, .d (.i .i64 0)), (6, .d (.ls (List.map eI vals_1))), (7, .d (.i .i64 (((vals_1).length : Int)))), (8, .d (.i .i64 s))], [])) (((((vals_1).length : Int)) - 0 : Int).toNat + 1) (0) h (fun s => rfl) (Wk.mk2 [] 0 rfl rfl (by decide) rfl trivial ⟨⟨rfl, rfl⟩, ⟨rfl, rfl⟩, ⟨rfl, rfl⟩, ⟨rfl, rfl⟩, ⟨rfl, rfl⟩, trivial⟩) ?_
    clear h
    rintro n_5 v_4 h
    replace h : m_cmp_Or_int_L1 vals_1 m_cmp_Or_int_J2 (n_5 + 1) v_4 = some r_2 := h
    rw [m_cmp_Or_int_L1] at h
    refine Tr.seq ?_
    refine Tr.region layOK ?_
    conv => whnf
    refine Tr.seq ?_
    refine Tr.cond ?_
    conv => whnf
    refine condS_bif h (fun hb8 h => ?_) (fun hb8 h => ?_)
    · refine Tr.skip ?_
      conv => whnf
      refine Tr.seq ?_
      refine Tr.block ?_
      refine Tr.seq ?_
      refine Tr.region layOK ?_
      conv => whnf
      obtain ⟨x_9, hx_9, h⟩ := bind_some h
      refine ixP_of hx_9 ?_
      conv => whnf
      refine Tr.seq ?_
      refine Tr.region layOK ?_
      conv => whnf
      refine Tr.cond ?_
      conv => whnf
      refine condS_bif h (fun hb10 h => ?_) (fun hb10 h => ?_)
      · refine Tr.seq ?_
        refine Tr.region layOK ?_
        conv => whnf
        refine Tr.ret ?_
        conv => whnf
        cases h
        rfl
      · refine Tr.skip ?_
        conv => whnf
        refine Tr.region layOK ?_
        conv => whnf
        refine arS_raw ?_
        conv => whnf
        refine ⟨((w64 (v_4 + 1))), h, ?_⟩
        exact Wk.mk2 [] 0 rfl rfl (by decide) rfl trivial ⟨⟨rfl, rfl⟩, ⟨rfl, rfl⟩, ⟨rfl, rfl⟩, ⟨rfl, rfl⟩, ⟨rfl, rfl⟩, trivial⟩
    · refine Tr.exit ?_
      conv => whnf
      refine ⟨(), h, ?_⟩
      exact Wk.mk2 [] 0 rfl rfl (by decide) rfl trivial ⟨⟨rfl, rfl⟩, ⟨rfl, rfl⟩, trivial⟩
  · clear h
    rintro _ h T1 H1 hw
    replace h : m_cmp_Or_int_J2 () = some r_2 := h
    conv => whnf
    refine Tr.weak hw ?_
    unfold m_cmp_Or_int_J2 at h
    refine Tr.seq ?_
    refine Tr.region layOK ?_
    conv => whnf
    refine Tr.ret ?_
    conv => whnf
    cases h
    rfl

theorem s_clocks_place_compare (p_1 : Tclocks_place) (q_2 : Tclocks_place) (r_3 : Int) (h : m_clocks_place_compare p_1 q_2 = some r_3) :
    PC prog 99 [(eTclocks_place p_1), (eTclocks_place q_2)] (fun rs => rs = [(.i .i64 r_3)]) := by
  refine PC.of_tr (cx := ⟨17, none, lay, 0⟩) layOK func99 rfl rfl rfl rfl rfl (by simp [f99]) ?_
  unfold m_clocks_place_compare at h
  refine Tr.seq ?_
  refine Tr.region layOK ?_
  conv => whnf
  refine Tr.seq ?_
  refine Tr.draw (DrawP.seqQ layOK mixed [] [(0, 3), (1, 3), (2, 4), (3, 4), (4, 1), (5, 3), (6, 3), (7, 4), (8, 4), (9, 1), (10, 1), (11, 0), (12, 1)] (by kernel_rfl) ?_)
  conv => whnf
  refine ⟨_, ⟨rfl, rfl, (by (conv => whnf); (exact ⟨rfl, rfl⟩))⟩, ?_⟩
  conv => whnf
  refine ⟨_, ⟨rfl, rfl, (by (conv => whnf); (exact ⟨rfl, rfl⟩))⟩, ?_⟩
  conv => whnf
  refine ⟨_, ⟨rfl, rfl, (by (conv => whnf); (exact ⟨rfl, rfl⟩))⟩, ?_⟩
  conv => whnf
  refine ⟨_, ⟨rfl, rfl, (by (conv => whnf); (exact ⟨rfl, rfl⟩))⟩, ?_⟩
  conv => whnf
  obtain ⟨r_4, hc5, h⟩ := bind_some h
  refine ⟨_, (fun H => by (conv => whnf); (refine PC.ecall (s_cmp_Compare_int p_1.mat q_2.mat r_4 hc5) (fun rs hrs => ?_)); (subst hrs); (conv => whnf); (exact ⟨rfl, rfl⟩)), ?_⟩
  conv => whnf
  refine ⟨_, ⟨rfl, rfl, (by (conv => whnf); (exact ⟨rfl, rfl⟩))⟩, ?_⟩
  conv => whnf
  refine ⟨_, ⟨rfl, rfl, (by (conv => whnf); (exact ⟨rfl, rfl⟩))⟩, ?_⟩
  conv => whnf
  refine ⟨_, ⟨rfl, rfl, (by (conv => whnf); (exact ⟨rfl, rfl⟩))⟩, ?_⟩
  conv => whnf
  refine ⟨_, ⟨rfl, rfl, (by (conv => whnf); (exact ⟨rfl, rfl⟩))⟩, ?_⟩
  conv => whnf
  obtain ⟨r_6, hc7, h⟩ := bind_some h
  refine ⟨_, (fun H => by (conv => whnf); (refine PC.ecall (s_cmp_Compare_int p_1.epoch q_2.epoch r_6 hc7) (fun rs hrs => ?_)); (subst hrs); (conv => whnf); (exact ⟨rfl, rfl⟩)), ?_⟩
  conv => whnf
  refine ⟨_, (fun H => by (conv => whnf); (refine orB_r ?_); (conv => whnf); (exact ⟨rfl, rfl⟩)), ?_⟩
  conv => whnf
  obtain ⟨r_8, hc9, h⟩ := bind_some h
  refine ⟨_, _, (by (conv => whnf); (refine PC.ecall (s_cmp_Or_int ((([r_4, r_6] : List Int))) r_8 hc9) (fun rs hrs => ?_)); (subst hrs); (conv => whnf); (exact ⟨rfl, rfl⟩)), kp_ok (by repeat (first | exact trivial | refine ⟨trivial, ?_⟩ | refine ⟨rfl, ?_⟩)), ?_⟩
  conv => whnf
  refine ⟨_, (fun H => by (conv => whnf); (exact ⟨rfl, rfl⟩)), ?_⟩
  conv => whnf
  refine Tr.ret ?_
  conv => whnf
  cases h
  rfl

theorem s_clocks_order (a_1 : TSegment) (b_2 : TSegment) (r_3 : Int) (h : m_clocks_order a_1 b_2 = some r_3) :
    PC prog 69 [(eTSegment a_1), (eTSegment b_2)] (fun rs => rs = [(.i .i64 r_3)]) := by
  refine PC.of_tr (cx := ⟨16, none, lay, 0⟩) layOK func69 rfl rfl rfl rfl rfl (by simp [f69]) ?_
  unfold m_clocks_order at h
  refine Tr.seq ?_
  refine Tr.region layOK ?_
  conv => whnf
  refine Tr.seq ?_
  refine Tr.region layOK ?_
  conv => whnf
  obtain ⟨r_4, hc5, h⟩ := bind_some h
  refine PC.ecall (s_clocks_place_compare ({ mat := a_1.Mat, epoch := a_1.Epoch } : Tclocks_place) ({ mat := b_2.Mat, epoch := b_2.Epoch } : Tclocks_place) r_4 hc5) (fun rs hrs => ?_)
  subst hrs
  conv => whnf
  refine Tr.ret ?_
  conv => whnf
  cases h
  rfl

theorem s_clocks_Check_1 (w_1 : Int) (r_2 : Bool) (h : m_clocks_Check_1 w_1 = some r_2) :
    PC prog 71 [(.i .i64 w_1)] (fun rs => rs = [(.b r_2)]) := by
  refine PC.of_tr (cx := ⟨9, none, lay, 0⟩) layOK func71 rfl rfl rfl rfl rfl (by simp [f71]) ?_
  unfold m_clocks_Check_1 at h
  refine Tr.seq ?_
  refine Tr.region layOK ?_
  conv => whnf
  refine Tr.seq ?_
  refine Tr.region layOK ?_
  conv => whnf
  refine condS_bif h (fun hb3 h => ?_) (fun hb3 h => ?_)
  · conv => whnf
    refine Tr.ret ?_
    conv => whnf
    cases h
    rfl
  · conv => whnf
    refine Tr.ret ?_
    conv => whnf
    cases h
    rfl

theorem s_slices_IndexFunc_int_int_with_clocks_Check_1 (s_1 : List Int) (r_2 : Int) (h : m_slices_IndexFunc_int_int_with_clocks_Check_1 s_1 = some r_2) :
    PC prog 100 [(.ls (List.map eI s_1)), (.fn 71 [])] (fun rs => rs = [(.i .i64 r_2)]) := by
  refine PC.of_tr (cx := ⟨19, none, lay, 0⟩) layOK func100 rfl rfl rfl rfl rfl (by simp [f100]) ?_
  unfold m_slices_IndexFunc_int_int_with_clocks_Check_1 at h
  refine Tr.seq ?_
  refine Tr.region layOK ?_
  conv => whnf
  refine Tr.seq ?_
  refine Tr.seq ?_
  refine Tr.region layOK ?_
  conv => whnf
  refine lnS_map ?_
  conv => whnf
  refine Tr.cutQ (α := Unit) (fun s => ([(4, .d (.i .i64 0))], [])) (fun s => m_slices_IndexFunc_int_int_with_clocks_Check_1_J2 s = some r_2) ?_ ?_
  · refine Tr.block ?_
    refine Tr.loopM (σ := Int) (fun n s => m_slices_IndexFunc_int_int_with_clocks_Check_1_L1 s_1 m_slices_IndexFunc_int_int_with_clocks_Check_1_J2 n s) r_2 (fun s => ([(0, .d (.ls (List.map eI s_1))), (1, .d (.fn 71 [])), (4, .d (.i .i64 0)), (7, .d (.i .i64 (((s_1).length : Int)))), (8, .d (.i .i64 s))], [])) (((((s_1).length : Int)) - 0 : Int).toNat + 1) (0) h (fun s => rfl) (Wk.mk2 [] 0 rfl rfl (by decide) rfl trivial ⟨⟨rfl, rfl⟩, ⟨rfl, rfl⟩, ⟨rfl, rfl⟩, ⟨rfl, rfl⟩, ⟨rfl, rfl⟩, trivial⟩) ?_
    clear h
    rintro n_5 v_4 h
    replace h : m_slices_IndexFunc_int_int_with_clocks_Check_1_L1 s_1 m_slices_IndexFunc_int_int_with_clocks_Check_1_J2 (n_5 + 1) v_4 = some r_2 := h
    rw [m_slices_IndexFunc_int_int_with_clocks_Check_1_L1] at h
    refine Tr.seq ?_
    refine Tr.region layOK ?_
    conv => whnf
    refine Tr.seq ?_
    refine Tr.cond ?_
    conv => whnf
    refine condS_bif h (fun hb8 h => ?_) (fun hb8 h => ?_)
    · refine Tr.skip ?_
      conv => whnf
      refine Tr.seq ?_
      refine Tr.block ?_
      refine Tr.seq ?_
      refine Tr.region layOK ?_
      conv => whnf
      refine Tr.seq ?_
      refine Tr.region layOK ?_
      conv => whnf
      obtain ⟨x_9, hx_9, h⟩ := bind_some h
      refine ixP_of hx_9 ?_
      conv => whnf
      obtain ⟨r_10, hc11, h⟩ := bind_some h
      refine PC.ecall (s_clocks_Check_1 x_9 r_10 hc11) (fun rs hrs => ?_)
      subst hrs
      conv => whnf
      refine Tr.cond ?_
      conv => whnf
      refine condS_bif h (fun hb12 h => ?_) (fun hb12 h => ?_)
      · refine Tr.seq ?_
        refine Tr.region layOK ?_
        conv => whnf
        refine Tr.ret ?_
        conv => whnf
        cases h
        rfl
      · refine Tr.skip ?_
        conv => whnf
        refine Tr.region layOK ?_
        conv => whnf
        refine arS_raw ?_
        conv => whnf
        refine ⟨((w64 (v_4 + 1))), h, ?_⟩
        exact Wk.mk2 [] 0 rfl rfl (by decide) rfl trivial ⟨⟨rfl, rfl⟩, ⟨rfl, rfl⟩, ⟨rfl, rfl⟩, ⟨rfl, rfl⟩, ⟨rfl, rfl⟩, trivial⟩
    · refine Tr.exit ?_
      conv => whnf
      refine ⟨(), h, ?_⟩
      exact Wk.mk2 [] 0 rfl rfl (by decide) rfl trivial ⟨⟨rfl, rfl⟩, trivial⟩
  · clear h
    rintro _ h T1 H1 hw
    replace h : m_slices_IndexFunc_int_int_with_clocks_Check_1_J2 () = some r_2 := h
    conv => whnf
    refine Tr.weak hw ?_
    unfold m_slices_IndexFunc_int_int_with_clocks_Check_1_J2 at h
    refine Tr.seq ?_
    refine Tr.region layOK ?_
    conv => whnf
    refine Tr.ret ?_
    conv => whnf
    cases h
    rfl

theorem s_slices_ContainsFunc_int_int_with_clocks_Check_1 (s_1 : List Int) (r_2 : Bool) (h : m_slices_ContainsFunc_int_int_with_clocks_Check_1 s_1 = some r_2) :
    PC prog 70 [(.ls (List.map eI s_1)), (.fn 71 [])] (fun rs => rs = [(.b r_2)]) := by
  refine PC.of_tr (cx := ⟨9, none, lay, 0⟩) layOK func70 rfl rfl rfl rfl rfl (by simp [f70]) ?_
  unfold m_slices_ContainsFunc_int_int_with_clocks_Check_1 at h
  refine Tr.seq ?_
  refine Tr.region layOK ?_
  conv => whnf
  refine Tr.seq ?_
  refine Tr.region layOK ?_
  conv => whnf
  obtain ⟨r_3, hc4, h⟩ := bind_some h
  refine PC.ecall (s_slices_IndexFunc_int_int_with_clocks_Check_1 s_1 r_3 hc4) (fun rs hrs => ?_)
  subst hrs
  conv => whnf
  refine Tr.ret ?_
  conv => whnf
  cases h
  rfl

theorem s_clocks_Check (k_1 : TClocks) (r_2 : Int) (h : m_clocks_Check k_1 = some r_2) :
    PC prog 39 [(eTClocks k_1)] (fun rs => rs = [(.i .i64 r_2)]) := by
  refine PC.of_tr (cx := ⟨141, none, lay, 0⟩) layOK func39 rfl rfl rfl rfl rfl (by simp [f39]) ?_
  unfold m_clocks_Check at h
  refine Tr.seq ?_
  refine Tr.region layOK ?_
  conv => whnf
  refine Tr.seq ?_
  refine Tr.region layOK ?_
  conv => whnf
  refine lnS_map ?_
  conv => whnf
  refine Tr.seq ?_
  refine Tr.seq ?_
  refine Tr.region layOK ?_
  conv => whnf
  refine condS_bif h (fun hb3 h => ?_) (fun hb3 h => ?_)
  · conv => whnf
    refine Tr.cond ?_
    conv => whnf
    refine Tr.seq ?_
    refine Tr.region layOK ?_
    conv => whnf
    refine Tr.ret ?_
    conv => whnf
    cases h
    rfl
  · conv => whnf
    refine lnS_map ?_
    conv => whnf
    refine arS_raw ?_
    conv => whnf
    refine Tr.cond ?_
    conv => whnf
    refine condS_bif h (fun hb4 h => ?_) (fun hb4 h => ?_)
    · refine Tr.seq ?_
      refine Tr.region layOK ?_
      conv => whnf
      refine Tr.ret ?_
      conv => whnf
      cases h
      rfl
    · refine Tr.skip ?_
      conv => whnf
      refine Tr.seq ?_
      refine Tr.seq ?_
      refine Tr.region layOK ?_
      conv => whnf
      refine lnS_map ?_
      conv => whnf
      refine Tr.cutQ (α := Unit) (fun s => ([(1, .pt 0 0), (2, .d (.i .i64 0)), (3, .d (.i .i64 (((k_1.Segments).length : Int))))], [some (.var [.d (.ls (List.map eTSegment k_1.Segments)), .d (.ls (List.map (eL eI) k_1.Far))])])) (fun s => m_clocks_Check_J10 k_1 s = some r_2) ?_ ?_
      · refine Tr.block ?_
        refine Tr.loopM (σ := Int) (fun n s => m_clocks_Check_L1 k_1 (m_clocks_Check_J10 k_1) n s) r_2 (fun s => ([(1, .pt 0 0), (2, .d (.i .i64 0)), (3, .d (.i .i64 (((k_1.Segments).length : Int)))), (27, .d (.ls (List.map eTSegment k_1.Segments))), (28, .d (.i .i64 (((k_1.Segments).length : Int)))), (29, .d (.i .i64 s))], [some (.var [.d (.ls (List.map eTSegment k_1.Segments)), .d (.ls (List.map (eL eI) k_1.Far))])])) (((((k_1.Segments).length : Int)) - 0 : Int).toNat + 1) (0) h (fun s => rfl) (Wk.mk2 [0] 1 rfl rfl (by decide) rfl ⟨⟨rfl, rfl⟩, trivial⟩ ⟨⟨rfl, rfl⟩, ⟨rfl, rfl⟩, ⟨rfl, rfl⟩, ⟨rfl, rfl⟩, ⟨rfl, rfl⟩, ⟨rfl, rfl⟩, trivial⟩) ?_
        clear h
        rintro n_7 v_6 h
        replace h : m_clocks_Check_L1 k_1 (m_clocks_Check_J10 k_1) (n_7 + 1) v_6 = some r_2 := h
        rw [m_clocks_Check_L1] at h
        refine Tr.seq ?_
        refine Tr.region layOK ?_
        conv => whnf
        refine Tr.seq ?_
        refine Tr.cond ?_
        conv => whnf
        refine condS_bif h (fun hb10 h => ?_) (fun hb10 h => ?_)
        · refine Tr.skip ?_
          conv => whnf
          refine Tr.seq ?_
          refine Tr.block ?_
          refine Tr.seq ?_
          refine Tr.region layOK ?_
          conv => whnf
          obtain ⟨x_11, hx_11, h⟩ := bind_some h
          refine ixP_of hx_11 ?_
          conv => whnf
          refine Tr.seq ?_
          obtain ⟨v_12, hv13, h⟩ := bind_some h
          refine Tr.cutQ1 ([(1, .pt 0 0), (2, .d (.i .i64 0)), (3, .d (.i .i64 (((k_1.Segments).length : Int)))), (27, .d (.ls (List.map eTSegment k_1.Segments))), (28, .d (.i .i64 (((k_1.Segments).length : Int)))), (29, .d (.i .i64 v_6)), (72, .d (.b v_12))]) ([some (.var [.d (.ls (List.map eTSegment k_1.Segments)), .d (.ls (List.map (eL eI) k_1.Far))])]) ?_ (fun T1 H1 hw => ?_)
          · replace h := hv13; clear hv13
            refine Tr.draw (DrawP.seqQ layOK mixed [] [(0, 4), (1, 4), (2, 1), (3, 1), (4, 4), (5, 4), (6, 1), (7, 1), (8, 1), (9, 4), (10, 4), (11, 1), (12, 1), (13, 1), (14, 4), (15, 4), (16, 1), (17, 1), (18, 1), (19, 4), (20, 4), (21, 1), (22, 1), (23, 1), (24, 1), (25, 1), (26, 1), (27, 1), (28, 3), (29, 3), (30, 1), (31, 1), (32, 2), (33, 2), (34, 4), (35, 1), (36, 1), (37, 1), (38, 1)] (by kernel_rfl) ?_)
            conv => whnf
            refine ⟨_, ⟨rfl, rfl, (by (conv => whnf); (exact ⟨rfl, rfl⟩))⟩, ?_⟩
            conv => whnf
            refine ⟨_, ⟨rfl, rfl, (by (conv => whnf); (exact ⟨rfl, rfl⟩))⟩, ?_⟩
            conv => whnf
            refine ⟨_, (fun H => by (conv => whnf); (exact ⟨rfl, rfl⟩)), ?_⟩
            conv => whnf
            refine ⟨_, (fun H => by (conv => whnf); (exact ⟨rfl, rfl⟩)), ?_⟩
            conv => whnf
            refine condS_bif h (fun hb14 h => ?_) (fun hb14 h => ?_)
            · conv => whnf
              refine ⟨_, (fun H => by (conv => whnf); (exact ⟨rfl, rfl⟩)), ?_⟩
              conv => whnf
              refine ⟨_, (fun H => by (conv => whnf); (exact ⟨rfl, rfl⟩)), ?_⟩
              conv => whnf
              refine ⟨_, (fun H => by (conv => whnf); (exact ⟨rfl, rfl⟩)), ?_⟩
              conv => whnf
              refine ⟨_, (fun H => by (conv => whnf); (exact ⟨rfl, rfl⟩)), ?_⟩
              conv => whnf
              refine ⟨_, (fun H => by (conv => whnf); (exact ⟨rfl, rfl⟩)), ?_⟩
              conv => whnf
              refine ⟨_, (fun H => by (conv => whnf); (exact ⟨rfl, rfl⟩)), ?_⟩
              conv => whnf
              refine ⟨_, (fun H => by (conv => whnf); (exact ⟨rfl, rfl⟩)), ?_⟩
              conv => whnf
              refine ⟨_, (fun H => by (conv => whnf); (exact ⟨rfl, rfl⟩)), ?_⟩
              conv => whnf
              refine ⟨_, (fun H => by (conv => whnf); (exact ⟨rfl, rfl⟩)), ?_⟩
              conv => whnf
              cases h
              exact Wk.mk2 [0] 2 rfl rfl (by decide) rfl ⟨⟨rfl, rfl⟩, trivial⟩ ⟨⟨rfl, rfl⟩, ⟨rfl, rfl⟩, ⟨rfl, rfl⟩, ⟨rfl, rfl⟩, ⟨rfl, rfl⟩, ⟨rfl, rfl⟩, ⟨rfl, rfl⟩, trivial⟩
            · conv => whnf
              refine ⟨_, ⟨rfl, rfl, (by (conv => whnf); (exact ⟨rfl, rfl⟩))⟩, ?_⟩
              conv => whnf
              refine ⟨_, ⟨rfl, rfl, (by (conv => whnf); (exact ⟨rfl, rfl⟩))⟩, ?_⟩
              conv => whnf
              refine ⟨_, (fun H => by (conv => whnf); (exact ⟨rfl, rfl⟩)), ?_⟩
              conv => whnf
              refine ⟨_, (fun H => by (conv => whnf); (exact ⟨rfl, rfl⟩)), ?_⟩
              conv => whnf
              refine ⟨_, (fun H => by (conv => whnf); (exact ⟨rfl, rfl⟩)), ?_⟩
              conv => whnf
              refine condS_bif h (fun hb15 h => ?_) (fun hb15 h => ?_)
              · conv => whnf
                refine ⟨_, (fun H => by (conv => whnf); (exact ⟨rfl, rfl⟩)), ?_⟩
                conv => whnf
                refine ⟨_, (fun H => by (conv => whnf); (exact ⟨rfl, rfl⟩)), ?_⟩
                conv => whnf
                refine ⟨_, (fun H => by (conv => whnf); (exact ⟨rfl, rfl⟩)), ?_⟩
                conv => whnf
                refine ⟨_, (fun H => by (conv => whnf); (exact ⟨rfl, rfl⟩)), ?_⟩
                conv => whnf
                refine ⟨_, (fun H => by (conv => whnf); (exact ⟨rfl, rfl⟩)), ?_⟩
                conv => whnf
                refine ⟨_, (fun H => by (conv => whnf); (exact ⟨rfl, rfl⟩)), ?_⟩
                conv => whnf
                refine ⟨_, (fun H => by (conv => whnf); (exact ⟨rfl, rfl⟩)), ?_⟩
                conv => whnf
                cases h
                exact Wk.mk2 [0] 2 rfl rfl (by decide) rfl ⟨⟨rfl, rfl⟩, trivial⟩ ⟨⟨rfl, rfl⟩, ⟨rfl, rfl⟩, ⟨rfl, rfl⟩, ⟨rfl, rfl⟩, ⟨rfl, rfl⟩, ⟨rfl, rfl⟩, ⟨rfl, rfl⟩, trivial⟩
              · conv => whnf
                refine ⟨_, ⟨rfl, rfl, (by (conv => whnf); (exact ⟨rfl, rfl⟩))⟩, ?_⟩
                conv => whnf
                refine ⟨_, ⟨rfl, rfl, (by (conv => whnf); (exact ⟨rfl, rfl⟩))⟩, ?_⟩
                conv => whnf
                refine ⟨_, (fun H => by (conv => whnf); (exact ⟨rfl, rfl⟩)), ?_⟩
                conv => whnf
                refine ⟨_, (fun H => by (conv => whnf); (exact ⟨rfl, rfl⟩)), ?_⟩
                conv => whnf
                refine ⟨_, (fun H => by (conv => whnf); (exact ⟨rfl, rfl⟩)), ?_⟩
                conv => whnf
                refine condS_bif h (fun hb16 h => ?_) (fun hb16 h => ?_)
                · conv => whnf
                  refine ⟨_, (fun H => by (conv => whnf); (exact ⟨rfl, rfl⟩)), ?_⟩
                  conv => whnf
                  refine ⟨_, (fun H => by (conv => whnf); (exact ⟨rfl, rfl⟩)), ?_⟩
                  conv => whnf
                  refine ⟨_, (fun H => by (conv => whnf); (exact ⟨rfl, rfl⟩)), ?_⟩
                  conv => whnf
                  refine ⟨_, (fun H => by (conv => whnf); (exact ⟨rfl, rfl⟩)), ?_⟩
                  conv => whnf
                  refine ⟨_, (fun H => by (conv => whnf); (exact ⟨rfl, rfl⟩)), ?_⟩
                  conv => whnf
                  cases h
                  exact Wk.mk2 [0] 2 rfl rfl (by decide) rfl ⟨⟨rfl, rfl⟩, trivial⟩ ⟨⟨rfl, rfl⟩, ⟨rfl, rfl⟩, ⟨rfl, rfl⟩, ⟨rfl, rfl⟩, ⟨rfl, rfl⟩, ⟨rfl, rfl⟩, ⟨rfl, rfl⟩, trivial⟩
                · conv => whnf
                  refine ⟨_, ⟨rfl, rfl, (by (conv => whnf); (exact ⟨rfl, rfl⟩))⟩, ?_⟩
                  conv => whnf
                  refine ⟨_, ⟨rfl, rfl, (by (conv => whnf); (exact ⟨rfl, rfl⟩))⟩, ?_⟩
                  conv => whnf
                  refine ⟨_, (fun H => by (conv => whnf); (exact ⟨rfl, rfl⟩)), ?_⟩
                  conv => whnf
                  refine ⟨_, (fun H => by (conv => whnf); (exact ⟨rfl, rfl⟩)), ?_⟩
                  conv => whnf
                  refine ⟨_, (fun H => by (conv => whnf); (exact ⟨rfl, rfl⟩)), ?_⟩
                  conv => whnf
                  refine condS_bif h (fun hb17 h => ?_) (fun hb17 h => ?_)
                  · conv => whnf
                    refine ⟨_, (fun H => by (conv => whnf); (exact ⟨rfl, rfl⟩)), ?_⟩
                    conv => whnf
                    refine ⟨_, (fun H => by (conv => whnf); (exact ⟨rfl, rfl⟩)), ?_⟩
                    conv => whnf
                    refine ⟨_, (fun H => by (conv => whnf); (exact ⟨rfl, rfl⟩)), ?_⟩
                    conv => whnf
                    cases h
                    exact Wk.mk2 [0] 2 rfl rfl (by decide) rfl ⟨⟨rfl, rfl⟩, trivial⟩ ⟨⟨rfl, rfl⟩, ⟨rfl, rfl⟩, ⟨rfl, rfl⟩, ⟨rfl, rfl⟩, ⟨rfl, rfl⟩, ⟨rfl, rfl⟩, ⟨rfl, rfl⟩, trivial⟩
                  · conv => whnf
                    refine ⟨_, ⟨rfl, rfl, (by (conv => whnf); (exact ⟨rfl, rfl⟩))⟩, ?_⟩
                    conv => whnf
                    refine ⟨_, ⟨rfl, rfl, (by (conv => whnf); (exact ⟨rfl, rfl⟩))⟩, ?_⟩
                    conv => whnf
                    obtain ⟨r_18, hc19, h⟩ := bind_some h
                    refine ⟨_, (fun H => by (conv => whnf); (refine PC.ecall (s_clocks_isTime x_11.Anchor r_18 hc19) (fun rs hrs => ?_)); (subst hrs); (conv => whnf); (exact ⟨rfl, rfl⟩)), ?_⟩
                    conv => whnf
                    refine ⟨_, (fun H => by (conv => whnf); (exact ⟨rfl, rfl⟩)), ?_⟩
                    conv => whnf
                    refine ⟨_, (fun H => by (conv => whnf); (exact ⟨rfl, rfl⟩)), ?_⟩
                    conv => whnf
                    refine ⟨_, (fun H => by (conv => whnf); (exact ⟨rfl, rfl⟩)), ?_⟩
                    conv => whnf
                    refine condS_bif h (fun hb20 h => ?_) (fun hb20 h => ?_)
                    · conv => whnf
                      refine ⟨_, (fun H => by (conv => whnf); (exact ⟨rfl, rfl⟩)), ?_⟩
                      conv => whnf
                      cases h
                      exact Wk.mk2 [0] 2 rfl rfl (by decide) rfl ⟨⟨rfl, rfl⟩, trivial⟩ ⟨⟨rfl, rfl⟩, ⟨rfl, rfl⟩, ⟨rfl, rfl⟩, ⟨rfl, rfl⟩, ⟨rfl, rfl⟩, ⟨rfl, rfl⟩, ⟨rfl, rfl⟩, trivial⟩
                    · conv => whnf
                      refine ⟨_, (fun H => by (conv => whnf); (exact ⟨rfl, rfl⟩)), ?_⟩
                      conv => whnf
                      refine ⟨_, (fun H => by (conv => whnf); (exact ⟨rfl, rfl⟩)), ?_⟩
                      conv => whnf
                      refine ⟨_, (fun H => by (conv => whnf); (exact ⟨rfl, rfl⟩)), ?_⟩
                      conv => whnf
                      refine condS_bif h (fun hb21 h => ?_) (fun hb21 h => ?_)
                      · conv => whnf
                        refine ⟨_, ⟨rfl, rfl, (by (conv => whnf); (exact ⟨rfl, rfl⟩))⟩, ?_⟩
                        conv => whnf
                        refine ⟨_, ⟨rfl, rfl, (by (conv => whnf); (exact ⟨rfl, rfl⟩))⟩, ?_⟩
                        conv => whnf
                        refine ⟨_, (fun H => by (conv => whnf); (exact ⟨rfl, rfl⟩)), ?_⟩
                        conv => whnf
                        refine ⟨_, (fun H => by (conv => whnf); (refine arS_raw ?_); (conv => whnf); (exact ⟨rfl, rfl⟩)), ?_⟩
                        conv => whnf
                        obtain ⟨x_22, hx_22, h⟩ := bind_some h
                        refine ⟨_, ⟨rfl, rfl, (by (conv => whnf); (refine ixP_of hx_22 ?_); (conv => whnf); (exact ⟨rfl, rfl⟩))⟩, ?_⟩
                        conv => whnf
                        refine ⟨_, ⟨rfl, rfl, (by (conv => whnf); (exact ⟨rfl, rfl⟩))⟩, ?_⟩
                        conv => whnf
                        refine ⟨_, ⟨rfl, rfl, (by (conv => whnf); (exact ⟨rfl, rfl⟩))⟩, ?_⟩
                        conv => whnf
                        obtain ⟨r_23, hc24, h⟩ := bind_some h
                        refine ⟨_, (fun H => by (conv => whnf); (refine PC.ecall (s_clocks_order x_22 x_11 r_23 hc24) (fun rs hrs => ?_)); (subst hrs); (conv => whnf); (exact ⟨rfl, rfl⟩)), ?_⟩
                        conv => whnf
                        refine ⟨_, (fun H => by (conv => whnf); (exact ⟨rfl, rfl⟩)), ?_⟩
                        conv => whnf
                        refine ⟨_, (fun H => by (conv => whnf); (exact ⟨rfl, rfl⟩)), ?_⟩
                        conv => whnf
                        refine ⟨_, (fun H => by (conv => whnf); (exact ⟨rfl, rfl⟩)), ?_⟩
                        conv => whnf
                        cases h
                        exact Wk.mk2 [0] 2 rfl rfl (by decide) rfl ⟨⟨rfl, rfl⟩, trivial⟩ ⟨⟨rfl, rfl⟩, ⟨rfl, rfl⟩, ⟨rfl, rfl⟩, ⟨rfl, rfl⟩, ⟨rfl, rfl⟩, ⟨rfl, rfl⟩, ⟨rfl, rfl⟩, trivial⟩
                      · conv => whnf
                        refine ⟨_, (fun H => by (conv => whnf); (exact ⟨rfl, rfl⟩)), ?_⟩
                        conv => whnf
                        refine ⟨_, (fun H => by (conv => whnf); (exact ⟨rfl, rfl⟩)), ?_⟩
                        conv => whnf
                        cases h
                        exact Wk.mk2 [0] 2 rfl rfl (by decide) rfl ⟨⟨rfl, rfl⟩, trivial⟩ ⟨⟨rfl, rfl⟩, ⟨rfl, rfl⟩, ⟨rfl, rfl⟩, ⟨rfl, rfl⟩, ⟨rfl, rfl⟩, ⟨rfl, rfl⟩, ⟨rfl, rfl⟩, trivial⟩
          · clear hv13
            conv => whnf
            refine Tr.weak hw ?_
            refine Tr.cond ?_
            conv => whnf
            refine condS_bif h (fun hb25 h => ?_) (fun hb25 h => ?_)
            · refine Tr.seq ?_
              refine Tr.region layOK ?_
              conv => whnf
              refine Tr.ret ?_
              conv => whnf
              cases h
              rfl
            · refine Tr.skip ?_
              conv => whnf
              refine Tr.region layOK ?_
              conv => whnf
              refine arS_raw ?_
              conv => whnf
              refine ⟨((w64 (v_6 + 1))), h, ?_⟩
              exact Wk.mk2 [0] 1 rfl rfl (by decide) rfl ⟨⟨rfl, rfl⟩, trivial⟩ ⟨⟨rfl, rfl⟩, ⟨rfl, rfl⟩, ⟨rfl, rfl⟩, ⟨rfl, rfl⟩, ⟨rfl, rfl⟩, ⟨rfl, rfl⟩, trivial⟩
        · refine Tr.exit ?_
          conv => whnf
          refine ⟨(), h, ?_⟩
          exact Wk.mk2 [0] 1 rfl rfl (by decide) rfl ⟨⟨rfl, rfl⟩, trivial⟩ ⟨⟨rfl, rfl⟩, ⟨rfl, rfl⟩, ⟨rfl, rfl⟩, trivial⟩
      · clear h
        rintro _ h T1 H1 hw
        replace h : m_clocks_Check_J10 k_1 () = some r_2 := h
        conv => whnf
        refine Tr.weak hw ?_
        unfold m_clocks_Check_J10 at h
        refine Tr.seq ?_
        refine Tr.seq ?_
        refine Tr.region layOK ?_
        conv => whnf
        refine lnS_map ?_
        conv => whnf
        refine Tr.cutQ (α := Unit) (fun s => ([(1, .pt 0 0), (2, .d (.i .i64 0)), (3, .d (.i .i64 (((k_1.Segments).length : Int))))], [some (.var [.d (.ls (List.map eTSegment k_1.Segments)), .d (.ls (List.map (eL eI) k_1.Far))])])) (fun s => m_clocks_Check_J9 k_1 s = some r_2) ?_ ?_
        · refine Tr.block ?_
          refine Tr.loopM (σ := Int) (fun n s => m_clocks_Check_L2 k_1 (m_clocks_Check_J9 k_1) n s) r_2 (fun s => ([(1, .pt 0 0), (2, .d (.i .i64 0)), (3, .d (.i .i64 (((k_1.Segments).length : Int)))), (75, .d (.ls (List.map (eL eI) k_1.Far))), (76, .d (.i .i64 (((k_1.Far).length : Int)))), (77, .d (.i .i64 s))], [some (.var [.d (.ls (List.map eTSegment k_1.Segments)), .d (.ls (List.map (eL eI) k_1.Far))])])) (((((k_1.Far).length : Int)) - 0 : Int).toNat + 1) (0) h (fun s => rfl) (Wk.mk2 [0] 1 rfl rfl (by decide) rfl ⟨⟨rfl, rfl⟩, trivial⟩ ⟨⟨rfl, rfl⟩, ⟨rfl, rfl⟩, ⟨rfl, rfl⟩, ⟨rfl, rfl⟩, ⟨rfl, rfl⟩, ⟨rfl, rfl⟩, trivial⟩) ?_
          clear h
          rintro n_28 v_27 h
          replace h : m_clocks_Check_L2 k_1 (m_clocks_Check_J9 k_1) (n_28 + 1) v_27 = some r_2 := h
          rw [m_clocks_Check_L2] at h
          refine Tr.seq ?_
          refine Tr.region layOK ?_
          conv => whnf
          refine Tr.seq ?_
          refine Tr.cond ?_
          conv => whnf
          refine condS_bif h (fun hb31 h => ?_) (fun hb31 h => ?_)
          · refine Tr.skip ?_
            conv => whnf
            refine Tr.seq ?_
            refine Tr.block ?_
            refine Tr.seq ?_
            refine Tr.region layOK ?_
            conv => whnf
            obtain ⟨x_32, hx_32, h⟩ := bind_some h
            refine ixP_of hx_32 ?_
            conv => whnf
            refine Tr.seq ?_
            refine Tr.region layOK ?_
            conv => whnf
            refine lnS_map ?_
            conv => whnf
            refine arS_raw ?_
            conv => whnf
            refine condS_bif h (fun hb33 h => ?_) (fun hb33 h => ?_)
            · conv => whnf
              refine Tr.cond ?_
              conv => whnf
              refine Tr.seq ?_
              refine Tr.region layOK ?_
              conv => whnf
              refine Tr.ret ?_
              conv => whnf
              cases h
              rfl
            · conv => whnf
              obtain ⟨x_34, hx_34, h⟩ := bind_some h
              refine ixP_of hx_34 ?_
              conv => whnf
              refine condS_bif h (fun hb35 h => ?_) (fun hb35 h => ?_)
              · conv => whnf
                refine Tr.cond ?_
                conv => whnf
                refine Tr.seq ?_
                refine Tr.region layOK ?_
                conv => whnf
                refine Tr.ret ?_
                conv => whnf
                cases h
                rfl
              · conv => whnf
                obtain ⟨r_36, hc37, h⟩ := bind_some h
                refine PC.ecall (s_slices_ContainsFunc_int_int_with_clocks_Check_1 x_32 r_36 hc37) (fun rs hrs => ?_)
                subst hrs
                conv => whnf
                refine Tr.cond ?_
                conv => whnf
                refine condS_bif h (fun hb38 h => ?_) (fun hb38 h => ?_)
                · refine Tr.seq ?_
                  refine Tr.region layOK ?_
                  conv => whnf
                  refine Tr.ret ?_
                  conv => whnf
                  cases h
                  rfl
                · refine Tr.skip ?_
                  conv => whnf
                  refine Tr.region layOK ?_
                  conv => whnf
                  refine arS_raw ?_
                  conv => whnf
                  refine ⟨((w64 (v_27 + 1))), h, ?_⟩
                  exact Wk.mk2 [0] 1 rfl rfl (by decide) rfl ⟨⟨rfl, rfl⟩, trivial⟩ ⟨⟨rfl, rfl⟩, ⟨rfl, rfl⟩, ⟨rfl, rfl⟩, ⟨rfl, rfl⟩, ⟨rfl, rfl⟩, ⟨rfl, rfl⟩, trivial⟩
          · refine Tr.exit ?_
            conv => whnf
            refine ⟨(), h, ?_⟩
            exact Wk.mk2 [0] 1 rfl rfl (by decide) rfl ⟨⟨rfl, rfl⟩, trivial⟩ ⟨⟨rfl, rfl⟩, ⟨rfl, rfl⟩, ⟨rfl, rfl⟩, trivial⟩
        · clear h
          rintro _ h T1 H1 hw
          replace h : m_clocks_Check_J9 k_1 () = some r_2 := h
          conv => whnf
          refine Tr.weak hw ?_
          unfold m_clocks_Check_J9 at h
          refine Tr.seq ?_
          refine Tr.seq ?_
          refine Tr.region layOK ?_
          conv => whnf
          refine arS_raw ?_
          conv => whnf
          refine Tr.cutQ (α := Unit) (fun s => ([(2, .d (.i .i64 0))], [])) (fun s => m_clocks_Check_J8 s = some r_2) ?_ ?_
          · refine Tr.block ?_
            refine Tr.loopM (σ := Int) (fun n s => m_clocks_Check_L3 k_1 m_clocks_Check_J8 n s) r_2 (fun s => ([(1, .pt 0 0), (2, .d (.i .i64 0)), (100, .d (.i .i64 (w64 ((((k_1.Segments).length : Int)) + 1)))), (101, .d (.i .i64 s))], [some (.var [.d (.ls (List.map eTSegment k_1.Segments)), .d (.ls (List.map (eL eI) k_1.Far))])])) (((w64 ((((k_1.Segments).length : Int)) + 1)) - 0 : Int).toNat + 1) (0) h (fun s => rfl) (Wk.mk2 [0] 1 rfl rfl (by decide) rfl ⟨⟨rfl, rfl⟩, trivial⟩ ⟨⟨rfl, rfl⟩, ⟨rfl, rfl⟩, ⟨rfl, rfl⟩, ⟨rfl, rfl⟩, trivial⟩) ?_
            clear h
            rintro n_41 v_40 h
            replace h : m_clocks_Check_L3 k_1 m_clocks_Check_J8 (n_41 + 1) v_40 = some r_2 := h
            rw [m_clocks_Check_L3] at h
            refine Tr.seq ?_
            refine Tr.region layOK ?_
            conv => whnf
            refine Tr.seq ?_
            refine Tr.cond ?_
            conv => whnf
            refine condS_bif h (fun hb44 h => ?_) (fun hb44 h => ?_)
            · refine Tr.skip ?_
              conv => whnf
              refine Tr.seq ?_
              refine Tr.block ?_
              refine Tr.seq ?_
              refine Tr.region layOK ?_
              conv => whnf
              refine Tr.seq ?_
              refine Tr.region layOK ?_
              conv => whnf
              obtain ⟨x_45, hx_45, h⟩ := bind_some h
              refine ixP_of hx_45 ?_
              conv => whnf
              refine lnS_map ?_
              conv => whnf
              refine Tr.cutQ (α := Unit) (fun s => ([(1, .pt 0 0), (2, .d (.i .i64 0)), (100, .d (.i .i64 (w64 ((((k_1.Segments).length : Int)) + 1)))), (101, .d (.i .i64 v_40))], [some (.var [.d (.ls (List.map eTSegment k_1.Segments)), .d (.ls (List.map (eL eI) k_1.Far))])])) (fun s => m_clocks_Check_J7 v_40 (m_clocks_Check_L3 k_1 m_clocks_Check_J8 n_41) s = some r_2) ?_ ?_
              · refine Tr.block ?_
                refine Tr.loopM (σ := Int) (fun n s => m_clocks_Check_L4 k_1 v_40 x_45 (m_clocks_Check_J7 v_40 (m_clocks_Check_L3 k_1 m_clocks_Check_J8 n_41)) n s) r_2 (fun s => ([(1, .pt 0 0), (2, .d (.i .i64 0)), (8, .d (.i .i64 v_40)), (100, .d (.i .i64 (w64 ((((k_1.Segments).length : Int)) + 1)))), (101, .d (.i .i64 v_40)), (108, .d (.ls (List.map eI x_45))), (109, .d (.i .i64 (((x_45).length : Int)))), (110, .d (.i .i64 s))], [some (.var [.d (.ls (List.map eTSegment k_1.Segments)), .d (.ls (List.map (eL eI) k_1.Far))])])) (((((x_45).length : Int)) - 0 : Int).toNat + 1) (0) h (fun s => rfl) (Wk.mk2 [0] 1 rfl rfl (by decide) rfl ⟨⟨rfl, rfl⟩, trivial⟩ ⟨⟨rfl, rfl⟩, ⟨rfl, rfl⟩, ⟨rfl, rfl⟩, ⟨rfl, rfl⟩, ⟨rfl, rfl⟩, ⟨rfl, rfl⟩, ⟨rfl, rfl⟩, ⟨rfl, rfl⟩, trivial⟩) ?_
                clear h
                rintro n_48 v_47 h
                replace h : m_clocks_Check_L4 k_1 v_40 x_45 (m_clocks_Check_J7 v_40 (m_clocks_Check_L3 k_1 m_clocks_Check_J8 n_41)) (n_48 + 1) v_47 = some r_2 := h
                rw [m_clocks_Check_L4] at h
                refine Tr.seq ?_
                refine Tr.region layOK ?_
                conv => whnf
                refine Tr.seq ?_
                refine Tr.cond ?_
                conv => whnf
                refine condS_bif h (fun hb51 h => ?_) (fun hb51 h => ?_)
                · refine Tr.skip ?_
                  conv => whnf
                  refine Tr.seq ?_
                  refine Tr.block ?_
                  refine Tr.seq ?_
                  refine Tr.region layOK ?_
                  conv => whnf
                  obtain ⟨x_52, hx_52, h⟩ := bind_some h
                  refine ixP_of hx_52 ?_
                  conv => whnf
                  refine Tr.seq ?_
                  refine Tr.region layOK ?_
                  conv => whnf
                  obtain ⟨x_53, hx_53, h⟩ := bind_some h
                  refine ixP_of hx_53 ?_
                  conv => whnf
                  refine lnS_map ?_
                  conv => whnf
                  refine Tr.cutQ (α := Unit) (fun s => ([(1, .pt 0 0), (2, .d (.i .i64 0)), (8, .d (.i .i64 v_40)), (100, .d (.i .i64 (w64 ((((k_1.Segments).length : Int)) + 1)))), (101, .d (.i .i64 v_40)), (108, .d (.ls (List.map eI x_45))), (109, .d (.i .i64 (((x_45).length : Int)))), (110, .d (.i .i64 v_47))], [some (.var [.d (.ls (List.map eTSegment k_1.Segments)), .d (.ls (List.map (eL eI) k_1.Far))])])) (fun s => m_clocks_Check_J6 v_47 (m_clocks_Check_L4 k_1 v_40 x_45 (m_clocks_Check_J7 v_40 (m_clocks_Check_L3 k_1 m_clocks_Check_J8 n_41)) n_48) s = some r_2) ?_ ?_
                  · refine Tr.block ?_
                    refine Tr.loopM (σ := Int) (fun n s => m_clocks_Check_L5 k_1 v_40 x_52 x_53 (m_clocks_Check_J6 v_47 (m_clocks_Check_L4 k_1 v_40 x_45 (m_clocks_Check_J7 v_40 (m_clocks_Check_L3 k_1 m_clocks_Check_J8 n_41)) n_48)) n s) r_2 (fun s => ([(1, .pt 0 0), (2, .d (.i .i64 0)), (8, .d (.i .i64 v_40)), (10, .d (.i .i64 x_52)), (100, .d (.i .i64 (w64 ((((k_1.Segments).length : Int)) + 1)))), (101, .d (.i .i64 v_40)), (108, .d (.ls (List.map eI x_45))), (109, .d (.i .i64 (((x_45).length : Int)))), (110, .d (.i .i64 v_47)), (119, .d (.ls (List.map eI x_53))), (120, .d (.i .i64 (((x_53).length : Int)))), (121, .d (.i .i64 s))], [some (.var [.d (.ls (List.map eTSegment k_1.Segments)), .d (.ls (List.map (eL eI) k_1.Far))])])) (((((x_53).length : Int)) - 0 : Int).toNat + 1) (0) h (fun s => rfl) (Wk.mk2 [0] 1 rfl rfl (by decide) rfl ⟨⟨rfl, rfl⟩, trivial⟩ ⟨⟨rfl, rfl⟩, ⟨rfl, rfl⟩, ⟨rfl, rfl⟩, ⟨rfl, rfl⟩, ⟨rfl, rfl⟩, ⟨rfl, rfl⟩, ⟨rfl, rfl⟩, ⟨rfl, rfl⟩, ⟨rfl, rfl⟩, ⟨rfl, rfl⟩, ⟨rfl, rfl⟩, ⟨rfl, rfl⟩, trivial⟩) ?_
                    clear h
                    rintro n_56 v_55 h
                    replace h : m_clocks_Check_L5 k_1 v_40 x_52 x_53 (m_clocks_Check_J6 v_47 (m_clocks_Check_L4 k_1 v_40 x_45 (m_clocks_Check_J7 v_40 (m_clocks_Check_L3 k_1 m_clocks_Check_J8 n_41)) n_48)) (n_56 + 1) v_55 = some r_2 := h
                    rw [m_clocks_Check_L5] at h
                    refine Tr.seq ?_
                    refine Tr.region layOK ?_
                    conv => whnf
                    refine Tr.seq ?_
                    refine Tr.cond ?_
                    conv => whnf
                    refine condS_bif h (fun hb59 h => ?_) (fun hb59 h => ?_)
                    · refine Tr.skip ?_
                      conv => whnf
                      refine Tr.seq ?_
                      refine Tr.block ?_
                      refine Tr.seq ?_
                      refine Tr.region layOK ?_
                      conv => whnf
                      obtain ⟨x_60, hx_60, h⟩ := bind_some h
                      refine ixP_of hx_60 ?_
                      conv => whnf
                      refine Tr.seq ?_
                      refine Tr.region layOK ?_
                      conv => whnf
                      obtain ⟨x_61, hx_61, h⟩ := bind_some h
                      refine ixP_of hx_61 ?_
                      conv => whnf
                      obtain ⟨x_62, hx_62, h⟩ := bind_some h
                      refine ixP_of hx_62 ?_
                      conv => whnf
                      refine arS_raw ?_
                      conv => whnf
                      refine Tr.cond ?_
                      conv => whnf
                      refine condS_bif h (fun hb63 h => ?_) (fun hb63 h => ?_)
                      · refine Tr.seq ?_
                        refine Tr.region layOK ?_
                        conv => whnf
                        refine Tr.ret ?_
                        conv => whnf
                        cases h
                        rfl
                      · refine Tr.skip ?_
                        conv => whnf
                        refine Tr.region layOK ?_
                        conv => whnf
                        refine arS_raw ?_
                        conv => whnf
                        refine ⟨((w64 (v_55 + 1))), h, ?_⟩
                        exact Wk.mk2 [0] 1 rfl rfl (by decide) rfl ⟨⟨rfl, rfl⟩, trivial⟩ ⟨⟨rfl, rfl⟩, ⟨rfl, rfl⟩, ⟨rfl, rfl⟩, ⟨rfl, rfl⟩, ⟨rfl, rfl⟩, ⟨rfl, rfl⟩, ⟨rfl, rfl⟩, ⟨rfl, rfl⟩, ⟨rfl, rfl⟩, ⟨rfl, rfl⟩, ⟨rfl, rfl⟩, ⟨rfl, rfl⟩, trivial⟩
                    · refine Tr.exit ?_
                      conv => whnf
                      refine ⟨(), h, ?_⟩
                      exact Wk.mk2 [0] 1 rfl rfl (by decide) rfl ⟨⟨rfl, rfl⟩, trivial⟩ ⟨⟨rfl, rfl⟩, ⟨rfl, rfl⟩, ⟨rfl, rfl⟩, ⟨rfl, rfl⟩, ⟨rfl, rfl⟩, ⟨rfl, rfl⟩, ⟨rfl, rfl⟩, ⟨rfl, rfl⟩, trivial⟩
                  · clear h
                    rintro _ h T1 H1 hw
                    replace h : m_clocks_Check_J6 v_47 (m_clocks_Check_L4 k_1 v_40 x_45 (m_clocks_Check_J7 v_40 (m_clocks_Check_L3 k_1 m_clocks_Check_J8 n_41)) n_48) () = some r_2 := h
                    conv => whnf
                    refine Tr.weak hw ?_
                    unfold m_clocks_Check_J6 at h
                    refine Tr.region layOK ?_
                    conv => whnf
                    refine arS_raw ?_
                    conv => whnf
                    refine ⟨((w64 (v_47 + 1))), h, ?_⟩
                    exact Wk.mk2 [0] 1 rfl rfl (by decide) rfl ⟨⟨rfl, rfl⟩, trivial⟩ ⟨⟨rfl, rfl⟩, ⟨rfl, rfl⟩, ⟨rfl, rfl⟩, ⟨rfl, rfl⟩, ⟨rfl, rfl⟩, ⟨rfl, rfl⟩, ⟨rfl, rfl⟩, ⟨rfl, rfl⟩, trivial⟩
                · refine Tr.exit ?_
                  conv => whnf
                  refine ⟨(), h, ?_⟩
                  exact Wk.mk2 [0] 1 rfl rfl (by decide) rfl ⟨⟨rfl, rfl⟩, trivial⟩ ⟨⟨rfl, rfl⟩, ⟨rfl, rfl⟩, ⟨rfl, rfl⟩, ⟨rfl, rfl⟩, trivial⟩
              · clear h
                rintro _ h T1 H1 hw
                replace h : m_clocks_Check_J7 v_40 (m_clocks_Check_L3 k_1 m_clocks_Check_J8 n_41) () = some r_2 := h
                conv => whnf
                refine Tr.weak hw ?_
                unfold m_clocks_Check_J7 at h
                refine Tr.region layOK ?_
                conv => whnf
                refine arS_raw ?_
                conv => whnf
                refine ⟨((w64 (v_40 + 1))), h, ?_⟩
                exact Wk.mk2 [0] 1 rfl rfl (by decide) rfl ⟨⟨rfl, rfl⟩, trivial⟩ ⟨⟨rfl, rfl⟩, ⟨rfl, rfl⟩, ⟨rfl, rfl⟩, ⟨rfl, rfl⟩, trivial⟩
            · refine Tr.exit ?_
              conv => whnf
              refine ⟨(), h, ?_⟩
              exact Wk.mk2 [] 1 rfl rfl (by decide) rfl trivial ⟨⟨rfl, rfl⟩, trivial⟩
          · clear h
            rintro _ h T1 H1 hw
            replace h : m_clocks_Check_J8 () = some r_2 := h
            conv => whnf
            refine Tr.weak hw ?_
            unfold m_clocks_Check_J8 at h
            refine Tr.seq ?_
            refine Tr.region layOK ?_
            conv => whnf
            refine Tr.ret ?_
            conv => whnf
            cases h
            rfl
end Go.Proofs.Try
