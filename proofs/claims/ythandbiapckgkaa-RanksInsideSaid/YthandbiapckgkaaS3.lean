/- Contracts of functions, by program (gen.py). No condition. -/
import Derived.Test.YthandbiapckgkaaL
import Derived.Test.YthandbiapckgkaaM
import Derived.Test.YthandbiapckgkaaS2
namespace Go.Proofs.Try
open Go Go.Abs Go.Stop
set_option maxRecDepth 8000
set_option linter.unusedVariables false
set_option linter.unusedSimpArgs false

theorem it_ranks_worlds_1 (c_1 : List TSegment) (c_2 : List (List Int)) (c_3 : List TPair) (c_4 : List TRunner) (ys : List Int) (h : m_ranks_worlds_1 c_1 c_2 c_3 c_4 = some ys) :
    ItC prog 52 [(.ro [(.ls (List.map eTSegment c_1)), (.ls (List.map (eL eI) c_2)), (.ls (List.map eTPair c_3)), (.ls (List.map eTRunner c_4))])] (List.map (fun a => [(.i .i64 a)]) ys) := by
  refine ItC.of_tr (cx := ⟨25, none, lay, 0⟩) func52 rfl rfl rfl (by simp [f52]) rfl (fun l hx => ?_)
  unfold m_ranks_worlds_1 at h
  refine TrY.seq ?_
  refine TrY.region layOK ?_
  conv => whnf
  refine lnS_map ?_
  conv => whnf
  refine arS_raw ?_
  conv => whnf
  refine TrY.block ?_
  refine TrY.loopM (σ := Int) (fun n s => m_ranks_worlds_1_L1 c_3 c_4 m_ranks_worlds_1_J2 n s) _ (fun s => ([(0, .yl l), (1, .d (.ro [(.ls (List.map eTSegment c_1)), (.ls (List.map (eL eI) c_2)), (.ls (List.map eTPair c_3)), (.ls (List.map eTRunner c_4))])), (8, .d (.i .i64 (w64 ((((c_3).length : Int)) + 1)))), (9, .d (.i .i64 s))], [])) (((w64 ((((c_3).length : Int)) + 1)) - 0 : Int).toNat + 1) (0) h (fun s => rfl) hx (Wk.mk2 [] 0 rfl rfl (by decide) rfl trivial ⟨⟨rfl, rfl⟩, ⟨rfl, rfl⟩, ⟨rfl, rfl⟩, ⟨rfl, rfl⟩, trivial⟩) ?_
  clear h hx
  rintro n_7 v_6 i_15 ys_16 h hx
  replace h : m_ranks_worlds_1_L1 c_3 c_4 m_ranks_worlds_1_J2 (n_7 + 1) v_6 = some ys_16 := h
  rw [m_ranks_worlds_1_L1] at h
  refine TrY.seq ?_
  refine TrY.region layOK ?_
  conv => whnf
  refine TrY.seq ?_
  refine TrY.cond ?_
  conv => whnf
  refine condS_bif h (fun hb10 h => ?_) (fun hb10 h => ?_)
  · refine TrY.skip ?_
    conv => whnf
    refine TrY.seq ?_
    refine TrY.block ?_
    refine TrY.seq ?_
    refine TrY.region layOK ?_
    conv => whnf
    refine TrY.seq ?_
    refine TrY.region layOK ?_
    conv => whnf
    refine TrY.seq ?_
    refine TrY.region layOK ?_
    conv => whnf
    obtain ⟨r_11, hc12, h⟩ := bind_some h
    refine PC.ecall_lend ?_ ⟨_, _, func54, rfl, rfl⟩
    conv => whnf
    refine ⟨_, s_slices_ContainsFunc_Runner_Runner_with_ranks_worlds_1_1 c_4 v_6 r_11 hc12, fun rs hrs => ?_⟩
    subst hrs
    refine ⟨rfl, ?_⟩
    conv => whnf
    refine condS_bif h (fun hb13 h => ?_) (fun hb13 h => ?_)
    · conv => whnf
      obtain ⟨l_14, h_14, e_14⟩ := bind_some h
      clear h
      cases e_14
      have h := h_14
      clear h_14
      refine ylS_of hx rfl (fun hx => ?_)
      conv => whnf
      refine ⟨rfl, ?_⟩
      conv => whnf
      refine TrY.cond ?_
      conv => whnf
      refine TrY.skip ?_
      conv => whnf
      refine TrY.region layOK ?_
      conv => whnf
      refine arS_raw ?_
      conv => whnf
      refine ⟨((w64 (v_6 + 1))), _, h, hx, ?_⟩
      exact Wk.mk2 [] 0 rfl rfl (by decide) rfl trivial ⟨⟨rfl, rfl⟩, ⟨rfl, rfl⟩, ⟨rfl, rfl⟩, ⟨rfl, rfl⟩, trivial⟩
    · conv => whnf
      refine TrY.cond ?_
      conv => whnf
      refine TrY.skip ?_
      conv => whnf
      refine TrY.region layOK ?_
      conv => whnf
      refine arS_raw ?_
      conv => whnf
      refine ⟨((w64 (v_6 + 1))), _, h, hx, ?_⟩
      exact Wk.mk2 [] 1 rfl rfl (by decide) rfl trivial ⟨⟨rfl, rfl⟩, ⟨rfl, rfl⟩, ⟨rfl, rfl⟩, ⟨rfl, rfl⟩, trivial⟩
  · refine TrY.exit ?_
    conv => whnf
    unfold m_ranks_worlds_1_J2 at h
    cases h
    exact Rem.done hx

theorem s_ranks_of_1 (x_1 : TOutcome) (r_2 : Bool) (h : m_ranks_of_1 x_1 = some r_2) :
    PC prog 67 [(eTOutcome x_1)] (fun rs => rs = [(.b r_2)]) := by
  refine PC.of_tr (cx := ⟨5, none, lay, 0⟩) layOK func67 rfl rfl rfl rfl rfl (by simp [f67]) ?_
  unfold m_ranks_of_1 at h
  refine Tr.seq ?_
  refine Tr.region layOK ?_
  conv => whnf
  refine Tr.seq ?_
  refine Tr.region layOK ?_
  conv => whnf
  refine Tr.ret ?_
  conv => whnf
  cases h
  rfl

theorem s_slices_IndexFunc_Outcome_Outcome_with_ranks_of_1 (s_1 : List TOutcome) (r_2 : Int) (h : m_slices_IndexFunc_Outcome_Outcome_with_ranks_of_1 s_1 = some r_2) :
    PC prog 80 [(.ls (List.map eTOutcome s_1)), (.fn 67 [])] (fun rs => rs = [(.i .i64 r_2)]) := by
  refine PC.of_tr (cx := ⟨19, none, lay, 0⟩) layOK func80 rfl rfl rfl rfl rfl (by simp [f80]) ?_
  unfold m_slices_IndexFunc_Outcome_Outcome_with_ranks_of_1 at h
  refine Tr.seq ?_
  refine Tr.region layOK ?_
  conv => whnf
  refine Tr.seq ?_
  refine Tr.seq ?_
  refine Tr.region layOK ?_
  conv => whnf
  refine lnS_map ?_
  conv => whnf
  refine Tr.cutQ (α := Unit) (fun s => ([(4, .d (.i .i64 0))], [])) (fun s => m_slices_IndexFunc_Outcome_Outcome_with_ranks_of_1_J2 s = some r_2) ?_ ?_
  · refine Tr.block ?_
    refine Tr.loopM (σ := Int) (fun n s => m_slices_IndexFunc_Outcome_Outcome_with_ranks_of_1_L1 s_1 m_slices_IndexFunc_Outcome_Outcome_with_ranks_of_1_J2 n s) r_2 (fun s => ([(0, .d (.ls (List.map eTOutcome s_1))), (1, .d (.fn 67 [])), (4, .d (.i .i64 0)), (7, .d (.i .i64 (((s_1).length : Int)))), (8, .d (.i .i64 s))], [])) (((((s_1).length : Int)) - 0 : Int).toNat + 1) (0) h (fun s => rfl) (Wk.mk2 [] 0 rfl rfl (by decide) rfl trivial ⟨⟨rfl, rfl⟩, ⟨rfl, rfl⟩, ⟨rfl, rfl⟩, ⟨rfl, rfl⟩, ⟨rfl, rfl⟩, trivial⟩) ?_
    clear h
    rintro n_5 v_4 h
    replace h : m_slices_IndexFunc_Outcome_Outcome_with_ranks_of_1_L1 s_1 m_slices_IndexFunc_Outcome_Outcome_with_ranks_of_1_J2 (n_5 + 1) v_4 = some r_2 := h
    rw [m_slices_IndexFunc_Outcome_Outcome_with_ranks_of_1_L1] at h
    refine Tr.seq ?_
    refine Tr.region layOK ?_
    conv => whnf
    refine Tr.seq ?_
    refine Tr.cond ?_
    conv => whnf
    refine condS_bif h (fun hb8 h => ?_) (fun hb8 h => ?_)
    · refine Tr.skip ?_
      conv => whnf
      refine Tr.seq ?_
      refine Tr.block ?_
      refine Tr.seq ?_
      refine Tr.region layOK ?_
      conv => whnf
      refine Tr.seq ?_
      refine Tr.region layOK ?_
      conv => whnf
      obtain ⟨x_9, hx_9, h⟩ := bind_some h
      refine ixP_of hx_9 ?_
      conv => whnf
      obtain ⟨r_10, hc11, h⟩ := bind_some h
      refine PC.ecall (s_ranks_of_1 x_9 r_10 hc11) (fun rs hrs => ?_)
      subst hrs
      conv => whnf
      refine Tr.cond ?_
      conv => whnf
      refine condS_bif h (fun hb12 h => ?_) (fun hb12 h => ?_)
      · refine Tr.seq ?_
        refine Tr.region layOK ?_
        conv => whnf
        refine Tr.ret ?_
        conv => whnf
        cases h
        rfl
      · refine Tr.skip ?_
        conv => whnf
        refine Tr.region layOK ?_
        conv => whnf
        refine arS_raw ?_
        conv => whnf
        refine ⟨((w64 (v_4 + 1))), h, ?_⟩
        exact Wk.mk2 [] 0 rfl rfl (by decide) rfl trivial ⟨⟨rfl, rfl⟩, ⟨rfl, rfl⟩, ⟨rfl, rfl⟩, ⟨rfl, rfl⟩, ⟨rfl, rfl⟩, trivial⟩
    · refine Tr.exit ?_
      conv => whnf
      refine ⟨(), h, ?_⟩
      exact Wk.mk2 [] 0 rfl rfl (by decide) rfl trivial ⟨⟨rfl, rfl⟩, trivial⟩
  · clear h
    rintro _ h T1 H1 hw
    replace h : m_slices_IndexFunc_Outcome_Outcome_with_ranks_of_1_J2 () = some r_2 := h
    conv => whnf
    refine Tr.weak hw ?_
    unfold m_slices_IndexFunc_Outcome_Outcome_with_ranks_of_1_J2 at h
    refine Tr.seq ?_
    refine Tr.region layOK ?_
    conv => whnf
    refine Tr.ret ?_
    conv => whnf
    cases h
    rfl

theorem s_slices_ContainsFunc_Outcome_Outcome_with_ranks_of_1 (s_1 : List TOutcome) (r_2 : Bool) (h : m_slices_ContainsFunc_Outcome_Outcome_with_ranks_of_1 s_1 = some r_2) :
    PC prog 66 [(.ls (List.map eTOutcome s_1)), (.fn 67 [])] (fun rs => rs = [(.b r_2)]) := by
  refine PC.of_tr (cx := ⟨9, none, lay, 0⟩) layOK func66 rfl rfl rfl rfl rfl (by simp [f66]) ?_
  unfold m_slices_ContainsFunc_Outcome_Outcome_with_ranks_of_1 at h
  refine Tr.seq ?_
  refine Tr.region layOK ?_
  conv => whnf
  refine Tr.seq ?_
  refine Tr.region layOK ?_
  conv => whnf
  obtain ⟨r_3, hc4, h⟩ := bind_some h
  refine PC.ecall (s_slices_IndexFunc_Outcome_Outcome_with_ranks_of_1 s_1 r_3 hc4) (fun rs hrs => ?_)
  subst hrs
  conv => whnf
  refine Tr.ret ?_
  conv => whnf
  cases h
  rfl

theorem s_ranks_best (h : m_ranks_best = some ()) :
    PC prog 35 [] (fun rs => rs = [(.ag [(.fn 55 []), (.fn 56 []), (.fn 57 []), (.fn 58 [])])]) := by
  refine PC.of_tr (cx := ⟨2, none, lay, 0⟩) layOK func35 rfl rfl rfl rfl rfl (by simp [f35]) ?_
  unfold m_ranks_best at h
  refine Tr.seq ?_
  refine Tr.region layOK ?_
  conv => whnf
  refine Tr.seq ?_
  refine Tr.region layOK ?_
  conv => whnf
  refine Tr.ret ?_
  conv => whnf

theorem s_ranks_best_2 (n_1 : Int) (m_2 : Int) (r_3 : Bool) (h : m_ranks_best_2 n_1 m_2 = some r_3) :
    PC prog 58 [(.i .i64 n_1), (.i .i64 m_2)] (fun rs => rs = [(.b r_3)]) := by
  refine PC.of_tr (cx := ⟨8, none, lay, 0⟩) layOK func58 rfl rfl rfl rfl rfl (by simp [f58]) ?_
  unfold m_ranks_best_2 at h
  refine Tr.seq ?_
  refine Tr.region layOK ?_
  conv => whnf
  refine Tr.seq ?_
  refine Tr.region layOK ?_
  conv => whnf
  refine Tr.ret ?_
  conv => whnf
  cases h
  rfl

theorem s_ranks_hi (x_1 : TOutcome) (r_2 : Int) (h : m_ranks_hi x_1 = some r_2) :
    PC prog 56 [(eTOutcome x_1)] (fun rs => rs = [(.i .i64 r_2)]) := by
  refine PC.of_tr (cx := ⟨5, none, lay, 0⟩) layOK func56 rfl rfl rfl rfl rfl (by simp [f56]) ?_
  unfold m_ranks_hi at h
  refine Tr.seq ?_
  refine Tr.region layOK ?_
  conv => whnf
  refine Tr.seq ?_
  refine Tr.region layOK ?_
  conv => whnf
  refine Tr.ret ?_
  conv => whnf
  cases h
  rfl

theorem s_ranks_best_1 (far_1 : List (List Int)) (a_2 : Int) (b_3 : Int) (r_4 : Int) (h : m_ranks_best_1 far_1 a_2 b_3 = some r_4) :
    PC prog 57 [(.ls (List.map (eL eI) far_1)), (.i .i64 a_2), (.i .i64 b_3)] (fun rs => rs = [(.i .i64 r_4)]) := by
  refine PC.of_tr (cx := ⟨14, none, lay, 0⟩) layOK func57 rfl rfl rfl rfl rfl (by simp [f57]) ?_
  unfold m_ranks_best_1 at h
  refine Tr.seq ?_
  refine Tr.region layOK ?_
  conv => whnf
  refine Tr.seq ?_
  refine Tr.region layOK ?_
  conv => whnf
  obtain ⟨x_5, hx_5, h⟩ := bind_some h
  refine ixP_of hx_5 ?_
  conv => whnf
  obtain ⟨x_6, hx_6, h⟩ := bind_some h
  refine ixP_of hx_6 ?_
  conv => whnf
  refine Tr.ret ?_
  conv => whnf
  cases h
  rfl

theorem s_ranks_lo (x_1 : TOutcome) (r_2 : Int) (h : m_ranks_lo x_1 = some r_2) :
    PC prog 55 [(eTOutcome x_1)] (fun rs => rs = [(.i .i64 r_2)]) := by
  refine PC.of_tr (cx := ⟨5, none, lay, 0⟩) layOK func55 rfl rfl rfl rfl rfl (by simp [f55]) ?_
  unfold m_ranks_lo at h
  refine Tr.seq ?_
  refine Tr.region layOK ?_
  conv => whnf
  refine Tr.seq ?_
  refine Tr.region layOK ?_
  conv => whnf
  refine Tr.ret ?_
  conv => whnf
  cases h
  rfl

theorem s_slices_Compare_int_int (s_1 : List Int) (s_2 : List Int) (r_3 : Int) (h : m_slices_Compare_int_int s_1 s_2 = some r_3) :
    PC prog 59 [(.ls (List.map eI s_1)), (.ls (List.map eI s_2))] (fun rs => rs = [(.i .i64 r_3)]) := by
  refine PC.of_tr (cx := ⟨36, none, lay, 0⟩) layOK func59 rfl rfl rfl rfl rfl (by simp [f59]) ?_
  unfold m_slices_Compare_int_int at h
  refine Tr.seq ?_
  refine Tr.region layOK ?_
  conv => whnf
  refine Tr.seq ?_
  refine Tr.seq ?_
  refine Tr.region layOK ?_
  conv => whnf
  refine lnS_map ?_
  conv => whnf
  refine Tr.cutQ (α := Unit) (fun s => ([(0, .d (.ls (List.map eI s_1))), (1, .d (.ls (List.map eI s_2))), (4, .d (.i .i64 0))], [])) (fun s => m_slices_Compare_int_int_J2 s_1 s_2 s = some r_3) ?_ ?_
  · refine Tr.block ?_
    refine Tr.loopM (σ := Int) (fun n s => m_slices_Compare_int_int_L1 s_1 s_2 (m_slices_Compare_int_int_J2 s_1 s_2) n s) r_3 (fun s => ([(0, .d (.ls (List.map eI s_1))), (1, .d (.ls (List.map eI s_2))), (4, .d (.i .i64 0)), (9, .d (.ls (List.map eI s_1))), (10, .d (.i .i64 (((s_1).length : Int)))), (11, .d (.i .i64 s))], [])) (((((s_1).length : Int)) - 0 : Int).toNat + 1) (0) h (fun s => rfl) (Wk.mk2 [] 0 rfl rfl (by decide) rfl trivial ⟨⟨rfl, rfl⟩, ⟨rfl, rfl⟩, ⟨rfl, rfl⟩, ⟨rfl, rfl⟩, ⟨rfl, rfl⟩, ⟨rfl, rfl⟩, trivial⟩) ?_
    clear h
    rintro n_6 v_5 h
    replace h : m_slices_Compare_int_int_L1 s_1 s_2 (m_slices_Compare_int_int_J2 s_1 s_2) (n_6 + 1) v_5 = some r_3 := h
    rw [m_slices_Compare_int_int_L1] at h
    refine Tr.seq ?_
    refine Tr.region layOK ?_
    conv => whnf
    refine Tr.seq ?_
    refine Tr.cond ?_
    conv => whnf
    refine condS_bif h (fun hb9 h => ?_) (fun hb9 h => ?_)
    · refine Tr.skip ?_
      conv => whnf
      refine Tr.seq ?_
      refine Tr.block ?_
      refine Tr.seq ?_
      refine Tr.region layOK ?_
      conv => whnf
      obtain ⟨x_10, hx_10, h⟩ := bind_some h
      refine ixP_of hx_10 ?_
      conv => whnf
      refine Tr.seq ?_
      refine Tr.seq ?_
      refine Tr.region layOK ?_
      conv => whnf
      refine lnS_map ?_
      conv => whnf
      refine Tr.cond ?_
      conv => whnf
      refine condS_bif h (fun hb11 h => ?_) (fun hb11 h => ?_)
      · refine Tr.seq ?_
        refine Tr.region layOK ?_
        conv => whnf
        refine Tr.ret ?_
        conv => whnf
        cases h
        rfl
      · refine Tr.skip ?_
        conv => whnf
        refine Tr.seq ?_
        refine Tr.region layOK ?_
        conv => whnf
        obtain ⟨x_12, hx_12, h⟩ := bind_some h
        refine ixP_of hx_12 ?_
        conv => whnf
        refine Tr.seq ?_
        refine Tr.region layOK ?_
        conv => whnf
        obtain ⟨r_13, hc14, h⟩ := bind_some h
        refine PC.ecall (s_cmp_Compare_int x_10 x_12 r_13 hc14) (fun rs hrs => ?_)
        subst hrs
        conv => whnf
        refine Tr.seq ?_
        refine Tr.region layOK ?_
        conv => whnf
        refine Tr.cond ?_
        conv => whnf
        refine condS_bif h (fun hb15 h => ?_) (fun hb15 h => ?_)
        · refine Tr.seq ?_
          refine Tr.region layOK ?_
          conv => whnf
          refine Tr.ret ?_
          conv => whnf
          cases h
          rfl
        · refine Tr.skip ?_
          conv => whnf
          refine Tr.region layOK ?_
          conv => whnf
          refine arS_raw ?_
          conv => whnf
          refine ⟨((w64 (v_5 + 1))), h, ?_⟩
          exact Wk.mk2 [] 0 rfl rfl (by decide) rfl trivial ⟨⟨rfl, rfl⟩, ⟨rfl, rfl⟩, ⟨rfl, rfl⟩, ⟨rfl, rfl⟩, ⟨rfl, rfl⟩, ⟨rfl, rfl⟩, trivial⟩
    · refine Tr.exit ?_
      conv => whnf
      refine ⟨(), h, ?_⟩
      exact Wk.mk2 [] 0 rfl rfl (by decide) rfl trivial ⟨⟨rfl, rfl⟩, ⟨rfl, rfl⟩, ⟨rfl, rfl⟩, trivial⟩
  · clear h
    rintro _ h T1 H1 hw
    replace h : m_slices_Compare_int_int_J2 s_1 s_2 () = some r_3 := h
    conv => whnf
    refine Tr.weak hw ?_
    unfold m_slices_Compare_int_int_J2 at h
    refine Tr.seq ?_
    refine Tr.seq ?_
    refine Tr.region layOK ?_
    conv => whnf
    refine lnS_map ?_
    conv => whnf
    refine lnS_map ?_
    conv => whnf
    refine Tr.cond ?_
    conv => whnf
    refine condS_bif h (fun hb16 h => ?_) (fun hb16 h => ?_)
    · refine Tr.seq ?_
      refine Tr.region layOK ?_
      conv => whnf
      refine Tr.ret ?_
      conv => whnf
      cases h
      rfl
    · refine Tr.skip ?_
      conv => whnf
      refine Tr.seq ?_
      refine Tr.region layOK ?_
      conv => whnf
      refine Tr.ret ?_
      conv => whnf
      cases h
      rfl

theorem s_ranks_direction_ahead_with_ranks_best_2 (f_1 : TField) (runner_2 : Int) (x_3 : TOutcome) (rival_4 : Int) (y_5 : TOutcome) (r_6 : Bool) (h : m_ranks_direction_ahead_with_ranks_best_2 f_1 runner_2 x_3 rival_4 y_5 = some r_6) :
    PC prog 36 [(.ag [(.fn 55 []), (.fn 56 []), (.fn 57 []), (.fn 58 [])]), (eTField f_1), (.i .i64 runner_2), (eTOutcome x_3), (.i .i64 rival_4), (eTOutcome y_5)] (fun rs => rs = [(.b r_6)]) := by
  refine PC.of_tr (cx := ⟨60, none, lay, 0⟩) layOK func36 rfl rfl rfl rfl rfl (by simp [f36]) ?_
  unfold m_ranks_direction_ahead_with_ranks_best_2 at h
  refine Tr.seq ?_
  refine Tr.region layOK ?_
  conv => whnf
  refine Tr.seq ?_
  refine Tr.seq ?_
  refine Tr.region layOK ?_
  conv => whnf
  refine Tr.cond ?_
  conv => whnf
  refine condS_bif h (fun hb7 h => ?_) (fun hb7 h => ?_)
  · refine Tr.seq ?_
    refine Tr.region layOK ?_
    conv => whnf
    refine Tr.ret ?_
    conv => whnf
    cases h
    rfl
  · refine Tr.skip ?_
    conv => whnf
    refine Tr.seq ?_
    refine Tr.draw (DrawP.seqQ layOK mixed [] [(0, 3), (1, 3), (2, 6), (3, 1), (4, 3), (5, 3), (6, 4), (7, 4), (8, 4), (9, 5), (10, 5), (11, 1), (12, 6), (13, 6), (14, 1), (15, 1), (16, 1), (17, 3), (18, 3), (19, 5), (20, 1), (21, 1), (22, 1)] (by kernel_rfl) ?_)
    conv => whnf
    refine ⟨_, ⟨rfl, rfl, (by (conv => whnf); (exact ⟨rfl, rfl⟩))⟩, ?_⟩
    conv => whnf
    refine ⟨_, ⟨rfl, rfl, (by (conv => whnf); (exact ⟨rfl, rfl⟩))⟩, ?_⟩
    conv => whnf
    refine ⟨_, ⟨rfl, rfl, (by (conv => whnf); (exact ⟨rfl, rfl⟩))⟩, ?_⟩
    conv => whnf
    obtain ⟨r_8, hc9, h⟩ := bind_some h
    refine ⟨_, (fun H => by (conv => whnf); (refine PC.ecall (s_ranks_hi y_5 r_8 hc9) (fun rs hrs => ?_)); (subst hrs); (conv => whnf); (exact ⟨rfl, rfl⟩)), ?_⟩
    conv => whnf
    refine ⟨_, ⟨rfl, rfl, (by (conv => whnf); (exact ⟨rfl, rfl⟩))⟩, ?_⟩
    conv => whnf
    refine ⟨_, ⟨rfl, rfl, (by (conv => whnf); (exact ⟨rfl, rfl⟩))⟩, ?_⟩
    conv => whnf
    refine ⟨_, ⟨rfl, rfl, (by (conv => whnf); (exact ⟨rfl, rfl⟩))⟩, ?_⟩
    conv => whnf
    refine ⟨_, ⟨rfl, rfl, (by (conv => whnf); (exact ⟨rfl, rfl⟩))⟩, ?_⟩
    conv => whnf
    refine ⟨_, ⟨rfl, rfl, (by (conv => whnf); (exact ⟨rfl, rfl⟩))⟩, ?_⟩
    conv => whnf
    refine ⟨_, ⟨rfl, rfl, (by (conv => whnf); (exact ⟨rfl, rfl⟩))⟩, ?_⟩
    conv => whnf
    refine ⟨_, ⟨rfl, rfl, (by (conv => whnf); (exact ⟨rfl, rfl⟩))⟩, ?_⟩
    conv => whnf
    refine ⟨_, (fun H => by (conv => whnf); (refine arS_raw ?_); (conv => whnf); (exact ⟨rfl, rfl⟩)), ?_⟩
    conv => whnf
    refine ⟨_, ⟨rfl, rfl, (by (conv => whnf); (exact ⟨rfl, rfl⟩))⟩, ?_⟩
    conv => whnf
    refine ⟨_, ⟨rfl, rfl, (by (conv => whnf); (exact ⟨rfl, rfl⟩))⟩, ?_⟩
    conv => whnf
    refine ⟨_, (fun H => by (conv => whnf); (refine arS_raw ?_); (conv => whnf); (exact ⟨rfl, rfl⟩)), ?_⟩
    conv => whnf
    obtain ⟨r_10, hc11, h⟩ := bind_some h
    refine ⟨_, (fun H => by (conv => whnf); (refine PC.ecall (s_ranks_best_1 f_1.Clocks.Far ((w64 (x_3.Seg + 1))) ((w64 (y_5.Seg + 1))) r_10 hc11) (fun rs hrs => ?_)); (subst hrs); (conv => whnf); (exact ⟨rfl, rfl⟩)), ?_⟩
    conv => whnf
    refine ⟨_, (fun H => by (conv => whnf); (refine arS_raw ?_); (conv => whnf); (exact ⟨rfl, rfl⟩)), ?_⟩
    conv => whnf
    refine ⟨_, ⟨rfl, rfl, (by (conv => whnf); (exact ⟨rfl, rfl⟩))⟩, ?_⟩
    conv => whnf
    refine ⟨_, ⟨rfl, rfl, (by (conv => whnf); (exact ⟨rfl, rfl⟩))⟩, ?_⟩
    conv => whnf
    refine ⟨_, ⟨rfl, rfl, (by (conv => whnf); (exact ⟨rfl, rfl⟩))⟩, ?_⟩
    conv => whnf
    obtain ⟨r_12, hc13, h⟩ := bind_some h
    refine ⟨_, (fun H => by (conv => whnf); (refine PC.ecall (s_ranks_lo x_3 r_12 hc13) (fun rs hrs => ?_)); (subst hrs); (conv => whnf); (exact ⟨rfl, rfl⟩)), ?_⟩
    conv => whnf
    refine ⟨_, (fun H => by (conv => whnf); (refine arS_raw ?_); (conv => whnf); (exact ⟨rfl, rfl⟩)), ?_⟩
    conv => whnf
    refine ⟨_, (fun H => by (conv => whnf); (exact ⟨rfl, rfl⟩)), ?_⟩
    conv => whnf
    refine Tr.seq ?_
    refine Tr.draw (DrawP.seqQ layOK mixed [] [(0, 1), (1, 1), (2, 1), (3, 1), (4, 1), (5, 1), (6, 4), (7, 4), (8, 1), (9, 2), (10, 2), (11, 2), (12, 4), (13, 4), (14, 1), (15, 2), (16, 2), (17, 2), (18, 1), (19, 1), (20, 1), (21, 1), (22, 1)] (by kernel_rfl) ?_)
    conv => whnf
    refine ⟨_, (fun H => by (conv => whnf); (exact ⟨rfl, rfl⟩)), ?_⟩
    conv => whnf
    refine ⟨_, (fun H => by (conv => whnf); (exact ⟨rfl, rfl⟩)), ?_⟩
    conv => whnf
    refine ⟨_, (fun H => by (conv => whnf); (exact ⟨rfl, rfl⟩)), ?_⟩
    conv => whnf
    refine condS_bif h (fun hb14 h => ?_) (fun hb14 h => ?_)
    · conv => whnf
      refine ⟨_, (fun H => by (conv => whnf); (exact ⟨rfl, rfl⟩)), ?_⟩
      conv => whnf
      refine ⟨_, (fun H => by (conv => whnf); (exact ⟨rfl, rfl⟩)), ?_⟩
      conv => whnf
      refine Tr.ret ?_
      conv => whnf
      cases h
      rfl
    · conv => whnf
      refine ⟨_, (fun H => by (conv => whnf); (exact ⟨rfl, rfl⟩)), ?_⟩
      conv => whnf
      refine ⟨_, (fun H => by (conv => whnf); (exact ⟨rfl, rfl⟩)), ?_⟩
      conv => whnf
      refine ⟨_, (fun H => by (conv => whnf); (exact ⟨rfl, rfl⟩)), ?_⟩
      conv => whnf
      refine condS_bif h (fun hb15 h => ?_) (fun hb15 h => ?_)
      · conv => whnf
        refine ⟨_, ⟨rfl, rfl, (by (conv => whnf); (exact ⟨rfl, rfl⟩))⟩, ?_⟩
        conv => whnf
        refine ⟨_, ⟨rfl, rfl, (by (conv => whnf); (exact ⟨rfl, rfl⟩))⟩, ?_⟩
        conv => whnf
        refine ⟨_, (fun H => by (conv => whnf); (exact ⟨rfl, rfl⟩)), ?_⟩
        conv => whnf
        obtain ⟨x_16, hx_16, h⟩ := bind_some h
        refine ⟨_, ⟨rfl, rfl, (by (conv => whnf); (refine ixP_of hx_16 ?_); (conv => whnf); (exact ⟨rfl, rfl⟩))⟩, ?_⟩
        conv => whnf
        refine ⟨_, ⟨rfl, rfl, (by (conv => whnf); (exact ⟨rfl, rfl⟩))⟩, ?_⟩
        conv => whnf
        refine ⟨_, ⟨rfl, rfl, (by (conv => whnf); (exact ⟨rfl, rfl⟩))⟩, ?_⟩
        conv => whnf
        refine ⟨_, ⟨rfl, rfl, (by (conv => whnf); (exact ⟨rfl, rfl⟩))⟩, ?_⟩
        conv => whnf
        refine ⟨_, ⟨rfl, rfl, (by (conv => whnf); (exact ⟨rfl, rfl⟩))⟩, ?_⟩
        conv => whnf
        refine ⟨_, (fun H => by (conv => whnf); (exact ⟨rfl, rfl⟩)), ?_⟩
        conv => whnf
        obtain ⟨x_17, hx_17, h⟩ := bind_some h
        refine ⟨_, ⟨rfl, rfl, (by (conv => whnf); (refine ixP_of hx_17 ?_); (conv => whnf); (exact ⟨rfl, rfl⟩))⟩, ?_⟩
        conv => whnf
        refine ⟨_, ⟨rfl, rfl, (by (conv => whnf); (exact ⟨rfl, rfl⟩))⟩, ?_⟩
        conv => whnf
        refine ⟨_, ⟨rfl, rfl, (by (conv => whnf); (exact ⟨rfl, rfl⟩))⟩, ?_⟩
        conv => whnf
        obtain ⟨r_18, hc19, h⟩ := bind_some h
        refine ⟨_, (fun H => by (conv => whnf); (refine PC.ecall (s_slices_Compare_int_int x_16.Keys x_17.Keys r_18 hc19) (fun rs hrs => ?_)); (subst hrs); (conv => whnf); (exact ⟨rfl, rfl⟩)), ?_⟩
        conv => whnf
        refine ⟨_, (fun H => by (conv => whnf); (exact ⟨rfl, rfl⟩)), ?_⟩
        conv => whnf
        refine ⟨_, (fun H => by (conv => whnf); (exact ⟨rfl, rfl⟩)), ?_⟩
        conv => whnf
        refine ⟨_, (fun H => by (conv => whnf); (exact ⟨rfl, rfl⟩)), ?_⟩
        conv => whnf
        refine ⟨_, (fun H => by (conv => whnf); (exact ⟨rfl, rfl⟩)), ?_⟩
        conv => whnf
        refine Tr.ret ?_
        conv => whnf
        cases h
        rfl
      · conv => whnf
        refine ⟨_, (fun H => by (conv => whnf); (exact ⟨rfl, rfl⟩)), ?_⟩
        conv => whnf
        refine ⟨_, (fun H => by (conv => whnf); (exact ⟨rfl, rfl⟩)), ?_⟩
        conv => whnf
        refine ⟨_, (fun H => by (conv => whnf); (exact ⟨rfl, rfl⟩)), ?_⟩
        conv => whnf
        refine Tr.ret ?_
        conv => whnf
        cases h
        rfl

theorem s_ranks_direction_choose_with_ranks_best_2 (f_1 : TField) (w_2 : Int) (runner_3 : Int) (x_4 : TOutcome) (rival_5 : Int) (r_6 : Int) (r_7 : Bool) (h : m_ranks_direction_choose_with_ranks_best_2 f_1 w_2 runner_3 x_4 rival_5 = some (r_6, r_7)) :
    PC prog 81 [(.ag [(.fn 55 []), (.fn 56 []), (.fn 57 []), (.fn 58 [])]), (eTField f_1), (.i .i64 w_2), (.i .i64 runner_3), (eTOutcome x_4), (.i .i64 rival_5)] (fun rs => rs = [(.i .i64 r_6), (.b r_7)]) := by
  refine PC.of_tr (cx := ⟨49, none, lay, 0⟩) layOK func81 rfl rfl rfl rfl rfl (by simp [f81]) ?_
  unfold m_ranks_direction_choose_with_ranks_best_2 at h
  refine Tr.seq ?_
  refine Tr.region layOK ?_
  conv => whnf
  refine Tr.seq ?_
  refine Tr.region layOK ?_
  conv => whnf
  obtain ⟨r_8, hc9, h⟩ := bind_some h
  refine PC.ecall (s_ranks_best_2 2 1 r_8 hc9) (fun rs hrs => ?_)
  subst hrs
  conv => whnf
  refine Tr.seq ?_
  refine Tr.seq ?_
  refine Tr.region layOK ?_
  conv => whnf
  obtain ⟨x_10, hx_10, h⟩ := bind_some h
  refine ixP_of hx_10 ?_
  conv => whnf
  obtain ⟨x_11, hx_11, h⟩ := bind_some h
  refine ixP_of hx_11 ?_
  conv => whnf
  refine lnS_map ?_
  conv => whnf
  refine Tr.cutQ (α := Unit) (fun s => ([(12, .d (.i .i64 0)), (13, .d (.b false)), (14, .d (.b r_8))], [])) (fun s => m_ranks_direction_choose_with_ranks_best_2_J2 r_8 s = some (r_6, r_7)) ?_ ?_
  · refine Tr.block ?_
    refine Tr.loopM (σ := Int) (fun n s => m_ranks_direction_choose_with_ranks_best_2_L1 f_1 runner_3 x_4 rival_5 r_8 x_11 (m_ranks_direction_choose_with_ranks_best_2_J2 r_8) n s) (r_6, r_7) (fun s => ([(3, .d (.i .i64 runner_3)), (5, .d (.i .i64 rival_5)), (6, .pt 0 0), (7, .pt 1 0), (10, .pt 2 0), (12, .d (.i .i64 0)), (13, .d (.b false)), (14, .d (.b r_8)), (28, .d (.ls (List.map eTOutcome x_11))), (29, .d (.i .i64 (((x_11).length : Int)))), (30, .d (.i .i64 s))], [some (.var [.d (.fn 55 []), .d (.fn 56 []), .d (.fn 57 []), .d (.fn 58 [])]), some (.var [.d (.ls (List.map eTSegment f_1.Clocks.Segments)), .d (.ls (List.map (eL eI) f_1.Clocks.Far)), .d (.ls (List.map eTPair f_1.Pairs)), .d (.ls (List.map eTRunner f_1.Runners))]), some (.var [.d (.b x_4.Out), .d (.i .i64 x_4.Seg), .d (.i .i64 x_4.Lo), .d (.i .i64 x_4.Hi)])])) (((((x_11).length : Int)) - 0 : Int).toNat + 1) (0) h (fun s => rfl) (Wk.mk2 [0, 1, 2] 3 rfl rfl (by decide) rfl ⟨⟨rfl, rfl⟩, ⟨rfl, rfl⟩, ⟨rfl, rfl⟩, trivial⟩ ⟨⟨rfl, rfl⟩, ⟨rfl, rfl⟩, ⟨rfl, rfl⟩, ⟨rfl, rfl⟩, ⟨rfl, rfl⟩, ⟨rfl, rfl⟩, ⟨rfl, rfl⟩, ⟨rfl, rfl⟩, ⟨rfl, rfl⟩, ⟨rfl, rfl⟩, ⟨rfl, rfl⟩, trivial⟩) ?_
    clear h
    rintro n_14 v_13 h
    replace h : m_ranks_direction_choose_with_ranks_best_2_L1 f_1 runner_3 x_4 rival_5 r_8 x_11 (m_ranks_direction_choose_with_ranks_best_2_J2 r_8) (n_14 + 1) v_13 = some (r_6, r_7) := h
    rw [m_ranks_direction_choose_with_ranks_best_2_L1] at h
    refine Tr.seq ?_
    refine Tr.region layOK ?_
    conv => whnf
    refine Tr.seq ?_
    refine Tr.cond ?_
    conv => whnf
    refine condS_bif h (fun hb17 h => ?_) (fun hb17 h => ?_)
    · refine Tr.skip ?_
      conv => whnf
      refine Tr.seq ?_
      refine Tr.block ?_
      refine Tr.seq ?_
      refine Tr.region layOK ?_
      conv => whnf
      obtain ⟨x_18, hx_18, h⟩ := bind_some h
      refine ixP_of hx_18 ?_
      conv => whnf
      refine Tr.seq ?_
      refine Tr.region layOK ?_
      conv => whnf
      obtain ⟨r_19, hc20, h⟩ := bind_some h
      refine PC.ecall (s_ranks_direction_ahead_with_ranks_best_2 f_1 runner_3 x_4 rival_5 x_18 r_19 hc20) (fun rs hrs => ?_)
      subst hrs
      conv => whnf
      refine Tr.cond ?_
      conv => whnf
      refine condS_bif h (fun hb21 h => ?_) (fun hb21 h => ?_)
      · refine Tr.seq ?_
        refine Tr.region layOK ?_
        conv => whnf
        refine Tr.ret ?_
        conv => whnf
        cases h
        rfl
      · refine Tr.skip ?_
        conv => whnf
        refine Tr.region layOK ?_
        conv => whnf
        refine arS_raw ?_
        conv => whnf
        refine ⟨((w64 (v_13 + 1))), h, ?_⟩
        exact Wk.mk2 [0, 1, 2] 4 rfl rfl (by decide) rfl ⟨⟨rfl, rfl⟩, ⟨rfl, rfl⟩, ⟨rfl, rfl⟩, trivial⟩ ⟨⟨rfl, rfl⟩, ⟨rfl, rfl⟩, ⟨rfl, rfl⟩, ⟨rfl, rfl⟩, ⟨rfl, rfl⟩, ⟨rfl, rfl⟩, ⟨rfl, rfl⟩, ⟨rfl, rfl⟩, ⟨rfl, rfl⟩, ⟨rfl, rfl⟩, ⟨rfl, rfl⟩, trivial⟩
    · refine Tr.exit ?_
      conv => whnf
      refine ⟨(), h, ?_⟩
      exact Wk.mk2 [] 3 rfl rfl (by decide) rfl trivial ⟨⟨rfl, rfl⟩, ⟨rfl, rfl⟩, ⟨rfl, rfl⟩, trivial⟩
  · clear h
    rintro _ h T1 H1 hw
    replace h : m_ranks_direction_choose_with_ranks_best_2_J2 r_8 () = some (r_6, r_7) := h
    conv => whnf
    refine Tr.weak hw ?_
    unfold m_ranks_direction_choose_with_ranks_best_2_J2 at h
    refine Tr.seq ?_
    refine Tr.region layOK ?_
    conv => whnf
    refine Tr.ret ?_
    conv => whnf
    cases h
    rfl
end Go.Proofs.Try
