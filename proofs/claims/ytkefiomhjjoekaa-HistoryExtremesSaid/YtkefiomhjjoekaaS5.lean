/- Contracts of functions, by program (gen.py). No condition. -/
import Derived.Test.YtkefiomhjjoekaaL
import Derived.Test.YtkefiomhjjoekaaM
import Derived.Test.YtkefiomhjjoekaaS4
namespace Go.Proofs.Try
open Go Go.Abs Go.Stop
set_option maxRecDepth 8000
set_option linter.unusedVariables false
set_option linter.unusedSimpArgs false

theorem s_ranks_worlds_1_1 (r_1 : TRunner) (c_2 : Int) (r_3 : Bool) (h : m_ranks_worlds_1_1 r_1 c_2 = some r_3) :
    PC prog 103 [(eTRunner r_1), (.ro [(.i .i64 c_2)])] (fun rs => rs = [(.b r_3)]) := by
  refine PC.of_tr (cx := ⟨11, none, lay, 0⟩) layOK func103 rfl rfl rfl rfl rfl (by simp [f103]) ?_
  unfold m_ranks_worlds_1_1 at h
  refine Tr.seq ?_
  refine Tr.region layOK ?_
  conv => whnf
  refine Tr.seq ?_
  refine Tr.region layOK ?_
  conv => whnf
  obtain ⟨x_4, hx_4, h⟩ := bind_some h
  refine ixP_of hx_4 ?_
  conv => whnf
  refine lnS_map ?_
  conv => whnf
  refine Tr.ret ?_
  conv => whnf
  cases h
  rfl

theorem s_slices_IndexFunc_Runner_Runner_with_ranks_worlds_1_1 (s_1 : List TRunner) (c_2 : Int) (r_3 : Int) (h : m_slices_IndexFunc_Runner_Runner_with_ranks_worlds_1_1 s_1 c_2 = some r_3) :
    PC prog 101 [(.ls (List.map eTRunner s_1)), (.fn 103 [(.ro [(.i .i64 c_2)])])] (fun rs => rs = [(.i .i64 r_3)]) := by
  refine PC.of_tr (cx := ⟨19, none, lay, 0⟩) layOK func101 rfl rfl rfl rfl rfl (by simp [f101]) ?_
  unfold m_slices_IndexFunc_Runner_Runner_with_ranks_worlds_1_1 at h
  refine Tr.seq ?_
  refine Tr.region layOK ?_
  conv => whnf
  refine Tr.seq ?_
  refine Tr.seq ?_
  refine Tr.region layOK ?_
  conv => whnf
  refine lnS_map ?_
  conv => whnf
  refine Tr.cutQ (α := Unit) (fun s => ([(4, .d (.i .i64 0))], [])) (fun s => m_slices_IndexFunc_Runner_Runner_with_ranks_worlds_1_1_J2 s = some r_3) ?_ ?_
  · refine Tr.block ?_
    refine Tr.loopM (σ := Int) (fun n s => m_slices_IndexFunc_Runner_Runner_with_ranks_worlds_1_1_L1 s_1 c_2 m_slices_IndexFunc_Runner_Runner_with_ranks_worlds_1_1_J2 n s) r_3 (fun s => ([(0, .d (.ls (List.map eTRunner s_1))), (1, .d (.fn 103 [(.ro [(.i .i64 c_2)])])), (4, .d (.i .i64 0)), (7, .d (.i .i64 (((s_1).length : Int)))), (8, .d (.i .i64 s))], [])) (((((s_1).length : Int)) - 0 : Int).toNat + 1) (0) h (fun s => rfl) (Wk.mk2 [] 0 rfl rfl (by decide) rfl trivial ⟨⟨rfl, rfl⟩, ⟨rfl, rfl⟩, ⟨rfl, rfl⟩, ⟨rfl, rfl⟩, ⟨rfl, rfl⟩, trivial⟩) ?_
    clear h
    rintro n_6 v_5 h
    replace h : m_slices_IndexFunc_Runner_Runner_with_ranks_worlds_1_1_L1 s_1 c_2 m_slices_IndexFunc_Runner_Runner_with_ranks_worlds_1_1_J2 (n_6 + 1) v_5 = some r_3 := h
    rw [m_slices_IndexFunc_Runner_Runner_with_ranks_worlds_1_1_L1] at h
    refine Tr.seq ?_
    refine Tr.region layOK ?_
    conv => whnf
    refine Tr.seq ?_
    refine Tr.cond ?_
    conv => whnf
    refine condS_bif h (fun hb9 h => ?_) (fun hb9 h => ?_)
    · refine Tr.skip ?_
      conv => whnf
      refine Tr.seq ?_
      refine Tr.block ?_
      refine Tr.seq ?_
      refine Tr.region layOK ?_
      conv => whnf
      refine Tr.seq ?_
      refine Tr.region layOK ?_
      conv => whnf
      obtain ⟨x_10, hx_10, h⟩ := bind_some h
      refine ixP_of hx_10 ?_
      conv => whnf
      obtain ⟨r_11, hc12, h⟩ := bind_some h
      refine PC.ecall (s_ranks_worlds_1_1 x_10 c_2 r_11 hc12) (fun rs hrs => ?_)
      subst hrs
      conv => whnf
      refine Tr.cond ?_
      conv => whnf
      refine condS_bif h (fun hb13 h => ?_) (fun hb13 h => ?_)
      · refine Tr.seq ?_
        refine Tr.region layOK ?_
        conv => whnf
        refine Tr.ret ?_
        conv => whnf
        cases h
        rfl
      · refine Tr.skip ?_
        conv => whnf
        refine Tr.region layOK ?_
        conv => whnf
        refine arS_raw ?_
        conv => whnf
        refine ⟨((w64 (v_5 + 1))), h, ?_⟩
        exact Wk.mk2 [] 0 rfl rfl (by decide) rfl trivial ⟨⟨rfl, rfl⟩, ⟨rfl, rfl⟩, ⟨rfl, rfl⟩, ⟨rfl, rfl⟩, ⟨rfl, rfl⟩, trivial⟩
    · refine Tr.exit ?_
      conv => whnf
      refine ⟨(), h, ?_⟩
      exact Wk.mk2 [] 0 rfl rfl (by decide) rfl trivial ⟨⟨rfl, rfl⟩, trivial⟩
  · clear h
    rintro _ h T1 H1 hw
    replace h : m_slices_IndexFunc_Runner_Runner_with_ranks_worlds_1_1_J2 () = some r_3 := h
    conv => whnf
    refine Tr.weak hw ?_
    unfold m_slices_IndexFunc_Runner_Runner_with_ranks_worlds_1_1_J2 at h
    refine Tr.seq ?_
    refine Tr.region layOK ?_
    conv => whnf
    refine Tr.ret ?_
    conv => whnf
    cases h
    rfl

theorem s_slices_ContainsFunc_Runner_Runner_with_ranks_worlds_1_1 (s_1 : List TRunner) (c_2 : Int) (r_3 : Bool) (h : m_slices_ContainsFunc_Runner_Runner_with_ranks_worlds_1_1 s_1 c_2 = some r_3) :
    PC prog 74 [(.ls (List.map eTRunner s_1)), (.fn 103 [(.ro [(.i .i64 c_2)])])] (fun rs => rs = [(.b r_3)]) := by
  refine PC.of_tr (cx := ⟨9, none, lay, 0⟩) layOK func74 rfl rfl rfl rfl rfl (by simp [f74]) ?_
  unfold m_slices_ContainsFunc_Runner_Runner_with_ranks_worlds_1_1 at h
  refine Tr.seq ?_
  refine Tr.region layOK ?_
  conv => whnf
  refine Tr.seq ?_
  refine Tr.region layOK ?_
  conv => whnf
  obtain ⟨r_4, hc5, h⟩ := bind_some h
  refine PC.ecall (s_slices_IndexFunc_Runner_Runner_with_ranks_worlds_1_1 s_1 c_2 r_4 hc5) (fun rs hrs => ?_)
  subst hrs
  conv => whnf
  refine Tr.ret ?_
  conv => whnf
  cases h
  rfl

theorem it_ranks_worlds_1 (c_1 : List TSegment) (c_2 : List (List Int)) (c_3 : List TPair) (c_4 : List TRunner) (ys : List Int) (h : m_ranks_worlds_1 c_1 c_2 c_3 c_4 = some ys) :
    ItC prog 102 [(.ro [(.ls (List.map eTSegment c_1)), (.ls (List.map (eL eI) c_2)), (.ls (List.map eTPair c_3)), (.ls (List.map eTRunner c_4))])] (List.map (fun a => [(.i .i64 a)]) ys) := by
  refine ItC.of_tr (cx := ⟨25, none, lay, 0⟩) func102 rfl rfl rfl (by simp [f102]) rfl (fun l hx => ?_)
  unfold m_ranks_worlds_1 at h
  refine TrY.seq ?_
  refine TrY.region layOK ?_
  conv => whnf
  refine lnS_map ?_
  conv => whnf
  refine arS_raw ?_
  conv => whnf
  refine TrY.block ?_
  refine TrY.loopM (σ := Int) (fun n s => m_ranks_worlds_1_L1 c_3 c_4 m_ranks_worlds_1_J2 n s) _ (fun s => ([(0, .yl l), (1, .d (.ro [(.ls (List.map eTSegment c_1)), (.ls (List.map (eL eI) c_2)), (.ls (List.map eTPair c_3)), (.ls (List.map eTRunner c_4))])), (8, .d (.i .i64 (w64 ((((c_3).length : Int)) + 1)))), (9, .d (.i .i64 s))], [])) (((w64 ((((c_3).length : Int)) + 1)) - 0 : Int).toNat + 1) (0) h (fun s => rfl) hx (Wk.mk2 [] 0 rfl rfl (by decide) rfl trivial ⟨⟨rfl, rfl⟩, ⟨rfl, rfl⟩, ⟨rfl, rfl⟩, ⟨rfl, rfl⟩, trivial⟩) ?_
  clear h hx
  rintro n_7 v_6 i_15 ys_16 h hx
  replace h : m_ranks_worlds_1_L1 c_3 c_4 m_ranks_worlds_1_J2 (n_7 + 1) v_6 = some ys_16 := h
  rw [m_ranks_worlds_1_L1] at h
  refine TrY.seq ?_
  refine TrY.region layOK ?_
  conv => whnf
  refine TrY.seq ?_
  refine TrY.cond ?_
  conv => whnf
  refine condS_bif h (fun hb10 h => ?_) (fun hb10 h => ?_)
  · refine TrY.skip ?_
    conv => whnf
    refine TrY.seq ?_
    refine TrY.block ?_
    refine TrY.seq ?_
    refine TrY.region layOK ?_
    conv => whnf
    refine TrY.seq ?_
    refine TrY.region layOK ?_
    conv => whnf
    refine TrY.seq ?_
    refine TrY.region layOK ?_
    conv => whnf
    obtain ⟨r_11, hc12, h⟩ := bind_some h
    refine PC.ecall_lend ?_ ⟨_, _, func74, rfl, rfl⟩
    conv => whnf
    refine ⟨_, s_slices_ContainsFunc_Runner_Runner_with_ranks_worlds_1_1 c_4 v_6 r_11 hc12, fun rs hrs => ?_⟩
    subst hrs
    refine ⟨rfl, ?_⟩
    conv => whnf
    refine condS_bif h (fun hb13 h => ?_) (fun hb13 h => ?_)
    · conv => whnf
      obtain ⟨l_14, h_14, e_14⟩ := bind_some h
      clear h
      cases e_14
      have h := h_14
      clear h_14
      refine ylS_of hx rfl (fun hx => ?_)
      conv => whnf
      refine ⟨rfl, ?_⟩
      conv => whnf
      refine TrY.cond ?_
      conv => whnf
      refine TrY.skip ?_
      conv => whnf
      refine TrY.region layOK ?_
      conv => whnf
      refine arS_raw ?_
      conv => whnf
      refine ⟨((w64 (v_6 + 1))), _, h, hx, ?_⟩
      exact Wk.mk2 [] 0 rfl rfl (by decide) rfl trivial ⟨⟨rfl, rfl⟩, ⟨rfl, rfl⟩, ⟨rfl, rfl⟩, ⟨rfl, rfl⟩, trivial⟩
    · conv => whnf
      refine TrY.cond ?_
      conv => whnf
      refine TrY.skip ?_
      conv => whnf
      refine TrY.region layOK ?_
      conv => whnf
      refine arS_raw ?_
      conv => whnf
      refine ⟨((w64 (v_6 + 1))), _, h, hx, ?_⟩
      exact Wk.mk2 [] 1 rfl rfl (by decide) rfl trivial ⟨⟨rfl, rfl⟩, ⟨rfl, rfl⟩, ⟨rfl, rfl⟩, ⟨rfl, rfl⟩, trivial⟩
  · refine TrY.exit ?_
    conv => whnf
    unfold m_ranks_worlds_1_J2 at h
    cases h
    exact Rem.done hx

theorem s_ranks_of_1 (x_1 : TOutcome) (r_2 : Bool) (h : m_ranks_of_1 x_1 = some r_2) :
    PC prog 80 [(eTOutcome x_1)] (fun rs => rs = [(.b r_2)]) := by
  refine PC.of_tr (cx := ⟨5, none, lay, 0⟩) layOK func80 rfl rfl rfl rfl rfl (by simp [f80]) ?_
  unfold m_ranks_of_1 at h
  refine Tr.seq ?_
  refine Tr.region layOK ?_
  conv => whnf
  refine Tr.seq ?_
  refine Tr.region layOK ?_
  conv => whnf
  refine Tr.ret ?_
  conv => whnf
  cases h
  rfl

theorem s_slices_IndexFunc_Outcome_Outcome_with_ranks_of_1 (s_1 : List TOutcome) (r_2 : Int) (h : m_slices_IndexFunc_Outcome_Outcome_with_ranks_of_1 s_1 = some r_2) :
    PC prog 104 [(.ls (List.map eTOutcome s_1)), (.fn 80 [])] (fun rs => rs = [(.i .i64 r_2)]) := by
  refine PC.of_tr (cx := ⟨19, none, lay, 0⟩) layOK func104 rfl rfl rfl rfl rfl (by simp [f104]) ?_
  unfold m_slices_IndexFunc_Outcome_Outcome_with_ranks_of_1 at h
  refine Tr.seq ?_
  refine Tr.region layOK ?_
  conv => whnf
  refine Tr.seq ?_
  refine Tr.seq ?_
  refine Tr.region layOK ?_
  conv => whnf
  refine lnS_map ?_
  conv => whnf
  refine Tr.cutQ (α := Unit) (fun s => ([(4, .d (.i .i64 0))], [])) (fun s => m_slices_IndexFunc_Outcome_Outcome_with_ranks_of_1_J2 s = some r_2) ?_ ?_
  · refine Tr.block ?_
    refine Tr.loopM (σ := Int) (fun n s => m_slices_IndexFunc_Outcome_Outcome_with_ranks_of_1_L1 s_1 m_slices_IndexFunc_Outcome_Outcome_with_ranks_of_1_J2 n s) r_2 (fun s => ([(0, .d (.ls (List.map eTOutcome s_1))), (1, .d (.fn 80 [])), (4, .d (.i .i64 0)), (7, .d (.i .i64 (((s_1).length : Int)))), (8, .d (.i .i64 s))], [])) (((((s_1).length : Int)) - 0 : Int).toNat + 1) (0) h (fun s => rfl) (Wk.mk2 [] 0 rfl rfl (by decide) rfl trivial ⟨⟨rfl, rfl⟩, ⟨rfl, rfl⟩, ⟨rfl, rfl⟩, ⟨rfl, rfl⟩, ⟨rfl, rfl⟩, trivial⟩) ?_
    clear h
    rintro n_5 v_4 h
    replace h : m_slices_IndexFunc_Outcome_Outcome_with_ranks_of_1_L1 s_1 m_slices_IndexFunc_Outcome_Outcome_with_ranks_of_1_J2 (n_5 + 1) v_4 = some r_2 := h
    rw [m_slices_IndexFunc_Outcome_Outcome_with_ranks_of_1_L1] at h
    refine Tr.seq ?_
    refine Tr.region layOK ?_
    conv => whnf
    refine Tr.seq ?_
    refine Tr.cond ?_
    conv => whnf
    refine condS_bif h (fun hb8 h => ?_) (fun hb8 h => ?_)
    · refine Tr.skip ?_
      conv => whnf
      refine Tr.seq ?_
      refine Tr.block ?_
      refine Tr.seq ?_
      refine Tr.region layOK ?_
      conv => whnf
      refine Tr.seq ?_
      refine Tr.region layOK ?_
      conv => whnf
      obtain ⟨x_9, hx_9, h⟩ := bind_some h
      refine ixP_of hx_9 ?_
      conv => whnf
      obtain ⟨r_10, hc11, h⟩ := bind_some h
      refine PC.ecall (s_ranks_of_1 x_9 r_10 hc11) (fun rs hrs => ?_)
      subst hrs
      conv => whnf
      refine Tr.cond ?_
      conv => whnf
      refine condS_bif h (fun hb12 h => ?_) (fun hb12 h => ?_)
      · refine Tr.seq ?_
        refine Tr.region layOK ?_
        conv => whnf
        refine Tr.ret ?_
        conv => whnf
        cases h
        rfl
      · refine Tr.skip ?_
        conv => whnf
        refine Tr.region layOK ?_
        conv => whnf
        refine arS_raw ?_
        conv => whnf
        refine ⟨((w64 (v_4 + 1))), h, ?_⟩
        exact Wk.mk2 [] 0 rfl rfl (by decide) rfl trivial ⟨⟨rfl, rfl⟩, ⟨rfl, rfl⟩, ⟨rfl, rfl⟩, ⟨rfl, rfl⟩, ⟨rfl, rfl⟩, trivial⟩
    · refine Tr.exit ?_
      conv => whnf
      refine ⟨(), h, ?_⟩
      exact Wk.mk2 [] 0 rfl rfl (by decide) rfl trivial ⟨⟨rfl, rfl⟩, trivial⟩
  · clear h
    rintro _ h T1 H1 hw
    replace h : m_slices_IndexFunc_Outcome_Outcome_with_ranks_of_1_J2 () = some r_2 := h
    conv => whnf
    refine Tr.weak hw ?_
    unfold m_slices_IndexFunc_Outcome_Outcome_with_ranks_of_1_J2 at h
    refine Tr.seq ?_
    refine Tr.region layOK ?_
    conv => whnf
    refine Tr.ret ?_
    conv => whnf
    cases h
    rfl

theorem s_slices_ContainsFunc_Outcome_Outcome_with_ranks_of_1 (s_1 : List TOutcome) (r_2 : Bool) (h : m_slices_ContainsFunc_Outcome_Outcome_with_ranks_of_1 s_1 = some r_2) :
    PC prog 79 [(.ls (List.map eTOutcome s_1)), (.fn 80 [])] (fun rs => rs = [(.b r_2)]) := by
  refine PC.of_tr (cx := ⟨9, none, lay, 0⟩) layOK func79 rfl rfl rfl rfl rfl (by simp [f79]) ?_
  unfold m_slices_ContainsFunc_Outcome_Outcome_with_ranks_of_1 at h
  refine Tr.seq ?_
  refine Tr.region layOK ?_
  conv => whnf
  refine Tr.seq ?_
  refine Tr.region layOK ?_
  conv => whnf
  obtain ⟨r_3, hc4, h⟩ := bind_some h
  refine PC.ecall (s_slices_IndexFunc_Outcome_Outcome_with_ranks_of_1 s_1 r_3 hc4) (fun rs hrs => ?_)
  subst hrs
  conv => whnf
  refine Tr.ret ?_
  conv => whnf
  cases h
  rfl

theorem s_ranks_best (h : m_ranks_best = some ()) :
    PC prog 51 [] (fun rs => rs = [(.ag [(.fn 83 []), (.fn 84 []), (.fn 85 []), (.fn 86 [])])]) := by
  refine PC.of_tr (cx := ⟨2, none, lay, 0⟩) layOK func51 rfl rfl rfl rfl rfl (by simp [f51]) ?_
  unfold m_ranks_best at h
  refine Tr.seq ?_
  refine Tr.region layOK ?_
  conv => whnf
  refine Tr.seq ?_
  refine Tr.region layOK ?_
  conv => whnf
  refine Tr.ret ?_
  conv => whnf

theorem s_ranks_best_2 (n_1 : Int) (m_2 : Int) (r_3 : Bool) (h : m_ranks_best_2 n_1 m_2 = some r_3) :
    PC prog 86 [(.i .i64 n_1), (.i .i64 m_2)] (fun rs => rs = [(.b r_3)]) := by
  refine PC.of_tr (cx := ⟨8, none, lay, 0⟩) layOK func86 rfl rfl rfl rfl rfl (by simp [f86]) ?_
  unfold m_ranks_best_2 at h
  refine Tr.seq ?_
  refine Tr.region layOK ?_
  conv => whnf
  refine Tr.seq ?_
  refine Tr.region layOK ?_
  conv => whnf
  refine Tr.ret ?_
  conv => whnf
  cases h
  rfl

theorem s_ranks_hi (x_1 : TOutcome) (r_2 : Int) (h : m_ranks_hi x_1 = some r_2) :
    PC prog 84 [(eTOutcome x_1)] (fun rs => rs = [(.i .i64 r_2)]) := by
  refine PC.of_tr (cx := ⟨5, none, lay, 0⟩) layOK func84 rfl rfl rfl rfl rfl (by simp [f84]) ?_
  unfold m_ranks_hi at h
  refine Tr.seq ?_
  refine Tr.region layOK ?_
  conv => whnf
  refine Tr.seq ?_
  refine Tr.region layOK ?_
  conv => whnf
  refine Tr.ret ?_
  conv => whnf
  cases h
  rfl

theorem s_ranks_best_1 (far_1 : List (List Int)) (a_2 : Int) (b_3 : Int) (r_4 : Int) (h : m_ranks_best_1 far_1 a_2 b_3 = some r_4) :
    PC prog 85 [(.ls (List.map (eL eI) far_1)), (.i .i64 a_2), (.i .i64 b_3)] (fun rs => rs = [(.i .i64 r_4)]) := by
  refine PC.of_tr (cx := ⟨14, none, lay, 0⟩) layOK func85 rfl rfl rfl rfl rfl (by simp [f85]) ?_
  unfold m_ranks_best_1 at h
  refine Tr.seq ?_
  refine Tr.region layOK ?_
  conv => whnf
  refine Tr.seq ?_
  refine Tr.region layOK ?_
  conv => whnf
  obtain ⟨x_5, hx_5, h⟩ := bind_some h
  refine ixP_of hx_5 ?_
  conv => whnf
  obtain ⟨x_6, hx_6, h⟩ := bind_some h
  refine ixP_of hx_6 ?_
  conv => whnf
  refine Tr.ret ?_
  conv => whnf
  cases h
  rfl

theorem s_ranks_lo (x_1 : TOutcome) (r_2 : Int) (h : m_ranks_lo x_1 = some r_2) :
    PC prog 83 [(eTOutcome x_1)] (fun rs => rs = [(.i .i64 r_2)]) := by
  refine PC.of_tr (cx := ⟨5, none, lay, 0⟩) layOK func83 rfl rfl rfl rfl rfl (by simp [f83]) ?_
  unfold m_ranks_lo at h
  refine Tr.seq ?_
  refine Tr.region layOK ?_
  conv => whnf
  refine Tr.seq ?_
  refine Tr.region layOK ?_
  conv => whnf
  refine Tr.ret ?_
  conv => whnf
  cases h
  rfl
end Go.Proofs.Try
