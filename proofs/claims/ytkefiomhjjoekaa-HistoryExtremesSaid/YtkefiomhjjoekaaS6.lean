/- Contracts of functions, by program (gen.py). No condition. -/
import Derived.Test.YtkefiomhjjoekaaL
import Derived.Test.YtkefiomhjjoekaaM
import Derived.Test.YtkefiomhjjoekaaS5
namespace Go.Proofs.Try
open Go Go.Abs Go.Stop
set_option maxRecDepth 8000
set_option linter.unusedVariables false
set_option linter.unusedSimpArgs false

theorem s_ranks_direction_ahead_with_ranks_best_2 (f_1 : TField) (runner_2 : Int) (x_3 : TOutcome) (rival_4 : Int) (y_5 : TOutcome) (r_6 : Bool) (h : m_ranks_direction_ahead_with_ranks_best_2 f_1 runner_2 x_3 rival_4 y_5 = some r_6) :
    PC prog 108 [(.ag [(.fn 83 []), (.fn 84 []), (.fn 85 []), (.fn 86 [])]), (eTField f_1), (.i .i64 runner_2), (eTOutcome x_3), (.i .i64 rival_4), (eTOutcome y_5)] (fun rs => rs = [(.b r_6)]) := by
  refine PC.of_tr (cx := ⟨60, none, lay, 0⟩) layOK func108 rfl rfl rfl rfl rfl (by simp [f108]) ?_
  unfold m_ranks_direction_ahead_with_ranks_best_2 at h
  refine Tr.seq ?_
  refine Tr.region layOK ?_
  conv => whnf
  refine Tr.seq ?_
  refine Tr.seq ?_
  refine Tr.region layOK ?_
  conv => whnf
  refine Tr.cond ?_
  conv => whnf
  refine condS_bif h (fun hb7 h => ?_) (fun hb7 h => ?_)
  · refine Tr.seq ?_
    refine Tr.region layOK ?_
    conv => whnf
    refine Tr.ret ?_
    conv => whnf
    cases h
    rfl
  · refine Tr.skip ?_
    conv => whnf
    refine Tr.seq ?_
    refine Tr.draw (DrawP.seqQ layOK mixed [] [(0, 3), (1, 3), (2, 6), (3, 1), (4, 3), (5, 3), (6, 4), (7, 4), (8, 4), (9, 5), (10, 5), (11, 1), (12, 6), (13, 6), (14, 1), (15, 1), (16, 1), (17, 3), (18, 3), (19, 5), (20, 1), (21, 1), (22, 1)] (by kernel_rfl) ?_)
    conv => whnf
    refine ⟨_, ⟨rfl, rfl, (by (conv => whnf); (exact ⟨rfl, rfl⟩))⟩, ?_⟩
    conv => whnf
    refine ⟨_, ⟨rfl, rfl, (by (conv => whnf); (exact ⟨rfl, rfl⟩))⟩, ?_⟩
    conv => whnf
    refine ⟨_, ⟨rfl, rfl, (by (conv => whnf); (exact ⟨rfl, rfl⟩))⟩, ?_⟩
    conv => whnf
    obtain ⟨r_8, hc9, h⟩ := bind_some h
    refine ⟨_, (fun H => by (conv => whnf); (refine PC.ecall (s_ranks_hi y_5 r_8 hc9) (fun rs hrs => ?_)); (subst hrs); (conv => whnf); (exact ⟨rfl, rfl⟩)), ?_⟩
    conv => whnf
    refine ⟨_, ⟨rfl, rfl, (by (conv => whnf); (exact ⟨rfl, rfl⟩))⟩, ?_⟩
    conv => whnf
    refine ⟨_, ⟨rfl, rfl, (by (conv => whnf); (exact ⟨rfl, rfl⟩))⟩, ?_⟩
    conv => whnf
    refine ⟨_, ⟨rfl, rfl, (by (conv => whnf); (exact ⟨rfl, rfl⟩))⟩, ?_⟩
    conv => whnf
    refine ⟨_, ⟨rfl, rfl, (by (conv => whnf); (exact ⟨rfl, rfl⟩))⟩, ?_⟩
    conv => whnf
    refine ⟨_, ⟨rfl, rfl, (by (conv => whnf); (exact ⟨rfl, rfl⟩))⟩, ?_⟩
    conv => whnf
    refine ⟨_, ⟨rfl, rfl, (by (conv => whnf); (exact ⟨rfl, rfl⟩))⟩, ?_⟩
    conv => whnf
    refine ⟨_, ⟨rfl, rfl, (by (conv => whnf); (exact ⟨rfl, rfl⟩))⟩, ?_⟩
    conv => whnf
    refine ⟨_, (fun H => by (conv => whnf); (refine arS_raw ?_); (conv => whnf); (exact ⟨rfl, rfl⟩)), ?_⟩
    conv => whnf
    refine ⟨_, ⟨rfl, rfl, (by (conv => whnf); (exact ⟨rfl, rfl⟩))⟩, ?_⟩
    conv => whnf
    refine ⟨_, ⟨rfl, rfl, (by (conv => whnf); (exact ⟨rfl, rfl⟩))⟩, ?_⟩
    conv => whnf
    refine ⟨_, (fun H => by (conv => whnf); (refine arS_raw ?_); (conv => whnf); (exact ⟨rfl, rfl⟩)), ?_⟩
    conv => whnf
    obtain ⟨r_10, hc11, h⟩ := bind_some h
    refine ⟨_, (fun H => by (conv => whnf); (refine PC.ecall (s_ranks_best_1 f_1.Clocks.Far ((w64 (x_3.Seg + 1))) ((w64 (y_5.Seg + 1))) r_10 hc11) (fun rs hrs => ?_)); (subst hrs); (conv => whnf); (exact ⟨rfl, rfl⟩)), ?_⟩
    conv => whnf
    refine ⟨_, (fun H => by (conv => whnf); (refine arS_raw ?_); (conv => whnf); (exact ⟨rfl, rfl⟩)), ?_⟩
    conv => whnf
    refine ⟨_, ⟨rfl, rfl, (by (conv => whnf); (exact ⟨rfl, rfl⟩))⟩, ?_⟩
    conv => whnf
    refine ⟨_, ⟨rfl, rfl, (by (conv => whnf); (exact ⟨rfl, rfl⟩))⟩, ?_⟩
    conv => whnf
    refine ⟨_, ⟨rfl, rfl, (by (conv => whnf); (exact ⟨rfl, rfl⟩))⟩, ?_⟩
    conv => whnf
    obtain ⟨r_12, hc13, h⟩ := bind_some h
    refine ⟨_, (fun H => by (conv => whnf); (refine PC.ecall (s_ranks_lo x_3 r_12 hc13) (fun rs hrs => ?_)); (subst hrs); (conv => whnf); (exact ⟨rfl, rfl⟩)), ?_⟩
    conv => whnf
    refine ⟨_, (fun H => by (conv => whnf); (refine arS_raw ?_); (conv => whnf); (exact ⟨rfl, rfl⟩)), ?_⟩
    conv => whnf
    refine ⟨_, (fun H => by (conv => whnf); (exact ⟨rfl, rfl⟩)), ?_⟩
    conv => whnf
    refine Tr.seq ?_
    refine Tr.draw (DrawP.seqQ layOK mixed [] [(0, 1), (1, 1), (2, 1), (3, 1), (4, 1), (5, 1), (6, 4), (7, 4), (8, 1), (9, 2), (10, 2), (11, 2), (12, 4), (13, 4), (14, 1), (15, 2), (16, 2), (17, 2), (18, 1), (19, 1), (20, 1), (21, 1), (22, 1)] (by kernel_rfl) ?_)
    conv => whnf
    refine ⟨_, (fun H => by (conv => whnf); (exact ⟨rfl, rfl⟩)), ?_⟩
    conv => whnf
    refine ⟨_, (fun H => by (conv => whnf); (exact ⟨rfl, rfl⟩)), ?_⟩
    conv => whnf
    refine ⟨_, (fun H => by (conv => whnf); (exact ⟨rfl, rfl⟩)), ?_⟩
    conv => whnf
    refine condS_bif h (fun hb14 h => ?_) (fun hb14 h => ?_)
    · conv => whnf
      refine ⟨_, (fun H => by (conv => whnf); (exact ⟨rfl, rfl⟩)), ?_⟩
      conv => whnf
      refine ⟨_, (fun H => by (conv => whnf); (exact ⟨rfl, rfl⟩)), ?_⟩
      conv => whnf
      refine Tr.ret ?_
      conv => whnf
      cases h
      rfl
    · conv => whnf
      refine ⟨_, (fun H => by (conv => whnf); (exact ⟨rfl, rfl⟩)), ?_⟩
      conv => whnf
      refine ⟨_, (fun H => by (conv => whnf); (exact ⟨rfl, rfl⟩)), ?_⟩
      conv => whnf
      refine ⟨_, (fun H => by (conv => whnf); (exact ⟨rfl, rfl⟩)), ?_⟩
      conv => whnf
      refine condS_bif h (fun hb15 h => ?_) (fun hb15 h => ?_)
      · conv => whnf
        refine ⟨_, ⟨rfl, rfl, (by (conv => whnf); (exact ⟨rfl, rfl⟩))⟩, ?_⟩
        conv => whnf
        refine ⟨_, ⟨rfl, rfl, (by (conv => whnf); (exact ⟨rfl, rfl⟩))⟩, ?_⟩
        conv => whnf
        refine ⟨_, (fun H => by (conv => whnf); (exact ⟨rfl, rfl⟩)), ?_⟩
        conv => whnf
        obtain ⟨x_16, hx_16, h⟩ := bind_some h
        refine ⟨_, ⟨rfl, rfl, (by (conv => whnf); (refine ixP_of hx_16 ?_); (conv => whnf); (exact ⟨rfl, rfl⟩))⟩, ?_⟩
        conv => whnf
        refine ⟨_, ⟨rfl, rfl, (by (conv => whnf); (exact ⟨rfl, rfl⟩))⟩, ?_⟩
        conv => whnf
        refine ⟨_, ⟨rfl, rfl, (by (conv => whnf); (exact ⟨rfl, rfl⟩))⟩, ?_⟩
        conv => whnf
        refine ⟨_, ⟨rfl, rfl, (by (conv => whnf); (exact ⟨rfl, rfl⟩))⟩, ?_⟩
        conv => whnf
        refine ⟨_, ⟨rfl, rfl, (by (conv => whnf); (exact ⟨rfl, rfl⟩))⟩, ?_⟩
        conv => whnf
        refine ⟨_, (fun H => by (conv => whnf); (exact ⟨rfl, rfl⟩)), ?_⟩
        conv => whnf
        obtain ⟨x_17, hx_17, h⟩ := bind_some h
        refine ⟨_, ⟨rfl, rfl, (by (conv => whnf); (refine ixP_of hx_17 ?_); (conv => whnf); (exact ⟨rfl, rfl⟩))⟩, ?_⟩
        conv => whnf
        refine ⟨_, ⟨rfl, rfl, (by (conv => whnf); (exact ⟨rfl, rfl⟩))⟩, ?_⟩
        conv => whnf
        refine ⟨_, ⟨rfl, rfl, (by (conv => whnf); (exact ⟨rfl, rfl⟩))⟩, ?_⟩
        conv => whnf
        obtain ⟨r_18, hc19, h⟩ := bind_some h
        refine ⟨_, (fun H => by (conv => whnf); (refine PC.ecall (s_slices_Compare_int_int x_16.Keys x_17.Keys r_18 hc19) (fun rs hrs => ?_)); (subst hrs); (conv => whnf); (exact ⟨rfl, rfl⟩)), ?_⟩
        conv => whnf
        refine ⟨_, (fun H => by (conv => whnf); (exact ⟨rfl, rfl⟩)), ?_⟩
        conv => whnf
        refine ⟨_, (fun H => by (conv => whnf); (exact ⟨rfl, rfl⟩)), ?_⟩
        conv => whnf
        refine ⟨_, (fun H => by (conv => whnf); (exact ⟨rfl, rfl⟩)), ?_⟩
        conv => whnf
        refine ⟨_, (fun H => by (conv => whnf); (exact ⟨rfl, rfl⟩)), ?_⟩
        conv => whnf
        refine Tr.ret ?_
        conv => whnf
        cases h
        rfl
      · conv => whnf
        refine ⟨_, (fun H => by (conv => whnf); (exact ⟨rfl, rfl⟩)), ?_⟩
        conv => whnf
        refine ⟨_, (fun H => by (conv => whnf); (exact ⟨rfl, rfl⟩)), ?_⟩
        conv => whnf
        refine ⟨_, (fun H => by (conv => whnf); (exact ⟨rfl, rfl⟩)), ?_⟩
        conv => whnf
        refine Tr.ret ?_
        conv => whnf
        cases h
        rfl

theorem s_ranks_direction_choose_with_ranks_best_2 (f_1 : TField) (w_2 : Int) (runner_3 : Int) (x_4 : TOutcome) (rival_5 : Int) (r_6 : Int) (r_7 : Bool) (h : m_ranks_direction_choose_with_ranks_best_2 f_1 w_2 runner_3 x_4 rival_5 = some (r_6, r_7)) :
    PC prog 105 [(.ag [(.fn 83 []), (.fn 84 []), (.fn 85 []), (.fn 86 [])]), (eTField f_1), (.i .i64 w_2), (.i .i64 runner_3), (eTOutcome x_4), (.i .i64 rival_5)] (fun rs => rs = [(.i .i64 r_6), (.b r_7)]) := by
  refine PC.of_tr (cx := ⟨49, none, lay, 0⟩) layOK func105 rfl rfl rfl rfl rfl (by simp [f105]) ?_
  unfold m_ranks_direction_choose_with_ranks_best_2 at h
  refine Tr.seq ?_
  refine Tr.region layOK ?_
  conv => whnf
  refine Tr.seq ?_
  refine Tr.region layOK ?_
  conv => whnf
  obtain ⟨r_8, hc9, h⟩ := bind_some h
  refine PC.ecall (s_ranks_best_2 2 1 r_8 hc9) (fun rs hrs => ?_)
  subst hrs
  conv => whnf
  refine Tr.seq ?_
  refine Tr.seq ?_
  refine Tr.region layOK ?_
  conv => whnf
  obtain ⟨x_10, hx_10, h⟩ := bind_some h
  refine ixP_of hx_10 ?_
  conv => whnf
  obtain ⟨x_11, hx_11, h⟩ := bind_some h
  refine ixP_of hx_11 ?_
  conv => whnf
  refine lnS_map ?_
  conv => whnf
  refine Tr.cutQ (α := Unit) (fun s => ([(12, .d (.i .i64 0)), (13, .d (.b false)), (14, .d (.b r_8))], [])) (fun s => m_ranks_direction_choose_with_ranks_best_2_J2 r_8 s = some (r_6, r_7)) ?_ ?_
  · refine Tr.block ?_
    refine Tr.loopM (σ := Int) (fun n s => m_ranks_direction_choose_with_ranks_best_2_L1 f_1 runner_3 x_4 rival_5 r_8 x_11 (m_ranks_direction_choose_with_ranks_best_2_J2 r_8) n s) (r_6, r_7) (fun s => ([(3, .d (.i .i64 runner_3)), (5, .d (.i .i64 rival_5)), (6, .pt 0 0), (7, .pt 1 0), (10, .pt 2 0), (12, .d (.i .i64 0)), (13, .d (.b false)), (14, .d (.b r_8)), (28, .d (.ls (List.map eTOutcome x_11))), (29, .d (.i .i64 (((x_11).length : Int)))), (30, .d (.i .i64 s))], [some (.var [.d (.fn 83 []), .d (.fn 84 []), .d (.fn 85 []), .d (.fn 86 [])]), some (.var [.d (.ls (List.map eTSegment f_1.Clocks.Segments)), .d (.ls (List.map (eL eI) f_1.Clocks.Far)), .d (.ls (List.map eTPair f_1.Pairs)), .d (.ls (List.map eTRunner f_1.Runners))]), some (.var [.d (.b x_4.Out), .d (.i .i64 x_4.Seg), .d (.i .i64 x_4.Lo), .d (.i .i64 x_4.Hi)])])) (((((x_11).length : Int)) - 0 : Int).toNat + 1) (0) h (fun s => rfl) (Wk.mk2 [0, 1, 2] 3 rfl rfl (by decide) rfl ⟨⟨rfl, rfl⟩, ⟨rfl, rfl⟩, ⟨rfl, rfl⟩, trivial⟩ ⟨⟨rfl, rfl⟩, ⟨rfl, rfl⟩, ⟨rfl, rfl⟩, ⟨rfl, rfl⟩, ⟨rfl, rfl⟩, ⟨rfl, rfl⟩, ⟨rfl, rfl⟩, ⟨rfl, rfl⟩, ⟨rfl, rfl⟩, ⟨rfl, rfl⟩, ⟨rfl, rfl⟩, trivial⟩) ?_
    clear h
    rintro n_14 v_13 h
    replace h : m_ranks_direction_choose_with_ranks_best_2_L1 f_1 runner_3 x_4 rival_5 r_8 x_11 (m_ranks_direction_choose_with_ranks_best_2_J2 r_8) (n_14 + 1) v_13 = some (r_6, r_7) := h
    rw [m_ranks_direction_choose_with_ranks_best_2_L1] at h
    refine Tr.seq ?_
    refine Tr.region layOK ?_
    conv => whnf
    refine Tr.seq ?_
    refine Tr.cond ?_
    conv => whnf
    refine condS_bif h (fun hb17 h => ?_) (fun hb17 h => ?_)
    · refine Tr.skip ?_
      conv => whnf
      refine Tr.seq ?_
      refine Tr.block ?_
      refine Tr.seq ?_
      refine Tr.region layOK ?_
      conv => whnf
      obtain ⟨x_18, hx_18, h⟩ := bind_some h
      refine ixP_of hx_18 ?_
      conv => whnf
      refine Tr.seq ?_
      refine Tr.region layOK ?_
      conv => whnf
      obtain ⟨r_19, hc20, h⟩ := bind_some h
      refine PC.ecall (s_ranks_direction_ahead_with_ranks_best_2 f_1 runner_3 x_4 rival_5 x_18 r_19 hc20) (fun rs hrs => ?_)
      subst hrs
      conv => whnf
      refine Tr.cond ?_
      conv => whnf
      refine condS_bif h (fun hb21 h => ?_) (fun hb21 h => ?_)
      · refine Tr.seq ?_
        refine Tr.region layOK ?_
        conv => whnf
        refine Tr.ret ?_
        conv => whnf
        cases h
        rfl
      · refine Tr.skip ?_
        conv => whnf
        refine Tr.region layOK ?_
        conv => whnf
        refine arS_raw ?_
        conv => whnf
        refine ⟨((w64 (v_13 + 1))), h, ?_⟩
        exact Wk.mk2 [0, 1, 2] 4 rfl rfl (by decide) rfl ⟨⟨rfl, rfl⟩, ⟨rfl, rfl⟩, ⟨rfl, rfl⟩, trivial⟩ ⟨⟨rfl, rfl⟩, ⟨rfl, rfl⟩, ⟨rfl, rfl⟩, ⟨rfl, rfl⟩, ⟨rfl, rfl⟩, ⟨rfl, rfl⟩, ⟨rfl, rfl⟩, ⟨rfl, rfl⟩, ⟨rfl, rfl⟩, ⟨rfl, rfl⟩, ⟨rfl, rfl⟩, trivial⟩
    · refine Tr.exit ?_
      conv => whnf
      refine ⟨(), h, ?_⟩
      exact Wk.mk2 [] 3 rfl rfl (by decide) rfl trivial ⟨⟨rfl, rfl⟩, ⟨rfl, rfl⟩, ⟨rfl, rfl⟩, trivial⟩
  · clear h
    rintro _ h T1 H1 hw
    replace h : m_ranks_direction_choose_with_ranks_best_2_J2 r_8 () = some (r_6, r_7) := h
    conv => whnf
    refine Tr.weak hw ?_
    unfold m_ranks_direction_choose_with_ranks_best_2_J2 at h
    refine Tr.seq ?_
    refine Tr.region layOK ?_
    conv => whnf
    refine Tr.ret ?_
    conv => whnf
    cases h
    rfl

theorem s_ranks_direction_drive_with_ranks_best_2 (f_1 : TField) (runner_2 : Int) (r_3 : Tranks_place) (r_4 : Bool) (h : m_ranks_direction_drive_with_ranks_best_2 f_1 runner_2 = some (r_3, r_4)) :
    PC prog 81 [(.ag [(.fn 83 []), (.fn 84 []), (.fn 85 []), (.fn 86 [])]), (eTField f_1), (.i .i64 runner_2)] (fun rs => rs = [(eTranks_place r_3), (.b r_4)]) := by
  refine PC.of_tr (cx := ⟨75, none, lay, 0⟩) layOK func81 rfl rfl rfl rfl rfl (by simp [f81]) ?_
  unfold m_ranks_direction_drive_with_ranks_best_2 at h
  refine Tr.seq ?_
  refine Tr.region layOK ?_
  conv => whnf
  refine Tr.seq ?_
  refine Tr.seq ?_
  refine Tr.region layOK ?_
  conv => whnf
  obtain ⟨⟨c_5, c_6, c_7, c_8⟩, hc9, h⟩ := bind_some h
  refine PC.ecall (s_ranks_worlds f_1 c_5 c_6 c_7 c_8 hc9) (fun rs hrs => ?_)
  subst hrs
  conv => whnf
  obtain ⟨l_10, hl11, h⟩ := bind_some h
  obtain ⟨⟨v_65, v_66, v_67, v_68⟩, hv69, h⟩ := bind_some h
  refine Tr.block ?_
  refine Tr.rangeM layOK rfl (ge := fun a => [(.i .i64 a)]) rfl (it_ranks_worlds_1 c_5 c_6 c_7 c_8 l_10 hl11) (fun _ => rfl) rfl (fun s => [some (.var [.d (.fn 83 []), .d (.fn 84 []), .d (.fn 85 []), .d (.fn 86 [])]), some (.var [.d (.ls (List.map eTSegment f_1.Clocks.Segments)), .d (.ls (List.map (eL eI) f_1.Clocks.Far)), .d (.ls (List.map eTPair f_1.Pairs)), .d (.ls (List.map eTRunner f_1.Runners))]), some (.var [.d (.i .i64 runner_2)]), some (.var [.d (.i .i64 s.1), .d (.i .i64 s.2.1), .d (.i .i64 s.2.2.1)]), some (.var [.d (.b s.2.2.2)])]) (m_ranks_direction_drive_with_ranks_best_2_R1 f_1 runner_2) (0, 0, 0, false) (v_65, v_66, v_67, v_68) hv69 (Wk.mk2 [0, 1, 2, 3, 4] 5 rfl rfl (by decide) rfl ⟨⟨rfl, rfl⟩, ⟨rfl, rfl⟩, ⟨rfl, rfl⟩, ⟨rfl, rfl⟩, ⟨rfl, rfl⟩, trivial⟩ trivial) ?_ ?_
  · clear h hv69
    rintro li y_12 ⟨v_17, v_18, v_19, v_20⟩ s_70 ha h
    replace h : (m_ranks_direction_drive_with_ranks_best_2_R1 f_1 runner_2) y_12 (v_17, v_18, v_19, v_20) = some s_70 := h
    unfold m_ranks_direction_drive_with_ranks_best_2_R1 at h
    dsimp only at h
    conv => whnf
    refine Tr.block ?_
    refine Tr.seq ?_
    refine Tr.region layOK ?_
    conv => whnf
    obtain ⟨x_21, hx_21, h⟩ := bind_some h
    refine ixP_of hx_21 ?_
    conv => whnf
    obtain ⟨x_22, hx_22, h⟩ := bind_some h
    refine ixP_of hx_22 ?_
    conv => whnf
    refine lnS_map ?_
    conv => whnf
    obtain ⟨⟨v_34, v_35, v_36, v_37⟩, hv64, h⟩ := bind_some h
    refine Tr.cutQ1 ([]) ([some (.var [.d (.fn 83 []), .d (.fn 84 []), .d (.fn 85 []), .d (.fn 86 [])]), some (.var [.d (.ls (List.map eTSegment f_1.Clocks.Segments)), .d (.ls (List.map (eL eI) f_1.Clocks.Far)), .d (.ls (List.map eTPair f_1.Pairs)), .d (.ls (List.map eTRunner f_1.Runners))]), some (.var [.d (.i .i64 runner_2)]), some (.var [.d (.i .i64 v_34), .d (.i .i64 v_35), .d (.i .i64 v_36)]), some (.var [.d (.b v_37)])]) ?_ (fun T1 H1 hw => ?_)
    · replace h := hv64; clear hv64
      refine Tr.block ?_
      refine Tr.loopM (σ := Int × Int × Int × Int × Bool) (fun n s => m_ranks_direction_drive_with_ranks_best_2_L2 f_1 runner_2 y_12 x_22 n s.1 s.2.1 s.2.2.1 s.2.2.2.1 s.2.2.2.2) (v_34, v_35, v_36, v_37) (fun s => ([(3, .pt 0 0), (4, .pt 1 0), (5, .pt 2 0), (6, .pt 3 0), (7, .pt 4 0), (8, .d (.i .i64 y_12)), (26, .d (.ls (List.map eTOutcome x_22))), (27, .d (.i .i64 (((x_22).length : Int)))), (28, .d (.i .i64 s.1))], [some (.var [.d (.fn 83 []), .d (.fn 84 []), .d (.fn 85 []), .d (.fn 86 [])]), some (.var [.d (.ls (List.map eTSegment f_1.Clocks.Segments)), .d (.ls (List.map (eL eI) f_1.Clocks.Far)), .d (.ls (List.map eTPair f_1.Pairs)), .d (.ls (List.map eTRunner f_1.Runners))]), some (.var [.d (.i .i64 runner_2)]), some (.var [.d (.i .i64 s.2.1), .d (.i .i64 s.2.2.1), .d (.i .i64 s.2.2.2.1)]), some (.var [.d (.b s.2.2.2.2)])])) (((((x_22).length : Int)) - 0 : Int).toNat + 1) (0, v_17, v_18, v_19, v_20) h (fun s => rfl) (Wk.mk2 [0, 1, 2, 3, 4] 5 rfl rfl (by decide) rfl ⟨⟨rfl, rfl⟩, ⟨rfl, rfl⟩, ⟨rfl, rfl⟩, ⟨rfl, rfl⟩, ⟨rfl, rfl⟩, trivial⟩ ⟨⟨rfl, rfl⟩, ⟨rfl, rfl⟩, ⟨rfl, rfl⟩, ⟨rfl, rfl⟩, ⟨rfl, rfl⟩, ⟨rfl, rfl⟩, ⟨rfl, rfl⟩, ⟨rfl, rfl⟩, ⟨rfl, rfl⟩, trivial⟩) ?_
      clear h
      rintro n_33 ⟨v_28, v_29, v_30, v_31, v_32⟩ h
      replace h : m_ranks_direction_drive_with_ranks_best_2_L2 f_1 runner_2 y_12 x_22 (n_33 + 1) v_28 v_29 v_30 v_31 v_32 = some (v_34, v_35, v_36, v_37) := h
      rw [m_ranks_direction_drive_with_ranks_best_2_L2] at h
      refine Tr.seq ?_
      refine Tr.region layOK ?_
      conv => whnf
      refine Tr.seq ?_
      refine Tr.cond ?_
      conv => whnf
      refine condS_bif h (fun hb40 h => ?_) (fun hb40 h => ?_)
      · refine Tr.skip ?_
        conv => whnf
        refine Tr.seq ?_
        refine Tr.block ?_
        refine Tr.seq ?_
        refine Tr.region layOK ?_
        conv => whnf
        obtain ⟨x_41, hx_41, h⟩ := bind_some h
        refine ixP_of hx_41 ?_
        conv => whnf
        refine Tr.seq ?_
        refine Tr.seq ?_
        refine Tr.region layOK ?_
        conv => whnf
        refine Tr.cond ?_
        conv => whnf
        refine condS_bif h (fun hb42 h => ?_) (fun hb42 h => ?_)
        · refine Tr.exit ?_
          conv => whnf
          refine Tr.region layOK ?_
          conv => whnf
          refine arS_raw ?_
          conv => whnf
          refine ⟨((w64 (v_28 + 1)), v_29, v_30, v_31, v_32), h, ?_⟩
          exact Wk.mk2 [0, 1, 2, 3, 4] 6 rfl rfl (by decide) rfl ⟨⟨rfl, rfl⟩, ⟨rfl, rfl⟩, ⟨rfl, rfl⟩, ⟨rfl, rfl⟩, ⟨rfl, rfl⟩, trivial⟩ ⟨⟨rfl, rfl⟩, ⟨rfl, rfl⟩, ⟨rfl, rfl⟩, ⟨rfl, rfl⟩, ⟨rfl, rfl⟩, ⟨rfl, rfl⟩, ⟨rfl, rfl⟩, ⟨rfl, rfl⟩, ⟨rfl, rfl⟩, trivial⟩
        · refine Tr.skip ?_
          conv => whnf
          refine Tr.seq ?_
          refine Tr.region layOK ?_
          conv => whnf
          refine Tr.seq ?_
          refine Tr.seq ?_
          refine Tr.region layOK ?_
          conv => whnf
          refine lnS_map ?_
          conv => whnf
          obtain ⟨n_48, hv57, h⟩ := bind_some h
          refine Tr.cutQ1 ([(3, .pt 0 0), (4, .pt 1 0), (5, .pt 2 0), (6, .pt 3 0), (7, .pt 4 0), (8, .d (.i .i64 y_12)), (9, .d (.i .i64 v_28)), (11, .d (.i .i64 n_48)), (26, .d (.ls (List.map eTOutcome x_22))), (27, .d (.i .i64 (((x_22).length : Int)))), (28, .d (.i .i64 v_28))]) ([some (.var [.d (.fn 83 []), .d (.fn 84 []), .d (.fn 85 []), .d (.fn 86 [])]), some (.var [.d (.ls (List.map eTSegment f_1.Clocks.Segments)), .d (.ls (List.map (eL eI) f_1.Clocks.Far)), .d (.ls (List.map eTPair f_1.Pairs)), .d (.ls (List.map eTRunner f_1.Runners))]), some (.var [.d (.i .i64 runner_2)]), some (.var [.d (.i .i64 v_29), .d (.i .i64 v_30), .d (.i .i64 v_31)]), some (.var [.d (.b v_32)])]) ?_ (fun T1 H1 hw => ?_)
          · replace h := hv57; clear hv57
            refine Tr.block ?_
            refine Tr.loopM (σ := Int × Int) (fun n s => m_ranks_direction_drive_with_ranks_best_2_L3 f_1 runner_2 y_12 x_41 n s.1 s.2) n_48 (fun s => ([(3, .pt 0 0), (4, .pt 1 0), (5, .pt 2 0), (6, .pt 3 0), (7, .pt 4 0), (8, .d (.i .i64 y_12)), (9, .d (.i .i64 v_28)), (10, .pt 5 0), (11, .d (.i .i64 s.1)), (26, .d (.ls (List.map eTOutcome x_22))), (27, .d (.i .i64 (((x_22).length : Int)))), (28, .d (.i .i64 v_28)), (37, .d (.i .i64 (((f_1.Runners).length : Int)))), (38, .d (.i .i64 s.2))], [some (.var [.d (.fn 83 []), .d (.fn 84 []), .d (.fn 85 []), .d (.fn 86 [])]), some (.var [.d (.ls (List.map eTSegment f_1.Clocks.Segments)), .d (.ls (List.map (eL eI) f_1.Clocks.Far)), .d (.ls (List.map eTPair f_1.Pairs)), .d (.ls (List.map eTRunner f_1.Runners))]), some (.var [.d (.i .i64 runner_2)]), some (.var [.d (.i .i64 v_29), .d (.i .i64 v_30), .d (.i .i64 v_31)]), some (.var [.d (.b v_32)]), some (.var [.d (.b x_41.Out), .d (.i .i64 x_41.Seg), .d (.i .i64 x_41.Lo), .d (.i .i64 x_41.Hi)])])) (((((f_1.Runners).length : Int)) - 0 : Int).toNat + 1) (1, 0) h (fun s => rfl) (Wk.mk2 [0, 1, 2, 3, 4, 5] 6 rfl rfl (by decide) rfl ⟨⟨rfl, rfl⟩, ⟨rfl, rfl⟩, ⟨rfl, rfl⟩, ⟨rfl, rfl⟩, ⟨rfl, rfl⟩, ⟨rfl, rfl⟩, trivial⟩ ⟨⟨rfl, rfl⟩, ⟨rfl, rfl⟩, ⟨rfl, rfl⟩, ⟨rfl, rfl⟩, ⟨rfl, rfl⟩, ⟨rfl, rfl⟩, ⟨rfl, rfl⟩, ⟨rfl, rfl⟩, ⟨rfl, rfl⟩, ⟨rfl, rfl⟩, ⟨rfl, rfl⟩, ⟨rfl, rfl⟩, ⟨rfl, rfl⟩, ⟨rfl, rfl⟩, trivial⟩) ?_
            clear h
            rintro n_47 ⟨n_45, v_46⟩ h
            replace h : m_ranks_direction_drive_with_ranks_best_2_L3 f_1 runner_2 y_12 x_41 (n_47 + 1) n_45 v_46 = some n_48 := h
            rw [m_ranks_direction_drive_with_ranks_best_2_L3] at h
            refine Tr.seq ?_
            refine Tr.region layOK ?_
            conv => whnf
            refine Tr.seq ?_
            refine Tr.cond ?_
            conv => whnf
            refine condS_bif h (fun hb51 h => ?_) (fun hb51 h => ?_)
            · refine Tr.skip ?_
              conv => whnf
              refine Tr.seq ?_
              refine Tr.block ?_
              refine Tr.seq ?_
              refine Tr.region layOK ?_
              conv => whnf
              refine Tr.seq ?_
              refine Tr.seq ?_
              refine Tr.region layOK ?_
              conv => whnf
              refine Tr.cond ?_
              conv => whnf
              refine condS_bif h (fun hb52 h => ?_) (fun hb52 h => ?_)
              · refine Tr.exit ?_
                conv => whnf
                refine Tr.region layOK ?_
                conv => whnf
                refine arS_raw ?_
                conv => whnf
                refine ⟨(n_45, (w64 (v_46 + 1))), h, ?_⟩
                exact Wk.mk2 [0, 1, 2, 3, 4, 5] 6 rfl rfl (by decide) rfl ⟨⟨rfl, rfl⟩, ⟨rfl, rfl⟩, ⟨rfl, rfl⟩, ⟨rfl, rfl⟩, ⟨rfl, rfl⟩, ⟨rfl, rfl⟩, trivial⟩ ⟨⟨rfl, rfl⟩, ⟨rfl, rfl⟩, ⟨rfl, rfl⟩, ⟨rfl, rfl⟩, ⟨rfl, rfl⟩, ⟨rfl, rfl⟩, ⟨rfl, rfl⟩, ⟨rfl, rfl⟩, ⟨rfl, rfl⟩, ⟨rfl, rfl⟩, ⟨rfl, rfl⟩, ⟨rfl, rfl⟩, ⟨rfl, rfl⟩, ⟨rfl, rfl⟩, trivial⟩
              · refine Tr.skip ?_
                conv => whnf
                refine Tr.seq ?_
                refine Tr.region layOK ?_
                conv => whnf
                obtain ⟨⟨r_53, r_54⟩, hc55, h⟩ := bind_some h
                refine PC.ecall (s_ranks_direction_choose_with_ranks_best_2 f_1 y_12 runner_2 x_41 v_46 r_53 r_54 hc55) (fun rs hrs => ?_)
                subst hrs
                conv => whnf
                refine Tr.seq ?_
                refine Tr.region layOK ?_
                conv => whnf
                refine Tr.cond ?_
                conv => whnf
                refine condS_bif h (fun hb56 h => ?_) (fun hb56 h => ?_)
                · refine Tr.region layOK ?_
                  conv => whnf
                  refine arS_raw ?_
                  conv => whnf
                  refine Tr.region layOK ?_
                  conv => whnf
                  refine arS_raw ?_
                  conv => whnf
                  refine ⟨((w64 (n_45 + 1)), (w64 (v_46 + 1))), h, ?_⟩
                  exact Wk.mk2 [0, 1, 2, 3, 4, 5] 6 rfl rfl (by decide) rfl ⟨⟨rfl, rfl⟩, ⟨rfl, rfl⟩, ⟨rfl, rfl⟩, ⟨rfl, rfl⟩, ⟨rfl, rfl⟩, ⟨rfl, rfl⟩, trivial⟩ ⟨⟨rfl, rfl⟩, ⟨rfl, rfl⟩, ⟨rfl, rfl⟩, ⟨rfl, rfl⟩, ⟨rfl, rfl⟩, ⟨rfl, rfl⟩, ⟨rfl, rfl⟩, ⟨rfl, rfl⟩, ⟨rfl, rfl⟩, ⟨rfl, rfl⟩, ⟨rfl, rfl⟩, ⟨rfl, rfl⟩, ⟨rfl, rfl⟩, ⟨rfl, rfl⟩, trivial⟩
                · refine Tr.skip ?_
                  conv => whnf
                  refine Tr.region layOK ?_
                  conv => whnf
                  refine arS_raw ?_
                  conv => whnf
                  refine ⟨(n_45, (w64 (v_46 + 1))), h, ?_⟩
                  exact Wk.mk2 [0, 1, 2, 3, 4, 5] 6 rfl rfl (by decide) rfl ⟨⟨rfl, rfl⟩, ⟨rfl, rfl⟩, ⟨rfl, rfl⟩, ⟨rfl, rfl⟩, ⟨rfl, rfl⟩, ⟨rfl, rfl⟩, trivial⟩ ⟨⟨rfl, rfl⟩, ⟨rfl, rfl⟩, ⟨rfl, rfl⟩, ⟨rfl, rfl⟩, ⟨rfl, rfl⟩, ⟨rfl, rfl⟩, ⟨rfl, rfl⟩, ⟨rfl, rfl⟩, ⟨rfl, rfl⟩, ⟨rfl, rfl⟩, ⟨rfl, rfl⟩, ⟨rfl, rfl⟩, ⟨rfl, rfl⟩, ⟨rfl, rfl⟩, trivial⟩
            · refine Tr.exit ?_
              conv => whnf
              cases h
              exact Wk.mk2 [0, 1, 2, 3, 4] 6 rfl rfl (by decide) rfl ⟨⟨rfl, rfl⟩, ⟨rfl, rfl⟩, ⟨rfl, rfl⟩, ⟨rfl, rfl⟩, ⟨rfl, rfl⟩, trivial⟩ ⟨⟨rfl, rfl⟩, ⟨rfl, rfl⟩, ⟨rfl, rfl⟩, ⟨rfl, rfl⟩, ⟨rfl, rfl⟩, ⟨rfl, rfl⟩, ⟨rfl, rfl⟩, ⟨rfl, rfl⟩, ⟨rfl, rfl⟩, ⟨rfl, rfl⟩, ⟨rfl, rfl⟩, trivial⟩
          · clear hv57
            conv => whnf
            refine Tr.weak hw ?_
            refine Tr.seq ?_
            obtain ⟨v_58, hv59, h⟩ := bind_some h
            refine Tr.cutQ1 ([(3, .pt 0 0), (4, .pt 1 0), (5, .pt 2 0), (6, .pt 3 0), (7, .pt 4 0), (8, .d (.i .i64 y_12)), (9, .d (.i .i64 v_28)), (11, .d (.i .i64 n_48)), (26, .d (.ls (List.map eTOutcome x_22))), (27, .d (.i .i64 (((x_22).length : Int)))), (28, .d (.i .i64 v_28)), (67, .d (.b v_58))]) ([some (.var [.d (.fn 83 []), .d (.fn 84 []), .d (.fn 85 []), .d (.fn 86 [])]), some (.var [.d (.ls (List.map eTSegment f_1.Clocks.Segments)), .d (.ls (List.map (eL eI) f_1.Clocks.Far)), .d (.ls (List.map eTPair f_1.Pairs)), .d (.ls (List.map eTRunner f_1.Runners))]), some (.var [.d (.i .i64 runner_2)]), some (.var [.d (.i .i64 v_29), .d (.i .i64 v_30), .d (.i .i64 v_31)]), some (.var [.d (.b v_32)])]) ?_ (fun T1 H1 hw => ?_)
            · replace h := hv59; clear hv59
              refine Tr.region layOK ?_
              conv => whnf
              refine condS_bif h (fun hb60 h => ?_) (fun hb60 h => ?_)
              · conv => whnf
                cases h
                exact Wk.mk2 [0, 1, 2, 3, 4] 5 rfl rfl (by decide) rfl ⟨⟨rfl, rfl⟩, ⟨rfl, rfl⟩, ⟨rfl, rfl⟩, ⟨rfl, rfl⟩, ⟨rfl, rfl⟩, trivial⟩ ⟨⟨rfl, rfl⟩, ⟨rfl, rfl⟩, ⟨rfl, rfl⟩, ⟨rfl, rfl⟩, ⟨rfl, rfl⟩, ⟨rfl, rfl⟩, ⟨rfl, rfl⟩, ⟨rfl, rfl⟩, ⟨rfl, rfl⟩, ⟨rfl, rfl⟩, ⟨rfl, rfl⟩, ⟨rfl, rfl⟩, trivial⟩
              · conv => whnf
                obtain ⟨r_61, hc62, h⟩ := bind_some h
                refine PC.ecall (s_ranks_best_2 n_48 v_31 r_61 hc62) (fun rs hrs => ?_)
                subst hrs
                conv => whnf
                cases h
                exact Wk.mk2 [0, 1, 2, 3, 4] 5 rfl rfl (by decide) rfl ⟨⟨rfl, rfl⟩, ⟨rfl, rfl⟩, ⟨rfl, rfl⟩, ⟨rfl, rfl⟩, ⟨rfl, rfl⟩, trivial⟩ ⟨⟨rfl, rfl⟩, ⟨rfl, rfl⟩, ⟨rfl, rfl⟩, ⟨rfl, rfl⟩, ⟨rfl, rfl⟩, ⟨rfl, rfl⟩, ⟨rfl, rfl⟩, ⟨rfl, rfl⟩, ⟨rfl, rfl⟩, ⟨rfl, rfl⟩, ⟨rfl, rfl⟩, ⟨rfl, rfl⟩, trivial⟩
            · clear hv59
              conv => whnf
              refine Tr.weak hw ?_
              refine Tr.cond ?_
              conv => whnf
              refine condS_bif h (fun hb63 h => ?_) (fun hb63 h => ?_)
              · refine Tr.region layOK ?_
                conv => whnf
                refine Tr.region layOK ?_
                conv => whnf
                refine arS_raw ?_
                conv => whnf
                refine ⟨((w64 (v_28 + 1)), y_12, v_28, n_48, true), h, ?_⟩
                exact Wk.mk2 [0, 1, 2, 3, 4] 5 rfl rfl (by decide) rfl ⟨⟨rfl, rfl⟩, ⟨rfl, rfl⟩, ⟨rfl, rfl⟩, ⟨rfl, rfl⟩, ⟨rfl, rfl⟩, trivial⟩ ⟨⟨rfl, rfl⟩, ⟨rfl, rfl⟩, ⟨rfl, rfl⟩, ⟨rfl, rfl⟩, ⟨rfl, rfl⟩, ⟨rfl, rfl⟩, ⟨rfl, rfl⟩, ⟨rfl, rfl⟩, ⟨rfl, rfl⟩, trivial⟩
              · refine Tr.skip ?_
                conv => whnf
                refine Tr.region layOK ?_
                conv => whnf
                refine arS_raw ?_
                conv => whnf
                refine ⟨((w64 (v_28 + 1)), v_29, v_30, v_31, v_32), h, ?_⟩
                exact Wk.mk2 [0, 1, 2, 3, 4] 5 rfl rfl (by decide) rfl ⟨⟨rfl, rfl⟩, ⟨rfl, rfl⟩, ⟨rfl, rfl⟩, ⟨rfl, rfl⟩, ⟨rfl, rfl⟩, trivial⟩ ⟨⟨rfl, rfl⟩, ⟨rfl, rfl⟩, ⟨rfl, rfl⟩, ⟨rfl, rfl⟩, ⟨rfl, rfl⟩, ⟨rfl, rfl⟩, ⟨rfl, rfl⟩, ⟨rfl, rfl⟩, ⟨rfl, rfl⟩, trivial⟩
      · refine Tr.exit ?_
        conv => whnf
        cases h
        exact Wk.mk2 [0, 1, 2, 3, 4] 5 rfl rfl (by decide) rfl ⟨⟨rfl, rfl⟩, ⟨rfl, rfl⟩, ⟨rfl, rfl⟩, ⟨rfl, rfl⟩, ⟨rfl, rfl⟩, trivial⟩ trivial
    · clear hv64
      conv => whnf
      cases h
      refine Wk.trans (F := 5) hw ?_
      exact Wk.mk2 [0, 1, 2, 3, 4] 5 rfl rfl (by decide) rfl ⟨⟨rfl, rfl⟩, ⟨rfl, rfl⟩, ⟨rfl, rfl⟩, ⟨rfl, rfl⟩, ⟨rfl, rfl⟩, trivial⟩ trivial
  · clear hv69
    conv => whnf
    refine Tr.seq ?_
    refine Tr.draw (DrawP.seqQ layOK mixed [(2, 3), (3, 4)] [(0, 6), (1, 7), (2, 0), (3, 0)] (by kernel_rfl) ?_)
    conv => whnf
    refine ⟨_, ⟨rfl, rfl, (by (conv => whnf); (exact ⟨rfl, rfl⟩))⟩, ?_⟩
    conv => whnf
    refine ⟨_, ⟨rfl, rfl, (by (conv => whnf); (exact ⟨rfl, rfl⟩))⟩, ?_⟩
    conv => whnf
    refine ⟨_, _, (by (conv => whnf); (exact ⟨rfl, rfl⟩)), kp_ok (by repeat (first | exact trivial | refine ⟨trivial, ?_⟩ | refine ⟨rfl, ?_⟩)), ?_⟩
    conv => whnf
    refine ⟨_, _, (by (conv => whnf); (exact ⟨rfl, rfl⟩)), kp_ok (by repeat (first | exact trivial | refine ⟨trivial, ?_⟩ | refine ⟨rfl, ?_⟩)), ?_⟩
    conv => whnf
    refine Tr.ret ?_
    conv => whnf
    cases h
    rfl

theorem s_ranks_worst (h : m_ranks_worst = some ()) :
    PC prog 52 [] (fun rs => rs = [(.ag [(.fn 84 []), (.fn 83 []), (.fn 87 []), (.fn 88 [])])]) := by
  refine PC.of_tr (cx := ⟨2, none, lay, 0⟩) layOK func52 rfl rfl rfl rfl rfl (by simp [f52]) ?_
  unfold m_ranks_worst at h
  refine Tr.seq ?_
  refine Tr.region layOK ?_
  conv => whnf
  refine Tr.seq ?_
  refine Tr.region layOK ?_
  conv => whnf
  refine Tr.ret ?_
  conv => whnf

theorem s_ranks_worst_2 (n_1 : Int) (m_2 : Int) (r_3 : Bool) (h : m_ranks_worst_2 n_1 m_2 = some r_3) :
    PC prog 88 [(.i .i64 n_1), (.i .i64 m_2)] (fun rs => rs = [(.b r_3)]) := by
  refine PC.of_tr (cx := ⟨8, none, lay, 0⟩) layOK func88 rfl rfl rfl rfl rfl (by simp [f88]) ?_
  unfold m_ranks_worst_2 at h
  refine Tr.seq ?_
  refine Tr.region layOK ?_
  conv => whnf
  refine Tr.seq ?_
  refine Tr.region layOK ?_
  conv => whnf
  refine Tr.ret ?_
  conv => whnf
  cases h
  rfl

theorem s_ranks_worst_1 (far_1 : List (List Int)) (a_2 : Int) (b_3 : Int) (r_4 : Int) (h : m_ranks_worst_1 far_1 a_2 b_3 = some r_4) :
    PC prog 87 [(.ls (List.map (eL eI) far_1)), (.i .i64 a_2), (.i .i64 b_3)] (fun rs => rs = [(.i .i64 r_4)]) := by
  refine PC.of_tr (cx := ⟨15, none, lay, 0⟩) layOK func87 rfl rfl rfl rfl rfl (by simp [f87]) ?_
  unfold m_ranks_worst_1 at h
  refine Tr.seq ?_
  refine Tr.region layOK ?_
  conv => whnf
  refine Tr.seq ?_
  refine Tr.region layOK ?_
  conv => whnf
  obtain ⟨x_5, hx_5, h⟩ := bind_some h
  refine ixP_of hx_5 ?_
  conv => whnf
  obtain ⟨x_6, hx_6, h⟩ := bind_some h
  refine ixP_of hx_6 ?_
  conv => whnf
  refine arS_raw ?_
  conv => whnf
  refine Tr.ret ?_
  conv => whnf
  cases h
  rfl

theorem s_ranks_direction_ahead_with_ranks_worst_2 (f_1 : TField) (runner_2 : Int) (x_3 : TOutcome) (rival_4 : Int) (y_5 : TOutcome) (r_6 : Bool) (h : m_ranks_direction_ahead_with_ranks_worst_2 f_1 runner_2 x_3 rival_4 y_5 = some r_6) :
    PC prog 108 [(.ag [(.fn 84 []), (.fn 83 []), (.fn 87 []), (.fn 88 [])]), (eTField f_1), (.i .i64 runner_2), (eTOutcome x_3), (.i .i64 rival_4), (eTOutcome y_5)] (fun rs => rs = [(.b r_6)]) := by
  refine PC.of_tr (cx := ⟨60, none, lay, 0⟩) layOK func108 rfl rfl rfl rfl rfl (by simp [f108]) ?_
  unfold m_ranks_direction_ahead_with_ranks_worst_2 at h
  refine Tr.seq ?_
  refine Tr.region layOK ?_
  conv => whnf
  refine Tr.seq ?_
  refine Tr.seq ?_
  refine Tr.region layOK ?_
  conv => whnf
  refine Tr.cond ?_
  conv => whnf
  refine condS_bif h (fun hb7 h => ?_) (fun hb7 h => ?_)
  · refine Tr.seq ?_
    refine Tr.region layOK ?_
    conv => whnf
    refine Tr.ret ?_
    conv => whnf
    cases h
    rfl
  · refine Tr.skip ?_
    conv => whnf
    refine Tr.seq ?_
    refine Tr.draw (DrawP.seqQ layOK mixed [] [(0, 3), (1, 3), (2, 6), (3, 1), (4, 3), (5, 3), (6, 4), (7, 4), (8, 4), (9, 5), (10, 5), (11, 1), (12, 6), (13, 6), (14, 1), (15, 1), (16, 1), (17, 3), (18, 3), (19, 5), (20, 1), (21, 1), (22, 1)] (by kernel_rfl) ?_)
    conv => whnf
    refine ⟨_, ⟨rfl, rfl, (by (conv => whnf); (exact ⟨rfl, rfl⟩))⟩, ?_⟩
    conv => whnf
    refine ⟨_, ⟨rfl, rfl, (by (conv => whnf); (exact ⟨rfl, rfl⟩))⟩, ?_⟩
    conv => whnf
    refine ⟨_, ⟨rfl, rfl, (by (conv => whnf); (exact ⟨rfl, rfl⟩))⟩, ?_⟩
    conv => whnf
    obtain ⟨r_8, hc9, h⟩ := bind_some h
    refine ⟨_, (fun H => by (conv => whnf); (refine PC.ecall (s_ranks_lo y_5 r_8 hc9) (fun rs hrs => ?_)); (subst hrs); (conv => whnf); (exact ⟨rfl, rfl⟩)), ?_⟩
    conv => whnf
    refine ⟨_, ⟨rfl, rfl, (by (conv => whnf); (exact ⟨rfl, rfl⟩))⟩, ?_⟩
    conv => whnf
    refine ⟨_, ⟨rfl, rfl, (by (conv => whnf); (exact ⟨rfl, rfl⟩))⟩, ?_⟩
    conv => whnf
    refine ⟨_, ⟨rfl, rfl, (by (conv => whnf); (exact ⟨rfl, rfl⟩))⟩, ?_⟩
    conv => whnf
    refine ⟨_, ⟨rfl, rfl, (by (conv => whnf); (exact ⟨rfl, rfl⟩))⟩, ?_⟩
    conv => whnf
    refine ⟨_, ⟨rfl, rfl, (by (conv => whnf); (exact ⟨rfl, rfl⟩))⟩, ?_⟩
    conv => whnf
    refine ⟨_, ⟨rfl, rfl, (by (conv => whnf); (exact ⟨rfl, rfl⟩))⟩, ?_⟩
    conv => whnf
    refine ⟨_, ⟨rfl, rfl, (by (conv => whnf); (exact ⟨rfl, rfl⟩))⟩, ?_⟩
    conv => whnf
    refine ⟨_, (fun H => by (conv => whnf); (refine arS_raw ?_); (conv => whnf); (exact ⟨rfl, rfl⟩)), ?_⟩
    conv => whnf
    refine ⟨_, ⟨rfl, rfl, (by (conv => whnf); (exact ⟨rfl, rfl⟩))⟩, ?_⟩
    conv => whnf
    refine ⟨_, ⟨rfl, rfl, (by (conv => whnf); (exact ⟨rfl, rfl⟩))⟩, ?_⟩
    conv => whnf
    refine ⟨_, (fun H => by (conv => whnf); (refine arS_raw ?_); (conv => whnf); (exact ⟨rfl, rfl⟩)), ?_⟩
    conv => whnf
    obtain ⟨r_10, hc11, h⟩ := bind_some h
    refine ⟨_, (fun H => by (conv => whnf); (refine PC.ecall (s_ranks_worst_1 f_1.Clocks.Far ((w64 (x_3.Seg + 1))) ((w64 (y_5.Seg + 1))) r_10 hc11) (fun rs hrs => ?_)); (subst hrs); (conv => whnf); (exact ⟨rfl, rfl⟩)), ?_⟩
    conv => whnf
    refine ⟨_, (fun H => by (conv => whnf); (refine arS_raw ?_); (conv => whnf); (exact ⟨rfl, rfl⟩)), ?_⟩
    conv => whnf
    refine ⟨_, ⟨rfl, rfl, (by (conv => whnf); (exact ⟨rfl, rfl⟩))⟩, ?_⟩
    conv => whnf
    refine ⟨_, ⟨rfl, rfl, (by (conv => whnf); (exact ⟨rfl, rfl⟩))⟩, ?_⟩
    conv => whnf
    refine ⟨_, ⟨rfl, rfl, (by (conv => whnf); (exact ⟨rfl, rfl⟩))⟩, ?_⟩
    conv => whnf
    obtain ⟨r_12, hc13, h⟩ := bind_some h
    refine ⟨_, (fun H => by (conv => whnf); (refine PC.ecall (s_ranks_hi x_3 r_12 hc13) (fun rs hrs => ?_)); (subst hrs); (conv => whnf); (exact ⟨rfl, rfl⟩)), ?_⟩
    conv => whnf
    refine ⟨_, (fun H => by (conv => whnf); (refine arS_raw ?_); (conv => whnf); (exact ⟨rfl, rfl⟩)), ?_⟩
    conv => whnf
    refine ⟨_, (fun H => by (conv => whnf); (exact ⟨rfl, rfl⟩)), ?_⟩
    conv => whnf
    refine Tr.seq ?_
    refine Tr.draw (DrawP.seqQ layOK mixed [] [(0, 1), (1, 1), (2, 1), (3, 1), (4, 1), (5, 1), (6, 4), (7, 4), (8, 1), (9, 2), (10, 2), (11, 2), (12, 4), (13, 4), (14, 1), (15, 2), (16, 2), (17, 2), (18, 1), (19, 1), (20, 1), (21, 1), (22, 1)] (by kernel_rfl) ?_)
    conv => whnf
    refine ⟨_, (fun H => by (conv => whnf); (exact ⟨rfl, rfl⟩)), ?_⟩
    conv => whnf
    refine ⟨_, (fun H => by (conv => whnf); (exact ⟨rfl, rfl⟩)), ?_⟩
    conv => whnf
    refine ⟨_, (fun H => by (conv => whnf); (exact ⟨rfl, rfl⟩)), ?_⟩
    conv => whnf
    refine condS_bif h (fun hb14 h => ?_) (fun hb14 h => ?_)
    · conv => whnf
      refine ⟨_, (fun H => by (conv => whnf); (exact ⟨rfl, rfl⟩)), ?_⟩
      conv => whnf
      refine ⟨_, (fun H => by (conv => whnf); (exact ⟨rfl, rfl⟩)), ?_⟩
      conv => whnf
      refine Tr.ret ?_
      conv => whnf
      cases h
      rfl
    · conv => whnf
      refine ⟨_, (fun H => by (conv => whnf); (exact ⟨rfl, rfl⟩)), ?_⟩
      conv => whnf
      refine ⟨_, (fun H => by (conv => whnf); (exact ⟨rfl, rfl⟩)), ?_⟩
      conv => whnf
      refine ⟨_, (fun H => by (conv => whnf); (exact ⟨rfl, rfl⟩)), ?_⟩
      conv => whnf
      refine condS_bif h (fun hb15 h => ?_) (fun hb15 h => ?_)
      · conv => whnf
        refine ⟨_, ⟨rfl, rfl, (by (conv => whnf); (exact ⟨rfl, rfl⟩))⟩, ?_⟩
        conv => whnf
        refine ⟨_, ⟨rfl, rfl, (by (conv => whnf); (exact ⟨rfl, rfl⟩))⟩, ?_⟩
        conv => whnf
        refine ⟨_, (fun H => by (conv => whnf); (exact ⟨rfl, rfl⟩)), ?_⟩
        conv => whnf
        obtain ⟨x_16, hx_16, h⟩ := bind_some h
        refine ⟨_, ⟨rfl, rfl, (by (conv => whnf); (refine ixP_of hx_16 ?_); (conv => whnf); (exact ⟨rfl, rfl⟩))⟩, ?_⟩
        conv => whnf
        refine ⟨_, ⟨rfl, rfl, (by (conv => whnf); (exact ⟨rfl, rfl⟩))⟩, ?_⟩
        conv => whnf
        refine ⟨_, ⟨rfl, rfl, (by (conv => whnf); (exact ⟨rfl, rfl⟩))⟩, ?_⟩
        conv => whnf
        refine ⟨_, ⟨rfl, rfl, (by (conv => whnf); (exact ⟨rfl, rfl⟩))⟩, ?_⟩
        conv => whnf
        refine ⟨_, ⟨rfl, rfl, (by (conv => whnf); (exact ⟨rfl, rfl⟩))⟩, ?_⟩
        conv => whnf
        refine ⟨_, (fun H => by (conv => whnf); (exact ⟨rfl, rfl⟩)), ?_⟩
        conv => whnf
        obtain ⟨x_17, hx_17, h⟩ := bind_some h
        refine ⟨_, ⟨rfl, rfl, (by (conv => whnf); (refine ixP_of hx_17 ?_); (conv => whnf); (exact ⟨rfl, rfl⟩))⟩, ?_⟩
        conv => whnf
        refine ⟨_, ⟨rfl, rfl, (by (conv => whnf); (exact ⟨rfl, rfl⟩))⟩, ?_⟩
        conv => whnf
        refine ⟨_, ⟨rfl, rfl, (by (conv => whnf); (exact ⟨rfl, rfl⟩))⟩, ?_⟩
        conv => whnf
        obtain ⟨r_18, hc19, h⟩ := bind_some h
        refine ⟨_, (fun H => by (conv => whnf); (refine PC.ecall (s_slices_Compare_int_int x_16.Keys x_17.Keys r_18 hc19) (fun rs hrs => ?_)); (subst hrs); (conv => whnf); (exact ⟨rfl, rfl⟩)), ?_⟩
        conv => whnf
        refine ⟨_, (fun H => by (conv => whnf); (exact ⟨rfl, rfl⟩)), ?_⟩
        conv => whnf
        refine ⟨_, (fun H => by (conv => whnf); (exact ⟨rfl, rfl⟩)), ?_⟩
        conv => whnf
        refine ⟨_, (fun H => by (conv => whnf); (exact ⟨rfl, rfl⟩)), ?_⟩
        conv => whnf
        refine ⟨_, (fun H => by (conv => whnf); (exact ⟨rfl, rfl⟩)), ?_⟩
        conv => whnf
        refine Tr.ret ?_
        conv => whnf
        cases h
        rfl
      · conv => whnf
        refine ⟨_, (fun H => by (conv => whnf); (exact ⟨rfl, rfl⟩)), ?_⟩
        conv => whnf
        refine ⟨_, (fun H => by (conv => whnf); (exact ⟨rfl, rfl⟩)), ?_⟩
        conv => whnf
        refine ⟨_, (fun H => by (conv => whnf); (exact ⟨rfl, rfl⟩)), ?_⟩
        conv => whnf
        refine Tr.ret ?_
        conv => whnf
        cases h
        rfl

theorem s_ranks_direction_choose_with_ranks_worst_2 (f_1 : TField) (w_2 : Int) (runner_3 : Int) (x_4 : TOutcome) (rival_5 : Int) (r_6 : Int) (r_7 : Bool) (h : m_ranks_direction_choose_with_ranks_worst_2 f_1 w_2 runner_3 x_4 rival_5 = some (r_6, r_7)) :
    PC prog 105 [(.ag [(.fn 84 []), (.fn 83 []), (.fn 87 []), (.fn 88 [])]), (eTField f_1), (.i .i64 w_2), (.i .i64 runner_3), (eTOutcome x_4), (.i .i64 rival_5)] (fun rs => rs = [(.i .i64 r_6), (.b r_7)]) := by
  refine PC.of_tr (cx := ⟨49, none, lay, 0⟩) layOK func105 rfl rfl rfl rfl rfl (by simp [f105]) ?_
  unfold m_ranks_direction_choose_with_ranks_worst_2 at h
  refine Tr.seq ?_
  refine Tr.region layOK ?_
  conv => whnf
  refine Tr.seq ?_
  refine Tr.region layOK ?_
  conv => whnf
  obtain ⟨r_8, hc9, h⟩ := bind_some h
  refine PC.ecall (s_ranks_worst_2 2 1 r_8 hc9) (fun rs hrs => ?_)
  subst hrs
  conv => whnf
  refine Tr.seq ?_
  refine Tr.seq ?_
  refine Tr.region layOK ?_
  conv => whnf
  obtain ⟨x_10, hx_10, h⟩ := bind_some h
  refine ixP_of hx_10 ?_
  conv => whnf
  obtain ⟨x_11, hx_11, h⟩ := bind_some h
  refine ixP_of hx_11 ?_
  conv => whnf
  refine lnS_map ?_
  conv => whnf
  refine Tr.cutQ (α := Unit) (fun s => ([(12, .d (.i .i64 0)), (13, .d (.b false)), (14, .d (.b r_8))], [])) (fun s => m_ranks_direction_choose_with_ranks_worst_2_J2 r_8 s = some (r_6, r_7)) ?_ ?_
  · refine Tr.block ?_
    refine Tr.loopM (σ := Int) (fun n s => m_ranks_direction_choose_with_ranks_worst_2_L1 f_1 runner_3 x_4 rival_5 r_8 x_11 (m_ranks_direction_choose_with_ranks_worst_2_J2 r_8) n s) (r_6, r_7) (fun s => ([(3, .d (.i .i64 runner_3)), (5, .d (.i .i64 rival_5)), (6, .pt 0 0), (7, .pt 1 0), (10, .pt 2 0), (12, .d (.i .i64 0)), (13, .d (.b false)), (14, .d (.b r_8)), (28, .d (.ls (List.map eTOutcome x_11))), (29, .d (.i .i64 (((x_11).length : Int)))), (30, .d (.i .i64 s))], [some (.var [.d (.fn 84 []), .d (.fn 83 []), .d (.fn 87 []), .d (.fn 88 [])]), some (.var [.d (.ls (List.map eTSegment f_1.Clocks.Segments)), .d (.ls (List.map (eL eI) f_1.Clocks.Far)), .d (.ls (List.map eTPair f_1.Pairs)), .d (.ls (List.map eTRunner f_1.Runners))]), some (.var [.d (.b x_4.Out), .d (.i .i64 x_4.Seg), .d (.i .i64 x_4.Lo), .d (.i .i64 x_4.Hi)])])) (((((x_11).length : Int)) - 0 : Int).toNat + 1) (0) h (fun s => rfl) (Wk.mk2 [0, 1, 2] 3 rfl rfl (by decide) rfl ⟨⟨rfl, rfl⟩, ⟨rfl, rfl⟩, ⟨rfl, rfl⟩, trivial⟩ ⟨⟨rfl, rfl⟩, ⟨rfl, rfl⟩, ⟨rfl, rfl⟩, ⟨rfl, rfl⟩, ⟨rfl, rfl⟩, ⟨rfl, rfl⟩, ⟨rfl, rfl⟩, ⟨rfl, rfl⟩, ⟨rfl, rfl⟩, ⟨rfl, rfl⟩, ⟨rfl, rfl⟩, trivial⟩) ?_
    clear h
    rintro n_14 v_13 h
    replace h : m_ranks_direction_choose_with_ranks_worst_2_L1 f_1 runner_3 x_4 rival_5 r_8 x_11 (m_ranks_direction_choose_with_ranks_worst_2_J2 r_8) (n_14 + 1) v_13 = some (r_6, r_7) := h
    rw [m_ranks_direction_choose_with_ranks_worst_2_L1] at h
    refine Tr.seq ?_
    refine Tr.region layOK ?_
    conv => whnf
    refine Tr.seq ?_
    refine Tr.cond ?_
    conv => whnf
    refine condS_bif h (fun hb17 h => ?_) (fun hb17 h => ?_)
    · refine Tr.skip ?_
      conv => whnf
      refine Tr.seq ?_
      refine Tr.block ?_
      refine Tr.seq ?_
      refine Tr.region layOK ?_
      conv => whnf
      obtain ⟨x_18, hx_18, h⟩ := bind_some h
      refine ixP_of hx_18 ?_
      conv => whnf
      refine Tr.seq ?_
      refine Tr.region layOK ?_
      conv => whnf
      obtain ⟨r_19, hc20, h⟩ := bind_some h
      refine PC.ecall (s_ranks_direction_ahead_with_ranks_worst_2 f_1 runner_3 x_4 rival_5 x_18 r_19 hc20) (fun rs hrs => ?_)
      subst hrs
      conv => whnf
      refine Tr.cond ?_
      conv => whnf
      refine condS_bif h (fun hb21 h => ?_) (fun hb21 h => ?_)
      · refine Tr.seq ?_
        refine Tr.region layOK ?_
        conv => whnf
        refine Tr.ret ?_
        conv => whnf
        cases h
        rfl
      · refine Tr.skip ?_
        conv => whnf
        refine Tr.region layOK ?_
        conv => whnf
        refine arS_raw ?_
        conv => whnf
        refine ⟨((w64 (v_13 + 1))), h, ?_⟩
        exact Wk.mk2 [0, 1, 2] 4 rfl rfl (by decide) rfl ⟨⟨rfl, rfl⟩, ⟨rfl, rfl⟩, ⟨rfl, rfl⟩, trivial⟩ ⟨⟨rfl, rfl⟩, ⟨rfl, rfl⟩, ⟨rfl, rfl⟩, ⟨rfl, rfl⟩, ⟨rfl, rfl⟩, ⟨rfl, rfl⟩, ⟨rfl, rfl⟩, ⟨rfl, rfl⟩, ⟨rfl, rfl⟩, ⟨rfl, rfl⟩, ⟨rfl, rfl⟩, trivial⟩
    · refine Tr.exit ?_
      conv => whnf
      refine ⟨(), h, ?_⟩
      exact Wk.mk2 [] 3 rfl rfl (by decide) rfl trivial ⟨⟨rfl, rfl⟩, ⟨rfl, rfl⟩, ⟨rfl, rfl⟩, trivial⟩
  · clear h
    rintro _ h T1 H1 hw
    replace h : m_ranks_direction_choose_with_ranks_worst_2_J2 r_8 () = some (r_6, r_7) := h
    conv => whnf
    refine Tr.weak hw ?_
    unfold m_ranks_direction_choose_with_ranks_worst_2_J2 at h
    refine Tr.seq ?_
    refine Tr.region layOK ?_
    conv => whnf
    refine Tr.ret ?_
    conv => whnf
    cases h
    rfl

theorem s_ranks_direction_drive_with_ranks_worst_2 (f_1 : TField) (runner_2 : Int) (r_3 : Tranks_place) (r_4 : Bool) (h : m_ranks_direction_drive_with_ranks_worst_2 f_1 runner_2 = some (r_3, r_4)) :
    PC prog 81 [(.ag [(.fn 84 []), (.fn 83 []), (.fn 87 []), (.fn 88 [])]), (eTField f_1), (.i .i64 runner_2)] (fun rs => rs = [(eTranks_place r_3), (.b r_4)]) := by
  refine PC.of_tr (cx := ⟨75, none, lay, 0⟩) layOK func81 rfl rfl rfl rfl rfl (by simp [f81]) ?_
  unfold m_ranks_direction_drive_with_ranks_worst_2 at h
  refine Tr.seq ?_
  refine Tr.region layOK ?_
  conv => whnf
  refine Tr.seq ?_
  refine Tr.seq ?_
  refine Tr.region layOK ?_
  conv => whnf
  obtain ⟨⟨c_5, c_6, c_7, c_8⟩, hc9, h⟩ := bind_some h
  refine PC.ecall (s_ranks_worlds f_1 c_5 c_6 c_7 c_8 hc9) (fun rs hrs => ?_)
  subst hrs
  conv => whnf
  obtain ⟨l_10, hl11, h⟩ := bind_some h
  obtain ⟨⟨v_65, v_66, v_67, v_68⟩, hv69, h⟩ := bind_some h
  refine Tr.block ?_
  refine Tr.rangeM layOK rfl (ge := fun a => [(.i .i64 a)]) rfl (it_ranks_worlds_1 c_5 c_6 c_7 c_8 l_10 hl11) (fun _ => rfl) rfl (fun s => [some (.var [.d (.fn 84 []), .d (.fn 83 []), .d (.fn 87 []), .d (.fn 88 [])]), some (.var [.d (.ls (List.map eTSegment f_1.Clocks.Segments)), .d (.ls (List.map (eL eI) f_1.Clocks.Far)), .d (.ls (List.map eTPair f_1.Pairs)), .d (.ls (List.map eTRunner f_1.Runners))]), some (.var [.d (.i .i64 runner_2)]), some (.var [.d (.i .i64 s.1), .d (.i .i64 s.2.1), .d (.i .i64 s.2.2.1)]), some (.var [.d (.b s.2.2.2)])]) (m_ranks_direction_drive_with_ranks_worst_2_R1 f_1 runner_2) (0, 0, 0, false) (v_65, v_66, v_67, v_68) hv69 (Wk.mk2 [0, 1, 2, 3, 4] 5 rfl rfl (by decide) rfl ⟨⟨rfl, rfl⟩, ⟨rfl, rfl⟩, ⟨rfl, rfl⟩, ⟨rfl, rfl⟩, ⟨rfl, rfl⟩, trivial⟩ trivial) ?_ ?_
  · clear h hv69
    rintro li y_12 ⟨v_17, v_18, v_19, v_20⟩ s_70 ha h
    replace h : (m_ranks_direction_drive_with_ranks_worst_2_R1 f_1 runner_2) y_12 (v_17, v_18, v_19, v_20) = some s_70 := h
    unfold m_ranks_direction_drive_with_ranks_worst_2_R1 at h
    dsimp only at h
    conv => whnf
    refine Tr.block ?_
    refine Tr.seq ?_
    refine Tr.region layOK ?_
    conv => whnf
    obtain ⟨x_21, hx_21, h⟩ := bind_some h
    refine ixP_of hx_21 ?_
    conv => whnf
    obtain ⟨x_22, hx_22, h⟩ := bind_some h
    refine ixP_of hx_22 ?_
    conv => whnf
    refine lnS_map ?_
    conv => whnf
    obtain ⟨⟨v_34, v_35, v_36, v_37⟩, hv64, h⟩ := bind_some h
    refine Tr.cutQ1 ([]) ([some (.var [.d (.fn 84 []), .d (.fn 83 []), .d (.fn 87 []), .d (.fn 88 [])]), some (.var [.d (.ls (List.map eTSegment f_1.Clocks.Segments)), .d (.ls (List.map (eL eI) f_1.Clocks.Far)), .d (.ls (List.map eTPair f_1.Pairs)), .d (.ls (List.map eTRunner f_1.Runners))]), some (.var [.d (.i .i64 runner_2)]), some (.var [.d (.i .i64 v_34), .d (.i .i64 v_35), .d (.i .i64 v_36)]), some (.var [.d (.b v_37)])]) ?_ (fun T1 H1 hw => ?_)
    · replace h := hv64; clear hv64
      refine Tr.block ?_
      refine Tr.loopM (σ := Int × Int × Int × Int × Bool) (fun n s => m_ranks_direction_drive_with_ranks_worst_2_L2 f_1 runner_2 y_12 x_22 n s.1 s.2.1 s.2.2.1 s.2.2.2.1 s.2.2.2.2) (v_34, v_35, v_36, v_37) (fun s => ([(3, .pt 0 0), (4, .pt 1 0), (5, .pt 2 0), (6, .pt 3 0), (7, .pt 4 0), (8, .d (.i .i64 y_12)), (26, .d (.ls (List.map eTOutcome x_22))), (27, .d (.i .i64 (((x_22).length : Int)))), (28, .d (.i .i64 s.1))], [some (.var [.d (.fn 84 []), .d (.fn 83 []), .d (.fn 87 []), .d (.fn 88 [])]), some (.var [.d (.ls (List.map eTSegment f_1.Clocks.Segments)), .d (.ls (List.map (eL eI) f_1.Clocks.Far)), .d (.ls (List.map eTPair f_1.Pairs)), .d (.ls (List.map eTRunner f_1.Runners))]), some (.var [.d (.i .i64 runner_2)]), some (.var [.d (.i .i64 s.2.1), .d (.i .i64 s.2.2.1), .d (.i .i64 s.2.2.2.1)]), some (.var [.d (.b s.2.2.2.2)])])) (((((x_22).length : Int)) - 0 : Int).toNat + 1) (0, v_17, v_18, v_19, v_20) h (fun s => rfl) (Wk.mk2 [0, 1, 2, 3, 4] 5 rfl rfl (by decide) rfl ⟨⟨rfl, rfl⟩, ⟨rfl, rfl⟩, ⟨rfl, rfl⟩, ⟨rfl, rfl⟩, ⟨rfl, rfl⟩, trivial⟩ ⟨⟨rfl, rfl⟩, ⟨rfl, rfl⟩, ⟨rfl, rfl⟩, ⟨rfl, rfl⟩, ⟨rfl, rfl⟩, ⟨rfl, rfl⟩, ⟨rfl, rfl⟩, ⟨rfl, rfl⟩, ⟨rfl, rfl⟩, trivial⟩) ?_
      clear h
      rintro n_33 ⟨v_28, v_29, v_30, v_31, v_32⟩ h
      replace h : m_ranks_direction_drive_with_ranks_worst_2_L2 f_1 runner_2 y_12 x_22 (n_33 + 1) v_28 v_29 v_30 v_31 v_32 = some (v_34, v_35, v_36, v_37) := h
      rw [m_ranks_direction_drive_with_ranks_worst_2_L2] at h
      refine Tr.seq ?_
      refine Tr.region layOK ?_
      conv => whnf
      refine Tr.seq ?_
      refine Tr.cond ?_
      conv => whnf
      refine condS_bif h (fun hb40 h => ?_) (fun hb40 h => ?_)
      · refine Tr.skip ?_
        conv => whnf
        refine Tr.seq ?_
        refine Tr.block ?_
        refine Tr.seq ?_
        refine Tr.region layOK ?_
        conv => whnf
        obtain ⟨x_41, hx_41, h⟩ := bind_some h
        refine ixP_of hx_41 ?_
        conv => whnf
        refine Tr.seq ?_
        refine Tr.seq ?_
        refine Tr.region layOK ?_
        conv => whnf
        refine Tr.cond ?_
        conv => whnf
        refine condS_bif h (fun hb42 h => ?_) (fun hb42 h => ?_)
        · refine Tr.exit ?_
          conv => whnf
          refine Tr.region layOK ?_
          conv => whnf
          refine arS_raw ?_
          conv => whnf
          refine ⟨((w64 (v_28 + 1)), v_29, v_30, v_31, v_32), h, ?_⟩
          exact Wk.mk2 [0, 1, 2, 3, 4] 6 rfl rfl (by decide) rfl ⟨⟨rfl, rfl⟩, ⟨rfl, rfl⟩, ⟨rfl, rfl⟩, ⟨rfl, rfl⟩, ⟨rfl, rfl⟩, trivial⟩ ⟨⟨rfl, rfl⟩, ⟨rfl, rfl⟩, ⟨rfl, rfl⟩, ⟨rfl, rfl⟩, ⟨rfl, rfl⟩, ⟨rfl, rfl⟩, ⟨rfl, rfl⟩, ⟨rfl, rfl⟩, ⟨rfl, rfl⟩, trivial⟩
        · refine Tr.skip ?_
          conv => whnf
          refine Tr.seq ?_
          refine Tr.region layOK ?_
          conv => whnf
          refine Tr.seq ?_
          refine Tr.seq ?_
          refine Tr.region layOK ?_
          conv => whnf
          refine lnS_map ?_
          conv => whnf
          obtain ⟨n_48, hv57, h⟩ := bind_some h
          refine Tr.cutQ1 ([(3, .pt 0 0), (4, .pt 1 0), (5, .pt 2 0), (6, .pt 3 0), (7, .pt 4 0), (8, .d (.i .i64 y_12)), (9, .d (.i .i64 v_28)), (11, .d (.i .i64 n_48)), (26, .d (.ls (List.map eTOutcome x_22))), (27, .d (.i .i64 (((x_22).length : Int)))), (28, .d (.i .i64 v_28))]) ([some (.var [.d (.fn 84 []), .d (.fn 83 []), .d (.fn 87 []), .d (.fn 88 [])]), some (.var [.d (.ls (List.map eTSegment f_1.Clocks.Segments)), .d (.ls (List.map (eL eI) f_1.Clocks.Far)), .d (.ls (List.map eTPair f_1.Pairs)), .d (.ls (List.map eTRunner f_1.Runners))]), some (.var [.d (.i .i64 runner_2)]), some (.var [.d (.i .i64 v_29), .d (.i .i64 v_30), .d (.i .i64 v_31)]), some (.var [.d (.b v_32)])]) ?_ (fun T1 H1 hw => ?_)
          · replace h := hv57; clear hv57
            refine Tr.block ?_
            refine Tr.loopM (σ := Int × Int) (fun n s => m_ranks_direction_drive_with_ranks_worst_2_L3 f_1 runner_2 y_12 x_41 n s.1 s.2) n_48 (fun s => ([(3, .pt 0 0), (4, .pt 1 0), (5, .pt 2 0), (6, .pt 3 0), (7, .pt 4 0), (8, .d (.i .i64 y_12)), (9, .d (.i .i64 v_28)), (10, .pt 5 0), (11, .d (.i .i64 s.1)), (26, .d (.ls (List.map eTOutcome x_22))), (27, .d (.i .i64 (((x_22).length : Int)))), (28, .d (.i .i64 v_28)), (37, .d (.i .i64 (((f_1.Runners).length : Int)))), (38, .d (.i .i64 s.2))], [some (.var [.d (.fn 84 []), .d (.fn 83 []), .d (.fn 87 []), .d (.fn 88 [])]), some (.var [.d (.ls (List.map eTSegment f_1.Clocks.Segments)), .d (.ls (List.map (eL eI) f_1.Clocks.Far)), .d (.ls (List.map eTPair f_1.Pairs)), .d (.ls (List.map eTRunner f_1.Runners))]), some (.var [.d (.i .i64 runner_2)]), some (.var [.d (.i .i64 v_29), .d (.i .i64 v_30), .d (.i .i64 v_31)]), some (.var [.d (.b v_32)]), some (.var [.d (.b x_41.Out), .d (.i .i64 x_41.Seg), .d (.i .i64 x_41.Lo), .d (.i .i64 x_41.Hi)])])) (((((f_1.Runners).length : Int)) - 0 : Int).toNat + 1) (1, 0) h (fun s => rfl) (Wk.mk2 [0, 1, 2, 3, 4, 5] 6 rfl rfl (by decide) rfl ⟨⟨rfl, rfl⟩, ⟨rfl, rfl⟩, ⟨rfl, rfl⟩, ⟨rfl, rfl⟩, ⟨rfl, rfl⟩, ⟨rfl, rfl⟩, trivial⟩ ⟨⟨rfl, rfl⟩, ⟨rfl, rfl⟩, ⟨rfl, rfl⟩, ⟨rfl, rfl⟩, ⟨rfl, rfl⟩, ⟨rfl, rfl⟩, ⟨rfl, rfl⟩, ⟨rfl, rfl⟩, ⟨rfl, rfl⟩, ⟨rfl, rfl⟩, ⟨rfl, rfl⟩, ⟨rfl, rfl⟩, ⟨rfl, rfl⟩, ⟨rfl, rfl⟩, trivial⟩) ?_
            clear h
            rintro n_47 ⟨n_45, v_46⟩ h
            replace h : m_ranks_direction_drive_with_ranks_worst_2_L3 f_1 runner_2 y_12 x_41 (n_47 + 1) n_45 v_46 = some n_48 := h
            rw [m_ranks_direction_drive_with_ranks_worst_2_L3] at h
            refine Tr.seq ?_
            refine Tr.region layOK ?_
            conv => whnf
            refine Tr.seq ?_
            refine Tr.cond ?_
            conv => whnf
            refine condS_bif h (fun hb51 h => ?_) (fun hb51 h => ?_)
            · refine Tr.skip ?_
              conv => whnf
              refine Tr.seq ?_
              refine Tr.block ?_
              refine Tr.seq ?_
              refine Tr.region layOK ?_
              conv => whnf
              refine Tr.seq ?_
              refine Tr.seq ?_
              refine Tr.region layOK ?_
              conv => whnf
              refine Tr.cond ?_
              conv => whnf
              refine condS_bif h (fun hb52 h => ?_) (fun hb52 h => ?_)
              · refine Tr.exit ?_
                conv => whnf
                refine Tr.region layOK ?_
                conv => whnf
                refine arS_raw ?_
                conv => whnf
                refine ⟨(n_45, (w64 (v_46 + 1))), h, ?_⟩
                exact Wk.mk2 [0, 1, 2, 3, 4, 5] 6 rfl rfl (by decide) rfl ⟨⟨rfl, rfl⟩, ⟨rfl, rfl⟩, ⟨rfl, rfl⟩, ⟨rfl, rfl⟩, ⟨rfl, rfl⟩, ⟨rfl, rfl⟩, trivial⟩ ⟨⟨rfl, rfl⟩, ⟨rfl, rfl⟩, ⟨rfl, rfl⟩, ⟨rfl, rfl⟩, ⟨rfl, rfl⟩, ⟨rfl, rfl⟩, ⟨rfl, rfl⟩, ⟨rfl, rfl⟩, ⟨rfl, rfl⟩, ⟨rfl, rfl⟩, ⟨rfl, rfl⟩, ⟨rfl, rfl⟩, ⟨rfl, rfl⟩, ⟨rfl, rfl⟩, trivial⟩
              · refine Tr.skip ?_
                conv => whnf
                refine Tr.seq ?_
                refine Tr.region layOK ?_
                conv => whnf
                obtain ⟨⟨r_53, r_54⟩, hc55, h⟩ := bind_some h
                refine PC.ecall (s_ranks_direction_choose_with_ranks_worst_2 f_1 y_12 runner_2 x_41 v_46 r_53 r_54 hc55) (fun rs hrs => ?_)
                subst hrs
                conv => whnf
                refine Tr.seq ?_
                refine Tr.region layOK ?_
                conv => whnf
                refine Tr.cond ?_
                conv => whnf
                refine condS_bif h (fun hb56 h => ?_) (fun hb56 h => ?_)
                · refine Tr.region layOK ?_
                  conv => whnf
                  refine arS_raw ?_
                  conv => whnf
                  refine Tr.region layOK ?_
                  conv => whnf
                  refine arS_raw ?_
                  conv => whnf
                  refine ⟨((w64 (n_45 + 1)), (w64 (v_46 + 1))), h, ?_⟩
                  exact Wk.mk2 [0, 1, 2, 3, 4, 5] 6 rfl rfl (by decide) rfl ⟨⟨rfl, rfl⟩, ⟨rfl, rfl⟩, ⟨rfl, rfl⟩, ⟨rfl, rfl⟩, ⟨rfl, rfl⟩, ⟨rfl, rfl⟩, trivial⟩ ⟨⟨rfl, rfl⟩, ⟨rfl, rfl⟩, ⟨rfl, rfl⟩, ⟨rfl, rfl⟩, ⟨rfl, rfl⟩, ⟨rfl, rfl⟩, ⟨rfl, rfl⟩, ⟨rfl, rfl⟩, ⟨rfl, rfl⟩, ⟨rfl, rfl⟩, ⟨rfl, rfl⟩, ⟨rfl, rfl⟩, ⟨rfl, rfl⟩, ⟨rfl, rfl⟩, trivial⟩
                · refine Tr.skip ?_
                  conv => whnf
                  refine Tr.region layOK ?_
                  conv => whnf
                  refine arS_raw ?_
                  conv => whnf
                  refine ⟨(n_45, (w64 (v_46 + 1))), h, ?_⟩
                  exact Wk.mk2 [0, 1, 2, 3, 4, 5] 6 rfl rfl (by decide) rfl ⟨⟨rfl, rfl⟩, ⟨rfl, rfl⟩, ⟨rfl, rfl⟩, ⟨rfl, rfl⟩, ⟨rfl, rfl⟩, ⟨rfl, rfl⟩, trivial⟩ ⟨⟨rfl, rfl⟩, ⟨rfl, rfl⟩, ⟨rfl, rfl⟩, ⟨rfl, rfl⟩, ⟨rfl, rfl⟩, ⟨rfl, rfl⟩, ⟨rfl, rfl⟩, ⟨rfl, rfl⟩, ⟨rfl, rfl⟩, ⟨rfl, rfl⟩, ⟨rfl, rfl⟩, ⟨rfl, rfl⟩, ⟨rfl, rfl⟩, ⟨rfl, rfl⟩, trivial⟩
            · refine Tr.exit ?_
              conv => whnf
              cases h
              exact Wk.mk2 [0, 1, 2, 3, 4] 6 rfl rfl (by decide) rfl ⟨⟨rfl, rfl⟩, ⟨rfl, rfl⟩, ⟨rfl, rfl⟩, ⟨rfl, rfl⟩, ⟨rfl, rfl⟩, trivial⟩ ⟨⟨rfl, rfl⟩, ⟨rfl, rfl⟩, ⟨rfl, rfl⟩, ⟨rfl, rfl⟩, ⟨rfl, rfl⟩, ⟨rfl, rfl⟩, ⟨rfl, rfl⟩, ⟨rfl, rfl⟩, ⟨rfl, rfl⟩, ⟨rfl, rfl⟩, ⟨rfl, rfl⟩, trivial⟩
          · clear hv57
            conv => whnf
            refine Tr.weak hw ?_
            refine Tr.seq ?_
            obtain ⟨v_58, hv59, h⟩ := bind_some h
            refine Tr.cutQ1 ([(3, .pt 0 0), (4, .pt 1 0), (5, .pt 2 0), (6, .pt 3 0), (7, .pt 4 0), (8, .d (.i .i64 y_12)), (9, .d (.i .i64 v_28)), (11, .d (.i .i64 n_48)), (26, .d (.ls (List.map eTOutcome x_22))), (27, .d (.i .i64 (((x_22).length : Int)))), (28, .d (.i .i64 v_28)), (67, .d (.b v_58))]) ([some (.var [.d (.fn 84 []), .d (.fn 83 []), .d (.fn 87 []), .d (.fn 88 [])]), some (.var [.d (.ls (List.map eTSegment f_1.Clocks.Segments)), .d (.ls (List.map (eL eI) f_1.Clocks.Far)), .d (.ls (List.map eTPair f_1.Pairs)), .d (.ls (List.map eTRunner f_1.Runners))]), some (.var [.d (.i .i64 runner_2)]), some (.var [.d (.i .i64 v_29), .d (.i .i64 v_30), .d (.i .i64 v_31)]), some (.var [.d (.b v_32)])]) ?_ (fun T1 H1 hw => ?_)
            · replace h := hv59; clear hv59
              refine Tr.region layOK ?_
              conv => whnf
              refine condS_bif h (fun hb60 h => ?_) (fun hb60 h => ?_)
              · conv => whnf
                cases h
                exact Wk.mk2 [0, 1, 2, 3, 4] 5 rfl rfl (by decide) rfl ⟨⟨rfl, rfl⟩, ⟨rfl, rfl⟩, ⟨rfl, rfl⟩, ⟨rfl, rfl⟩, ⟨rfl, rfl⟩, trivial⟩ ⟨⟨rfl, rfl⟩, ⟨rfl, rfl⟩, ⟨rfl, rfl⟩, ⟨rfl, rfl⟩, ⟨rfl, rfl⟩, ⟨rfl, rfl⟩, ⟨rfl, rfl⟩, ⟨rfl, rfl⟩, ⟨rfl, rfl⟩, ⟨rfl, rfl⟩, ⟨rfl, rfl⟩, ⟨rfl, rfl⟩, trivial⟩
              · conv => whnf
                obtain ⟨r_61, hc62, h⟩ := bind_some h
                refine PC.ecall (s_ranks_worst_2 n_48 v_31 r_61 hc62) (fun rs hrs => ?_)
                subst hrs
                conv => whnf
                cases h
                exact Wk.mk2 [0, 1, 2, 3, 4] 5 rfl rfl (by decide) rfl ⟨⟨rfl, rfl⟩, ⟨rfl, rfl⟩, ⟨rfl, rfl⟩, ⟨rfl, rfl⟩, ⟨rfl, rfl⟩, trivial⟩ ⟨⟨rfl, rfl⟩, ⟨rfl, rfl⟩, ⟨rfl, rfl⟩, ⟨rfl, rfl⟩, ⟨rfl, rfl⟩, ⟨rfl, rfl⟩, ⟨rfl, rfl⟩, ⟨rfl, rfl⟩, ⟨rfl, rfl⟩, ⟨rfl, rfl⟩, ⟨rfl, rfl⟩, ⟨rfl, rfl⟩, trivial⟩
            · clear hv59
              conv => whnf
              refine Tr.weak hw ?_
              refine Tr.cond ?_
              conv => whnf
              refine condS_bif h (fun hb63 h => ?_) (fun hb63 h => ?_)
              · refine Tr.region layOK ?_
                conv => whnf
                refine Tr.region layOK ?_
                conv => whnf
                refine arS_raw ?_
                conv => whnf
                refine ⟨((w64 (v_28 + 1)), y_12, v_28, n_48, true), h, ?_⟩
                exact Wk.mk2 [0, 1, 2, 3, 4] 5 rfl rfl (by decide) rfl ⟨⟨rfl, rfl⟩, ⟨rfl, rfl⟩, ⟨rfl, rfl⟩, ⟨rfl, rfl⟩, ⟨rfl, rfl⟩, trivial⟩ ⟨⟨rfl, rfl⟩, ⟨rfl, rfl⟩, ⟨rfl, rfl⟩, ⟨rfl, rfl⟩, ⟨rfl, rfl⟩, ⟨rfl, rfl⟩, ⟨rfl, rfl⟩, ⟨rfl, rfl⟩, ⟨rfl, rfl⟩, trivial⟩
              · refine Tr.skip ?_
                conv => whnf
                refine Tr.region layOK ?_
                conv => whnf
                refine arS_raw ?_
                conv => whnf
                refine ⟨((w64 (v_28 + 1)), v_29, v_30, v_31, v_32), h, ?_⟩
                exact Wk.mk2 [0, 1, 2, 3, 4] 5 rfl rfl (by decide) rfl ⟨⟨rfl, rfl⟩, ⟨rfl, rfl⟩, ⟨rfl, rfl⟩, ⟨rfl, rfl⟩, ⟨rfl, rfl⟩, trivial⟩ ⟨⟨rfl, rfl⟩, ⟨rfl, rfl⟩, ⟨rfl, rfl⟩, ⟨rfl, rfl⟩, ⟨rfl, rfl⟩, ⟨rfl, rfl⟩, ⟨rfl, rfl⟩, ⟨rfl, rfl⟩, ⟨rfl, rfl⟩, trivial⟩
      · refine Tr.exit ?_
        conv => whnf
        cases h
        exact Wk.mk2 [0, 1, 2, 3, 4] 5 rfl rfl (by decide) rfl ⟨⟨rfl, rfl⟩, ⟨rfl, rfl⟩, ⟨rfl, rfl⟩, ⟨rfl, rfl⟩, ⟨rfl, rfl⟩, trivial⟩ trivial
    · clear hv64
      conv => whnf
      cases h
      refine Wk.trans (F := 5) hw ?_
      exact Wk.mk2 [0, 1, 2, 3, 4] 5 rfl rfl (by decide) rfl ⟨⟨rfl, rfl⟩, ⟨rfl, rfl⟩, ⟨rfl, rfl⟩, ⟨rfl, rfl⟩, ⟨rfl, rfl⟩, trivial⟩ trivial
  · clear hv69
    conv => whnf
    refine Tr.seq ?_
    refine Tr.draw (DrawP.seqQ layOK mixed [(2, 3), (3, 4)] [(0, 6), (1, 7), (2, 0), (3, 0)] (by kernel_rfl) ?_)
    conv => whnf
    refine ⟨_, ⟨rfl, rfl, (by (conv => whnf); (exact ⟨rfl, rfl⟩))⟩, ?_⟩
    conv => whnf
    refine ⟨_, ⟨rfl, rfl, (by (conv => whnf); (exact ⟨rfl, rfl⟩))⟩, ?_⟩
    conv => whnf
    refine ⟨_, _, (by (conv => whnf); (exact ⟨rfl, rfl⟩)), kp_ok (by repeat (first | exact trivial | refine ⟨trivial, ?_⟩ | refine ⟨rfl, ?_⟩)), ?_⟩
    conv => whnf
    refine ⟨_, _, (by (conv => whnf); (exact ⟨rfl, rfl⟩)), kp_ok (by repeat (first | exact trivial | refine ⟨trivial, ?_⟩ | refine ⟨rfl, ?_⟩)), ?_⟩
    conv => whnf
    refine Tr.ret ?_
    conv => whnf
    cases h
    rfl

theorem s_ranks_of (f_1 : TField) (runner_2 : Int) (r_3 : TRank) (h : m_ranks_of f_1 runner_2 = some r_3) :
    PC prog 49 [(eTField f_1), (.i .i64 runner_2)] (fun rs => rs = [(eTRank r_3)]) := by
  refine PC.of_tr (cx := ⟨72, none, lay, 0⟩) layOK func49 rfl rfl rfl rfl rfl (by simp [f49]) ?_
  unfold m_ranks_of at h
  refine Tr.seq ?_
  refine Tr.region layOK ?_
  conv => whnf
  refine Tr.seq ?_
  refine Tr.region layOK ?_
  conv => whnf
  obtain ⟨x_4, hx_4, h⟩ := bind_some h
  refine ixP_of hx_4 ?_
  conv => whnf
  refine Tr.seq ?_
  refine Tr.seq ?_
  refine Tr.region layOK ?_
  conv => whnf
  obtain ⟨⟨c_5, c_6, c_7, c_8⟩, hc9, h⟩ := bind_some h
  refine PC.ecall (s_ranks_worlds f_1 c_5 c_6 c_7 c_8 hc9) (fun rs hrs => ?_)
  subst hrs
  conv => whnf
  obtain ⟨l_10, hl11, h⟩ := bind_some h
  obtain ⟨v_20, hv32, h⟩ := bind_some h
  refine Tr.block ?_
  refine Tr.rangeM layOK rfl (ge := fun a => [(.i .i64 a)]) rfl (it_ranks_worlds_1 c_5 c_6 c_7 c_8 l_10 hl11) (fun _ => rfl) rfl (fun s => [some (.var [.d (.ls (List.map eTSegment f_1.Clocks.Segments)), .d (.ls (List.map (eL eI) f_1.Clocks.Far)), .d (.ls (List.map eTPair f_1.Pairs)), .d (.ls (List.map eTRunner f_1.Runners))]), some (.var [.d (.i .i64 runner_2)]), some (.var [.d (.i .i64 0), .d (.i .i64 0), .d (.i .i64 0), .d (.i .i64 0), .d (.b false)]), some (.var [.d (.i .i64 x_4.Bib), .d (.i .i64 3), .d (.i .i64 0), .d (.i .i64 0), .d (.b s)])]) (m_ranks_of_R1 f_1 runner_2) (false) v_20 hv32 (Wk.mk2 [0, 1, 2, 3] 4 rfl rfl (by decide) rfl ⟨⟨rfl, rfl⟩, ⟨rfl, rfl⟩, ⟨rfl, rfl⟩, ⟨rfl, rfl⟩, trivial⟩ trivial) ?_ ?_
  · clear h hv32
    rintro li y_12 v_14 s_33 ha h
    replace h : (m_ranks_of_R1 f_1 runner_2) y_12 v_14 = some s_33 := h
    unfold m_ranks_of_R1 at h
    dsimp only at h
    conv => whnf
    refine Tr.block ?_
    refine Tr.region layOK ?_
    conv => whnf
    refine condS_bif h (fun hb15 h => ?_) (fun hb15 h => ?_)
    · conv => whnf
      cases h
      exact Wk.mk2 [0, 1, 2, 3] 4 rfl rfl (by decide) rfl ⟨⟨rfl, rfl⟩, ⟨rfl, rfl⟩, ⟨rfl, rfl⟩, ⟨rfl, rfl⟩, trivial⟩ trivial
    · conv => whnf
      obtain ⟨x_16, hx_16, h⟩ := bind_some h
      refine ixP_of hx_16 ?_
      conv => whnf
      obtain ⟨x_17, hx_17, h⟩ := bind_some h
      refine ixP_of hx_17 ?_
      conv => whnf
      obtain ⟨r_18, hc19, h⟩ := bind_some h
      refine PC.ecall (s_slices_ContainsFunc_Outcome_Outcome_with_ranks_of_1 x_17 r_18 hc19) (fun rs hrs => ?_)
      subst hrs
      conv => whnf
      cases h
      exact Wk.mk2 [0, 1, 2, 3] 4 rfl rfl (by decide) rfl ⟨⟨rfl, rfl⟩, ⟨rfl, rfl⟩, ⟨rfl, rfl⟩, ⟨rfl, rfl⟩, trivial⟩ trivial
  · clear hv32
    conv => whnf
    refine Tr.seq ?_
    refine Tr.draw (DrawP.seqQ layOK mixed [(8, 4)] [(0, 1), (1, 3), (2, 4), (3, 1), (4, 1), (5, 1), (6, 1), (7, 0), (8, 0), (9, 1)] (by kernel_rfl) ?_)
    conv => whnf
    obtain ⟨_, hc21, h⟩ := bind_some h
    refine ⟨_, (fun H => by (conv => whnf); (refine PC.ecall (s_ranks_best  hc21) (fun rs hrs => ?_)); (subst hrs); (conv => whnf); (exact ⟨rfl, rfl⟩)), ?_⟩
    conv => whnf
    refine ⟨_, ⟨rfl, rfl, (by (conv => whnf); (exact ⟨rfl, rfl⟩))⟩, ?_⟩
    conv => whnf
    refine ⟨_, ⟨rfl, rfl, (by (conv => whnf); (exact ⟨rfl, rfl⟩))⟩, ?_⟩
    conv => whnf
    obtain ⟨⟨r_22, r_23⟩, hc24, h⟩ := bind_some h
    refine ⟨_, (fun H => by (conv => whnf); (refine PC.ecall (s_ranks_direction_drive_with_ranks_best_2 f_1 runner_2 r_22 r_23 hc24) (fun rs hrs => ?_)); (subst hrs); (conv => whnf); (exact ⟨rfl, rfl⟩)), ?_⟩
    conv => whnf
    refine ⟨_, (fun H => by (conv => whnf); (exact ⟨rfl, rfl⟩)), ?_⟩
    conv => whnf
    refine ⟨_, (fun H => by (conv => whnf); (exact ⟨rfl, rfl⟩)), ?_⟩
    conv => whnf
    refine ⟨_, (fun H => by (conv => whnf); (exact ⟨rfl, rfl⟩)), ?_⟩
    conv => whnf
    refine ⟨_, _, (by (conv => whnf); (exact ⟨rfl, rfl⟩)), kp_ok (by repeat (first | exact trivial | refine ⟨trivial, ?_⟩ | refine ⟨rfl, ?_⟩)), ?_⟩
    conv => whnf
    refine ⟨_, _, (by (conv => whnf); (exact ⟨rfl, rfl⟩)), kp_ok (by repeat (first | exact trivial | refine ⟨trivial, ?_⟩ | refine ⟨rfl, ?_⟩)), ?_⟩
    conv => whnf
    refine ⟨_, (fun H => by (conv => whnf); (exact ⟨rfl, rfl⟩)), ?_⟩
    conv => whnf
    refine Tr.seq ?_
    refine Tr.seq ?_
    refine Tr.region layOK ?_
    conv => whnf
    refine Tr.cond ?_
    conv => whnf
    refine condS_bif h (fun hb25 h => ?_) (fun hb25 h => ?_)
    · refine Tr.seq ?_
      refine Tr.region layOK ?_
      conv => whnf
      refine Tr.ret ?_
      conv => whnf
      cases h
      rfl
    · refine Tr.skip ?_
      conv => whnf
      refine Tr.seq ?_
      refine Tr.draw (DrawP.seqQ layOK mixed [(8, 5)] [(0, 1), (1, 3), (2, 4), (3, 1), (4, 1), (5, 1), (6, 1), (7, 0), (8, 0), (9, 1)] (by kernel_rfl) ?_)
      conv => whnf
      obtain ⟨_, hc26, h⟩ := bind_some h
      refine ⟨_, (fun H => by (conv => whnf); (refine PC.ecall (s_ranks_worst  hc26) (fun rs hrs => ?_)); (subst hrs); (conv => whnf); (exact ⟨rfl, rfl⟩)), ?_⟩
      conv => whnf
      refine ⟨_, ⟨rfl, rfl, (by (conv => whnf); (exact ⟨rfl, rfl⟩))⟩, ?_⟩
      conv => whnf
      refine ⟨_, ⟨rfl, rfl, (by (conv => whnf); (exact ⟨rfl, rfl⟩))⟩, ?_⟩
      conv => whnf
      obtain ⟨⟨r_27, r_28⟩, hc29, h⟩ := bind_some h
      refine ⟨_, (fun H => by (conv => whnf); (refine PC.ecall (s_ranks_direction_drive_with_ranks_worst_2 f_1 runner_2 r_27 r_28 hc29) (fun rs hrs => ?_)); (subst hrs); (conv => whnf); (exact ⟨rfl, rfl⟩)), ?_⟩
      conv => whnf
      refine ⟨_, (fun H => by (conv => whnf); (exact ⟨rfl, rfl⟩)), ?_⟩
      conv => whnf
      refine ⟨_, (fun H => by (conv => whnf); (exact ⟨rfl, rfl⟩)), ?_⟩
      conv => whnf
      refine ⟨_, (fun H => by (conv => whnf); (exact ⟨rfl, rfl⟩)), ?_⟩
      conv => whnf
      refine ⟨_, _, (by (conv => whnf); (exact ⟨rfl, rfl⟩)), kp_ok (by repeat (first | exact trivial | refine ⟨trivial, ?_⟩ | refine ⟨rfl, ?_⟩)), ?_⟩
      conv => whnf
      refine ⟨_, _, (by (conv => whnf); (exact ⟨rfl, rfl⟩)), kp_ok (by repeat (first | exact trivial | refine ⟨trivial, ?_⟩ | refine ⟨rfl, ?_⟩)), ?_⟩
      conv => whnf
      refine ⟨_, (fun H => by (conv => whnf); (exact ⟨rfl, rfl⟩)), ?_⟩
      conv => whnf
      refine Tr.seq ?_
      refine Tr.draw (DrawP.seqQ layOK mixed [(5, 3), (7, 3), (9, 3)] [(0, 7), (1, 7), (2, 8), (3, 8), (4, 6), (5, 0), (6, 6), (7, 0), (8, 6), (9, 0)] (by kernel_rfl) ?_)
      conv => whnf
      refine ⟨_, ⟨rfl, rfl, (by (conv => whnf); (exact ⟨rfl, rfl⟩))⟩, ?_⟩
      conv => whnf
      refine ⟨_, ⟨rfl, rfl, (by (conv => whnf); (exact ⟨rfl, rfl⟩))⟩, ?_⟩
      conv => whnf
      refine ⟨_, ⟨rfl, rfl, (by (conv => whnf); (exact ⟨rfl, rfl⟩))⟩, ?_⟩
      conv => whnf
      refine ⟨_, ⟨rfl, rfl, (by (conv => whnf); (exact ⟨rfl, rfl⟩))⟩, ?_⟩
      conv => whnf
      refine ⟨_, ⟨rfl, rfl, (by (conv => whnf); (exact ⟨rfl, rfl⟩))⟩, ?_⟩
      conv => whnf
      refine ⟨_, _, (by (conv => whnf); (exact ⟨rfl, rfl⟩)), kp_ok (by repeat (first | exact trivial | refine ⟨trivial, ?_⟩ | refine ⟨rfl, ?_⟩)), ?_⟩
      conv => whnf
      refine ⟨_, ⟨rfl, rfl, (by (conv => whnf); (exact ⟨rfl, rfl⟩))⟩, ?_⟩
      conv => whnf
      refine ⟨_, _, (by (conv => whnf); (exact ⟨rfl, rfl⟩)), kp_ok (by repeat (first | exact trivial | refine ⟨trivial, ?_⟩ | refine ⟨rfl, ?_⟩)), ?_⟩
      conv => whnf
      refine ⟨_, ⟨rfl, rfl, (by (conv => whnf); (exact ⟨rfl, rfl⟩))⟩, ?_⟩
      conv => whnf
      refine ⟨_, _, (by (conv => whnf); (exact ⟨rfl, rfl⟩)), kp_ok (by repeat (first | exact trivial | refine ⟨trivial, ?_⟩ | refine ⟨rfl, ?_⟩)), ?_⟩
      conv => whnf
      refine Tr.seq ?_
      refine Tr.seq ?_
      refine Tr.region layOK ?_
      conv => whnf
      refine condS_bif h (fun hb30 h => ?_) (fun hb30 h => ?_)
      · conv => whnf
        refine Tr.cond ?_
        conv => whnf
        refine condS_bif h (fun hb31 h => ?_) (fun hb31 h => ?_)
        · refine Tr.region layOK ?_
          conv => whnf
          refine Tr.seq ?_
          refine Tr.region layOK ?_
          conv => whnf
          refine Tr.ret ?_
          conv => whnf
          cases h
          rfl
        · refine Tr.skip ?_
          conv => whnf
          refine Tr.seq ?_
          refine Tr.region layOK ?_
          conv => whnf
          refine Tr.ret ?_
          conv => whnf
          cases h
          rfl
      · conv => whnf
        refine Tr.cond ?_
        conv => whnf
        refine Tr.skip ?_
        conv => whnf
        refine Tr.seq ?_
        refine Tr.region layOK ?_
        conv => whnf
        refine Tr.ret ?_
        conv => whnf
        cases h
        rfl

theorem s_ranks_Of (f_1 : TField) (runner_2 : Int) (r_3 : TRank) (r_4 : Int) (h : m_ranks_Of f_1 runner_2 = some (r_3, r_4)) :
    PC prog 27 [(eTField f_1), (.i .i64 runner_2)] (fun rs => rs = [(eTRank r_3), (.i .i64 r_4)]) := by
  refine PC.of_tr (cx := ⟨18, none, lay, 0⟩) layOK func27 rfl rfl rfl rfl rfl (by simp [f27]) ?_
  unfold m_ranks_Of at h
  refine Tr.seq ?_
  refine Tr.region layOK ?_
  conv => whnf
  refine Tr.seq ?_
  refine Tr.seq ?_
  refine Tr.region layOK ?_
  conv => whnf
  refine orB_r ?_
  conv => whnf
  obtain ⟨r_5, hc6, h⟩ := bind_some h
  refine PC.ecall (s_ranks_check f_1 ((([runner_2] : List Int))) r_5 hc6) (fun rs hrs => ?_)
  subst hrs
  conv => whnf
  refine Tr.seq ?_
  refine Tr.region layOK ?_
  conv => whnf
  refine Tr.cond ?_
  conv => whnf
  refine condS_bif h (fun hb7 h => ?_) (fun hb7 h => ?_)
  · refine Tr.seq ?_
    refine Tr.region layOK ?_
    conv => whnf
    refine Tr.ret ?_
    conv => whnf
    cases h
    rfl
  · refine Tr.skip ?_
    conv => whnf
    refine Tr.seq ?_
    refine Tr.region layOK ?_
    conv => whnf
    obtain ⟨r_8, hc9, h⟩ := bind_some h
    refine PC.ecall (s_ranks_of f_1 runner_2 r_8 hc9) (fun rs hrs => ?_)
    subst hrs
    conv => whnf
    refine Tr.ret ?_
    conv => whnf
    cases h
    rfl

theorem s_ranks_direction_history_1 (k_1 : Int) (c_2 : Int) (c_3 : List TSegment) (c_4 : List (List Int)) (c_5 : List TPair) (c_6 : List TRunner) (c_7 : Int) (r_8 : Int) (h : m_ranks_direction_history_1 k_1 c_2 c_3 c_4 c_5 c_6 c_7 = some r_8) :
    PC prog 106 [(.i .i64 k_1), (.ro [(.i .i64 c_2)]), (.ro [(.fn 83 []), (.fn 84 []), (.fn 85 []), (.fn 86 [])]), (.ro [(.ls (List.map eTSegment c_3)), (.ls (List.map (eL eI) c_4)), (.ls (List.map eTPair c_5)), (.ls (List.map eTRunner c_6))]), (.ro [(.i .i64 c_7)])] (fun rs => rs = [(.i .i64 r_8)]) := by
  refine PC.of_tr (cx := ⟨17, none, lay, 0⟩) layOK func106 rfl rfl rfl rfl rfl (by simp [f106]) ?_
  unfold m_ranks_direction_history_1 at h
  refine Tr.seq ?_
  refine Tr.region layOK ?_
  conv => whnf
  refine Tr.seq ?_
  refine Tr.draw (DrawP.seqQ layOK mixed [] [(0, 2), (1, 2), (2, 2), (3, 2), (4, 2), (5, 2), (6, 2), (7, 1), (8, 1), (9, 1), (10, 1)] (by kernel_rfl) ?_)
  conv => whnf
  refine ⟨_, ⟨rfl, rfl, (by (conv => whnf); (exact ⟨rfl, rfl⟩))⟩, ?_⟩
  conv => whnf
  refine ⟨_, ⟨rfl, rfl, (by (conv => whnf); (exact ⟨rfl, rfl⟩))⟩, ?_⟩
  conv => whnf
  refine ⟨_, ⟨rfl, rfl, (by (conv => whnf); (exact ⟨rfl, rfl⟩))⟩, ?_⟩
  conv => whnf
  refine ⟨_, ⟨rfl, rfl, (by (conv => whnf); (exact ⟨rfl, rfl⟩))⟩, ?_⟩
  conv => whnf
  refine ⟨_, ⟨rfl, rfl, (by (conv => whnf); (exact ⟨rfl, rfl⟩))⟩, ?_⟩
  conv => whnf
  refine ⟨_, ⟨rfl, rfl, (by (conv => whnf); (exact ⟨rfl, rfl⟩))⟩, ?_⟩
  conv => whnf
  refine ⟨_, ⟨rfl, rfl, (by (conv => whnf); (exact ⟨rfl, rfl⟩))⟩, ?_⟩
  conv => whnf
  refine ⟨_, (fun H => by (conv => whnf); (exact ⟨rfl, rfl⟩)), ?_⟩
  conv => whnf
  obtain ⟨r_9, hc10, h⟩ := bind_some h
  refine ⟨_, (fun H => by (conv => whnf); (refine PC.ecall (s_ranks_best_1 c_4 c_7 k_1 r_9 hc10) (fun rs hrs => ?_)); (subst hrs); (conv => whnf); (exact ⟨rfl, rfl⟩)), ?_⟩
  conv => whnf
  refine ⟨_, (fun H => by (conv => whnf); (refine arS_raw ?_); (conv => whnf); (exact ⟨rfl, rfl⟩)), ?_⟩
  conv => whnf
  refine ⟨_, (fun H => by (conv => whnf); (exact ⟨rfl, rfl⟩)), ?_⟩
  conv => whnf
  refine Tr.ret ?_
  conv => whnf
  cases h
  rfl
end Go.Proofs.Try
