/- Contracts of functions, by program (gen.py). No condition. -/
import Derived.Test.YtkefiomhjjoekaaL
import Derived.Test.YtkefiomhjjoekaaM
import Derived.Test.YtkefiomhjjoekaaS6
namespace Go.Proofs.Try
open Go Go.Abs Go.Stop
set_option maxRecDepth 8000
set_option linter.unusedVariables false
set_option linter.unusedSimpArgs false

theorem s_ranks_direction_history_with_ranks_best_2 (f_1 : TField) (runner_2 : Int) (p_3 : Tranks_place) (r_4 : THistory) (h : m_ranks_direction_history_with_ranks_best_2 f_1 runner_2 p_3 = some r_4) :
    PC prog 82 [(.ag [(.fn 83 []), (.fn 84 []), (.fn 85 []), (.fn 86 [])]), (eTField f_1), (.i .i64 runner_2), (eTranks_place p_3)] (fun rs => rs = [(eTHistory r_4)]) := by
  refine PC.of_tr (cx := ⟨123, none, lay, 0⟩) layOK func82 rfl rfl rfl rfl rfl (by simp [f82]) ?_
  unfold m_ranks_direction_history_with_ranks_best_2 at h
  refine Tr.seq ?_
  refine Tr.region layOK ?_
  conv => whnf
  refine Tr.seq ?_
  refine Tr.region layOK ?_
  conv => whnf
  refine orB_l ?_
  conv => whnf
  refine Tr.seq ?_
  refine Tr.draw (DrawP.seqQ layOK mixed [(15, 5)] [(0, 4), (1, 4), (2, 1), (3, 2), (4, 2), (5, 2), (6, 5), (7, 5), (8, 2), (9, 2), (10, 5), (11, 5), (12, 2), (13, 2), (14, 0), (15, 0)] (by kernel_rfl) ?_)
  conv => whnf
  refine ⟨_, ⟨rfl, rfl, (by (conv => whnf); (exact ⟨rfl, rfl⟩))⟩, ?_⟩
  conv => whnf
  refine ⟨_, ⟨rfl, rfl, (by (conv => whnf); (exact ⟨rfl, rfl⟩))⟩, ?_⟩
  conv => whnf
  refine ⟨_, (fun H => by (conv => whnf); (exact ⟨rfl, rfl⟩)), ?_⟩
  conv => whnf
  obtain ⟨x_5, hx_5, h⟩ := bind_some h
  refine ⟨_, ⟨rfl, rfl, (by (conv => whnf); (refine ixP_of hx_5 ?_); (conv => whnf); (exact ⟨rfl, rfl⟩))⟩, ?_⟩
  conv => whnf
  refine ⟨_, ⟨rfl, rfl, (by (conv => whnf); (exact ⟨rfl, rfl⟩))⟩, ?_⟩
  conv => whnf
  refine ⟨_, ⟨rfl, rfl, (by (conv => whnf); (exact ⟨rfl, rfl⟩))⟩, ?_⟩
  conv => whnf
  refine ⟨_, ⟨rfl, rfl, (by (conv => whnf); (exact ⟨rfl, rfl⟩))⟩, ?_⟩
  conv => whnf
  refine ⟨_, ⟨rfl, rfl, (by (conv => whnf); (exact ⟨rfl, rfl⟩))⟩, ?_⟩
  conv => whnf
  obtain ⟨x_6, hx_6, h⟩ := bind_some h
  refine ⟨_, ⟨rfl, rfl, (by (conv => whnf); (refine ixP_of hx_6 ?_); (conv => whnf); (exact ⟨rfl, rfl⟩))⟩, ?_⟩
  conv => whnf
  refine ⟨_, ⟨rfl, rfl, (by (conv => whnf); (exact ⟨rfl, rfl⟩))⟩, ?_⟩
  conv => whnf
  refine ⟨_, ⟨rfl, rfl, (by (conv => whnf); (exact ⟨rfl, rfl⟩))⟩, ?_⟩
  conv => whnf
  refine ⟨_, ⟨rfl, rfl, (by (conv => whnf); (exact ⟨rfl, rfl⟩))⟩, ?_⟩
  conv => whnf
  obtain ⟨x_7, hx_7, h⟩ := bind_some h
  refine ⟨_, ⟨rfl, rfl, (by (conv => whnf); (refine ixP_of hx_7 ?_); (conv => whnf); (exact ⟨rfl, rfl⟩))⟩, ?_⟩
  conv => whnf
  refine ⟨_, ⟨rfl, rfl, (by (conv => whnf); (exact ⟨rfl, rfl⟩))⟩, ?_⟩
  conv => whnf
  refine ⟨_, _, (by (conv => whnf); (exact ⟨rfl, rfl⟩)), kp_ok (by repeat (first | exact trivial | refine ⟨trivial, ?_⟩ | refine ⟨rfl, ?_⟩)), ?_⟩
  conv => whnf
  refine ⟨_, _, (by (conv => whnf); (exact ⟨rfl, rfl⟩)), kp_ok (by repeat (first | exact trivial | refine ⟨trivial, ?_⟩ | refine ⟨rfl, ?_⟩)), ?_⟩
  conv => whnf
  refine Tr.seq ?_
  refine Tr.region layOK ?_
  conv => whnf
  refine arS_raw ?_
  conv => whnf
  refine Tr.seq ?_
  refine Tr.region layOK ?_
  conv => whnf
  refine Tr.seq ?_
  refine Tr.seq ?_
  refine Tr.region layOK ?_
  conv => whnf
  refine Tr.cond ?_
  conv => whnf
  refine condS_bif h (fun hb8 h => ?_) (fun hb8 h => ?_)
  · refine Tr.region layOK ?_
    conv => whnf
    obtain ⟨r_9, hc10, h⟩ := bind_some h
    refine PC.ecall (s_ranks_best_1 f_1.Clocks.Far ((w64 (x_7.Seg + 1))) 0 r_9 hc10) (fun rs hrs => ?_)
    subst hrs
    conv => whnf
    refine arS_raw ?_
    conv => whnf
    refine Tr.seq ?_
    refine Tr.region layOK ?_
    conv => whnf
    refine Tr.seq ?_
    refine Tr.seq ?_
    refine Tr.region layOK ?_
    conv => whnf
    refine lnS_map ?_
    conv => whnf
    obtain ⟨l_16, hv23, h⟩ := bind_some h
    refine Tr.cutQ1 ([(2, .d (.i .i64 runner_2)), (4, .pt 0 0), (5, .pt 1 0), (7, .pt 2 0), (8, .pt 3 0), (9, .pt 4 0), (10, .pt 5 0)]) ([some (.var [.d (.fn 83 []), .d (.fn 84 []), .d (.fn 85 []), .d (.fn 86 [])]), some (.var [.d (.ls (List.map eTSegment f_1.Clocks.Segments)), .d (.ls (List.map (eL eI) f_1.Clocks.Far)), .d (.ls (List.map eTPair f_1.Pairs)), .d (.ls (List.map eTRunner f_1.Runners))]), some (.var [.d (.i .i64 p_3.world), .d (.i .i64 p_3.outcome), .d (.i .i64 p_3.rank)]), some (.var [.d (.i .i64 0), .nsl, .nsl]), some (.var [.d (.i .i64 p_3.world), .sl 6 1 0 (List.length l_16), .nsl]), some (.var [.d (.b x_7.Out), .d (.i .i64 x_7.Seg), .d (.i .i64 x_7.Lo), .d (.i .i64 x_7.Hi)]), some (.arr 1 (List.map .d (List.map eI l_16)))]) ?_ (fun T1 H1 hw => ?_)
    · replace h := hv23; clear hv23
      refine Tr.block ?_
      refine Tr.loopM (σ := Int × List Int) (fun n s => m_ranks_direction_history_with_ranks_best_2_L1 f_1 x_7 r_9 n s.1 s.2) l_16 (fun s => ([(2, .d (.i .i64 runner_2)), (4, .pt 0 0), (5, .pt 1 0), (7, .pt 2 0), (8, .pt 3 0), (9, .pt 4 0), (10, .pt 5 0), (13, .fn 106 [.pt 6 0, .pt 0 0, .pt 1 0, .pt 7 0]), (54, .d (.i .i64 (((f_1.Clocks.Segments).length : Int)))), (55, .d (.i .i64 s.1))], [some (.var [.d (.fn 83 []), .d (.fn 84 []), .d (.fn 85 []), .d (.fn 86 [])]), some (.var [.d (.ls (List.map eTSegment f_1.Clocks.Segments)), .d (.ls (List.map (eL eI) f_1.Clocks.Far)), .d (.ls (List.map eTPair f_1.Pairs)), .d (.ls (List.map eTRunner f_1.Runners))]), some (.var [.d (.i .i64 p_3.world), .d (.i .i64 p_3.outcome), .d (.i .i64 p_3.rank)]), some (.var [.d (.i .i64 0), .nsl, .nsl]), some (.var [.d (.i .i64 p_3.world), .sl 8 1 0 (List.length s.2), .nsl]), some (.var [.d (.b x_7.Out), .d (.i .i64 x_7.Seg), .d (.i .i64 x_7.Lo), .d (.i .i64 x_7.Hi)]), some (.var [.d (.i .i64 (w64 (0 - r_9)))]), some (.var [.d (.i .i64 (w64 (x_7.Seg + 1)))]), some (.arr 1 (List.map .d (List.map eI s.2)))])) (((((f_1.Clocks.Segments).length : Int)) - 0 : Int).toNat + 1) (0, (([] : List Int))) h (fun s => rfl) (Wk.mk2 [0, 1, 2, 3, 4, 5, 7, 6, 8] 8 rfl rfl (by decide) rfl ⟨⟨rfl, rfl⟩, ⟨rfl, rfl⟩, ⟨rfl, rfl⟩, ⟨rfl, rfl⟩, ⟨rfl, (by first | rfl | (simp only [↓hb8, cond_true, cond_false, Bool.true_or, Bool.or_true, Bool.false_or, Bool.or_false, Bool.true_and, Bool.and_true, Bool.false_and, Bool.and_false, Bool.not_true, Bool.not_false]; done) | (simp only [↓hb8, cond_true, cond_false, Bool.true_or, Bool.or_true, Bool.false_or, Bool.or_false, Bool.true_and, Bool.and_true, Bool.false_and, Bool.and_false, Bool.not_true, Bool.not_false]; rfl))⟩, ⟨rfl, rfl⟩, ⟨rfl, rfl⟩, ⟨rfl, rfl⟩, rfl, trivial⟩ ⟨⟨rfl, rfl⟩, ⟨rfl, rfl⟩, ⟨rfl, rfl⟩, ⟨rfl, rfl⟩, ⟨rfl, rfl⟩, ⟨rfl, rfl⟩, ⟨rfl, rfl⟩, ⟨rfl, (by first | rfl | (simp only [↓hb8, cond_true, cond_false, Bool.true_or, Bool.or_true, Bool.false_or, Bool.or_false, Bool.true_and, Bool.and_true, Bool.false_and, Bool.and_false, Bool.not_true, Bool.not_false]; done) | (simp only [↓hb8, cond_true, cond_false, Bool.true_or, Bool.or_true, Bool.false_or, Bool.or_false, Bool.true_and, Bool.and_true, Bool.false_and, Bool.and_false, Bool.not_true, Bool.not_false]; rfl))⟩, ⟨rfl, rfl⟩, ⟨rfl, rfl⟩, trivial⟩) ?_
      clear h
      rintro n_15 ⟨v_13, l_14⟩ h
      replace h : m_ranks_direction_history_with_ranks_best_2_L1 f_1 x_7 r_9 (n_15 + 1) v_13 l_14 = some l_16 := h
      rw [m_ranks_direction_history_with_ranks_best_2_L1] at h
      refine Tr.seq ?_
      refine Tr.region layOK ?_
      conv => whnf
      refine Tr.seq ?_
      refine Tr.cond ?_
      conv => whnf
      refine condS_bif h (fun hb19 h => ?_) (fun hb19 h => ?_)
      · refine Tr.skip ?_
        conv => whnf
        refine Tr.seq ?_
        refine Tr.block ?_
        refine Tr.seq ?_
        refine Tr.region layOK ?_
        conv => whnf
        refine Tr.draw (DrawP.seqQ layOK mixed [(7, 8), (9, 4)] [(0, 7), (1, 7), (2, 1), (3, 1), (4, 1), (5, 0), (6, 1), (7, 0), (8, 7), (9, 0)] (by kernel_rfl) ?_)
        conv => whnf
        refine ⟨_, ⟨rfl, rfl, (by (conv => whnf); (exact ⟨rfl, rfl⟩))⟩, ?_⟩
        conv => whnf
        refine ⟨_, ⟨rfl, rfl, (by (conv => whnf); (exact ⟨rfl, rfl⟩))⟩, ?_⟩
        conv => whnf
        refine ⟨_, (fun H => by (conv => whnf); (exact ⟨rfl, rfl⟩)), ?_⟩
        conv => whnf
        refine ⟨_, (fun H => by (conv => whnf); (exact ⟨rfl, rfl⟩)), ?_⟩
        conv => whnf
        refine ⟨_, (fun H => by (conv => whnf); (refine arS_raw ?_); (conv => whnf); (exact ⟨rfl, rfl⟩)), ?_⟩
        conv => whnf
        obtain ⟨r_20, hc21, h⟩ := bind_some h
        refine ⟨_, _, (by (conv => whnf); (refine PC.ecall_lend ?_ ⟨_, _, func106, rfl, rfl⟩); (conv => whnf); (refine ⟨_, s_ranks_direction_history_1 ((w64 (v_13 + 1))) ((w64 (0 - r_9))) f_1.Clocks.Segments f_1.Clocks.Far f_1.Pairs f_1.Runners ((w64 (x_7.Seg + 1))) r_20 hc21, fun rs hrs => ?_⟩); (subst hrs); (refine ⟨rfl, ?_⟩); (conv => whnf); (exact ⟨rfl, rfl⟩)), kp_ok (by repeat (first | exact trivial | refine ⟨trivial, ?_⟩ | refine ⟨rfl, ?_⟩)), ?_⟩
        conv => whnf
        refine ⟨_, (fun H => by (conv => whnf); (refine orB_r ?_); (conv => whnf); (exact ⟨rfl, rfl⟩)), ?_⟩
        conv => whnf
        obtain ⟨l_22, hl_22, h⟩ := bind_some h
        refine ⟨_, _, (by (conv => whnf); (refine frP_no ?_); (conv => whnf); (refine eqS_mk (by first | rfl | simp) ?_); (conv => whnf); (refine apS_of hl_22 (apq_map (f := eI) (l := (([r_20] : List Int))) fun _ => rfl) (by first | rfl | simp) (by first | rfl | simp) (fun he => ?_)); (conv => whnf); (refine reS_mk (es' := List.map .d (List.map eI l_22)) (n' := List.length l_22) (by subst he; simp only [List.map_append, List.map_cons, List.map_nil, List.nil_append]; first | done | rfl) (by subst he; simp <;> omega) ?_); (clear he); (conv => whnf); (exact ⟨rfl, rfl⟩)), kp_ok (by repeat (first | exact trivial | refine ⟨trivial, ?_⟩ | refine ⟨rfl, ?_⟩)), ?_⟩
        conv => whnf
        refine ⟨_, ⟨rfl, rfl, (by (conv => whnf); (exact ⟨rfl, rfl⟩))⟩, ?_⟩
        conv => whnf
        refine ⟨_, _, (by (conv => whnf); (refine orB_l ?_); (conv => whnf); (exact ⟨rfl, rfl⟩)), kp_ok (by repeat (first | exact trivial | refine ⟨trivial, ?_⟩ | refine ⟨rfl, ?_⟩)), ?_⟩
        conv => whnf
        refine Tr.region layOK ?_
        conv => whnf
        refine arS_raw ?_
        conv => whnf
        refine ⟨((w64 (v_13 + 1)), l_22), h, ?_⟩
        exact Wk.mk2 [0, 1, 2, 3, 4, 5, 6, 7, 9] 10 rfl rfl (by decide) rfl ⟨⟨rfl, rfl⟩, ⟨rfl, rfl⟩, ⟨rfl, rfl⟩, ⟨rfl, rfl⟩, ⟨rfl, (by first | rfl | (simp only [↓hb8, ↓hb19, cond_true, cond_false, Bool.true_or, Bool.or_true, Bool.false_or, Bool.or_false, Bool.true_and, Bool.and_true, Bool.false_and, Bool.and_false, Bool.not_true, Bool.not_false]; done) | (simp only [↓hb8, ↓hb19, cond_true, cond_false, Bool.true_or, Bool.or_true, Bool.false_or, Bool.or_false, Bool.true_and, Bool.and_true, Bool.false_and, Bool.and_false, Bool.not_true, Bool.not_false]; rfl))⟩, ⟨rfl, rfl⟩, ⟨rfl, rfl⟩, ⟨rfl, rfl⟩, daS_d rfl, trivial⟩ ⟨⟨rfl, rfl⟩, ⟨rfl, rfl⟩, ⟨rfl, rfl⟩, ⟨rfl, rfl⟩, ⟨rfl, rfl⟩, ⟨rfl, rfl⟩, ⟨rfl, rfl⟩, ⟨rfl, rfl⟩, ⟨rfl, rfl⟩, ⟨rfl, rfl⟩, trivial⟩
      · refine Tr.exit ?_
        conv => whnf
        cases h
        exact Wk.mk2 [0, 1, 2, 3, 4, 5, 8] 9 rfl rfl (by decide) rfl ⟨⟨rfl, rfl⟩, ⟨rfl, rfl⟩, ⟨rfl, rfl⟩, ⟨rfl, rfl⟩, ⟨rfl, (by first | rfl | (simp only [↓hb8, ↓hb19, cond_true, cond_false, Bool.true_or, Bool.or_true, Bool.false_or, Bool.or_false, Bool.true_and, Bool.and_true, Bool.false_and, Bool.and_false, Bool.not_true, Bool.not_false]; done) | (simp only [↓hb8, ↓hb19, cond_true, cond_false, Bool.true_or, Bool.or_true, Bool.false_or, Bool.or_false, Bool.true_and, Bool.and_true, Bool.false_and, Bool.and_false, Bool.not_true, Bool.not_false]; rfl))⟩, ⟨rfl, rfl⟩, daS_d rfl, trivial⟩ ⟨⟨rfl, rfl⟩, ⟨rfl, rfl⟩, ⟨rfl, rfl⟩, ⟨rfl, rfl⟩, ⟨rfl, rfl⟩, ⟨rfl, rfl⟩, ⟨rfl, rfl⟩, trivial⟩
    · clear hv23
      conv => whnf
      refine Tr.weak hw ?_
      refine Tr.seq ?_
      refine Tr.seq ?_
      refine Tr.region layOK ?_
      conv => whnf
      refine lnS_map ?_
      conv => whnf
      obtain ⟨l_29, hv54, h⟩ := bind_some h
      refine Tr.cutQ1 ([(8, .pt 0 0), (9, .pt 1 0)]) ([some (.var [.d (.i .i64 0), .nsl, .nsl]), some (.var [.d (.i .i64 p_3.world), .sl 2 1 0 (List.length l_16), .sl 3 2 0 (List.length l_29)]), some (.arr 1 (List.map .d (List.map eI l_16))), some (.arr 2 (List.map .d (List.map eTChoice l_29)))]) ?_ (fun T1 H1 hw => ?_)
      · replace h := hv54; clear hv54
        refine Tr.block ?_
        refine Tr.loopM (σ := Int × List TChoice) (fun n s => m_ranks_direction_history_with_ranks_best_2_L2 f_1 runner_2 p_3 x_7 n s.1 s.2) l_29 (fun s => ([(2, .d (.i .i64 runner_2)), (4, .pt 0 0), (5, .pt 1 0), (7, .pt 2 0), (8, .pt 3 0), (9, .pt 4 0), (10, .pt 5 0), (69, .d (.ls (List.map eTRunner f_1.Runners))), (70, .d (.i .i64 (((f_1.Runners).length : Int)))), (71, .d (.i .i64 s.1))], [some (.var [.d (.fn 83 []), .d (.fn 84 []), .d (.fn 85 []), .d (.fn 86 [])]), some (.var [.d (.ls (List.map eTSegment f_1.Clocks.Segments)), .d (.ls (List.map (eL eI) f_1.Clocks.Far)), .d (.ls (List.map eTPair f_1.Pairs)), .d (.ls (List.map eTRunner f_1.Runners))]), some (.var [.d (.i .i64 p_3.world), .d (.i .i64 p_3.outcome), .d (.i .i64 p_3.rank)]), some (.var [.d (.i .i64 0), .nsl, .nsl]), some (.var [.d (.i .i64 p_3.world), .sl 6 1 0 (List.length l_16), .sl 7 2 0 (List.length s.2)]), some (.var [.d (.b x_7.Out), .d (.i .i64 x_7.Seg), .d (.i .i64 x_7.Lo), .d (.i .i64 x_7.Hi)]), some (.arr 1 (List.map .d (List.map eI l_16))), some (.arr 2 (List.map .d (List.map eTChoice s.2)))])) (((((f_1.Runners).length : Int)) - 0 : Int).toNat + 1) (0, (([] : List TChoice))) h (fun s => rfl) (Wk.mk2 [0, 1, 2, 3, 4, 5, 6, 7] 7 rfl rfl (by decide) rfl ⟨⟨rfl, rfl⟩, ⟨rfl, rfl⟩, ⟨rfl, rfl⟩, ⟨rfl, rfl⟩, ⟨rfl, (by first | rfl | (simp only [↓hb8, cond_true, cond_false, Bool.true_or, Bool.or_true, Bool.false_or, Bool.or_false, Bool.true_and, Bool.and_true, Bool.false_and, Bool.and_false, Bool.not_true, Bool.not_false]; done) | (simp only [↓hb8, cond_true, cond_false, Bool.true_or, Bool.or_true, Bool.false_or, Bool.or_false, Bool.true_and, Bool.and_true, Bool.false_and, Bool.and_false, Bool.not_true, Bool.not_false]; rfl))⟩, ⟨rfl, rfl⟩, daS_d rfl, rfl, trivial⟩ ⟨⟨rfl, rfl⟩, ⟨rfl, rfl⟩, ⟨rfl, rfl⟩, ⟨rfl, rfl⟩, ⟨rfl, rfl⟩, ⟨rfl, rfl⟩, ⟨rfl, rfl⟩, ⟨rfl, rfl⟩, ⟨rfl, rfl⟩, ⟨rfl, rfl⟩, trivial⟩) ?_
        clear h
        rintro n_28 ⟨v_26, l_27⟩ h
        replace h : m_ranks_direction_history_with_ranks_best_2_L2 f_1 runner_2 p_3 x_7 (n_28 + 1) v_26 l_27 = some l_29 := h
        rw [m_ranks_direction_history_with_ranks_best_2_L2] at h
        refine Tr.seq ?_
        refine Tr.region layOK ?_
        conv => whnf
        refine Tr.seq ?_
        refine Tr.cond ?_
        conv => whnf
        refine condS_bif h (fun hb32 h => ?_) (fun hb32 h => ?_)
        · refine Tr.skip ?_
          conv => whnf
          refine Tr.seq ?_
          obtain ⟨l_33, hv34, h⟩ := bind_some h
          refine Tr.cutQ1 ([(2, .d (.i .i64 runner_2)), (4, .pt 0 0), (5, .pt 1 0), (7, .pt 2 0), (8, .pt 3 0), (9, .pt 4 0), (10, .pt 5 0), (69, .d (.ls (List.map eTRunner f_1.Runners))), (70, .d (.i .i64 (((f_1.Runners).length : Int)))), (71, .d (.i .i64 v_26))]) ([some (.var [.d (.fn 83 []), .d (.fn 84 []), .d (.fn 85 []), .d (.fn 86 [])]), some (.var [.d (.ls (List.map eTSegment f_1.Clocks.Segments)), .d (.ls (List.map (eL eI) f_1.Clocks.Far)), .d (.ls (List.map eTPair f_1.Pairs)), .d (.ls (List.map eTRunner f_1.Runners))]), some (.var [.d (.i .i64 p_3.world), .d (.i .i64 p_3.outcome), .d (.i .i64 p_3.rank)]), some (.var [.d (.i .i64 0), .nsl, .nsl]), some (.var [.d (.i .i64 p_3.world), .sl 6 1 0 (List.length l_16), .sl 7 2 0 (List.length l_33)]), some (.var [.d (.b x_7.Out), .d (.i .i64 x_7.Seg), .d (.i .i64 x_7.Lo), .d (.i .i64 x_7.Hi)]), some (.arr 1 (List.map .d (List.map eI l_16))), some (.arr 2 (List.map .d (List.map eTChoice l_33)))]) ?_ (fun T1 H1 hw => ?_)
          · replace h := hv34; clear hv34
            refine Tr.block ?_
            refine Tr.seq ?_
            refine Tr.region layOK ?_
            conv => whnf
            obtain ⟨x_35, hx_35, h⟩ := bind_some h
            refine ixP_of hx_35 ?_
            conv => whnf
            refine Tr.seq ?_
            refine Tr.region layOK ?_
            conv => whnf
            refine Tr.seq ?_
            refine Tr.region layOK ?_
            conv => whnf
            refine Tr.seq ?_
            refine Tr.seq ?_
            refine Tr.region layOK ?_
            conv => whnf
            refine Tr.cond ?_
            conv => whnf
            refine condS_bif h (fun hb36 h => ?_) (fun hb36 h => ?_)
            · refine Tr.seq ?_
              refine Tr.region layOK ?_
              conv => whnf
              obtain ⟨⟨r_37, r_38⟩, hc39, h⟩ := bind_some h
              refine PC.ecall (s_ranks_direction_choose_with_ranks_best_2 f_1 p_3.world runner_2 x_7 v_26 r_37 r_38 hc39) (fun rs hrs => ?_)
              subst hrs
              conv => whnf
              refine Tr.region layOK ?_
              conv => whnf
              refine Tr.seq ?_
              refine Tr.seq ?_
              refine Tr.draw (DrawP.seqQ layOK mixed [(11, 10)] [(0, 11), (1, 11), (2, 5), (3, 5), (4, 2), (5, 2), (6, 12), (7, 12), (8, 2), (9, 2), (10, 0), (11, 0)] (by kernel_rfl) ?_)
              conv => whnf
              refine ⟨_, ⟨rfl, rfl, (by (conv => whnf); (exact ⟨rfl, rfl⟩))⟩, ?_⟩
              conv => whnf
              refine ⟨_, ⟨rfl, rfl, (by (conv => whnf); (exact ⟨rfl, rfl⟩))⟩, ?_⟩
              conv => whnf
              refine ⟨_, ⟨rfl, rfl, (by (conv => whnf); (exact ⟨rfl, rfl⟩))⟩, ?_⟩
              conv => whnf
              refine ⟨_, ⟨rfl, rfl, (by (conv => whnf); (exact ⟨rfl, rfl⟩))⟩, ?_⟩
              conv => whnf
              obtain ⟨x_40, hx_40, h⟩ := bind_some h
              refine ⟨_, ⟨rfl, rfl, (by (conv => whnf); (refine ixP_of hx_40 ?_); (conv => whnf); (exact ⟨rfl, rfl⟩))⟩, ?_⟩
              conv => whnf
              refine ⟨_, ⟨rfl, rfl, (by (conv => whnf); (exact ⟨rfl, rfl⟩))⟩, ?_⟩
              conv => whnf
              refine ⟨_, ⟨rfl, rfl, (by (conv => whnf); (exact ⟨rfl, rfl⟩))⟩, ?_⟩
              conv => whnf
              refine ⟨_, ⟨rfl, rfl, (by (conv => whnf); (exact ⟨rfl, rfl⟩))⟩, ?_⟩
              conv => whnf
              obtain ⟨x_41, hx_41, h⟩ := bind_some h
              refine ⟨_, ⟨rfl, rfl, (by (conv => whnf); (refine ixP_of hx_41 ?_); (conv => whnf); (exact ⟨rfl, rfl⟩))⟩, ?_⟩
              conv => whnf
              refine ⟨_, ⟨rfl, rfl, (by (conv => whnf); (exact ⟨rfl, rfl⟩))⟩, ?_⟩
              conv => whnf
              refine ⟨_, _, (by (conv => whnf); (exact ⟨rfl, rfl⟩)), kp_ok (by repeat (first | exact trivial | refine ⟨trivial, ?_⟩ | refine ⟨rfl, ?_⟩)), ?_⟩
              conv => whnf
              refine ⟨_, _, (by (conv => whnf); (exact ⟨rfl, rfl⟩)), kp_ok (by repeat (first | exact trivial | refine ⟨trivial, ?_⟩ | refine ⟨rfl, ?_⟩)), ?_⟩
              conv => whnf
              refine Tr.seq ?_
              refine Tr.region layOK ?_
              conv => whnf
              refine Tr.cond ?_
              conv => whnf
              refine condS_bif h (fun hb42 h => ?_) (fun hb42 h => ?_)
              · refine Tr.region layOK ?_
                conv => whnf
                obtain ⟨r_43, hc44, h⟩ := bind_some h
                refine PC.ecall (s_ranks_hi x_41 r_43 hc44) (fun rs hrs => ?_)
                subst hrs
                conv => whnf
                refine Tr.region layOK ?_
                conv => whnf
                refine orB_r ?_
                conv => whnf
                refine frP_no ?_
                conv => whnf
                refine eqS_mk (by first | rfl | simp) ?_
                conv => whnf
                obtain ⟨l_45, hl_45, h⟩ := bind_some h
                refine apS_of hl_45 (apq_map (f := eTChoice) (l := (([({ Outcome := r_37, X := r_43 } : TChoice)] : List TChoice))) fun _ => rfl) (by first | rfl | simp) (by first | rfl | simp) (fun he => ?_)
                conv => whnf
                refine reS_mk (es' := List.map .d (List.map eTChoice l_45)) (n' := List.length l_45) (by subst he; simp only [List.map_append, List.map_cons, List.map_nil, List.nil_append]; first | done | rfl) (by subst he; simp <;> omega) ?_
                clear he
                conv => whnf
                refine orB_l ?_
                conv => whnf
                cases h
                exact Wk.mk2 [0, 1, 2, 3, 4, 5, 6, 11] 12 rfl rfl (by decide) rfl ⟨⟨rfl, rfl⟩, ⟨rfl, rfl⟩, ⟨rfl, rfl⟩, ⟨rfl, rfl⟩, ⟨rfl, (by first | rfl | (simp only [↓hb8, ↓hb32, ↓hb36, ↓hb42, cond_true, cond_false, Bool.true_or, Bool.or_true, Bool.false_or, Bool.or_false, Bool.true_and, Bool.and_true, Bool.false_and, Bool.and_false, Bool.not_true, Bool.not_false]; done) | (simp only [↓hb8, ↓hb32, ↓hb36, ↓hb42, cond_true, cond_false, Bool.true_or, Bool.or_true, Bool.false_or, Bool.or_false, Bool.true_and, Bool.and_true, Bool.false_and, Bool.and_false, Bool.not_true, Bool.not_false]; rfl))⟩, ⟨rfl, rfl⟩, daS_d rfl, daS_d rfl, trivial⟩ ⟨⟨rfl, rfl⟩, ⟨rfl, rfl⟩, ⟨rfl, rfl⟩, ⟨rfl, rfl⟩, ⟨rfl, rfl⟩, ⟨rfl, rfl⟩, ⟨rfl, rfl⟩, ⟨rfl, rfl⟩, ⟨rfl, rfl⟩, ⟨rfl, rfl⟩, trivial⟩
              · refine Tr.skip ?_
                conv => whnf
                refine Tr.region layOK ?_
                conv => whnf
                refine orB_r ?_
                conv => whnf
                refine frP_no ?_
                conv => whnf
                refine eqS_mk (by first | rfl | simp) ?_
                conv => whnf
                obtain ⟨l_46, hl_46, h⟩ := bind_some h
                refine apS_of hl_46 (apq_map (f := eTChoice) (l := (([({ Outcome := r_37, X := 0 } : TChoice)] : List TChoice))) fun _ => rfl) (by first | rfl | simp) (by first | rfl | simp) (fun he => ?_)
                conv => whnf
                refine reS_mk (es' := List.map .d (List.map eTChoice l_46)) (n' := List.length l_46) (by subst he; simp only [List.map_append, List.map_cons, List.map_nil, List.nil_append]; first | done | rfl) (by subst he; simp <;> omega) ?_
                clear he
                conv => whnf
                refine orB_l ?_
                conv => whnf
                cases h
                exact Wk.mk2 [0, 1, 2, 3, 4, 5, 6, 11] 12 rfl rfl (by decide) rfl ⟨⟨rfl, rfl⟩, ⟨rfl, rfl⟩, ⟨rfl, rfl⟩, ⟨rfl, rfl⟩, ⟨rfl, (by first | rfl | (simp only [↓hb8, ↓hb32, ↓hb36, ↓hb42, cond_true, cond_false, Bool.true_or, Bool.or_true, Bool.false_or, Bool.or_false, Bool.true_and, Bool.and_true, Bool.false_and, Bool.and_false, Bool.not_true, Bool.not_false]; done) | (simp only [↓hb8, ↓hb32, ↓hb36, ↓hb42, cond_true, cond_false, Bool.true_or, Bool.or_true, Bool.false_or, Bool.or_false, Bool.true_and, Bool.and_true, Bool.false_and, Bool.and_false, Bool.not_true, Bool.not_false]; rfl))⟩, ⟨rfl, rfl⟩, daS_d rfl, daS_d rfl, trivial⟩ ⟨⟨rfl, rfl⟩, ⟨rfl, rfl⟩, ⟨rfl, rfl⟩, ⟨rfl, rfl⟩, ⟨rfl, rfl⟩, ⟨rfl, rfl⟩, ⟨rfl, rfl⟩, ⟨rfl, rfl⟩, ⟨rfl, rfl⟩, ⟨rfl, rfl⟩, trivial⟩
            · refine Tr.skip ?_
              conv => whnf
              refine Tr.seq ?_
              refine Tr.seq ?_
              refine Tr.draw (DrawP.seqQ layOK mixed [(11, 10)] [(0, 11), (1, 11), (2, 5), (3, 5), (4, 2), (5, 2), (6, 12), (7, 12), (8, 2), (9, 2), (10, 0), (11, 0)] (by kernel_rfl) ?_)
              conv => whnf
              refine ⟨_, ⟨rfl, rfl, (by (conv => whnf); (exact ⟨rfl, rfl⟩))⟩, ?_⟩
              conv => whnf
              refine ⟨_, ⟨rfl, rfl, (by (conv => whnf); (exact ⟨rfl, rfl⟩))⟩, ?_⟩
              conv => whnf
              refine ⟨_, ⟨rfl, rfl, (by (conv => whnf); (exact ⟨rfl, rfl⟩))⟩, ?_⟩
              conv => whnf
              refine ⟨_, ⟨rfl, rfl, (by (conv => whnf); (exact ⟨rfl, rfl⟩))⟩, ?_⟩
              conv => whnf
              obtain ⟨x_47, hx_47, h⟩ := bind_some h
              refine ⟨_, ⟨rfl, rfl, (by (conv => whnf); (refine ixP_of hx_47 ?_); (conv => whnf); (exact ⟨rfl, rfl⟩))⟩, ?_⟩
              conv => whnf
              refine ⟨_, ⟨rfl, rfl, (by (conv => whnf); (exact ⟨rfl, rfl⟩))⟩, ?_⟩
              conv => whnf
              refine ⟨_, ⟨rfl, rfl, (by (conv => whnf); (exact ⟨rfl, rfl⟩))⟩, ?_⟩
              conv => whnf
              refine ⟨_, ⟨rfl, rfl, (by (conv => whnf); (exact ⟨rfl, rfl⟩))⟩, ?_⟩
              conv => whnf
              obtain ⟨x_48, hx_48, h⟩ := bind_some h
              refine ⟨_, ⟨rfl, rfl, (by (conv => whnf); (refine ixP_of hx_48 ?_); (conv => whnf); (exact ⟨rfl, rfl⟩))⟩, ?_⟩
              conv => whnf
              refine ⟨_, ⟨rfl, rfl, (by (conv => whnf); (exact ⟨rfl, rfl⟩))⟩, ?_⟩
              conv => whnf
              refine ⟨_, _, (by (conv => whnf); (exact ⟨rfl, rfl⟩)), kp_ok (by repeat (first | exact trivial | refine ⟨trivial, ?_⟩ | refine ⟨rfl, ?_⟩)), ?_⟩
              conv => whnf
              refine ⟨_, _, (by (conv => whnf); (exact ⟨rfl, rfl⟩)), kp_ok (by repeat (first | exact trivial | refine ⟨trivial, ?_⟩ | refine ⟨rfl, ?_⟩)), ?_⟩
              conv => whnf
              refine Tr.seq ?_
              refine Tr.region layOK ?_
              conv => whnf
              refine Tr.cond ?_
              conv => whnf
              refine condS_bif h (fun hb49 h => ?_) (fun hb49 h => ?_)
              · refine Tr.region layOK ?_
                conv => whnf
                obtain ⟨r_50, hc51, h⟩ := bind_some h
                refine PC.ecall (s_ranks_lo x_48 r_50 hc51) (fun rs hrs => ?_)
                subst hrs
                conv => whnf
                refine Tr.region layOK ?_
                conv => whnf
                refine orB_r ?_
                conv => whnf
                refine frP_no ?_
                conv => whnf
                refine eqS_mk (by first | rfl | simp) ?_
                conv => whnf
                obtain ⟨l_52, hl_52, h⟩ := bind_some h
                refine apS_of hl_52 (apq_map (f := eTChoice) (l := (([({ Outcome := p_3.outcome, X := r_50 } : TChoice)] : List TChoice))) fun _ => rfl) (by first | rfl | simp) (by first | rfl | simp) (fun he => ?_)
                conv => whnf
                refine reS_mk (es' := List.map .d (List.map eTChoice l_52)) (n' := List.length l_52) (by subst he; simp only [List.map_append, List.map_cons, List.map_nil, List.nil_append]; first | done | rfl) (by subst he; simp <;> omega) ?_
                clear he
                conv => whnf
                refine orB_l ?_
                conv => whnf
                cases h
                exact Wk.mk2 [0, 1, 2, 3, 4, 5, 6, 11] 12 rfl rfl (by decide) rfl ⟨⟨rfl, rfl⟩, ⟨rfl, rfl⟩, ⟨rfl, rfl⟩, ⟨rfl, rfl⟩, ⟨rfl, (by first | rfl | (simp only [↓hb8, ↓hb32, ↓hb36, ↓hb49, cond_true, cond_false, Bool.true_or, Bool.or_true, Bool.false_or, Bool.or_false, Bool.true_and, Bool.and_true, Bool.false_and, Bool.and_false, Bool.not_true, Bool.not_false]; done) | (simp only [↓hb8, ↓hb32, ↓hb36, ↓hb49, cond_true, cond_false, Bool.true_or, Bool.or_true, Bool.false_or, Bool.or_false, Bool.true_and, Bool.and_true, Bool.false_and, Bool.and_false, Bool.not_true, Bool.not_false]; rfl))⟩, ⟨rfl, rfl⟩, daS_d rfl, daS_d rfl, trivial⟩ ⟨⟨rfl, rfl⟩, ⟨rfl, rfl⟩, ⟨rfl, rfl⟩, ⟨rfl, rfl⟩, ⟨rfl, rfl⟩, ⟨rfl, rfl⟩, ⟨rfl, rfl⟩, ⟨rfl, rfl⟩, ⟨rfl, rfl⟩, ⟨rfl, rfl⟩, trivial⟩
              · refine Tr.skip ?_
                conv => whnf
                refine Tr.region layOK ?_
                conv => whnf
                refine orB_r ?_
                conv => whnf
                refine frP_no ?_
                conv => whnf
                refine eqS_mk (by first | rfl | simp) ?_
                conv => whnf
                obtain ⟨l_53, hl_53, h⟩ := bind_some h
                refine apS_of hl_53 (apq_map (f := eTChoice) (l := (([({ Outcome := p_3.outcome, X := 0 } : TChoice)] : List TChoice))) fun _ => rfl) (by first | rfl | simp) (by first | rfl | simp) (fun he => ?_)
                conv => whnf
                refine reS_mk (es' := List.map .d (List.map eTChoice l_53)) (n' := List.length l_53) (by subst he; simp only [List.map_append, List.map_cons, List.map_nil, List.nil_append]; first | done | rfl) (by subst he; simp <;> omega) ?_
                clear he
                conv => whnf
                refine orB_l ?_
                conv => whnf
                cases h
                exact Wk.mk2 [0, 1, 2, 3, 4, 5, 6, 11] 12 rfl rfl (by decide) rfl ⟨⟨rfl, rfl⟩, ⟨rfl, rfl⟩, ⟨rfl, rfl⟩, ⟨rfl, rfl⟩, ⟨rfl, (by first | rfl | (simp only [↓hb8, ↓hb32, ↓hb36, ↓hb49, cond_true, cond_false, Bool.true_or, Bool.or_true, Bool.false_or, Bool.or_false, Bool.true_and, Bool.and_true, Bool.false_and, Bool.and_false, Bool.not_true, Bool.not_false]; done) | (simp only [↓hb8, ↓hb32, ↓hb36, ↓hb49, cond_true, cond_false, Bool.true_or, Bool.or_true, Bool.false_or, Bool.or_false, Bool.true_and, Bool.and_true, Bool.false_and, Bool.and_false, Bool.not_true, Bool.not_false]; rfl))⟩, ⟨rfl, rfl⟩, daS_d rfl, daS_d rfl, trivial⟩ ⟨⟨rfl, rfl⟩, ⟨rfl, rfl⟩, ⟨rfl, rfl⟩, ⟨rfl, rfl⟩, ⟨rfl, rfl⟩, ⟨rfl, rfl⟩, ⟨rfl, rfl⟩, ⟨rfl, rfl⟩, ⟨rfl, rfl⟩, ⟨rfl, rfl⟩, trivial⟩
          · clear hv34
            conv => whnf
            refine Tr.weak hw ?_
            refine Tr.region layOK ?_
            conv => whnf
            refine arS_raw ?_
            conv => whnf
            refine ⟨((w64 (v_26 + 1)), l_33), h, ?_⟩
            exact Wk.mk2 [0, 1, 2, 3, 4, 5, 6, 7] 8 rfl rfl (by decide) rfl ⟨⟨rfl, rfl⟩, ⟨rfl, rfl⟩, ⟨rfl, rfl⟩, ⟨rfl, rfl⟩, ⟨rfl, rfl⟩, ⟨rfl, rfl⟩, daS_d rfl, daS_d rfl, trivial⟩ ⟨⟨rfl, rfl⟩, ⟨rfl, rfl⟩, ⟨rfl, rfl⟩, ⟨rfl, rfl⟩, ⟨rfl, rfl⟩, ⟨rfl, rfl⟩, ⟨rfl, rfl⟩, ⟨rfl, rfl⟩, ⟨rfl, rfl⟩, ⟨rfl, rfl⟩, trivial⟩
        · refine Tr.exit ?_
          conv => whnf
          cases h
          exact Wk.mk2 [3, 4, 6, 7] 8 rfl rfl (by decide) rfl ⟨⟨rfl, rfl⟩, ⟨rfl, (by first | rfl | (simp only [↓hb8, ↓hb32, cond_true, cond_false, Bool.true_or, Bool.or_true, Bool.false_or, Bool.or_false, Bool.true_and, Bool.and_true, Bool.false_and, Bool.and_false, Bool.not_true, Bool.not_false]; done) | (simp only [↓hb8, ↓hb32, cond_true, cond_false, Bool.true_or, Bool.or_true, Bool.false_or, Bool.or_false, Bool.true_and, Bool.and_true, Bool.false_and, Bool.and_false, Bool.not_true, Bool.not_false]; rfl))⟩, daS_d rfl, daS_d rfl, trivial⟩ ⟨⟨rfl, (by first | rfl | (simp only [↓hb8, ↓hb32, cond_true, cond_false, Bool.true_or, Bool.or_true, Bool.false_or, Bool.or_false, Bool.true_and, Bool.and_true, Bool.false_and, Bool.and_false, Bool.not_true, Bool.not_false]; done) | (simp only [↓hb8, ↓hb32, cond_true, cond_false, Bool.true_or, Bool.or_true, Bool.false_or, Bool.or_false, Bool.true_and, Bool.and_true, Bool.false_and, Bool.and_false, Bool.not_true, Bool.not_false]; rfl))⟩, ⟨rfl, (by first | rfl | (simp only [↓hb8, ↓hb32, cond_true, cond_false, Bool.true_or, Bool.or_true, Bool.false_or, Bool.or_false, Bool.true_and, Bool.and_true, Bool.false_and, Bool.and_false, Bool.not_true, Bool.not_false]; done) | (simp only [↓hb8, ↓hb32, cond_true, cond_false, Bool.true_or, Bool.or_true, Bool.false_or, Bool.or_false, Bool.true_and, Bool.and_true, Bool.false_and, Bool.and_false, Bool.not_true, Bool.not_false]; rfl))⟩, trivial⟩
      · clear hv54
        conv => whnf
        refine Tr.weak hw ?_
        refine Tr.seq ?_
        refine Tr.region layOK ?_
        conv => whnf
        refine orB_l ?_
        conv => whnf
        refine Tr.ret ?_
        conv => whnf
        refine frE_of (f := eI) (l := l_16) rfl ?_
        conv => whnf
        refine frE_of (f := eTChoice) (l := l_29) rfl ?_
        conv => whnf
        cases h
        rfl
  · refine Tr.skip ?_
    conv => whnf
    refine Tr.seq ?_
    refine Tr.region layOK ?_
    conv => whnf
    refine Tr.seq ?_
    refine Tr.seq ?_
    refine Tr.region layOK ?_
    conv => whnf
    refine lnS_map ?_
    conv => whnf
    obtain ⟨l_60, hv67, h⟩ := bind_some h
    refine Tr.cutQ1 ([(2, .d (.i .i64 runner_2)), (4, .pt 0 0), (5, .pt 1 0), (7, .pt 2 0), (8, .pt 3 0), (9, .pt 4 0), (10, .pt 5 0)]) ([some (.var [.d (.fn 83 []), .d (.fn 84 []), .d (.fn 85 []), .d (.fn 86 [])]), some (.var [.d (.ls (List.map eTSegment f_1.Clocks.Segments)), .d (.ls (List.map (eL eI) f_1.Clocks.Far)), .d (.ls (List.map eTPair f_1.Pairs)), .d (.ls (List.map eTRunner f_1.Runners))]), some (.var [.d (.i .i64 p_3.world), .d (.i .i64 p_3.outcome), .d (.i .i64 p_3.rank)]), some (.var [.d (.i .i64 0), .nsl, .nsl]), some (.var [.d (.i .i64 p_3.world), .sl 6 1 0 (List.length l_60), .nsl]), some (.var [.d (.b x_7.Out), .d (.i .i64 x_7.Seg), .d (.i .i64 x_7.Lo), .d (.i .i64 x_7.Hi)]), some (.arr 1 (List.map .d (List.map eI l_60)))]) ?_ (fun T1 H1 hw => ?_)
    · replace h := hv67; clear hv67
      refine Tr.block ?_
      refine Tr.loopM (σ := Int × List Int) (fun n s => m_ranks_direction_history_with_ranks_best_2_L3 f_1 x_7 n s.1 s.2) l_60 (fun s => ([(2, .d (.i .i64 runner_2)), (4, .pt 0 0), (5, .pt 1 0), (7, .pt 2 0), (8, .pt 3 0), (9, .pt 4 0), (10, .pt 5 0), (13, .fn 106 [.pt 6 0, .pt 0 0, .pt 1 0, .pt 7 0]), (54, .d (.i .i64 (((f_1.Clocks.Segments).length : Int)))), (55, .d (.i .i64 s.1))], [some (.var [.d (.fn 83 []), .d (.fn 84 []), .d (.fn 85 []), .d (.fn 86 [])]), some (.var [.d (.ls (List.map eTSegment f_1.Clocks.Segments)), .d (.ls (List.map (eL eI) f_1.Clocks.Far)), .d (.ls (List.map eTPair f_1.Pairs)), .d (.ls (List.map eTRunner f_1.Runners))]), some (.var [.d (.i .i64 p_3.world), .d (.i .i64 p_3.outcome), .d (.i .i64 p_3.rank)]), some (.var [.d (.i .i64 0), .nsl, .nsl]), some (.var [.d (.i .i64 p_3.world), .sl 8 1 0 (List.length s.2), .nsl]), some (.var [.d (.b x_7.Out), .d (.i .i64 x_7.Seg), .d (.i .i64 x_7.Lo), .d (.i .i64 x_7.Hi)]), some (.var [.d (.i .i64 0)]), some (.var [.d (.i .i64 (w64 (x_7.Seg + 1)))]), some (.arr 1 (List.map .d (List.map eI s.2)))])) (((((f_1.Clocks.Segments).length : Int)) - 0 : Int).toNat + 1) (0, (([] : List Int))) h (fun s => rfl) (Wk.mk2 [0, 1, 2, 3, 4, 5, 7, 6, 8] 8 rfl rfl (by decide) rfl ⟨⟨rfl, rfl⟩, ⟨rfl, rfl⟩, ⟨rfl, rfl⟩, ⟨rfl, rfl⟩, ⟨rfl, (by first | rfl | (simp only [↓hb8, cond_true, cond_false, Bool.true_or, Bool.or_true, Bool.false_or, Bool.or_false, Bool.true_and, Bool.and_true, Bool.false_and, Bool.and_false, Bool.not_true, Bool.not_false]; done) | (simp only [↓hb8, cond_true, cond_false, Bool.true_or, Bool.or_true, Bool.false_or, Bool.or_false, Bool.true_and, Bool.and_true, Bool.false_and, Bool.and_false, Bool.not_true, Bool.not_false]; rfl))⟩, ⟨rfl, rfl⟩, ⟨rfl, rfl⟩, ⟨rfl, rfl⟩, rfl, trivial⟩ ⟨⟨rfl, rfl⟩, ⟨rfl, rfl⟩, ⟨rfl, rfl⟩, ⟨rfl, rfl⟩, ⟨rfl, rfl⟩, ⟨rfl, rfl⟩, ⟨rfl, rfl⟩, ⟨rfl, (by first | rfl | (simp only [↓hb8, cond_true, cond_false, Bool.true_or, Bool.or_true, Bool.false_or, Bool.or_false, Bool.true_and, Bool.and_true, Bool.false_and, Bool.and_false, Bool.not_true, Bool.not_false]; done) | (simp only [↓hb8, cond_true, cond_false, Bool.true_or, Bool.or_true, Bool.false_or, Bool.or_false, Bool.true_and, Bool.and_true, Bool.false_and, Bool.and_false, Bool.not_true, Bool.not_false]; rfl))⟩, ⟨rfl, rfl⟩, ⟨rfl, rfl⟩, trivial⟩) ?_
      clear h
      rintro n_59 ⟨v_57, l_58⟩ h
      replace h : m_ranks_direction_history_with_ranks_best_2_L3 f_1 x_7 (n_59 + 1) v_57 l_58 = some l_60 := h
      rw [m_ranks_direction_history_with_ranks_best_2_L3] at h
      refine Tr.seq ?_
      refine Tr.region layOK ?_
      conv => whnf
      refine Tr.seq ?_
      refine Tr.cond ?_
      conv => whnf
      refine condS_bif h (fun hb63 h => ?_) (fun hb63 h => ?_)
      · refine Tr.skip ?_
        conv => whnf
        refine Tr.seq ?_
        refine Tr.block ?_
        refine Tr.seq ?_
        refine Tr.region layOK ?_
        conv => whnf
        refine Tr.draw (DrawP.seqQ layOK mixed [(7, 8), (9, 4)] [(0, 7), (1, 7), (2, 1), (3, 1), (4, 1), (5, 0), (6, 1), (7, 0), (8, 7), (9, 0)] (by kernel_rfl) ?_)
        conv => whnf
        refine ⟨_, ⟨rfl, rfl, (by (conv => whnf); (exact ⟨rfl, rfl⟩))⟩, ?_⟩
        conv => whnf
        refine ⟨_, ⟨rfl, rfl, (by (conv => whnf); (exact ⟨rfl, rfl⟩))⟩, ?_⟩
        conv => whnf
        refine ⟨_, (fun H => by (conv => whnf); (exact ⟨rfl, rfl⟩)), ?_⟩
        conv => whnf
        refine ⟨_, (fun H => by (conv => whnf); (exact ⟨rfl, rfl⟩)), ?_⟩
        conv => whnf
        refine ⟨_, (fun H => by (conv => whnf); (refine arS_raw ?_); (conv => whnf); (exact ⟨rfl, rfl⟩)), ?_⟩
        conv => whnf
        obtain ⟨r_64, hc65, h⟩ := bind_some h
        refine ⟨_, _, (by (conv => whnf); (refine PC.ecall_lend ?_ ⟨_, _, func106, rfl, rfl⟩); (conv => whnf); (refine ⟨_, s_ranks_direction_history_1 ((w64 (v_57 + 1))) 0 f_1.Clocks.Segments f_1.Clocks.Far f_1.Pairs f_1.Runners ((w64 (x_7.Seg + 1))) r_64 hc65, fun rs hrs => ?_⟩); (subst hrs); (refine ⟨rfl, ?_⟩); (conv => whnf); (exact ⟨rfl, rfl⟩)), kp_ok (by repeat (first | exact trivial | refine ⟨trivial, ?_⟩ | refine ⟨rfl, ?_⟩)), ?_⟩
        conv => whnf
        refine ⟨_, (fun H => by (conv => whnf); (refine orB_r ?_); (conv => whnf); (exact ⟨rfl, rfl⟩)), ?_⟩
        conv => whnf
        obtain ⟨l_66, hl_66, h⟩ := bind_some h
        refine ⟨_, _, (by (conv => whnf); (refine frP_no ?_); (conv => whnf); (refine eqS_mk (by first | rfl | simp) ?_); (conv => whnf); (refine apS_of hl_66 (apq_map (f := eI) (l := (([r_64] : List Int))) fun _ => rfl) (by first | rfl | simp) (by first | rfl | simp) (fun he => ?_)); (conv => whnf); (refine reS_mk (es' := List.map .d (List.map eI l_66)) (n' := List.length l_66) (by subst he; simp only [List.map_append, List.map_cons, List.map_nil, List.nil_append]; first | done | rfl) (by subst he; simp <;> omega) ?_); (clear he); (conv => whnf); (exact ⟨rfl, rfl⟩)), kp_ok (by repeat (first | exact trivial | refine ⟨trivial, ?_⟩ | refine ⟨rfl, ?_⟩)), ?_⟩
        conv => whnf
        refine ⟨_, ⟨rfl, rfl, (by (conv => whnf); (exact ⟨rfl, rfl⟩))⟩, ?_⟩
        conv => whnf
        refine ⟨_, _, (by (conv => whnf); (refine orB_l ?_); (conv => whnf); (exact ⟨rfl, rfl⟩)), kp_ok (by repeat (first | exact trivial | refine ⟨trivial, ?_⟩ | refine ⟨rfl, ?_⟩)), ?_⟩
        conv => whnf
        refine Tr.region layOK ?_
        conv => whnf
        refine arS_raw ?_
        conv => whnf
        refine ⟨((w64 (v_57 + 1)), l_66), h, ?_⟩
        exact Wk.mk2 [0, 1, 2, 3, 4, 5, 6, 7, 9] 10 rfl rfl (by decide) rfl ⟨⟨rfl, rfl⟩, ⟨rfl, rfl⟩, ⟨rfl, rfl⟩, ⟨rfl, rfl⟩, ⟨rfl, (by first | rfl | (simp only [↓hb8, ↓hb63, cond_true, cond_false, Bool.true_or, Bool.or_true, Bool.false_or, Bool.or_false, Bool.true_and, Bool.and_true, Bool.false_and, Bool.and_false, Bool.not_true, Bool.not_false]; done) | (simp only [↓hb8, ↓hb63, cond_true, cond_false, Bool.true_or, Bool.or_true, Bool.false_or, Bool.or_false, Bool.true_and, Bool.and_true, Bool.false_and, Bool.and_false, Bool.not_true, Bool.not_false]; rfl))⟩, ⟨rfl, rfl⟩, ⟨rfl, rfl⟩, ⟨rfl, rfl⟩, daS_d rfl, trivial⟩ ⟨⟨rfl, rfl⟩, ⟨rfl, rfl⟩, ⟨rfl, rfl⟩, ⟨rfl, rfl⟩, ⟨rfl, rfl⟩, ⟨rfl, rfl⟩, ⟨rfl, rfl⟩, ⟨rfl, rfl⟩, ⟨rfl, rfl⟩, ⟨rfl, rfl⟩, trivial⟩
      · refine Tr.exit ?_
        conv => whnf
        cases h
        exact Wk.mk2 [0, 1, 2, 3, 4, 5, 8] 9 rfl rfl (by decide) rfl ⟨⟨rfl, rfl⟩, ⟨rfl, rfl⟩, ⟨rfl, rfl⟩, ⟨rfl, rfl⟩, ⟨rfl, (by first | rfl | (simp only [↓hb8, ↓hb63, cond_true, cond_false, Bool.true_or, Bool.or_true, Bool.false_or, Bool.or_false, Bool.true_and, Bool.and_true, Bool.false_and, Bool.and_false, Bool.not_true, Bool.not_false]; done) | (simp only [↓hb8, ↓hb63, cond_true, cond_false, Bool.true_or, Bool.or_true, Bool.false_or, Bool.or_false, Bool.true_and, Bool.and_true, Bool.false_and, Bool.and_false, Bool.not_true, Bool.not_false]; rfl))⟩, ⟨rfl, rfl⟩, daS_d rfl, trivial⟩ ⟨⟨rfl, rfl⟩, ⟨rfl, rfl⟩, ⟨rfl, rfl⟩, ⟨rfl, rfl⟩, ⟨rfl, rfl⟩, ⟨rfl, rfl⟩, ⟨rfl, rfl⟩, trivial⟩
    · clear hv67
      conv => whnf
      refine Tr.weak hw ?_
      refine Tr.seq ?_
      refine Tr.seq ?_
      refine Tr.region layOK ?_
      conv => whnf
      refine lnS_map ?_
      conv => whnf
      obtain ⟨l_73, hv98, h⟩ := bind_some h
      refine Tr.cutQ1 ([(8, .pt 0 0), (9, .pt 1 0)]) ([some (.var [.d (.i .i64 0), .nsl, .nsl]), some (.var [.d (.i .i64 p_3.world), .sl 2 1 0 (List.length l_60), .sl 3 2 0 (List.length l_73)]), some (.arr 1 (List.map .d (List.map eI l_60))), some (.arr 2 (List.map .d (List.map eTChoice l_73)))]) ?_ (fun T1 H1 hw => ?_)
      · replace h := hv98; clear hv98
        refine Tr.block ?_
        refine Tr.loopM (σ := Int × List TChoice) (fun n s => m_ranks_direction_history_with_ranks_best_2_L4 f_1 runner_2 p_3 x_7 n s.1 s.2) l_73 (fun s => ([(2, .d (.i .i64 runner_2)), (4, .pt 0 0), (5, .pt 1 0), (7, .pt 2 0), (8, .pt 3 0), (9, .pt 4 0), (10, .pt 5 0), (69, .d (.ls (List.map eTRunner f_1.Runners))), (70, .d (.i .i64 (((f_1.Runners).length : Int)))), (71, .d (.i .i64 s.1))], [some (.var [.d (.fn 83 []), .d (.fn 84 []), .d (.fn 85 []), .d (.fn 86 [])]), some (.var [.d (.ls (List.map eTSegment f_1.Clocks.Segments)), .d (.ls (List.map (eL eI) f_1.Clocks.Far)), .d (.ls (List.map eTPair f_1.Pairs)), .d (.ls (List.map eTRunner f_1.Runners))]), some (.var [.d (.i .i64 p_3.world), .d (.i .i64 p_3.outcome), .d (.i .i64 p_3.rank)]), some (.var [.d (.i .i64 0), .nsl, .nsl]), some (.var [.d (.i .i64 p_3.world), .sl 6 1 0 (List.length l_60), .sl 7 2 0 (List.length s.2)]), some (.var [.d (.b x_7.Out), .d (.i .i64 x_7.Seg), .d (.i .i64 x_7.Lo), .d (.i .i64 x_7.Hi)]), some (.arr 1 (List.map .d (List.map eI l_60))), some (.arr 2 (List.map .d (List.map eTChoice s.2)))])) (((((f_1.Runners).length : Int)) - 0 : Int).toNat + 1) (0, (([] : List TChoice))) h (fun s => rfl) (Wk.mk2 [0, 1, 2, 3, 4, 5, 6, 7] 7 rfl rfl (by decide) rfl ⟨⟨rfl, rfl⟩, ⟨rfl, rfl⟩, ⟨rfl, rfl⟩, ⟨rfl, rfl⟩, ⟨rfl, (by first | rfl | (simp only [↓hb8, cond_true, cond_false, Bool.true_or, Bool.or_true, Bool.false_or, Bool.or_false, Bool.true_and, Bool.and_true, Bool.false_and, Bool.and_false, Bool.not_true, Bool.not_false]; done) | (simp only [↓hb8, cond_true, cond_false, Bool.true_or, Bool.or_true, Bool.false_or, Bool.or_false, Bool.true_and, Bool.and_true, Bool.false_and, Bool.and_false, Bool.not_true, Bool.not_false]; rfl))⟩, ⟨rfl, rfl⟩, daS_d rfl, rfl, trivial⟩ ⟨⟨rfl, rfl⟩, ⟨rfl, rfl⟩, ⟨rfl, rfl⟩, ⟨rfl, rfl⟩, ⟨rfl, rfl⟩, ⟨rfl, rfl⟩, ⟨rfl, rfl⟩, ⟨rfl, rfl⟩, ⟨rfl, rfl⟩, ⟨rfl, rfl⟩, trivial⟩) ?_
        clear h
        rintro n_72 ⟨v_70, l_71⟩ h
        replace h : m_ranks_direction_history_with_ranks_best_2_L4 f_1 runner_2 p_3 x_7 (n_72 + 1) v_70 l_71 = some l_73 := h
        rw [m_ranks_direction_history_with_ranks_best_2_L4] at h
        refine Tr.seq ?_
        refine Tr.region layOK ?_
        conv => whnf
        refine Tr.seq ?_
        refine Tr.cond ?_
        conv => whnf
        refine condS_bif h (fun hb76 h => ?_) (fun hb76 h => ?_)
        · refine Tr.skip ?_
          conv => whnf
          refine Tr.seq ?_
          obtain ⟨l_77, hv78, h⟩ := bind_some h
          refine Tr.cutQ1 ([(2, .d (.i .i64 runner_2)), (4, .pt 0 0), (5, .pt 1 0), (7, .pt 2 0), (8, .pt 3 0), (9, .pt 4 0), (10, .pt 5 0), (69, .d (.ls (List.map eTRunner f_1.Runners))), (70, .d (.i .i64 (((f_1.Runners).length : Int)))), (71, .d (.i .i64 v_70))]) ([some (.var [.d (.fn 83 []), .d (.fn 84 []), .d (.fn 85 []), .d (.fn 86 [])]), some (.var [.d (.ls (List.map eTSegment f_1.Clocks.Segments)), .d (.ls (List.map (eL eI) f_1.Clocks.Far)), .d (.ls (List.map eTPair f_1.Pairs)), .d (.ls (List.map eTRunner f_1.Runners))]), some (.var [.d (.i .i64 p_3.world), .d (.i .i64 p_3.outcome), .d (.i .i64 p_3.rank)]), some (.var [.d (.i .i64 0), .nsl, .nsl]), some (.var [.d (.i .i64 p_3.world), .sl 6 1 0 (List.length l_60), .sl 7 2 0 (List.length l_77)]), some (.var [.d (.b x_7.Out), .d (.i .i64 x_7.Seg), .d (.i .i64 x_7.Lo), .d (.i .i64 x_7.Hi)]), some (.arr 1 (List.map .d (List.map eI l_60))), some (.arr 2 (List.map .d (List.map eTChoice l_77)))]) ?_ (fun T1 H1 hw => ?_)
          · replace h := hv78; clear hv78
            refine Tr.block ?_
            refine Tr.seq ?_
            refine Tr.region layOK ?_
            conv => whnf
            obtain ⟨x_79, hx_79, h⟩ := bind_some h
            refine ixP_of hx_79 ?_
            conv => whnf
            refine Tr.seq ?_
            refine Tr.region layOK ?_
            conv => whnf
            refine Tr.seq ?_
            refine Tr.region layOK ?_
            conv => whnf
            refine Tr.seq ?_
            refine Tr.seq ?_
            refine Tr.region layOK ?_
            conv => whnf
            refine Tr.cond ?_
            conv => whnf
            refine condS_bif h (fun hb80 h => ?_) (fun hb80 h => ?_)
            · refine Tr.seq ?_
              refine Tr.region layOK ?_
              conv => whnf
              obtain ⟨⟨r_81, r_82⟩, hc83, h⟩ := bind_some h
              refine PC.ecall (s_ranks_direction_choose_with_ranks_best_2 f_1 p_3.world runner_2 x_7 v_70 r_81 r_82 hc83) (fun rs hrs => ?_)
              subst hrs
              conv => whnf
              refine Tr.region layOK ?_
              conv => whnf
              refine Tr.seq ?_
              refine Tr.seq ?_
              refine Tr.draw (DrawP.seqQ layOK mixed [(11, 10)] [(0, 11), (1, 11), (2, 5), (3, 5), (4, 2), (5, 2), (6, 12), (7, 12), (8, 2), (9, 2), (10, 0), (11, 0)] (by kernel_rfl) ?_)
              conv => whnf
              refine ⟨_, ⟨rfl, rfl, (by (conv => whnf); (exact ⟨rfl, rfl⟩))⟩, ?_⟩
              conv => whnf
              refine ⟨_, ⟨rfl, rfl, (by (conv => whnf); (exact ⟨rfl, rfl⟩))⟩, ?_⟩
              conv => whnf
              refine ⟨_, ⟨rfl, rfl, (by (conv => whnf); (exact ⟨rfl, rfl⟩))⟩, ?_⟩
              conv => whnf
              refine ⟨_, ⟨rfl, rfl, (by (conv => whnf); (exact ⟨rfl, rfl⟩))⟩, ?_⟩
              conv => whnf
              obtain ⟨x_84, hx_84, h⟩ := bind_some h
              refine ⟨_, ⟨rfl, rfl, (by (conv => whnf); (refine ixP_of hx_84 ?_); (conv => whnf); (exact ⟨rfl, rfl⟩))⟩, ?_⟩
              conv => whnf
              refine ⟨_, ⟨rfl, rfl, (by (conv => whnf); (exact ⟨rfl, rfl⟩))⟩, ?_⟩
              conv => whnf
              refine ⟨_, ⟨rfl, rfl, (by (conv => whnf); (exact ⟨rfl, rfl⟩))⟩, ?_⟩
              conv => whnf
              refine ⟨_, ⟨rfl, rfl, (by (conv => whnf); (exact ⟨rfl, rfl⟩))⟩, ?_⟩
              conv => whnf
              obtain ⟨x_85, hx_85, h⟩ := bind_some h
              refine ⟨_, ⟨rfl, rfl, (by (conv => whnf); (refine ixP_of hx_85 ?_); (conv => whnf); (exact ⟨rfl, rfl⟩))⟩, ?_⟩
              conv => whnf
              refine ⟨_, ⟨rfl, rfl, (by (conv => whnf); (exact ⟨rfl, rfl⟩))⟩, ?_⟩
              conv => whnf
              refine ⟨_, _, (by (conv => whnf); (exact ⟨rfl, rfl⟩)), kp_ok (by repeat (first | exact trivial | refine ⟨trivial, ?_⟩ | refine ⟨rfl, ?_⟩)), ?_⟩
              conv => whnf
              refine ⟨_, _, (by (conv => whnf); (exact ⟨rfl, rfl⟩)), kp_ok (by repeat (first | exact trivial | refine ⟨trivial, ?_⟩ | refine ⟨rfl, ?_⟩)), ?_⟩
              conv => whnf
              refine Tr.seq ?_
              refine Tr.region layOK ?_
              conv => whnf
              refine Tr.cond ?_
              conv => whnf
              refine condS_bif h (fun hb86 h => ?_) (fun hb86 h => ?_)
              · refine Tr.region layOK ?_
                conv => whnf
                obtain ⟨r_87, hc88, h⟩ := bind_some h
                refine PC.ecall (s_ranks_hi x_85 r_87 hc88) (fun rs hrs => ?_)
                subst hrs
                conv => whnf
                refine Tr.region layOK ?_
                conv => whnf
                refine orB_r ?_
                conv => whnf
                refine frP_no ?_
                conv => whnf
                refine eqS_mk (by first | rfl | simp) ?_
                conv => whnf
                obtain ⟨l_89, hl_89, h⟩ := bind_some h
                refine apS_of hl_89 (apq_map (f := eTChoice) (l := (([({ Outcome := r_81, X := r_87 } : TChoice)] : List TChoice))) fun _ => rfl) (by first | rfl | simp) (by first | rfl | simp) (fun he => ?_)
                conv => whnf
                refine reS_mk (es' := List.map .d (List.map eTChoice l_89)) (n' := List.length l_89) (by subst he; simp only [List.map_append, List.map_cons, List.map_nil, List.nil_append]; first | done | rfl) (by subst he; simp <;> omega) ?_
                clear he
                conv => whnf
                refine orB_l ?_
                conv => whnf
                cases h
                exact Wk.mk2 [0, 1, 2, 3, 4, 5, 6, 11] 12 rfl rfl (by decide) rfl ⟨⟨rfl, rfl⟩, ⟨rfl, rfl⟩, ⟨rfl, rfl⟩, ⟨rfl, rfl⟩, ⟨rfl, (by first | rfl | (simp only [↓hb8, ↓hb76, ↓hb80, ↓hb86, cond_true, cond_false, Bool.true_or, Bool.or_true, Bool.false_or, Bool.or_false, Bool.true_and, Bool.and_true, Bool.false_and, Bool.and_false, Bool.not_true, Bool.not_false]; done) | (simp only [↓hb8, ↓hb76, ↓hb80, ↓hb86, cond_true, cond_false, Bool.true_or, Bool.or_true, Bool.false_or, Bool.or_false, Bool.true_and, Bool.and_true, Bool.false_and, Bool.and_false, Bool.not_true, Bool.not_false]; rfl))⟩, ⟨rfl, rfl⟩, daS_d rfl, daS_d rfl, trivial⟩ ⟨⟨rfl, rfl⟩, ⟨rfl, rfl⟩, ⟨rfl, rfl⟩, ⟨rfl, rfl⟩, ⟨rfl, rfl⟩, ⟨rfl, rfl⟩, ⟨rfl, rfl⟩, ⟨rfl, rfl⟩, ⟨rfl, rfl⟩, ⟨rfl, rfl⟩, trivial⟩
              · refine Tr.skip ?_
                conv => whnf
                refine Tr.region layOK ?_
                conv => whnf
                refine orB_r ?_
                conv => whnf
                refine frP_no ?_
                conv => whnf
                refine eqS_mk (by first | rfl | simp) ?_
                conv => whnf
                obtain ⟨l_90, hl_90, h⟩ := bind_some h
                refine apS_of hl_90 (apq_map (f := eTChoice) (l := (([({ Outcome := r_81, X := 0 } : TChoice)] : List TChoice))) fun _ => rfl) (by first | rfl | simp) (by first | rfl | simp) (fun he => ?_)
                conv => whnf
                refine reS_mk (es' := List.map .d (List.map eTChoice l_90)) (n' := List.length l_90) (by subst he; simp only [List.map_append, List.map_cons, List.map_nil, List.nil_append]; first | done | rfl) (by subst he; simp <;> omega) ?_
                clear he
                conv => whnf
                refine orB_l ?_
                conv => whnf
                cases h
                exact Wk.mk2 [0, 1, 2, 3, 4, 5, 6, 11] 12 rfl rfl (by decide) rfl ⟨⟨rfl, rfl⟩, ⟨rfl, rfl⟩, ⟨rfl, rfl⟩, ⟨rfl, rfl⟩, ⟨rfl, (by first | rfl | (simp only [↓hb8, ↓hb76, ↓hb80, ↓hb86, cond_true, cond_false, Bool.true_or, Bool.or_true, Bool.false_or, Bool.or_false, Bool.true_and, Bool.and_true, Bool.false_and, Bool.and_false, Bool.not_true, Bool.not_false]; done) | (simp only [↓hb8, ↓hb76, ↓hb80, ↓hb86, cond_true, cond_false, Bool.true_or, Bool.or_true, Bool.false_or, Bool.or_false, Bool.true_and, Bool.and_true, Bool.false_and, Bool.and_false, Bool.not_true, Bool.not_false]; rfl))⟩, ⟨rfl, rfl⟩, daS_d rfl, daS_d rfl, trivial⟩ ⟨⟨rfl, rfl⟩, ⟨rfl, rfl⟩, ⟨rfl, rfl⟩, ⟨rfl, rfl⟩, ⟨rfl, rfl⟩, ⟨rfl, rfl⟩, ⟨rfl, rfl⟩, ⟨rfl, rfl⟩, ⟨rfl, rfl⟩, ⟨rfl, rfl⟩, trivial⟩
            · refine Tr.skip ?_
              conv => whnf
              refine Tr.seq ?_
              refine Tr.seq ?_
              refine Tr.draw (DrawP.seqQ layOK mixed [(11, 10)] [(0, 11), (1, 11), (2, 5), (3, 5), (4, 2), (5, 2), (6, 12), (7, 12), (8, 2), (9, 2), (10, 0), (11, 0)] (by kernel_rfl) ?_)
              conv => whnf
              refine ⟨_, ⟨rfl, rfl, (by (conv => whnf); (exact ⟨rfl, rfl⟩))⟩, ?_⟩
              conv => whnf
              refine ⟨_, ⟨rfl, rfl, (by (conv => whnf); (exact ⟨rfl, rfl⟩))⟩, ?_⟩
              conv => whnf
              refine ⟨_, ⟨rfl, rfl, (by (conv => whnf); (exact ⟨rfl, rfl⟩))⟩, ?_⟩
              conv => whnf
              refine ⟨_, ⟨rfl, rfl, (by (conv => whnf); (exact ⟨rfl, rfl⟩))⟩, ?_⟩
              conv => whnf
              obtain ⟨x_91, hx_91, h⟩ := bind_some h
              refine ⟨_, ⟨rfl, rfl, (by (conv => whnf); (refine ixP_of hx_91 ?_); (conv => whnf); (exact ⟨rfl, rfl⟩))⟩, ?_⟩
              conv => whnf
              refine ⟨_, ⟨rfl, rfl, (by (conv => whnf); (exact ⟨rfl, rfl⟩))⟩, ?_⟩
              conv => whnf
              refine ⟨_, ⟨rfl, rfl, (by (conv => whnf); (exact ⟨rfl, rfl⟩))⟩, ?_⟩
              conv => whnf
              refine ⟨_, ⟨rfl, rfl, (by (conv => whnf); (exact ⟨rfl, rfl⟩))⟩, ?_⟩
              conv => whnf
              obtain ⟨x_92, hx_92, h⟩ := bind_some h
              refine ⟨_, ⟨rfl, rfl, (by (conv => whnf); (refine ixP_of hx_92 ?_); (conv => whnf); (exact ⟨rfl, rfl⟩))⟩, ?_⟩
              conv => whnf
              refine ⟨_, ⟨rfl, rfl, (by (conv => whnf); (exact ⟨rfl, rfl⟩))⟩, ?_⟩
              conv => whnf
              refine ⟨_, _, (by (conv => whnf); (exact ⟨rfl, rfl⟩)), kp_ok (by repeat (first | exact trivial | refine ⟨trivial, ?_⟩ | refine ⟨rfl, ?_⟩)), ?_⟩
              conv => whnf
              refine ⟨_, _, (by (conv => whnf); (exact ⟨rfl, rfl⟩)), kp_ok (by repeat (first | exact trivial | refine ⟨trivial, ?_⟩ | refine ⟨rfl, ?_⟩)), ?_⟩
              conv => whnf
              refine Tr.seq ?_
              refine Tr.region layOK ?_
              conv => whnf
              refine Tr.cond ?_
              conv => whnf
              refine condS_bif h (fun hb93 h => ?_) (fun hb93 h => ?_)
              · refine Tr.region layOK ?_
                conv => whnf
                obtain ⟨r_94, hc95, h⟩ := bind_some h
                refine PC.ecall (s_ranks_lo x_92 r_94 hc95) (fun rs hrs => ?_)
                subst hrs
                conv => whnf
                refine Tr.region layOK ?_
                conv => whnf
                refine orB_r ?_
                conv => whnf
                refine frP_no ?_
                conv => whnf
                refine eqS_mk (by first | rfl | simp) ?_
                conv => whnf
                obtain ⟨l_96, hl_96, h⟩ := bind_some h
                refine apS_of hl_96 (apq_map (f := eTChoice) (l := (([({ Outcome := p_3.outcome, X := r_94 } : TChoice)] : List TChoice))) fun _ => rfl) (by first | rfl | simp) (by first | rfl | simp) (fun he => ?_)
                conv => whnf
                refine reS_mk (es' := List.map .d (List.map eTChoice l_96)) (n' := List.length l_96) (by subst he; simp only [List.map_append, List.map_cons, List.map_nil, List.nil_append]; first | done | rfl) (by subst he; simp <;> omega) ?_
                clear he
                conv => whnf
                refine orB_l ?_
                conv => whnf
                cases h
                exact Wk.mk2 [0, 1, 2, 3, 4, 5, 6, 11] 12 rfl rfl (by decide) rfl ⟨⟨rfl, rfl⟩, ⟨rfl, rfl⟩, ⟨rfl, rfl⟩, ⟨rfl, rfl⟩, ⟨rfl, (by first | rfl | (simp only [↓hb8, ↓hb76, ↓hb80, ↓hb93, cond_true, cond_false, Bool.true_or, Bool.or_true, Bool.false_or, Bool.or_false, Bool.true_and, Bool.and_true, Bool.false_and, Bool.and_false, Bool.not_true, Bool.not_false]; done) | (simp only [↓hb8, ↓hb76, ↓hb80, ↓hb93, cond_true, cond_false, Bool.true_or, Bool.or_true, Bool.false_or, Bool.or_false, Bool.true_and, Bool.and_true, Bool.false_and, Bool.and_false, Bool.not_true, Bool.not_false]; rfl))⟩, ⟨rfl, rfl⟩, daS_d rfl, daS_d rfl, trivial⟩ ⟨⟨rfl, rfl⟩, ⟨rfl, rfl⟩, ⟨rfl, rfl⟩, ⟨rfl, rfl⟩, ⟨rfl, rfl⟩, ⟨rfl, rfl⟩, ⟨rfl, rfl⟩, ⟨rfl, rfl⟩, ⟨rfl, rfl⟩, ⟨rfl, rfl⟩, trivial⟩
              · refine Tr.skip ?_
                conv => whnf
                refine Tr.region layOK ?_
                conv => whnf
                refine orB_r ?_
                conv => whnf
                refine frP_no ?_
                conv => whnf
                refine eqS_mk (by first | rfl | simp) ?_
                conv => whnf
                obtain ⟨l_97, hl_97, h⟩ := bind_some h
                refine apS_of hl_97 (apq_map (f := eTChoice) (l := (([({ Outcome := p_3.outcome, X := 0 } : TChoice)] : List TChoice))) fun _ => rfl) (by first | rfl | simp) (by first | rfl | simp) (fun he => ?_)
                conv => whnf
                refine reS_mk (es' := List.map .d (List.map eTChoice l_97)) (n' := List.length l_97) (by subst he; simp only [List.map_append, List.map_cons, List.map_nil, List.nil_append]; first | done | rfl) (by subst he; simp <;> omega) ?_
                clear he
                conv => whnf
                refine orB_l ?_
                conv => whnf
                cases h
                exact Wk.mk2 [0, 1, 2, 3, 4, 5, 6, 11] 12 rfl rfl (by decide) rfl ⟨⟨rfl, rfl⟩, ⟨rfl, rfl⟩, ⟨rfl, rfl⟩, ⟨rfl, rfl⟩, ⟨rfl, (by first | rfl | (simp only [↓hb8, ↓hb76, ↓hb80, ↓hb93, cond_true, cond_false, Bool.true_or, Bool.or_true, Bool.false_or, Bool.or_false, Bool.true_and, Bool.and_true, Bool.false_and, Bool.and_false, Bool.not_true, Bool.not_false]; done) | (simp only [↓hb8, ↓hb76, ↓hb80, ↓hb93, cond_true, cond_false, Bool.true_or, Bool.or_true, Bool.false_or, Bool.or_false, Bool.true_and, Bool.and_true, Bool.false_and, Bool.and_false, Bool.not_true, Bool.not_false]; rfl))⟩, ⟨rfl, rfl⟩, daS_d rfl, daS_d rfl, trivial⟩ ⟨⟨rfl, rfl⟩, ⟨rfl, rfl⟩, ⟨rfl, rfl⟩, ⟨rfl, rfl⟩, ⟨rfl, rfl⟩, ⟨rfl, rfl⟩, ⟨rfl, rfl⟩, ⟨rfl, rfl⟩, ⟨rfl, rfl⟩, ⟨rfl, rfl⟩, trivial⟩
          · clear hv78
            conv => whnf
            refine Tr.weak hw ?_
            refine Tr.region layOK ?_
            conv => whnf
            refine arS_raw ?_
            conv => whnf
            refine ⟨((w64 (v_70 + 1)), l_77), h, ?_⟩
            exact Wk.mk2 [0, 1, 2, 3, 4, 5, 6, 7] 8 rfl rfl (by decide) rfl ⟨⟨rfl, rfl⟩, ⟨rfl, rfl⟩, ⟨rfl, rfl⟩, ⟨rfl, rfl⟩, ⟨rfl, rfl⟩, ⟨rfl, rfl⟩, daS_d rfl, daS_d rfl, trivial⟩ ⟨⟨rfl, rfl⟩, ⟨rfl, rfl⟩, ⟨rfl, rfl⟩, ⟨rfl, rfl⟩, ⟨rfl, rfl⟩, ⟨rfl, rfl⟩, ⟨rfl, rfl⟩, ⟨rfl, rfl⟩, ⟨rfl, rfl⟩, ⟨rfl, rfl⟩, trivial⟩
        · refine Tr.exit ?_
          conv => whnf
          cases h
          exact Wk.mk2 [3, 4, 6, 7] 8 rfl rfl (by decide) rfl ⟨⟨rfl, rfl⟩, ⟨rfl, (by first | rfl | (simp only [↓hb8, ↓hb76, cond_true, cond_false, Bool.true_or, Bool.or_true, Bool.false_or, Bool.or_false, Bool.true_and, Bool.and_true, Bool.false_and, Bool.and_false, Bool.not_true, Bool.not_false]; done) | (simp only [↓hb8, ↓hb76, cond_true, cond_false, Bool.true_or, Bool.or_true, Bool.false_or, Bool.or_false, Bool.true_and, Bool.and_true, Bool.false_and, Bool.and_false, Bool.not_true, Bool.not_false]; rfl))⟩, daS_d rfl, daS_d rfl, trivial⟩ ⟨⟨rfl, (by first | rfl | (simp only [↓hb8, ↓hb76, cond_true, cond_false, Bool.true_or, Bool.or_true, Bool.false_or, Bool.or_false, Bool.true_and, Bool.and_true, Bool.false_and, Bool.and_false, Bool.not_true, Bool.not_false]; done) | (simp only [↓hb8, ↓hb76, cond_true, cond_false, Bool.true_or, Bool.or_true, Bool.false_or, Bool.or_false, Bool.true_and, Bool.and_true, Bool.false_and, Bool.and_false, Bool.not_true, Bool.not_false]; rfl))⟩, ⟨rfl, (by first | rfl | (simp only [↓hb8, ↓hb76, cond_true, cond_false, Bool.true_or, Bool.or_true, Bool.false_or, Bool.or_false, Bool.true_and, Bool.and_true, Bool.false_and, Bool.and_false, Bool.not_true, Bool.not_false]; done) | (simp only [↓hb8, ↓hb76, cond_true, cond_false, Bool.true_or, Bool.or_true, Bool.false_or, Bool.or_false, Bool.true_and, Bool.and_true, Bool.false_and, Bool.and_false, Bool.not_true, Bool.not_false]; rfl))⟩, trivial⟩
      · clear hv98
        conv => whnf
        refine Tr.weak hw ?_
        refine Tr.seq ?_
        refine Tr.region layOK ?_
        conv => whnf
        refine orB_l ?_
        conv => whnf
        refine Tr.ret ?_
        conv => whnf
        refine frE_of (f := eI) (l := l_60) rfl ?_
        conv => whnf
        refine frE_of (f := eTChoice) (l := l_73) rfl ?_
        conv => whnf
        cases h
        rfl

theorem s_ranks_extreme_with_ranks_best_2 (f_1 : TField) (runner_2 : Int) (r_3 : THistory) (r_4 : Bool) (r_5 : Int) (h : m_ranks_extreme_with_ranks_best_2 f_1 runner_2 = some (r_3, r_4, r_5)) :
    PC prog 50 [(.ag [(.fn 83 []), (.fn 84 []), (.fn 85 []), (.fn 86 [])]), (eTField f_1), (.i .i64 runner_2)] (fun rs => rs = [(eTHistory r_3), (.b r_4), (.i .i64 r_5)]) := by
  refine PC.of_tr (cx := ⟨34, none, lay, 0⟩) layOK func50 rfl rfl rfl rfl rfl (by simp [f50]) ?_
  unfold m_ranks_extreme_with_ranks_best_2 at h
  refine Tr.seq ?_
  refine Tr.region layOK ?_
  conv => whnf
  refine Tr.seq ?_
  refine Tr.seq ?_
  refine Tr.region layOK ?_
  conv => whnf
  refine orB_r ?_
  conv => whnf
  obtain ⟨r_6, hc7, h⟩ := bind_some h
  refine PC.ecall (s_ranks_check f_1 ((([runner_2] : List Int))) r_6 hc7) (fun rs hrs => ?_)
  subst hrs
  conv => whnf
  refine Tr.seq ?_
  refine Tr.region layOK ?_
  conv => whnf
  refine Tr.cond ?_
  conv => whnf
  refine condS_bif h (fun hb8 h => ?_) (fun hb8 h => ?_)
  · refine Tr.seq ?_
    refine Tr.region layOK ?_
    conv => whnf
    refine orB_l ?_
    conv => whnf
    refine Tr.ret ?_
    conv => whnf
    cases h
    rfl
  · refine Tr.skip ?_
    conv => whnf
    refine Tr.seq ?_
    refine Tr.region layOK ?_
    conv => whnf
    obtain ⟨⟨r_9, r_10⟩, hc11, h⟩ := bind_some h
    refine PC.ecall (s_ranks_direction_drive_with_ranks_best_2 f_1 runner_2 r_9 r_10 hc11) (fun rs hrs => ?_)
    subst hrs
    conv => whnf
    refine Tr.seq ?_
    refine Tr.seq ?_
    refine Tr.region layOK ?_
    conv => whnf
    refine Tr.cond ?_
    conv => whnf
    refine condS_bif h (fun hb12 h => ?_) (fun hb12 h => ?_)
    · refine Tr.seq ?_
      refine Tr.region layOK ?_
      conv => whnf
      refine orB_l ?_
      conv => whnf
      refine Tr.ret ?_
      conv => whnf
      cases h
      rfl
    · refine Tr.skip ?_
      conv => whnf
      refine Tr.seq ?_
      refine Tr.region layOK ?_
      conv => whnf
      obtain ⟨r_13, hc14, h⟩ := bind_some h
      refine PC.ecall (s_ranks_direction_history_with_ranks_best_2 f_1 runner_2 r_9 r_13 hc14) (fun rs hrs => ?_)
      subst hrs
      conv => whnf
      refine Tr.ret ?_
      conv => whnf
      cases h
      rfl

theorem s_ranks_Best (f_1 : TField) (runner_2 : Int) (r_3 : THistory) (r_4 : Bool) (r_5 : Int) (h : m_ranks_Best f_1 runner_2 = some (r_3, r_4, r_5)) :
    PC prog 28 [(eTField f_1), (.i .i64 runner_2)] (fun rs => rs = [(eTHistory r_3), (.b r_4), (.i .i64 r_5)]) := by
  refine PC.of_tr (cx := ⟨14, none, lay, 0⟩) layOK func28 rfl rfl rfl rfl rfl (by simp [f28]) ?_
  unfold m_ranks_Best at h
  refine Tr.seq ?_
  refine Tr.region layOK ?_
  conv => whnf
  refine Tr.seq ?_
  refine Tr.draw (DrawP.seqQ layOK mixed [(7, 1)] [(0, 1), (1, 3), (2, 1), (3, 1), (4, 1), (5, 1), (6, 1), (7, 0), (8, 1), (9, 1)] (by kernel_rfl) ?_)
  conv => whnf
  obtain ⟨_, hc6, h⟩ := bind_some h
  refine ⟨_, (fun H => by (conv => whnf); (refine PC.ecall (s_ranks_best  hc6) (fun rs hrs => ?_)); (subst hrs); (conv => whnf); (exact ⟨rfl, rfl⟩)), ?_⟩
  conv => whnf
  refine ⟨_, ⟨rfl, rfl, (by (conv => whnf); (exact ⟨rfl, rfl⟩))⟩, ?_⟩
  conv => whnf
  refine ⟨_, (fun H => by (conv => whnf); (exact ⟨rfl, rfl⟩)), ?_⟩
  conv => whnf
  obtain ⟨⟨r_7, r_8, r_9⟩, hc10, h⟩ := bind_some h
  refine ⟨_, (fun H => by (conv => whnf); (refine PC.ecall (s_ranks_extreme_with_ranks_best_2 f_1 runner_2 r_7 r_8 r_9 hc10) (fun rs hrs => ?_)); (subst hrs); (conv => whnf); (exact ⟨rfl, rfl⟩)), ?_⟩
  conv => whnf
  refine ⟨_, (fun H => by (conv => whnf); (exact ⟨rfl, rfl⟩)), ?_⟩
  conv => whnf
  refine ⟨_, (fun H => by (conv => whnf); (exact ⟨rfl, rfl⟩)), ?_⟩
  conv => whnf
  refine ⟨_, (fun H => by (conv => whnf); (exact ⟨rfl, rfl⟩)), ?_⟩
  conv => whnf
  refine ⟨_, _, (by (conv => whnf); (exact ⟨rfl, rfl⟩)), kp_ok (by repeat (first | exact trivial | refine ⟨trivial, ?_⟩ | refine ⟨rfl, ?_⟩)), ?_⟩
  conv => whnf
  refine ⟨_, (fun H => by (conv => whnf); (exact ⟨rfl, rfl⟩)), ?_⟩
  conv => whnf
  refine ⟨_, (fun H => by (conv => whnf); (exact ⟨rfl, rfl⟩)), ?_⟩
  conv => whnf
  refine Tr.ret ?_
  conv => whnf
  cases h
  rfl

theorem s_ranks_direction_history_1_v2 (k_1 : Int) (c_2 : Int) (c_3 : List TSegment) (c_4 : List (List Int)) (c_5 : List TPair) (c_6 : List TRunner) (c_7 : Int) (r_8 : Int) (h : m_ranks_direction_history_1_v2 k_1 c_2 c_3 c_4 c_5 c_6 c_7 = some r_8) :
    PC prog 106 [(.i .i64 k_1), (.ro [(.i .i64 c_2)]), (.ro [(.fn 84 []), (.fn 83 []), (.fn 87 []), (.fn 88 [])]), (.ro [(.ls (List.map eTSegment c_3)), (.ls (List.map (eL eI) c_4)), (.ls (List.map eTPair c_5)), (.ls (List.map eTRunner c_6))]), (.ro [(.i .i64 c_7)])] (fun rs => rs = [(.i .i64 r_8)]) := by
  refine PC.of_tr (cx := ⟨17, none, lay, 0⟩) layOK func106 rfl rfl rfl rfl rfl (by simp [f106]) ?_
  unfold m_ranks_direction_history_1_v2 at h
  refine Tr.seq ?_
  refine Tr.region layOK ?_
  conv => whnf
  refine Tr.seq ?_
  refine Tr.draw (DrawP.seqQ layOK mixed [] [(0, 2), (1, 2), (2, 2), (3, 2), (4, 2), (5, 2), (6, 2), (7, 1), (8, 1), (9, 1), (10, 1)] (by kernel_rfl) ?_)
  conv => whnf
  refine ⟨_, ⟨rfl, rfl, (by (conv => whnf); (exact ⟨rfl, rfl⟩))⟩, ?_⟩
  conv => whnf
  refine ⟨_, ⟨rfl, rfl, (by (conv => whnf); (exact ⟨rfl, rfl⟩))⟩, ?_⟩
  conv => whnf
  refine ⟨_, ⟨rfl, rfl, (by (conv => whnf); (exact ⟨rfl, rfl⟩))⟩, ?_⟩
  conv => whnf
  refine ⟨_, ⟨rfl, rfl, (by (conv => whnf); (exact ⟨rfl, rfl⟩))⟩, ?_⟩
  conv => whnf
  refine ⟨_, ⟨rfl, rfl, (by (conv => whnf); (exact ⟨rfl, rfl⟩))⟩, ?_⟩
  conv => whnf
  refine ⟨_, ⟨rfl, rfl, (by (conv => whnf); (exact ⟨rfl, rfl⟩))⟩, ?_⟩
  conv => whnf
  refine ⟨_, ⟨rfl, rfl, (by (conv => whnf); (exact ⟨rfl, rfl⟩))⟩, ?_⟩
  conv => whnf
  refine ⟨_, (fun H => by (conv => whnf); (exact ⟨rfl, rfl⟩)), ?_⟩
  conv => whnf
  obtain ⟨r_9, hc10, h⟩ := bind_some h
  refine ⟨_, (fun H => by (conv => whnf); (refine PC.ecall (s_ranks_worst_1 c_4 c_7 k_1 r_9 hc10) (fun rs hrs => ?_)); (subst hrs); (conv => whnf); (exact ⟨rfl, rfl⟩)), ?_⟩
  conv => whnf
  refine ⟨_, (fun H => by (conv => whnf); (refine arS_raw ?_); (conv => whnf); (exact ⟨rfl, rfl⟩)), ?_⟩
  conv => whnf
  refine ⟨_, (fun H => by (conv => whnf); (exact ⟨rfl, rfl⟩)), ?_⟩
  conv => whnf
  refine Tr.ret ?_
  conv => whnf
  cases h
  rfl

theorem s_ranks_direction_history_with_ranks_worst_2 (f_1 : TField) (runner_2 : Int) (p_3 : Tranks_place) (r_4 : THistory) (h : m_ranks_direction_history_with_ranks_worst_2 f_1 runner_2 p_3 = some r_4) :
    PC prog 82 [(.ag [(.fn 84 []), (.fn 83 []), (.fn 87 []), (.fn 88 [])]), (eTField f_1), (.i .i64 runner_2), (eTranks_place p_3)] (fun rs => rs = [(eTHistory r_4)]) := by
  refine PC.of_tr (cx := ⟨123, none, lay, 0⟩) layOK func82 rfl rfl rfl rfl rfl (by simp [f82]) ?_
  unfold m_ranks_direction_history_with_ranks_worst_2 at h
  refine Tr.seq ?_
  refine Tr.region layOK ?_
  conv => whnf
  refine Tr.seq ?_
  refine Tr.region layOK ?_
  conv => whnf
  refine orB_l ?_
  conv => whnf
  refine Tr.seq ?_
  refine Tr.draw (DrawP.seqQ layOK mixed [(15, 5)] [(0, 4), (1, 4), (2, 1), (3, 2), (4, 2), (5, 2), (6, 5), (7, 5), (8, 2), (9, 2), (10, 5), (11, 5), (12, 2), (13, 2), (14, 0), (15, 0)] (by kernel_rfl) ?_)
  conv => whnf
  refine ⟨_, ⟨rfl, rfl, (by (conv => whnf); (exact ⟨rfl, rfl⟩))⟩, ?_⟩
  conv => whnf
  refine ⟨_, ⟨rfl, rfl, (by (conv => whnf); (exact ⟨rfl, rfl⟩))⟩, ?_⟩
  conv => whnf
  refine ⟨_, (fun H => by (conv => whnf); (exact ⟨rfl, rfl⟩)), ?_⟩
  conv => whnf
  obtain ⟨x_5, hx_5, h⟩ := bind_some h
  refine ⟨_, ⟨rfl, rfl, (by (conv => whnf); (refine ixP_of hx_5 ?_); (conv => whnf); (exact ⟨rfl, rfl⟩))⟩, ?_⟩
  conv => whnf
  refine ⟨_, ⟨rfl, rfl, (by (conv => whnf); (exact ⟨rfl, rfl⟩))⟩, ?_⟩
  conv => whnf
  refine ⟨_, ⟨rfl, rfl, (by (conv => whnf); (exact ⟨rfl, rfl⟩))⟩, ?_⟩
  conv => whnf
  refine ⟨_, ⟨rfl, rfl, (by (conv => whnf); (exact ⟨rfl, rfl⟩))⟩, ?_⟩
  conv => whnf
  refine ⟨_, ⟨rfl, rfl, (by (conv => whnf); (exact ⟨rfl, rfl⟩))⟩, ?_⟩
  conv => whnf
  obtain ⟨x_6, hx_6, h⟩ := bind_some h
  refine ⟨_, ⟨rfl, rfl, (by (conv => whnf); (refine ixP_of hx_6 ?_); (conv => whnf); (exact ⟨rfl, rfl⟩))⟩, ?_⟩
  conv => whnf
  refine ⟨_, ⟨rfl, rfl, (by (conv => whnf); (exact ⟨rfl, rfl⟩))⟩, ?_⟩
  conv => whnf
  refine ⟨_, ⟨rfl, rfl, (by (conv => whnf); (exact ⟨rfl, rfl⟩))⟩, ?_⟩
  conv => whnf
  refine ⟨_, ⟨rfl, rfl, (by (conv => whnf); (exact ⟨rfl, rfl⟩))⟩, ?_⟩
  conv => whnf
  obtain ⟨x_7, hx_7, h⟩ := bind_some h
  refine ⟨_, ⟨rfl, rfl, (by (conv => whnf); (refine ixP_of hx_7 ?_); (conv => whnf); (exact ⟨rfl, rfl⟩))⟩, ?_⟩
  conv => whnf
  refine ⟨_, ⟨rfl, rfl, (by (conv => whnf); (exact ⟨rfl, rfl⟩))⟩, ?_⟩
  conv => whnf
  refine ⟨_, _, (by (conv => whnf); (exact ⟨rfl, rfl⟩)), kp_ok (by repeat (first | exact trivial | refine ⟨trivial, ?_⟩ | refine ⟨rfl, ?_⟩)), ?_⟩
  conv => whnf
  refine ⟨_, _, (by (conv => whnf); (exact ⟨rfl, rfl⟩)), kp_ok (by repeat (first | exact trivial | refine ⟨trivial, ?_⟩ | refine ⟨rfl, ?_⟩)), ?_⟩
  conv => whnf
  refine Tr.seq ?_
  refine Tr.region layOK ?_
  conv => whnf
  refine arS_raw ?_
  conv => whnf
  refine Tr.seq ?_
  refine Tr.region layOK ?_
  conv => whnf
  refine Tr.seq ?_
  refine Tr.seq ?_
  refine Tr.region layOK ?_
  conv => whnf
  refine Tr.cond ?_
  conv => whnf
  refine condS_bif h (fun hb8 h => ?_) (fun hb8 h => ?_)
  · refine Tr.region layOK ?_
    conv => whnf
    obtain ⟨r_9, hc10, h⟩ := bind_some h
    refine PC.ecall (s_ranks_worst_1 f_1.Clocks.Far ((w64 (x_7.Seg + 1))) 0 r_9 hc10) (fun rs hrs => ?_)
    subst hrs
    conv => whnf
    refine arS_raw ?_
    conv => whnf
    refine Tr.seq ?_
    refine Tr.region layOK ?_
    conv => whnf
    refine Tr.seq ?_
    refine Tr.seq ?_
    refine Tr.region layOK ?_
    conv => whnf
    refine lnS_map ?_
    conv => whnf
    obtain ⟨l_16, hv23, h⟩ := bind_some h
    refine Tr.cutQ1 ([(2, .d (.i .i64 runner_2)), (4, .pt 0 0), (5, .pt 1 0), (7, .pt 2 0), (8, .pt 3 0), (9, .pt 4 0), (10, .pt 5 0)]) ([some (.var [.d (.fn 84 []), .d (.fn 83 []), .d (.fn 87 []), .d (.fn 88 [])]), some (.var [.d (.ls (List.map eTSegment f_1.Clocks.Segments)), .d (.ls (List.map (eL eI) f_1.Clocks.Far)), .d (.ls (List.map eTPair f_1.Pairs)), .d (.ls (List.map eTRunner f_1.Runners))]), some (.var [.d (.i .i64 p_3.world), .d (.i .i64 p_3.outcome), .d (.i .i64 p_3.rank)]), some (.var [.d (.i .i64 0), .nsl, .nsl]), some (.var [.d (.i .i64 p_3.world), .sl 6 1 0 (List.length l_16), .nsl]), some (.var [.d (.b x_7.Out), .d (.i .i64 x_7.Seg), .d (.i .i64 x_7.Lo), .d (.i .i64 x_7.Hi)]), some (.arr 1 (List.map .d (List.map eI l_16)))]) ?_ (fun T1 H1 hw => ?_)
    · replace h := hv23; clear hv23
      refine Tr.block ?_
      refine Tr.loopM (σ := Int × List Int) (fun n s => m_ranks_direction_history_with_ranks_worst_2_L1 f_1 x_7 r_9 n s.1 s.2) l_16 (fun s => ([(2, .d (.i .i64 runner_2)), (4, .pt 0 0), (5, .pt 1 0), (7, .pt 2 0), (8, .pt 3 0), (9, .pt 4 0), (10, .pt 5 0), (13, .fn 106 [.pt 6 0, .pt 0 0, .pt 1 0, .pt 7 0]), (54, .d (.i .i64 (((f_1.Clocks.Segments).length : Int)))), (55, .d (.i .i64 s.1))], [some (.var [.d (.fn 84 []), .d (.fn 83 []), .d (.fn 87 []), .d (.fn 88 [])]), some (.var [.d (.ls (List.map eTSegment f_1.Clocks.Segments)), .d (.ls (List.map (eL eI) f_1.Clocks.Far)), .d (.ls (List.map eTPair f_1.Pairs)), .d (.ls (List.map eTRunner f_1.Runners))]), some (.var [.d (.i .i64 p_3.world), .d (.i .i64 p_3.outcome), .d (.i .i64 p_3.rank)]), some (.var [.d (.i .i64 0), .nsl, .nsl]), some (.var [.d (.i .i64 p_3.world), .sl 8 1 0 (List.length s.2), .nsl]), some (.var [.d (.b x_7.Out), .d (.i .i64 x_7.Seg), .d (.i .i64 x_7.Lo), .d (.i .i64 x_7.Hi)]), some (.var [.d (.i .i64 (w64 (0 - r_9)))]), some (.var [.d (.i .i64 (w64 (x_7.Seg + 1)))]), some (.arr 1 (List.map .d (List.map eI s.2)))])) (((((f_1.Clocks.Segments).length : Int)) - 0 : Int).toNat + 1) (0, (([] : List Int))) h (fun s => rfl) (Wk.mk2 [0, 1, 2, 3, 4, 5, 7, 6, 8] 8 rfl rfl (by decide) rfl ⟨⟨rfl, rfl⟩, ⟨rfl, rfl⟩, ⟨rfl, rfl⟩, ⟨rfl, rfl⟩, ⟨rfl, (by first | rfl | (simp only [↓hb8, cond_true, cond_false, Bool.true_or, Bool.or_true, Bool.false_or, Bool.or_false, Bool.true_and, Bool.and_true, Bool.false_and, Bool.and_false, Bool.not_true, Bool.not_false]; done) | (simp only [↓hb8, cond_true, cond_false, Bool.true_or, Bool.or_true, Bool.false_or, Bool.or_false, Bool.true_and, Bool.and_true, Bool.false_and, Bool.and_false, Bool.not_true, Bool.not_false]; rfl))⟩, ⟨rfl, rfl⟩, ⟨rfl, rfl⟩, ⟨rfl, rfl⟩, rfl, trivial⟩ ⟨⟨rfl, rfl⟩, ⟨rfl, rfl⟩, ⟨rfl, rfl⟩, ⟨rfl, rfl⟩, ⟨rfl, rfl⟩, ⟨rfl, rfl⟩, ⟨rfl, rfl⟩, ⟨rfl, (by first | rfl | (simp only [↓hb8, cond_true, cond_false, Bool.true_or, Bool.or_true, Bool.false_or, Bool.or_false, Bool.true_and, Bool.and_true, Bool.false_and, Bool.and_false, Bool.not_true, Bool.not_false]; done) | (simp only [↓hb8, cond_true, cond_false, Bool.true_or, Bool.or_true, Bool.false_or, Bool.or_false, Bool.true_and, Bool.and_true, Bool.false_and, Bool.and_false, Bool.not_true, Bool.not_false]; rfl))⟩, ⟨rfl, rfl⟩, ⟨rfl, rfl⟩, trivial⟩) ?_
      clear h
      rintro n_15 ⟨v_13, l_14⟩ h
      replace h : m_ranks_direction_history_with_ranks_worst_2_L1 f_1 x_7 r_9 (n_15 + 1) v_13 l_14 = some l_16 := h
      rw [m_ranks_direction_history_with_ranks_worst_2_L1] at h
      refine Tr.seq ?_
      refine Tr.region layOK ?_
      conv => whnf
      refine Tr.seq ?_
      refine Tr.cond ?_
      conv => whnf
      refine condS_bif h (fun hb19 h => ?_) (fun hb19 h => ?_)
      · refine Tr.skip ?_
        conv => whnf
        refine Tr.seq ?_
        refine Tr.block ?_
        refine Tr.seq ?_
        refine Tr.region layOK ?_
        conv => whnf
        refine Tr.draw (DrawP.seqQ layOK mixed [(7, 8), (9, 4)] [(0, 7), (1, 7), (2, 1), (3, 1), (4, 1), (5, 0), (6, 1), (7, 0), (8, 7), (9, 0)] (by kernel_rfl) ?_)
        conv => whnf
        refine ⟨_, ⟨rfl, rfl, (by (conv => whnf); (exact ⟨rfl, rfl⟩))⟩, ?_⟩
        conv => whnf
        refine ⟨_, ⟨rfl, rfl, (by (conv => whnf); (exact ⟨rfl, rfl⟩))⟩, ?_⟩
        conv => whnf
        refine ⟨_, (fun H => by (conv => whnf); (exact ⟨rfl, rfl⟩)), ?_⟩
        conv => whnf
        refine ⟨_, (fun H => by (conv => whnf); (exact ⟨rfl, rfl⟩)), ?_⟩
        conv => whnf
        refine ⟨_, (fun H => by (conv => whnf); (refine arS_raw ?_); (conv => whnf); (exact ⟨rfl, rfl⟩)), ?_⟩
        conv => whnf
        obtain ⟨r_20, hc21, h⟩ := bind_some h
        refine ⟨_, _, (by (conv => whnf); (refine PC.ecall_lend ?_ ⟨_, _, func106, rfl, rfl⟩); (conv => whnf); (refine ⟨_, s_ranks_direction_history_1_v2 ((w64 (v_13 + 1))) ((w64 (0 - r_9))) f_1.Clocks.Segments f_1.Clocks.Far f_1.Pairs f_1.Runners ((w64 (x_7.Seg + 1))) r_20 hc21, fun rs hrs => ?_⟩); (subst hrs); (refine ⟨rfl, ?_⟩); (conv => whnf); (exact ⟨rfl, rfl⟩)), kp_ok (by repeat (first | exact trivial | refine ⟨trivial, ?_⟩ | refine ⟨rfl, ?_⟩)), ?_⟩
        conv => whnf
        refine ⟨_, (fun H => by (conv => whnf); (refine orB_r ?_); (conv => whnf); (exact ⟨rfl, rfl⟩)), ?_⟩
        conv => whnf
        obtain ⟨l_22, hl_22, h⟩ := bind_some h
        refine ⟨_, _, (by (conv => whnf); (refine frP_no ?_); (conv => whnf); (refine eqS_mk (by first | rfl | simp) ?_); (conv => whnf); (refine apS_of hl_22 (apq_map (f := eI) (l := (([r_20] : List Int))) fun _ => rfl) (by first | rfl | simp) (by first | rfl | simp) (fun he => ?_)); (conv => whnf); (refine reS_mk (es' := List.map .d (List.map eI l_22)) (n' := List.length l_22) (by subst he; simp only [List.map_append, List.map_cons, List.map_nil, List.nil_append]; first | done | rfl) (by subst he; simp <;> omega) ?_); (clear he); (conv => whnf); (exact ⟨rfl, rfl⟩)), kp_ok (by repeat (first | exact trivial | refine ⟨trivial, ?_⟩ | refine ⟨rfl, ?_⟩)), ?_⟩
        conv => whnf
        refine ⟨_, ⟨rfl, rfl, (by (conv => whnf); (exact ⟨rfl, rfl⟩))⟩, ?_⟩
        conv => whnf
        refine ⟨_, _, (by (conv => whnf); (refine orB_l ?_); (conv => whnf); (exact ⟨rfl, rfl⟩)), kp_ok (by repeat (first | exact trivial | refine ⟨trivial, ?_⟩ | refine ⟨rfl, ?_⟩)), ?_⟩
        conv => whnf
        refine Tr.region layOK ?_
        conv => whnf
        refine arS_raw ?_
        conv => whnf
        refine ⟨((w64 (v_13 + 1)), l_22), h, ?_⟩
        exact Wk.mk2 [0, 1, 2, 3, 4, 5, 6, 7, 9] 10 rfl rfl (by decide) rfl ⟨⟨rfl, rfl⟩, ⟨rfl, rfl⟩, ⟨rfl, rfl⟩, ⟨rfl, rfl⟩, ⟨rfl, (by first | rfl | (simp only [↓hb8, ↓hb19, cond_true, cond_false, Bool.true_or, Bool.or_true, Bool.false_or, Bool.or_false, Bool.true_and, Bool.and_true, Bool.false_and, Bool.and_false, Bool.not_true, Bool.not_false]; done) | (simp only [↓hb8, ↓hb19, cond_true, cond_false, Bool.true_or, Bool.or_true, Bool.false_or, Bool.or_false, Bool.true_and, Bool.and_true, Bool.false_and, Bool.and_false, Bool.not_true, Bool.not_false]; rfl))⟩, ⟨rfl, rfl⟩, ⟨rfl, rfl⟩, ⟨rfl, rfl⟩, daS_d rfl, trivial⟩ ⟨⟨rfl, rfl⟩, ⟨rfl, rfl⟩, ⟨rfl, rfl⟩, ⟨rfl, rfl⟩, ⟨rfl, rfl⟩, ⟨rfl, rfl⟩, ⟨rfl, rfl⟩, ⟨rfl, rfl⟩, ⟨rfl, rfl⟩, ⟨rfl, rfl⟩, trivial⟩
      · refine Tr.exit ?_
        conv => whnf
        cases h
        exact Wk.mk2 [0, 1, 2, 3, 4, 5, 8] 9 rfl rfl (by decide) rfl ⟨⟨rfl, rfl⟩, ⟨rfl, rfl⟩, ⟨rfl, rfl⟩, ⟨rfl, rfl⟩, ⟨rfl, (by first | rfl | (simp only [↓hb8, ↓hb19, cond_true, cond_false, Bool.true_or, Bool.or_true, Bool.false_or, Bool.or_false, Bool.true_and, Bool.and_true, Bool.false_and, Bool.and_false, Bool.not_true, Bool.not_false]; done) | (simp only [↓hb8, ↓hb19, cond_true, cond_false, Bool.true_or, Bool.or_true, Bool.false_or, Bool.or_false, Bool.true_and, Bool.and_true, Bool.false_and, Bool.and_false, Bool.not_true, Bool.not_false]; rfl))⟩, ⟨rfl, rfl⟩, daS_d rfl, trivial⟩ ⟨⟨rfl, rfl⟩, ⟨rfl, rfl⟩, ⟨rfl, rfl⟩, ⟨rfl, rfl⟩, ⟨rfl, rfl⟩, ⟨rfl, rfl⟩, ⟨rfl, rfl⟩, trivial⟩
    · clear hv23
      conv => whnf
      refine Tr.weak hw ?_
      refine Tr.seq ?_
      refine Tr.seq ?_
      refine Tr.region layOK ?_
      conv => whnf
      refine lnS_map ?_
      conv => whnf
      obtain ⟨l_29, hv54, h⟩ := bind_some h
      refine Tr.cutQ1 ([(8, .pt 0 0), (9, .pt 1 0)]) ([some (.var [.d (.i .i64 0), .nsl, .nsl]), some (.var [.d (.i .i64 p_3.world), .sl 2 1 0 (List.length l_16), .sl 3 2 0 (List.length l_29)]), some (.arr 1 (List.map .d (List.map eI l_16))), some (.arr 2 (List.map .d (List.map eTChoice l_29)))]) ?_ (fun T1 H1 hw => ?_)
      · replace h := hv54; clear hv54
        refine Tr.block ?_
        refine Tr.loopM (σ := Int × List TChoice) (fun n s => m_ranks_direction_history_with_ranks_worst_2_L2 f_1 runner_2 p_3 x_7 n s.1 s.2) l_29 (fun s => ([(2, .d (.i .i64 runner_2)), (4, .pt 0 0), (5, .pt 1 0), (7, .pt 2 0), (8, .pt 3 0), (9, .pt 4 0), (10, .pt 5 0), (69, .d (.ls (List.map eTRunner f_1.Runners))), (70, .d (.i .i64 (((f_1.Runners).length : Int)))), (71, .d (.i .i64 s.1))], [some (.var [.d (.fn 84 []), .d (.fn 83 []), .d (.fn 87 []), .d (.fn 88 [])]), some (.var [.d (.ls (List.map eTSegment f_1.Clocks.Segments)), .d (.ls (List.map (eL eI) f_1.Clocks.Far)), .d (.ls (List.map eTPair f_1.Pairs)), .d (.ls (List.map eTRunner f_1.Runners))]), some (.var [.d (.i .i64 p_3.world), .d (.i .i64 p_3.outcome), .d (.i .i64 p_3.rank)]), some (.var [.d (.i .i64 0), .nsl, .nsl]), some (.var [.d (.i .i64 p_3.world), .sl 6 1 0 (List.length l_16), .sl 7 2 0 (List.length s.2)]), some (.var [.d (.b x_7.Out), .d (.i .i64 x_7.Seg), .d (.i .i64 x_7.Lo), .d (.i .i64 x_7.Hi)]), some (.arr 1 (List.map .d (List.map eI l_16))), some (.arr 2 (List.map .d (List.map eTChoice s.2)))])) (((((f_1.Runners).length : Int)) - 0 : Int).toNat + 1) (0, (([] : List TChoice))) h (fun s => rfl) (Wk.mk2 [0, 1, 2, 3, 4, 5, 6, 7] 7 rfl rfl (by decide) rfl ⟨⟨rfl, rfl⟩, ⟨rfl, rfl⟩, ⟨rfl, rfl⟩, ⟨rfl, rfl⟩, ⟨rfl, (by first | rfl | (simp only [↓hb8, cond_true, cond_false, Bool.true_or, Bool.or_true, Bool.false_or, Bool.or_false, Bool.true_and, Bool.and_true, Bool.false_and, Bool.and_false, Bool.not_true, Bool.not_false]; done) | (simp only [↓hb8, cond_true, cond_false, Bool.true_or, Bool.or_true, Bool.false_or, Bool.or_false, Bool.true_and, Bool.and_true, Bool.false_and, Bool.and_false, Bool.not_true, Bool.not_false]; rfl))⟩, ⟨rfl, rfl⟩, daS_d rfl, rfl, trivial⟩ ⟨⟨rfl, rfl⟩, ⟨rfl, rfl⟩, ⟨rfl, rfl⟩, ⟨rfl, rfl⟩, ⟨rfl, rfl⟩, ⟨rfl, rfl⟩, ⟨rfl, rfl⟩, ⟨rfl, rfl⟩, ⟨rfl, rfl⟩, ⟨rfl, rfl⟩, trivial⟩) ?_
        clear h
        rintro n_28 ⟨v_26, l_27⟩ h
        replace h : m_ranks_direction_history_with_ranks_worst_2_L2 f_1 runner_2 p_3 x_7 (n_28 + 1) v_26 l_27 = some l_29 := h
        rw [m_ranks_direction_history_with_ranks_worst_2_L2] at h
        refine Tr.seq ?_
        refine Tr.region layOK ?_
        conv => whnf
        refine Tr.seq ?_
        refine Tr.cond ?_
        conv => whnf
        refine condS_bif h (fun hb32 h => ?_) (fun hb32 h => ?_)
        · refine Tr.skip ?_
          conv => whnf
          refine Tr.seq ?_
          obtain ⟨l_33, hv34, h⟩ := bind_some h
          refine Tr.cutQ1 ([(2, .d (.i .i64 runner_2)), (4, .pt 0 0), (5, .pt 1 0), (7, .pt 2 0), (8, .pt 3 0), (9, .pt 4 0), (10, .pt 5 0), (69, .d (.ls (List.map eTRunner f_1.Runners))), (70, .d (.i .i64 (((f_1.Runners).length : Int)))), (71, .d (.i .i64 v_26))]) ([some (.var [.d (.fn 84 []), .d (.fn 83 []), .d (.fn 87 []), .d (.fn 88 [])]), some (.var [.d (.ls (List.map eTSegment f_1.Clocks.Segments)), .d (.ls (List.map (eL eI) f_1.Clocks.Far)), .d (.ls (List.map eTPair f_1.Pairs)), .d (.ls (List.map eTRunner f_1.Runners))]), some (.var [.d (.i .i64 p_3.world), .d (.i .i64 p_3.outcome), .d (.i .i64 p_3.rank)]), some (.var [.d (.i .i64 0), .nsl, .nsl]), some (.var [.d (.i .i64 p_3.world), .sl 6 1 0 (List.length l_16), .sl 7 2 0 (List.length l_33)]), some (.var [.d (.b x_7.Out), .d (.i .i64 x_7.Seg), .d (.i .i64 x_7.Lo), .d (.i .i64 x_7.Hi)]), some (.arr 1 (List.map .d (List.map eI l_16))), some (.arr 2 (List.map .d (List.map eTChoice l_33)))]) ?_ (fun T1 H1 hw => ?_)
          · replace h := hv34; clear hv34
            refine Tr.block ?_
            refine Tr.seq ?_
            refine Tr.region layOK ?_
            conv => whnf
            obtain ⟨x_35, hx_35, h⟩ := bind_some h
            refine ixP_of hx_35 ?_
            conv => whnf
            refine Tr.seq ?_
            refine Tr.region layOK ?_
            conv => whnf
            refine Tr.seq ?_
            refine Tr.region layOK ?_
            conv => whnf
            refine Tr.seq ?_
            refine Tr.seq ?_
            refine Tr.region layOK ?_
            conv => whnf
            refine Tr.cond ?_
            conv => whnf
            refine condS_bif h (fun hb36 h => ?_) (fun hb36 h => ?_)
            · refine Tr.seq ?_
              refine Tr.region layOK ?_
              conv => whnf
              obtain ⟨⟨r_37, r_38⟩, hc39, h⟩ := bind_some h
              refine PC.ecall (s_ranks_direction_choose_with_ranks_worst_2 f_1 p_3.world runner_2 x_7 v_26 r_37 r_38 hc39) (fun rs hrs => ?_)
              subst hrs
              conv => whnf
              refine Tr.region layOK ?_
              conv => whnf
              refine Tr.seq ?_
              refine Tr.seq ?_
              refine Tr.draw (DrawP.seqQ layOK mixed [(11, 10)] [(0, 11), (1, 11), (2, 5), (3, 5), (4, 2), (5, 2), (6, 12), (7, 12), (8, 2), (9, 2), (10, 0), (11, 0)] (by kernel_rfl) ?_)
              conv => whnf
              refine ⟨_, ⟨rfl, rfl, (by (conv => whnf); (exact ⟨rfl, rfl⟩))⟩, ?_⟩
              conv => whnf
              refine ⟨_, ⟨rfl, rfl, (by (conv => whnf); (exact ⟨rfl, rfl⟩))⟩, ?_⟩
              conv => whnf
              refine ⟨_, ⟨rfl, rfl, (by (conv => whnf); (exact ⟨rfl, rfl⟩))⟩, ?_⟩
              conv => whnf
              refine ⟨_, ⟨rfl, rfl, (by (conv => whnf); (exact ⟨rfl, rfl⟩))⟩, ?_⟩
              conv => whnf
              obtain ⟨x_40, hx_40, h⟩ := bind_some h
              refine ⟨_, ⟨rfl, rfl, (by (conv => whnf); (refine ixP_of hx_40 ?_); (conv => whnf); (exact ⟨rfl, rfl⟩))⟩, ?_⟩
              conv => whnf
              refine ⟨_, ⟨rfl, rfl, (by (conv => whnf); (exact ⟨rfl, rfl⟩))⟩, ?_⟩
              conv => whnf
              refine ⟨_, ⟨rfl, rfl, (by (conv => whnf); (exact ⟨rfl, rfl⟩))⟩, ?_⟩
              conv => whnf
              refine ⟨_, ⟨rfl, rfl, (by (conv => whnf); (exact ⟨rfl, rfl⟩))⟩, ?_⟩
              conv => whnf
              obtain ⟨x_41, hx_41, h⟩ := bind_some h
              refine ⟨_, ⟨rfl, rfl, (by (conv => whnf); (refine ixP_of hx_41 ?_); (conv => whnf); (exact ⟨rfl, rfl⟩))⟩, ?_⟩
              conv => whnf
              refine ⟨_, ⟨rfl, rfl, (by (conv => whnf); (exact ⟨rfl, rfl⟩))⟩, ?_⟩
              conv => whnf
              refine ⟨_, _, (by (conv => whnf); (exact ⟨rfl, rfl⟩)), kp_ok (by repeat (first | exact trivial | refine ⟨trivial, ?_⟩ | refine ⟨rfl, ?_⟩)), ?_⟩
              conv => whnf
              refine ⟨_, _, (by (conv => whnf); (exact ⟨rfl, rfl⟩)), kp_ok (by repeat (first | exact trivial | refine ⟨trivial, ?_⟩ | refine ⟨rfl, ?_⟩)), ?_⟩
              conv => whnf
              refine Tr.seq ?_
              refine Tr.region layOK ?_
              conv => whnf
              refine Tr.cond ?_
              conv => whnf
              refine condS_bif h (fun hb42 h => ?_) (fun hb42 h => ?_)
              · refine Tr.region layOK ?_
                conv => whnf
                obtain ⟨r_43, hc44, h⟩ := bind_some h
                refine PC.ecall (s_ranks_lo x_41 r_43 hc44) (fun rs hrs => ?_)
                subst hrs
                conv => whnf
                refine Tr.region layOK ?_
                conv => whnf
                refine orB_r ?_
                conv => whnf
                refine frP_no ?_
                conv => whnf
                refine eqS_mk (by first | rfl | simp) ?_
                conv => whnf
                obtain ⟨l_45, hl_45, h⟩ := bind_some h
                refine apS_of hl_45 (apq_map (f := eTChoice) (l := (([({ Outcome := r_37, X := r_43 } : TChoice)] : List TChoice))) fun _ => rfl) (by first | rfl | simp) (by first | rfl | simp) (fun he => ?_)
                conv => whnf
                refine reS_mk (es' := List.map .d (List.map eTChoice l_45)) (n' := List.length l_45) (by subst he; simp only [List.map_append, List.map_cons, List.map_nil, List.nil_append]; first | done | rfl) (by subst he; simp <;> omega) ?_
                clear he
                conv => whnf
                refine orB_l ?_
                conv => whnf
                cases h
                exact Wk.mk2 [0, 1, 2, 3, 4, 5, 6, 11] 12 rfl rfl (by decide) rfl ⟨⟨rfl, rfl⟩, ⟨rfl, rfl⟩, ⟨rfl, rfl⟩, ⟨rfl, rfl⟩, ⟨rfl, (by first | rfl | (simp only [↓hb8, ↓hb32, ↓hb36, ↓hb42, cond_true, cond_false, Bool.true_or, Bool.or_true, Bool.false_or, Bool.or_false, Bool.true_and, Bool.and_true, Bool.false_and, Bool.and_false, Bool.not_true, Bool.not_false]; done) | (simp only [↓hb8, ↓hb32, ↓hb36, ↓hb42, cond_true, cond_false, Bool.true_or, Bool.or_true, Bool.false_or, Bool.or_false, Bool.true_and, Bool.and_true, Bool.false_and, Bool.and_false, Bool.not_true, Bool.not_false]; rfl))⟩, ⟨rfl, rfl⟩, daS_d rfl, daS_d rfl, trivial⟩ ⟨⟨rfl, rfl⟩, ⟨rfl, rfl⟩, ⟨rfl, rfl⟩, ⟨rfl, rfl⟩, ⟨rfl, rfl⟩, ⟨rfl, rfl⟩, ⟨rfl, rfl⟩, ⟨rfl, rfl⟩, ⟨rfl, rfl⟩, ⟨rfl, rfl⟩, trivial⟩
              · refine Tr.skip ?_
                conv => whnf
                refine Tr.region layOK ?_
                conv => whnf
                refine orB_r ?_
                conv => whnf
                refine frP_no ?_
                conv => whnf
                refine eqS_mk (by first | rfl | simp) ?_
                conv => whnf
                obtain ⟨l_46, hl_46, h⟩ := bind_some h
                refine apS_of hl_46 (apq_map (f := eTChoice) (l := (([({ Outcome := r_37, X := 0 } : TChoice)] : List TChoice))) fun _ => rfl) (by first | rfl | simp) (by first | rfl | simp) (fun he => ?_)
                conv => whnf
                refine reS_mk (es' := List.map .d (List.map eTChoice l_46)) (n' := List.length l_46) (by subst he; simp only [List.map_append, List.map_cons, List.map_nil, List.nil_append]; first | done | rfl) (by subst he; simp <;> omega) ?_
                clear he
                conv => whnf
                refine orB_l ?_
                conv => whnf
                cases h
                exact Wk.mk2 [0, 1, 2, 3, 4, 5, 6, 11] 12 rfl rfl (by decide) rfl ⟨⟨rfl, rfl⟩, ⟨rfl, rfl⟩, ⟨rfl, rfl⟩, ⟨rfl, rfl⟩, ⟨rfl, (by first | rfl | (simp only [↓hb8, ↓hb32, ↓hb36, ↓hb42, cond_true, cond_false, Bool.true_or, Bool.or_true, Bool.false_or, Bool.or_false, Bool.true_and, Bool.and_true, Bool.false_and, Bool.and_false, Bool.not_true, Bool.not_false]; done) | (simp only [↓hb8, ↓hb32, ↓hb36, ↓hb42, cond_true, cond_false, Bool.true_or, Bool.or_true, Bool.false_or, Bool.or_false, Bool.true_and, Bool.and_true, Bool.false_and, Bool.and_false, Bool.not_true, Bool.not_false]; rfl))⟩, ⟨rfl, rfl⟩, daS_d rfl, daS_d rfl, trivial⟩ ⟨⟨rfl, rfl⟩, ⟨rfl, rfl⟩, ⟨rfl, rfl⟩, ⟨rfl, rfl⟩, ⟨rfl, rfl⟩, ⟨rfl, rfl⟩, ⟨rfl, rfl⟩, ⟨rfl, rfl⟩, ⟨rfl, rfl⟩, ⟨rfl, rfl⟩, trivial⟩
            · refine Tr.skip ?_
              conv => whnf
              refine Tr.seq ?_
              refine Tr.seq ?_
              refine Tr.draw (DrawP.seqQ layOK mixed [(11, 10)] [(0, 11), (1, 11), (2, 5), (3, 5), (4, 2), (5, 2), (6, 12), (7, 12), (8, 2), (9, 2), (10, 0), (11, 0)] (by kernel_rfl) ?_)
              conv => whnf
              refine ⟨_, ⟨rfl, rfl, (by (conv => whnf); (exact ⟨rfl, rfl⟩))⟩, ?_⟩
              conv => whnf
              refine ⟨_, ⟨rfl, rfl, (by (conv => whnf); (exact ⟨rfl, rfl⟩))⟩, ?_⟩
              conv => whnf
              refine ⟨_, ⟨rfl, rfl, (by (conv => whnf); (exact ⟨rfl, rfl⟩))⟩, ?_⟩
              conv => whnf
              refine ⟨_, ⟨rfl, rfl, (by (conv => whnf); (exact ⟨rfl, rfl⟩))⟩, ?_⟩
              conv => whnf
              obtain ⟨x_47, hx_47, h⟩ := bind_some h
              refine ⟨_, ⟨rfl, rfl, (by (conv => whnf); (refine ixP_of hx_47 ?_); (conv => whnf); (exact ⟨rfl, rfl⟩))⟩, ?_⟩
              conv => whnf
              refine ⟨_, ⟨rfl, rfl, (by (conv => whnf); (exact ⟨rfl, rfl⟩))⟩, ?_⟩
              conv => whnf
              refine ⟨_, ⟨rfl, rfl, (by (conv => whnf); (exact ⟨rfl, rfl⟩))⟩, ?_⟩
              conv => whnf
              refine ⟨_, ⟨rfl, rfl, (by (conv => whnf); (exact ⟨rfl, rfl⟩))⟩, ?_⟩
              conv => whnf
              obtain ⟨x_48, hx_48, h⟩ := bind_some h
              refine ⟨_, ⟨rfl, rfl, (by (conv => whnf); (refine ixP_of hx_48 ?_); (conv => whnf); (exact ⟨rfl, rfl⟩))⟩, ?_⟩
              conv => whnf
              refine ⟨_, ⟨rfl, rfl, (by (conv => whnf); (exact ⟨rfl, rfl⟩))⟩, ?_⟩
              conv => whnf
              refine ⟨_, _, (by (conv => whnf); (exact ⟨rfl, rfl⟩)), kp_ok (by repeat (first | exact trivial | refine ⟨trivial, ?_⟩ | refine ⟨rfl, ?_⟩)), ?_⟩
              conv => whnf
              refine ⟨_, _, (by (conv => whnf); (exact ⟨rfl, rfl⟩)), kp_ok (by repeat (first | exact trivial | refine ⟨trivial, ?_⟩ | refine ⟨rfl, ?_⟩)), ?_⟩
              conv => whnf
              refine Tr.seq ?_
              refine Tr.region layOK ?_
              conv => whnf
              refine Tr.cond ?_
              conv => whnf
              refine condS_bif h (fun hb49 h => ?_) (fun hb49 h => ?_)
              · refine Tr.region layOK ?_
                conv => whnf
                obtain ⟨r_50, hc51, h⟩ := bind_some h
                refine PC.ecall (s_ranks_hi x_48 r_50 hc51) (fun rs hrs => ?_)
                subst hrs
                conv => whnf
                refine Tr.region layOK ?_
                conv => whnf
                refine orB_r ?_
                conv => whnf
                refine frP_no ?_
                conv => whnf
                refine eqS_mk (by first | rfl | simp) ?_
                conv => whnf
                obtain ⟨l_52, hl_52, h⟩ := bind_some h
                refine apS_of hl_52 (apq_map (f := eTChoice) (l := (([({ Outcome := p_3.outcome, X := r_50 } : TChoice)] : List TChoice))) fun _ => rfl) (by first | rfl | simp) (by first | rfl | simp) (fun he => ?_)
                conv => whnf
                refine reS_mk (es' := List.map .d (List.map eTChoice l_52)) (n' := List.length l_52) (by subst he; simp only [List.map_append, List.map_cons, List.map_nil, List.nil_append]; first | done | rfl) (by subst he; simp <;> omega) ?_
                clear he
                conv => whnf
                refine orB_l ?_
                conv => whnf
                cases h
                exact Wk.mk2 [0, 1, 2, 3, 4, 5, 6, 11] 12 rfl rfl (by decide) rfl ⟨⟨rfl, rfl⟩, ⟨rfl, rfl⟩, ⟨rfl, rfl⟩, ⟨rfl, rfl⟩, ⟨rfl, (by first | rfl | (simp only [↓hb8, ↓hb32, ↓hb36, ↓hb49, cond_true, cond_false, Bool.true_or, Bool.or_true, Bool.false_or, Bool.or_false, Bool.true_and, Bool.and_true, Bool.false_and, Bool.and_false, Bool.not_true, Bool.not_false]; done) | (simp only [↓hb8, ↓hb32, ↓hb36, ↓hb49, cond_true, cond_false, Bool.true_or, Bool.or_true, Bool.false_or, Bool.or_false, Bool.true_and, Bool.and_true, Bool.false_and, Bool.and_false, Bool.not_true, Bool.not_false]; rfl))⟩, ⟨rfl, rfl⟩, daS_d rfl, daS_d rfl, trivial⟩ ⟨⟨rfl, rfl⟩, ⟨rfl, rfl⟩, ⟨rfl, rfl⟩, ⟨rfl, rfl⟩, ⟨rfl, rfl⟩, ⟨rfl, rfl⟩, ⟨rfl, rfl⟩, ⟨rfl, rfl⟩, ⟨rfl, rfl⟩, ⟨rfl, rfl⟩, trivial⟩
              · refine Tr.skip ?_
                conv => whnf
                refine Tr.region layOK ?_
                conv => whnf
                refine orB_r ?_
                conv => whnf
                refine frP_no ?_
                conv => whnf
                refine eqS_mk (by first | rfl | simp) ?_
                conv => whnf
                obtain ⟨l_53, hl_53, h⟩ := bind_some h
                refine apS_of hl_53 (apq_map (f := eTChoice) (l := (([({ Outcome := p_3.outcome, X := 0 } : TChoice)] : List TChoice))) fun _ => rfl) (by first | rfl | simp) (by first | rfl | simp) (fun he => ?_)
                conv => whnf
                refine reS_mk (es' := List.map .d (List.map eTChoice l_53)) (n' := List.length l_53) (by subst he; simp only [List.map_append, List.map_cons, List.map_nil, List.nil_append]; first | done | rfl) (by subst he; simp <;> omega) ?_
                clear he
                conv => whnf
                refine orB_l ?_
                conv => whnf
                cases h
                exact Wk.mk2 [0, 1, 2, 3, 4, 5, 6, 11] 12 rfl rfl (by decide) rfl ⟨⟨rfl, rfl⟩, ⟨rfl, rfl⟩, ⟨rfl, rfl⟩, ⟨rfl, rfl⟩, ⟨rfl, (by first | rfl | (simp only [↓hb8, ↓hb32, ↓hb36, ↓hb49, cond_true, cond_false, Bool.true_or, Bool.or_true, Bool.false_or, Bool.or_false, Bool.true_and, Bool.and_true, Bool.false_and, Bool.and_false, Bool.not_true, Bool.not_false]; done) | (simp only [↓hb8, ↓hb32, ↓hb36, ↓hb49, cond_true, cond_false, Bool.true_or, Bool.or_true, Bool.false_or, Bool.or_false, Bool.true_and, Bool.and_true, Bool.false_and, Bool.and_false, Bool.not_true, Bool.not_false]; rfl))⟩, ⟨rfl, rfl⟩, daS_d rfl, daS_d rfl, trivial⟩ ⟨⟨rfl, rfl⟩, ⟨rfl, rfl⟩, ⟨rfl, rfl⟩, ⟨rfl, rfl⟩, ⟨rfl, rfl⟩, ⟨rfl, rfl⟩, ⟨rfl, rfl⟩, ⟨rfl, rfl⟩, ⟨rfl, rfl⟩, ⟨rfl, rfl⟩, trivial⟩
          · clear hv34
            conv => whnf
            refine Tr.weak hw ?_
            refine Tr.region layOK ?_
            conv => whnf
            refine arS_raw ?_
            conv => whnf
            refine ⟨((w64 (v_26 + 1)), l_33), h, ?_⟩
            exact Wk.mk2 [0, 1, 2, 3, 4, 5, 6, 7] 8 rfl rfl (by decide) rfl ⟨⟨rfl, rfl⟩, ⟨rfl, rfl⟩, ⟨rfl, rfl⟩, ⟨rfl, rfl⟩, ⟨rfl, rfl⟩, ⟨rfl, rfl⟩, daS_d rfl, daS_d rfl, trivial⟩ ⟨⟨rfl, rfl⟩, ⟨rfl, rfl⟩, ⟨rfl, rfl⟩, ⟨rfl, rfl⟩, ⟨rfl, rfl⟩, ⟨rfl, rfl⟩, ⟨rfl, rfl⟩, ⟨rfl, rfl⟩, ⟨rfl, rfl⟩, ⟨rfl, rfl⟩, trivial⟩
        · refine Tr.exit ?_
          conv => whnf
          cases h
          exact Wk.mk2 [3, 4, 6, 7] 8 rfl rfl (by decide) rfl ⟨⟨rfl, rfl⟩, ⟨rfl, (by first | rfl | (simp only [↓hb8, ↓hb32, cond_true, cond_false, Bool.true_or, Bool.or_true, Bool.false_or, Bool.or_false, Bool.true_and, Bool.and_true, Bool.false_and, Bool.and_false, Bool.not_true, Bool.not_false]; done) | (simp only [↓hb8, ↓hb32, cond_true, cond_false, Bool.true_or, Bool.or_true, Bool.false_or, Bool.or_false, Bool.true_and, Bool.and_true, Bool.false_and, Bool.and_false, Bool.not_true, Bool.not_false]; rfl))⟩, daS_d rfl, daS_d rfl, trivial⟩ ⟨⟨rfl, (by first | rfl | (simp only [↓hb8, ↓hb32, cond_true, cond_false, Bool.true_or, Bool.or_true, Bool.false_or, Bool.or_false, Bool.true_and, Bool.and_true, Bool.false_and, Bool.and_false, Bool.not_true, Bool.not_false]; done) | (simp only [↓hb8, ↓hb32, cond_true, cond_false, Bool.true_or, Bool.or_true, Bool.false_or, Bool.or_false, Bool.true_and, Bool.and_true, Bool.false_and, Bool.and_false, Bool.not_true, Bool.not_false]; rfl))⟩, ⟨rfl, (by first | rfl | (simp only [↓hb8, ↓hb32, cond_true, cond_false, Bool.true_or, Bool.or_true, Bool.false_or, Bool.or_false, Bool.true_and, Bool.and_true, Bool.false_and, Bool.and_false, Bool.not_true, Bool.not_false]; done) | (simp only [↓hb8, ↓hb32, cond_true, cond_false, Bool.true_or, Bool.or_true, Bool.false_or, Bool.or_false, Bool.true_and, Bool.and_true, Bool.false_and, Bool.and_false, Bool.not_true, Bool.not_false]; rfl))⟩, trivial⟩
      · clear hv54
        conv => whnf
        refine Tr.weak hw ?_
        refine Tr.seq ?_
        refine Tr.region layOK ?_
        conv => whnf
        refine orB_l ?_
        conv => whnf
        refine Tr.ret ?_
        conv => whnf
        refine frE_of (f := eI) (l := l_16) rfl ?_
        conv => whnf
        refine frE_of (f := eTChoice) (l := l_29) rfl ?_
        conv => whnf
        cases h
        rfl
  · refine Tr.skip ?_
    conv => whnf
    refine Tr.seq ?_
    refine Tr.region layOK ?_
    conv => whnf
    refine Tr.seq ?_
    refine Tr.seq ?_
    refine Tr.region layOK ?_
    conv => whnf
    refine lnS_map ?_
    conv => whnf
    obtain ⟨l_60, hv67, h⟩ := bind_some h
    refine Tr.cutQ1 ([(2, .d (.i .i64 runner_2)), (4, .pt 0 0), (5, .pt 1 0), (7, .pt 2 0), (8, .pt 3 0), (9, .pt 4 0), (10, .pt 5 0)]) ([some (.var [.d (.fn 84 []), .d (.fn 83 []), .d (.fn 87 []), .d (.fn 88 [])]), some (.var [.d (.ls (List.map eTSegment f_1.Clocks.Segments)), .d (.ls (List.map (eL eI) f_1.Clocks.Far)), .d (.ls (List.map eTPair f_1.Pairs)), .d (.ls (List.map eTRunner f_1.Runners))]), some (.var [.d (.i .i64 p_3.world), .d (.i .i64 p_3.outcome), .d (.i .i64 p_3.rank)]), some (.var [.d (.i .i64 0), .nsl, .nsl]), some (.var [.d (.i .i64 p_3.world), .sl 6 1 0 (List.length l_60), .nsl]), some (.var [.d (.b x_7.Out), .d (.i .i64 x_7.Seg), .d (.i .i64 x_7.Lo), .d (.i .i64 x_7.Hi)]), some (.arr 1 (List.map .d (List.map eI l_60)))]) ?_ (fun T1 H1 hw => ?_)
    · replace h := hv67; clear hv67
      refine Tr.block ?_
      refine Tr.loopM (σ := Int × List Int) (fun n s => m_ranks_direction_history_with_ranks_worst_2_L3 f_1 x_7 n s.1 s.2) l_60 (fun s => ([(2, .d (.i .i64 runner_2)), (4, .pt 0 0), (5, .pt 1 0), (7, .pt 2 0), (8, .pt 3 0), (9, .pt 4 0), (10, .pt 5 0), (13, .fn 106 [.pt 6 0, .pt 0 0, .pt 1 0, .pt 7 0]), (54, .d (.i .i64 (((f_1.Clocks.Segments).length : Int)))), (55, .d (.i .i64 s.1))], [some (.var [.d (.fn 84 []), .d (.fn 83 []), .d (.fn 87 []), .d (.fn 88 [])]), some (.var [.d (.ls (List.map eTSegment f_1.Clocks.Segments)), .d (.ls (List.map (eL eI) f_1.Clocks.Far)), .d (.ls (List.map eTPair f_1.Pairs)), .d (.ls (List.map eTRunner f_1.Runners))]), some (.var [.d (.i .i64 p_3.world), .d (.i .i64 p_3.outcome), .d (.i .i64 p_3.rank)]), some (.var [.d (.i .i64 0), .nsl, .nsl]), some (.var [.d (.i .i64 p_3.world), .sl 8 1 0 (List.length s.2), .nsl]), some (.var [.d (.b x_7.Out), .d (.i .i64 x_7.Seg), .d (.i .i64 x_7.Lo), .d (.i .i64 x_7.Hi)]), some (.var [.d (.i .i64 0)]), some (.var [.d (.i .i64 (w64 (x_7.Seg + 1)))]), some (.arr 1 (List.map .d (List.map eI s.2)))])) (((((f_1.Clocks.Segments).length : Int)) - 0 : Int).toNat + 1) (0, (([] : List Int))) h (fun s => rfl) (Wk.mk2 [0, 1, 2, 3, 4, 5, 7, 6, 8] 8 rfl rfl (by decide) rfl ⟨⟨rfl, rfl⟩, ⟨rfl, rfl⟩, ⟨rfl, rfl⟩, ⟨rfl, rfl⟩, ⟨rfl, (by first | rfl | (simp only [↓hb8, cond_true, cond_false, Bool.true_or, Bool.or_true, Bool.false_or, Bool.or_false, Bool.true_and, Bool.and_true, Bool.false_and, Bool.and_false, Bool.not_true, Bool.not_false]; done) | (simp only [↓hb8, cond_true, cond_false, Bool.true_or, Bool.or_true, Bool.false_or, Bool.or_false, Bool.true_and, Bool.and_true, Bool.false_and, Bool.and_false, Bool.not_true, Bool.not_false]; rfl))⟩, ⟨rfl, rfl⟩, ⟨rfl, rfl⟩, ⟨rfl, rfl⟩, rfl, trivial⟩ ⟨⟨rfl, rfl⟩, ⟨rfl, rfl⟩, ⟨rfl, rfl⟩, ⟨rfl, rfl⟩, ⟨rfl, rfl⟩, ⟨rfl, rfl⟩, ⟨rfl, rfl⟩, ⟨rfl, (by first | rfl | (simp only [↓hb8, cond_true, cond_false, Bool.true_or, Bool.or_true, Bool.false_or, Bool.or_false, Bool.true_and, Bool.and_true, Bool.false_and, Bool.and_false, Bool.not_true, Bool.not_false]; done) | (simp only [↓hb8, cond_true, cond_false, Bool.true_or, Bool.or_true, Bool.false_or, Bool.or_false, Bool.true_and, Bool.and_true, Bool.false_and, Bool.and_false, Bool.not_true, Bool.not_false]; rfl))⟩, ⟨rfl, rfl⟩, ⟨rfl, rfl⟩, trivial⟩) ?_
      clear h
      rintro n_59 ⟨v_57, l_58⟩ h
      replace h : m_ranks_direction_history_with_ranks_worst_2_L3 f_1 x_7 (n_59 + 1) v_57 l_58 = some l_60 := h
      rw [m_ranks_direction_history_with_ranks_worst_2_L3] at h
      refine Tr.seq ?_
      refine Tr.region layOK ?_
      conv => whnf
      refine Tr.seq ?_
      refine Tr.cond ?_
      conv => whnf
      refine condS_bif h (fun hb63 h => ?_) (fun hb63 h => ?_)
      · refine Tr.skip ?_
        conv => whnf
        refine Tr.seq ?_
        refine Tr.block ?_
        refine Tr.seq ?_
        refine Tr.region layOK ?_
        conv => whnf
        refine Tr.draw (DrawP.seqQ layOK mixed [(7, 8), (9, 4)] [(0, 7), (1, 7), (2, 1), (3, 1), (4, 1), (5, 0), (6, 1), (7, 0), (8, 7), (9, 0)] (by kernel_rfl) ?_)
        conv => whnf
        refine ⟨_, ⟨rfl, rfl, (by (conv => whnf); (exact ⟨rfl, rfl⟩))⟩, ?_⟩
        conv => whnf
        refine ⟨_, ⟨rfl, rfl, (by (conv => whnf); (exact ⟨rfl, rfl⟩))⟩, ?_⟩
        conv => whnf
        refine ⟨_, (fun H => by (conv => whnf); (exact ⟨rfl, rfl⟩)), ?_⟩
        conv => whnf
        refine ⟨_, (fun H => by (conv => whnf); (exact ⟨rfl, rfl⟩)), ?_⟩
        conv => whnf
        refine ⟨_, (fun H => by (conv => whnf); (refine arS_raw ?_); (conv => whnf); (exact ⟨rfl, rfl⟩)), ?_⟩
        conv => whnf
        obtain ⟨r_64, hc65, h⟩ := bind_some h
        refine ⟨_, _, (by (conv => whnf); (refine PC.ecall_lend ?_ ⟨_, _, func106, rfl, rfl⟩); (conv => whnf); (refine ⟨_, s_ranks_direction_history_1_v2 ((w64 (v_57 + 1))) 0 f_1.Clocks.Segments f_1.Clocks.Far f_1.Pairs f_1.Runners ((w64 (x_7.Seg + 1))) r_64 hc65, fun rs hrs => ?_⟩); (subst hrs); (refine ⟨rfl, ?_⟩); (conv => whnf); (exact ⟨rfl, rfl⟩)), kp_ok (by repeat (first | exact trivial | refine ⟨trivial, ?_⟩ | refine ⟨rfl, ?_⟩)), ?_⟩
        conv => whnf
        refine ⟨_, (fun H => by (conv => whnf); (refine orB_r ?_); (conv => whnf); (exact ⟨rfl, rfl⟩)), ?_⟩
        conv => whnf
        obtain ⟨l_66, hl_66, h⟩ := bind_some h
        refine ⟨_, _, (by (conv => whnf); (refine frP_no ?_); (conv => whnf); (refine eqS_mk (by first | rfl | simp) ?_); (conv => whnf); (refine apS_of hl_66 (apq_map (f := eI) (l := (([r_64] : List Int))) fun _ => rfl) (by first | rfl | simp) (by first | rfl | simp) (fun he => ?_)); (conv => whnf); (refine reS_mk (es' := List.map .d (List.map eI l_66)) (n' := List.length l_66) (by subst he; simp only [List.map_append, List.map_cons, List.map_nil, List.nil_append]; first | done | rfl) (by subst he; simp <;> omega) ?_); (clear he); (conv => whnf); (exact ⟨rfl, rfl⟩)), kp_ok (by repeat (first | exact trivial | refine ⟨trivial, ?_⟩ | refine ⟨rfl, ?_⟩)), ?_⟩
        conv => whnf
        refine ⟨_, ⟨rfl, rfl, (by (conv => whnf); (exact ⟨rfl, rfl⟩))⟩, ?_⟩
        conv => whnf
        refine ⟨_, _, (by (conv => whnf); (refine orB_l ?_); (conv => whnf); (exact ⟨rfl, rfl⟩)), kp_ok (by repeat (first | exact trivial | refine ⟨trivial, ?_⟩ | refine ⟨rfl, ?_⟩)), ?_⟩
        conv => whnf
        refine Tr.region layOK ?_
        conv => whnf
        refine arS_raw ?_
        conv => whnf
        refine ⟨((w64 (v_57 + 1)), l_66), h, ?_⟩
        exact Wk.mk2 [0, 1, 2, 3, 4, 5, 6, 7, 9] 10 rfl rfl (by decide) rfl ⟨⟨rfl, rfl⟩, ⟨rfl, rfl⟩, ⟨rfl, rfl⟩, ⟨rfl, rfl⟩, ⟨rfl, (by first | rfl | (simp only [↓hb8, ↓hb63, cond_true, cond_false, Bool.true_or, Bool.or_true, Bool.false_or, Bool.or_false, Bool.true_and, Bool.and_true, Bool.false_and, Bool.and_false, Bool.not_true, Bool.not_false]; done) | (simp only [↓hb8, ↓hb63, cond_true, cond_false, Bool.true_or, Bool.or_true, Bool.false_or, Bool.or_false, Bool.true_and, Bool.and_true, Bool.false_and, Bool.and_false, Bool.not_true, Bool.not_false]; rfl))⟩, ⟨rfl, rfl⟩, ⟨rfl, rfl⟩, ⟨rfl, rfl⟩, daS_d rfl, trivial⟩ ⟨⟨rfl, rfl⟩, ⟨rfl, rfl⟩, ⟨rfl, rfl⟩, ⟨rfl, rfl⟩, ⟨rfl, rfl⟩, ⟨rfl, rfl⟩, ⟨rfl, rfl⟩, ⟨rfl, rfl⟩, ⟨rfl, rfl⟩, ⟨rfl, rfl⟩, trivial⟩
      · refine Tr.exit ?_
        conv => whnf
        cases h
        exact Wk.mk2 [0, 1, 2, 3, 4, 5, 8] 9 rfl rfl (by decide) rfl ⟨⟨rfl, rfl⟩, ⟨rfl, rfl⟩, ⟨rfl, rfl⟩, ⟨rfl, rfl⟩, ⟨rfl, (by first | rfl | (simp only [↓hb8, ↓hb63, cond_true, cond_false, Bool.true_or, Bool.or_true, Bool.false_or, Bool.or_false, Bool.true_and, Bool.and_true, Bool.false_and, Bool.and_false, Bool.not_true, Bool.not_false]; done) | (simp only [↓hb8, ↓hb63, cond_true, cond_false, Bool.true_or, Bool.or_true, Bool.false_or, Bool.or_false, Bool.true_and, Bool.and_true, Bool.false_and, Bool.and_false, Bool.not_true, Bool.not_false]; rfl))⟩, ⟨rfl, rfl⟩, daS_d rfl, trivial⟩ ⟨⟨rfl, rfl⟩, ⟨rfl, rfl⟩, ⟨rfl, rfl⟩, ⟨rfl, rfl⟩, ⟨rfl, rfl⟩, ⟨rfl, rfl⟩, ⟨rfl, rfl⟩, trivial⟩
    · clear hv67
      conv => whnf
      refine Tr.weak hw ?_
      refine Tr.seq ?_
      refine Tr.seq ?_
      refine Tr.region layOK ?_
      conv => whnf
      refine lnS_map ?_
      conv => whnf
      obtain ⟨l_73, hv98, h⟩ := bind_some h
      refine Tr.cutQ1 ([(8, .pt 0 0), (9, .pt 1 0)]) ([some (.var [.d (.i .i64 0), .nsl, .nsl]), some (.var [.d (.i .i64 p_3.world), .sl 2 1 0 (List.length l_60), .sl 3 2 0 (List.length l_73)]), some (.arr 1 (List.map .d (List.map eI l_60))), some (.arr 2 (List.map .d (List.map eTChoice l_73)))]) ?_ (fun T1 H1 hw => ?_)
      · replace h := hv98; clear hv98
        refine Tr.block ?_
        refine Tr.loopM (σ := Int × List TChoice) (fun n s => m_ranks_direction_history_with_ranks_worst_2_L4 f_1 runner_2 p_3 x_7 n s.1 s.2) l_73 (fun s => ([(2, .d (.i .i64 runner_2)), (4, .pt 0 0), (5, .pt 1 0), (7, .pt 2 0), (8, .pt 3 0), (9, .pt 4 0), (10, .pt 5 0), (69, .d (.ls (List.map eTRunner f_1.Runners))), (70, .d (.i .i64 (((f_1.Runners).length : Int)))), (71, .d (.i .i64 s.1))], [some (.var [.d (.fn 84 []), .d (.fn 83 []), .d (.fn 87 []), .d (.fn 88 [])]), some (.var [.d (.ls (List.map eTSegment f_1.Clocks.Segments)), .d (.ls (List.map (eL eI) f_1.Clocks.Far)), .d (.ls (List.map eTPair f_1.Pairs)), .d (.ls (List.map eTRunner f_1.Runners))]), some (.var [.d (.i .i64 p_3.world), .d (.i .i64 p_3.outcome), .d (.i .i64 p_3.rank)]), some (.var [.d (.i .i64 0), .nsl, .nsl]), some (.var [.d (.i .i64 p_3.world), .sl 6 1 0 (List.length l_60), .sl 7 2 0 (List.length s.2)]), some (.var [.d (.b x_7.Out), .d (.i .i64 x_7.Seg), .d (.i .i64 x_7.Lo), .d (.i .i64 x_7.Hi)]), some (.arr 1 (List.map .d (List.map eI l_60))), some (.arr 2 (List.map .d (List.map eTChoice s.2)))])) (((((f_1.Runners).length : Int)) - 0 : Int).toNat + 1) (0, (([] : List TChoice))) h (fun s => rfl) (Wk.mk2 [0, 1, 2, 3, 4, 5, 6, 7] 7 rfl rfl (by decide) rfl ⟨⟨rfl, rfl⟩, ⟨rfl, rfl⟩, ⟨rfl, rfl⟩, ⟨rfl, rfl⟩, ⟨rfl, (by first | rfl | (simp only [↓hb8, cond_true, cond_false, Bool.true_or, Bool.or_true, Bool.false_or, Bool.or_false, Bool.true_and, Bool.and_true, Bool.false_and, Bool.and_false, Bool.not_true, Bool.not_false]; done) | (simp only [↓hb8, cond_true, cond_false, Bool.true_or, Bool.or_true, Bool.false_or, Bool.or_false, Bool.true_and, Bool.and_true, Bool.false_and, Bool.and_false, Bool.not_true, Bool.not_false]; rfl))⟩, ⟨rfl, rfl⟩, daS_d rfl, rfl, trivial⟩ ⟨⟨rfl, rfl⟩, ⟨rfl, rfl⟩, ⟨rfl, rfl⟩, ⟨rfl, rfl⟩, ⟨rfl, rfl⟩, ⟨rfl, rfl⟩, ⟨rfl, rfl⟩, ⟨rfl, rfl⟩, ⟨rfl, rfl⟩, ⟨rfl, rfl⟩, trivial⟩) ?_
        clear h
        rintro n_72 ⟨v_70, l_71⟩ h
        replace h : m_ranks_direction_history_with_ranks_worst_2_L4 f_1 runner_2 p_3 x_7 (n_72 + 1) v_70 l_71 = some l_73 := h
        rw [m_ranks_direction_history_with_ranks_worst_2_L4] at h
        refine Tr.seq ?_
        refine Tr.region layOK ?_
        conv => whnf
        refine Tr.seq ?_
        refine Tr.cond ?_
        conv => whnf
        refine condS_bif h (fun hb76 h => ?_) (fun hb76 h => ?_)
        · refine Tr.skip ?_
          conv => whnf
          refine Tr.seq ?_
          obtain ⟨l_77, hv78, h⟩ := bind_some h
          refine Tr.cutQ1 ([(2, .d (.i .i64 runner_2)), (4, .pt 0 0), (5, .pt 1 0), (7, .pt 2 0), (8, .pt 3 0), (9, .pt 4 0), (10, .pt 5 0), (69, .d (.ls (List.map eTRunner f_1.Runners))), (70, .d (.i .i64 (((f_1.Runners).length : Int)))), (71, .d (.i .i64 v_70))]) ([some (.var [.d (.fn 84 []), .d (.fn 83 []), .d (.fn 87 []), .d (.fn 88 [])]), some (.var [.d (.ls (List.map eTSegment f_1.Clocks.Segments)), .d (.ls (List.map (eL eI) f_1.Clocks.Far)), .d (.ls (List.map eTPair f_1.Pairs)), .d (.ls (List.map eTRunner f_1.Runners))]), some (.var [.d (.i .i64 p_3.world), .d (.i .i64 p_3.outcome), .d (.i .i64 p_3.rank)]), some (.var [.d (.i .i64 0), .nsl, .nsl]), some (.var [.d (.i .i64 p_3.world), .sl 6 1 0 (List.length l_60), .sl 7 2 0 (List.length l_77)]), some (.var [.d (.b x_7.Out), .d (.i .i64 x_7.Seg), .d (.i .i64 x_7.Lo), .d (.i .i64 x_7.Hi)]), some (.arr 1 (List.map .d (List.map eI l_60))), some (.arr 2 (List.map .d (List.map eTChoice l_77)))]) ?_ (fun T1 H1 hw => ?_)
          · replace h := hv78; clear hv78
            refine Tr.block ?_
            refine Tr.seq ?_
            refine Tr.region layOK ?_
            conv => whnf
            obtain ⟨x_79, hx_79, h⟩ := bind_some h
            refine ixP_of hx_79 ?_
            conv => whnf
            refine Tr.seq ?_
            refine Tr.region layOK ?_
            conv => whnf
            refine Tr.seq ?_
            refine Tr.region layOK ?_
            conv => whnf
            refine Tr.seq ?_
            refine Tr.seq ?_
            refine Tr.region layOK ?_
            conv => whnf
            refine Tr.cond ?_
            conv => whnf
            refine condS_bif h (fun hb80 h => ?_) (fun hb80 h => ?_)
            · refine Tr.seq ?_
              refine Tr.region layOK ?_
              conv => whnf
              obtain ⟨⟨r_81, r_82⟩, hc83, h⟩ := bind_some h
              refine PC.ecall (s_ranks_direction_choose_with_ranks_worst_2 f_1 p_3.world runner_2 x_7 v_70 r_81 r_82 hc83) (fun rs hrs => ?_)
              subst hrs
              conv => whnf
              refine Tr.region layOK ?_
              conv => whnf
              refine Tr.seq ?_
              refine Tr.seq ?_
              refine Tr.draw (DrawP.seqQ layOK mixed [(11, 10)] [(0, 11), (1, 11), (2, 5), (3, 5), (4, 2), (5, 2), (6, 12), (7, 12), (8, 2), (9, 2), (10, 0), (11, 0)] (by kernel_rfl) ?_)
              conv => whnf
              refine ⟨_, ⟨rfl, rfl, (by (conv => whnf); (exact ⟨rfl, rfl⟩))⟩, ?_⟩
              conv => whnf
              refine ⟨_, ⟨rfl, rfl, (by (conv => whnf); (exact ⟨rfl, rfl⟩))⟩, ?_⟩
              conv => whnf
              refine ⟨_, ⟨rfl, rfl, (by (conv => whnf); (exact ⟨rfl, rfl⟩))⟩, ?_⟩
              conv => whnf
              refine ⟨_, ⟨rfl, rfl, (by (conv => whnf); (exact ⟨rfl, rfl⟩))⟩, ?_⟩
              conv => whnf
              obtain ⟨x_84, hx_84, h⟩ := bind_some h
              refine ⟨_, ⟨rfl, rfl, (by (conv => whnf); (refine ixP_of hx_84 ?_); (conv => whnf); (exact ⟨rfl, rfl⟩))⟩, ?_⟩
              conv => whnf
              refine ⟨_, ⟨rfl, rfl, (by (conv => whnf); (exact ⟨rfl, rfl⟩))⟩, ?_⟩
              conv => whnf
              refine ⟨_, ⟨rfl, rfl, (by (conv => whnf); (exact ⟨rfl, rfl⟩))⟩, ?_⟩
              conv => whnf
              refine ⟨_, ⟨rfl, rfl, (by (conv => whnf); (exact ⟨rfl, rfl⟩))⟩, ?_⟩
              conv => whnf
              obtain ⟨x_85, hx_85, h⟩ := bind_some h
              refine ⟨_, ⟨rfl, rfl, (by (conv => whnf); (refine ixP_of hx_85 ?_); (conv => whnf); (exact ⟨rfl, rfl⟩))⟩, ?_⟩
              conv => whnf
              refine ⟨_, ⟨rfl, rfl, (by (conv => whnf); (exact ⟨rfl, rfl⟩))⟩, ?_⟩
              conv => whnf
              refine ⟨_, _, (by (conv => whnf); (exact ⟨rfl, rfl⟩)), kp_ok (by repeat (first | exact trivial | refine ⟨trivial, ?_⟩ | refine ⟨rfl, ?_⟩)), ?_⟩
              conv => whnf
              refine ⟨_, _, (by (conv => whnf); (exact ⟨rfl, rfl⟩)), kp_ok (by repeat (first | exact trivial | refine ⟨trivial, ?_⟩ | refine ⟨rfl, ?_⟩)), ?_⟩
              conv => whnf
              refine Tr.seq ?_
              refine Tr.region layOK ?_
              conv => whnf
              refine Tr.cond ?_
              conv => whnf
              refine condS_bif h (fun hb86 h => ?_) (fun hb86 h => ?_)
              · refine Tr.region layOK ?_
                conv => whnf
                obtain ⟨r_87, hc88, h⟩ := bind_some h
                refine PC.ecall (s_ranks_lo x_85 r_87 hc88) (fun rs hrs => ?_)
                subst hrs
                conv => whnf
                refine Tr.region layOK ?_
                conv => whnf
                refine orB_r ?_
                conv => whnf
                refine frP_no ?_
                conv => whnf
                refine eqS_mk (by first | rfl | simp) ?_
                conv => whnf
                obtain ⟨l_89, hl_89, h⟩ := bind_some h
                refine apS_of hl_89 (apq_map (f := eTChoice) (l := (([({ Outcome := r_81, X := r_87 } : TChoice)] : List TChoice))) fun _ => rfl) (by first | rfl | simp) (by first | rfl | simp) (fun he => ?_)
                conv => whnf
                refine reS_mk (es' := List.map .d (List.map eTChoice l_89)) (n' := List.length l_89) (by subst he; simp only [List.map_append, List.map_cons, List.map_nil, List.nil_append]; first | done | rfl) (by subst he; simp <;> omega) ?_
                clear he
                conv => whnf
                refine orB_l ?_
                conv => whnf
                cases h
                exact Wk.mk2 [0, 1, 2, 3, 4, 5, 6, 11] 12 rfl rfl (by decide) rfl ⟨⟨rfl, rfl⟩, ⟨rfl, rfl⟩, ⟨rfl, rfl⟩, ⟨rfl, rfl⟩, ⟨rfl, (by first | rfl | (simp only [↓hb8, ↓hb76, ↓hb80, ↓hb86, cond_true, cond_false, Bool.true_or, Bool.or_true, Bool.false_or, Bool.or_false, Bool.true_and, Bool.and_true, Bool.false_and, Bool.and_false, Bool.not_true, Bool.not_false]; done) | (simp only [↓hb8, ↓hb76, ↓hb80, ↓hb86, cond_true, cond_false, Bool.true_or, Bool.or_true, Bool.false_or, Bool.or_false, Bool.true_and, Bool.and_true, Bool.false_and, Bool.and_false, Bool.not_true, Bool.not_false]; rfl))⟩, ⟨rfl, rfl⟩, daS_d rfl, daS_d rfl, trivial⟩ ⟨⟨rfl, rfl⟩, ⟨rfl, rfl⟩, ⟨rfl, rfl⟩, ⟨rfl, rfl⟩, ⟨rfl, rfl⟩, ⟨rfl, rfl⟩, ⟨rfl, rfl⟩, ⟨rfl, rfl⟩, ⟨rfl, rfl⟩, ⟨rfl, rfl⟩, trivial⟩
              · refine Tr.skip ?_
                conv => whnf
                refine Tr.region layOK ?_
                conv => whnf
                refine orB_r ?_
                conv => whnf
                refine frP_no ?_
                conv => whnf
                refine eqS_mk (by first | rfl | simp) ?_
                conv => whnf
                obtain ⟨l_90, hl_90, h⟩ := bind_some h
                refine apS_of hl_90 (apq_map (f := eTChoice) (l := (([({ Outcome := r_81, X := 0 } : TChoice)] : List TChoice))) fun _ => rfl) (by first | rfl | simp) (by first | rfl | simp) (fun he => ?_)
                conv => whnf
                refine reS_mk (es' := List.map .d (List.map eTChoice l_90)) (n' := List.length l_90) (by subst he; simp only [List.map_append, List.map_cons, List.map_nil, List.nil_append]; first | done | rfl) (by subst he; simp <;> omega) ?_
                clear he
                conv => whnf
                refine orB_l ?_
                conv => whnf
                cases h
                exact Wk.mk2 [0, 1, 2, 3, 4, 5, 6, 11] 12 rfl rfl (by decide) rfl ⟨⟨rfl, rfl⟩, ⟨rfl, rfl⟩, ⟨rfl, rfl⟩, ⟨rfl, rfl⟩, ⟨rfl, (by first | rfl | (simp only [↓hb8, ↓hb76, ↓hb80, ↓hb86, cond_true, cond_false, Bool.true_or, Bool.or_true, Bool.false_or, Bool.or_false, Bool.true_and, Bool.and_true, Bool.false_and, Bool.and_false, Bool.not_true, Bool.not_false]; done) | (simp only [↓hb8, ↓hb76, ↓hb80, ↓hb86, cond_true, cond_false, Bool.true_or, Bool.or_true, Bool.false_or, Bool.or_false, Bool.true_and, Bool.and_true, Bool.false_and, Bool.and_false, Bool.not_true, Bool.not_false]; rfl))⟩, ⟨rfl, rfl⟩, daS_d rfl, daS_d rfl, trivial⟩ ⟨⟨rfl, rfl⟩, ⟨rfl, rfl⟩, ⟨rfl, rfl⟩, ⟨rfl, rfl⟩, ⟨rfl, rfl⟩, ⟨rfl, rfl⟩, ⟨rfl, rfl⟩, ⟨rfl, rfl⟩, ⟨rfl, rfl⟩, ⟨rfl, rfl⟩, trivial⟩
            · refine Tr.skip ?_
              conv => whnf
              refine Tr.seq ?_
              refine Tr.seq ?_
              refine Tr.draw (DrawP.seqQ layOK mixed [(11, 10)] [(0, 11), (1, 11), (2, 5), (3, 5), (4, 2), (5, 2), (6, 12), (7, 12), (8, 2), (9, 2), (10, 0), (11, 0)] (by kernel_rfl) ?_)
              conv => whnf
              refine ⟨_, ⟨rfl, rfl, (by (conv => whnf); (exact ⟨rfl, rfl⟩))⟩, ?_⟩
              conv => whnf
              refine ⟨_, ⟨rfl, rfl, (by (conv => whnf); (exact ⟨rfl, rfl⟩))⟩, ?_⟩
              conv => whnf
              refine ⟨_, ⟨rfl, rfl, (by (conv => whnf); (exact ⟨rfl, rfl⟩))⟩, ?_⟩
              conv => whnf
              refine ⟨_, ⟨rfl, rfl, (by (conv => whnf); (exact ⟨rfl, rfl⟩))⟩, ?_⟩
              conv => whnf
              obtain ⟨x_91, hx_91, h⟩ := bind_some h
              refine ⟨_, ⟨rfl, rfl, (by (conv => whnf); (refine ixP_of hx_91 ?_); (conv => whnf); (exact ⟨rfl, rfl⟩))⟩, ?_⟩
              conv => whnf
              refine ⟨_, ⟨rfl, rfl, (by (conv => whnf); (exact ⟨rfl, rfl⟩))⟩, ?_⟩
              conv => whnf
              refine ⟨_, ⟨rfl, rfl, (by (conv => whnf); (exact ⟨rfl, rfl⟩))⟩, ?_⟩
              conv => whnf
              refine ⟨_, ⟨rfl, rfl, (by (conv => whnf); (exact ⟨rfl, rfl⟩))⟩, ?_⟩
              conv => whnf
              obtain ⟨x_92, hx_92, h⟩ := bind_some h
              refine ⟨_, ⟨rfl, rfl, (by (conv => whnf); (refine ixP_of hx_92 ?_); (conv => whnf); (exact ⟨rfl, rfl⟩))⟩, ?_⟩
              conv => whnf
              refine ⟨_, ⟨rfl, rfl, (by (conv => whnf); (exact ⟨rfl, rfl⟩))⟩, ?_⟩
              conv => whnf
              refine ⟨_, _, (by (conv => whnf); (exact ⟨rfl, rfl⟩)), kp_ok (by repeat (first | exact trivial | refine ⟨trivial, ?_⟩ | refine ⟨rfl, ?_⟩)), ?_⟩
              conv => whnf
              refine ⟨_, _, (by (conv => whnf); (exact ⟨rfl, rfl⟩)), kp_ok (by repeat (first | exact trivial | refine ⟨trivial, ?_⟩ | refine ⟨rfl, ?_⟩)), ?_⟩
              conv => whnf
              refine Tr.seq ?_
              refine Tr.region layOK ?_
              conv => whnf
              refine Tr.cond ?_
              conv => whnf
              refine condS_bif h (fun hb93 h => ?_) (fun hb93 h => ?_)
              · refine Tr.region layOK ?_
                conv => whnf
                obtain ⟨r_94, hc95, h⟩ := bind_some h
                refine PC.ecall (s_ranks_hi x_92 r_94 hc95) (fun rs hrs => ?_)
                subst hrs
                conv => whnf
                refine Tr.region layOK ?_
                conv => whnf
                refine orB_r ?_
                conv => whnf
                refine frP_no ?_
                conv => whnf
                refine eqS_mk (by first | rfl | simp) ?_
                conv => whnf
                obtain ⟨l_96, hl_96, h⟩ := bind_some h
                refine apS_of hl_96 (apq_map (f := eTChoice) (l := (([({ Outcome := p_3.outcome, X := r_94 } : TChoice)] : List TChoice))) fun _ => rfl) (by first | rfl | simp) (by first | rfl | simp) (fun he => ?_)
                conv => whnf
                refine reS_mk (es' := List.map .d (List.map eTChoice l_96)) (n' := List.length l_96) (by subst he; simp only [List.map_append, List.map_cons, List.map_nil, List.nil_append]; first | done | rfl) (by subst he; simp <;> omega) ?_
                clear he
                conv => whnf
                refine orB_l ?_
                conv => whnf
                cases h
                exact Wk.mk2 [0, 1, 2, 3, 4, 5, 6, 11] 12 rfl rfl (by decide) rfl ⟨⟨rfl, rfl⟩, ⟨rfl, rfl⟩, ⟨rfl, rfl⟩, ⟨rfl, rfl⟩, ⟨rfl, (by first | rfl | (simp only [↓hb8, ↓hb76, ↓hb80, ↓hb93, cond_true, cond_false, Bool.true_or, Bool.or_true, Bool.false_or, Bool.or_false, Bool.true_and, Bool.and_true, Bool.false_and, Bool.and_false, Bool.not_true, Bool.not_false]; done) | (simp only [↓hb8, ↓hb76, ↓hb80, ↓hb93, cond_true, cond_false, Bool.true_or, Bool.or_true, Bool.false_or, Bool.or_false, Bool.true_and, Bool.and_true, Bool.false_and, Bool.and_false, Bool.not_true, Bool.not_false]; rfl))⟩, ⟨rfl, rfl⟩, daS_d rfl, daS_d rfl, trivial⟩ ⟨⟨rfl, rfl⟩, ⟨rfl, rfl⟩, ⟨rfl, rfl⟩, ⟨rfl, rfl⟩, ⟨rfl, rfl⟩, ⟨rfl, rfl⟩, ⟨rfl, rfl⟩, ⟨rfl, rfl⟩, ⟨rfl, rfl⟩, ⟨rfl, rfl⟩, trivial⟩
              · refine Tr.skip ?_
                conv => whnf
                refine Tr.region layOK ?_
                conv => whnf
                refine orB_r ?_
                conv => whnf
                refine frP_no ?_
                conv => whnf
                refine eqS_mk (by first | rfl | simp) ?_
                conv => whnf
                obtain ⟨l_97, hl_97, h⟩ := bind_some h
                refine apS_of hl_97 (apq_map (f := eTChoice) (l := (([({ Outcome := p_3.outcome, X := 0 } : TChoice)] : List TChoice))) fun _ => rfl) (by first | rfl | simp) (by first | rfl | simp) (fun he => ?_)
                conv => whnf
                refine reS_mk (es' := List.map .d (List.map eTChoice l_97)) (n' := List.length l_97) (by subst he; simp only [List.map_append, List.map_cons, List.map_nil, List.nil_append]; first | done | rfl) (by subst he; simp <;> omega) ?_
                clear he
                conv => whnf
                refine orB_l ?_
                conv => whnf
                cases h
                exact Wk.mk2 [0, 1, 2, 3, 4, 5, 6, 11] 12 rfl rfl (by decide) rfl ⟨⟨rfl, rfl⟩, ⟨rfl, rfl⟩, ⟨rfl, rfl⟩, ⟨rfl, rfl⟩, ⟨rfl, (by first | rfl | (simp only [↓hb8, ↓hb76, ↓hb80, ↓hb93, cond_true, cond_false, Bool.true_or, Bool.or_true, Bool.false_or, Bool.or_false, Bool.true_and, Bool.and_true, Bool.false_and, Bool.and_false, Bool.not_true, Bool.not_false]; done) | (simp only [↓hb8, ↓hb76, ↓hb80, ↓hb93, cond_true, cond_false, Bool.true_or, Bool.or_true, Bool.false_or, Bool.or_false, Bool.true_and, Bool.and_true, Bool.false_and, Bool.and_false, Bool.not_true, Bool.not_false]; rfl))⟩, ⟨rfl, rfl⟩, daS_d rfl, daS_d rfl, trivial⟩ ⟨⟨rfl, rfl⟩, ⟨rfl, rfl⟩, ⟨rfl, rfl⟩, ⟨rfl, rfl⟩, ⟨rfl, rfl⟩, ⟨rfl, rfl⟩, ⟨rfl, rfl⟩, ⟨rfl, rfl⟩, ⟨rfl, rfl⟩, ⟨rfl, rfl⟩, trivial⟩
          · clear hv78
            conv => whnf
            refine Tr.weak hw ?_
            refine Tr.region layOK ?_
            conv => whnf
            refine arS_raw ?_
            conv => whnf
            refine ⟨((w64 (v_70 + 1)), l_77), h, ?_⟩
            exact Wk.mk2 [0, 1, 2, 3, 4, 5, 6, 7] 8 rfl rfl (by decide) rfl ⟨⟨rfl, rfl⟩, ⟨rfl, rfl⟩, ⟨rfl, rfl⟩, ⟨rfl, rfl⟩, ⟨rfl, rfl⟩, ⟨rfl, rfl⟩, daS_d rfl, daS_d rfl, trivial⟩ ⟨⟨rfl, rfl⟩, ⟨rfl, rfl⟩, ⟨rfl, rfl⟩, ⟨rfl, rfl⟩, ⟨rfl, rfl⟩, ⟨rfl, rfl⟩, ⟨rfl, rfl⟩, ⟨rfl, rfl⟩, ⟨rfl, rfl⟩, ⟨rfl, rfl⟩, trivial⟩
        · refine Tr.exit ?_
          conv => whnf
          cases h
          exact Wk.mk2 [3, 4, 6, 7] 8 rfl rfl (by decide) rfl ⟨⟨rfl, rfl⟩, ⟨rfl, (by first | rfl | (simp only [↓hb8, ↓hb76, cond_true, cond_false, Bool.true_or, Bool.or_true, Bool.false_or, Bool.or_false, Bool.true_and, Bool.and_true, Bool.false_and, Bool.and_false, Bool.not_true, Bool.not_false]; done) | (simp only [↓hb8, ↓hb76, cond_true, cond_false, Bool.true_or, Bool.or_true, Bool.false_or, Bool.or_false, Bool.true_and, Bool.and_true, Bool.false_and, Bool.and_false, Bool.not_true, Bool.not_false]; rfl))⟩, daS_d rfl, daS_d rfl, trivial⟩ ⟨⟨rfl, (by first | rfl | (simp only [↓hb8, ↓hb76, cond_true, cond_false, Bool.true_or, Bool.or_true, Bool.false_or, Bool.or_false, Bool.true_and, Bool.and_true, Bool.false_and, Bool.and_false, Bool.not_true, Bool.not_false]; done) | (simp only [↓hb8, ↓hb76, cond_true, cond_false, Bool.true_or, Bool.or_true, Bool.false_or, Bool.or_false, Bool.true_and, Bool.and_true, Bool.false_and, Bool.and_false, Bool.not_true, Bool.not_false]; rfl))⟩, ⟨rfl, (by first | rfl | (simp only [↓hb8, ↓hb76, cond_true, cond_false, Bool.true_or, Bool.or_true, Bool.false_or, Bool.or_false, Bool.true_and, Bool.and_true, Bool.false_and, Bool.and_false, Bool.not_true, Bool.not_false]; done) | (simp only [↓hb8, ↓hb76, cond_true, cond_false, Bool.true_or, Bool.or_true, Bool.false_or, Bool.or_false, Bool.true_and, Bool.and_true, Bool.false_and, Bool.and_false, Bool.not_true, Bool.not_false]; rfl))⟩, trivial⟩
      · clear hv98
        conv => whnf
        refine Tr.weak hw ?_
        refine Tr.seq ?_
        refine Tr.region layOK ?_
        conv => whnf
        refine orB_l ?_
        conv => whnf
        refine Tr.ret ?_
        conv => whnf
        refine frE_of (f := eI) (l := l_60) rfl ?_
        conv => whnf
        refine frE_of (f := eTChoice) (l := l_73) rfl ?_
        conv => whnf
        cases h
        rfl

theorem s_ranks_extreme_with_ranks_worst_2 (f_1 : TField) (runner_2 : Int) (r_3 : THistory) (r_4 : Bool) (r_5 : Int) (h : m_ranks_extreme_with_ranks_worst_2 f_1 runner_2 = some (r_3, r_4, r_5)) :
    PC prog 50 [(.ag [(.fn 84 []), (.fn 83 []), (.fn 87 []), (.fn 88 [])]), (eTField f_1), (.i .i64 runner_2)] (fun rs => rs = [(eTHistory r_3), (.b r_4), (.i .i64 r_5)]) := by
  refine PC.of_tr (cx := ⟨34, none, lay, 0⟩) layOK func50 rfl rfl rfl rfl rfl (by simp [f50]) ?_
  unfold m_ranks_extreme_with_ranks_worst_2 at h
  refine Tr.seq ?_
  refine Tr.region layOK ?_
  conv => whnf
  refine Tr.seq ?_
  refine Tr.seq ?_
  refine Tr.region layOK ?_
  conv => whnf
  refine orB_r ?_
  conv => whnf
  obtain ⟨r_6, hc7, h⟩ := bind_some h
  refine PC.ecall (s_ranks_check f_1 ((([runner_2] : List Int))) r_6 hc7) (fun rs hrs => ?_)
  subst hrs
  conv => whnf
  refine Tr.seq ?_
  refine Tr.region layOK ?_
  conv => whnf
  refine Tr.cond ?_
  conv => whnf
  refine condS_bif h (fun hb8 h => ?_) (fun hb8 h => ?_)
  · refine Tr.seq ?_
    refine Tr.region layOK ?_
    conv => whnf
    refine orB_l ?_
    conv => whnf
    refine Tr.ret ?_
    conv => whnf
    cases h
    rfl
  · refine Tr.skip ?_
    conv => whnf
    refine Tr.seq ?_
    refine Tr.region layOK ?_
    conv => whnf
    obtain ⟨⟨r_9, r_10⟩, hc11, h⟩ := bind_some h
    refine PC.ecall (s_ranks_direction_drive_with_ranks_worst_2 f_1 runner_2 r_9 r_10 hc11) (fun rs hrs => ?_)
    subst hrs
    conv => whnf
    refine Tr.seq ?_
    refine Tr.seq ?_
    refine Tr.region layOK ?_
    conv => whnf
    refine Tr.cond ?_
    conv => whnf
    refine condS_bif h (fun hb12 h => ?_) (fun hb12 h => ?_)
    · refine Tr.seq ?_
      refine Tr.region layOK ?_
      conv => whnf
      refine orB_l ?_
      conv => whnf
      refine Tr.ret ?_
      conv => whnf
      cases h
      rfl
    · refine Tr.skip ?_
      conv => whnf
      refine Tr.seq ?_
      refine Tr.region layOK ?_
      conv => whnf
      obtain ⟨r_13, hc14, h⟩ := bind_some h
      refine PC.ecall (s_ranks_direction_history_with_ranks_worst_2 f_1 runner_2 r_9 r_13 hc14) (fun rs hrs => ?_)
      subst hrs
      conv => whnf
      refine Tr.ret ?_
      conv => whnf
      cases h
      rfl

theorem s_ranks_Worst (f_1 : TField) (runner_2 : Int) (r_3 : THistory) (r_4 : Bool) (r_5 : Int) (h : m_ranks_Worst f_1 runner_2 = some (r_3, r_4, r_5)) :
    PC prog 29 [(eTField f_1), (.i .i64 runner_2)] (fun rs => rs = [(eTHistory r_3), (.b r_4), (.i .i64 r_5)]) := by
  refine PC.of_tr (cx := ⟨14, none, lay, 0⟩) layOK func29 rfl rfl rfl rfl rfl (by simp [f29]) ?_
  unfold m_ranks_Worst at h
  refine Tr.seq ?_
  refine Tr.region layOK ?_
  conv => whnf
  refine Tr.seq ?_
  refine Tr.draw (DrawP.seqQ layOK mixed [(7, 1)] [(0, 1), (1, 3), (2, 1), (3, 1), (4, 1), (5, 1), (6, 1), (7, 0), (8, 1), (9, 1)] (by kernel_rfl) ?_)
  conv => whnf
  obtain ⟨_, hc6, h⟩ := bind_some h
  refine ⟨_, (fun H => by (conv => whnf); (refine PC.ecall (s_ranks_worst  hc6) (fun rs hrs => ?_)); (subst hrs); (conv => whnf); (exact ⟨rfl, rfl⟩)), ?_⟩
  conv => whnf
  refine ⟨_, ⟨rfl, rfl, (by (conv => whnf); (exact ⟨rfl, rfl⟩))⟩, ?_⟩
  conv => whnf
  refine ⟨_, (fun H => by (conv => whnf); (exact ⟨rfl, rfl⟩)), ?_⟩
  conv => whnf
  obtain ⟨⟨r_7, r_8, r_9⟩, hc10, h⟩ := bind_some h
  refine ⟨_, (fun H => by (conv => whnf); (refine PC.ecall (s_ranks_extreme_with_ranks_worst_2 f_1 runner_2 r_7 r_8 r_9 hc10) (fun rs hrs => ?_)); (subst hrs); (conv => whnf); (exact ⟨rfl, rfl⟩)), ?_⟩
  conv => whnf
  refine ⟨_, (fun H => by (conv => whnf); (exact ⟨rfl, rfl⟩)), ?_⟩
  conv => whnf
  refine ⟨_, (fun H => by (conv => whnf); (exact ⟨rfl, rfl⟩)), ?_⟩
  conv => whnf
  refine ⟨_, (fun H => by (conv => whnf); (exact ⟨rfl, rfl⟩)), ?_⟩
  conv => whnf
  refine ⟨_, _, (by (conv => whnf); (exact ⟨rfl, rfl⟩)), kp_ok (by repeat (first | exact trivial | refine ⟨trivial, ?_⟩ | refine ⟨rfl, ?_⟩)), ?_⟩
  conv => whnf
  refine ⟨_, (fun H => by (conv => whnf); (exact ⟨rfl, rfl⟩)), ?_⟩
  conv => whnf
  refine ⟨_, (fun H => by (conv => whnf); (exact ⟨rfl, rfl⟩)), ?_⟩
  conv => whnf
  refine Tr.ret ?_
  conv => whnf
  cases h
  rfl

theorem s_stopwatchlaw26_HistoryExtremes (f_1 : TField) (runner_2 : Int) (r_3 : Bool) (h : m_stopwatchlaw26_HistoryExtremes f_1 runner_2 = some r_3) :
    PC prog 10 [(eTField f_1), (.i .i64 runner_2)] (fun rs => rs = [(.b r_3)]) := by
  refine PC.of_tr (cx := ⟨112, none, lay, 0⟩) layOK func10 rfl rfl rfl rfl rfl (by simp [f10]) ?_
  unfold m_stopwatchlaw26_HistoryExtremes at h
  refine Tr.seq ?_
  refine Tr.region layOK ?_
  conv => whnf
  refine Tr.seq ?_
  refine Tr.seq ?_
  refine Tr.region layOK ?_
  conv => whnf
  obtain ⟨r_4, hc5, h⟩ := bind_some h
  refine PC.ecall (s_stopwatchlaw26_sane r_4 hc5) (fun rs hrs => ?_)
  subst hrs
  conv => whnf
  refine Tr.cond ?_
  conv => whnf
  refine condS_bif h (fun hb6 h => ?_) (fun hb6 h => ?_)
  · refine Tr.seq ?_
    refine Tr.region layOK ?_
    conv => whnf
    refine Tr.ret ?_
    conv => whnf
    cases h
    rfl
  · refine Tr.skip ?_
    conv => whnf
    refine Tr.seq ?_
    refine Tr.seq ?_
    refine Tr.region layOK ?_
    conv => whnf
    obtain ⟨r_7, hc8, h⟩ := bind_some h
    refine PC.ecall (s_stopwatchref24_Few f_1 r_7 hc8) (fun rs hrs => ?_)
    subst hrs
    conv => whnf
    refine Tr.cond ?_
    conv => whnf
    refine condS_bif h (fun hb9 h => ?_) (fun hb9 h => ?_)
    · refine Tr.seq ?_
      refine Tr.region layOK ?_
      conv => whnf
      refine Tr.ret ?_
      conv => whnf
      cases h
      rfl
    · refine Tr.skip ?_
      conv => whnf
      refine Tr.seq ?_
      refine Tr.region layOK ?_
      conv => whnf
      obtain ⟨⟨r_10, r_11⟩, hc12, h⟩ := bind_some h
      refine PC.ecall (s_ranks_Of f_1 runner_2 r_10 r_11 hc12) (fun rs hrs => ?_)
      subst hrs
      conv => whnf
      refine Tr.seq ?_
      refine Tr.region layOK ?_
      conv => whnf
      obtain ⟨⟨r_13, r_14, r_15⟩, hc16, h⟩ := bind_some h
      refine PC.ecall (s_ranks_Best f_1 runner_2 r_13 r_14 r_15 hc16) (fun rs hrs => ?_)
      subst hrs
      conv => whnf
      refine Tr.seq ?_
      refine Tr.region layOK ?_
      conv => whnf
      obtain ⟨⟨r_17, r_18, r_19⟩, hc20, h⟩ := bind_some h
      refine PC.ecall (s_ranks_Worst f_1 runner_2 r_17 r_18 r_19 hc20) (fun rs hrs => ?_)
      subst hrs
      conv => whnf
      refine Tr.seq ?_
      refine Tr.seq ?_
      refine Tr.region layOK ?_
      conv => whnf
      refine Tr.cond ?_
      conv => whnf
      refine condS_bif h (fun hb21 h => ?_) (fun hb21 h => ?_)
      · refine Tr.seq ?_
        refine Tr.cutQ1 ([(1, .d (.i .i64 runner_2)), (2, .pt 0 0), (4, .d (.b ((r_15 == r_11) && ((r_19 == r_11) && ((!r_14) && (!r_18)))))), (5, .pt 1 0), (7, .pt 2 0), (8, .d (.b r_14)), (9, .d (.i .i64 r_15)), (10, .pt 3 0), (11, .d (.b r_18)), (12, .d (.i .i64 r_19))]) ([some (.var [.d (.ls (List.map eTSegment f_1.Clocks.Segments)), .d (.ls (List.map (eL eI) f_1.Clocks.Far)), .d (.ls (List.map eTPair f_1.Pairs)), .d (.ls (List.map eTRunner f_1.Runners))]), some (.var [.d (.i .i64 r_10.Bib), .d (.i .i64 r_10.Kind), .d (.i .i64 r_10.Lo), .d (.i .i64 r_10.Hi), .d (.b r_10.Out)]), some (.var [.d (.i .i64 r_13.World), .d (.ls (List.map eI r_13.Offsets)), .d (.ls (List.map eTChoice r_13.Choices))]), some (.var [.d (.i .i64 r_17.World), .d (.ls (List.map eI r_17.Offsets)), .d (.ls (List.map eTChoice r_17.Choices))])]) ?_ (fun T1 H1 hw => ?_)
        · refine Tr.region layOK ?_
          conv => whnf
          refine condS_mk (fun hb23 => ?_) (fun hb23 => ?_)
          · conv => whnf
            refine condS_mk (fun hb24 => ?_) (fun hb24 => ?_)
            · conv => whnf
              refine condS_mk (fun hb25 => ?_) (fun hb25 => ?_)
              · conv => whnf
                exact Wk.mk2 [0, 1, 2, 3] 4 rfl rfl (by decide) rfl ⟨⟨rfl, rfl⟩, ⟨rfl, rfl⟩, ⟨rfl, rfl⟩, ⟨rfl, rfl⟩, trivial⟩ ⟨⟨rfl, rfl⟩, ⟨rfl, rfl⟩, ⟨rfl, (by first | rfl | (simp only [↓hb6, ↓hb9, ↓hb21, ↓hb23, ↓hb24, ↓hb25, cond_true, cond_false, Bool.true_or, Bool.or_true, Bool.false_or, Bool.or_false, Bool.true_and, Bool.and_true, Bool.false_and, Bool.and_false, Bool.not_true, Bool.not_false]; done) | (simp only [↓hb6, ↓hb9, ↓hb21, ↓hb23, ↓hb24, ↓hb25, cond_true, cond_false, Bool.true_or, Bool.or_true, Bool.false_or, Bool.or_false, Bool.true_and, Bool.and_true, Bool.false_and, Bool.and_false, Bool.not_true, Bool.not_false]; rfl))⟩, ⟨rfl, rfl⟩, ⟨rfl, rfl⟩, ⟨rfl, rfl⟩, ⟨rfl, rfl⟩, ⟨rfl, rfl⟩, ⟨rfl, rfl⟩, ⟨rfl, rfl⟩, trivial⟩
              · conv => whnf
                exact Wk.mk2 [0, 1, 2, 3] 4 rfl rfl (by decide) rfl ⟨⟨rfl, rfl⟩, ⟨rfl, rfl⟩, ⟨rfl, rfl⟩, ⟨rfl, rfl⟩, trivial⟩ ⟨⟨rfl, rfl⟩, ⟨rfl, rfl⟩, ⟨rfl, (by first | rfl | (simp only [↓hb6, ↓hb9, ↓hb21, ↓hb23, ↓hb24, ↓hb25, cond_true, cond_false, Bool.true_or, Bool.or_true, Bool.false_or, Bool.or_false, Bool.true_and, Bool.and_true, Bool.false_and, Bool.and_false, Bool.not_true, Bool.not_false]; done) | (simp only [↓hb6, ↓hb9, ↓hb21, ↓hb23, ↓hb24, ↓hb25, cond_true, cond_false, Bool.true_or, Bool.or_true, Bool.false_or, Bool.or_false, Bool.true_and, Bool.and_true, Bool.false_and, Bool.and_false, Bool.not_true, Bool.not_false]; rfl))⟩, ⟨rfl, rfl⟩, ⟨rfl, rfl⟩, ⟨rfl, rfl⟩, ⟨rfl, rfl⟩, ⟨rfl, rfl⟩, ⟨rfl, rfl⟩, ⟨rfl, rfl⟩, trivial⟩
            · conv => whnf
              exact Wk.mk2 [0, 1, 2, 3] 4 rfl rfl (by decide) rfl ⟨⟨rfl, rfl⟩, ⟨rfl, rfl⟩, ⟨rfl, rfl⟩, ⟨rfl, rfl⟩, trivial⟩ ⟨⟨rfl, rfl⟩, ⟨rfl, rfl⟩, ⟨rfl, (by first | rfl | (simp only [↓hb6, ↓hb9, ↓hb21, ↓hb23, ↓hb24, cond_true, cond_false, Bool.true_or, Bool.or_true, Bool.false_or, Bool.or_false, Bool.true_and, Bool.and_true, Bool.false_and, Bool.and_false, Bool.not_true, Bool.not_false]; done) | (simp only [↓hb6, ↓hb9, ↓hb21, ↓hb23, ↓hb24, cond_true, cond_false, Bool.true_or, Bool.or_true, Bool.false_or, Bool.or_false, Bool.true_and, Bool.and_true, Bool.false_and, Bool.and_false, Bool.not_true, Bool.not_false]; rfl))⟩, ⟨rfl, rfl⟩, ⟨rfl, rfl⟩, ⟨rfl, rfl⟩, ⟨rfl, rfl⟩, ⟨rfl, rfl⟩, ⟨rfl, rfl⟩, ⟨rfl, rfl⟩, trivial⟩
          · conv => whnf
            exact Wk.mk2 [0, 1, 2, 3] 4 rfl rfl (by decide) rfl ⟨⟨rfl, rfl⟩, ⟨rfl, rfl⟩, ⟨rfl, rfl⟩, ⟨rfl, rfl⟩, trivial⟩ ⟨⟨rfl, rfl⟩, ⟨rfl, rfl⟩, ⟨rfl, (by first | rfl | (simp only [↓hb6, ↓hb9, ↓hb21, ↓hb23, cond_true, cond_false, Bool.true_or, Bool.or_true, Bool.false_or, Bool.or_false, Bool.true_and, Bool.and_true, Bool.false_and, Bool.and_false, Bool.not_true, Bool.not_false]; done) | (simp only [↓hb6, ↓hb9, ↓hb21, ↓hb23, cond_true, cond_false, Bool.true_or, Bool.or_true, Bool.false_or, Bool.or_false, Bool.true_and, Bool.and_true, Bool.false_and, Bool.and_false, Bool.not_true, Bool.not_false]; rfl))⟩, ⟨rfl, rfl⟩, ⟨rfl, rfl⟩, ⟨rfl, rfl⟩, ⟨rfl, rfl⟩, ⟨rfl, rfl⟩, ⟨rfl, rfl⟩, ⟨rfl, rfl⟩, trivial⟩
        · conv => whnf
          refine Tr.weak hw ?_
          refine Tr.ret ?_
          conv => whnf
          cases h
          rfl
      · refine Tr.skip ?_
        conv => whnf
        refine Tr.seq ?_
        refine Tr.seq ?_
        refine Tr.cutQ1 ([(1, .d (.i .i64 runner_2)), (2, .pt 0 0), (4, .d (.b false)), (5, .pt 1 0), (7, .pt 2 0), (8, .d (.b r_14)), (10, .pt 3 0), (77, .d (.b ((r_15 != 0) || ((r_19 != 0) || ((!(r_14 == r_18)) || (!(r_14 == (r_10.Kind != 3))))))))]) ([some (.var [.d (.ls (List.map eTSegment f_1.Clocks.Segments)), .d (.ls (List.map (eL eI) f_1.Clocks.Far)), .d (.ls (List.map eTPair f_1.Pairs)), .d (.ls (List.map eTRunner f_1.Runners))]), some (.var [.d (.i .i64 r_10.Bib), .d (.i .i64 r_10.Kind), .d (.i .i64 r_10.Lo), .d (.i .i64 r_10.Hi), .d (.b r_10.Out)]), some (.var [.d (.i .i64 r_13.World), .d (.ls (List.map eI r_13.Offsets)), .d (.ls (List.map eTChoice r_13.Choices))]), some (.var [.d (.i .i64 r_17.World), .d (.ls (List.map eI r_17.Offsets)), .d (.ls (List.map eTChoice r_17.Choices))])]) ?_ (fun T1 H1 hw => ?_)
        · refine Tr.region layOK ?_
          conv => whnf
          refine condS_mk (fun hb27 => ?_) (fun hb27 => ?_)
          · conv => whnf
            exact Wk.mk2 [0, 1, 2, 3] 4 rfl rfl (by decide) rfl ⟨⟨rfl, rfl⟩, ⟨rfl, rfl⟩, ⟨rfl, rfl⟩, ⟨rfl, rfl⟩, trivial⟩ ⟨⟨rfl, rfl⟩, ⟨rfl, rfl⟩, ⟨rfl, rfl⟩, ⟨rfl, rfl⟩, ⟨rfl, rfl⟩, ⟨rfl, rfl⟩, ⟨rfl, rfl⟩, ⟨rfl, (by first | rfl | (simp only [↓hb6, ↓hb9, ↓hb21, ↓hb27, cond_true, cond_false, Bool.true_or, Bool.or_true, Bool.false_or, Bool.or_false, Bool.true_and, Bool.and_true, Bool.false_and, Bool.and_false, Bool.not_true, Bool.not_false]; done) | (simp only [↓hb6, ↓hb9, ↓hb21, ↓hb27, cond_true, cond_false, Bool.true_or, Bool.or_true, Bool.false_or, Bool.or_false, Bool.true_and, Bool.and_true, Bool.false_and, Bool.and_false, Bool.not_true, Bool.not_false]; rfl))⟩, trivial⟩
          · conv => whnf
            refine condS_mk (fun hb28 => ?_) (fun hb28 => ?_)
            · conv => whnf
              exact Wk.mk2 [0, 1, 2, 3] 4 rfl rfl (by decide) rfl ⟨⟨rfl, rfl⟩, ⟨rfl, rfl⟩, ⟨rfl, rfl⟩, ⟨rfl, rfl⟩, trivial⟩ ⟨⟨rfl, rfl⟩, ⟨rfl, rfl⟩, ⟨rfl, rfl⟩, ⟨rfl, rfl⟩, ⟨rfl, rfl⟩, ⟨rfl, rfl⟩, ⟨rfl, rfl⟩, ⟨rfl, (by first | rfl | (simp only [↓hb6, ↓hb9, ↓hb21, ↓hb27, ↓hb28, cond_true, cond_false, Bool.true_or, Bool.or_true, Bool.false_or, Bool.or_false, Bool.true_and, Bool.and_true, Bool.false_and, Bool.and_false, Bool.not_true, Bool.not_false]; done) | (simp only [↓hb6, ↓hb9, ↓hb21, ↓hb27, ↓hb28, cond_true, cond_false, Bool.true_or, Bool.or_true, Bool.false_or, Bool.or_false, Bool.true_and, Bool.and_true, Bool.false_and, Bool.and_false, Bool.not_true, Bool.not_false]; rfl))⟩, trivial⟩
            · conv => whnf
              refine condS_mk (fun hb29 => ?_) (fun hb29 => ?_)
              · conv => whnf
                exact Wk.mk2 [0, 1, 2, 3] 4 rfl rfl (by decide) rfl ⟨⟨rfl, rfl⟩, ⟨rfl, rfl⟩, ⟨rfl, rfl⟩, ⟨rfl, rfl⟩, trivial⟩ ⟨⟨rfl, rfl⟩, ⟨rfl, rfl⟩, ⟨rfl, rfl⟩, ⟨rfl, rfl⟩, ⟨rfl, rfl⟩, ⟨rfl, rfl⟩, ⟨rfl, rfl⟩, ⟨rfl, (by first | rfl | (simp only [↓hb6, ↓hb9, ↓hb21, ↓hb27, ↓hb28, ↓hb29, cond_true, cond_false, Bool.true_or, Bool.or_true, Bool.false_or, Bool.or_false, Bool.true_and, Bool.and_true, Bool.false_and, Bool.and_false, Bool.not_true, Bool.not_false]; done) | (simp only [↓hb6, ↓hb9, ↓hb21, ↓hb27, ↓hb28, ↓hb29, cond_true, cond_false, Bool.true_or, Bool.or_true, Bool.false_or, Bool.or_false, Bool.true_and, Bool.and_true, Bool.false_and, Bool.and_false, Bool.not_true, Bool.not_false]; rfl))⟩, trivial⟩
              · conv => whnf
                exact Wk.mk2 [0, 1, 2, 3] 4 rfl rfl (by decide) rfl ⟨⟨rfl, rfl⟩, ⟨rfl, rfl⟩, ⟨rfl, rfl⟩, ⟨rfl, rfl⟩, trivial⟩ ⟨⟨rfl, rfl⟩, ⟨rfl, rfl⟩, ⟨rfl, rfl⟩, ⟨rfl, rfl⟩, ⟨rfl, rfl⟩, ⟨rfl, rfl⟩, ⟨rfl, rfl⟩, ⟨rfl, (by first | rfl | (simp only [↓hb6, ↓hb9, ↓hb21, ↓hb27, ↓hb28, ↓hb29, cond_true, cond_false, Bool.true_or, Bool.or_true, Bool.false_or, Bool.or_false, Bool.true_and, Bool.and_true, Bool.false_and, Bool.and_false, Bool.not_true, Bool.not_false]; done) | (simp only [↓hb6, ↓hb9, ↓hb21, ↓hb27, ↓hb28, ↓hb29, cond_true, cond_false, Bool.true_or, Bool.or_true, Bool.false_or, Bool.or_false, Bool.true_and, Bool.and_true, Bool.false_and, Bool.and_false, Bool.not_true, Bool.not_false]; rfl))⟩, trivial⟩
        · conv => whnf
          refine Tr.weak hw ?_
          refine Tr.cond ?_
          conv => whnf
          refine condS_bif h (fun hb30 h => ?_) (fun hb30 h => ?_)
          · refine Tr.seq ?_
            refine Tr.region layOK ?_
            conv => whnf
            refine Tr.ret ?_
            conv => whnf
            cases h
            rfl
          · refine Tr.skip ?_
            conv => whnf
            refine Tr.seq ?_
            refine Tr.seq ?_
            refine Tr.region layOK ?_
            conv => whnf
            refine Tr.cond ?_
            conv => whnf
            refine condS_bif h (fun hb31 h => ?_) (fun hb31 h => ?_)
            · refine Tr.seq ?_
              refine Tr.region layOK ?_
              conv => whnf
              refine Tr.ret ?_
              conv => whnf
              cases h
              rfl
            · refine Tr.skip ?_
              conv => whnf
              refine Tr.seq ?_
              refine Tr.region layOK ?_
              conv => whnf
              obtain ⟨⟨r_32, r_33⟩, hc34, h⟩ := bind_some h
              refine PC.ecall (s_history_Rank f_1 r_13 runner_2 r_32 r_33 hc34) (fun rs hrs => ?_)
              subst hrs
              conv => whnf
              refine Tr.seq ?_
              refine Tr.region layOK ?_
              conv => whnf
              obtain ⟨⟨r_35, r_36⟩, hc37, h⟩ := bind_some h
              refine PC.ecall (s_history_Rank f_1 r_17 runner_2 r_35 r_36 hc37) (fun rs hrs => ?_)
              subst hrs
              conv => whnf
              refine Tr.seq ?_
              refine Tr.cutQ1 ([(4, .d (.b ((r_33 == 0) && ((r_36 == 0) && ((r_32 == r_10.Lo) && (r_35 == r_10.Hi))))))]) ([]) ?_ (fun T1 H1 hw => ?_)
              · refine Tr.region layOK ?_
                conv => whnf
                refine condS_mk (fun hb39 => ?_) (fun hb39 => ?_)
                · conv => whnf
                  refine condS_mk (fun hb40 => ?_) (fun hb40 => ?_)
                  · conv => whnf
                    refine condS_mk (fun hb41 => ?_) (fun hb41 => ?_)
                    · conv => whnf
                      exact Wk.mk2 [] 4 rfl rfl (by decide) rfl trivial ⟨⟨rfl, (by first | rfl | (simp only [↓hb6, ↓hb9, ↓hb21, ↓hb30, ↓hb31, ↓hb39, ↓hb40, ↓hb41, cond_true, cond_false, Bool.true_or, Bool.or_true, Bool.false_or, Bool.or_false, Bool.true_and, Bool.and_true, Bool.false_and, Bool.and_false, Bool.not_true, Bool.not_false]; done) | (simp only [↓hb6, ↓hb9, ↓hb21, ↓hb30, ↓hb31, ↓hb39, ↓hb40, ↓hb41, cond_true, cond_false, Bool.true_or, Bool.or_true, Bool.false_or, Bool.or_false, Bool.true_and, Bool.and_true, Bool.false_and, Bool.and_false, Bool.not_true, Bool.not_false]; rfl))⟩, trivial⟩
                    · conv => whnf
                      exact Wk.mk2 [] 4 rfl rfl (by decide) rfl trivial ⟨⟨rfl, (by first | rfl | (simp only [↓hb6, ↓hb9, ↓hb21, ↓hb30, ↓hb31, ↓hb39, ↓hb40, ↓hb41, cond_true, cond_false, Bool.true_or, Bool.or_true, Bool.false_or, Bool.or_false, Bool.true_and, Bool.and_true, Bool.false_and, Bool.and_false, Bool.not_true, Bool.not_false]; done) | (simp only [↓hb6, ↓hb9, ↓hb21, ↓hb30, ↓hb31, ↓hb39, ↓hb40, ↓hb41, cond_true, cond_false, Bool.true_or, Bool.or_true, Bool.false_or, Bool.or_false, Bool.true_and, Bool.and_true, Bool.false_and, Bool.and_false, Bool.not_true, Bool.not_false]; rfl))⟩, trivial⟩
                  · conv => whnf
                    exact Wk.mk2 [] 4 rfl rfl (by decide) rfl trivial ⟨⟨rfl, (by first | rfl | (simp only [↓hb6, ↓hb9, ↓hb21, ↓hb30, ↓hb31, ↓hb39, ↓hb40, cond_true, cond_false, Bool.true_or, Bool.or_true, Bool.false_or, Bool.or_false, Bool.true_and, Bool.and_true, Bool.false_and, Bool.and_false, Bool.not_true, Bool.not_false]; done) | (simp only [↓hb6, ↓hb9, ↓hb21, ↓hb30, ↓hb31, ↓hb39, ↓hb40, cond_true, cond_false, Bool.true_or, Bool.or_true, Bool.false_or, Bool.or_false, Bool.true_and, Bool.and_true, Bool.false_and, Bool.and_false, Bool.not_true, Bool.not_false]; rfl))⟩, trivial⟩
                · conv => whnf
                  exact Wk.mk2 [] 4 rfl rfl (by decide) rfl trivial ⟨⟨rfl, (by first | rfl | (simp only [↓hb6, ↓hb9, ↓hb21, ↓hb30, ↓hb31, ↓hb39, cond_true, cond_false, Bool.true_or, Bool.or_true, Bool.false_or, Bool.or_false, Bool.true_and, Bool.and_true, Bool.false_and, Bool.and_false, Bool.not_true, Bool.not_false]; done) | (simp only [↓hb6, ↓hb9, ↓hb21, ↓hb30, ↓hb31, ↓hb39, cond_true, cond_false, Bool.true_or, Bool.or_true, Bool.false_or, Bool.or_false, Bool.true_and, Bool.and_true, Bool.false_and, Bool.and_false, Bool.not_true, Bool.not_false]; rfl))⟩, trivial⟩
              · conv => whnf
                refine Tr.weak hw ?_
                refine Tr.ret ?_
                conv => whnf
                cases h
                rfl
end Go.Proofs.Try
