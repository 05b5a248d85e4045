/- Contracts of functions, by program (gen.py). No condition. -/
import Derived.Test.YtolclhjojfcipaaGreatZL
import Derived.Test.YtolclhjojfcipaaGreatZM
import Derived.Test.YtolclhjojfcipaaGreatZS5
namespace Go.Proofs.Tryz
open Go Go.Abs Go.Stop
set_option maxRecDepth 8000
set_option linter.unusedVariables false
set_option linter.unusedSimpArgs false
theorem P124 (f_1 : TField) (runner_2 : Int) (p_3 : Tranks_place) (r_4 : THistory) (h : M124 f_1 runner_2 p_3 = some r_4) :
    PC prog 100 [(.ag [(.fn 102 []), (.fn 101 []), (.fn 105 []), (.fn 106 [])]), (eTField f_1), (.i .i64 runner_2), (eTranks_place p_3)] (fun rs => rs = [(eTHistory r_4)]) := by
 refine PC.of_tr (cx := ⟨123, none, lay, 0⟩) layOK func100 rfl rfl rfl rfl rfl (by simp [f100]) ?_
 unfold M124 at h
 refine Tr.seq ?_
 refine rg ?_
 conv => whnf
 refine Tr.seq ?_
 refine rg ?_
 conv => whnf
 refine orB_l ?_
 conv => whnf
 refine Tr.seq ?_
 refine Tr.draw (DrawP.seqQ layOK mixed [(15, 5)] [(0, 4), (1, 4), (2, 1), (3, 2), (4, 2), (5, 2), (6, 5), (7, 5), (8, 2), (9, 2), (10, 5), (11, 5), (12, 2), (13, 2), (14, 0), (15, 0)] (by kernel_rfl) ?_)
 conv => whnf
 refine ⟨_, ⟨rfl, rfl, rr⟩, ?_⟩
 conv => whnf
 refine ⟨_, ⟨rfl, rfl, rr⟩, ?_⟩
 conv => whnf
 refine ⟨_, (fun _ => rr), ?_⟩
 conv => whnf
 obtain ⟨x_5, hx_5, h⟩ := bS h
 refine ⟨_, ⟨rfl, rfl, (by (conv => whnf); (refine ixP_of hx_5 ?_); (conv => whnf); (exact rr))⟩, ?_⟩
 conv => whnf
 refine ⟨_, ⟨rfl, rfl, rr⟩, ?_⟩
 conv => whnf
 refine ⟨_, ⟨rfl, rfl, rr⟩, ?_⟩
 conv => whnf
 refine ⟨_, ⟨rfl, rfl, rr⟩, ?_⟩
 conv => whnf
 refine ⟨_, ⟨rfl, rfl, rr⟩, ?_⟩
 conv => whnf
 obtain ⟨x_6, hx_6, h⟩ := bS h
 refine ⟨_, ⟨rfl, rfl, (by (conv => whnf); (refine ixP_of hx_6 ?_); (conv => whnf); (exact rr))⟩, ?_⟩
 conv => whnf
 refine ⟨_, ⟨rfl, rfl, rr⟩, ?_⟩
 conv => whnf
 refine ⟨_, ⟨rfl, rfl, rr⟩, ?_⟩
 conv => whnf
 refine ⟨_, ⟨rfl, rfl, rr⟩, ?_⟩
 conv => whnf
 obtain ⟨x_7, hx_7, h⟩ := bS h
 refine ⟨_, ⟨rfl, rfl, (by (conv => whnf); (refine ixP_of hx_7 ?_); (conv => whnf); (exact rr))⟩, ?_⟩
 conv => whnf
 refine ⟨_, ⟨rfl, rfl, rr⟩, ?_⟩
 conv => whnf
 refine ⟨_, _, rr, kp_ok (by repeat (first | exact trivial | refine ⟨trivial, ?_⟩ | refine ⟨rfl, ?_⟩)), ?_⟩
 conv => whnf
 refine ⟨_, _, rr, kp_ok (by repeat (first | exact trivial | refine ⟨trivial, ?_⟩ | refine ⟨rfl, ?_⟩)), ?_⟩
 conv => whnf
 refine Tr.seq ?_
 refine rg ?_
 conv => whnf
 refine arS_raw ?_
 conv => whnf
 refine Tr.seq ?_
 refine rg ?_
 conv => whnf
 refine Tr.seq ?_
 refine Tr.seq ?_
 refine rg ?_
 conv => whnf
 refine Tr.cond ?_
 conv => whnf
 refine cB h (fun hb8 h => ?_) (fun hb8 h => ?_)
 ·refine rg ?_
  conv => whnf
  obtain ⟨r_9, hc10, h⟩ := bS h
  refine PC.ecall (P82 f_1.Clocks.Far ((w64 (x_7.Seg + 1))) 0 r_9 hc10) (fun rs hrs => ?_)
  subst hrs
  conv => whnf
  refine arS_raw ?_
  conv => whnf
  refine Tr.seq ?_
  refine rg ?_
  conv => whnf
  refine Tr.seq ?_
  refine Tr.seq ?_
  refine rg ?_
  conv => whnf
  refine lnS_map ?_
  conv => whnf
  obtain ⟨l_16, hv23, h⟩ := bS h
  refine Tr.cutQ1 ([(2, (dI runner_2)), (4, .pt 0 0), (5, .pt 1 0), (7, .pt 2 0), (8, .pt 3 0), (9, .pt 4 0), (10, .pt 5 0)]) ([some (.var [.d (.fn 102 []), .d (.fn 101 []), .d (.fn 105 []), .d (.fn 106 [])]), some (.var [.d (.ls (List.map eTSegment f_1.Clocks.Segments)), .d (.ls (List.map (eL eI) f_1.Clocks.Far)), .d (.ls (List.map eTPair f_1.Pairs)), .d (.ls (List.map eTRunner f_1.Runners))]), some (.var [(dI p_3.world), (dI p_3.outcome), (dI p_3.rank)]), some (.var [(dI 0), .nsl, .nsl]), some (.var [(dI p_3.world), .sl 6 1 0 (List.length l_16), .nsl]), some (.var [.d (.b x_7.Out), (dI x_7.Seg), (dI x_7.Lo), (dI x_7.Hi)]), some (.arr 1 (List.map .d (List.map eI l_16)))]) ?_ (fun T1 H1 hw => ?_)
  ·replace h := hv23; clear hv23
   refine Tr.block ?_
   refine Tr.loopM (σ := Int × List Int) (fun n s => M120 f_1 x_7 r_9 n s.1 s.2) l_16 (fun s => ([(2, (dI runner_2)), (4, .pt 0 0), (5, .pt 1 0), (7, .pt 2 0), (8, .pt 3 0), (9, .pt 4 0), (10, .pt 5 0), (13, .fn 131 [.pt 6 0, .pt 0 0, .pt 1 0, .pt 7 0]), (54, (dI (((f_1.Clocks.Segments).length : Int)))), (55, (dI s.1))], [some (.var [.d (.fn 102 []), .d (.fn 101 []), .d (.fn 105 []), .d (.fn 106 [])]), some (.var [.d (.ls (List.map eTSegment f_1.Clocks.Segments)), .d (.ls (List.map (eL eI) f_1.Clocks.Far)), .d (.ls (List.map eTPair f_1.Pairs)), .d (.ls (List.map eTRunner f_1.Runners))]), some (.var [(dI p_3.world), (dI p_3.outcome), (dI p_3.rank)]), some (.var [(dI 0), .nsl, .nsl]), some (.var [(dI p_3.world), .sl 8 1 0 (List.length s.2), .nsl]), some (.var [.d (.b x_7.Out), (dI x_7.Seg), (dI x_7.Lo), (dI x_7.Hi)]), some (.var [(dI (w64 (0 - r_9)))]), some (.var [(dI (w64 (x_7.Seg + 1)))]), some (.arr 1 (List.map .d (List.map eI s.2)))])) (((((f_1.Clocks.Segments).length : Int)) - 0 : Int).toNat + 1) (0, (([] : List Int))) h (fun s => rfl) (Wk.mk2 [0, 1, 2, 3, 4, 5, 7, 6, 8] 8 rfl rfl (by decide) rfl ⟨rr, rr, rr, rr, ⟨rfl, (by first | rfl | (simp only [↓hb8, bl]; done) | (simp only [↓hb8, bl]; rfl))⟩, rr, rr, rr, rfl, trivial⟩ ⟨rr, rr, rr, rr, rr, rr, rr, ⟨rfl, (by first | rfl | (simp only [↓hb8, bl]; done) | (simp only [↓hb8, bl]; rfl))⟩, rr, rr, trivial⟩) ?_
   clear h
   rintro n_15 ⟨v_13, l_14⟩ h
   replace h : M120 f_1 x_7 r_9 (n_15 + 1) v_13 l_14 = some l_16 := h
   rw [M120] at h
   refine Tr.seq ?_
   refine rg ?_
   conv => whnf
   refine Tr.seq ?_
   refine Tr.cond ?_
   conv => whnf
   refine cB h (fun hb19 h => ?_) (fun hb19 h => ?_)
   ·refine Tr.skip ?_
    conv => whnf
    refine Tr.seq ?_
    refine Tr.block ?_
    refine Tr.seq ?_
    refine rg ?_
    conv => whnf
    refine Tr.draw (DrawP.seqQ layOK mixed [(7, 8), (9, 4)] [(0, 7), (1, 7), (2, 1), (3, 1), (4, 1), (5, 0), (6, 1), (7, 0), (8, 7), (9, 0)] (by kernel_rfl) ?_)
    conv => whnf
    refine ⟨_, ⟨rfl, rfl, rr⟩, ?_⟩
    conv => whnf
    refine ⟨_, ⟨rfl, rfl, rr⟩, ?_⟩
    conv => whnf
    refine ⟨_, (fun _ => rr), ?_⟩
    conv => whnf
    refine ⟨_, (fun _ => rr), ?_⟩
    conv => whnf
    refine ⟨_, (fun _ => by (conv => whnf); (refine arS_raw ?_); (conv => whnf); (exact rr)), ?_⟩
    conv => whnf
    obtain ⟨r_20, hc21, h⟩ := bS h
    refine ⟨_, _, (by (conv => whnf); (refine PC.ecall_lend ?_ ⟨_, _, func131, rfl, rfl⟩); (conv => whnf); (refine ⟨_, P119 ((w64 (v_13 + 1))) ((w64 (0 - r_9))) f_1.Clocks.Segments f_1.Clocks.Far f_1.Pairs f_1.Runners ((w64 (x_7.Seg + 1))) r_20 hc21, fun rs hrs => ?_⟩); (subst hrs); (refine ⟨rfl, ?_⟩); (conv => whnf); (exact rr)), kp_ok (by repeat (first | exact trivial | refine ⟨trivial, ?_⟩ | refine ⟨rfl, ?_⟩)), ?_⟩
    conv => whnf
    refine ⟨_, (fun _ => by (conv => whnf); (refine orB_r ?_); (conv => whnf); (exact rr)), ?_⟩
    conv => whnf
    obtain ⟨l_22, hl_22, h⟩ := bS h
    refine ⟨_, _, (by (conv => whnf); (refine frP_no ?_); (conv => whnf); (refine eqS_mk (by first | rfl | simp) ?_); (conv => whnf); (refine apS_of hl_22 (aQ (f := eI) (l := (([r_20] : List Int))) fun _ => rfl) (by first | rfl | simp) (by first | rfl | simp) (fun he => ?_)); (conv => whnf); (refine rS (es' := List.map .d (List.map eI l_22)) (n' := List.length l_22) (by subst he; simp only [List.map_append, List.map_cons, List.map_nil, List.nil_append]; first | done | rfl) (by subst he; simp <;> omega) ?_); (clear he); (conv => whnf); (exact rr)), kp_ok (by repeat (first | exact trivial | refine ⟨trivial, ?_⟩ | refine ⟨rfl, ?_⟩)), ?_⟩
    conv => whnf
    refine ⟨_, ⟨rfl, rfl, rr⟩, ?_⟩
    conv => whnf
    refine ⟨_, _, (by (conv => whnf); (refine orB_l ?_); (conv => whnf); (exact rr)), kp_ok (by repeat (first | exact trivial | refine ⟨trivial, ?_⟩ | refine ⟨rfl, ?_⟩)), ?_⟩
    conv => whnf
    refine rg ?_
    conv => whnf
    refine arS_raw ?_
    conv => whnf
    refine ⟨((w64 (v_13 + 1)), l_22), h, ?_⟩
    exact Wk.mk2 [0, 1, 2, 3, 4, 5, 6, 7, 9] 10 rfl rfl (by decide) rfl ⟨rr, rr, rr, rr, ⟨rfl, (by first | rfl | (simp only [↓hb8, ↓hb19, bl]; done) | (simp only [↓hb8, ↓hb19, bl]; rfl))⟩, rr, rr, rr, daS_d rfl, trivial⟩ ⟨rr, rr, rr, rr, rr, rr, rr, rr, rr, rr, trivial⟩
   refine Tr.exit ?_
   conv => whnf
   cases h
   exact Wk.mk2 [0, 1, 2, 3, 4, 5, 8] 9 rfl rfl (by decide) rfl ⟨rr, rr, rr, rr, ⟨rfl, (by first | rfl | (simp only [↓hb8, ↓hb19, bl]; done) | (simp only [↓hb8, ↓hb19, bl]; rfl))⟩, rr, daS_d rfl, trivial⟩ ⟨rr, rr, rr, rr, rr, rr, rr, trivial⟩
  clear hv23
  conv => whnf
  refine Tr.weak hw ?_
  refine Tr.seq ?_
  refine Tr.seq ?_
  refine rg ?_
  conv => whnf
  refine lnS_map ?_
  conv => whnf
  obtain ⟨l_29, hv54, h⟩ := bS h
  refine Tr.cutQ1 ([(8, .pt 0 0), (9, .pt 1 0)]) ([some (.var [(dI 0), .nsl, .nsl]), some (.var [(dI p_3.world), .sl 2 1 0 (List.length l_16), .sl 3 2 0 (List.length l_29)]), some (.arr 1 (List.map .d (List.map eI l_16))), some (.arr 2 (List.map .d (List.map eTChoice l_29)))]) ?_ (fun T1 H1 hw => ?_)
  ·replace h := hv54; clear hv54
   refine Tr.block ?_
   refine Tr.loopM (σ := Int × List TChoice) (fun n s => M121 f_1 runner_2 p_3 x_7 n s.1 s.2) l_29 (fun s => ([(2, (dI runner_2)), (4, .pt 0 0), (5, .pt 1 0), (7, .pt 2 0), (8, .pt 3 0), (9, .pt 4 0), (10, .pt 5 0), (69, .d (.ls (List.map eTRunner f_1.Runners))), (70, (dI (((f_1.Runners).length : Int)))), (71, (dI s.1))], [some (.var [.d (.fn 102 []), .d (.fn 101 []), .d (.fn 105 []), .d (.fn 106 [])]), some (.var [.d (.ls (List.map eTSegment f_1.Clocks.Segments)), .d (.ls (List.map (eL eI) f_1.Clocks.Far)), .d (.ls (List.map eTPair f_1.Pairs)), .d (.ls (List.map eTRunner f_1.Runners))]), some (.var [(dI p_3.world), (dI p_3.outcome), (dI p_3.rank)]), some (.var [(dI 0), .nsl, .nsl]), some (.var [(dI p_3.world), .sl 6 1 0 (List.length l_16), .sl 7 2 0 (List.length s.2)]), some (.var [.d (.b x_7.Out), (dI x_7.Seg), (dI x_7.Lo), (dI x_7.Hi)]), some (.arr 1 (List.map .d (List.map eI l_16))), some (.arr 2 (List.map .d (List.map eTChoice s.2)))])) (((((f_1.Runners).length : Int)) - 0 : Int).toNat + 1) (0, (([] : List TChoice))) h (fun s => rfl) (Wk.mk2 [0, 1, 2, 3, 4, 5, 6, 7] 7 rfl rfl (by decide) rfl ⟨rr, rr, rr, rr, ⟨rfl, (by first | rfl | (simp only [↓hb8, bl]; done) | (simp only [↓hb8, bl]; rfl))⟩, rr, daS_d rfl, rfl, trivial⟩ ⟨rr, rr, rr, rr, rr, rr, rr, rr, rr, rr, trivial⟩) ?_
   clear h
   rintro n_28 ⟨v_26, l_27⟩ h
   replace h : M121 f_1 runner_2 p_3 x_7 (n_28 + 1) v_26 l_27 = some l_29 := h
   rw [M121] at h
   refine Tr.seq ?_
   refine rg ?_
   conv => whnf
   refine Tr.seq ?_
   refine Tr.cond ?_
   conv => whnf
   refine cB h (fun hb32 h => ?_) (fun hb32 h => ?_)
   ·refine Tr.skip ?_
    conv => whnf
    refine Tr.seq ?_
    obtain ⟨l_33, hv34, h⟩ := bS h
    refine Tr.cutQ1 ([(2, (dI runner_2)), (4, .pt 0 0), (5, .pt 1 0), (7, .pt 2 0), (8, .pt 3 0), (9, .pt 4 0), (10, .pt 5 0), (69, .d (.ls (List.map eTRunner f_1.Runners))), (70, (dI (((f_1.Runners).length : Int)))), (71, (dI v_26))]) ([some (.var [.d (.fn 102 []), .d (.fn 101 []), .d (.fn 105 []), .d (.fn 106 [])]), some (.var [.d (.ls (List.map eTSegment f_1.Clocks.Segments)), .d (.ls (List.map (eL eI) f_1.Clocks.Far)), .d (.ls (List.map eTPair f_1.Pairs)), .d (.ls (List.map eTRunner f_1.Runners))]), some (.var [(dI p_3.world), (dI p_3.outcome), (dI p_3.rank)]), some (.var [(dI 0), .nsl, .nsl]), some (.var [(dI p_3.world), .sl 6 1 0 (List.length l_16), .sl 7 2 0 (List.length l_33)]), some (.var [.d (.b x_7.Out), (dI x_7.Seg), (dI x_7.Lo), (dI x_7.Hi)]), some (.arr 1 (List.map .d (List.map eI l_16))), some (.arr 2 (List.map .d (List.map eTChoice l_33)))]) ?_ (fun T1 H1 hw => ?_)
    ·replace h := hv34; clear hv34
     refine Tr.block ?_
     refine Tr.seq ?_
     refine rg ?_
     conv => whnf
     obtain ⟨x_35, hx_35, h⟩ := bS h
     refine ixP_of hx_35 ?_
     conv => whnf
     refine Tr.seq ?_
     refine rg ?_
     conv => whnf
     refine Tr.seq ?_
     refine rg ?_
     conv => whnf
     refine Tr.seq ?_
     refine Tr.seq ?_
     refine rg ?_
     conv => whnf
     refine Tr.cond ?_
     conv => whnf
     refine cB h (fun hb36 h => ?_) (fun hb36 h => ?_)
     ·refine Tr.seq ?_
      refine rg ?_
      conv => whnf
      obtain ⟨⟨r_37, r_38⟩, hc39, h⟩ := bS h
      refine PC.ecall (P86 f_1 p_3.world runner_2 x_7 v_26 r_37 r_38 hc39) (fun rs hrs => ?_)
      subst hrs
      conv => whnf
      refine rg ?_
      conv => whnf
      refine Tr.seq ?_
      refine Tr.seq ?_
      refine Tr.draw (DrawP.seqQ layOK mixed [(11, 10)] [(0, 11), (1, 11), (2, 5), (3, 5), (4, 2), (5, 2), (6, 12), (7, 12), (8, 2), (9, 2), (10, 0), (11, 0)] (by kernel_rfl) ?_)
      conv => whnf
      refine ⟨_, ⟨rfl, rfl, rr⟩, ?_⟩
      conv => whnf
      refine ⟨_, ⟨rfl, rfl, rr⟩, ?_⟩
      conv => whnf
      refine ⟨_, ⟨rfl, rfl, rr⟩, ?_⟩
      conv => whnf
      refine ⟨_, ⟨rfl, rfl, rr⟩, ?_⟩
      conv => whnf
      obtain ⟨x_40, hx_40, h⟩ := bS h
      refine ⟨_, ⟨rfl, rfl, (by (conv => whnf); (refine ixP_of hx_40 ?_); (conv => whnf); (exact rr))⟩, ?_⟩
      conv => whnf
      refine ⟨_, ⟨rfl, rfl, rr⟩, ?_⟩
      conv => whnf
      refine ⟨_, ⟨rfl, rfl, rr⟩, ?_⟩
      conv => whnf
      refine ⟨_, ⟨rfl, rfl, rr⟩, ?_⟩
      conv => whnf
      obtain ⟨x_41, hx_41, h⟩ := bS h
      refine ⟨_, ⟨rfl, rfl, (by (conv => whnf); (refine ixP_of hx_41 ?_); (conv => whnf); (exact rr))⟩, ?_⟩
      conv => whnf
      refine ⟨_, ⟨rfl, rfl, rr⟩, ?_⟩
      conv => whnf
      refine ⟨_, _, rr, kp_ok (by repeat (first | exact trivial | refine ⟨trivial, ?_⟩ | refine ⟨rfl, ?_⟩)), ?_⟩
      conv => whnf
      refine ⟨_, _, rr, kp_ok (by repeat (first | exact trivial | refine ⟨trivial, ?_⟩ | refine ⟨rfl, ?_⟩)), ?_⟩
      conv => whnf
      refine Tr.seq ?_
      refine rg ?_
      conv => whnf
      refine Tr.cond ?_
      conv => whnf
      refine cB h (fun hb42 h => ?_) (fun hb42 h => ?_)
      ·refine rg ?_
       conv => whnf
       obtain ⟨r_43, hc44, h⟩ := bS h
       refine PC.ecall (P68 x_41 r_43 hc44) (fun rs hrs => ?_)
       subst hrs
       conv => whnf
       refine rg ?_
       conv => whnf
       refine orB_r ?_
       conv => whnf
       refine frP_no ?_
       conv => whnf
       refine eqS_mk (by first | rfl | simp) ?_
       conv => whnf
       obtain ⟨l_45, hl_45, h⟩ := bS h
       refine apS_of hl_45 (aQ (f := eTChoice) (l := (([({ Outcome := r_37, X := r_43 } : TChoice)] : List TChoice))) fun _ => rfl) (by first | rfl | simp) (by first | rfl | simp) (fun he => ?_)
       conv => whnf
       refine rS (es' := List.map .d (List.map eTChoice l_45)) (n' := List.length l_45) (by subst he; simp only [List.map_append, List.map_cons, List.map_nil, List.nil_append]; first | done | rfl) (by subst he; simp <;> omega) ?_
       clear he
       conv => whnf
       refine orB_l ?_
       conv => whnf
       cases h
       exact Wk.mk2 [0, 1, 2, 3, 4, 5, 6, 11] 12 rfl rfl (by decide) rfl ⟨rr, rr, rr, rr, ⟨rfl, (by first | rfl | (simp only [↓hb8, ↓hb32, ↓hb36, ↓hb42, bl]; done) | (simp only [↓hb8, ↓hb32, ↓hb36, ↓hb42, bl]; rfl))⟩, rr, daS_d rfl, daS_d rfl, trivial⟩ ⟨rr, rr, rr, rr, rr, rr, rr, rr, rr, rr, trivial⟩
      refine Tr.skip ?_
      conv => whnf
      refine rg ?_
      conv => whnf
      refine orB_r ?_
      conv => whnf
      refine frP_no ?_
      conv => whnf
      refine eqS_mk (by first | rfl | simp) ?_
      conv => whnf
      obtain ⟨l_46, hl_46, h⟩ := bS h
      refine apS_of hl_46 (aQ (f := eTChoice) (l := (([({ Outcome := r_37, X := 0 } : TChoice)] : List TChoice))) fun _ => rfl) (by first | rfl | simp) (by first | rfl | simp) (fun he => ?_)
      conv => whnf
      refine rS (es' := List.map .d (List.map eTChoice l_46)) (n' := List.length l_46) (by subst he; simp only [List.map_append, List.map_cons, List.map_nil, List.nil_append]; first | done | rfl) (by subst he; simp <;> omega) ?_
      clear he
      conv => whnf
      refine orB_l ?_
      conv => whnf
      cases h
      exact Wk.mk2 [0, 1, 2, 3, 4, 5, 6, 11] 12 rfl rfl (by decide) rfl ⟨rr, rr, rr, rr, ⟨rfl, (by first | rfl | (simp only [↓hb8, ↓hb32, ↓hb36, ↓hb42, bl]; done) | (simp only [↓hb8, ↓hb32, ↓hb36, ↓hb42, bl]; rfl))⟩, rr, daS_d rfl, daS_d rfl, trivial⟩ ⟨rr, rr, rr, rr, rr, rr, rr, rr, rr, rr, trivial⟩
     refine Tr.skip ?_
     conv => whnf
     refine Tr.seq ?_
     refine Tr.seq ?_
     refine Tr.draw (DrawP.seqQ layOK mixed [(11, 10)] [(0, 11), (1, 11), (2, 5), (3, 5), (4, 2), (5, 2), (6, 12), (7, 12), (8, 2), (9, 2), (10, 0), (11, 0)] (by kernel_rfl) ?_)
     conv => whnf
     refine ⟨_, ⟨rfl, rfl, rr⟩, ?_⟩
     conv => whnf
     refine ⟨_, ⟨rfl, rfl, rr⟩, ?_⟩
     conv => whnf
     refine ⟨_, ⟨rfl, rfl, rr⟩, ?_⟩
     conv => whnf
     refine ⟨_, ⟨rfl, rfl, rr⟩, ?_⟩
     conv => whnf
     obtain ⟨x_47, hx_47, h⟩ := bS h
     refine ⟨_, ⟨rfl, rfl, (by (conv => whnf); (refine ixP_of hx_47 ?_); (conv => whnf); (exact rr))⟩, ?_⟩
     conv => whnf
     refine ⟨_, ⟨rfl, rfl, rr⟩, ?_⟩
     conv => whnf
     refine ⟨_, ⟨rfl, rfl, rr⟩, ?_⟩
     conv => whnf
     refine ⟨_, ⟨rfl, rfl, rr⟩, ?_⟩
     conv => whnf
     obtain ⟨x_48, hx_48, h⟩ := bS h
     refine ⟨_, ⟨rfl, rfl, (by (conv => whnf); (refine ixP_of hx_48 ?_); (conv => whnf); (exact rr))⟩, ?_⟩
     conv => whnf
     refine ⟨_, ⟨rfl, rfl, rr⟩, ?_⟩
     conv => whnf
     refine ⟨_, _, rr, kp_ok (by repeat (first | exact trivial | refine ⟨trivial, ?_⟩ | refine ⟨rfl, ?_⟩)), ?_⟩
     conv => whnf
     refine ⟨_, _, rr, kp_ok (by repeat (first | exact trivial | refine ⟨trivial, ?_⟩ | refine ⟨rfl, ?_⟩)), ?_⟩
     conv => whnf
     refine Tr.seq ?_
     refine rg ?_
     conv => whnf
     refine Tr.cond ?_
     conv => whnf
     refine cB h (fun hb49 h => ?_) (fun hb49 h => ?_)
     ·refine rg ?_
      conv => whnf
      obtain ⟨r_50, hc51, h⟩ := bS h
      refine PC.ecall (P66 x_48 r_50 hc51) (fun rs hrs => ?_)
      subst hrs
      conv => whnf
      refine rg ?_
      conv => whnf
      refine orB_r ?_
      conv => whnf
      refine frP_no ?_
      conv => whnf
      refine eqS_mk (by first | rfl | simp) ?_
      conv => whnf
      obtain ⟨l_52, hl_52, h⟩ := bS h
      refine apS_of hl_52 (aQ (f := eTChoice) (l := (([({ Outcome := p_3.outcome, X := r_50 } : TChoice)] : List TChoice))) fun _ => rfl) (by first | rfl | simp) (by first | rfl | simp) (fun he => ?_)
      conv => whnf
      refine rS (es' := List.map .d (List.map eTChoice l_52)) (n' := List.length l_52) (by subst he; simp only [List.map_append, List.map_cons, List.map_nil, List.nil_append]; first | done | rfl) (by subst he; simp <;> omega) ?_
      clear he
      conv => whnf
      refine orB_l ?_
      conv => whnf
      cases h
      exact Wk.mk2 [0, 1, 2, 3, 4, 5, 6, 11] 12 rfl rfl (by decide) rfl ⟨rr, rr, rr, rr, ⟨rfl, (by first | rfl | (simp only [↓hb8, ↓hb32, ↓hb36, ↓hb49, bl]; done) | (simp only [↓hb8, ↓hb32, ↓hb36, ↓hb49, bl]; rfl))⟩, rr, daS_d rfl, daS_d rfl, trivial⟩ ⟨rr, rr, rr, rr, rr, rr, rr, rr, rr, rr, trivial⟩
     refine Tr.skip ?_
     conv => whnf
     refine rg ?_
     conv => whnf
     refine orB_r ?_
     conv => whnf
     refine frP_no ?_
     conv => whnf
     refine eqS_mk (by first | rfl | simp) ?_
     conv => whnf
     obtain ⟨l_53, hl_53, h⟩ := bS h
     refine apS_of hl_53 (aQ (f := eTChoice) (l := (([({ Outcome := p_3.outcome, X := 0 } : TChoice)] : List TChoice))) fun _ => rfl) (by first | rfl | simp) (by first | rfl | simp) (fun he => ?_)
     conv => whnf
     refine rS (es' := List.map .d (List.map eTChoice l_53)) (n' := List.length l_53) (by subst he; simp only [List.map_append, List.map_cons, List.map_nil, List.nil_append]; first | done | rfl) (by subst he; simp <;> omega) ?_
     clear he
     conv => whnf
     refine orB_l ?_
     conv => whnf
     cases h
     exact Wk.mk2 [0, 1, 2, 3, 4, 5, 6, 11] 12 rfl rfl (by decide) rfl ⟨rr, rr, rr, rr, ⟨rfl, (by first | rfl | (simp only [↓hb8, ↓hb32, ↓hb36, ↓hb49, bl]; done) | (simp only [↓hb8, ↓hb32, ↓hb36, ↓hb49, bl]; rfl))⟩, rr, daS_d rfl, daS_d rfl, trivial⟩ ⟨rr, rr, rr, rr, rr, rr, rr, rr, rr, rr, trivial⟩
    clear hv34
    conv => whnf
    refine Tr.weak hw ?_
    refine rg ?_
    conv => whnf
    refine arS_raw ?_
    conv => whnf
    refine ⟨((w64 (v_26 + 1)), l_33), h, ?_⟩
    exact Wk.mk2 [0, 1, 2, 3, 4, 5, 6, 7] 8 rfl rfl (by decide) rfl ⟨rr, rr, rr, rr, rr, rr, daS_d rfl, daS_d rfl, trivial⟩ ⟨rr, rr, rr, rr, rr, rr, rr, rr, rr, rr, trivial⟩
   refine Tr.exit ?_
   conv => whnf
   cases h
   exact Wk.mk2 [3, 4, 6, 7] 8 rfl rfl (by decide) rfl ⟨rr, ⟨rfl, (by first | rfl | (simp only [↓hb8, ↓hb32, bl]; done) | (simp only [↓hb8, ↓hb32, bl]; rfl))⟩, daS_d rfl, daS_d rfl, trivial⟩ ⟨⟨rfl, (by first | rfl | (simp only [↓hb8, ↓hb32, bl]; done) | (simp only [↓hb8, ↓hb32, bl]; rfl))⟩, ⟨rfl, (by first | rfl | (simp only [↓hb8, ↓hb32, bl]; done) | (simp only [↓hb8, ↓hb32, bl]; rfl))⟩, trivial⟩
  clear hv54
  conv => whnf
  refine Tr.weak hw ?_
  refine Tr.seq ?_
  refine rg ?_
  conv => whnf
  refine orB_l ?_
  conv => whnf
  refine Tr.ret ?_
  conv => whnf
  refine frE_of (f := eI) (l := l_16) rfl ?_
  conv => whnf
  refine frE_of (f := eTChoice) (l := l_29) rfl ?_
  conv => whnf
  cases h
  rfl
 refine Tr.skip ?_
 conv => whnf
 refine Tr.seq ?_
 refine rg ?_
 conv => whnf
 refine Tr.seq ?_
 refine Tr.seq ?_
 refine rg ?_
 conv => whnf
 refine lnS_map ?_
 conv => whnf
 obtain ⟨l_60, hv67, h⟩ := bS h
 refine Tr.cutQ1 ([(2, (dI runner_2)), (4, .pt 0 0), (5, .pt 1 0), (7, .pt 2 0), (8, .pt 3 0), (9, .pt 4 0), (10, .pt 5 0)]) ([some (.var [.d (.fn 102 []), .d (.fn 101 []), .d (.fn 105 []), .d (.fn 106 [])]), some (.var [.d (.ls (List.map eTSegment f_1.Clocks.Segments)), .d (.ls (List.map (eL eI) f_1.Clocks.Far)), .d (.ls (List.map eTPair f_1.Pairs)), .d (.ls (List.map eTRunner f_1.Runners))]), some (.var [(dI p_3.world), (dI p_3.outcome), (dI p_3.rank)]), some (.var [(dI 0), .nsl, .nsl]), some (.var [(dI p_3.world), .sl 6 1 0 (List.length l_60), .nsl]), some (.var [.d (.b x_7.Out), (dI x_7.Seg), (dI x_7.Lo), (dI x_7.Hi)]), some (.arr 1 (List.map .d (List.map eI l_60)))]) ?_ (fun T1 H1 hw => ?_)
 ·replace h := hv67; clear hv67
  refine Tr.block ?_
  refine Tr.loopM (σ := Int × List Int) (fun n s => M122 f_1 x_7 n s.1 s.2) l_60 (fun s => ([(2, (dI runner_2)), (4, .pt 0 0), (5, .pt 1 0), (7, .pt 2 0), (8, .pt 3 0), (9, .pt 4 0), (10, .pt 5 0), (13, .fn 131 [.pt 6 0, .pt 0 0, .pt 1 0, .pt 7 0]), (54, (dI (((f_1.Clocks.Segments).length : Int)))), (55, (dI s.1))], [some (.var [.d (.fn 102 []), .d (.fn 101 []), .d (.fn 105 []), .d (.fn 106 [])]), some (.var [.d (.ls (List.map eTSegment f_1.Clocks.Segments)), .d (.ls (List.map (eL eI) f_1.Clocks.Far)), .d (.ls (List.map eTPair f_1.Pairs)), .d (.ls (List.map eTRunner f_1.Runners))]), some (.var [(dI p_3.world), (dI p_3.outcome), (dI p_3.rank)]), some (.var [(dI 0), .nsl, .nsl]), some (.var [(dI p_3.world), .sl 8 1 0 (List.length s.2), .nsl]), some (.var [.d (.b x_7.Out), (dI x_7.Seg), (dI x_7.Lo), (dI x_7.Hi)]), some (.var [(dI 0)]), some (.var [(dI (w64 (x_7.Seg + 1)))]), some (.arr 1 (List.map .d (List.map eI s.2)))])) (((((f_1.Clocks.Segments).length : Int)) - 0 : Int).toNat + 1) (0, (([] : List Int))) h (fun s => rfl) (Wk.mk2 [0, 1, 2, 3, 4, 5, 7, 6, 8] 8 rfl rfl (by decide) rfl ⟨rr, rr, rr, rr, ⟨rfl, (by first | rfl | (simp only [↓hb8, bl]; done) | (simp only [↓hb8, bl]; rfl))⟩, rr, rr, rr, rfl, trivial⟩ ⟨rr, rr, rr, rr, rr, rr, rr, ⟨rfl, (by first | rfl | (simp only [↓hb8, bl]; done) | (simp only [↓hb8, bl]; rfl))⟩, rr, rr, trivial⟩) ?_
  clear h
  rintro n_59 ⟨v_57, l_58⟩ h
  replace h : M122 f_1 x_7 (n_59 + 1) v_57 l_58 = some l_60 := h
  rw [M122] at h
  refine Tr.seq ?_
  refine rg ?_
  conv => whnf
  refine Tr.seq ?_
  refine Tr.cond ?_
  conv => whnf
  refine cB h (fun hb63 h => ?_) (fun hb63 h => ?_)
  ·refine Tr.skip ?_
   conv => whnf
   refine Tr.seq ?_
   refine Tr.block ?_
   refine Tr.seq ?_
   refine rg ?_
   conv => whnf
   refine Tr.draw (DrawP.seqQ layOK mixed [(7, 8), (9, 4)] [(0, 7), (1, 7), (2, 1), (3, 1), (4, 1), (5, 0), (6, 1), (7, 0), (8, 7), (9, 0)] (by kernel_rfl) ?_)
   conv => whnf
   refine ⟨_, ⟨rfl, rfl, rr⟩, ?_⟩
   conv => whnf
   refine ⟨_, ⟨rfl, rfl, rr⟩, ?_⟩
   conv => whnf
   refine ⟨_, (fun _ => rr), ?_⟩
   conv => whnf
   refine ⟨_, (fun _ => rr), ?_⟩
   conv => whnf
   refine ⟨_, (fun _ => by (conv => whnf); (refine arS_raw ?_); (conv => whnf); (exact rr)), ?_⟩
   conv => whnf
   obtain ⟨r_64, hc65, h⟩ := bS h
   refine ⟨_, _, (by (conv => whnf); (refine PC.ecall_lend ?_ ⟨_, _, func131, rfl, rfl⟩); (conv => whnf); (refine ⟨_, P119 ((w64 (v_57 + 1))) 0 f_1.Clocks.Segments f_1.Clocks.Far f_1.Pairs f_1.Runners ((w64 (x_7.Seg + 1))) r_64 hc65, fun rs hrs => ?_⟩); (subst hrs); (refine ⟨rfl, ?_⟩); (conv => whnf); (exact rr)), kp_ok (by repeat (first | exact trivial | refine ⟨trivial, ?_⟩ | refine ⟨rfl, ?_⟩)), ?_⟩
   conv => whnf
   refine ⟨_, (fun _ => by (conv => whnf); (refine orB_r ?_); (conv => whnf); (exact rr)), ?_⟩
   conv => whnf
   obtain ⟨l_66, hl_66, h⟩ := bS h
   refine ⟨_, _, (by (conv => whnf); (refine frP_no ?_); (conv => whnf); (refine eqS_mk (by first | rfl | simp) ?_); (conv => whnf); (refine apS_of hl_66 (aQ (f := eI) (l := (([r_64] : List Int))) fun _ => rfl) (by first | rfl | simp) (by first | rfl | simp) (fun he => ?_)); (conv => whnf); (refine rS (es' := List.map .d (List.map eI l_66)) (n' := List.length l_66) (by subst he; simp only [List.map_append, List.map_cons, List.map_nil, List.nil_append]; first | done | rfl) (by subst he; simp <;> omega) ?_); (clear he); (conv => whnf); (exact rr)), kp_ok (by repeat (first | exact trivial | refine ⟨trivial, ?_⟩ | refine ⟨rfl, ?_⟩)), ?_⟩
   conv => whnf
   refine ⟨_, ⟨rfl, rfl, rr⟩, ?_⟩
   conv => whnf
   refine ⟨_, _, (by (conv => whnf); (refine orB_l ?_); (conv => whnf); (exact rr)), kp_ok (by repeat (first | exact trivial | refine ⟨trivial, ?_⟩ | refine ⟨rfl, ?_⟩)), ?_⟩
   conv => whnf
   refine rg ?_
   conv => whnf
   refine arS_raw ?_
   conv => whnf
   refine ⟨((w64 (v_57 + 1)), l_66), h, ?_⟩
   exact Wk.mk2 [0, 1, 2, 3, 4, 5, 6, 7, 9] 10 rfl rfl (by decide) rfl ⟨rr, rr, rr, rr, ⟨rfl, (by first | rfl | (simp only [↓hb8, ↓hb63, bl]; done) | (simp only [↓hb8, ↓hb63, bl]; rfl))⟩, rr, rr, rr, daS_d rfl, trivial⟩ ⟨rr, rr, rr, rr, rr, rr, rr, rr, rr, rr, trivial⟩
  refine Tr.exit ?_
  conv => whnf
  cases h
  exact Wk.mk2 [0, 1, 2, 3, 4, 5, 8] 9 rfl rfl (by decide) rfl ⟨rr, rr, rr, rr, ⟨rfl, (by first | rfl | (simp only [↓hb8, ↓hb63, bl]; done) | (simp only [↓hb8, ↓hb63, bl]; rfl))⟩, rr, daS_d rfl, trivial⟩ ⟨rr, rr, rr, rr, rr, rr, rr, trivial⟩
 clear hv67
 conv => whnf
 refine Tr.weak hw ?_
 refine Tr.seq ?_
 refine Tr.seq ?_
 refine rg ?_
 conv => whnf
 refine lnS_map ?_
 conv => whnf
 obtain ⟨l_73, hv98, h⟩ := bS h
 refine Tr.cutQ1 ([(8, .pt 0 0), (9, .pt 1 0)]) ([some (.var [(dI 0), .nsl, .nsl]), some (.var [(dI p_3.world), .sl 2 1 0 (List.length l_60), .sl 3 2 0 (List.length l_73)]), some (.arr 1 (List.map .d (List.map eI l_60))), some (.arr 2 (List.map .d (List.map eTChoice l_73)))]) ?_ (fun T1 H1 hw => ?_)
 ·replace h := hv98; clear hv98
  refine Tr.block ?_
  refine Tr.loopM (σ := Int × List TChoice) (fun n s => M123 f_1 runner_2 p_3 x_7 n s.1 s.2) l_73 (fun s => ([(2, (dI runner_2)), (4, .pt 0 0), (5, .pt 1 0), (7, .pt 2 0), (8, .pt 3 0), (9, .pt 4 0), (10, .pt 5 0), (69, .d (.ls (List.map eTRunner f_1.Runners))), (70, (dI (((f_1.Runners).length : Int)))), (71, (dI s.1))], [some (.var [.d (.fn 102 []), .d (.fn 101 []), .d (.fn 105 []), .d (.fn 106 [])]), some (.var [.d (.ls (List.map eTSegment f_1.Clocks.Segments)), .d (.ls (List.map (eL eI) f_1.Clocks.Far)), .d (.ls (List.map eTPair f_1.Pairs)), .d (.ls (List.map eTRunner f_1.Runners))]), some (.var [(dI p_3.world), (dI p_3.outcome), (dI p_3.rank)]), some (.var [(dI 0), .nsl, .nsl]), some (.var [(dI p_3.world), .sl 6 1 0 (List.length l_60), .sl 7 2 0 (List.length s.2)]), some (.var [.d (.b x_7.Out), (dI x_7.Seg), (dI x_7.Lo), (dI x_7.Hi)]), some (.arr 1 (List.map .d (List.map eI l_60))), some (.arr 2 (List.map .d (List.map eTChoice s.2)))])) (((((f_1.Runners).length : Int)) - 0 : Int).toNat + 1) (0, (([] : List TChoice))) h (fun s => rfl) (Wk.mk2 [0, 1, 2, 3, 4, 5, 6, 7] 7 rfl rfl (by decide) rfl ⟨rr, rr, rr, rr, ⟨rfl, (by first | rfl | (simp only [↓hb8, bl]; done) | (simp only [↓hb8, bl]; rfl))⟩, rr, daS_d rfl, rfl, trivial⟩ ⟨rr, rr, rr, rr, rr, rr, rr, rr, rr, rr, trivial⟩) ?_
  clear h
  rintro n_72 ⟨v_70, l_71⟩ h
  replace h : M123 f_1 runner_2 p_3 x_7 (n_72 + 1) v_70 l_71 = some l_73 := h
  rw [M123] at h
  refine Tr.seq ?_
  refine rg ?_
  conv => whnf
  refine Tr.seq ?_
  refine Tr.cond ?_
  conv => whnf
  refine cB h (fun hb76 h => ?_) (fun hb76 h => ?_)
  ·refine Tr.skip ?_
   conv => whnf
   refine Tr.seq ?_
   obtain ⟨l_77, hv78, h⟩ := bS h
   refine Tr.cutQ1 ([(2, (dI runner_2)), (4, .pt 0 0), (5, .pt 1 0), (7, .pt 2 0), (8, .pt 3 0), (9, .pt 4 0), (10, .pt 5 0), (69, .d (.ls (List.map eTRunner f_1.Runners))), (70, (dI (((f_1.Runners).length : Int)))), (71, (dI v_70))]) ([some (.var [.d (.fn 102 []), .d (.fn 101 []), .d (.fn 105 []), .d (.fn 106 [])]), some (.var [.d (.ls (List.map eTSegment f_1.Clocks.Segments)), .d (.ls (List.map (eL eI) f_1.Clocks.Far)), .d (.ls (List.map eTPair f_1.Pairs)), .d (.ls (List.map eTRunner f_1.Runners))]), some (.var [(dI p_3.world), (dI p_3.outcome), (dI p_3.rank)]), some (.var [(dI 0), .nsl, .nsl]), some (.var [(dI p_3.world), .sl 6 1 0 (List.length l_60), .sl 7 2 0 (List.length l_77)]), some (.var [.d (.b x_7.Out), (dI x_7.Seg), (dI x_7.Lo), (dI x_7.Hi)]), some (.arr 1 (List.map .d (List.map eI l_60))), some (.arr 2 (List.map .d (List.map eTChoice l_77)))]) ?_ (fun T1 H1 hw => ?_)
   ·replace h := hv78; clear hv78
    refine Tr.block ?_
    refine Tr.seq ?_
    refine rg ?_
    conv => whnf
    obtain ⟨x_79, hx_79, h⟩ := bS h
    refine ixP_of hx_79 ?_
    conv => whnf
    refine Tr.seq ?_
    refine rg ?_
    conv => whnf
    refine Tr.seq ?_
    refine rg ?_
    conv => whnf
    refine Tr.seq ?_
    refine Tr.seq ?_
    refine rg ?_
    conv => whnf
    refine Tr.cond ?_
    conv => whnf
    refine cB h (fun hb80 h => ?_) (fun hb80 h => ?_)
    ·refine Tr.seq ?_
     refine rg ?_
     conv => whnf
     obtain ⟨⟨r_81, r_82⟩, hc83, h⟩ := bS h
     refine PC.ecall (P86 f_1 p_3.world runner_2 x_7 v_70 r_81 r_82 hc83) (fun rs hrs => ?_)
     subst hrs
     conv => whnf
     refine rg ?_
     conv => whnf
     refine Tr.seq ?_
     refine Tr.seq ?_
     refine Tr.draw (DrawP.seqQ layOK mixed [(11, 10)] [(0, 11), (1, 11), (2, 5), (3, 5), (4, 2), (5, 2), (6, 12), (7, 12), (8, 2), (9, 2), (10, 0), (11, 0)] (by kernel_rfl) ?_)
     conv => whnf
     refine ⟨_, ⟨rfl, rfl, rr⟩, ?_⟩
     conv => whnf
     refine ⟨_, ⟨rfl, rfl, rr⟩, ?_⟩
     conv => whnf
     refine ⟨_, ⟨rfl, rfl, rr⟩, ?_⟩
     conv => whnf
     refine ⟨_, ⟨rfl, rfl, rr⟩, ?_⟩
     conv => whnf
     obtain ⟨x_84, hx_84, h⟩ := bS h
     refine ⟨_, ⟨rfl, rfl, (by (conv => whnf); (refine ixP_of hx_84 ?_); (conv => whnf); (exact rr))⟩, ?_⟩
     conv => whnf
     refine ⟨_, ⟨rfl, rfl, rr⟩, ?_⟩
     conv => whnf
     refine ⟨_, ⟨rfl, rfl, rr⟩, ?_⟩
     conv => whnf
     refine ⟨_, ⟨rfl, rfl, rr⟩, ?_⟩
     conv => whnf
     obtain ⟨x_85, hx_85, h⟩ := bS h
     refine ⟨_, ⟨rfl, rfl, (by (conv => whnf); (refine ixP_of hx_85 ?_); (conv => whnf); (exact rr))⟩, ?_⟩
     conv => whnf
     refine ⟨_, ⟨rfl, rfl, rr⟩, ?_⟩
     conv => whnf
     refine ⟨_, _, rr, kp_ok (by repeat (first | exact trivial | refine ⟨trivial, ?_⟩ | refine ⟨rfl, ?_⟩)), ?_⟩
     conv => whnf
     refine ⟨_, _, rr, kp_ok (by repeat (first | exact trivial | refine ⟨trivial, ?_⟩ | refine ⟨rfl, ?_⟩)), ?_⟩
     conv => whnf
     refine Tr.seq ?_
     refine rg ?_
     conv => whnf
     refine Tr.cond ?_
     conv => whnf
     refine cB h (fun hb86 h => ?_) (fun hb86 h => ?_)
     ·refine rg ?_
      conv => whnf
      obtain ⟨r_87, hc88, h⟩ := bS h
      refine PC.ecall (P68 x_85 r_87 hc88) (fun rs hrs => ?_)
      subst hrs
      conv => whnf
      refine rg ?_
      conv => whnf
      refine orB_r ?_
      conv => whnf
      refine frP_no ?_
      conv => whnf
      refine eqS_mk (by first | rfl | simp) ?_
      conv => whnf
      obtain ⟨l_89, hl_89, h⟩ := bS h
      refine apS_of hl_89 (aQ (f := eTChoice) (l := (([({ Outcome := r_81, X := r_87 } : TChoice)] : List TChoice))) fun _ => rfl) (by first | rfl | simp) (by first | rfl | simp) (fun he => ?_)
      conv => whnf
      refine rS (es' := List.map .d (List.map eTChoice l_89)) (n' := List.length l_89) (by subst he; simp only [List.map_append, List.map_cons, List.map_nil, List.nil_append]; first | done | rfl) (by subst he; simp <;> omega) ?_
      clear he
      conv => whnf
      refine orB_l ?_
      conv => whnf
      cases h
      exact Wk.mk2 [0, 1, 2, 3, 4, 5, 6, 11] 12 rfl rfl (by decide) rfl ⟨rr, rr, rr, rr, ⟨rfl, (by first | rfl | (simp only [↓hb8, ↓hb76, ↓hb80, ↓hb86, bl]; done) | (simp only [↓hb8, ↓hb76, ↓hb80, ↓hb86, bl]; rfl))⟩, rr, daS_d rfl, daS_d rfl, trivial⟩ ⟨rr, rr, rr, rr, rr, rr, rr, rr, rr, rr, trivial⟩
     refine Tr.skip ?_
     conv => whnf
     refine rg ?_
     conv => whnf
     refine orB_r ?_
     conv => whnf
     refine frP_no ?_
     conv => whnf
     refine eqS_mk (by first | rfl | simp) ?_
     conv => whnf
     obtain ⟨l_90, hl_90, h⟩ := bS h
     refine apS_of hl_90 (aQ (f := eTChoice) (l := (([({ Outcome := r_81, X := 0 } : TChoice)] : List TChoice))) fun _ => rfl) (by first | rfl | simp) (by first | rfl | simp) (fun he => ?_)
     conv => whnf
     refine rS (es' := List.map .d (List.map eTChoice l_90)) (n' := List.length l_90) (by subst he; simp only [List.map_append, List.map_cons, List.map_nil, List.nil_append]; first | done | rfl) (by subst he; simp <;> omega) ?_
     clear he
     conv => whnf
     refine orB_l ?_
     conv => whnf
     cases h
     exact Wk.mk2 [0, 1, 2, 3, 4, 5, 6, 11] 12 rfl rfl (by decide) rfl ⟨rr, rr, rr, rr, ⟨rfl, (by first | rfl | (simp only [↓hb8, ↓hb76, ↓hb80, ↓hb86, bl]; done) | (simp only [↓hb8, ↓hb76, ↓hb80, ↓hb86, bl]; rfl))⟩, rr, daS_d rfl, daS_d rfl, trivial⟩ ⟨rr, rr, rr, rr, rr, rr, rr, rr, rr, rr, trivial⟩
    refine Tr.skip ?_
    conv => whnf
    refine Tr.seq ?_
    refine Tr.seq ?_
    refine Tr.draw (DrawP.seqQ layOK mixed [(11, 10)] [(0, 11), (1, 11), (2, 5), (3, 5), (4, 2), (5, 2), (6, 12), (7, 12), (8, 2), (9, 2), (10, 0), (11, 0)] (by kernel_rfl) ?_)
    conv => whnf
    refine ⟨_, ⟨rfl, rfl, rr⟩, ?_⟩
    conv => whnf
    refine ⟨_, ⟨rfl, rfl, rr⟩, ?_⟩
    conv => whnf
    refine ⟨_, ⟨rfl, rfl, rr⟩, ?_⟩
    conv => whnf
    refine ⟨_, ⟨rfl, rfl, rr⟩, ?_⟩
    conv => whnf
    obtain ⟨x_91, hx_91, h⟩ := bS h
    refine ⟨_, ⟨rfl, rfl, (by (conv => whnf); (refine ixP_of hx_91 ?_); (conv => whnf); (exact rr))⟩, ?_⟩
    conv => whnf
    refine ⟨_, ⟨rfl, rfl, rr⟩, ?_⟩
    conv => whnf
    refine ⟨_, ⟨rfl, rfl, rr⟩, ?_⟩
    conv => whnf
    refine ⟨_, ⟨rfl, rfl, rr⟩, ?_⟩
    conv => whnf
    obtain ⟨x_92, hx_92, h⟩ := bS h
    refine ⟨_, ⟨rfl, rfl, (by (conv => whnf); (refine ixP_of hx_92 ?_); (conv => whnf); (exact rr))⟩, ?_⟩
    conv => whnf
    refine ⟨_, ⟨rfl, rfl, rr⟩, ?_⟩
    conv => whnf
    refine ⟨_, _, rr, kp_ok (by repeat (first | exact trivial | refine ⟨trivial, ?_⟩ | refine ⟨rfl, ?_⟩)), ?_⟩
    conv => whnf
    refine ⟨_, _, rr, kp_ok (by repeat (first | exact trivial | refine ⟨trivial, ?_⟩ | refine ⟨rfl, ?_⟩)), ?_⟩
    conv => whnf
    refine Tr.seq ?_
    refine rg ?_
    conv => whnf
    refine Tr.cond ?_
    conv => whnf
    refine cB h (fun hb93 h => ?_) (fun hb93 h => ?_)
    ·refine rg ?_
     conv => whnf
     obtain ⟨r_94, hc95, h⟩ := bS h
     refine PC.ecall (P66 x_92 r_94 hc95) (fun rs hrs => ?_)
     subst hrs
     conv => whnf
     refine rg ?_
     conv => whnf
     refine orB_r ?_
     conv => whnf
     refine frP_no ?_
     conv => whnf
     refine eqS_mk (by first | rfl | simp) ?_
     conv => whnf
     obtain ⟨l_96, hl_96, h⟩ := bS h
     refine apS_of hl_96 (aQ (f := eTChoice) (l := (([({ Outcome := p_3.outcome, X := r_94 } : TChoice)] : List TChoice))) fun _ => rfl) (by first | rfl | simp) (by first | rfl | simp) (fun he => ?_)
     conv => whnf
     refine rS (es' := List.map .d (List.map eTChoice l_96)) (n' := List.length l_96) (by subst he; simp only [List.map_append, List.map_cons, List.map_nil, List.nil_append]; first | done | rfl) (by subst he; simp <;> omega) ?_
     clear he
     conv => whnf
     refine orB_l ?_
     conv => whnf
     cases h
     exact Wk.mk2 [0, 1, 2, 3, 4, 5, 6, 11] 12 rfl rfl (by decide) rfl ⟨rr, rr, rr, rr, ⟨rfl, (by first | rfl | (simp only [↓hb8, ↓hb76, ↓hb80, ↓hb93, bl]; done) | (simp only [↓hb8, ↓hb76, ↓hb80, ↓hb93, bl]; rfl))⟩, rr, daS_d rfl, daS_d rfl, trivial⟩ ⟨rr, rr, rr, rr, rr, rr, rr, rr, rr, rr, trivial⟩
    refine Tr.skip ?_
    conv => whnf
    refine rg ?_
    conv => whnf
    refine orB_r ?_
    conv => whnf
    refine frP_no ?_
    conv => whnf
    refine eqS_mk (by first | rfl | simp) ?_
    conv => whnf
    obtain ⟨l_97, hl_97, h⟩ := bS h
    refine apS_of hl_97 (aQ (f := eTChoice) (l := (([({ Outcome := p_3.outcome, X := 0 } : TChoice)] : List TChoice))) fun _ => rfl) (by first | rfl | simp) (by first | rfl | simp) (fun he => ?_)
    conv => whnf
    refine rS (es' := List.map .d (List.map eTChoice l_97)) (n' := List.length l_97) (by subst he; simp only [List.map_append, List.map_cons, List.map_nil, List.nil_append]; first | done | rfl) (by subst he; simp <;> omega) ?_
    clear he
    conv => whnf
    refine orB_l ?_
    conv => whnf
    cases h
    exact Wk.mk2 [0, 1, 2, 3, 4, 5, 6, 11] 12 rfl rfl (by decide) rfl ⟨rr, rr, rr, rr, ⟨rfl, (by first | rfl | (simp only [↓hb8, ↓hb76, ↓hb80, ↓hb93, bl]; done) | (simp only [↓hb8, ↓hb76, ↓hb80, ↓hb93, bl]; rfl))⟩, rr, daS_d rfl, daS_d rfl, trivial⟩ ⟨rr, rr, rr, rr, rr, rr, rr, rr, rr, rr, trivial⟩
   clear hv78
   conv => whnf
   refine Tr.weak hw ?_
   refine rg ?_
   conv => whnf
   refine arS_raw ?_
   conv => whnf
   refine ⟨((w64 (v_70 + 1)), l_77), h, ?_⟩
   exact Wk.mk2 [0, 1, 2, 3, 4, 5, 6, 7] 8 rfl rfl (by decide) rfl ⟨rr, rr, rr, rr, rr, rr, daS_d rfl, daS_d rfl, trivial⟩ ⟨rr, rr, rr, rr, rr, rr, rr, rr, rr, rr, trivial⟩
  refine Tr.exit ?_
  conv => whnf
  cases h
  exact Wk.mk2 [3, 4, 6, 7] 8 rfl rfl (by decide) rfl ⟨rr, ⟨rfl, (by first | rfl | (simp only [↓hb8, ↓hb76, bl]; done) | (simp only [↓hb8, ↓hb76, bl]; rfl))⟩, daS_d rfl, daS_d rfl, trivial⟩ ⟨⟨rfl, (by first | rfl | (simp only [↓hb8, ↓hb76, bl]; done) | (simp only [↓hb8, ↓hb76, bl]; rfl))⟩, ⟨rfl, (by first | rfl | (simp only [↓hb8, ↓hb76, bl]; done) | (simp only [↓hb8, ↓hb76, bl]; rfl))⟩, trivial⟩
 clear hv98
 conv => whnf
 refine Tr.weak hw ?_
 refine Tr.seq ?_
 refine rg ?_
 conv => whnf
 refine orB_l ?_
 conv => whnf
 refine Tr.ret ?_
 conv => whnf
 refine frE_of (f := eI) (l := l_60) rfl ?_
 conv => whnf
 refine frE_of (f := eTChoice) (l := l_73) rfl ?_
 conv => whnf
 cases h
 rfl
theorem P125 (f_1 : TField) (runner_2 : Int) (r_3 : THistory) (r_4 : Bool) (r_5 : Int) (h : M125 f_1 runner_2 = some (r_3, r_4, r_5)) :
    PC prog 61 [(.ag [(.fn 102 []), (.fn 101 []), (.fn 105 []), (.fn 106 [])]), (eTField f_1), (.i .i64 runner_2)] (fun rs => rs = [(eTHistory r_3), (.b r_4), (.i .i64 r_5)]) := by
 refine PC.of_tr (cx := ⟨34, none, lay, 0⟩) layOK func61 rfl rfl rfl rfl rfl (by simp [f61]) ?_
 unfold M125 at h
 refine Tr.seq ?_
 refine rg ?_
 conv => whnf
 refine Tr.seq ?_
 refine Tr.seq ?_
 refine rg ?_
 conv => whnf
 refine orB_r ?_
 conv => whnf
 obtain ⟨r_6, hc7, h⟩ := bS h
 refine PC.ecall (P49 f_1 ((([runner_2] : List Int))) r_6 hc7) (fun rs hrs => ?_)
 subst hrs
 conv => whnf
 refine Tr.seq ?_
 refine rg ?_
 conv => whnf
 refine Tr.cond ?_
 conv => whnf
 refine cB h (fun hb8 h => ?_) (fun hb8 h => ?_)
 ·refine Tr.seq ?_
  refine rg ?_
  conv => whnf
  refine orB_l ?_
  conv => whnf
  refine Tr.ret ?_
  conv => whnf
  cases h
  rfl
 refine Tr.skip ?_
 conv => whnf
 refine Tr.seq ?_
 refine rg ?_
 conv => whnf
 obtain ⟨⟨r_9, r_10⟩, hc11, h⟩ := bS h
 refine PC.ecall (P90 f_1 runner_2 r_9 r_10 hc11) (fun rs hrs => ?_)
 subst hrs
 conv => whnf
 refine Tr.seq ?_
 refine Tr.seq ?_
 refine rg ?_
 conv => whnf
 refine Tr.cond ?_
 conv => whnf
 refine cB h (fun hb12 h => ?_) (fun hb12 h => ?_)
 ·refine Tr.seq ?_
  refine rg ?_
  conv => whnf
  refine orB_l ?_
  conv => whnf
  refine Tr.ret ?_
  conv => whnf
  cases h
  rfl
 refine Tr.skip ?_
 conv => whnf
 refine Tr.seq ?_
 refine rg ?_
 conv => whnf
 obtain ⟨r_13, hc14, h⟩ := bS h
 refine PC.ecall (P124 f_1 runner_2 r_9 r_13 hc14) (fun rs hrs => ?_)
 subst hrs
 conv => whnf
 refine Tr.ret ?_
 conv => whnf
 cases h
 rfl
theorem P126 (f_1 : TField) (runner_2 : Int) (r_3 : THistory) (r_4 : Bool) (r_5 : Int) (h : M126 f_1 runner_2 = some (r_3, r_4, r_5)) :
    PC prog 33 [(eTField f_1), (.i .i64 runner_2)] (fun rs => rs = [(eTHistory r_3), (.b r_4), (.i .i64 r_5)]) := by
 refine PC.of_tr (cx := ⟨14, none, lay, 0⟩) layOK func33 rfl rfl rfl rfl rfl (by simp [f33]) ?_
 unfold M126 at h
 refine Tr.seq ?_
 refine rg ?_
 conv => whnf
 refine Tr.seq ?_
 refine Tr.draw (DrawP.seqQ layOK mixed [(7, 1)] [(0, 1), (1, 3), (2, 1), (3, 1), (4, 1), (5, 1), (6, 1), (7, 0), (8, 1), (9, 1)] (by kernel_rfl) ?_)
 conv => whnf
 obtain ⟨_, hc6, h⟩ := bS h
 refine ⟨_, (fun _ => by (conv => whnf); (refine PC.ecall (P80  hc6) (fun rs hrs => ?_)); (subst hrs); (conv => whnf); (exact rr)), ?_⟩
 conv => whnf
 refine ⟨_, ⟨rfl, rfl, rr⟩, ?_⟩
 conv => whnf
 refine ⟨_, (fun _ => rr), ?_⟩
 conv => whnf
 obtain ⟨⟨r_7, r_8, r_9⟩, hc10, h⟩ := bS h
 refine ⟨_, (fun _ => by (conv => whnf); (refine PC.ecall (P125 f_1 runner_2 r_7 r_8 r_9 hc10) (fun rs hrs => ?_)); (subst hrs); (conv => whnf); (exact rr)), ?_⟩
 conv => whnf
 refine ⟨_, (fun _ => rr), ?_⟩
 conv => whnf
 refine ⟨_, (fun _ => rr), ?_⟩
 conv => whnf
 refine ⟨_, (fun _ => rr), ?_⟩
 conv => whnf
 refine ⟨_, _, rr, kp_ok (by repeat (first | exact trivial | refine ⟨trivial, ?_⟩ | refine ⟨rfl, ?_⟩)), ?_⟩
 conv => whnf
 refine ⟨_, (fun _ => rr), ?_⟩
 conv => whnf
 refine ⟨_, (fun _ => rr), ?_⟩
 conv => whnf
 refine Tr.ret ?_
 conv => whnf
 cases h
 rfl
theorem P127 (f_1 : TField) (runner_2 : Int) (r_3 : TProof) (r_4 : Int) (h : M127 f_1 runner_2 = some (r_3, r_4)) :
    PC prog 11 [(eTField f_1), (.i .i64 runner_2)] (fun rs => rs = [(eTProof r_3), (.i .i64 r_4)]) := by
 refine PC.of_tr (cx := ⟨52, none, lay, 0⟩) layOK func11 rfl rfl rfl rfl rfl (by simp [f11]) ?_
 unfold M127 at h
 refine Tr.seq ?_
 refine rg ?_
 conv => whnf
 refine Tr.seq ?_
 refine rg ?_
 conv => whnf
 obtain ⟨⟨r_5, r_6⟩, hc7, h⟩ := bS h
 refine PC.ecall (P93 f_1 runner_2 r_5 r_6 hc7) (fun rs hrs => ?_)
 subst hrs
 conv => whnf
 refine Tr.seq ?_
 refine Tr.seq ?_
 refine rg ?_
 conv => whnf
 refine Tr.cond ?_
 conv => whnf
 refine cB h (fun hb8 h => ?_) (fun hb8 h => ?_)
 ·refine Tr.seq ?_
  refine rg ?_
  conv => whnf
  refine orB_l ?_
  conv => whnf
  refine Tr.ret ?_
  conv => whnf
  cases h
  rfl
 refine Tr.skip ?_
 conv => whnf
 refine Tr.seq ?_
 refine Tr.seq ?_
 refine rg ?_
 conv => whnf
 refine Tr.cond ?_
 conv => whnf
 refine cB h (fun hb9 h => ?_) (fun hb9 h => ?_)
 ·refine Tr.seq ?_
  refine rg ?_
  conv => whnf
  refine orB_l ?_
  conv => whnf
  refine Tr.ret ?_
  conv => whnf
  cases h
  rfl
 refine Tr.skip ?_
 conv => whnf
 refine Tr.seq ?_
 refine rg ?_
 conv => whnf
 obtain ⟨⟨r_10, r_11, r_12⟩, hc13, h⟩ := bS h
 refine PC.ecall (P101 f_1 runner_2 r_10 r_11 r_12 hc13) (fun rs hrs => ?_)
 subst hrs
 conv => whnf
 refine Tr.seq ?_
 refine rg ?_
 conv => whnf
 refine Tr.seq ?_
 refine rg ?_
 conv => whnf
 refine ECall.of_tr (cx := ⟨27, none, lay, 5⟩) layOK func31 rfl rfl rfl rfl rfl (by simp [f31]) ?_
 refine Tr.seq ?_
 refine rg ?_
 conv => whnf
 refine Tr.seq ?_
 refine Tr.seq ?_
 refine rg ?_
 conv => whnf
 refine Tr.cond ?_
 conv => whnf
 refine cB h (fun hb14 h => ?_) (fun hb14 h => ?_)
 ·refine Tr.seq ?_
  refine rg ?_
  conv => whnf
  obtain ⟨⟨r_15, r_16⟩, hc17, h⟩ := bS h
  refine PC.ecall (P118 f_1 runner_2 r_15 r_16 hc17) (fun rs hrs => ?_)
  subst hrs
  conv => whnf
  refine Tr.ret ?_
  conv => whnf
  refine Tr.seq ?_
  refine Tr.seq ?_
  refine rg ?_
  conv => whnf
  refine cB h (fun hb18 h => ?_) (fun hb18 h => ?_)
  ·conv => whnf
   refine Tr.cond ?_
   conv => whnf
   refine Tr.seq ?_
   refine rg ?_
   conv => whnf
   refine orB_l ?_
   conv => whnf
   refine Tr.ret ?_
   conv => whnf
   cases h
   rfl
  conv => whnf
  refine Tr.cond ?_
  conv => whnf
  refine cB h (fun hb19 h => ?_) (fun hb19 h => ?_)
  ·refine Tr.seq ?_
   refine rg ?_
   conv => whnf
   refine orB_l ?_
   conv => whnf
   refine Tr.ret ?_
   conv => whnf
   cases h
   rfl
  refine Tr.skip ?_
  conv => whnf
  refine Tr.seq ?_
  refine rg ?_
  conv => whnf
  refine Tr.ret ?_
  conv => whnf
  cases h
  rfl
 refine Tr.skip ?_
 conv => whnf
 refine Tr.seq ?_
 refine rg ?_
 conv => whnf
 obtain ⟨⟨r_20, r_21, r_22⟩, hc23, h⟩ := bS h
 refine PC.ecall (P126 f_1 runner_2 r_20 r_21 r_22 hc23) (fun rs hrs => ?_)
 subst hrs
 conv => whnf
 refine Tr.seq ?_
 refine rg ?_
 conv => whnf
 refine Tr.ret ?_
 conv => whnf
 refine Tr.seq ?_
 refine Tr.seq ?_
 refine rg ?_
 conv => whnf
 refine cB h (fun hb24 h => ?_) (fun hb24 h => ?_)
 ·conv => whnf
  refine Tr.cond ?_
  conv => whnf
  refine Tr.seq ?_
  refine rg ?_
  conv => whnf
  refine orB_l ?_
  conv => whnf
  refine Tr.ret ?_
  conv => whnf
  cases h
  rfl
 conv => whnf
 refine Tr.cond ?_
 conv => whnf
 refine cB h (fun hb25 h => ?_) (fun hb25 h => ?_)
 ·refine Tr.seq ?_
  refine rg ?_
  conv => whnf
  refine orB_l ?_
  conv => whnf
  refine Tr.ret ?_
  conv => whnf
  cases h
  rfl
 refine Tr.skip ?_
 conv => whnf
 refine Tr.seq ?_
 refine rg ?_
 conv => whnf
 refine Tr.ret ?_
 conv => whnf
 cases h
 rfl
theorem P128 (n_1 : Int) (r_2 : Bool) (h : M128 n_1 = some r_2) :
    PC prog 79 [(.i .i64 n_1)] (fun rs => rs = [(.b r_2)]) := by
 refine PC.of_tr (cx := ⟨9, none, lay, 0⟩) layOK func79 rfl rfl rfl rfl rfl (by simp [f79]) ?_
 unfold M128 at h
 refine Tr.seq ?_
 refine rg ?_
 conv => whnf
 refine Tr.seq ?_
 refine rg ?_
 conv => whnf
 refine cB h (fun hb3 h => ?_) (fun hb3 h => ?_)
 ·conv => whnf
  refine Tr.ret ?_
  conv => whnf
  cases h
  rfl
 conv => whnf
 refine Tr.ret ?_
 conv => whnf
 cases h
 rfl
theorem P129 (a_1 : TSegment) (b_2 : TSegment) (r_3 : Bool) (h : M129 a_1 b_2 = some r_3) :
    PC prog 80 [(eTSegment a_1), (eTSegment b_2)] (fun rs => rs = [(.b r_3)]) := by
 refine PC.of_tr (cx := ⟨24, none, lay, 0⟩) layOK func80 rfl rfl rfl rfl rfl (by simp [f80]) ?_
 unfold M129 at h
 refine Tr.seq ?_
 refine rg ?_
 conv => whnf
 refine Tr.seq ?_
 refine rg ?_
 conv => whnf
 refine cB h (fun hb4 h => ?_) (fun hb4 h => ?_)
 ·conv => whnf
  refine Tr.ret ?_
  conv => whnf
  cases h
  rfl
 conv => whnf
 refine cB h (fun hb5 h => ?_) (fun hb5 h => ?_)
 ·conv => whnf
  refine Tr.ret ?_
  conv => whnf
  cases h
  rfl
 conv => whnf
 refine Tr.ret ?_
 conv => whnf
 cases h
 rfl
theorem P142 (k_1 : TClocks) (r_2 : Int) (h : M142 k_1 = some r_2) :
    PC prog 43 [(eTClocks k_1)] (fun rs => rs = [(.i .i64 r_2)]) := by
 refine PC.of_tr (cx := ⟨164, none, lay, 0⟩) layOK func43 rfl rfl rfl rfl rfl (by simp [f43]) ?_
 unfold M142 at h
 refine Tr.seq ?_
 refine rg ?_
 conv => whnf
 refine Tr.seq ?_
 refine rg ?_
 conv => whnf
 refine lnS_map ?_
 conv => whnf
 refine Tr.seq ?_
 refine Tr.seq ?_
 refine rg ?_
 conv => whnf
 refine cB h (fun hb3 h => ?_) (fun hb3 h => ?_)
 ·conv => whnf
  refine Tr.cond ?_
  conv => whnf
  refine Tr.seq ?_
  refine rg ?_
  conv => whnf
  refine Tr.ret ?_
  conv => whnf
  cases h
  rfl
 conv => whnf
 refine lnS_map ?_
 conv => whnf
 refine arS_raw ?_
 conv => whnf
 refine Tr.cond ?_
 conv => whnf
 refine cB h (fun hb4 h => ?_) (fun hb4 h => ?_)
 ·refine Tr.seq ?_
  refine rg ?_
  conv => whnf
  refine Tr.ret ?_
  conv => whnf
  cases h
  rfl
 refine Tr.skip ?_
 conv => whnf
 refine Tr.seq ?_
 refine Tr.seq ?_
 refine rg ?_
 conv => whnf
 refine Tr.cutQ (α := Unit) (fun s => ([(1, .pt 0 0), (2, (dI 0)), (3, (dI (((k_1.Segments).length : Int))))], [some (.var [.d (.ls (List.map eTSegment k_1.Segments)), .d (.ls (List.map (eL eI) k_1.Far))])])) (fun s => M141 k_1 s = some r_2) ?_ ?_
 ·refine Tr.block ?_
  refine Tr.loopM (σ := Int) (fun n s => M130 k_1 (M141 k_1) n s) r_2 (fun s => ([(1, .pt 0 0), (2, (dI 0)), (3, (dI (((k_1.Segments).length : Int)))), (4, (dI s))], [some (.var [.d (.ls (List.map eTSegment k_1.Segments)), .d (.ls (List.map (eL eI) k_1.Far))])])) (((((k_1.Segments).length : Int)) - 0 : Int).toNat + 1) (0) h (fun s => rfl) (Wk.mk2 [0] 1 rfl rfl (by decide) rfl ⟨rr, trivial⟩ ⟨rr, rr, rr, rr, trivial⟩) ?_
  clear h
  rintro n_7 i_6 h
  replace h : M130 k_1 (M141 k_1) (n_7 + 1) i_6 = some r_2 := h
  rw [M130] at h
  refine Tr.seq ?_
  refine Tr.seq ?_
  refine rg ?_
  conv => whnf
  refine Tr.cond ?_
  conv => whnf
  refine cB h (fun hb10 h => ?_) (fun hb10 h => ?_)
  ·refine Tr.skip ?_
   conv => whnf
   refine Tr.seq ?_
   refine Tr.block ?_
   refine Tr.seq ?_
   refine rg ?_
   conv => whnf
   obtain ⟨x_11, hx_11, h⟩ := bS h
   refine ixP_of hx_11 ?_
   conv => whnf
   refine Tr.seq ?_
   obtain ⟨v_12, hv13, h⟩ := bS h
   refine Tr.cutQ1 ([(1, .pt 0 0), (2, (dI 0)), (3, (dI (((k_1.Segments).length : Int)))), (4, (dI i_6)), (72, .d (.b v_12))]) ([some (.var [.d (.ls (List.map eTSegment k_1.Segments)), .d (.ls (List.map (eL eI) k_1.Far))])]) ?_ (fun T1 H1 hw => ?_)
   ·replace h := hv13; clear hv13
    refine Tr.draw (DrawP.seqQ layOK mixed [] [(0, 4), (1, 4), (2, 1), (3, 1), (4, 4), (5, 4), (6, 1), (7, 1), (8, 1), (9, 4), (10, 4), (11, 1), (12, 1), (13, 1), (14, 4), (15, 4), (16, 1), (17, 1), (18, 1), (19, 4), (20, 4), (21, 1), (22, 1), (23, 1), (24, 1), (25, 1), (26, 1), (27, 1), (28, 3), (29, 3), (30, 1), (31, 1), (32, 2), (33, 2), (34, 4), (35, 1), (36, 1), (37, 1), (38, 1)] (by kernel_rfl) ?_)
    conv => whnf
    refine ⟨_, ⟨rfl, rfl, rr⟩, ?_⟩
    conv => whnf
    refine ⟨_, ⟨rfl, rfl, rr⟩, ?_⟩
    conv => whnf
    refine ⟨_, (fun _ => rr), ?_⟩
    conv => whnf
    refine ⟨_, (fun _ => rr), ?_⟩
    conv => whnf
    refine cB h (fun hb14 h => ?_) (fun hb14 h => ?_)
    ·conv => whnf
     refine ⟨_, (fun _ => rr), ?_⟩
     conv => whnf
     refine ⟨_, (fun _ => rr), ?_⟩
     conv => whnf
     refine ⟨_, (fun _ => rr), ?_⟩
     conv => whnf
     refine ⟨_, (fun _ => rr), ?_⟩
     conv => whnf
     refine ⟨_, (fun _ => rr), ?_⟩
     conv => whnf
     refine ⟨_, (fun _ => rr), ?_⟩
     conv => whnf
     refine ⟨_, (fun _ => rr), ?_⟩
     conv => whnf
     refine ⟨_, (fun _ => rr), ?_⟩
     conv => whnf
     refine ⟨_, (fun _ => rr), ?_⟩
     conv => whnf
     cases h
     exact Wk.mk2 [0] 2 rfl rfl (by decide) rfl ⟨rr, trivial⟩ ⟨rr, rr, rr, rr, rr, trivial⟩
    conv => whnf
    refine ⟨_, ⟨rfl, rfl, rr⟩, ?_⟩
    conv => whnf
    refine ⟨_, ⟨rfl, rfl, rr⟩, ?_⟩
    conv => whnf
    refine ⟨_, (fun _ => rr), ?_⟩
    conv => whnf
    refine ⟨_, (fun _ => rr), ?_⟩
    conv => whnf
    refine ⟨_, (fun _ => rr), ?_⟩
    conv => whnf
    refine cB h (fun hb15 h => ?_) (fun hb15 h => ?_)
    ·conv => whnf
     refine ⟨_, (fun _ => rr), ?_⟩
     conv => whnf
     refine ⟨_, (fun _ => rr), ?_⟩
     conv => whnf
     refine ⟨_, (fun _ => rr), ?_⟩
     conv => whnf
     refine ⟨_, (fun _ => rr), ?_⟩
     conv => whnf
     refine ⟨_, (fun _ => rr), ?_⟩
     conv => whnf
     refine ⟨_, (fun _ => rr), ?_⟩
     conv => whnf
     refine ⟨_, (fun _ => rr), ?_⟩
     conv => whnf
     cases h
     exact Wk.mk2 [0] 2 rfl rfl (by decide) rfl ⟨rr, trivial⟩ ⟨rr, rr, rr, rr, rr, trivial⟩
    conv => whnf
    refine ⟨_, ⟨rfl, rfl, rr⟩, ?_⟩
    conv => whnf
    refine ⟨_, ⟨rfl, rfl, rr⟩, ?_⟩
    conv => whnf
    refine ⟨_, (fun _ => rr), ?_⟩
    conv => whnf
    refine ⟨_, (fun _ => rr), ?_⟩
    conv => whnf
    refine ⟨_, (fun _ => rr), ?_⟩
    conv => whnf
    refine cB h (fun hb16 h => ?_) (fun hb16 h => ?_)
    ·conv => whnf
     refine ⟨_, (fun _ => rr), ?_⟩
     conv => whnf
     refine ⟨_, (fun _ => rr), ?_⟩
     conv => whnf
     refine ⟨_, (fun _ => rr), ?_⟩
     conv => whnf
     refine ⟨_, (fun _ => rr), ?_⟩
     conv => whnf
     refine ⟨_, (fun _ => rr), ?_⟩
     conv => whnf
     cases h
     exact Wk.mk2 [0] 2 rfl rfl (by decide) rfl ⟨rr, trivial⟩ ⟨rr, rr, rr, rr, rr, trivial⟩
    conv => whnf
    refine ⟨_, ⟨rfl, rfl, rr⟩, ?_⟩
    conv => whnf
    refine ⟨_, ⟨rfl, rfl, rr⟩, ?_⟩
    conv => whnf
    refine ⟨_, (fun _ => rr), ?_⟩
    conv => whnf
    refine ⟨_, (fun _ => rr), ?_⟩
    conv => whnf
    refine ⟨_, (fun _ => rr), ?_⟩
    conv => whnf
    refine cB h (fun hb17 h => ?_) (fun hb17 h => ?_)
    ·conv => whnf
     refine ⟨_, (fun _ => rr), ?_⟩
     conv => whnf
     refine ⟨_, (fun _ => rr), ?_⟩
     conv => whnf
     refine ⟨_, (fun _ => rr), ?_⟩
     conv => whnf
     cases h
     exact Wk.mk2 [0] 2 rfl rfl (by decide) rfl ⟨rr, trivial⟩ ⟨rr, rr, rr, rr, rr, trivial⟩
    conv => whnf
    refine ⟨_, ⟨rfl, rfl, rr⟩, ?_⟩
    conv => whnf
    refine ⟨_, ⟨rfl, rfl, rr⟩, ?_⟩
    conv => whnf
    obtain ⟨r_18, hc19, h⟩ := bS h
    refine ⟨_, (fun _ => by (conv => whnf); (refine PC.ecall (P128 x_11.Anchor r_18 hc19) (fun rs hrs => ?_)); (subst hrs); (conv => whnf); (exact rr)), ?_⟩
    conv => whnf
    refine ⟨_, (fun _ => rr), ?_⟩
    conv => whnf
    refine ⟨_, (fun _ => rr), ?_⟩
    conv => whnf
    refine ⟨_, (fun _ => rr), ?_⟩
    conv => whnf
    refine cB h (fun hb20 h => ?_) (fun hb20 h => ?_)
    ·conv => whnf
     refine ⟨_, (fun _ => rr), ?_⟩
     conv => whnf
     cases h
     exact Wk.mk2 [0] 2 rfl rfl (by decide) rfl ⟨rr, trivial⟩ ⟨rr, rr, rr, rr, rr, trivial⟩
    conv => whnf
    refine ⟨_, (fun _ => rr), ?_⟩
    conv => whnf
    refine ⟨_, (fun _ => rr), ?_⟩
    conv => whnf
    refine ⟨_, (fun _ => rr), ?_⟩
    conv => whnf
    refine cB h (fun hb21 h => ?_) (fun hb21 h => ?_)
    ·conv => whnf
     refine ⟨_, ⟨rfl, rfl, rr⟩, ?_⟩
     conv => whnf
     refine ⟨_, ⟨rfl, rfl, rr⟩, ?_⟩
     conv => whnf
     refine ⟨_, (fun _ => rr), ?_⟩
     conv => whnf
     refine ⟨_, (fun _ => by (conv => whnf); (refine arS_raw ?_); (conv => whnf); (exact rr)), ?_⟩
     conv => whnf
     obtain ⟨x_22, hx_22, h⟩ := bS h
     refine ⟨_, ⟨rfl, rfl, (by (conv => whnf); (refine ixP_of hx_22 ?_); (conv => whnf); (exact rr))⟩, ?_⟩
     conv => whnf
     refine ⟨_, ⟨rfl, rfl, rr⟩, ?_⟩
     conv => whnf
     refine ⟨_, ⟨rfl, rfl, rr⟩, ?_⟩
     conv => whnf
     obtain ⟨r_23, hc24, h⟩ := bS h
     refine ⟨_, (fun _ => by (conv => whnf); (refine PC.ecall (P129 x_22 x_11 r_23 hc24) (fun rs hrs => ?_)); (subst hrs); (conv => whnf); (exact rr)), ?_⟩
     conv => whnf
     refine ⟨_, (fun _ => rr), ?_⟩
     conv => whnf
     refine ⟨_, (fun _ => rr), ?_⟩
     conv => whnf
     refine ⟨_, (fun _ => rr), ?_⟩
     conv => whnf
     cases h
     exact Wk.mk2 [0] 2 rfl rfl (by decide) rfl ⟨rr, trivial⟩ ⟨rr, rr, rr, rr, rr, trivial⟩
    conv => whnf
    refine ⟨_, (fun _ => rr), ?_⟩
    conv => whnf
    refine ⟨_, (fun _ => rr), ?_⟩
    conv => whnf
    cases h
    exact Wk.mk2 [0] 2 rfl rfl (by decide) rfl ⟨rr, trivial⟩ ⟨rr, rr, rr, rr, rr, trivial⟩
   clear hv13
   conv => whnf
   refine Tr.weak hw ?_
   refine Tr.cond ?_
   conv => whnf
   refine cB h (fun hb25 h => ?_) (fun hb25 h => ?_)
   ·refine Tr.seq ?_
    refine rg ?_
    conv => whnf
    refine Tr.ret ?_
    conv => whnf
    cases h
    rfl
   refine Tr.skip ?_
   conv => whnf
   refine rg ?_
   conv => whnf
   refine arS_raw ?_
   conv => whnf
   refine ⟨((w64 (i_6 + 1))), h, ?_⟩
   exact Wk.mk2 [0] 1 rfl rfl (by decide) rfl ⟨rr, trivial⟩ ⟨rr, rr, rr, rr, trivial⟩
  refine Tr.exit ?_
  conv => whnf
  refine ⟨(), h, ?_⟩
  exact Wk.mk2 [0] 1 rfl rfl (by decide) rfl ⟨rr, trivial⟩ ⟨rr, rr, rr, trivial⟩
 clear h
 rintro _ h T1 H1 hw
 replace h : M141 k_1 () = some r_2 := h
 conv => whnf
 refine Tr.weak hw ?_
 unfold M141 at h
 refine Tr.seq ?_
 refine Tr.seq ?_
 refine rg ?_
 conv => whnf
 refine Tr.cutQ (α := Unit) (fun s => ([(1, .pt 0 0), (2, (dI 0)), (3, (dI (((k_1.Segments).length : Int))))], [some (.var [.d (.ls (List.map eTSegment k_1.Segments)), .d (.ls (List.map (eL eI) k_1.Far))])])) (fun s => M140 k_1 s = some r_2) ?_ ?_
 ·refine Tr.block ?_
  refine Tr.loopM (σ := Int) (fun n s => M133 k_1 (M140 k_1) n s) r_2 (fun s => ([(1, .pt 0 0), (2, (dI 0)), (3, (dI (((k_1.Segments).length : Int)))), (6, (dI s))], [some (.var [.d (.ls (List.map eTSegment k_1.Segments)), .d (.ls (List.map (eL eI) k_1.Far))])])) (((((k_1.Segments).length : Int)) + 1 - 0 : Int).toNat + 1) (0) h (fun s => rfl) (Wk.mk2 [0] 1 rfl rfl (by decide) rfl ⟨rr, trivial⟩ ⟨rr, rr, rr, rr, trivial⟩) ?_
  clear h
  rintro n_28 i_27 h
  replace h : M133 k_1 (M140 k_1) (n_28 + 1) i_27 = some r_2 := h
  rw [M133] at h
  refine Tr.seq ?_
  refine Tr.seq ?_
  refine rg ?_
  conv => whnf
  refine Tr.cond ?_
  conv => whnf
  refine cB h (fun hb31 h => ?_) (fun hb31 h => ?_)
  ·refine Tr.skip ?_
   conv => whnf
   refine Tr.seq ?_
   refine Tr.block ?_
   refine Tr.seq ?_
   refine Tr.seq ?_
   refine rg ?_
   conv => whnf
   obtain ⟨x_32, hx_32, h⟩ := bS h
   refine ixP_of hx_32 ?_
   conv => whnf
   refine lnS_map ?_
   conv => whnf
   refine arS_raw ?_
   conv => whnf
   refine cB h (fun hb33 h => ?_) (fun hb33 h => ?_)
   ·conv => whnf
    refine Tr.cond ?_
    conv => whnf
    refine Tr.seq ?_
    refine rg ?_
    conv => whnf
    refine Tr.ret ?_
    conv => whnf
    cases h
    rfl
   conv => whnf
   obtain ⟨x_34, hx_34, h⟩ := bS h
   refine ixP_of hx_34 ?_
   conv => whnf
   obtain ⟨x_35, hx_35, h⟩ := bS h
   refine ixP_of hx_35 ?_
   conv => whnf
   refine Tr.cond ?_
   conv => whnf
   refine cB h (fun hb36 h => ?_) (fun hb36 h => ?_)
   ·refine Tr.seq ?_
    refine rg ?_
    conv => whnf
    refine Tr.ret ?_
    conv => whnf
    cases h
    rfl
   refine Tr.skip ?_
   conv => whnf
   refine Tr.seq ?_
   refine rg ?_
   conv => whnf
   refine Tr.cutQ (α := Unit) (fun s => ([(1, .pt 0 0), (2, (dI 0)), (3, (dI (((k_1.Segments).length : Int)))), (6, (dI i_27))], [some (.var [.d (.ls (List.map eTSegment k_1.Segments)), .d (.ls (List.map (eL eI) k_1.Far))])])) (fun s => M132 i_27 (M133 k_1 (M140 k_1) n_28) s = some r_2) ?_ ?_
   ·refine Tr.block ?_
    refine Tr.loopM (σ := Int) (fun n s => M131 k_1 i_27 (M132 i_27 (M133 k_1 (M140 k_1) n_28)) n s) r_2 (fun s => ([(1, .pt 0 0), (2, (dI 0)), (3, (dI (((k_1.Segments).length : Int)))), (6, (dI i_27)), (7, (dI s))], [some (.var [.d (.ls (List.map eTSegment k_1.Segments)), .d (.ls (List.map (eL eI) k_1.Far))])])) (((((k_1.Segments).length : Int)) + 1 - 0 : Int).toNat + 1) (0) h (fun s => rfl) (Wk.mk2 [0] 1 rfl rfl (by decide) rfl ⟨rr, trivial⟩ ⟨rr, rr, rr, rr, rr, trivial⟩) ?_
    clear h
    rintro n_39 j_38 h
    replace h : M131 k_1 i_27 (M132 i_27 (M133 k_1 (M140 k_1) n_28)) (n_39 + 1) j_38 = some r_2 := h
    rw [M131] at h
    refine Tr.seq ?_
    refine Tr.seq ?_
    refine rg ?_
    conv => whnf
    refine Tr.cond ?_
    conv => whnf
    refine cB h (fun hb42 h => ?_) (fun hb42 h => ?_)
    ·refine Tr.skip ?_
     conv => whnf
     refine Tr.seq ?_
     refine Tr.block ?_
     refine Tr.seq ?_
     refine rg ?_
     conv => whnf
     obtain ⟨x_43, hx_43, h⟩ := bS h
     refine ixP_of hx_43 ?_
     conv => whnf
     obtain ⟨x_44, hx_44, h⟩ := bS h
     refine ixP_of hx_44 ?_
     conv => whnf
     refine cB h (fun hb45 h => ?_) (fun hb45 h => ?_)
     ·conv => whnf
      refine Tr.cond ?_
      conv => whnf
      refine Tr.seq ?_
      refine rg ?_
      conv => whnf
      refine Tr.ret ?_
      conv => whnf
      cases h
      rfl
     conv => whnf
     obtain ⟨x_46, hx_46, h⟩ := bS h
     refine ixP_of hx_46 ?_
     conv => whnf
     obtain ⟨x_47, hx_47, h⟩ := bS h
     refine ixP_of hx_47 ?_
     conv => whnf
     refine Tr.cond ?_
     conv => whnf
     refine cB h (fun hb48 h => ?_) (fun hb48 h => ?_)
     ·refine Tr.seq ?_
      refine rg ?_
      conv => whnf
      refine Tr.ret ?_
      conv => whnf
      cases h
      rfl
     refine Tr.skip ?_
     conv => whnf
     refine rg ?_
     conv => whnf
     refine arS_raw ?_
     conv => whnf
     refine ⟨((w64 (j_38 + 1))), h, ?_⟩
     exact Wk.mk2 [0] 1 rfl rfl (by decide) rfl ⟨rr, trivial⟩ ⟨rr, rr, rr, rr, rr, trivial⟩
    refine Tr.exit ?_
    conv => whnf
    refine ⟨(), h, ?_⟩
    exact Wk.mk2 [0] 1 rfl rfl (by decide) rfl ⟨rr, trivial⟩ ⟨rr, rr, rr, rr, trivial⟩
   clear h
   rintro _ h T1 H1 hw
   replace h : M132 i_27 (M133 k_1 (M140 k_1) n_28) () = some r_2 := h
   conv => whnf
   refine Tr.weak hw ?_
   unfold M132 at h
   refine rg ?_
   conv => whnf
   refine arS_raw ?_
   conv => whnf
   refine ⟨((w64 (i_27 + 1))), h, ?_⟩
   exact Wk.mk2 [0] 1 rfl rfl (by decide) rfl ⟨rr, trivial⟩ ⟨rr, rr, rr, rr, trivial⟩
  refine Tr.exit ?_
  conv => whnf
  refine ⟨(), h, ?_⟩
  exact Wk.mk2 [0] 1 rfl rfl (by decide) rfl ⟨rr, trivial⟩ ⟨rr, rr, rr, trivial⟩
 clear h
 rintro _ h T1 H1 hw
 replace h : M140 k_1 () = some r_2 := h
 conv => whnf
 refine Tr.weak hw ?_
 unfold M140 at h
 refine Tr.seq ?_
 refine Tr.seq ?_
 refine rg ?_
 conv => whnf
 refine Tr.cutQ (α := Unit) (fun s => ([(2, (dI 0))], [])) (fun s => M139 s = some r_2) ?_ ?_
 ·refine Tr.block ?_
  refine Tr.loopM (σ := Int) (fun n s => M138 k_1 M139 n s) r_2 (fun s => ([(1, .pt 0 0), (2, (dI 0)), (3, (dI (((k_1.Segments).length : Int)))), (8, (dI s))], [some (.var [.d (.ls (List.map eTSegment k_1.Segments)), .d (.ls (List.map (eL eI) k_1.Far))])])) (((((k_1.Segments).length : Int)) + 1 - 0 : Int).toNat + 1) (0) h (fun s => rfl) (Wk.mk2 [0] 1 rfl rfl (by decide) rfl ⟨rr, trivial⟩ ⟨rr, rr, rr, rr, trivial⟩) ?_
  clear h
  rintro n_51 i_50 h
  replace h : M138 k_1 M139 (n_51 + 1) i_50 = some r_2 := h
  rw [M138] at h
  refine Tr.seq ?_
  refine Tr.seq ?_
  refine rg ?_
  conv => whnf
  refine Tr.cond ?_
  conv => whnf
  refine cB h (fun hb54 h => ?_) (fun hb54 h => ?_)
  ·refine Tr.skip ?_
   conv => whnf
   refine Tr.seq ?_
   refine Tr.block ?_
   refine Tr.seq ?_
   refine rg ?_
   conv => whnf
   refine Tr.cutQ (α := Unit) (fun s => ([(1, .pt 0 0), (2, (dI 0)), (3, (dI (((k_1.Segments).length : Int)))), (8, (dI i_50))], [some (.var [.d (.ls (List.map eTSegment k_1.Segments)), .d (.ls (List.map (eL eI) k_1.Far))])])) (fun s => M137 i_50 (M138 k_1 M139 n_51) s = some r_2) ?_ ?_
   ·refine Tr.block ?_
    refine Tr.loopM (σ := Int) (fun n s => M136 k_1 i_50 (M137 i_50 (M138 k_1 M139 n_51)) n s) r_2 (fun s => ([(1, .pt 0 0), (2, (dI 0)), (3, (dI (((k_1.Segments).length : Int)))), (8, (dI i_50)), (9, (dI s))], [some (.var [.d (.ls (List.map eTSegment k_1.Segments)), .d (.ls (List.map (eL eI) k_1.Far))])])) (((((k_1.Segments).length : Int)) + 1 - 0 : Int).toNat + 1) (0) h (fun s => rfl) (Wk.mk2 [0] 1 rfl rfl (by decide) rfl ⟨rr, trivial⟩ ⟨rr, rr, rr, rr, rr, trivial⟩) ?_
    clear h
    rintro n_57 j_56 h
    replace h : M136 k_1 i_50 (M137 i_50 (M138 k_1 M139 n_51)) (n_57 + 1) j_56 = some r_2 := h
    rw [M136] at h
    refine Tr.seq ?_
    refine Tr.seq ?_
    refine rg ?_
    conv => whnf
    refine Tr.cond ?_
    conv => whnf
    refine cB h (fun hb60 h => ?_) (fun hb60 h => ?_)
    ·refine Tr.skip ?_
     conv => whnf
     refine Tr.seq ?_
     refine Tr.block ?_
     refine Tr.seq ?_
     refine rg ?_
     conv => whnf
     refine Tr.cutQ (α := Unit) (fun s => ([(1, .pt 0 0), (2, (dI 0)), (3, (dI (((k_1.Segments).length : Int)))), (8, (dI i_50)), (9, (dI j_56))], [some (.var [.d (.ls (List.map eTSegment k_1.Segments)), .d (.ls (List.map (eL eI) k_1.Far))])])) (fun s => M135 j_56 (M136 k_1 i_50 (M137 i_50 (M138 k_1 M139 n_51)) n_57) s = some r_2) ?_ ?_
     ·refine Tr.block ?_
      refine Tr.loopM (σ := Int) (fun n s => M134 k_1 i_50 j_56 (M135 j_56 (M136 k_1 i_50 (M137 i_50 (M138 k_1 M139 n_51)) n_57)) n s) r_2 (fun s => ([(1, .pt 0 0), (2, (dI 0)), (3, (dI (((k_1.Segments).length : Int)))), (8, (dI i_50)), (9, (dI j_56)), (10, (dI s))], [some (.var [.d (.ls (List.map eTSegment k_1.Segments)), .d (.ls (List.map (eL eI) k_1.Far))])])) (((((k_1.Segments).length : Int)) + 1 - 0 : Int).toNat + 1) (0) h (fun s => rfl) (Wk.mk2 [0] 1 rfl rfl (by decide) rfl ⟨rr, trivial⟩ ⟨rr, rr, rr, rr, rr, rr, trivial⟩) ?_
      clear h
      rintro n_63 m_62 h
      replace h : M134 k_1 i_50 j_56 (M135 j_56 (M136 k_1 i_50 (M137 i_50 (M138 k_1 M139 n_51)) n_57)) (n_63 + 1) m_62 = some r_2 := h
      rw [M134] at h
      refine Tr.seq ?_
      refine Tr.seq ?_
      refine rg ?_
      conv => whnf
      refine Tr.cond ?_
      conv => whnf
      refine cB h (fun hb66 h => ?_) (fun hb66 h => ?_)
      ·refine Tr.skip ?_
       conv => whnf
       refine Tr.seq ?_
       refine Tr.block ?_
       refine Tr.seq ?_
       refine Tr.draw (DrawP.seqQ layOK mixed [] [(0, 3), (1, 3), (2, 1), (3, 2), (4, 2), (5, 1), (6, 2), (7, 2), (8, 3), (9, 3), (10, 1), (11, 2), (12, 2), (13, 1), (14, 2), (15, 2), (16, 3), (17, 3), (18, 1), (19, 2), (20, 2), (21, 1), (22, 2), (23, 2), (24, 1), (25, 1)] (by kernel_rfl) ?_)
       conv => whnf
       refine ⟨_, ⟨rfl, rfl, rr⟩, ?_⟩
       conv => whnf
       refine ⟨_, ⟨rfl, rfl, rr⟩, ?_⟩
       conv => whnf
       refine ⟨_, (fun _ => rr), ?_⟩
       conv => whnf
       obtain ⟨x_67, hx_67, h⟩ := bS h
       refine ⟨_, ⟨rfl, rfl, (by (conv => whnf); (refine ixP_of hx_67 ?_); (conv => whnf); (exact rr))⟩, ?_⟩
       conv => whnf
       refine ⟨_, ⟨rfl, rfl, rr⟩, ?_⟩
       conv => whnf
       refine ⟨_, (fun _ => rr), ?_⟩
       conv => whnf
       obtain ⟨x_68, hx_68, h⟩ := bS h
       refine ⟨_, ⟨rfl, rfl, (by (conv => whnf); (refine ixP_of hx_68 ?_); (conv => whnf); (exact rr))⟩, ?_⟩
       conv => whnf
       refine ⟨_, ⟨rfl, rfl, rr⟩, ?_⟩
       conv => whnf
       refine ⟨_, ⟨rfl, rfl, rr⟩, ?_⟩
       conv => whnf
       refine ⟨_, ⟨rfl, rfl, rr⟩, ?_⟩
       conv => whnf
       refine ⟨_, (fun _ => rr), ?_⟩
       conv => whnf
       obtain ⟨x_69, hx_69, h⟩ := bS h
       refine ⟨_, ⟨rfl, rfl, (by (conv => whnf); (refine ixP_of hx_69 ?_); (conv => whnf); (exact rr))⟩, ?_⟩
       conv => whnf
       refine ⟨_, ⟨rfl, rfl, rr⟩, ?_⟩
       conv => whnf
       refine ⟨_, (fun _ => rr), ?_⟩
       conv => whnf
       obtain ⟨x_70, hx_70, h⟩ := bS h
       refine ⟨_, ⟨rfl, rfl, (by (conv => whnf); (refine ixP_of hx_70 ?_); (conv => whnf); (exact rr))⟩, ?_⟩
       conv => whnf
       refine ⟨_, ⟨rfl, rfl, rr⟩, ?_⟩
       conv => whnf
       refine ⟨_, ⟨rfl, rfl, rr⟩, ?_⟩
       conv => whnf
       refine ⟨_, ⟨rfl, rfl, rr⟩, ?_⟩
       conv => whnf
       refine ⟨_, (fun _ => rr), ?_⟩
       conv => whnf
       obtain ⟨x_71, hx_71, h⟩ := bS h
       refine ⟨_, ⟨rfl, rfl, (by (conv => whnf); (refine ixP_of hx_71 ?_); (conv => whnf); (exact rr))⟩, ?_⟩
       conv => whnf
       refine ⟨_, ⟨rfl, rfl, rr⟩, ?_⟩
       conv => whnf
       refine ⟨_, (fun _ => rr), ?_⟩
       conv => whnf
       obtain ⟨x_72, hx_72, h⟩ := bS h
       refine ⟨_, ⟨rfl, rfl, (by (conv => whnf); (refine ixP_of hx_72 ?_); (conv => whnf); (exact rr))⟩, ?_⟩
       conv => whnf
       refine ⟨_, ⟨rfl, rfl, rr⟩, ?_⟩
       conv => whnf
       refine ⟨_, (fun _ => by (conv => whnf); (refine arS_raw ?_); (conv => whnf); (exact rr)), ?_⟩
       conv => whnf
       refine ⟨_, (fun _ => rr), ?_⟩
       conv => whnf
       refine Tr.cond ?_
       conv => whnf
       refine cB h (fun hb73 h => ?_) (fun hb73 h => ?_)
       ·refine Tr.seq ?_
        refine rg ?_
        conv => whnf
        refine Tr.ret ?_
        conv => whnf
        cases h
        rfl
       refine Tr.skip ?_
       conv => whnf
       refine rg ?_
       conv => whnf
       refine arS_raw ?_
       conv => whnf
       refine ⟨((w64 (m_62 + 1))), h, ?_⟩
       exact Wk.mk2 [0] 1 rfl rfl (by decide) rfl ⟨rr, trivial⟩ ⟨rr, rr, rr, rr, rr, rr, trivial⟩
      refine Tr.exit ?_
      conv => whnf
      refine ⟨(), h, ?_⟩
      exact Wk.mk2 [0] 1 rfl rfl (by decide) rfl ⟨rr, trivial⟩ ⟨rr, rr, rr, rr, rr, trivial⟩
     clear h
     rintro _ h T1 H1 hw
     replace h : M135 j_56 (M136 k_1 i_50 (M137 i_50 (M138 k_1 M139 n_51)) n_57) () = some r_2 := h
     conv => whnf
     refine Tr.weak hw ?_
     unfold M135 at h
     refine rg ?_
     conv => whnf
     refine arS_raw ?_
     conv => whnf
     refine ⟨((w64 (j_56 + 1))), h, ?_⟩
     exact Wk.mk2 [0] 1 rfl rfl (by decide) rfl ⟨rr, trivial⟩ ⟨rr, rr, rr, rr, rr, trivial⟩
    refine Tr.exit ?_
    conv => whnf
    refine ⟨(), h, ?_⟩
    exact Wk.mk2 [0] 1 rfl rfl (by decide) rfl ⟨rr, trivial⟩ ⟨rr, rr, rr, rr, trivial⟩
   clear h
   rintro _ h T1 H1 hw
   replace h : M137 i_50 (M138 k_1 M139 n_51) () = some r_2 := h
   conv => whnf
   refine Tr.weak hw ?_
   unfold M137 at h
   refine rg ?_
   conv => whnf
   refine arS_raw ?_
   conv => whnf
   refine ⟨((w64 (i_50 + 1))), h, ?_⟩
   exact Wk.mk2 [0] 1 rfl rfl (by decide) rfl ⟨rr, trivial⟩ ⟨rr, rr, rr, rr, trivial⟩
  refine Tr.exit ?_
  conv => whnf
  refine ⟨(), h, ?_⟩
  exact Wk.mk2 [] 1 rfl rfl (by decide) rfl trivial ⟨rr, trivial⟩
 clear h
 rintro _ h T1 H1 hw
 replace h : M139 () = some r_2 := h
 conv => whnf
 refine Tr.weak hw ?_
 unfold M139 at h
 refine Tr.seq ?_
 refine rg ?_
 conv => whnf
 refine Tr.ret ?_
 conv => whnf
 cases h
 rfl
theorem P143 (n_1 : Int) (least_2 : Int) (most_3 : Int) (r_4 : Bool) (h : M143 n_1 least_2 most_3 = some r_4) :
    PC prog 81 [(.i .i64 n_1), (.i .i64 least_2), (.i .i64 most_3)] (fun rs => rs = [(.b r_4)]) := by
 refine PC.of_tr (cx := ⟨15, none, lay, 0⟩) layOK func81 rfl rfl rfl rfl rfl (by simp [f81]) ?_
 unfold M143 at h
 refine Tr.seq ?_
 refine rg ?_
 conv => whnf
 refine Tr.seq ?_
 refine rg ?_
 conv => whnf
 refine cB h (fun hb5 h => ?_) (fun hb5 h => ?_)
 ·conv => whnf
  refine Tr.ret ?_
  conv => whnf
  cases h
  rfl
 conv => whnf
 refine Tr.ret ?_
 conv => whnf
 cases h
 rfl
theorem P144 (n_1 : Int) (r_2 : Bool) (h : M144 n_1 = some r_2) :
    PC prog 44 [(.i .i64 n_1)] (fun rs => rs = [(.b r_2)]) := by
 refine PC.of_tr (cx := ⟨5, none, lay, 0⟩) layOK func44 rfl rfl rfl rfl rfl (by simp [f44]) ?_
 unfold M144 at h
 refine Tr.seq ?_
 refine rg ?_
 conv => whnf
 refine Tr.seq ?_
 refine rg ?_
 conv => whnf
 obtain ⟨r_3, hc4, h⟩ := bS h
 refine PC.ecall (P143 n_1 1 9999 r_3 hc4) (fun rs hrs => ?_)
 subst hrs
 conv => whnf
 refine Tr.ret ?_
 conv => whnf
 cases h
 rfl
theorem P145 (k_1 : TClocks) (x_2 : TOutcome) (r_3 : Int) (h : M145 k_1 x_2 = some r_3) :
    PC prog 45 [(eTClocks k_1), (eTOutcome x_2)] (fun rs => rs = [(.i .i64 r_3)]) := by
 refine PC.of_tr (cx := ⟨63, none, lay, 0⟩) layOK func45 rfl rfl rfl rfl rfl (by simp [f45]) ?_
 unfold M145 at h
 refine Tr.seq ?_
 refine rg ?_
 conv => whnf
 refine Tr.seq ?_
 refine rg ?_
 conv => whnf
 obtain ⟨r_4, hc5, h⟩ := bS h
 refine PC.ecall (P142 k_1 r_4 hc5) (fun rs hrs => ?_)
 subst hrs
 conv => whnf
 refine Tr.seq ?_
 refine Tr.seq ?_
 refine rg ?_
 conv => whnf
 refine Tr.cond ?_
 conv => whnf
 refine cB h (fun hb6 h => ?_) (fun hb6 h => ?_)
 ·refine Tr.seq ?_
  refine rg ?_
  conv => whnf
  refine Tr.ret ?_
  conv => whnf
  cases h
  rfl
 refine Tr.skip ?_
 conv => whnf
 refine Tr.seq ?_
 refine Tr.seq ?_
 refine Tr.cutQ1 ([(4, (dI 0)), (62, .d (.b (bif x_2.Out then ((x_2.Seg != (-1)) || ((x_2.Lo != 0) || (x_2.Hi != 0))) else ((decide (x_2.Seg < (-1))) || ((decide (x_2.Seg ≥ (((k_1.Segments).length : Int)))) || ((decide (x_2.Lo < (-288230376151711744))) || ((decide (x_2.Lo > x_2.Hi)) || (decide (x_2.Hi > 288230376151711744)))))))))]) ([]) ?_ (fun T1 H1 hw => ?_)
 ·refine rg ?_
  conv => whnf
  refine condS_mk (fun hb8 => ?_) (fun hb8 => ?_)
  ·conv => whnf
   refine condS_mk (fun hb9 => ?_) (fun hb9 => ?_)
   ·conv => whnf
    exact Wk.mk2 [] 2 rfl rfl (by decide) rfl trivial ⟨rr, ⟨rfl, (by first | rfl | (simp only [↓hb6, ↓hb8, ↓hb9, bl]; done) | (simp only [↓hb6, ↓hb8, ↓hb9, bl]; rfl))⟩, trivial⟩
   conv => whnf
   refine condS_mk (fun hb10 => ?_) (fun hb10 => ?_)
   ·conv => whnf
    exact Wk.mk2 [] 2 rfl rfl (by decide) rfl trivial ⟨rr, ⟨rfl, (by first | rfl | (simp only [↓hb6, ↓hb8, ↓hb9, ↓hb10, bl]; done) | (simp only [↓hb6, ↓hb8, ↓hb9, ↓hb10, bl]; rfl))⟩, trivial⟩
   conv => whnf
   refine condS_mk (fun hb11 => ?_) (fun hb11 => ?_)
   ·conv => whnf
    exact Wk.mk2 [] 2 rfl rfl (by decide) rfl trivial ⟨rr, ⟨rfl, (by first | rfl | (simp only [↓hb6, ↓hb8, ↓hb9, ↓hb10, ↓hb11, bl]; done) | (simp only [↓hb6, ↓hb8, ↓hb9, ↓hb10, ↓hb11, bl]; rfl))⟩, trivial⟩
   conv => whnf
   refine condS_kf (by rw [hb8]; rfl) ?_
   conv => whnf
   exact Wk.mk2 [] 2 rfl rfl (by decide) rfl trivial ⟨rr, ⟨rfl, (by first | rfl | (simp only [↓hb6, ↓hb8, ↓hb9, ↓hb10, ↓hb11, bl]; done) | (simp only [↓hb6, ↓hb8, ↓hb9, ↓hb10, ↓hb11, bl]; rfl))⟩, trivial⟩
  conv => whnf
  refine condS_kt (by rw [hb8]; rfl) ?_
  conv => whnf
  refine condS_mk (fun hb12 => ?_) (fun hb12 => ?_)
  ·conv => whnf
   exact Wk.mk2 [] 2 rfl rfl (by decide) rfl trivial ⟨rr, ⟨rfl, (by first | rfl | (simp only [↓hb6, ↓hb8, ↓hb12, bl]; done) | (simp only [↓hb6, ↓hb8, ↓hb12, bl]; rfl))⟩, trivial⟩
  conv => whnf
  refine lnS_map ?_
  conv => whnf
  refine condS_mk (fun hb13 => ?_) (fun hb13 => ?_)
  ·conv => whnf
   exact Wk.mk2 [] 2 rfl rfl (by decide) rfl trivial ⟨rr, ⟨rfl, (by first | rfl | (simp only [↓hb6, ↓hb8, ↓hb12, ↓hb13, bl]; done) | (simp only [↓hb6, ↓hb8, ↓hb12, ↓hb13, bl]; rfl))⟩, trivial⟩
  conv => whnf
  refine condS_mk (fun hb14 => ?_) (fun hb14 => ?_)
  ·conv => whnf
   exact Wk.mk2 [] 2 rfl rfl (by decide) rfl trivial ⟨rr, ⟨rfl, (by first | rfl | (simp only [↓hb6, ↓hb8, ↓hb12, ↓hb13, ↓hb14, bl]; done) | (simp only [↓hb6, ↓hb8, ↓hb12, ↓hb13, ↓hb14, bl]; rfl))⟩, trivial⟩
  conv => whnf
  refine condS_mk (fun hb15 => ?_) (fun hb15 => ?_)
  ·conv => whnf
   exact Wk.mk2 [] 2 rfl rfl (by decide) rfl trivial ⟨rr, ⟨rfl, (by first | rfl | (simp only [↓hb6, ↓hb8, ↓hb12, ↓hb13, ↓hb14, ↓hb15, bl]; done) | (simp only [↓hb6, ↓hb8, ↓hb12, ↓hb13, ↓hb14, ↓hb15, bl]; rfl))⟩, trivial⟩
  conv => whnf
  exact Wk.mk2 [] 2 rfl rfl (by decide) rfl trivial ⟨rr, ⟨rfl, (by first | rfl | (simp only [↓hb6, ↓hb8, ↓hb12, ↓hb13, ↓hb14, ↓hb15, bl]; done) | (simp only [↓hb6, ↓hb8, ↓hb12, ↓hb13, ↓hb14, ↓hb15, bl]; rfl))⟩, trivial⟩
 conv => whnf
 refine Tr.weak hw ?_
 refine Tr.cond ?_
 conv => whnf
 refine cB h (fun hb16 h => ?_) (fun hb16 h => ?_)
 ·refine Tr.seq ?_
  refine rg ?_
  conv => whnf
  refine Tr.ret ?_
  conv => whnf
  cases h
  rfl
 refine Tr.skip ?_
 conv => whnf
 refine Tr.seq ?_
 refine rg ?_
 conv => whnf
 refine Tr.ret ?_
 conv => whnf
 cases h
 rfl
theorem P148 (f_1 : TField) (world_2 : Int) (r_3 : Bool) (h : M148 f_1 world_2 = some r_3) :
    PC prog 82 [(eTField f_1), (.i .i64 world_2)] (fun rs => rs = [(.b r_3)]) := by
 refine PC.of_tr (cx := ⟨39, none, lay, 0⟩) layOK func82 rfl rfl rfl rfl rfl (by simp [f82]) ?_
 unfold M148 at h
 refine Tr.seq ?_
 refine rg ?_
 conv => whnf
 refine Tr.seq ?_
 refine Tr.seq ?_
 refine rg ?_
 conv => whnf
 refine Tr.cutQ (α := Unit) (fun s => ([(4, .d (.b false))], [])) (fun s => M147 s = some r_3) ?_ ?_
 ·refine Tr.block ?_
  refine Tr.loopM (σ := Int) (fun n s => M146 f_1 world_2 M147 n s) r_3 (fun s => ([(1, (dI world_2)), (2, .pt 0 0), (4, .d (.b false)), (5, (dI s))], [some (.var [.d (.ls (List.map eTSegment f_1.Clocks.Segments)), .d (.ls (List.map (eL eI) f_1.Clocks.Far)), .d (.ls (List.map eTPair f_1.Pairs)), .d (.ls (List.map eTRunner f_1.Runners))])])) (((((f_1.Runners).length : Int)) - 0 : Int).toNat + 1) (0) h (fun s => rfl) (Wk.mk2 [0] 1 rfl rfl (by decide) rfl ⟨rr, trivial⟩ ⟨rr, rr, rr, rr, trivial⟩) ?_
  clear h
  rintro n_6 i_5 h
  replace h : M146 f_1 world_2 M147 (n_6 + 1) i_5 = some r_3 := h
  rw [M146] at h
  refine Tr.seq ?_
  refine Tr.seq ?_
  refine rg ?_
  conv => whnf
  refine lnS_map ?_
  conv => whnf
  refine Tr.cond ?_
  conv => whnf
  refine cB h (fun hb9 h => ?_) (fun hb9 h => ?_)
  ·refine Tr.skip ?_
   conv => whnf
   refine Tr.seq ?_
   refine Tr.block ?_
   refine Tr.seq ?_
   refine rg ?_
   conv => whnf
   refine cB h (fun hb10 h => ?_) (fun hb10 h => ?_)
   ·conv => whnf
    refine Tr.cond ?_
    conv => whnf
    refine Tr.seq ?_
    refine rg ?_
    conv => whnf
    refine Tr.ret ?_
    conv => whnf
    cases h
    rfl
   conv => whnf
   obtain ⟨x_11, hx_11, h⟩ := bS h
   refine ixP_of hx_11 ?_
   conv => whnf
   refine lnS_map ?_
   conv => whnf
   refine cB h (fun hb12 h => ?_) (fun hb12 h => ?_)
   ·conv => whnf
    refine Tr.cond ?_
    conv => whnf
    refine Tr.seq ?_
    refine rg ?_
    conv => whnf
    refine Tr.ret ?_
    conv => whnf
    cases h
    rfl
   conv => whnf
   obtain ⟨x_13, hx_13, h⟩ := bS h
   refine ixP_of hx_13 ?_
   conv => whnf
   obtain ⟨x_14, hx_14, h⟩ := bS h
   refine ixP_of hx_14 ?_
   conv => whnf
   refine lnS_map ?_
   conv => whnf
   refine Tr.cond ?_
   conv => whnf
   refine cB h (fun hb15 h => ?_) (fun hb15 h => ?_)
   ·refine Tr.seq ?_
    refine rg ?_
    conv => whnf
    refine Tr.ret ?_
    conv => whnf
    cases h
    rfl
   refine Tr.skip ?_
   conv => whnf
   refine rg ?_
   conv => whnf
   refine arS_raw ?_
   conv => whnf
   refine ⟨((w64 (i_5 + 1))), h, ?_⟩
   exact Wk.mk2 [0] 1 rfl rfl (by decide) rfl ⟨rr, trivial⟩ ⟨rr, rr, rr, rr, trivial⟩
  refine Tr.exit ?_
  conv => whnf
  refine ⟨(), h, ?_⟩
  exact Wk.mk2 [] 1 rfl rfl (by decide) rfl trivial ⟨rr, trivial⟩
 clear h
 rintro _ h T1 H1 hw
 replace h : M147 () = some r_3 := h
 conv => whnf
 refine Tr.weak hw ?_
 unfold M147 at h
 refine Tr.seq ?_
 refine rg ?_
 conv => whnf
 refine Tr.ret ?_
 conv => whnf
 cases h
 rfl
theorem P151 (f_1 : TField) (r_2 : Bool) (h : M151 f_1 = some r_2) :
    PC prog 46 [(eTField f_1)] (fun rs => rs = [(.b r_2)]) := by
 refine PC.of_tr (cx := ⟨14, none, lay, 0⟩) layOK func46 rfl rfl rfl rfl rfl (by simp [f46]) ?_
 unfold M151 at h
 refine Tr.seq ?_
 refine rg ?_
 conv => whnf
 refine Tr.seq ?_
 refine Tr.seq ?_
 refine rg ?_
 conv => whnf
 refine Tr.cutQ (α := Unit) (fun s => ([(2, .d (.b false))], [])) (fun s => M150 s = some r_2) ?_ ?_
 ·refine Tr.block ?_
  refine Tr.loopM (σ := Int) (fun n s => M149 f_1 M150 n s) r_2 (fun s => ([(1, .pt 0 0), (2, .d (.b false)), (3, (dI s))], [some (.var [.d (.ls (List.map eTSegment f_1.Clocks.Segments)), .d (.ls (List.map (eL eI) f_1.Clocks.Far)), .d (.ls (List.map eTPair f_1.Pairs)), .d (.ls (List.map eTRunner f_1.Runners))])])) (((((f_1.Pairs).length : Int)) + 1 - 0 : Int).toNat + 1) (0) h (fun s => rfl) (Wk.mk2 [0] 1 rfl rfl (by decide) rfl ⟨rr, trivial⟩ ⟨rr, rr, rr, trivial⟩) ?_
  clear h
  rintro n_5 w_4 h
  replace h : M149 f_1 M150 (n_5 + 1) w_4 = some r_2 := h
  rw [M149] at h
  refine Tr.seq ?_
  refine Tr.seq ?_
  refine rg ?_
  conv => whnf
  refine lnS_map ?_
  conv => whnf
  refine Tr.cond ?_
  conv => whnf
  refine cB h (fun hb8 h => ?_) (fun hb8 h => ?_)
  ·refine Tr.skip ?_
   conv => whnf
   refine Tr.seq ?_
   refine Tr.block ?_
   refine Tr.seq ?_
   refine rg ?_
   conv => whnf
   obtain ⟨r_9, hc10, h⟩ := bS h
   refine PC.ecall (P148 f_1 w_4 r_9 hc10) (fun rs hrs => ?_)
   subst hrs
   conv => whnf
   refine Tr.cond ?_
   conv => whnf
   refine cB h (fun hb11 h => ?_) (fun hb11 h => ?_)
   ·refine Tr.seq ?_
    refine rg ?_
    conv => whnf
    refine Tr.ret ?_
    conv => whnf
    cases h
    rfl
   refine Tr.skip ?_
   conv => whnf
   refine rg ?_
   conv => whnf
   refine arS_raw ?_
   conv => whnf
   refine ⟨((w64 (w_4 + 1))), h, ?_⟩
   exact Wk.mk2 [0] 1 rfl rfl (by decide) rfl ⟨rr, trivial⟩ ⟨rr, rr, rr, trivial⟩
  refine Tr.exit ?_
  conv => whnf
  refine ⟨(), h, ?_⟩
  exact Wk.mk2 [] 1 rfl rfl (by decide) rfl trivial ⟨rr, trivial⟩
 clear h
 rintro _ h T1 H1 hw
 replace h : M150 () = some r_2 := h
 conv => whnf
 refine Tr.weak hw ?_
 unfold M150 at h
 refine Tr.seq ?_
 refine rg ?_
 conv => whnf
 refine Tr.ret ?_
 conv => whnf
 cases h
 rfl
end Go.Proofs.Tryz
