/- Contracts of functions, by program (gen.py). No condition. -/
import Derived.Test.YtapjficbenpaeaaGreatZL
import Derived.Test.YtapjficbenpaeaaGreatZM
import Derived.Test.YtapjficbenpaeaaGreatZCB
import Derived.Test.YtapjficbenpaeaaGreatZS5
namespace Go.Proofs.Tryz
open Go Go.Abs Go.Stop
set_option maxRecDepth 8000
set_option linter.unusedVariables false
set_option linter.unusedSimpArgs false
theorem P127 (l_1 : List TSpan) (r_2 : List TSpan) (r_3 : Int) (h : M127 l_1 = some (r_2, r_3)) :
    PC prog 82 [(.ls (List.map eTSpan l_1))] (fun rs => rs = [(.ls (List.map eTSpan r_2)), (.i .i64 r_3)]) := by
 refine PC.of_tr (cx := ⟨12, none, lay, 0⟩) layOK func82 rfl rfl rfl rfl rfl (by simp [f82]) ?_
 unfold M127 at h
 refine sg ?_
 conv=>whnf
 refine Tr.seq ?_
 refine sg ?_
 conv=>whnf
 refine orB_r ?_
 conv=>whnf
 obtain ⟨r_4, hc5, h⟩ := bS h
 refine PC.ecall (P71 ((([l_1] : List (List TSpan)))) r_4 hc5) (fun rs hrs => ?_)
 subst hrs
 conv=>whnf
 refine sg ?_
 conv=>whnf
 refine Tr.cond ?_
 conv=>whnf
 refine cB h (fun hb6 h => ?_) (fun hb6 h => ?_)
 ·refine sg ?_
  conv=>whnf
  refine Tr.ret ?_
  conv=>whnf
  cases h
  rfl
 refine Tr.skip ?_
 conv=>whnf
 refine sg ?_
 conv=>whnf
 obtain ⟨r_7, hc8, h⟩ := bS h
 refine PC.ecall (P126 l_1 r_7 hc8) (fun rs hrs => ?_)
 subst hrs
 conv=>whnf
 refine Tr.ret ?_
 conv=>whnf
 cases h
 rfl
theorem P130 (f_1 : TField) (runner_2 : Int) (r_3 : List TSpan) (r_4 : Bool) (r_5 : Int) (h : M130 f_1 runner_2 = some (r_3, r_4, r_5)) :
    PC prog 74 [(eTField f_1), (.i .i64 runner_2)] (fun rs => rs = [(.ls (List.map eTSpan r_3)), (.b r_4), (.i .i64 r_5)]) := by
 refine PC.of_tr (cx := ⟨48, none, lay, 0⟩) layOK func74 rfl rfl rfl rfl rfl (by simp [f74]) ?_
 unfold M130 at h
 refine sg ?_
 conv=>whnf
 refine sg ?_
 conv=>whnf
 refine Tr.seq ?_
 refine sg ?_
 conv=>whnf
 obtain ⟨x_6, hx_6, h⟩ := bS h
 refine ixP_of hx_6 ?_
 conv=>whnf
 refine lnS_map ?_
 conv=>whnf
 obtain ⟨⟨v_14, l_15⟩, hv47, h⟩ := bS h
 refine Tr.cutQ1 ([(4, .pt 0 0), (5, .pt 1 0), (6, (dI 0))]) ([some (.var [.sl 2 2 0 (List.length l_15)]), some (.var [.d (.b v_14)]), some (.arr 2 (List.map .d (List.map eTSpan l_15)))]) ?_ (fun T1 H1 hw => ?_)
 ·replace h := hv47; clear hv47
  refine Tr.block ?_
  refine Tr.loopM (σ := Int × Bool × List TSpan) (fun n s => M129 f_1 x_6 n s.1 s.2.1 s.2.2) (v_14, l_15) (fun s => ([(2, .pt 0 0), (4, .pt 1 0), (5, .pt 2 0), (6, (dI 0)), (7, .fn 106 [.pt 0 0, .pt 1 0, .pt 2 0]), (18, .d (.ls (List.map (eL eTOutcome) x_6.Worlds))), (19, (dI (((x_6.Worlds).length : Int)))), (20, (dI s.1))], [some (.var [.d (.ls (List.map eTSegment f_1.Clocks.Segments)), .d (.ls (List.map (eL eI) f_1.Clocks.Far)), .d (.ls (List.map eTPair f_1.Pairs)), .d (.ls (List.map eTRunner f_1.Runners))]), some (.var [.sl 3 2 0 (List.length s.2.2)]), some (.var [.d (.b s.2.1)]), some (.arr 2 (List.map .d (List.map eTSpan s.2.2)))])) (((((x_6.Worlds).length : Int)) - 0 : Int).toNat + 1) (0, false, (([] : List TSpan))) h (fun s => rfl) (Wk.mk2 [0, 1, 2, 3] 3 rfl rfl (by decide) rfl ⟨rr, ⟨rfl, (by first | rfl | simp)⟩, rr, rfl, trivial⟩ ⟨rr, rr, rr, rr, rr, rr, rr, rr, trivial⟩) ?_
  clear h
  rintro n_13 ⟨v_10, v_11, l_12⟩ h
  replace h : M129 f_1 x_6 (n_13 + 1) v_10 v_11 l_12 = some (v_14, l_15) := h
  rw [M129] at h
  refine sg ?_
  conv=>whnf
  refine Tr.seq ?_
  refine Tr.cond ?_
  conv=>whnf
  refine cB h (fun hb18 h => ?_) (fun hb18 h => ?_)
  ·refine Tr.skip ?_
   conv=>whnf
   refine Tr.seq ?_
   refine Tr.block ?_
   refine sg ?_
   conv=>whnf
   obtain ⟨x_19, hx_19, h⟩ := bS h
   refine ixP_of hx_19 ?_
   conv=>whnf
   refine Tr.seq ?_
   refine sg ?_
   conv=>whnf
   obtain ⟨r_20, hc21, h⟩ := bS h
   refine PC.ecall (P60 f_1 v_10 r_20 hc21) (fun rs hrs => ?_)
   subst hrs
   conv=>whnf
   refine Tr.cond ?_
   conv=>whnf
   refine cB h (fun hb22 h => ?_) (fun hb22 h => ?_)
   ·refine Tr.exit ?_
    conv=>whnf
    refine rg ?_
    conv=>whnf
    refine arS_raw ?_
    conv=>whnf
    refine ⟨((w64 (v_10 + 1)), v_11, l_12), h, ?_⟩
    exact Wk.mk2 [0, 1, 2, 3] 4 rfl rfl (by decide) rfl ⟨rr, rr, rr, daS_d rfl, trivial⟩ ⟨rr, rr, rr, rr, rr, rr, rr, rr, trivial⟩
   refine Tr.skip ?_
   conv=>whnf
   refine sg ?_
   conv=>whnf
   refine lnS_map ?_
   conv=>whnf
   obtain ⟨⟨v_30, l_31⟩, hv46, h⟩ := bS h
   refine Tr.cutQ1 ([(2, .pt 0 0), (4, .pt 1 0), (5, .pt 2 0), (6, (dI 0)), (7, .fn 106 [.pt 0 0, .pt 1 0, .pt 2 0]), (18, .d (.ls (List.map (eL eTOutcome) x_6.Worlds))), (19, (dI (((x_6.Worlds).length : Int)))), (20, (dI v_10))]) ([some (.var [.d (.ls (List.map eTSegment f_1.Clocks.Segments)), .d (.ls (List.map (eL eI) f_1.Clocks.Far)), .d (.ls (List.map eTPair f_1.Pairs)), .d (.ls (List.map eTRunner f_1.Runners))]), some (.var [.sl 3 2 0 (List.length l_31)]), some (.var [.d (.b v_30)]), some (.arr 2 (List.map .d (List.map eTSpan l_31)))]) ?_ (fun T1 H1 hw => ?_)
   ·replace h := hv46; clear hv46
    refine Tr.block ?_
    refine Tr.loopM (σ := Int × Bool × List TSpan) (fun n s => M128 f_1 x_19 n s.1 s.2.1 s.2.2) (v_30, l_31) (fun s => ([(2, .pt 0 0), (4, .pt 1 0), (5, .pt 2 0), (6, (dI 0)), (7, .fn 106 [.pt 0 0, .pt 1 0, .pt 2 0]), (18, .d (.ls (List.map (eL eTOutcome) x_6.Worlds))), (19, (dI (((x_6.Worlds).length : Int)))), (20, (dI v_10)), (29, .d (.ls (List.map eTOutcome x_19))), (30, (dI (((x_19).length : Int)))), (31, (dI s.1))], [some (.var [.d (.ls (List.map eTSegment f_1.Clocks.Segments)), .d (.ls (List.map (eL eI) f_1.Clocks.Far)), .d (.ls (List.map eTPair f_1.Pairs)), .d (.ls (List.map eTRunner f_1.Runners))]), some (.var [.sl 3 2 0 (List.length s.2.2)]), some (.var [.d (.b s.2.1)]), some (.arr 2 (List.map .d (List.map eTSpan s.2.2)))])) (((((x_19).length : Int)) - 0 : Int).toNat + 1) (0, v_11, l_12) h (fun s => rfl) (Wk.mk2 [0, 1, 2, 3] 4 rfl rfl (by decide) rfl ⟨rr, rr, rr, daS_d rfl, trivial⟩ ⟨rr, rr, rr, rr, rr, rr, rr, rr, rr, rr, rr, trivial⟩) ?_
    clear h
    rintro n_29 ⟨v_26, v_27, l_28⟩ h
    replace h : M128 f_1 x_19 (n_29 + 1) v_26 v_27 l_28 = some (v_30, l_31) := h
    rw [M128] at h
    refine sg ?_
    conv=>whnf
    refine Tr.seq ?_
    refine Tr.cond ?_
    conv=>whnf
    refine cB h (fun hb34 h => ?_) (fun hb34 h => ?_)
    ·refine Tr.skip ?_
     conv=>whnf
     refine Tr.seq ?_
     obtain ⟨⟨v_35, l_36⟩, hv37, h⟩ := bS h
     refine Tr.cutQ1 ([(2, .pt 0 0), (4, .pt 1 0), (5, .pt 2 0), (6, (dI 0)), (7, .fn 106 [.pt 0 0, .pt 1 0, .pt 2 0]), (18, .d (.ls (List.map (eL eTOutcome) x_6.Worlds))), (19, (dI (((x_6.Worlds).length : Int)))), (20, (dI v_10)), (29, .d (.ls (List.map eTOutcome x_19))), (30, (dI (((x_19).length : Int)))), (31, (dI v_26))]) ([some (.var [.d (.ls (List.map eTSegment f_1.Clocks.Segments)), .d (.ls (List.map (eL eI) f_1.Clocks.Far)), .d (.ls (List.map eTPair f_1.Pairs)), .d (.ls (List.map eTRunner f_1.Runners))]), some (.var [.sl 3 2 0 (List.length l_36)]), some (.var [.d (.b v_35)]), some (.arr 2 (List.map .d (List.map eTSpan l_36)))]) ?_ (fun T1 H1 hw => ?_)
     ·replace h := hv37; clear hv37
      refine Tr.block ?_
      refine sg ?_
      conv=>whnf
      obtain ⟨x_38, hx_38, h⟩ := bS h
      refine ixP_of hx_38 ?_
      conv=>whnf
      refine rg ?_
      conv=>whnf
      refine ECall.of_tr (cx := ⟨25, none, lay, 5⟩) layOK func106 rfl rfl rfl rfl rfl (by simp [f106]) ?_
      refine sg ?_
      conv=>whnf
      refine Tr.seq ?_
      refine sg ?_
      conv=>whnf
      obtain ⟨⟨r_39, r_40⟩, hc41, h⟩ := bS h
      refine PC.ecall (P62 f_1.Clocks x_38 r_39 r_40 hc41) (fun rs hrs => ?_)
      subst hrs
      conv=>whnf
      refine sg ?_
      conv=>whnf
      refine Tr.cond ?_
      conv=>whnf
      refine cB h (fun hb42 h => ?_) (fun hb42 h => ?_)
      ·refine rg ?_
       conv=>whnf
       refine orB_r ?_
       conv=>whnf
       refine frP_no ?_
       conv=>whnf
       refine eqS_mk (by first | rfl | simp) ?_
       conv=>whnf
       obtain ⟨l_43, hl_43, h⟩ := bS h
       refine apS_of hl_43 (aQ (f := eTSpan) (l := (([r_39] : List TSpan))) fun _ => rfl) (by first | rfl | simp) (by first | rfl | simp) (fun he => ?_)
       conv=>whnf
       refine rS (es' := List.map .d (List.map eTSpan l_43)) (n' := List.length l_43) (by subst he; simp only [List.map_append, List.map_cons, List.map_nil, List.nil_append]; first | done | rfl) (by subst he; simp <;> omega) ?_
       clear he
       conv=>whnf
       refine orB_l ?_
       conv=>whnf
       refine rg ?_
       conv=>whnf
       refine cB h (fun hb44 h => ?_) (fun hb44 h => ?_)
       ·conv=>whnf
        cases h
        exact Wk.mk2 [0, 1, 2, 7] 8 rfl rfl (by decide) rfl ⟨rr, ⟨rfl, (by first | rfl | (simp only [↓hb18, ↓hb22, ↓hb34, ↓hb42, ↓hb44, bl]; done) | (simp only [↓hb18, ↓hb22, ↓hb34, ↓hb42, ↓hb44, bl]; rfl))⟩, rr, daS_d rfl, trivial⟩ ⟨rr, rr, rr, rr, rr, rr, rr, rr, rr, rr, rr, trivial⟩
       conv=>whnf
       cases h
       exact Wk.mk2 [0, 1, 2, 7] 8 rfl rfl (by decide) rfl ⟨rr, ⟨rfl, (by first | rfl | (simp only [↓hb18, ↓hb22, ↓hb34, ↓hb42, ↓hb44, bl]; done) | (simp only [↓hb18, ↓hb22, ↓hb34, ↓hb42, ↓hb44, bl]; rfl))⟩, rr, daS_d rfl, trivial⟩ ⟨rr, rr, rr, rr, rr, rr, rr, rr, rr, rr, rr, trivial⟩
      refine Tr.skip ?_
      conv=>whnf
      refine rg ?_
      conv=>whnf
      refine cB h (fun hb45 h => ?_) (fun hb45 h => ?_)
      ·conv=>whnf
       cases h
       exact Wk.mk2 [0, 1, 2, 3] 7 rfl rfl (by decide) rfl ⟨rr, rr, rr, daS_d rfl, trivial⟩ ⟨rr, rr, rr, rr, rr, rr, rr, rr, rr, rr, rr, trivial⟩
      conv=>whnf
      cases h
      exact Wk.mk2 [0, 1, 2, 3] 7 rfl rfl (by decide) rfl ⟨rr, rr, rr, daS_d rfl, trivial⟩ ⟨rr, rr, rr, rr, rr, rr, rr, rr, rr, rr, rr, trivial⟩
     clear hv37
     conv=>whnf
     refine Tr.weak hw ?_
     refine rg ?_
     conv=>whnf
     refine arS_raw ?_
     conv=>whnf
     refine ⟨((w64 (v_26 + 1)), v_35, l_36), h, ?_⟩
     exact Wk.mk2 [0, 1, 2, 3] 4 rfl rfl (by decide) rfl ⟨rr, rr, rr, daS_d rfl, trivial⟩ ⟨rr, rr, rr, rr, rr, rr, rr, rr, rr, rr, rr, trivial⟩
    refine Tr.exit ?_
    conv=>whnf
    cases h
    exact Wk.mk2 [0, 1, 2, 3] 4 rfl rfl (by decide) rfl ⟨rr, rr, rr, daS_d rfl, trivial⟩ ⟨rr, rr, rr, rr, rr, rr, rr, rr, trivial⟩
   clear hv46
   conv=>whnf
   refine Tr.weak hw ?_
   refine rg ?_
   conv=>whnf
   refine arS_raw ?_
   conv=>whnf
   refine ⟨((w64 (v_10 + 1)), v_30, l_31), h, ?_⟩
   exact Wk.mk2 [0, 1, 2, 3] 4 rfl rfl (by decide) rfl ⟨rr, rr, rr, daS_d rfl, trivial⟩ ⟨rr, rr, rr, rr, rr, rr, rr, rr, trivial⟩
  refine Tr.exit ?_
  conv=>whnf
  cases h
  exact Wk.mk2 [1, 2, 3] 4 rfl rfl (by decide) rfl ⟨⟨rfl, (by first | rfl | (simp only [↓hb18, bl]; done) | (simp only [↓hb18, bl]; rfl))⟩, rr, daS_d rfl, trivial⟩ ⟨⟨rfl, (by first | rfl | (simp only [↓hb18, bl]; done) | (simp only [↓hb18, bl]; rfl))⟩, ⟨rfl, (by first | rfl | (simp only [↓hb18, bl]; done) | (simp only [↓hb18, bl]; rfl))⟩, rr, trivial⟩
 clear hv47
 conv=>whnf
 refine Tr.weak hw ?_
 refine sg ?_
 conv=>whnf
 obtain ⟨⟨r_48, r_49⟩, hc50, h⟩ := bS h
 refine PC.ecall_frz ?_ ⟨_, _, func82, rfl, rfl⟩
 conv=>whnf
 refine frE_of (f := eTSpan) (l := l_15) rfl ?_
 conv=>whnf
 refine ⟨_, P127 l_15 r_48 r_49 hc50, fun rs hrs => ?_⟩
 subst hrs
 conv=>whnf
 refine sd [(3,0),(4,1)] [(0,3),(1,4),(2,1),(3,0),(4,0),(5,1)] ?_
 conv=>whnf
 refine q2 ?_
 conv=>whnf
 refine q2 ?_
 conv=>whnf
 refine q1 ?_
 conv=>whnf
 refine ⟨_, _, rr, kp_ok (by repeat (first | exact trivial | refine ⟨trivial, ?_⟩ | refine ⟨rfl, ?_⟩)), ?_⟩
 conv=>whnf
 refine ⟨_, _, rr, kp_ok (by repeat (first | exact trivial | refine ⟨trivial, ?_⟩ | refine ⟨rfl, ?_⟩)), ?_⟩
 conv=>whnf
 refine q1 ?_
 conv=>whnf
 refine Tr.ret ?_
 conv=>whnf
 cases h
 rfl
theorem P131 (a_1 : List TSpan) (b_2 : List TSpan) (c_3 : List TSpan) (c_4 : List TSpan) (h : M131 a_1 b_2 = some (c_3, c_4)) :
    PC prog 109 [(.ls (List.map eTSpan a_1)), (.ls (List.map eTSpan b_2))] (fun rs => rs = [(.fn 149 [(.ro [(.ls (List.map eTSpan c_3))]), (.ro [(.ls (List.map eTSpan c_4))])])]) := by
 refine PC.of_tr (cx := ⟨6, none, lay, 0⟩) layOK func109 rfl rfl rfl rfl rfl (by simp [f109]) ?_
 unfold M131 at h
 refine sg ?_
 conv=>whnf
 refine sg ?_
 conv=>whnf
 refine Tr.ret ?_
 conv=>whnf
 cases h
 rfl
theorem P136 (c_1 : List TSpan) (c_2 : List TSpan) (ys : List TSpan) (h : M136 c_1 c_2 = some ys) (xs : YL) (hx : Rem xs (fun a => [(eTSpan a)]) 0 ys) :
    ItC prog 149 [(.ro [(.ls (List.map eTSpan c_1))]), (.ro [(.ls (List.map eTSpan c_2))])] xs := by
 refine ItC.of_tr (cx := ⟨36, none, lay, 0⟩) (hx := hx) func149 rfl rfl rfl (by simp [f149]) rfl (fun l hx => ?_)
 unfold M136 at h
 refine TrY.seq ?_
 refine TrY.region layOK ?_
 conv=>whnf
 refine lnS_map ?_
 conv=>whnf
 refine TrY.block ?_
 refine TrY.loopM (σ := Int) (fun n s => M134 c_1 c_2 M135 n s) _ (fun s => ([(0, .yl l), (2, .d (.ro [(.ls (List.map eTSpan c_2))])), (8, .d (.ls (List.map eTSpan c_1))), (9, (dI (((c_1).length : Int)))), (10, (dI s))], [])) (((((c_1).length : Int)) - 0 : Int).toNat + 1) (0) h (fun s => rfl) hx (Wk.mk2 [] 0 rfl rfl (by decide) rfl trivial ⟨rr, rr, rr, rr, rr, trivial⟩) ?_
 clear h hx
 rintro n_5 v_4 i_20 ys_21 h hx
 replace h : M134 c_1 c_2 M135 (n_5 + 1) v_4 = some ys_21 := h
 rw [M134] at h
 refine TrY.seq ?_
 refine TrY.region layOK ?_
 conv=>whnf
 refine TrY.seq ?_
 refine TrY.cond ?_
 conv=>whnf
 refine cB h (fun hb8 h => ?_) (fun hb8 h => ?_)
 ·refine TrY.skip ?_
  conv=>whnf
  refine TrY.seq ?_
  refine TrY.block ?_
  refine TrY.seq ?_
  refine TrY.region layOK ?_
  conv=>whnf
  obtain ⟨x_9, hx_9, h⟩ := bS h
  refine ixP_of hx_9 ?_
  conv=>whnf
  refine TrY.seq ?_
  refine TrY.region layOK ?_
  conv=>whnf
  refine lnS_map ?_
  conv=>whnf
  refine TrY.frz 5 ?_
  conv=>whnf
  refine TrY.block ?_
  refine TrY.loopM (σ := Int) (fun n s => M132 c_2 x_9 (M133 v_4 (M134 c_1 c_2 M135 n_5)) n s) _ (fun s => ([(0, .yl l), (2, .d (.ro [(.ls (List.map eTSpan c_2))])), (5, .d (.ro [(.i .i64 x_9.Lo), (.i .i64 x_9.Hi)])), (8, .d (.ls (List.map eTSpan c_1))), (9, (dI (((c_1).length : Int)))), (10, (dI v_4)), (14, .d (.ls (List.map eTSpan c_2))), (15, (dI (((c_2).length : Int)))), (16, (dI s))], [])) (((((c_2).length : Int)) - 0 : Int).toNat + 1) (0) h (fun s => rfl) hx (Wk.mk2 [] 1 rfl rfl (by decide) rfl trivial ⟨rr, rr, rr, rr, rr, rr, rr, rr, rr, trivial⟩) ?_
  clear h hx
  rintro n_12 v_11 i_18 ys_19 h hx
  replace h : M132 c_2 x_9 (M133 v_4 (M134 c_1 c_2 M135 n_5)) (n_12 + 1) v_11 = some ys_19 := h
  rw [M132] at h
  refine TrY.seq ?_
  refine TrY.region layOK ?_
  conv=>whnf
  refine TrY.seq ?_
  refine TrY.cond ?_
  conv=>whnf
  refine cB h (fun hb15 h => ?_) (fun hb15 h => ?_)
  ·refine TrY.skip ?_
   conv=>whnf
   refine TrY.seq ?_
   refine TrY.block ?_
   refine TrY.seq ?_
   refine TrY.region layOK ?_
   conv=>whnf
   obtain ⟨x_16, hx_16, h⟩ := bS h
   refine ixP_of hx_16 ?_
   conv=>whnf
   refine TrY.seq ?_
   refine TrY.frz 7 ?_
   conv=>whnf
   refine TrY.region layOK ?_
   conv=>whnf
   refine arS_raw ?_
   conv=>whnf
   refine arS_raw ?_
   conv=>whnf
   obtain ⟨l_17, h_17, e_17⟩ := bS h
   clear h
   cases e_17
   have h := h_17
   clear h_17
   refine ylS_of hx rfl (fun gb_17 h1_17 h2_17 => ?_)
   cases gb_17
   ·have hend_17 := h2_17 rfl
    clear h1_17 h2_17 h hx
    conv=>whnf
    refine ⟨rfl, ?_⟩
    conv=>whnf
    refine TrY.cond ?_
    conv=>whnf
    refine TrY.ret ?_
    conv=>whnf
    exact hend_17
   replace hx := h1_17 rfl
   clear h1_17 h2_17
   conv=>whnf
   refine ⟨rfl, ?_⟩
   conv=>whnf
   refine TrY.cond ?_
   conv=>whnf
   refine TrY.skip ?_
   conv=>whnf
   refine TrY.region layOK ?_
   conv=>whnf
   refine arS_raw ?_
   conv=>whnf
   refine ⟨((w64 (v_11 + 1))), _, h, hx, ?_⟩
   exact Wk.mk2 [] 0 rfl rfl (by decide) rfl trivial ⟨rr, rr, rr, rr, rr, rr, rr, rr, rr, trivial⟩
  refine TrY.exit ?_
  conv=>whnf
  unfold M133 at h
  refine TrY.region layOK ?_
  conv=>whnf
  refine arS_raw ?_
  conv=>whnf
  refine ⟨((w64 (v_4 + 1))), _, h, hx, ?_⟩
  exact Wk.mk2 [] 0 rfl rfl (by decide) rfl trivial ⟨rr, rr, rr, rr, rr, trivial⟩
 refine TrY.exit ?_
 conv=>whnf
 unfold M135 at h
 cases h
 exact Rem.done hx
theorem P137 (l_1 : List TSpan) (r_2 : List TSpan) (r_3 : Int) (h : M137 l_1 = some (r_2, r_3)) :
    PC prog 110 [(.ls (List.map eTSpan l_1))] (fun rs => rs = [(.ls (List.map eTSpan r_2)), (.i .i64 r_3)]) := by
 refine PC.of_tr (cx := ⟨8, none, lay, 0⟩) layOK func110 rfl rfl rfl rfl rfl (by simp [f110]) ?_
 unfold M137 at h
 refine sg ?_
 conv=>whnf
 refine Tr.seq ?_
 refine sg ?_
 conv=>whnf
 refine lnS_map ?_
 conv=>whnf
 refine Tr.cond ?_
 conv=>whnf
 refine cB h (fun hb4 h => ?_) (fun hb4 h => ?_)
 ·refine sg ?_
  conv=>whnf
  refine Tr.ret ?_
  conv=>whnf
  cases h
  rfl
 refine Tr.skip ?_
 conv=>whnf
 refine sg ?_
 conv=>whnf
 refine Tr.ret ?_
 conv=>whnf
 cases h
 rfl
theorem P139 (a_1 : List TSpan) (b_2 : List TSpan) (r_3 : List TSpan) (r_4 : Int) (h : M139 a_1 b_2 = some (r_3, r_4)) :
    PC prog 75 [(.ls (List.map eTSpan a_1)), (.ls (List.map eTSpan b_2))] (fun rs => rs = [(.ls (List.map eTSpan r_3)), (.i .i64 r_4)]) := by
 refine PC.of_tr (cx := ⟨42, none, lay, 0⟩) layOK func75 rfl rfl rfl rfl rfl (by simp [f75]) ?_
 unfold M139 at h
 refine sg ?_
 conv=>whnf
 refine Tr.seq ?_
 refine sg ?_
 conv=>whnf
 refine orB_r ?_
 conv=>whnf
 obtain ⟨r_5, hc6, h⟩ := bS h
 refine PC.ecall (P71 ((([a_1, b_2] : List (List TSpan)))) r_5 hc6) (fun rs hrs => ?_)
 subst hrs
 conv=>whnf
 refine sg ?_
 conv=>whnf
 refine Tr.cond ?_
 conv=>whnf
 refine cB h (fun hb7 h => ?_) (fun hb7 h => ?_)
 ·refine sd [(1,0),(2,1)] [(0,4),(1,0),(2,0)] ?_
  conv=>whnf
  refine q2 ?_
  conv=>whnf
  refine ⟨_, _, (by (conv=>whnf); (refine orB_l ?_); (conv=>whnf); (exact rr)), kp_ok (by repeat (first | exact trivial | refine ⟨trivial, ?_⟩ | refine ⟨rfl, ?_⟩)), ?_⟩
  conv=>whnf
  refine ⟨_, _, rr, kp_ok (by repeat (first | exact trivial | refine ⟨trivial, ?_⟩ | refine ⟨rfl, ?_⟩)), ?_⟩
  conv=>whnf
  refine Tr.ret ?_
  conv=>whnf
  cases h
  rfl
 refine Tr.skip ?_
 conv=>whnf
 refine sg ?_
 conv=>whnf
 obtain ⟨r_8, hc9, h⟩ := bS h
 refine PC.ecall (P126 a_1 r_8 hc9) (fun rs hrs => ?_)
 subst hrs
 conv=>whnf
 obtain ⟨r_10, hc11, h⟩ := bS h
 refine PC.ecall (P126 b_2 r_10 hc11) (fun rs hrs => ?_)
 subst hrs
 conv=>whnf
 refine Tr.seq ?_
 refine sg ?_
 conv=>whnf
 refine lnS_map ?_
 conv=>whnf
 refine lnS_map ?_
 conv=>whnf
 refine arS_raw ?_
 conv=>whnf
 refine Tr.cond ?_
 conv=>whnf
 refine cB h (fun hb12 h => ?_) (fun hb12 h => ?_)
 ·refine sg ?_
  conv=>whnf
  refine orB_l ?_
  conv=>whnf
  refine Tr.ret ?_
  conv=>whnf
  cases h
  rfl
 refine Tr.skip ?_
 conv=>whnf
 refine Tr.seq ?_
 refine sg ?_
 conv=>whnf
 obtain ⟨⟨c_13, c_14⟩, hc15, h⟩ := bS h
 refine PC.ecall (P131 r_8 r_10 c_13 c_14 hc15) (fun rs hrs => ?_)
 subst hrs
 conv=>whnf
 obtain ⟨l_16, hl17, h⟩ := bS h
 obtain ⟨q_38, hv36, h⟩ := bS h
 refine Tr.block ?_
 refine Tr.rangeE (σ := Int × List TSpan) layOK rfl (ge := fun a => [(eTSpan a)]) rfl (P136 c_13 c_14 l_16 hl17) (fun _ => rfl) rfl (fun s => [some (.var [.sl 2 2 0 (List.length s.2)]), some (.var [(dI s.1)]), some (.arr 2 (List.map .d (List.map eTSpan s.2)))]) (fun s => [some (.var [.nsl]), some (.var [(dI s)])]) .ret (.inl rfl) M138 (r_5, (([] : List TSpan))) q_38 hv36 (Wk.mk2 [0, 1, 2] 2 rfl rfl (by decide) rfl ⟨⟨rfl, (by first | rfl | (simp only [↓hb7, ↓hb12, bl]; done) | (simp only [↓hb7, ↓hb12, bl]; rfl) | (dsimp only at hb7 hb12; simp only [↓hb7, ↓hb12, bl]; rfl))⟩, ⟨rfl, rfl⟩, rfl, trivial⟩ trivial) ?_ ?_
 ·clear h hv36
  rintro li y_18 ⟨v_21, l_22⟩ s_24 ha h
  replace h : M138 y_18 (v_21, l_22) = some s_24 := h
  unfold M138 at h
  dsimp only at h
  conv=>whnf
  refine Tr.block ?_
  refine Tr.seq ?_
  refine sg ?_
  conv=>whnf
  obtain ⟨r_25, hc26, h⟩ := bS h
  refine PC.ecall (P63 y_18 r_25 hc26) (fun rs hrs => ?_)
  subst hrs
  conv=>whnf
  refine sg ?_
  conv=>whnf
  refine Tr.cond ?_
  conv=>whnf
  refine cB h (fun hb27 h => ?_) (fun hb27 h => ?_)
  ·refine sd [(1,0),(2,1)] [(0,4),(1,0),(2,0)] ?_
   conv=>whnf
   refine q2 ?_
   conv=>whnf
   refine ⟨_, _, (by (conv=>whnf); (refine orB_l ?_); (conv=>whnf); (exact rr)), kp_ok (by repeat (first | exact trivial | refine ⟨trivial, ?_⟩ | refine ⟨rfl, ?_⟩)), ?_⟩
   conv=>whnf
   refine ⟨_, _, rr, kp_ok (by repeat (first | exact trivial | refine ⟨trivial, ?_⟩ | refine ⟨rfl, ?_⟩)), ?_⟩
   conv=>whnf
   refine Tr.ret ?_
   conv=>whnf
   cases h
   refine ⟨rfl, ?_⟩
   exact Wk.mk2 [0, 1] 4 rfl rfl (by decide) rfl ⟨rr, rr, trivial⟩ trivial
  refine Tr.skip ?_
  conv=>whnf
  refine rg ?_
  conv=>whnf
  refine orB_r ?_
  conv=>whnf
  refine frP_no ?_
  conv=>whnf
  refine eqS_mk (by first | rfl | simp) ?_
  conv=>whnf
  obtain ⟨l_28, hl_28, h⟩ := bS h
  refine apS_of hl_28 (aQ (f := eTSpan) (l := (([y_18] : List TSpan))) fun _ => rfl) (by first | rfl | simp) (by first | rfl | simp) (fun he => ?_)
  conv=>whnf
  refine rS (es' := List.map .d (List.map eTSpan l_28)) (n' := List.length l_28) (by subst he; simp only [List.map_append, List.map_cons, List.map_nil, List.nil_append]; first | done | rfl) (by subst he; simp <;> omega) ?_
  clear he
  conv=>whnf
  refine orB_l ?_
  conv=>whnf
  cases h
  refine ⟨rfl, ?_⟩
  exact Wk.mk2 [0, 1, 4] 5 rfl rfl (by decide) rfl ⟨⟨rfl, (by first | rfl | (simp only [↓hb7, ↓hb12, ↓hb27, bl]; done) | (simp only [↓hb7, ↓hb12, ↓hb27, bl]; rfl) | (dsimp only at hb7 hb12 hb27; simp only [↓hb7, ↓hb12, ↓hb27, bl]; rfl))⟩, rr, daS_d rfl, trivial⟩ trivial
 clear hv36
 rcases q_38 with ⟨v_29, l_30⟩ | v_37
 ·dsimp only at h
  conv=>whnf
  refine sg ?_
  conv=>whnf
  obtain ⟨r_31, hc32, h⟩ := bS h
  refine PC.ecall_frz ?_ ⟨_, _, func93, rfl, rfl⟩
  conv=>whnf
  refine frE_of (f := eTSpan) (l := l_30) rfl ?_
  conv=>whnf
  refine ⟨_, P126 l_30 r_31 hc32, fun rs hrs => ?_⟩
  subst hrs
  conv=>whnf
  obtain ⟨⟨r_33, r_34⟩, hc35, h⟩ := bS h
  refine PC.ecall (P137 r_31 r_33 r_34 hc35) (fun rs hrs => ?_)
  subst hrs
  conv=>whnf
  refine Tr.ret ?_
  conv=>whnf
  cases h
  rfl
 dsimp only at h
 conv=>whnf
 cases h
 rfl
theorem P144 (f_1 : List TField) (bib_2 : Int) (r_3 : TTotal) (r_4 : Int) (h : M144 f_1 bib_2 = some (r_3, r_4)) :
    PC prog 44 [(.ls (List.map eTField f_1)), (.i .i64 bib_2)] (fun rs => rs = [(eTTotal r_3), (.i .i64 r_4)]) := by
 refine PC.of_tr (cx := ⟨86, none, lay, 0⟩) layOK func44 rfl rfl rfl rfl rfl (by simp [f44]) ?_
 unfold M144 at h
 refine sg ?_
 conv=>whnf
 refine sg ?_
 conv=>whnf
 refine sg ?_
 conv=>whnf
 refine Tr.seq ?_
 refine sg ?_
 conv=>whnf
 refine lnS_map ?_
 conv=>whnf
 refine Tr.cutQ (α := Bool × List (List TSpan)) (fun s => ([(4, .pt 0 0), (5, (dI 0)), (6, .sl 1 1 0 (List.length s.2))], [some (.var [(dI bib_2), .nsl, .d (.b s.1)]), some (.arr 1 (List.map .d (List.map (eL eTSpan) s.2)))])) (fun s => M143 bib_2 s.1 s.2 = some (r_3, r_4)) ?_ ?_
 ·refine Tr.block ?_
  refine Tr.loopM (σ := Int × Bool × List (List TSpan)) (fun n s => M140 f_1 bib_2 (M143 bib_2) n s.1 s.2.1 s.2.2) (r_3, r_4) (fun s => ([(1, (dI bib_2)), (4, .pt 0 0), (5, (dI 0)), (6, .sl 1 1 0 (List.length s.2.2)), (18, .d (.ls (List.map eTField f_1))), (19, (dI (((f_1).length : Int)))), (20, (dI s.1))], [some (.var [(dI bib_2), .nsl, .d (.b s.2.1)]), some (.arr 1 (List.map .d (List.map (eL eTSpan) s.2.2)))])) (((((f_1).length : Int)) - 0 : Int).toNat + 1) (0, false, (([] : List (List TSpan)))) h (fun s => rfl) (Wk.mk2 [0, 1] 1 rfl rfl (by decide) rfl ⟨rr, rfl, trivial⟩ ⟨rr, rr, rr, ⟨rfl, (by first | rfl | simp)⟩, rr, rr, rr, trivial⟩) ?_
  clear h
  rintro n_11 ⟨v_8, v_9, l_10⟩ h
  replace h : M140 f_1 bib_2 (M143 bib_2) (n_11 + 1) v_8 v_9 l_10 = some (r_3, r_4) := h
  rw [M140] at h
  refine sg ?_
  conv=>whnf
  refine Tr.seq ?_
  refine Tr.cond ?_
  conv=>whnf
  refine cB h (fun hb16 h => ?_) (fun hb16 h => ?_)
  ·refine Tr.skip ?_
   conv=>whnf
   refine Tr.seq ?_
   refine Tr.block ?_
   refine sg ?_
   conv=>whnf
   obtain ⟨x_17, hx_17, h⟩ := bS h
   refine ixP_of hx_17 ?_
   conv=>whnf
   refine sg ?_
   conv=>whnf
   obtain ⟨⟨r_18, r_19⟩, hc20, h⟩ := bS h
   refine PC.ecall (P54 x_17 bib_2 r_18 r_19 hc20) (fun rs hrs => ?_)
   subst hrs
   conv=>whnf
   refine Tr.seq ?_
   refine sg ?_
   conv=>whnf
   refine Tr.cond ?_
   conv=>whnf
   refine cB h (fun hb21 h => ?_) (fun hb21 h => ?_)
   ·refine sg ?_
    conv=>whnf
    refine orB_l ?_
    conv=>whnf
    refine Tr.ret ?_
    conv=>whnf
    cases h
    rfl
   refine Tr.skip ?_
   conv=>whnf
   refine sg ?_
   conv=>whnf
   obtain ⟨⟨r_22, r_23, r_24⟩, hc25, h⟩ := bS h
   refine PC.ecall (P130 x_17 r_18 r_22 r_23 r_24 hc25) (fun rs hrs => ?_)
   subst hrs
   conv=>whnf
   refine Tr.seq ?_
   refine sg ?_
   conv=>whnf
   refine Tr.cond ?_
   conv=>whnf
   refine cB h (fun hb26 h => ?_) (fun hb26 h => ?_)
   ·refine sg ?_
    conv=>whnf
    refine orB_l ?_
    conv=>whnf
    refine Tr.ret ?_
    conv=>whnf
    cases h
    rfl
   refine Tr.skip ?_
   conv=>whnf
   refine Tr.seq ?_
   refine sg ?_
   conv=>whnf
   refine lnS_map ?_
   conv=>whnf
   refine Tr.cond ?_
   conv=>whnf
   refine cB h (fun hb27 h => ?_) (fun hb27 h => ?_)
   ·refine sg ?_
    conv=>whnf
    refine orB_l ?_
    conv=>whnf
    refine Tr.ret ?_
    conv=>whnf
    cases h
    rfl
   refine Tr.skip ?_
   conv=>whnf
   refine sg ?_
   conv=>whnf
   refine orB_r ?_
   conv=>whnf
   refine frP_no ?_
   conv=>whnf
   refine eqS_mk (by first | rfl | simp) ?_
   conv=>whnf
   obtain ⟨l_28, hl_28, h⟩ := bS h
   refine apS_of hl_28 (aQ (f := (eL eTSpan)) (l := (([r_22] : List (List TSpan)))) fun _ => rfl) (by first | rfl | simp) (by first | rfl | simp) (fun he => ?_)
   conv=>whnf
   refine rS (es' := List.map .d (List.map (eL eTSpan) l_28)) (n' := List.length l_28) (by subst he; simp only [List.map_append, List.map_cons, List.map_nil, List.nil_append]; first | done | rfl) (by subst he; simp <;> omega) ?_
   clear he
   conv=>whnf
   refine rg ?_
   conv=>whnf
   refine cB h (fun hb29 h => ?_) (fun hb29 h => ?_)
   ·conv=>whnf
    refine rg ?_
    conv=>whnf
    refine arS_raw ?_
    conv=>whnf
    refine ⟨((w64 (v_8 + 1)), true, l_28), h, ?_⟩
    exact Wk.mk2 [0, 3] 4 rfl rfl (by decide) rfl ⟨rr, daS_d rfl, trivial⟩ ⟨rr, rr, rr, ⟨rfl, (by first | rfl | (simp only [↓hb16, ↓hb21, ↓hb26, ↓hb27, ↓hb29, bl]; done) | (simp only [↓hb16, ↓hb21, ↓hb26, ↓hb27, ↓hb29, bl]; rfl))⟩, rr, rr, rr, trivial⟩
   conv=>whnf
   refine rg ?_
   conv=>whnf
   refine arS_raw ?_
   conv=>whnf
   refine ⟨((w64 (v_8 + 1)), r_23, l_28), h, ?_⟩
   exact Wk.mk2 [0, 3] 4 rfl rfl (by decide) rfl ⟨rr, daS_d rfl, trivial⟩ ⟨rr, rr, rr, ⟨rfl, (by first | rfl | (simp only [↓hb16, ↓hb21, ↓hb26, ↓hb27, ↓hb29, bl]; done) | (simp only [↓hb16, ↓hb21, ↓hb26, ↓hb27, ↓hb29, bl]; rfl))⟩, rr, rr, rr, trivial⟩
  refine Tr.exit ?_
  conv=>whnf
  refine ⟨(v_9, l_10), h, ?_⟩
  exact Wk.mk2 [0, 1] 2 rfl rfl (by decide) rfl ⟨rr, daS_d rfl, trivial⟩ ⟨rr, rr, rr, trivial⟩
 clear h
 rintro ⟨v_12, l_13⟩ h T1 H1 hw
 replace h : M143 bib_2 v_12 l_13 = some (r_3, r_4) := h
 conv=>whnf
 refine Tr.weak hw ?_
 unfold M143 at h
 refine sg ?_
 conv=>whnf
 obtain ⟨x_30, hx_30, h⟩ := bS h
 refine ixS_of hx_30 rfl ?_
 conv=>whnf
 refine elP_of hx_30 ?_
 conv=>whnf
 refine Tr.seq ?_
 refine sg ?_
 conv=>whnf
 refine frE_of (f := (eL eTSpan)) (l := l_13) rfl ?_
 conv=>whnf
 refine szS_mk (szq_map fun _ => rfl) ?_
 conv=>whnf
 obtain ⟨l_31, hl_31, h⟩ := bS h
 refine slS_from hl_31 (by simp) rfl (fun he => ?_)
 conv=>whnf
 refine lsS_mk (es' := List.map (eL eTSpan) l_31) (by subst he; simp [List.map_take, List.map_drop]) ?_
 clear he
 conv=>whnf
 refine lnS_map ?_
 conv=>whnf
 refine Tr.cutQ (α := Int × List TSpan) (fun s => ([(4, .pt 0 0), (5, (dI s.1))], [some (.var [(dI bib_2), .d (.ls (List.map eTSpan s.2)), .d (.b v_12)])])) (fun s => M142 bib_2 v_12 s.1 s.2 = some (r_3, r_4)) ?_ ?_
 ·refine Tr.block ?_
  refine Tr.loopM (σ := Int × Int × List TSpan) (fun n s => M141 l_31 (M142 bib_2 v_12) n s.1 s.2.1 s.2.2) (r_3, r_4) (fun s => ([(4, .pt 0 0), (5, (dI s.1)), (66, .d (.ls (List.map (eL eTSpan) l_31))), (67, (dI (((l_31).length : Int)))), (68, (dI s.2.1))], [some (.var [(dI bib_2), .d (.ls (List.map eTSpan s.2.2)), .d (.b v_12)])])) (((((l_31).length : Int)) - 0 : Int).toNat + 1) (0, 0, x_30) h (fun s => rfl) (Wk.mk2 [0] 2 rfl rfl (by decide) rfl ⟨rr, trivial⟩ ⟨rr, rr, rr, rr, rr, trivial⟩) ?_
  clear h
  rintro n_38 ⟨e_35, v_36, v_37⟩ h
  replace h : M141 l_31 (M142 bib_2 v_12) (n_38 + 1) e_35 v_36 v_37 = some (r_3, r_4) := h
  rw [M141] at h
  refine sg ?_
  conv=>whnf
  refine Tr.seq ?_
  refine Tr.cond ?_
  conv=>whnf
  refine cB h (fun hb43 h => ?_) (fun hb43 h => ?_)
  ·refine Tr.skip ?_
   conv=>whnf
   refine Tr.seq ?_
   refine Tr.block ?_
   refine sg ?_
   conv=>whnf
   obtain ⟨x_44, hx_44, h⟩ := bS h
   refine ixP_of hx_44 ?_
   conv=>whnf
   refine sg ?_
   conv=>whnf
   obtain ⟨⟨r_45, r_46⟩, hc47, h⟩ := bS h
   refine PC.ecall (P139 v_37 x_44 r_45 r_46 hc47) (fun rs hrs => ?_)
   subst hrs
   conv=>whnf
   refine sg ?_
   conv=>whnf
   refine Tr.cond ?_
   conv=>whnf
   refine cB h (fun hb48 h => ?_) (fun hb48 h => ?_)
   ·refine sg ?_
    conv=>whnf
    refine orB_l ?_
    conv=>whnf
    refine Tr.ret ?_
    conv=>whnf
    cases h
    rfl
   refine Tr.skip ?_
   conv=>whnf
   refine rg ?_
   conv=>whnf
   refine arS_raw ?_
   conv=>whnf
   refine ⟨(r_46, (w64 (v_36 + 1)), r_45), h, ?_⟩
   exact Wk.mk2 [0] 1 rfl rfl (by decide) rfl ⟨rr, trivial⟩ ⟨rr, rr, rr, rr, rr, trivial⟩
  refine Tr.exit ?_
  conv=>whnf
  refine ⟨(e_35, v_37), h, ?_⟩
  exact Wk.mk2 [0] 1 rfl rfl (by decide) rfl ⟨rr, trivial⟩ ⟨rr, rr, trivial⟩
 clear h
 rintro ⟨e_39, v_40⟩ h T1 H1 hw
 replace h : M142 bib_2 v_12 e_39 v_40 = some (r_3, r_4) := h
 conv=>whnf
 refine Tr.weak hw ?_
 unfold M142 at h
 refine sg ?_
 conv=>whnf
 refine Tr.ret ?_
 conv=>whnf
 cases h
 rfl
theorem P145 (f_1 : List TField) (bib_2 : Int) (r_3 : TTotal) (r_4 : Int) (h : M145 f_1 bib_2 = some (r_3, r_4)) :
    PC prog 15 [(.ls (List.map eTField f_1)), (.i .i64 bib_2)] (fun rs => rs = [(eTTotal r_3), (.i .i64 r_4)]) := by
 refine PC.of_tr (cx := ⟨31, none, lay, 0⟩) layOK func15 rfl rfl rfl rfl rfl (by simp [f15]) ?_
 unfold M145 at h
 refine sg ?_
 conv=>whnf
 refine Tr.seq ?_
 refine sg ?_
 conv=>whnf
 obtain ⟨r_5, hc6, h⟩ := bS h
 refine PC.ecall (P49 f_1 r_5 hc6) (fun rs hrs => ?_)
 subst hrs
 conv=>whnf
 refine sg ?_
 conv=>whnf
 refine Tr.cond ?_
 conv=>whnf
 refine cB h (fun hb7 h => ?_) (fun hb7 h => ?_)
 ·refine sg ?_
  conv=>whnf
  refine orB_l ?_
  conv=>whnf
  refine Tr.ret ?_
  conv=>whnf
  cases h
  rfl
 refine Tr.skip ?_
 conv=>whnf
 refine Tr.seq ?_
 refine sg ?_
 conv=>whnf
 obtain ⟨x_8, hx_8, h⟩ := bS h
 refine ixP_of hx_8 ?_
 conv=>whnf
 obtain ⟨⟨r_9, r_10⟩, hc11, h⟩ := bS h
 refine PC.ecall (P54 x_8 bib_2 r_9 r_10 hc11) (fun rs hrs => ?_)
 subst hrs
 conv=>whnf
 refine sg ?_
 conv=>whnf
 refine Tr.cond ?_
 conv=>whnf
 refine cB h (fun hb12 h => ?_) (fun hb12 h => ?_)
 ·refine sg ?_
  conv=>whnf
  refine orB_l ?_
  conv=>whnf
  refine Tr.ret ?_
  conv=>whnf
  cases h
  rfl
 refine Tr.skip ?_
 conv=>whnf
 refine sg ?_
 conv=>whnf
 obtain ⟨⟨r_13, r_14⟩, hc15, h⟩ := bS h
 refine PC.ecall (P144 f_1 bib_2 r_13 r_14 hc15) (fun rs hrs => ?_)
 subst hrs
 conv=>whnf
 refine Tr.ret ?_
 conv=>whnf
 cases h
 rfl
theorem P146 (x_1 : Int) (y_2 : Int) (r_3 : Bool) (h : M146 x_1 y_2 = some r_3) :
    PC prog 90 [(.i .i64 x_1), (.i .i64 y_2)] (fun rs => rs = [(.b r_3)]) := by
 refine PC.of_tr (cx := ⟨17, none, lay, 0⟩) layOK func90 rfl rfl rfl rfl rfl (by simp [f90]) ?_
 unfold M146 at h
 refine sg ?_
 conv=>whnf
 refine sg ?_
 conv=>whnf
 obtain ⟨r_4, hc5, h⟩ := bS h
 refine PC.ecall (P3 x_1 r_4 hc5) (fun rs hrs => ?_)
 subst hrs
 conv=>whnf
 refine cB h (fun hb6 h => ?_) (fun hb6 h => ?_)
 ·conv=>whnf
  obtain ⟨r_7, hc8, h⟩ := bS h
  refine PC.ecall (P3 y_2 r_7 hc8) (fun rs hrs => ?_)
  subst hrs
  conv=>whnf
  refine cB h (fun hb9 h => ?_) (fun hb9 h => ?_)
  ·conv=>whnf
   refine Tr.ret ?_
   conv=>whnf
   cases h
   rfl
  conv=>whnf
  refine Tr.ret ?_
  conv=>whnf
  cases h
  rfl
 conv=>whnf
 refine Tr.ret ?_
 conv=>whnf
 cases h
 rfl
theorem P149 (a_1 : Int) (b_2 : Int) (l_3 : List Int) (l_4 : List Int) (h : M149 a_1 b_2 l_3 = some l_4) :
    MC prog 120 [.sl 0 1 0 (List.length l_3), (dI a_1), (dI b_2)] [.arr 1 (List.map .d (List.map eI l_3))] (fun rs Bs => rs = [] ∧ Bs = [.arr 1 (List.map .d (List.map eI l_4))]) := by
 refine MC.of_tr (cx := ⟨49, none, lay, 1⟩) layOK func120 rfl rfl rfl rfl rfl (by simp [f120]) ?_
 refine Tr.unW ?_
 unfold M149 at h
 refine sg ?_
 conv=>whnf
 refine arS_raw ?_
 conv=>whnf
 obtain ⟨l_10, hv33, h⟩ := bS h
 refine Tr.cutQ1 ([]) ([some (.arr 1 (List.map .d (List.map eI l_10)))]) ?_ (fun T1 H1 hw => ?_)
 ·replace h := hv33; clear hv33
  refine Tr.block ?_
  refine Tr.loopM (σ := Int × List Int) (fun n s => M148 a_1 b_2 n s.1 s.2) l_10 (fun s => ([(0, .sl 0 1 0 (List.length s.2)), (1, (dI a_1)), (2, (dI b_2)), (6, (dI s.1))], [some (.arr 1 (List.map .d (List.map eI s.2)))])) ((b_2 - (w64 (a_1 + 1)) : Int).toNat + 1) ((w64 (a_1 + 1)), l_3) h (fun s => rfl) (Wk.mk2 [0] 1 rfl rfl (by decide) rfl ⟨daS_d rfl, trivial⟩ ⟨rr, rr, rr, rr, trivial⟩) ?_
  clear h
  rintro n_9 ⟨i_7, l_8⟩ h
  replace h : M148 a_1 b_2 (n_9 + 1) i_7 l_8 = some l_10 := h
  rw [M148] at h
  refine Tr.seq ?_
  refine sg ?_
  conv=>whnf
  refine Tr.cond ?_
  conv=>whnf
  refine cB h (fun hb13 h => ?_) (fun hb13 h => ?_)
  ·refine Tr.skip ?_
   conv=>whnf
   refine Tr.seq ?_
   refine Tr.block ?_
   refine sg ?_
   conv=>whnf
   obtain ⟨l_19, hv32, h⟩ := bS h
   refine Tr.cutQ1 ([(0, .sl 0 1 0 (List.length l_19)), (1, (dI a_1)), (2, (dI b_2)), (6, (dI i_7))]) ([some (.arr 1 (List.map .d (List.map eI l_19)))]) ?_ (fun T1 H1 hw => ?_)
   ·replace h := hv32; clear hv32
    refine Tr.block ?_
    refine Tr.loopM (σ := Int × List Int) (fun n s => M147 a_1 n s.1 s.2) l_19 (fun s => ([(0, .sl 0 1 0 (List.length s.2)), (1, (dI a_1)), (2, (dI b_2)), (6, (dI i_7)), (7, (dI s.1))], [some (.arr 1 (List.map .d (List.map eI s.2)))])) ((i_7 - a_1 : Int).toNat + 1) (i_7, l_8) h (fun s => rfl) (Wk.mk2 [0] 1 rfl rfl (by decide) rfl ⟨daS_d rfl, trivial⟩ ⟨rr, rr, rr, rr, rr, trivial⟩) ?_
    clear h
    rintro n_18 ⟨j_16, l_17⟩ h
    replace h : M147 a_1 (n_18 + 1) j_16 l_17 = some l_19 := h
    rw [M147] at h
    refine Tr.seq ?_
    refine sd [] [(0,1),(1,1),(2,1),(3,1),(4,1),(5,1),(6,3),(7,3),(8,1),(9,1),(10,1),(11,3),(12,3),(13,1),(14,1)] ?_
    conv=>whnf
    refine q1 ?_
    conv=>whnf
    refine q1 ?_
    conv=>whnf
    refine q1 ?_
    conv=>whnf
    refine q1 ?_
    conv=>whnf
    refine cB h (fun hb22 h => ?_) (fun hb22 h => ?_)
    ·conv=>whnf
     refine q1 ?_
     conv=>whnf
     refine q1 ?_
     conv=>whnf
     obtain ⟨x_23, hx_23, h⟩ := bS h
     refine q3 (ixS_of hx_23 rfl rr) ?_
     conv=>whnf
     refine q3 (elP_of hx_23 rr) ?_
     conv=>whnf
     refine q1 ?_
     conv=>whnf
     refine q1 ?_
     conv=>whnf
     refine q4 ?_
     conv=>whnf
     obtain ⟨x_24, hx_24, h⟩ := bS h
     refine q3 (ixS_of hx_24 rfl rr) ?_
     conv=>whnf
     refine q3 (elP_of hx_24 rr) ?_
     conv=>whnf
     obtain ⟨r_25, hc26, h⟩ := bS h
     refine q1 ?_ (fun _ => pe (P146 x_23 x_24 r_25 hc26) rr)
     conv=>whnf
     refine q1 ?_
     conv=>whnf
     refine Tr.cond ?_
     conv=>whnf
     refine cB h (fun hb27 h => ?_) (fun hb27 h => ?_)
     ·refine Tr.skip ?_
      conv=>whnf
      refine Tr.seq ?_
      refine Tr.block ?_
      refine dq [(15,0),(17,0)] [(0,1),(1,1),(2,1),(3,1),(4,1),(5,1),(6,1),(7,1),(8,3),(9,3),(10,1),(11,1),(12,3),(13,3),(14,3),(15,0),(16,3),(17,0)] ?_
      conv=>whnf
      refine q1 ?_
      conv=>whnf
      refine q1 ?_
      conv=>whnf
      refine q1 ?_
      conv=>whnf
      refine q1 ?_
      conv=>whnf
      refine q4 ?_
      conv=>whnf
      refine q1 ?_
      conv=>whnf
      refine q1 ?_
      conv=>whnf
      refine q4 ?_
      conv=>whnf
      obtain ⟨x_28, hx_28, h⟩ := bS h
      refine q3 (ixS_of hx_28 rfl rr) ?_
      conv=>whnf
      refine q3 (elP_of hx_28 rr) ?_
      conv=>whnf
      refine q1 ?_
      conv=>whnf
      refine q1 ?_
      conv=>whnf
      obtain ⟨x_29, hx_29, h⟩ := bS h
      refine q3 (ixS_of hx_29 rfl rr) ?_
      conv=>whnf
      refine q3 (elP_of hx_29 rr) ?_
      conv=>whnf
      obtain ⟨x_30, hx_30, h⟩ := bS h
      refine q3 (ixS_of hx_30 rfl rr) ?_
      conv=>whnf
      refine ⟨_, _, (by (conv=>whnf); (refine elP_of hx_30 ?_); (conv=>whnf); (refine lvS_mk (es' := List.map .d (List.map eI (List.set l_17 (Int.toNat j_16) x_28))) (by simp only [Nat.zero_add, List.map_set]; first | done | rfl) ?_); (conv=>whnf); (exact rr)), kp_ok (by repeat (first | exact trivial | refine ⟨trivial, ?_⟩ | refine ⟨rfl, ?_⟩)), ?_⟩
      conv=>whnf
      obtain ⟨x_31, hx_31, h⟩ := bS h
      refine q3 (ixS_of hx_31 (by first | rfl | simp) rr) ?_
      conv=>whnf
      refine ⟨_, _, (by (conv=>whnf); (refine elP_of hx_31 ?_); (conv=>whnf); (refine lvS_mk (es' := List.map .d (List.map eI (List.set (List.set l_17 (Int.toNat j_16) x_28) (Int.toNat (w64 (j_16 - 1))) x_29))) (by simp only [Nat.zero_add, List.map_set]; first | done | rfl) ?_); (conv=>whnf); (exact rr)), kp_ok (by repeat (first | exact trivial | refine ⟨trivial, ?_⟩ | refine ⟨rfl, ?_⟩)), ?_⟩
      conv=>whnf
      refine rg ?_
      conv=>whnf
      refine arS_raw ?_
      conv=>whnf
      refine ⟨((w64 (j_16 - 1)), (List.set (List.set l_17 (Int.toNat j_16) x_28) (Int.toNat (w64 (j_16 - 1))) x_29)), h, ?_⟩
      exact Wk.mk2 [0] 1 rfl rfl (by decide) rfl ⟨daS_d rfl, trivial⟩ ⟨⟨rfl, (slEq (by first | rfl | simp))⟩, rr, rr, rr, rr, trivial⟩
     refine Tr.exit ?_
     conv=>whnf
     cases h
     exact Wk.mk2 [0] 1 rfl rfl (by decide) rfl ⟨daS_d rfl, trivial⟩ ⟨rr, rr, rr, rr, trivial⟩
    conv=>whnf
    refine q1 ?_
    conv=>whnf
    refine Tr.cond ?_
    conv=>whnf
    refine Tr.exit ?_
    conv=>whnf
    cases h
    exact Wk.mk2 [0] 1 rfl rfl (by decide) rfl ⟨daS_d rfl, trivial⟩ ⟨rr, rr, rr, rr, trivial⟩
   clear hv32
   conv=>whnf
   refine Tr.weak hw ?_
   refine rg ?_
   conv=>whnf
   refine arS_raw ?_
   conv=>whnf
   refine ⟨((w64 (i_7 + 1)), l_19), h, ?_⟩
   exact Wk.mk2 [0] 1 rfl rfl (by decide) rfl ⟨daS_d rfl, trivial⟩ ⟨rr, rr, rr, rr, trivial⟩
  refine Tr.exit ?_
  conv=>whnf
  cases h
  exact Wk.mk2 [0] 1 rfl rfl (by decide) rfl ⟨daS_d rfl, trivial⟩ trivial
 clear hv33
 conv=>whnf
 refine endW hw ?_
 conv=>whnf
 cases h
 exact endB rfl rfl rfl ⟨⟨_, rfl⟩, trivial⟩
theorem P152 (lo_1 : Int) (hi_2 : Int) (first_3 : Int) (l_4 : List Int) (l_5 : List Int) (h : M152 lo_1 hi_2 first_3 l_4 = some l_5) :
    MC prog 155 [.sl 0 1 0 (List.length l_4), (dI lo_1), (dI hi_2), (dI first_3)] [.arr 1 (List.map .d (List.map eI l_4))] (fun rs Bs => rs = [] ∧ Bs = [.arr 1 (List.map .d (List.map eI l_5))]) := by
 refine MC.of_tr (cx := ⟨76, none, lay, 1⟩) layOK func155 rfl rfl rfl rfl rfl (by simp [f155]) ?_
 refine Tr.unW ?_
 unfold M152 at h
 refine sg ?_
 conv=>whnf
 refine Tr.cutQ (α := List Int) (fun s => ([], [some (.arr 1 (List.map .d (List.map eI s)))])) (fun s => M151 s = some l_5) ?_ ?_
 ·refine Tr.block ?_
  refine Tr.loopM (σ := Int × List Int) (fun n s => M150 hi_2 first_3 M151 n s.1 s.2) l_5 (fun s => ([(0, .sl 0 1 0 (List.length s.2)), (2, (dI hi_2)), (3, (dI first_3)), (8, (dI s.1))], [some (.arr 1 (List.map .d (List.map eI s.2)))])) (List.length l_4 + 1) (lo_1, l_4) h (fun s => rfl) (Wk.mk2 [0] 1 rfl rfl (by decide) rfl ⟨daS_d rfl, trivial⟩ ⟨rr, rr, rr, rr, trivial⟩) ?_
  clear h
  rintro n_10 ⟨root_8, l_9⟩ h
  replace h : M150 hi_2 first_3 M151 (n_10 + 1) root_8 l_9 = some l_5 := h
  rw [M150] at h
  refine Tr.block ?_
  refine sg ?_
  conv=>whnf
  refine arS_raw ?_
  conv=>whnf
  refine arS_raw ?_
  conv=>whnf
  refine Tr.seq ?_
  refine sg ?_
  conv=>whnf
  refine Tr.cond ?_
  conv=>whnf
  refine cB h (fun hb14 h => ?_) (fun hb14 h => ?_)
  ·refine Tr.exit ?_
   conv=>whnf
   refine ⟨(l_9), h, ?_⟩
   exact Wk.mk2 [0] 1 rfl rfl (by decide) rfl ⟨daS_d rfl, trivial⟩ trivial
  refine Tr.skip ?_
  conv=>whnf
  refine Tr.seq ?_
  refine sd [] [(0,1),(1,1),(2,1),(3,1),(4,1),(5,1),(6,1),(7,1),(8,1),(9,3),(10,3),(11,1),(12,1),(13,1),(14,1),(15,1),(16,3),(17,3),(18,1),(19,1)] ?_
  conv=>whnf
  refine q1 ?_
  conv=>whnf
  refine q4 ?_
  conv=>whnf
  refine q1 ?_
  conv=>whnf
  refine q1 ?_
  conv=>whnf
  refine q1 ?_
  conv=>whnf
  refine cB h (fun hb15 h => ?_) (fun hb15 h => ?_)
  ·conv=>whnf
   refine q1 ?_
   conv=>whnf
   refine q1 ?_
   conv=>whnf
   refine q1 ?_
   conv=>whnf
   refine q4 ?_
   conv=>whnf
   obtain ⟨x_16, hx_16, h⟩ := bS h
   refine q3 (ixS_of hx_16 rfl rr) ?_
   conv=>whnf
   refine q3 (elP_of hx_16 rr) ?_
   conv=>whnf
   refine q1 ?_
   conv=>whnf
   refine q1 ?_
   conv=>whnf
   refine q1 ?_
   conv=>whnf
   refine q4 ?_
   conv=>whnf
   refine q4 ?_
   conv=>whnf
   obtain ⟨x_17, hx_17, h⟩ := bS h
   refine q3 (ixS_of hx_17 rfl rr) ?_
   conv=>whnf
   refine q3 (elP_of hx_17 rr) ?_
   conv=>whnf
   obtain ⟨r_18, hc19, h⟩ := bS h
   refine q1 ?_ (fun _ => pe (P146 x_16 x_17 r_18 hc19) rr)
   conv=>whnf
   refine q1 ?_
   conv=>whnf
   refine Tr.cond ?_
   conv=>whnf
   refine cB h (fun hb20 h => ?_) (fun hb20 h => ?_)
   ·refine rg ?_
    conv=>whnf
    refine arS_raw ?_
    conv=>whnf
    refine Tr.seq ?_
    refine sd [] [(0,1),(1,1),(2,1),(3,1),(4,3),(5,3),(6,1),(7,1),(8,1),(9,1),(10,3),(11,3),(12,1),(13,1)] ?_
    conv=>whnf
    refine q1 ?_
    conv=>whnf
    refine q1 ?_
    conv=>whnf
    refine q1 ?_
    conv=>whnf
    refine q4 ?_
    conv=>whnf
    obtain ⟨x_21, hx_21, h⟩ := bS h
    refine q3 (ixS_of hx_21 rfl rr) ?_
    conv=>whnf
    refine q3 (elP_of hx_21 rr) ?_
    conv=>whnf
    refine q1 ?_
    conv=>whnf
    refine q1 ?_
    conv=>whnf
    refine q1 ?_
    conv=>whnf
    refine q4 ?_
    conv=>whnf
    obtain ⟨x_22, hx_22, h⟩ := bS h
    refine q3 (ixS_of hx_22 rfl rr) ?_
    conv=>whnf
    refine q3 (elP_of hx_22 rr) ?_
    conv=>whnf
    obtain ⟨r_23, hc24, h⟩ := bS h
    refine q1 ?_ (fun _ => pe (P146 x_21 x_22 r_23 hc24) rr)
    conv=>whnf
    refine q1 ?_
    conv=>whnf
    refine Tr.cond ?_
    conv=>whnf
    refine cB h (fun hb25 h => ?_) (fun hb25 h => ?_)
    ·refine Tr.ret ?_
     conv=>whnf
     refine endH ?_
     conv=>whnf
     cases h
     exact endB rfl rfl rfl ⟨⟨_, rfl⟩, trivial⟩
    refine Tr.skip ?_
    conv=>whnf
    refine sd [(21,0),(23,0)] [(0,1),(1,1),(2,1),(3,1),(4,1),(5,1),(6,1),(7,1),(8,1),(9,1),(10,1),(11,1),(12,3),(13,3),(14,1),(15,1),(16,1),(17,1),(18,3),(19,3),(20,3),(21,0),(22,3),(23,0)] ?_
    conv=>whnf
    refine q1 ?_
    conv=>whnf
    refine q1 ?_
    conv=>whnf
    refine q1 ?_
    conv=>whnf
    refine q4 ?_
    conv=>whnf
    refine q1 ?_
    conv=>whnf
    refine q1 ?_
    conv=>whnf
    refine q1 ?_
    conv=>whnf
    refine q4 ?_
    conv=>whnf
    refine q1 ?_
    conv=>whnf
    refine q1 ?_
    conv=>whnf
    refine q1 ?_
    conv=>whnf
    refine q4 ?_
    conv=>whnf
    obtain ⟨x_26, hx_26, h⟩ := bS h
    refine q3 (ixS_of hx_26 rfl rr) ?_
    conv=>whnf
    refine q3 (elP_of hx_26 rr) ?_
    conv=>whnf
    refine q1 ?_
    conv=>whnf
    refine q1 ?_
    conv=>whnf
    refine q1 ?_
    conv=>whnf
    refine q4 ?_
    conv=>whnf
    obtain ⟨x_27, hx_27, h⟩ := bS h
    refine q3 (ixS_of hx_27 rfl rr) ?_
    conv=>whnf
    refine q3 (elP_of hx_27 rr) ?_
    conv=>whnf
    obtain ⟨x_28, hx_28, h⟩ := bS h
    refine q3 (ixS_of hx_28 rfl rr) ?_
    conv=>whnf
    refine ⟨_, _, (by (conv=>whnf); (refine elP_of hx_28 ?_); (conv=>whnf); (refine lvS_mk (es' := List.map .d (List.map eI (List.set l_9 (Int.toNat (w64 (first_3 + root_8))) x_26))) (by simp only [Nat.zero_add, List.map_set]; first | done | rfl) ?_); (conv=>whnf); (exact rr)), kp_ok (by repeat (first | exact trivial | refine ⟨trivial, ?_⟩ | refine ⟨rfl, ?_⟩)), ?_⟩
    conv=>whnf
    obtain ⟨x_29, hx_29, h⟩ := bS h
    refine q3 (ixS_of hx_29 (by first | rfl | simp) rr) ?_
    conv=>whnf
    refine ⟨_, _, (by (conv=>whnf); (refine elP_of hx_29 ?_); (conv=>whnf); (refine lvS_mk (es' := List.map .d (List.map eI (List.set (List.set l_9 (Int.toNat (w64 (first_3 + root_8))) x_26) (Int.toNat (w64 (first_3 + (w64 ((w64 ((w64 (2 * root_8)) + 1)) + 1))))) x_27))) (by simp only [Nat.zero_add, List.map_set]; first | done | rfl) ?_); (conv=>whnf); (exact rr)), kp_ok (by repeat (first | exact trivial | refine ⟨trivial, ?_⟩ | refine ⟨rfl, ?_⟩)), ?_⟩
    conv=>whnf
    refine rg ?_
    conv=>whnf
    refine ⟨((w64 ((w64 ((w64 (2 * root_8)) + 1)) + 1)), (List.set (List.set l_9 (Int.toNat (w64 (first_3 + root_8))) x_26) (Int.toNat (w64 (first_3 + (w64 ((w64 ((w64 (2 * root_8)) + 1)) + 1))))) x_27)), h, ?_⟩
    exact Wk.mk2 [0] 1 rfl rfl (by decide) rfl ⟨daS_d rfl, trivial⟩ ⟨⟨rfl, (slEq (by first | rfl | simp))⟩, rr, rr, rr, trivial⟩
   refine Tr.skip ?_
   conv=>whnf
   refine Tr.seq ?_
   refine sd [] [(0,1),(1,1),(2,1),(3,1),(4,3),(5,3),(6,1),(7,1),(8,1),(9,1),(10,3),(11,3),(12,1),(13,1)] ?_
   conv=>whnf
   refine q1 ?_
   conv=>whnf
   refine q1 ?_
   conv=>whnf
   refine q1 ?_
   conv=>whnf
   refine q4 ?_
   conv=>whnf
   obtain ⟨x_30, hx_30, h⟩ := bS h
   refine q3 (ixS_of hx_30 rfl rr) ?_
   conv=>whnf
   refine q3 (elP_of hx_30 rr) ?_
   conv=>whnf
   refine q1 ?_
   conv=>whnf
   refine q1 ?_
   conv=>whnf
   refine q1 ?_
   conv=>whnf
   refine q4 ?_
   conv=>whnf
   obtain ⟨x_31, hx_31, h⟩ := bS h
   refine q3 (ixS_of hx_31 rfl rr) ?_
   conv=>whnf
   refine q3 (elP_of hx_31 rr) ?_
   conv=>whnf
   obtain ⟨r_32, hc33, h⟩ := bS h
   refine q1 ?_ (fun _ => pe (P146 x_30 x_31 r_32 hc33) rr)
   conv=>whnf
   refine q1 ?_
   conv=>whnf
   refine Tr.cond ?_
   conv=>whnf
   refine cB h (fun hb34 h => ?_) (fun hb34 h => ?_)
   ·refine Tr.ret ?_
    conv=>whnf
    refine endH ?_
    conv=>whnf
    cases h
    exact endB rfl rfl rfl ⟨⟨_, rfl⟩, trivial⟩
   refine Tr.skip ?_
   conv=>whnf
   refine sd [(21,0),(23,0)] [(0,1),(1,1),(2,1),(3,1),(4,1),(5,1),(6,1),(7,1),(8,1),(9,1),(10,1),(11,1),(12,3),(13,3),(14,1),(15,1),(16,1),(17,1),(18,3),(19,3),(20,3),(21,0),(22,3),(23,0)] ?_
   conv=>whnf
   refine q1 ?_
   conv=>whnf
   refine q1 ?_
   conv=>whnf
   refine q1 ?_
   conv=>whnf
   refine q4 ?_
   conv=>whnf
   refine q1 ?_
   conv=>whnf
   refine q1 ?_
   conv=>whnf
   refine q1 ?_
   conv=>whnf
   refine q4 ?_
   conv=>whnf
   refine q1 ?_
   conv=>whnf
   refine q1 ?_
   conv=>whnf
   refine q1 ?_
   conv=>whnf
   refine q4 ?_
   conv=>whnf
   obtain ⟨x_35, hx_35, h⟩ := bS h
   refine q3 (ixS_of hx_35 rfl rr) ?_
   conv=>whnf
   refine q3 (elP_of hx_35 rr) ?_
   conv=>whnf
   refine q1 ?_
   conv=>whnf
   refine q1 ?_
   conv=>whnf
   refine q1 ?_
   conv=>whnf
   refine q4 ?_
   conv=>whnf
   obtain ⟨x_36, hx_36, h⟩ := bS h
   refine q3 (ixS_of hx_36 rfl rr) ?_
   conv=>whnf
   refine q3 (elP_of hx_36 rr) ?_
   conv=>whnf
   obtain ⟨x_37, hx_37, h⟩ := bS h
   refine q3 (ixS_of hx_37 rfl rr) ?_
   conv=>whnf
   refine ⟨_, _, (by (conv=>whnf); (refine elP_of hx_37 ?_); (conv=>whnf); (refine lvS_mk (es' := List.map .d (List.map eI (List.set l_9 (Int.toNat (w64 (first_3 + root_8))) x_35))) (by simp only [Nat.zero_add, List.map_set]; first | done | rfl) ?_); (conv=>whnf); (exact rr)), kp_ok (by repeat (first | exact trivial | refine ⟨trivial, ?_⟩ | refine ⟨rfl, ?_⟩)), ?_⟩
   conv=>whnf
   obtain ⟨x_38, hx_38, h⟩ := bS h
   refine q3 (ixS_of hx_38 (by first | rfl | simp) rr) ?_
   conv=>whnf
   refine ⟨_, _, (by (conv=>whnf); (refine elP_of hx_38 ?_); (conv=>whnf); (refine lvS_mk (es' := List.map .d (List.map eI (List.set (List.set l_9 (Int.toNat (w64 (first_3 + root_8))) x_35) (Int.toNat (w64 (first_3 + (w64 ((w64 (2 * root_8)) + 1))))) x_36))) (by simp only [Nat.zero_add, List.map_set]; first | done | rfl) ?_); (conv=>whnf); (exact rr)), kp_ok (by repeat (first | exact trivial | refine ⟨trivial, ?_⟩ | refine ⟨rfl, ?_⟩)), ?_⟩
   conv=>whnf
   refine rg ?_
   conv=>whnf
   refine ⟨((w64 ((w64 (2 * root_8)) + 1)), (List.set (List.set l_9 (Int.toNat (w64 (first_3 + root_8))) x_35) (Int.toNat (w64 (first_3 + (w64 ((w64 (2 * root_8)) + 1))))) x_36)), h, ?_⟩
   exact Wk.mk2 [0] 1 rfl rfl (by decide) rfl ⟨daS_d rfl, trivial⟩ ⟨⟨rfl, (slEq (by first | rfl | simp))⟩, rr, rr, rr, trivial⟩
  conv=>whnf
  refine q1 ?_
  conv=>whnf
  refine Tr.cond ?_
  conv=>whnf
  refine Tr.skip ?_
  conv=>whnf
  refine Tr.seq ?_
  refine sd [] [(0,1),(1,1),(2,1),(3,1),(4,3),(5,3),(6,1),(7,1),(8,1),(9,1),(10,3),(11,3),(12,1),(13,1)] ?_
  conv=>whnf
  refine q1 ?_
  conv=>whnf
  refine q1 ?_
  conv=>whnf
  refine q1 ?_
  conv=>whnf
  refine q4 ?_
  conv=>whnf
  obtain ⟨x_39, hx_39, h⟩ := bS h
  refine q3 (ixS_of hx_39 rfl rr) ?_
  conv=>whnf
  refine q3 (elP_of hx_39 rr) ?_
  conv=>whnf
  refine q1 ?_
  conv=>whnf
  refine q1 ?_
  conv=>whnf
  refine q1 ?_
  conv=>whnf
  refine q4 ?_
  conv=>whnf
  obtain ⟨x_40, hx_40, h⟩ := bS h
  refine q3 (ixS_of hx_40 rfl rr) ?_
  conv=>whnf
  refine q3 (elP_of hx_40 rr) ?_
  conv=>whnf
  obtain ⟨r_41, hc42, h⟩ := bS h
  refine q1 ?_ (fun _ => pe (P146 x_39 x_40 r_41 hc42) rr)
  conv=>whnf
  refine q1 ?_
  conv=>whnf
  refine Tr.cond ?_
  conv=>whnf
  refine cB h (fun hb43 h => ?_) (fun hb43 h => ?_)
  ·refine Tr.ret ?_
   conv=>whnf
   refine endH ?_
   conv=>whnf
   cases h
   exact endB rfl rfl rfl ⟨⟨_, rfl⟩, trivial⟩
  refine Tr.skip ?_
  conv=>whnf
  refine sd [(21,0),(23,0)] [(0,1),(1,1),(2,1),(3,1),(4,1),(5,1),(6,1),(7,1),(8,1),(9,1),(10,1),(11,1),(12,3),(13,3),(14,1),(15,1),(16,1),(17,1),(18,3),(19,3),(20,3),(21,0),(22,3),(23,0)] ?_
  conv=>whnf
  refine q1 ?_
  conv=>whnf
  refine q1 ?_
  conv=>whnf
  refine q1 ?_
  conv=>whnf
  refine q4 ?_
  conv=>whnf
  refine q1 ?_
  conv=>whnf
  refine q1 ?_
  conv=>whnf
  refine q1 ?_
  conv=>whnf
  refine q4 ?_
  conv=>whnf
  refine q1 ?_
  conv=>whnf
  refine q1 ?_
  conv=>whnf
  refine q1 ?_
  conv=>whnf
  refine q4 ?_
  conv=>whnf
  obtain ⟨x_44, hx_44, h⟩ := bS h
  refine q3 (ixS_of hx_44 rfl rr) ?_
  conv=>whnf
  refine q3 (elP_of hx_44 rr) ?_
  conv=>whnf
  refine q1 ?_
  conv=>whnf
  refine q1 ?_
  conv=>whnf
  refine q1 ?_
  conv=>whnf
  refine q4 ?_
  conv=>whnf
  obtain ⟨x_45, hx_45, h⟩ := bS h
  refine q3 (ixS_of hx_45 rfl rr) ?_
  conv=>whnf
  refine q3 (elP_of hx_45 rr) ?_
  conv=>whnf
  obtain ⟨x_46, hx_46, h⟩ := bS h
  refine q3 (ixS_of hx_46 rfl rr) ?_
  conv=>whnf
  refine ⟨_, _, (by (conv=>whnf); (refine elP_of hx_46 ?_); (conv=>whnf); (refine lvS_mk (es' := List.map .d (List.map eI (List.set l_9 (Int.toNat (w64 (first_3 + root_8))) x_44))) (by simp only [Nat.zero_add, List.map_set]; first | done | rfl) ?_); (conv=>whnf); (exact rr)), kp_ok (by repeat (first | exact trivial | refine ⟨trivial, ?_⟩ | refine ⟨rfl, ?_⟩)), ?_⟩
  conv=>whnf
  obtain ⟨x_47, hx_47, h⟩ := bS h
  refine q3 (ixS_of hx_47 (by first | rfl | simp) rr) ?_
  conv=>whnf
  refine ⟨_, _, (by (conv=>whnf); (refine elP_of hx_47 ?_); (conv=>whnf); (refine lvS_mk (es' := List.map .d (List.map eI (List.set (List.set l_9 (Int.toNat (w64 (first_3 + root_8))) x_44) (Int.toNat (w64 (first_3 + (w64 ((w64 (2 * root_8)) + 1))))) x_45))) (by simp only [Nat.zero_add, List.map_set]; first | done | rfl) ?_); (conv=>whnf); (exact rr)), kp_ok (by repeat (first | exact trivial | refine ⟨trivial, ?_⟩ | refine ⟨rfl, ?_⟩)), ?_⟩
  conv=>whnf
  refine rg ?_
  conv=>whnf
  refine ⟨((w64 ((w64 (2 * root_8)) + 1)), (List.set (List.set l_9 (Int.toNat (w64 (first_3 + root_8))) x_44) (Int.toNat (w64 (first_3 + (w64 ((w64 (2 * root_8)) + 1))))) x_45)), h, ?_⟩
  exact Wk.mk2 [0] 1 rfl rfl (by decide) rfl ⟨daS_d rfl, trivial⟩ ⟨⟨rfl, (slEq (by first | rfl | simp))⟩, rr, rr, rr, trivial⟩
 clear h
 rintro l_11 h T1 H1 hw
 replace h : M151 l_11 = some l_5 := h
 conv=>whnf
 unfold M151 at h
 refine endW hw ?_
 conv=>whnf
 cases h
 exact endB rfl rfl rfl ⟨⟨_, rfl⟩, trivial⟩
theorem P155 (a_1 : Int) (b_2 : Int) (l_3 : List Int) (l_4 : List Int) (h : M155 a_1 b_2 l_3 = some l_4) :
    MC prog 121 [.sl 0 1 0 (List.length l_3), (dI a_1), (dI b_2)] [.arr 1 (List.map .d (List.map eI l_3))] (fun rs Bs => rs = [] ∧ Bs = [.arr 1 (List.map .d (List.map eI l_4))]) := by
 refine MC.of_tr (cx := ⟨56, none, lay, 1⟩) layOK func121 rfl rfl rfl rfl rfl (by simp [f121]) ?_
 refine Tr.unW ?_
 unfold M155 at h
 refine sg ?_
 conv=>whnf
 refine sg ?_
 conv=>whnf
 refine sg ?_
 conv=>whnf
 refine arS_raw ?_
 conv=>whnf
 refine Tr.seq ?_
 refine sg ?_
 conv=>whnf
 refine arS_raw ?_
 conv=>whnf
 refine neS_mk (by decide) ?_
 conv=>whnf
 refine arS_raw ?_
 conv=>whnf
 obtain ⟨l_10, hv17, h⟩ := bS h
 refine Tr.cutQ1 ([(0, .sl 0 1 0 (List.length l_10)), (6, (dI a_1)), (7, (dI 0)), (8, (dI (w64 (b_2 - a_1))))]) ([some (.arr 1 (List.map .d (List.map eI l_10)))]) ?_ (fun T1 H1 hw => ?_)
 ·replace h := hv17; clear hv17
  refine Tr.block ?_
  refine Tr.loopM (σ := Int × List Int) (fun n s => M153 a_1 b_2 n s.1 s.2) l_10 (fun s => ([(0, .sl 0 1 0 (List.length s.2)), (6, (dI a_1)), (7, (dI 0)), (8, (dI (w64 (b_2 - a_1)))), (9, (dI s.1))], [some (.arr 1 (List.map .d (List.map eI s.2)))])) (((w64 (Int.tdiv (w64 ((w64 (b_2 - a_1)) - 1)) 2)) + 1 - 0 : Int).toNat + 1) ((w64 (Int.tdiv (w64 ((w64 (b_2 - a_1)) - 1)) 2)), l_3) h (fun s => rfl) (Wk.mk2 [0] 1 rfl rfl (by decide) rfl ⟨daS_d rfl, trivial⟩ ⟨rr, rr, rr, rr, rr, trivial⟩) ?_
  clear h
  rintro n_9 ⟨i_7, l_8⟩ h
  replace h : M153 a_1 b_2 (n_9 + 1) i_7 l_8 = some l_10 := h
  rw [M153] at h
  refine Tr.seq ?_
  refine sg ?_
  conv=>whnf
  refine Tr.cond ?_
  conv=>whnf
  refine cB h (fun hb13 h => ?_) (fun hb13 h => ?_)
  ·refine Tr.skip ?_
   conv=>whnf
   refine Tr.seq ?_
   refine Tr.block ?_
   refine rg ?_
   conv=>whnf
   obtain ⟨l_14, hc15, h⟩ := bS h
   refine MC.ecall (P152 i_7 ((w64 (b_2 - a_1))) a_1 l_8 l_14 hc15) [0] (by decide) rfl rfl ?_ (fun rs Bs1 hrs => ?_)
   · exact ⟨⟨⟨_, rfl⟩, rfl⟩, trivial⟩
   obtain ⟨rfl, rfl⟩ := hrs
   conv=>whnf
   obtain ⟨_, hl16, h⟩ := bS h
   refine rg ?_
   conv=>whnf
   refine arS_raw ?_
   conv=>whnf
   refine ⟨((w64 (i_7 - 1)), l_14), h, ?_⟩
   exact Wk.mk2 [0] 1 rfl rfl (by decide) rfl ⟨daS_d rfl, trivial⟩ ⟨⟨rfl, (slEq (by first | rfl | simp [lenIs_eq hl16]))⟩, rr, rr, rr, rr, trivial⟩
  refine Tr.exit ?_
  conv=>whnf
  cases h
  exact Wk.mk2 [0] 1 rfl rfl (by decide) rfl ⟨daS_d rfl, trivial⟩ ⟨rr, rr, rr, rr, trivial⟩
 clear hv17
 conv=>whnf
 refine Tr.weak hw ?_
 refine sg ?_
 conv=>whnf
 refine arS_raw ?_
 conv=>whnf
 obtain ⟨l_23, hv34, h⟩ := bS h
 refine Tr.cutQ1 ([]) ([some (.arr 1 (List.map .d (List.map eI l_23)))]) ?_ (fun T1 H1 hw => ?_)
 ·replace h := hv34; clear hv34
  refine Tr.block ?_
  refine Tr.loopM (σ := Int × List Int) (fun n s => M154 a_1 n s.1 s.2) l_23 (fun s => ([(0, .sl 0 1 0 (List.length s.2)), (6, (dI a_1)), (7, (dI 0)), (10, (dI s.1))], [some (.arr 1 (List.map .d (List.map eI s.2)))])) (((w64 ((w64 (b_2 - a_1)) - 1)) + 1 - 0 : Int).toNat + 1) ((w64 ((w64 (b_2 - a_1)) - 1)), l_10) h (fun s => rfl) (Wk.mk2 [0] 1 rfl rfl (by decide) rfl ⟨daS_d rfl, trivial⟩ ⟨rr, rr, rr, rr, trivial⟩) ?_
  clear h
  rintro n_22 ⟨i_20, l_21⟩ h
  replace h : M154 a_1 (n_22 + 1) i_20 l_21 = some l_23 := h
  rw [M154] at h
  refine Tr.seq ?_
  refine sg ?_
  conv=>whnf
  refine Tr.cond ?_
  conv=>whnf
  refine cB h (fun hb26 h => ?_) (fun hb26 h => ?_)
  ·refine Tr.skip ?_
   conv=>whnf
   refine Tr.seq ?_
   refine Tr.block ?_
   refine sd [(17,0),(19,0)] [(0,1),(1,1),(2,1),(3,1),(4,1),(5,1),(6,1),(7,1),(8,1),(9,1),(10,3),(11,3),(12,1),(13,1),(14,3),(15,3),(16,3),(17,0),(18,3),(19,0)] ?_
   conv=>whnf
   refine q1 ?_
   conv=>whnf
   refine q1 ?_
   conv=>whnf
   refine q1 ?_
   conv=>whnf
   refine q1 ?_
   conv=>whnf
   refine q1 ?_
   conv=>whnf
   refine q4 ?_
   conv=>whnf
   refine q1 ?_
   conv=>whnf
   refine q1 ?_
   conv=>whnf
   refine q1 ?_
   conv=>whnf
   refine q4 ?_
   conv=>whnf
   obtain ⟨x_27, hx_27, h⟩ := bS h
   refine q3 (ixS_of hx_27 rfl rr) ?_
   conv=>whnf
   refine q3 (elP_of hx_27 rr) ?_
   conv=>whnf
   refine q1 ?_
   conv=>whnf
   refine q1 ?_
   conv=>whnf
   obtain ⟨x_28, hx_28, h⟩ := bS h
   refine q3 (ixS_of hx_28 rfl rr) ?_
   conv=>whnf
   refine q3 (elP_of hx_28 rr) ?_
   conv=>whnf
   obtain ⟨x_29, hx_29, h⟩ := bS h
   refine q3 (ixS_of hx_29 rfl rr) ?_
   conv=>whnf
   refine ⟨_, _, (by (conv=>whnf); (refine elP_of hx_29 ?_); (conv=>whnf); (refine lvS_mk (es' := List.map .d (List.map eI (List.set l_21 (Int.toNat a_1) x_27))) (by simp only [Nat.zero_add, List.map_set]; first | done | rfl) ?_); (conv=>whnf); (exact rr)), kp_ok (by repeat (first | exact trivial | refine ⟨trivial, ?_⟩ | refine ⟨rfl, ?_⟩)), ?_⟩
   conv=>whnf
   obtain ⟨x_30, hx_30, h⟩ := bS h
   refine q3 (ixS_of hx_30 (by first | rfl | simp) rr) ?_
   conv=>whnf
   refine ⟨_, _, (by (conv=>whnf); (refine elP_of hx_30 ?_); (conv=>whnf); (refine lvS_mk (es' := List.map .d (List.map eI (List.set (List.set l_21 (Int.toNat a_1) x_27) (Int.toNat (w64 (a_1 + i_20))) x_28))) (by simp only [Nat.zero_add, List.map_set]; first | done | rfl) ?_); (conv=>whnf); (exact rr)), kp_ok (by repeat (first | exact trivial | refine ⟨trivial, ?_⟩ | refine ⟨rfl, ?_⟩)), ?_⟩
   conv=>whnf
   refine rg ?_
   conv=>whnf
   obtain ⟨l_31, hc32, h⟩ := bS h
   refine MC.ecall (P152 0 i_20 a_1 ((List.set (List.set l_21 (Int.toNat a_1) x_27) (Int.toNat (w64 (a_1 + i_20))) x_28)) l_31 hc32) [0] (by decide) (by first | rfl | (simp only [List.length_set]; rfl)) rfl ?_ (fun rs Bs1 hrs => ?_)
   · exact ⟨⟨⟨_, rfl⟩, rfl⟩, trivial⟩
   obtain ⟨rfl, rfl⟩ := hrs
   conv=>whnf
   obtain ⟨_, hl33, h⟩ := bS h
   refine rg ?_
   conv=>whnf
   refine arS_raw ?_
   conv=>whnf
   refine ⟨((w64 (i_20 - 1)), l_31), h, ?_⟩
   exact Wk.mk2 [0] 1 rfl rfl (by decide) rfl ⟨daS_d rfl, trivial⟩ ⟨⟨rfl, (slEq (by first | rfl | simp [lenIs_eq hl33]))⟩, rr, rr, rr, trivial⟩
  refine Tr.exit ?_
  conv=>whnf
  cases h
  exact Wk.mk2 [0] 1 rfl rfl (by decide) rfl ⟨daS_d rfl, trivial⟩ trivial
 clear hv34
 conv=>whnf
 refine endW hw ?_
 conv=>whnf
 cases h
 exact endB rfl rfl rfl ⟨⟨_, rfl⟩, trivial⟩
end Go.Proofs.Tryz
