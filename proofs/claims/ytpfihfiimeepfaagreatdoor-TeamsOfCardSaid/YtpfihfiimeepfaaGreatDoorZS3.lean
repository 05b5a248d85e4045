/- Contracts of functions, by program (gen.py). No condition. -/
import Derived.Test.YtpfihfiimeepfaaGreatDoorZL
import Derived.Test.YtpfihfiimeepfaaGreatDoorZM
import Derived.Test.YtpfihfiimeepfaaGreatDoorZCB
import Derived.Test.YtpfihfiimeepfaaGreatDoorZC7
import Derived.Test.YtpfihfiimeepfaaGreatDoorZS2
namespace Go.Proofs.Tryz
open Go Go.Abs Go.Stop
set_option maxRecDepth 8000
set_option linter.unusedVariables false
set_option linter.unusedSimpArgs false
theorem P58 (s_1 : List TRunner) (c_2 : Int) (r_3 : Int) (h : M58 s_1 c_2 = some r_3) :
    PC prog 60 [(.ls (List.map eTRunner s_1)), (.fn 69 [(.ro [(.i .i64 c_2)])])] (fun rs => rs = [(.i .i64 r_3)]) := by
 refine PC.of_tr (cx := ⟨19, none, lay, 0⟩) layOK func60 rfl rfl rfl rfl rfl (by simp [f60]) ?_
 unfold M58 at h
 refine sg ?_
 conv=>whnf
 refine Tr.seq ?_
 refine sg ?_
 conv=>whnf
 refine lnS_map ?_
 conv=>whnf
 refine Tr.cutQ (α := Unit) (fun s => ([(4, (dI 0))], [])) (fun s => M57 s = some r_3) ?_ ?_
 ·refine Tr.block ?_
  refine Tr.loopM (σ := Int) (fun n s => M56 s_1 c_2 M57 n s) r_3 (fun s => ([(0, .d (.ls (List.map eTRunner s_1))), (1, .d (.fn 69 [(.ro [(.i .i64 c_2)])])), (4, (dI 0)), (7, (dI (((s_1).length : Int)))), (8, (dI s))], [])) (((((s_1).length : Int)) - 0 : Int).toNat + 1) (0) h (fun s => rfl) (Wk.mk2 [] 0 rfl rfl (by decide) rfl trivial ⟨rr, rr, rr, rr, rr, trivial⟩) ?_
  clear h
  rintro n_6 v_5 h
  replace h : M56 s_1 c_2 M57 (n_6 + 1) v_5 = some r_3 := h
  rw [M56] at h
  refine sg ?_
  conv=>whnf
  refine Tr.seq ?_
  refine Tr.cond ?_
  conv=>whnf
  refine cB h (fun hb9 h => ?_) (fun hb9 h => ?_)
  ·refine Tr.skip ?_
   conv=>whnf
   refine Tr.seq ?_
   refine Tr.block ?_
   refine sg ?_
   conv=>whnf
   refine sg ?_
   conv=>whnf
   obtain ⟨x_10, hx_10, h⟩ := bS h
   refine ixP_of hx_10 ?_
   conv=>whnf
   obtain ⟨r_11, hc12, h⟩ := bS h
   refine PC.ecall (P55 x_10 c_2 r_11 hc12) (fun rs hrs => ?_)
   subst hrs
   conv=>whnf
   refine Tr.cond ?_
   conv=>whnf
   refine cB h (fun hb13 h => ?_) (fun hb13 h => ?_)
   ·refine sg ?_
    conv=>whnf
    refine Tr.ret ?_
    conv=>whnf
    cases h
    rfl
   refine Tr.skip ?_
   conv=>whnf
   refine rg ?_
   conv=>whnf
   refine arS_raw ?_
   conv=>whnf
   refine ⟨((w64 (v_5 + 1))), h, ?_⟩
   exact Wk.mk2 [] 0 rfl rfl (by decide) rfl trivial ⟨rr, rr, rr, rr, rr, trivial⟩
  refine Tr.exit ?_
  conv=>whnf
  refine ⟨(), h, ?_⟩
  exact Wk.mk2 [] 0 rfl rfl (by decide) rfl trivial ⟨rr, trivial⟩
 clear h
 rintro _ h T1 H1 hw
 replace h : M57 () = some r_3 := h
 conv=>whnf
 refine Tr.weak hw ?_
 unfold M57 at h
 refine sg ?_
 conv=>whnf
 refine Tr.ret ?_
 conv=>whnf
 cases h
 rfl
theorem P59 (s_1 : List TRunner) (c_2 : Int) (r_3 : Bool) (h : M59 s_1 c_2 = some r_3) :
    PC prog 68 [(.ls (List.map eTRunner s_1)), (.fn 69 [(.ro [(.i .i64 c_2)])])] (fun rs => rs = [(.b r_3)]) := by
 refine PC.of_tr (cx := ⟨9, none, lay, 0⟩) layOK func68 rfl rfl rfl rfl rfl (by simp [f68]) ?_
 unfold M59 at h
 refine sg ?_
 conv=>whnf
 refine sg ?_
 conv=>whnf
 obtain ⟨r_4, hc5, h⟩ := bS h
 refine PC.ecall (P58 s_1 c_2 r_4 hc5) (fun rs hrs => ?_)
 subst hrs
 conv=>whnf
 refine Tr.ret ?_
 conv=>whnf
 cases h
 rfl
theorem P60 (k_1 : TClocks) (seg_2 : Int) (x_3 : TSpan) (r_4 : TSpan) (h : M60 k_1 seg_2 x_3 = some r_4) :
    PC prog 95 [(eTClocks k_1), (.i .i64 seg_2), (eTSpan x_3)] (fun rs => rs = [(eTSpan r_4)]) := by
 refine PC.of_tr (cx := ⟨34, none, lay, 0⟩) layOK func95 rfl rfl rfl rfl rfl (by simp [f95]) ?_
 unfold M60 at h
 refine sg ?_
 conv=>whnf
 refine Tr.seq ?_
 refine sg ?_
 conv=>whnf
 refine Tr.cond ?_
 conv=>whnf
 refine cB h (fun hb5 h => ?_) (fun hb5 h => ?_)
 ·refine sg ?_
  conv=>whnf
  refine Tr.ret ?_
  conv=>whnf
  cases h
  rfl
 refine Tr.skip ?_
 conv=>whnf
 refine sg ?_
 conv=>whnf
 refine arS_raw ?_
 conv=>whnf
 refine sd [(21,2)] [(0,4),(1,4),(2,3),(3,3),(4,1),(5,2),(6,2),(7,2),(8,2),(9,1),(10,4),(11,4),(12,3),(13,3),(14,2),(15,2),(16,1),(17,2),(18,2),(19,1),(20,1),(21,0)] ?_
 conv=>whnf
 refine q2 ?_
 conv=>whnf
 refine q2 ?_
 conv=>whnf
 refine q2 ?_
 conv=>whnf
 refine q2 ?_
 conv=>whnf
 refine q1 ?_
 conv=>whnf
 obtain ⟨x_6, hx_6, h⟩ := bS h
 refine q3 (ixP_of hx_6 rr) ?_
 conv=>whnf
 refine q2 ?_
 conv=>whnf
 obtain ⟨x_7, hx_7, h⟩ := bS h
 refine q3 (ixP_of hx_7 rr) ?_
 conv=>whnf
 refine q2 ?_
 conv=>whnf
 refine q4 ?_
 conv=>whnf
 refine q2 ?_
 conv=>whnf
 refine q2 ?_
 conv=>whnf
 refine q2 ?_
 conv=>whnf
 refine q2 ?_
 conv=>whnf
 obtain ⟨x_8, hx_8, h⟩ := bS h
 refine q3 (ixP_of hx_8 rr) ?_
 conv=>whnf
 refine q2 ?_
 conv=>whnf
 refine q1 ?_
 conv=>whnf
 obtain ⟨x_9, hx_9, h⟩ := bS h
 refine q3 (ixP_of hx_9 rr) ?_
 conv=>whnf
 refine q2 ?_
 conv=>whnf
 refine q4 ?_
 conv=>whnf
 refine q1 ?_
 conv=>whnf
 refine ⟨_, _, rr, kp_ok (by repeat (first | exact trivial | refine ⟨trivial, ?_⟩ | refine ⟨rfl, ?_⟩)), ?_⟩
 conv=>whnf
 refine Tr.ret ?_
 conv=>whnf
 cases h
 rfl
theorem P61 (k_1 : TClocks) (x_2 : TOutcome) (r_3 : TSpan) (r_4 : Int) (h : M61 k_1 x_2 = some (r_3, r_4)) :
    PC prog 70 [(eTClocks k_1), (eTOutcome x_2)] (fun rs => rs = [(eTSpan r_3), (.i .i64 r_4)]) := by
 refine PC.of_tr (cx := ⟨26, none, lay, 0⟩) layOK func70 rfl rfl rfl rfl rfl (by simp [f70]) ?_
 unfold M61 at h
 refine sg ?_
 conv=>whnf
 refine Tr.seq ?_
 refine sg ?_
 conv=>whnf
 obtain ⟨r_5, hc6, h⟩ := bS h
 refine PC.ecall (P34 k_1 x_2 r_5 hc6) (fun rs hrs => ?_)
 subst hrs
 conv=>whnf
 refine sg ?_
 conv=>whnf
 refine Tr.cond ?_
 conv=>whnf
 refine cB h (fun hb7 h => ?_) (fun hb7 h => ?_)
 ·refine sg ?_
  conv=>whnf
  refine Tr.ret ?_
  conv=>whnf
  cases h
  rfl
 refine Tr.skip ?_
 conv=>whnf
 refine Tr.seq ?_
 refine sg ?_
 conv=>whnf
 refine Tr.cond ?_
 conv=>whnf
 refine cB h (fun hb8 h => ?_) (fun hb8 h => ?_)
 ·refine sg ?_
  conv=>whnf
  refine Tr.ret ?_
  conv=>whnf
  cases h
  rfl
 refine Tr.skip ?_
 conv=>whnf
 refine sg ?_
 conv=>whnf
 obtain ⟨r_9, hc10, h⟩ := bS h
 refine PC.ecall (P60 k_1 x_2.Seg ({ Lo := x_2.Lo, Hi := x_2.Hi } : TSpan) r_9 hc10) (fun rs hrs => ?_)
 subst hrs
 conv=>whnf
 refine Tr.ret ?_
 conv=>whnf
 cases h
 rfl
theorem P64 (f_1 : TField) (runner_2 : Int) (r_3 : Tteams_member) (h : M64 f_1 runner_2 = some r_3) :
    PC prog 35 [(eTField f_1), (.i .i64 runner_2)] (fun rs => rs = [(eTteams_member r_3)]) := by
 refine PC.of_tr (cx := ⟨83, none, lay, 0⟩) layOK func35 rfl rfl rfl rfl rfl (by simp [f35]) ?_
 unfold M64 at h
 refine sg ?_
 conv=>whnf
 refine sg ?_
 conv=>whnf
 refine Tr.seq ?_
 refine sg ?_
 conv=>whnf
 obtain ⟨x_4, hx_4, h⟩ := bS h
 refine ixP_of hx_4 ?_
 conv=>whnf
 refine lnS_map ?_
 conv=>whnf
 obtain ⟨⟨v_16, v_17, v_18, v_19⟩, hv54, h⟩ := bS h
 refine Tr.cutQ1 ([(4, .pt 0 0), (5, .pt 1 0)]) ([some (.var [(dI 0), (dI 0), .d (.b false), .d (.b false)]), some (.var [(dI v_16), (dI v_17), .d (.b v_18), .d (.b v_19)])]) ?_ (fun T1 H1 hw => ?_)
 ·replace h := hv54; clear hv54
  refine Tr.block ?_
  refine Tr.loopM (σ := Int × Int × Int × Bool × Bool) (fun n s => M63 f_1 x_4 n s.1 s.2.1 s.2.2.1 s.2.2.2.1 s.2.2.2.2) (v_16, v_17, v_18, v_19) (fun s => ([(2, .pt 0 0), (4, .pt 1 0), (5, .pt 2 0), (18, .d (.ls (List.map (eL eTOutcome) x_4.Worlds))), (19, (dI (((x_4.Worlds).length : Int)))), (20, (dI s.1))], [some (.var [.d (.ls (List.map eTSegment f_1.Clocks.Segments)), .d (.ls (List.map (eL eI) f_1.Clocks.Far)), .d (.ls (List.map eTPair f_1.Pairs)), .d (.ls (List.map eTRunner f_1.Runners))]), some (.var [(dI 0), (dI 0), .d (.b false), .d (.b false)]), some (.var [(dI s.2.1), (dI s.2.2.1), .d (.b s.2.2.2.1), .d (.b s.2.2.2.2)])])) (((((x_4.Worlds).length : Int)) - 0 : Int).toNat + 1) (0, 0, 0, false, true) h (fun s => rfl) (Wk.mk2 [0, 1, 2] 3 rfl rfl (by decide) rfl ⟨rr, rr, rr, trivial⟩ ⟨rr, rr, rr, rr, rr, rr, trivial⟩) ?_
  clear h
  rintro n_15 ⟨v_10, v_11, v_12, v_13, v_14⟩ h
  replace h : M63 f_1 x_4 (n_15 + 1) v_10 v_11 v_12 v_13 v_14 = some (v_16, v_17, v_18, v_19) := h
  rw [M63] at h
  refine sg ?_
  conv=>whnf
  refine Tr.seq ?_
  refine Tr.cond ?_
  conv=>whnf
  refine cB h (fun hb22 h => ?_) (fun hb22 h => ?_)
  ·refine Tr.skip ?_
   conv=>whnf
   refine Tr.seq ?_
   refine Tr.block ?_
   refine sg ?_
   conv=>whnf
   obtain ⟨x_23, hx_23, h⟩ := bS h
   refine ixP_of hx_23 ?_
   conv=>whnf
   refine Tr.seq ?_
   refine sg ?_
   conv=>whnf
   obtain ⟨r_24, hc25, h⟩ := bS h
   refine PC.ecall_lend ?_ ⟨_, _, func68, rfl, rfl⟩
   conv=>whnf
   refine ⟨_, P59 f_1.Runners v_10 r_24 hc25, fun rs hrs => ?_⟩
   subst hrs
   refine ⟨rfl, ?_⟩
   conv=>whnf
   refine Tr.cond ?_
   conv=>whnf
   refine cB h (fun hb26 h => ?_) (fun hb26 h => ?_)
   ·refine Tr.exit ?_
    conv=>whnf
    refine rg ?_
    conv=>whnf
    refine arS_raw ?_
    conv=>whnf
    refine ⟨((w64 (v_10 + 1)), v_11, v_12, v_13, v_14), h, ?_⟩
    exact Wk.mk2 [0, 1, 2] 4 rfl rfl (by decide) rfl ⟨rr, rr, rr, trivial⟩ ⟨rr, rr, rr, rr, rr, rr, trivial⟩
   refine Tr.skip ?_
   conv=>whnf
   refine sg ?_
   conv=>whnf
   refine lnS_map ?_
   conv=>whnf
   obtain ⟨⟨v_38, v_39, v_40, v_41⟩, hv53, h⟩ := bS h
   refine Tr.cutQ1 ([(2, .pt 0 0), (4, .pt 1 0), (5, .pt 2 0), (18, .d (.ls (List.map (eL eTOutcome) x_4.Worlds))), (19, (dI (((x_4.Worlds).length : Int)))), (20, (dI v_10))]) ([some (.var [.d (.ls (List.map eTSegment f_1.Clocks.Segments)), .d (.ls (List.map (eL eI) f_1.Clocks.Far)), .d (.ls (List.map eTPair f_1.Pairs)), .d (.ls (List.map eTRunner f_1.Runners))]), some (.var [(dI 0), (dI 0), .d (.b false), .d (.b false)]), some (.var [(dI v_38), (dI v_39), .d (.b v_40), .d (.b v_41)])]) ?_ (fun T1 H1 hw => ?_)
   ·replace h := hv53; clear hv53
    refine Tr.block ?_
    refine Tr.loopM (σ := Int × Int × Int × Bool × Bool) (fun n s => M62 f_1 x_23 n s.1 s.2.1 s.2.2.1 s.2.2.2.1 s.2.2.2.2) (v_38, v_39, v_40, v_41) (fun s => ([(2, .pt 0 0), (4, .pt 1 0), (5, .pt 2 0), (18, .d (.ls (List.map (eL eTOutcome) x_4.Worlds))), (19, (dI (((x_4.Worlds).length : Int)))), (20, (dI v_10)), (29, .d (.ls (List.map eTOutcome x_23))), (30, (dI (((x_23).length : Int)))), (31, (dI s.1))], [some (.var [.d (.ls (List.map eTSegment f_1.Clocks.Segments)), .d (.ls (List.map (eL eI) f_1.Clocks.Far)), .d (.ls (List.map eTPair f_1.Pairs)), .d (.ls (List.map eTRunner f_1.Runners))]), some (.var [(dI 0), (dI 0), .d (.b false), .d (.b false)]), some (.var [(dI s.2.1), (dI s.2.2.1), .d (.b s.2.2.2.1), .d (.b s.2.2.2.2)])])) (((((x_23).length : Int)) - 0 : Int).toNat + 1) (0, v_11, v_12, v_13, v_14) h (fun s => rfl) (Wk.mk2 [0, 1, 2] 4 rfl rfl (by decide) rfl ⟨rr, rr, rr, trivial⟩ ⟨rr, rr, rr, rr, rr, rr, rr, rr, rr, trivial⟩) ?_
    clear h
    rintro n_37 ⟨v_32, v_33, v_34, v_35, v_36⟩ h
    replace h : M62 f_1 x_23 (n_37 + 1) v_32 v_33 v_34 v_35 v_36 = some (v_38, v_39, v_40, v_41) := h
    rw [M62] at h
    refine sg ?_
    conv=>whnf
    refine Tr.seq ?_
    refine Tr.cond ?_
    conv=>whnf
    refine cB h (fun hb44 h => ?_) (fun hb44 h => ?_)
    ·refine Tr.skip ?_
     conv=>whnf
     refine Tr.seq ?_
     refine Tr.block ?_
     refine sg ?_
     conv=>whnf
     obtain ⟨x_45, hx_45, h⟩ := bS h
     refine ixP_of hx_45 ?_
     conv=>whnf
     refine sg ?_
     conv=>whnf
     obtain ⟨⟨r_46, r_47⟩, hc48, h⟩ := bS h
     refine PC.ecall (P61 f_1.Clocks x_45 r_46 r_47 hc48) (fun rs hrs => ?_)
     subst hrs
     conv=>whnf
     refine Tr.block ?_
     refine Tr.seq ?_
     refine Tr.cutQ1 ([(2, .pt 0 0), (4, .pt 1 0), (5, .pt 2 0), (10, .pt 3 0), (18, .d (.ls (List.map (eL eTOutcome) x_4.Worlds))), (19, (dI (((x_4.Worlds).length : Int)))), (20, (dI v_10)), (29, .d (.ls (List.map eTOutcome x_23))), (30, (dI (((x_23).length : Int)))), (31, (dI v_32)), (58, .d (.b (x_45.Out || (r_47 != 0))))]) ([some (.var [.d (.ls (List.map eTSegment f_1.Clocks.Segments)), .d (.ls (List.map (eL eI) f_1.Clocks.Far)), .d (.ls (List.map eTPair f_1.Pairs)), .d (.ls (List.map eTRunner f_1.Runners))]), some (.var [(dI 0), (dI 0), .d (.b false), .d (.b false)]), some (.var [(dI v_33), (dI v_34), .d (.b v_35), .d (.b v_36)]), some (.var [(dI r_46.Lo), (dI r_46.Hi)])]) ?_ (fun T1 H1 hw => ?_)
     ·refine rg ?_
      conv=>whnf
      refine condS_mk (fun hb50 => ?_) (fun hb50 => ?_)
      ·conv=>whnf
       exact Wk.mk2 [0, 1, 2, 4] 5 rfl rfl (by decide) rfl ⟨rr, rr, rr, rr, trivial⟩ ⟨rr, rr, rr, ⟨rfl, (by first | rfl | (simp only [↓hb22, ↓hb26, ↓hb44, ↓hb50, bl]; done) | (simp only [↓hb22, ↓hb26, ↓hb44, ↓hb50, bl]; rfl))⟩, rr, rr, rr, rr, rr, rr, ⟨rfl, (by first | rfl | (simp only [↓hb22, ↓hb26, ↓hb44, ↓hb50, bl]; done) | (simp only [↓hb22, ↓hb26, ↓hb44, ↓hb50, bl]; rfl))⟩, trivial⟩
      conv=>whnf
      exact Wk.mk2 [0, 1, 2, 4] 5 rfl rfl (by decide) rfl ⟨rr, rr, rr, rr, trivial⟩ ⟨rr, rr, rr, ⟨rfl, (by first | rfl | (simp only [↓hb22, ↓hb26, ↓hb44, ↓hb50, bl]; done) | (simp only [↓hb22, ↓hb26, ↓hb44, ↓hb50, bl]; rfl))⟩, rr, rr, rr, rr, rr, rr, ⟨rfl, (by first | rfl | (simp only [↓hb22, ↓hb26, ↓hb44, ↓hb50, bl]; done) | (simp only [↓hb22, ↓hb26, ↓hb44, ↓hb50, bl]; rfl))⟩, trivial⟩
     conv=>whnf
     refine Tr.weak hw ?_
     refine Tr.cond ?_
     conv=>whnf
     refine cB h (fun hb51 h => ?_) (fun hb51 h => ?_)
     ·refine rg ?_
      conv=>whnf
      refine rg ?_
      conv=>whnf
      refine arS_raw ?_
      conv=>whnf
      refine ⟨((w64 (v_32 + 1)), v_33, v_34, v_35, false), h, ?_⟩
      exact Wk.mk2 [0, 1, 2] 4 rfl rfl (by decide) rfl ⟨rr, rr, rr, trivial⟩ ⟨rr, rr, rr, rr, rr, rr, rr, rr, rr, trivial⟩
     refine sg ?_
     conv=>whnf
     refine Tr.cond ?_
     conv=>whnf
     refine cB h (fun hb52 h => ?_) (fun hb52 h => ?_)
     ·refine rg ?_
      conv=>whnf
      refine rg ?_
      conv=>whnf
      refine arS_raw ?_
      conv=>whnf
      refine ⟨((w64 (v_32 + 1)), r_46.Lo, r_46.Hi, true, v_36), h, ?_⟩
      exact Wk.mk2 [0, 1, 2] 4 rfl rfl (by decide) rfl ⟨rr, rr, rr, trivial⟩ ⟨rr, rr, rr, rr, rr, rr, rr, rr, rr, trivial⟩
     refine dq [(14,2),(17,2)] [(0,5),(1,5),(2,5),(3,6),(4,6),(5,1),(6,5),(7,5),(8,5),(9,6),(10,6),(11,1),(12,5),(13,5),(14,0),(15,5),(16,5),(17,0)] ?_
     conv=>whnf
     refine q2 ?_
     conv=>whnf
     refine q2 ?_
     conv=>whnf
     refine q2 ?_
     conv=>whnf
     refine q2 ?_
     conv=>whnf
     refine q2 ?_
     conv=>whnf
     refine q1 ?_
     conv=>whnf
     refine q2 ?_
     conv=>whnf
     refine q2 ?_
     conv=>whnf
     refine q2 ?_
     conv=>whnf
     refine q2 ?_
     conv=>whnf
     refine q2 ?_
     conv=>whnf
     refine q1 ?_
     conv=>whnf
     refine q2 ?_
     conv=>whnf
     refine q2 ?_
     conv=>whnf
     refine ⟨_, _, rr, kp_ok (by repeat (first | exact trivial | refine ⟨trivial, ?_⟩ | refine ⟨rfl, ?_⟩)), ?_⟩
     conv=>whnf
     refine q2 ?_
     conv=>whnf
     refine q2 ?_
     conv=>whnf
     refine ⟨_, _, rr, kp_ok (by repeat (first | exact trivial | refine ⟨trivial, ?_⟩ | refine ⟨rfl, ?_⟩)), ?_⟩
     conv=>whnf
     refine rg ?_
     conv=>whnf
     refine arS_raw ?_
     conv=>whnf
     refine ⟨((w64 (v_32 + 1)), (minG v_33 r_46.Lo), (maxG v_34 r_46.Hi), v_35, v_36), h, ?_⟩
     exact Wk.mk2 [0, 1, 2] 4 rfl rfl (by decide) rfl ⟨rr, rr, rr, trivial⟩ ⟨rr, rr, rr, rr, rr, rr, rr, rr, rr, trivial⟩
    refine Tr.exit ?_
    conv=>whnf
    cases h
    exact Wk.mk2 [0, 1, 2] 3 rfl rfl (by decide) rfl ⟨rr, rr, rr, trivial⟩ ⟨rr, rr, rr, rr, rr, rr, trivial⟩
   clear hv53
   conv=>whnf
   refine Tr.weak hw ?_
   refine rg ?_
   conv=>whnf
   refine arS_raw ?_
   conv=>whnf
   refine ⟨((w64 (v_10 + 1)), v_38, v_39, v_40, v_41), h, ?_⟩
   exact Wk.mk2 [0, 1, 2] 3 rfl rfl (by decide) rfl ⟨rr, rr, rr, trivial⟩ ⟨rr, rr, rr, rr, rr, rr, trivial⟩
  refine Tr.exit ?_
  conv=>whnf
  cases h
  exact Wk.mk2 [1, 2] 3 rfl rfl (by decide) rfl ⟨rr, rr, trivial⟩ ⟨⟨rfl, (by first | rfl | (simp only [↓hb22, bl]; done) | (simp only [↓hb22, bl]; rfl))⟩, ⟨rfl, (by first | rfl | (simp only [↓hb22, bl]; done) | (simp only [↓hb22, bl]; rfl))⟩, trivial⟩
 clear hv54
 conv=>whnf
 refine Tr.weak hw ?_
 refine Tr.seq ?_
 refine Tr.cutQ1 ([(4, .pt 0 0), (5, .pt 1 0)]) ([some (.var [(dI 0), (dI 0), .d (.b false), .d (.b false)]), some (.var [(dI v_16), (dI v_17), .d (.b v_18), .d (.b (v_19 && v_18))])]) ?_ (fun T1 H1 hw => ?_)
 ·refine rg ?_
  conv=>whnf
  refine condS_mk (fun hb56 => ?_) (fun hb56 => ?_)
  ·conv=>whnf
   exact Wk.mk2 [0, 1] 2 rfl rfl (by decide) rfl ⟨rr, ⟨rfl, (by first | rfl | (simp only [↓hb56, bl]; done) | (simp only [↓hb56, bl]; rfl))⟩, trivial⟩ ⟨rr, rr, trivial⟩
  conv=>whnf
  exact Wk.mk2 [0, 1] 2 rfl rfl (by decide) rfl ⟨rr, ⟨rfl, (by first | rfl | (simp only [↓hb56, bl]; done) | (simp only [↓hb56, bl]; rfl))⟩, trivial⟩ ⟨rr, rr, trivial⟩
 conv=>whnf
 refine Tr.weak hw ?_
 refine sg ?_
 conv=>whnf
 refine Tr.ret ?_
 conv=>whnf
 cases h
 rfl
theorem P68 (slices_1 : List (List Tteams_member)) (r_2 : List Tteams_member) (h : M68 slices_1 = some r_2) :
    PC prog 36 [(.ls (List.map (eL eTteams_member) slices_1))] (fun rs => rs = [(.ls (List.map eTteams_member r_2))]) := by
 refine PC.of_tr (cx := ⟨36, none, lay, 0⟩) layOK func36 rfl rfl rfl rfl rfl (by simp [f36]) ?_
 unfold M68 at h
 refine sg ?_
 conv=>whnf
 refine sg ?_
 conv=>whnf
 refine Tr.seq ?_
 refine sg ?_
 conv=>whnf
 refine lnS_map ?_
 conv=>whnf
 obtain ⟨size_8, hv14, h⟩ := bS h
 refine Tr.cutQ1 ([(0, .d (.ls (List.map (eL eTteams_member) slices_1))), (2, .nsl), (3, (dI size_8))]) ([]) ?_ (fun T1 H1 hw => ?_)
 ·replace h := hv14; clear hv14
  refine Tr.block ?_
  refine Tr.loopM (σ := Int × Int) (fun n s => M65 slices_1 n s.1 s.2) size_8 (fun s => ([(0, .d (.ls (List.map (eL eTteams_member) slices_1))), (2, .nsl), (3, (dI s.1)), (9, .d (.ls (List.map (eL eTteams_member) slices_1))), (10, (dI (((slices_1).length : Int)))), (11, (dI s.2))], [])) (((((slices_1).length : Int)) - 0 : Int).toNat + 1) (0, 0) h (fun s => rfl) (Wk.mk2 [] 0 rfl rfl (by decide) rfl trivial ⟨rr, rr, rr, rr, rr, rr, trivial⟩) ?_
  clear h
  rintro n_7 ⟨size_5, v_6⟩ h
  replace h : M65 slices_1 (n_7 + 1) size_5 v_6 = some size_8 := h
  rw [M65] at h
  refine sg ?_
  conv=>whnf
  refine Tr.seq ?_
  refine Tr.cond ?_
  conv=>whnf
  refine cB h (fun hb11 h => ?_) (fun hb11 h => ?_)
  ·refine Tr.skip ?_
   conv=>whnf
   refine Tr.seq ?_
   refine Tr.block ?_
   refine sg ?_
   conv=>whnf
   obtain ⟨x_12, hx_12, h⟩ := bS h
   refine ixP_of hx_12 ?_
   conv=>whnf
   refine sg ?_
   conv=>whnf
   refine lnS_map ?_
   conv=>whnf
   refine arS_raw ?_
   conv=>whnf
   refine sg ?_
   conv=>whnf
   refine Tr.cond ?_
   conv=>whnf
   refine cB h (fun hb13 h => ?_) (fun hb13 h => ?_)
   ·refine rg ?_
    conv=>whnf
    cases h
   refine Tr.skip ?_
   conv=>whnf
   refine rg ?_
   conv=>whnf
   refine arS_raw ?_
   conv=>whnf
   refine ⟨((w64 (size_5 + (((x_12).length : Int)))), (w64 (v_6 + 1))), h, ?_⟩
   exact Wk.mk2 [] 0 rfl rfl (by decide) rfl trivial ⟨rr, rr, rr, rr, rr, rr, trivial⟩
  refine Tr.exit ?_
  conv=>whnf
  cases h
  exact Wk.mk2 [] 0 rfl rfl (by decide) rfl trivial ⟨rr, rr, rr, trivial⟩
 clear hv14
 conv=>whnf
 refine Tr.weak hw ?_
 refine sg ?_
 conv=>whnf
 refine ECall.of_tr (cx := ⟨27, none, lay, 0⟩) layOK func71 rfl rfl rfl rfl rfl (by simp [f71]) ?_
 refine sg ?_
 conv=>whnf
 refine Tr.seq ?_
 refine sg ?_
 conv=>whnf
 refine Tr.cond ?_
 conv=>whnf
 refine cB h (fun hb15 h => ?_) (fun hb15 h => ?_)
 ·refine rg ?_
  conv=>whnf
  cases h
 refine Tr.skip ?_
 conv=>whnf
 refine Tr.seq ?_
 refine sg ?_
 conv=>whnf
 refine arS_raw ?_
 conv=>whnf
 refine arS_raw ?_
 conv=>whnf
 refine sg ?_
 conv=>whnf
 refine Tr.cond ?_
 conv=>whnf
 refine cB h (fun hb16 h => ?_) (fun hb16 h => ?_)
 ·refine rg ?_
  conv=>whnf
  refine slS_mk 0 0 rfl rfl (by first | decide | exact Nat.le_of_ble_eq_true rfl) (by first | decide | exact Nat.le_of_ble_eq_true rfl) ?_
  conv=>whnf
  obtain ⟨n_17, hn_17, h⟩ := bS h
  refine azS_of hn_17 ?_
  conv=>whnf
  refine rS (es' := List.map .d (List.map eTteams_member (List.replicate n_17 ({ Span := ({ Lo := 0, Hi := 0 } : TSpan), can := false, sure := false } : Tteams_member)))) (n' := List.length (List.replicate n_17 ({ Span := ({ Lo := 0, Hi := 0 } : TSpan), can := false, sure := false } : Tteams_member))) (by simp only [List.map_replicate]; first | done | rfl) (by simp) ?_
  conv=>whnf
  obtain ⟨l_18, hl_18, h⟩ := bS h
  refine slS_to hl_18 rfl rfl (fun he => ?_)
  conv=>whnf
  refine orS_r ?_
  conv=>whnf
  refine rS (es' := List.map .d (List.map eTteams_member l_18)) (n' := List.length l_18) (by subst he; simp [List.map_take]) (by simp [slcTo_len hl_18]) ?_
  clear he
  conv=>whnf
  refine sg ?_
  conv=>whnf
  refine Tr.ret ?_
  conv=>whnf
  refine Tr.seq ?_
  refine sg ?_
  conv=>whnf
  refine lnS_map ?_
  conv=>whnf
  obtain ⟨l_24, hv30, h⟩ := bS h
  refine Tr.cutQ1 ([(2, .nsl), (6, .sl 0 4 0 (List.length l_24))]) ([some (.arr 4 (List.map .d (List.map eTteams_member l_24)))]) ?_ (fun T1 H1 hw => ?_)
  ·replace h := hv30; clear hv30
   refine Tr.block ?_
   refine Tr.loopM (σ := Int × List Tteams_member) (fun n s => M66 slices_1 n s.1 s.2) l_24 (fun s => ([(2, .nsl), (6, .sl 0 4 0 (List.length s.2)), (25, .d (.ls (List.map (eL eTteams_member) slices_1))), (26, (dI (((slices_1).length : Int)))), (27, (dI s.1))], [some (.arr 4 (List.map .d (List.map eTteams_member s.2)))])) (((((slices_1).length : Int)) - 0 : Int).toNat + 1) (0, l_18) h (fun s => rfl) (Wk.mk2 [0] 1 rfl rfl (by decide) rfl ⟨daS_d rfl, trivial⟩ ⟨rr, rr, rr, rr, rr, trivial⟩) ?_
   clear h
   rintro n_23 ⟨v_21, l_22⟩ h
   replace h : M66 slices_1 (n_23 + 1) v_21 l_22 = some l_24 := h
   rw [M66] at h
   refine sg ?_
   conv=>whnf
   refine Tr.seq ?_
   refine Tr.cond ?_
   conv=>whnf
   refine cB h (fun hb27 h => ?_) (fun hb27 h => ?_)
   ·refine Tr.skip ?_
    conv=>whnf
    refine Tr.seq ?_
    refine Tr.block ?_
    refine sg ?_
    conv=>whnf
    obtain ⟨x_28, hx_28, h⟩ := bS h
    refine ixP_of hx_28 ?_
    conv=>whnf
    refine rg ?_
    conv=>whnf
    refine frP_no ?_
    conv=>whnf
    refine eqS_mk (by first | rfl | simp) ?_
    conv=>whnf
    obtain ⟨l_29, hl_29, h⟩ := bS h
    refine apS_of hl_29 (aQ (f := eTteams_member) (l := x_28) fun _ => rfl) (by first | rfl | simp) (by first | rfl | simp) (fun he => ?_)
    conv=>whnf
    refine rS (es' := List.map .d (List.map eTteams_member l_29)) (n' := List.length l_29) (by subst he; simp only [List.map_append, List.map_cons, List.map_nil, List.nil_append]; first | done | rfl) (by subst he; simp <;> omega) ?_
    clear he
    conv=>whnf
    refine rg ?_
    conv=>whnf
    refine arS_raw ?_
    conv=>whnf
    refine ⟨((w64 (v_21 + 1)), l_29), h, ?_⟩
    exact Wk.mk2 [1] 2 rfl rfl (by decide) rfl ⟨daS_d rfl, trivial⟩ ⟨rr, ⟨rfl, (by first | rfl | (simp only [↓hb15, ↓hb16, ↓hb27, bl]; done) | (simp only [↓hb15, ↓hb16, ↓hb27, bl]; rfl))⟩, rr, rr, rr, trivial⟩
   refine Tr.exit ?_
   conv=>whnf
   cases h
   exact Wk.mk2 [0] 1 rfl rfl (by decide) rfl ⟨daS_d rfl, trivial⟩ ⟨rr, rr, trivial⟩
  clear hv30
  conv=>whnf
  refine Tr.weak hw ?_
  refine sg ?_
  conv=>whnf
  refine Tr.ret ?_
  conv=>whnf
  refine frE_of (f := eTteams_member) (l := l_24) rfl ?_
  conv=>whnf
  cases h
  rfl
 refine Tr.skip ?_
 conv=>whnf
 refine sg ?_
 conv=>whnf
 refine Tr.ret ?_
 conv=>whnf
 refine Tr.seq ?_
 refine sg ?_
 conv=>whnf
 refine lnS_map ?_
 conv=>whnf
 obtain ⟨l_36, hv42, h⟩ := bS h
 refine Tr.cutQ1 ([(2, .nsl), (6, .sl 0 4 0 (List.length l_36))]) ([some (.arr 4 (List.map .d (List.map eTteams_member l_36)))]) ?_ (fun T1 H1 hw => ?_)
 ·replace h := hv42; clear hv42
  refine Tr.block ?_
  refine Tr.loopM (σ := Int × List Tteams_member) (fun n s => M67 slices_1 n s.1 s.2) l_36 (fun s => ([(2, .nsl), (6, .sl 0 4 0 (List.length s.2)), (25, .d (.ls (List.map (eL eTteams_member) slices_1))), (26, (dI (((slices_1).length : Int)))), (27, (dI s.1))], [some (.arr 4 (List.map .d (List.map eTteams_member s.2)))])) (((((slices_1).length : Int)) - 0 : Int).toNat + 1) (0, (([] : List Tteams_member))) h (fun s => rfl) (Wk.mk2 [0] 0 rfl rfl (by decide) rfl ⟨rfl, trivial⟩ ⟨rr, ⟨rfl, (by first | rfl | (simp only [↓hb15, ↓hb16, bl]; done) | (simp only [↓hb15, ↓hb16, bl]; rfl))⟩, rr, rr, rr, trivial⟩) ?_
  clear h
  rintro n_35 ⟨v_33, l_34⟩ h
  replace h : M67 slices_1 (n_35 + 1) v_33 l_34 = some l_36 := h
  rw [M67] at h
  refine sg ?_
  conv=>whnf
  refine Tr.seq ?_
  refine Tr.cond ?_
  conv=>whnf
  refine cB h (fun hb39 h => ?_) (fun hb39 h => ?_)
  ·refine Tr.skip ?_
   conv=>whnf
   refine Tr.seq ?_
   refine Tr.block ?_
   refine sg ?_
   conv=>whnf
   obtain ⟨x_40, hx_40, h⟩ := bS h
   refine ixP_of hx_40 ?_
   conv=>whnf
   refine rg ?_
   conv=>whnf
   refine frP_no ?_
   conv=>whnf
   refine eqS_mk (by first | rfl | simp) ?_
   conv=>whnf
   obtain ⟨l_41, hl_41, h⟩ := bS h
   refine apS_of hl_41 (aQ (f := eTteams_member) (l := x_40) fun _ => rfl) (by first | rfl | simp) (by first | rfl | simp) (fun he => ?_)
   conv=>whnf
   refine rS (es' := List.map .d (List.map eTteams_member l_41)) (n' := List.length l_41) (by subst he; simp only [List.map_append, List.map_cons, List.map_nil, List.nil_append]; first | done | rfl) (by subst he; simp <;> omega) ?_
   clear he
   conv=>whnf
   refine rg ?_
   conv=>whnf
   refine arS_raw ?_
   conv=>whnf
   refine ⟨((w64 (v_33 + 1)), l_41), h, ?_⟩
   exact Wk.mk2 [1] 2 rfl rfl (by decide) rfl ⟨daS_d rfl, trivial⟩ ⟨rr, ⟨rfl, (by first | rfl | (simp only [↓hb15, ↓hb16, ↓hb39, bl]; done) | (simp only [↓hb15, ↓hb16, ↓hb39, bl]; rfl))⟩, rr, rr, rr, trivial⟩
  refine Tr.exit ?_
  conv=>whnf
  cases h
  exact Wk.mk2 [0] 1 rfl rfl (by decide) rfl ⟨daS_d rfl, trivial⟩ ⟨rr, rr, trivial⟩
 clear hv42
 conv=>whnf
 refine Tr.weak hw ?_
 refine sg ?_
 conv=>whnf
 refine Tr.ret ?_
 conv=>whnf
 refine frE_of (f := eTteams_member) (l := l_36) rfl ?_
 conv=>whnf
 cases h
 rfl
theorem P69 (l_1 : List Tteams_member) (l_2 : List Tteams_member) (h : M69 l_1 = some l_2) :
    MC prog 73 [.sl 0 4 0 (List.length l_1), .d (.fn 38 [])] [.arr 4 (List.map .d (List.map eTteams_member l_1))] (fun rs Bs => rs = [] ∧ Bs = [.arr 4 (List.map .d (List.map eTteams_member l_2))]) := by
  unfold M69 at h
  split at h
  · rename_i hn
    cases h
    exact sortMb_mc swo38 eg38 clo38 l_1 hn
  · cases h
theorem P70 (m_1 : Tteams_member) (r_2 : Int) (h : M70 m_1 = some r_2) :
    PC prog 39 [(eTteams_member m_1)] (fun rs => rs = [(.i .i64 r_2)]) := by
 refine PC.of_tr (cx := ⟨6, none, lay, 0⟩) layOK func39 rfl rfl rfl rfl rfl (by simp [f39]) ?_
 unfold M70 at h
 refine sg ?_
 conv=>whnf
 refine sg ?_
 conv=>whnf
 refine Tr.ret ?_
 conv=>whnf
 cases h
 rfl
theorem P72 (l_1 : List Tteams_member) (n_2 : Int) (r_3 : Int) (h : M72 l_1 n_2 = some r_3) :
    PC prog 37 [(.ls (List.map eTteams_member l_1)), (.i .i64 n_2), (.fn 38 []), (.fn 39 [])] (fun rs => rs = [(.i .i64 r_3)]) := by
 refine PC.of_tr (cx := ⟨31, none, lay, 0⟩) layOK func37 rfl rfl rfl rfl rfl (by simp [f37]) ?_
 unfold M72 at h
 refine sg ?_
 conv=>whnf
 refine sg ?_
 conv=>whnf
 refine ECall.of_tr (cx := ⟨8, none, lay, 0⟩) layOK func72 rfl rfl rfl rfl rfl (by simp [f72]) ?_
 refine sg ?_
 conv=>whnf
 refine Tr.seq ?_
 refine sg ?_
 conv=>whnf
 intro nb_4 hnb_4
 cases nb_4
 ·conv=>whnf
  refine Tr.cond ?_
  conv=>whnf
  refine Tr.skip ?_
  conv=>whnf
  refine sg ?_
  conv=>whnf
  refine orB_l ?_
  conv=>whnf
  refine frP_no ?_
  conv=>whnf
  refine eqS_mk (by first | rfl | simp) ?_
  conv=>whnf
  obtain ⟨l_22, hl_22, h⟩ := bS h
  refine apS_of hl_22 (aQ (f := eTteams_member) (l := l_1) fun _ => rfl) (by first | rfl | simp) (by first | rfl | simp) (fun he => ?_)
  conv=>whnf
  refine rS (es' := List.map .d (List.map eTteams_member l_22)) (n' := List.length l_22) (by subst he; simp only [List.map_append, List.map_cons, List.map_nil, List.nil_append]; first | done | rfl) (by subst he; simp <;> omega) ?_
  clear he
  conv=>whnf
  refine Tr.ret ?_
  conv=>whnf
  refine sg ?_
  conv=>whnf
  obtain ⟨l_23, hc24, h⟩ := bS h
  refine MC.ecall (P69 l_22 l_23 hc24) [1] (by decide) rfl rfl ?_ (fun rs Bs1 hrs => ?_)
  · exact ⟨⟨⟨_, rfl⟩, rfl⟩, trivial⟩
  obtain ⟨rfl, rfl⟩ := hrs
  conv=>whnf
  obtain ⟨_, hl25, h⟩ := bS h
  refine Tr.seq ?_
  refine sg ?_
  conv=>whnf
  obtain ⟨l_26, hl_26, h⟩ := bS h
  refine slS_to hl_26 (by first | rfl | simp [lenIs_eq hl25]) rfl (fun he => ?_)
  conv=>whnf
  refine orS_r ?_
  conv=>whnf
  refine rS (es' := List.map .d (List.map eTteams_member l_26)) (n' := List.length l_26) (by subst he; simp [List.map_take]) (by simp [slcTo_len hl_26]) ?_
  clear he
  conv=>whnf
  refine lnS_mk rfl ?_
  conv=>whnf
  obtain ⟨sum_32, hv39, h⟩ := bS h
  refine Tr.cutQ1 ([(8, (dI sum_32))]) ([]) ?_ (fun T1 H1 hw => ?_)
  ·replace h := hv39; clear hv39
   refine Tr.block ?_
   refine Tr.loopM (σ := Int × Int) (fun n s => M71 l_26 n s.1 s.2) sum_32 (fun s => ([(3, .d (.fn 39 [])), (8, (dI s.1)), (18, .sl 0 4 0 (List.length l_26)), (19, (dI (((l_26).length : Int)))), (20, (dI s.2))], [some (.arr 4 (List.map .d (List.map eTteams_member l_26)))])) (((((l_26).length : Int)) - 0 : Int).toNat + 1) (0, 0) h (fun s => rfl) (Wk.mk2 [1] 2 rfl rfl (by decide) rfl ⟨daS_d rfl, trivial⟩ ⟨rr, rr, ⟨rfl, (by first | rfl | simp)⟩, rr, rr, trivial⟩) ?_
   clear h
   rintro n_31 ⟨sum_29, v_30⟩ h
   replace h : M71 l_26 (n_31 + 1) sum_29 v_30 = some sum_32 := h
   rw [M71] at h
   refine sg ?_
   conv=>whnf
   refine Tr.seq ?_
   refine Tr.cond ?_
   conv=>whnf
   refine cB h (fun hb35 h => ?_) (fun hb35 h => ?_)
   ·refine Tr.skip ?_
    conv=>whnf
    refine Tr.seq ?_
    refine Tr.block ?_
    refine sg ?_
    conv=>whnf
    obtain ⟨x_36, hx_36, h⟩ := bS h
    refine ixS_of hx_36 rfl ?_
    conv=>whnf
    refine elP_of hx_36 ?_
    conv=>whnf
    refine rg ?_
    conv=>whnf
    obtain ⟨r_37, hc38, h⟩ := bS h
    refine PC.ecall (P70 x_36 r_37 hc38) (fun rs hrs => ?_)
    subst hrs
    conv=>whnf
    refine arS_raw ?_
    conv=>whnf
    refine rg ?_
    conv=>whnf
    refine arS_raw ?_
    conv=>whnf
    refine ⟨((w64 (sum_29 + r_37)), (w64 (v_30 + 1))), h, ?_⟩
    exact Wk.mk2 [0] 2 rfl rfl (by decide) rfl ⟨daS_d rfl, trivial⟩ ⟨rr, rr, rr, rr, rr, trivial⟩
   refine Tr.exit ?_
   conv=>whnf
   cases h
   exact Wk.mk2 [] 1 rfl rfl (by decide) rfl trivial ⟨rr, trivial⟩
  clear hv39
  conv=>whnf
  refine Tr.weak hw ?_
  refine sg ?_
  conv=>whnf
  refine Tr.ret ?_
  conv=>whnf
  cases h
  rfl
 replace hnb_4 : l_1 = [] := by simpa using hnb_4 rfl
 subst hnb_4
 replace h : ((M69 ((([] : List Tteams_member)))).bind fun l_5 => (lenIs l_5 (([] : List Tteams_member))).bind fun _ => (slcTo l_5 n_2).bind fun l_8 => (M71 l_8 (((((l_8).length : Int)) - 0 : Int).toNat + 1) 0 0).bind fun sum_14 => some sum_14) = some r_3 := by simpa [app] using h
 conv=>whnf
 refine Tr.cond ?_
 conv=>whnf
 refine sg ?_
 conv=>whnf
 refine Tr.ret ?_
 conv=>whnf
 refine Tr.seq ?_
 refine Tr.nslT 0 4 ?_
 conv=>whnf
 refine rg ?_
 conv=>whnf
 obtain ⟨l_5, hc6, h⟩ := bS h
 refine MC.ecall (P69 ((([] : List Tteams_member))) l_5 hc6) [0] (by decide) rfl rfl ?_ (fun rs Bs1 hrs => ?_)
 · exact ⟨⟨⟨_, rfl⟩, rfl⟩, trivial⟩
 obtain ⟨rfl, rfl⟩ := hrs
 conv=>whnf
 obtain ⟨_, hl7, h⟩ := bS h
 refine Tr.seq ?_
 refine sg ?_
 conv=>whnf
 obtain ⟨l_8, hl_8, h⟩ := bS h
 refine slS_to hl_8 (by first | rfl | simp [lenIs_eq hl7]) rfl (fun he => ?_)
 conv=>whnf
 refine orS_r ?_
 conv=>whnf
 refine rS (es' := List.map .d (List.map eTteams_member l_8)) (n' := List.length l_8) (by subst he; simp [List.map_take]) (by simp [slcTo_len hl_8]) ?_
 clear he
 conv=>whnf
 refine lnS_mk rfl ?_
 conv=>whnf
 obtain ⟨sum_14, hv21, h⟩ := bS h
 refine Tr.cutQ1 ([(8, (dI sum_14))]) ([]) ?_ (fun T1 H1 hw => ?_)
 ·replace h := hv21; clear hv21
  refine Tr.block ?_
  refine Tr.loopM (σ := Int × Int) (fun n s => M71 l_8 n s.1 s.2) sum_14 (fun s => ([(3, .d (.fn 39 [])), (8, (dI s.1)), (18, .sl 0 4 0 (List.length l_8)), (19, (dI (((l_8).length : Int)))), (20, (dI s.2))], [some (.arr 4 (List.map .d (List.map eTteams_member l_8)))])) (((((l_8).length : Int)) - 0 : Int).toNat + 1) (0, 0) h (fun s => rfl) (Wk.mk2 [0] 1 rfl rfl (by decide) rfl ⟨daS_d rfl, trivial⟩ ⟨rr, rr, rr, rr, rr, trivial⟩) ?_
  clear h
  rintro n_13 ⟨sum_11, v_12⟩ h
  replace h : M71 l_8 (n_13 + 1) sum_11 v_12 = some sum_14 := h
  rw [M71] at h
  refine sg ?_
  conv=>whnf
  refine Tr.seq ?_
  refine Tr.cond ?_
  conv=>whnf
  refine cB h (fun hb17 h => ?_) (fun hb17 h => ?_)
  ·refine Tr.skip ?_
   conv=>whnf
   refine Tr.seq ?_
   refine Tr.block ?_
   refine sg ?_
   conv=>whnf
   obtain ⟨x_18, hx_18, h⟩ := bS h
   refine ixS_of hx_18 rfl ?_
   conv=>whnf
   refine elP_of hx_18 ?_
   conv=>whnf
   refine rg ?_
   conv=>whnf
   obtain ⟨r_19, hc20, h⟩ := bS h
   refine PC.ecall (P70 x_18 r_19 hc20) (fun rs hrs => ?_)
   subst hrs
   conv=>whnf
   refine arS_raw ?_
   conv=>whnf
   refine rg ?_
   conv=>whnf
   refine arS_raw ?_
   conv=>whnf
   refine ⟨((w64 (sum_11 + r_19)), (w64 (v_12 + 1))), h, ?_⟩
   exact Wk.mk2 [0] 2 rfl rfl (by decide) rfl ⟨daS_d rfl, trivial⟩ ⟨rr, rr, rr, rr, rr, trivial⟩
  refine Tr.exit ?_
  conv=>whnf
  cases h
  exact Wk.mk2 [] 1 rfl rfl (by decide) rfl trivial ⟨rr, trivial⟩
 clear hv21
 conv=>whnf
 refine Tr.weak hw ?_
 refine sg ?_
 conv=>whnf
 refine Tr.ret ?_
 conv=>whnf
 cases h
 rfl
theorem P73 (l_1 : List Tteams_member) (l_2 : List Tteams_member) (h : M73 l_1 = some l_2) :
    MC prog 73 [.sl 0 4 0 (List.length l_1), .d (.fn 40 [])] [.arr 4 (List.map .d (List.map eTteams_member l_1))] (fun rs Bs => rs = [] ∧ Bs = [.arr 4 (List.map .d (List.map eTteams_member l_2))]) := by
  unfold M73 at h
  split at h
  · rename_i hn
    cases h
    exact sortMb_mc swo40 eg40 clo40 l_1 hn
  · cases h
theorem P74 (m_1 : Tteams_member) (r_2 : Int) (h : M74 m_1 = some r_2) :
    PC prog 41 [(eTteams_member m_1)] (fun rs => rs = [(.i .i64 r_2)]) := by
 refine PC.of_tr (cx := ⟨6, none, lay, 0⟩) layOK func41 rfl rfl rfl rfl rfl (by simp [f41]) ?_
 unfold M74 at h
 refine sg ?_
 conv=>whnf
 refine sg ?_
 conv=>whnf
 refine Tr.ret ?_
 conv=>whnf
 cases h
 rfl
theorem P76 (l_1 : List Tteams_member) (n_2 : Int) (r_3 : Int) (h : M76 l_1 n_2 = some r_3) :
    PC prog 37 [(.ls (List.map eTteams_member l_1)), (.i .i64 n_2), (.fn 40 []), (.fn 41 [])] (fun rs => rs = [(.i .i64 r_3)]) := by
 refine PC.of_tr (cx := ⟨31, none, lay, 0⟩) layOK func37 rfl rfl rfl rfl rfl (by simp [f37]) ?_
 unfold M76 at h
 refine sg ?_
 conv=>whnf
 refine sg ?_
 conv=>whnf
 refine ECall.of_tr (cx := ⟨8, none, lay, 0⟩) layOK func72 rfl rfl rfl rfl rfl (by simp [f72]) ?_
 refine sg ?_
 conv=>whnf
 refine Tr.seq ?_
 refine sg ?_
 conv=>whnf
 intro nb_4 hnb_4
 cases nb_4
 ·conv=>whnf
  refine Tr.cond ?_
  conv=>whnf
  refine Tr.skip ?_
  conv=>whnf
  refine sg ?_
  conv=>whnf
  refine orB_l ?_
  conv=>whnf
  refine frP_no ?_
  conv=>whnf
  refine eqS_mk (by first | rfl | simp) ?_
  conv=>whnf
  obtain ⟨l_22, hl_22, h⟩ := bS h
  refine apS_of hl_22 (aQ (f := eTteams_member) (l := l_1) fun _ => rfl) (by first | rfl | simp) (by first | rfl | simp) (fun he => ?_)
  conv=>whnf
  refine rS (es' := List.map .d (List.map eTteams_member l_22)) (n' := List.length l_22) (by subst he; simp only [List.map_append, List.map_cons, List.map_nil, List.nil_append]; first | done | rfl) (by subst he; simp <;> omega) ?_
  clear he
  conv=>whnf
  refine Tr.ret ?_
  conv=>whnf
  refine sg ?_
  conv=>whnf
  obtain ⟨l_23, hc24, h⟩ := bS h
  refine MC.ecall (P73 l_22 l_23 hc24) [1] (by decide) rfl rfl ?_ (fun rs Bs1 hrs => ?_)
  · exact ⟨⟨⟨_, rfl⟩, rfl⟩, trivial⟩
  obtain ⟨rfl, rfl⟩ := hrs
  conv=>whnf
  obtain ⟨_, hl25, h⟩ := bS h
  refine Tr.seq ?_
  refine sg ?_
  conv=>whnf
  obtain ⟨l_26, hl_26, h⟩ := bS h
  refine slS_to hl_26 (by first | rfl | simp [lenIs_eq hl25]) rfl (fun he => ?_)
  conv=>whnf
  refine orS_r ?_
  conv=>whnf
  refine rS (es' := List.map .d (List.map eTteams_member l_26)) (n' := List.length l_26) (by subst he; simp [List.map_take]) (by simp [slcTo_len hl_26]) ?_
  clear he
  conv=>whnf
  refine lnS_mk rfl ?_
  conv=>whnf
  obtain ⟨sum_32, hv39, h⟩ := bS h
  refine Tr.cutQ1 ([(8, (dI sum_32))]) ([]) ?_ (fun T1 H1 hw => ?_)
  ·replace h := hv39; clear hv39
   refine Tr.block ?_
   refine Tr.loopM (σ := Int × Int) (fun n s => M75 l_26 n s.1 s.2) sum_32 (fun s => ([(3, .d (.fn 41 [])), (8, (dI s.1)), (18, .sl 0 4 0 (List.length l_26)), (19, (dI (((l_26).length : Int)))), (20, (dI s.2))], [some (.arr 4 (List.map .d (List.map eTteams_member l_26)))])) (((((l_26).length : Int)) - 0 : Int).toNat + 1) (0, 0) h (fun s => rfl) (Wk.mk2 [1] 2 rfl rfl (by decide) rfl ⟨daS_d rfl, trivial⟩ ⟨rr, rr, ⟨rfl, (by first | rfl | simp)⟩, rr, rr, trivial⟩) ?_
   clear h
   rintro n_31 ⟨sum_29, v_30⟩ h
   replace h : M75 l_26 (n_31 + 1) sum_29 v_30 = some sum_32 := h
   rw [M75] at h
   refine sg ?_
   conv=>whnf
   refine Tr.seq ?_
   refine Tr.cond ?_
   conv=>whnf
   refine cB h (fun hb35 h => ?_) (fun hb35 h => ?_)
   ·refine Tr.skip ?_
    conv=>whnf
    refine Tr.seq ?_
    refine Tr.block ?_
    refine sg ?_
    conv=>whnf
    obtain ⟨x_36, hx_36, h⟩ := bS h
    refine ixS_of hx_36 rfl ?_
    conv=>whnf
    refine elP_of hx_36 ?_
    conv=>whnf
    refine rg ?_
    conv=>whnf
    obtain ⟨r_37, hc38, h⟩ := bS h
    refine PC.ecall (P74 x_36 r_37 hc38) (fun rs hrs => ?_)
    subst hrs
    conv=>whnf
    refine arS_raw ?_
    conv=>whnf
    refine rg ?_
    conv=>whnf
    refine arS_raw ?_
    conv=>whnf
    refine ⟨((w64 (sum_29 + r_37)), (w64 (v_30 + 1))), h, ?_⟩
    exact Wk.mk2 [0] 2 rfl rfl (by decide) rfl ⟨daS_d rfl, trivial⟩ ⟨rr, rr, rr, rr, rr, trivial⟩
   refine Tr.exit ?_
   conv=>whnf
   cases h
   exact Wk.mk2 [] 1 rfl rfl (by decide) rfl trivial ⟨rr, trivial⟩
  clear hv39
  conv=>whnf
  refine Tr.weak hw ?_
  refine sg ?_
  conv=>whnf
  refine Tr.ret ?_
  conv=>whnf
  cases h
  rfl
 replace hnb_4 : l_1 = [] := by simpa using hnb_4 rfl
 subst hnb_4
 replace h : ((M73 ((([] : List Tteams_member)))).bind fun l_5 => (lenIs l_5 (([] : List Tteams_member))).bind fun _ => (slcTo l_5 n_2).bind fun l_8 => (M75 l_8 (((((l_8).length : Int)) - 0 : Int).toNat + 1) 0 0).bind fun sum_14 => some sum_14) = some r_3 := by simpa [app] using h
 conv=>whnf
 refine Tr.cond ?_
 conv=>whnf
 refine sg ?_
 conv=>whnf
 refine Tr.ret ?_
 conv=>whnf
 refine Tr.seq ?_
 refine Tr.nslT 0 4 ?_
 conv=>whnf
 refine rg ?_
 conv=>whnf
 obtain ⟨l_5, hc6, h⟩ := bS h
 refine MC.ecall (P73 ((([] : List Tteams_member))) l_5 hc6) [0] (by decide) rfl rfl ?_ (fun rs Bs1 hrs => ?_)
 · exact ⟨⟨⟨_, rfl⟩, rfl⟩, trivial⟩
 obtain ⟨rfl, rfl⟩ := hrs
 conv=>whnf
 obtain ⟨_, hl7, h⟩ := bS h
 refine Tr.seq ?_
 refine sg ?_
 conv=>whnf
 obtain ⟨l_8, hl_8, h⟩ := bS h
 refine slS_to hl_8 (by first | rfl | simp [lenIs_eq hl7]) rfl (fun he => ?_)
 conv=>whnf
 refine orS_r ?_
 conv=>whnf
 refine rS (es' := List.map .d (List.map eTteams_member l_8)) (n' := List.length l_8) (by subst he; simp [List.map_take]) (by simp [slcTo_len hl_8]) ?_
 clear he
 conv=>whnf
 refine lnS_mk rfl ?_
 conv=>whnf
 obtain ⟨sum_14, hv21, h⟩ := bS h
 refine Tr.cutQ1 ([(8, (dI sum_14))]) ([]) ?_ (fun T1 H1 hw => ?_)
 ·replace h := hv21; clear hv21
  refine Tr.block ?_
  refine Tr.loopM (σ := Int × Int) (fun n s => M75 l_8 n s.1 s.2) sum_14 (fun s => ([(3, .d (.fn 41 [])), (8, (dI s.1)), (18, .sl 0 4 0 (List.length l_8)), (19, (dI (((l_8).length : Int)))), (20, (dI s.2))], [some (.arr 4 (List.map .d (List.map eTteams_member l_8)))])) (((((l_8).length : Int)) - 0 : Int).toNat + 1) (0, 0) h (fun s => rfl) (Wk.mk2 [0] 1 rfl rfl (by decide) rfl ⟨daS_d rfl, trivial⟩ ⟨rr, rr, rr, rr, rr, trivial⟩) ?_
  clear h
  rintro n_13 ⟨sum_11, v_12⟩ h
  replace h : M75 l_8 (n_13 + 1) sum_11 v_12 = some sum_14 := h
  rw [M75] at h
  refine sg ?_
  conv=>whnf
  refine Tr.seq ?_
  refine Tr.cond ?_
  conv=>whnf
  refine cB h (fun hb17 h => ?_) (fun hb17 h => ?_)
  ·refine Tr.skip ?_
   conv=>whnf
   refine Tr.seq ?_
   refine Tr.block ?_
   refine sg ?_
   conv=>whnf
   obtain ⟨x_18, hx_18, h⟩ := bS h
   refine ixS_of hx_18 rfl ?_
   conv=>whnf
   refine elP_of hx_18 ?_
   conv=>whnf
   refine rg ?_
   conv=>whnf
   obtain ⟨r_19, hc20, h⟩ := bS h
   refine PC.ecall (P74 x_18 r_19 hc20) (fun rs hrs => ?_)
   subst hrs
   conv=>whnf
   refine arS_raw ?_
   conv=>whnf
   refine rg ?_
   conv=>whnf
   refine arS_raw ?_
   conv=>whnf
   refine ⟨((w64 (sum_11 + r_19)), (w64 (v_12 + 1))), h, ?_⟩
   exact Wk.mk2 [0] 2 rfl rfl (by decide) rfl ⟨daS_d rfl, trivial⟩ ⟨rr, rr, rr, rr, rr, trivial⟩
  refine Tr.exit ?_
  conv=>whnf
  cases h
  exact Wk.mk2 [] 1 rfl rfl (by decide) rfl trivial ⟨rr, trivial⟩
 clear hv21
 conv=>whnf
 refine Tr.weak hw ?_
 refine sg ?_
 conv=>whnf
 refine Tr.ret ?_
 conv=>whnf
 cases h
 rfl
end Go.Proofs.Tryz
