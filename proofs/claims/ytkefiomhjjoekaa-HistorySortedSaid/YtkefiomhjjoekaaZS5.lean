/- Contracts of functions, by program (gen.py). No condition. -/
import Derived.Test.YtkefiomhjjoekaaZL
import Derived.Test.YtkefiomhjjoekaaZM
import Derived.Test.YtkefiomhjjoekaaZCB
import Derived.Test.YtkefiomhjjoekaaZS4
namespace Go.Proofs.Try
open Go Go.Abs Go.Stop
set_option maxRecDepth 8000
set_option linter.unusedVariables false
set_option linter.unusedSimpArgs false
theorem P106 (f_1 : TField) (h_2 : THistory) (runner_3 : Int) (r_4 : Int) (r_5 : Bool) (r_6 : Int) (h : M106 f_1 h_2 runner_3 = some (r_4, r_5, r_6)) :
    PC prog 23 [(eTField f_1), (eTHistory h_2), (.i .i64 runner_3)] (fun rs => rs = [(.i .i64 r_4), (.b r_5), (.i .i64 r_6)]) := by
 refine PC.of_tr (cx := ⟨28, none, lay, 0⟩) layOK func23 rfl rfl rfl rfl rfl (by simp [f23]) ?_
 unfold M106 at h
 refine sg ?_
 conv=>whnf
 refine sg ?_
 conv=>whnf
 obtain ⟨⟨r_7, r_8⟩, hc9, h⟩ := bS h
 refine PC.ecall (P68 f_1 h_2 runner_3 r_7 r_8 hc9) (fun rs hrs => ?_)
 subst hrs
 conv=>whnf
 refine Tr.seq ?_
 refine sg ?_
 conv=>whnf
 refine Tr.cond ?_
 conv=>whnf
 refine cB h (fun hb10 h => ?_) (fun hb10 h => ?_)
 ·refine sg ?_
  conv=>whnf
  refine Tr.ret ?_
  conv=>whnf
  cases h
  rfl
 refine Tr.skip ?_
 conv=>whnf
 refine sg ?_
 conv=>whnf
 obtain ⟨⟨r_11, r_12⟩, hc13, h⟩ := bS h
 refine PC.ecall (P69 r_7 runner_3 r_11 r_12 hc13) (fun rs hrs => ?_)
 subst hrs
 conv=>whnf
 refine sg ?_
 conv=>whnf
 refine Tr.ret ?_
 conv=>whnf
 cases h
 rfl
theorem P111 (f_1 : TField) (h_2 : THistory) (r_3 : Bool) (h : M111 f_1 h_2 = some r_3) :
    PC prog 8 [(eTField f_1), (eTHistory h_2)] (fun rs => rs = [(.b r_3)]) := by
 refine PC.of_tr (cx := ⟨165, none, lay, 0⟩) layOK func8 rfl rfl rfl rfl rfl (by simp [f8]) ?_
 unfold M111 at h
 refine sg ?_
 conv=>whnf
 refine Tr.seq ?_
 refine sg ?_
 conv=>whnf
 obtain ⟨r_4, hc5, h⟩ := bS h
 refine PC.ecall (P93 r_4 hc5) (fun rs hrs => ?_)
 subst hrs
 conv=>whnf
 refine Tr.cond ?_
 conv=>whnf
 refine cB h (fun hb6 h => ?_) (fun hb6 h => ?_)
 ·refine sg ?_
  conv=>whnf
  refine Tr.ret ?_
  conv=>whnf
  cases h
  rfl
 refine Tr.skip ?_
 conv=>whnf
 refine Tr.seq ?_
 refine sg ?_
 conv=>whnf
 obtain ⟨r_7, hc8, h⟩ := bS h
 refine PC.ecall (P102 f_1 h_2 r_7 hc8) (fun rs hrs => ?_)
 subst hrs
 conv=>whnf
 refine Tr.cond ?_
 conv=>whnf
 refine cB h (fun hb9 h => ?_) (fun hb9 h => ?_)
 ·refine sg ?_
  conv=>whnf
  refine Tr.ret ?_
  conv=>whnf
  cases h
  rfl
 refine Tr.skip ?_
 conv=>whnf
 refine sg ?_
 conv=>whnf
 obtain ⟨⟨r_10, r_11⟩, hc12, h⟩ := bS h
 refine PC.ecall (P88 f_1 h_2 r_10 r_11 hc12) (fun rs hrs => ?_)
 subst hrs
 conv=>whnf
 refine Tr.seq ?_
 refine sg ?_
 conv=>whnf
 refine Tr.cond ?_
 conv=>whnf
 refine cB h (fun hb13 h => ?_) (fun hb13 h => ?_)
 ·refine sg ?_
  conv=>whnf
  refine lnS_map ?_
  conv=>whnf
  refine cB h (fun hb14 h => ?_) (fun hb14 h => ?_)
  ·conv=>whnf
   obtain ⟨r_15, hc16, h⟩ := bS h
   refine PC.ecall (P92 f_1 h_2 r_15 hc16) (fun rs hrs => ?_)
   subst hrs
   conv=>whnf
   refine Tr.ret ?_
   conv=>whnf
   cases h
   rfl
  conv=>whnf
  refine Tr.ret ?_
  conv=>whnf
  cases h
  rfl
 refine Tr.skip ?_
 conv=>whnf
 refine sg ?_
 conv=>whnf
 refine sg ?_
 conv=>whnf
 refine Tr.seq ?_
 refine sg ?_
 conv=>whnf
 refine Tr.cutQ (α := (List (Int × Bool))) (fun s => ([(2, .pt 0 0), (3, .pt 1 0), (4, .d (.b false)), (7, .mr 2)], [some (.var [.d (.ls (List.map eTSegment f_1.Clocks.Segments)), .d (.ls (List.map (eL eI) f_1.Clocks.Far)), .d (.ls (List.map eTPair f_1.Pairs)), .d (.ls (List.map eTRunner f_1.Runners))]), some (.var [(dI h_2.World), .d (.ls (List.map eI h_2.Offsets)), .d (.ls (List.map eTChoice h_2.Choices))]), some (.mp (List.map (eKV eI eB) s))])) (fun s => M110 f_1 h_2 s = some r_3) ?_ ?_
 ·refine Tr.block ?_
  refine Tr.loopM (σ := Int × Int × Int × (List (Int × Bool))) (fun n s => M107 f_1 h_2 r_10 (M110 f_1 h_2) n s.1 s.2.1 s.2.2.1 s.2.2.2) r_3 (fun s => ([(2, .pt 0 0), (3, .pt 1 0), (4, .d (.b false)), (5, .d (.ls (List.map eI r_10))), (7, .mr 2), (8, (dI s.1)), (9, (dI s.2.1)), (10, (dI s.2.2.1))], [some (.var [.d (.ls (List.map eTSegment f_1.Clocks.Segments)), .d (.ls (List.map (eL eI) f_1.Clocks.Far)), .d (.ls (List.map eTPair f_1.Pairs)), .d (.ls (List.map eTRunner f_1.Runners))]), some (.var [(dI h_2.World), .d (.ls (List.map eI h_2.Offsets)), .d (.ls (List.map eTChoice h_2.Choices))]), some (.mp (List.map (eKV eI eB) s.2.2.2))])) (((((r_10).length : Int)) - 0 : Int).toNat + 1) (0, 0, 0, (([] : List (Int × Bool)))) h (fun s => rfl) (Wk.mk2 [0, 1, 2] 3 rfl rfl (by decide) rfl ⟨rr, rr, maS_mk rfl, trivial⟩ ⟨rr, rr, rr, rr, rr, rr, rr, rr, trivial⟩) ?_
  clear h
  rintro n_25 ⟨last_21, before_22, i_23, m_24⟩ h
  replace h : M107 f_1 h_2 r_10 (M110 f_1 h_2) (n_25 + 1) last_21 before_22 i_23 m_24 = some r_3 := h
  rw [M107] at h
  refine Tr.seq ?_
  refine sg ?_
  conv=>whnf
  refine lnS_map ?_
  conv=>whnf
  refine Tr.cond ?_
  conv=>whnf
  refine cB h (fun hb29 h => ?_) (fun hb29 h => ?_)
  ·refine Tr.skip ?_
   conv=>whnf
   refine Tr.seq ?_
   refine Tr.block ?_
   refine sd [] [(0,3),(1,4),(2,1),(3,1),(4,2),(5,2),(6,1),(7,1),(8,1),(9,1),(10,1),(11,1)] ?_
   conv=>whnf
   refine q2 ?_
   conv=>whnf
   refine q2 ?_
   conv=>whnf
   refine q1 ?_
   conv=>whnf
   refine q1 ?_
   conv=>whnf
   obtain ⟨x_30, hx_30, h⟩ := bS h
   refine q3 (ixP_of hx_30 rr) ?_
   conv=>whnf
   refine q2 ?_
   conv=>whnf
   obtain ⟨⟨r_31, r_32⟩, hc33, h⟩ := bS h
   refine q1 ?_ (fun _ => pe (P77 f_1 h_2 x_30 r_31 r_32 hc33) rr)
   conv=>whnf
   refine q1 ?_
   conv=>whnf
   refine q1 ?_
   conv=>whnf
   refine q1 ?_
   conv=>whnf
   refine q1 ?_
   conv=>whnf
   refine q1 ?_
   conv=>whnf
   refine sd [] [(0,3),(1,4),(2,1),(3,1),(4,2),(5,2),(6,1),(7,1),(8,1),(9,1),(10,1),(11,1),(12,1),(13,1)] ?_
   conv=>whnf
   refine q2 ?_
   conv=>whnf
   refine q2 ?_
   conv=>whnf
   refine q1 ?_
   conv=>whnf
   refine q1 ?_
   conv=>whnf
   obtain ⟨x_34, hx_34, h⟩ := bS h
   refine q3 (ixP_of hx_34 rr) ?_
   conv=>whnf
   refine q2 ?_
   conv=>whnf
   obtain ⟨⟨r_35, r_36, r_37⟩, hc38, h⟩ := bS h
   refine q1 ?_ (fun _ => pe (P106 f_1 h_2 x_34 r_35 r_36 r_37 hc38) rr)
   conv=>whnf
   refine q1 ?_
   conv=>whnf
   refine q1 ?_
   conv=>whnf
   refine q1 ?_
   conv=>whnf
   refine q1 ?_
   conv=>whnf
   refine q1 ?_
   conv=>whnf
   refine q1 ?_
   conv=>whnf
   refine q1 ?_
   conv=>whnf
   refine Tr.seq ?_
   refine Tr.seq ?_
   obtain ⟨v_39, hv40, h⟩ := bS h
   refine Tr.cutQ1 ([(2, .pt 0 0), (3, .pt 1 0), (4, .d (.b false)), (5, .d (.ls (List.map eI r_10))), (7, .mr 2), (8, (dI last_21)), (9, (dI before_22)), (10, (dI i_23)), (11, (dI r_31)), (13, (dI r_35)), (115, .d (.b v_39))]) ([some (.var [.d (.ls (List.map eTSegment f_1.Clocks.Segments)), .d (.ls (List.map (eL eI) f_1.Clocks.Far)), .d (.ls (List.map eTPair f_1.Pairs)), .d (.ls (List.map eTRunner f_1.Runners))]), some (.var [(dI h_2.World), .d (.ls (List.map eI h_2.Offsets)), .d (.ls (List.map eTChoice h_2.Choices))]), some (.mp (List.map (eKV eI eB) m_24))]) ?_ (fun T1 H1 hw => ?_)
   ·replace h := hv40; clear hv40
    refine rg ?_
    conv=>whnf
    refine cB h (fun hb41 h => ?_) (fun hb41 h => ?_)
    ·conv=>whnf
     cases h
     exact Wk.mk2 [0, 1, 2] 3 rfl rfl (by decide) rfl ⟨rr, rr, maS_mk rfl, trivial⟩ ⟨rr, rr, rr, rr, rr, rr, rr, rr, rr, rr, rr, trivial⟩
    conv=>whnf
    refine cB h (fun hb42 h => ?_) (fun hb42 h => ?_)
    ·conv=>whnf
     cases h
     exact Wk.mk2 [0, 1, 2] 3 rfl rfl (by decide) rfl ⟨rr, rr, maS_mk rfl, trivial⟩ ⟨rr, rr, rr, rr, rr, rr, rr, rr, rr, rr, rr, trivial⟩
    conv=>whnf
    refine cB h (fun hb43 h => ?_) (fun hb43 h => ?_)
    ·conv=>whnf
     cases h
     exact Wk.mk2 [0, 1, 2] 3 rfl rfl (by decide) rfl ⟨rr, rr, maS_mk rfl, trivial⟩ ⟨rr, rr, rr, rr, rr, rr, rr, rr, rr, rr, rr, trivial⟩
    conv=>whnf
    obtain ⟨x_44, hx_44, h⟩ := bS h
    refine ixP_of hx_44 ?_
    conv=>whnf
    refine mgS_mk (mfit_map (g := eB) (sameK_eI) m_24 x_44) (mget_map (g := eB) (keyEq_eI) m_24 x_44 false) (neAg_b _) ?_
    conv=>whnf
    refine cB h (fun hb45 h => ?_) (fun hb45 h => ?_)
    ·conv=>whnf
     cases h
     exact Wk.mk2 [0, 1, 2] 3 rfl rfl (by decide) rfl ⟨rr, rr, maS_mk rfl, trivial⟩ ⟨rr, rr, rr, rr, rr, rr, rr, rr, rr, rr, rr, trivial⟩
    conv=>whnf
    refine arS_raw ?_
    conv=>whnf
    refine cB h (fun hb46 h => ?_) (fun hb46 h => ?_)
    ·conv=>whnf
     refine cB h (fun hb47 h => ?_) (fun hb47 h => ?_)
     ·conv=>whnf
      cases h
      exact Wk.mk2 [0, 1, 2] 3 rfl rfl (by decide) rfl ⟨rr, rr, maS_mk rfl, trivial⟩ ⟨rr, rr, rr, rr, rr, rr, rr, rr, rr, rr, rr, trivial⟩
     conv=>whnf
     refine cB h (fun hb48 h => ?_) (fun hb48 h => ?_)
     ·conv=>whnf
      cases h
      exact Wk.mk2 [0, 1, 2] 3 rfl rfl (by decide) rfl ⟨rr, rr, maS_mk rfl, trivial⟩ ⟨rr, rr, rr, rr, rr, rr, rr, rr, rr, rr, rr, trivial⟩
     conv=>whnf
     refine cB h (fun hb49 h => ?_) (fun hb49 h => ?_)
     ·conv=>whnf
      cases h
      exact Wk.mk2 [0, 1, 2] 3 rfl rfl (by decide) rfl ⟨rr, rr, maS_mk rfl, trivial⟩ ⟨rr, rr, rr, rr, rr, rr, rr, rr, rr, rr, rr, trivial⟩
     conv=>whnf
     cases h
     exact Wk.mk2 [0, 1, 2] 3 rfl rfl (by decide) rfl ⟨rr, rr, maS_mk rfl, trivial⟩ ⟨rr, rr, rr, rr, rr, rr, rr, rr, rr, rr, rr, trivial⟩
    conv=>whnf
    refine cB h (fun hb50 h => ?_) (fun hb50 h => ?_)
    ·conv=>whnf
     cases h
     exact Wk.mk2 [0, 1, 2] 3 rfl rfl (by decide) rfl ⟨rr, rr, maS_mk rfl, trivial⟩ ⟨rr, rr, rr, rr, rr, rr, rr, rr, rr, rr, rr, trivial⟩
    conv=>whnf
    cases h
    exact Wk.mk2 [0, 1, 2] 3 rfl rfl (by decide) rfl ⟨rr, rr, maS_mk rfl, trivial⟩ ⟨rr, rr, rr, rr, rr, rr, rr, rr, rr, rr, rr, trivial⟩
   clear hv40
   conv=>whnf
   refine Tr.weak hw ?_
   refine Tr.cond ?_
   conv=>whnf
   refine cB h (fun hb51 h => ?_) (fun hb51 h => ?_)
   ·refine sg ?_
    conv=>whnf
    refine Tr.ret ?_
    conv=>whnf
    cases h
    rfl
   refine Tr.skip ?_
   conv=>whnf
   refine sg ?_
   conv=>whnf
   obtain ⟨x_52, hx_52, h⟩ := bS h
   refine ixP_of hx_52 ?_
   conv=>whnf
   refine mpS_mk (mfit_map (g := eB) (sameK_eI) m_24 x_52) (mput_map (g := eB) (keyEq_eI) m_24 x_52 true) ?_
   conv=>whnf
   refine rg ?_
   conv=>whnf
   refine rg ?_
   conv=>whnf
   refine arS_raw ?_
   conv=>whnf
   refine ⟨(r_31, r_35, (w64 (i_23 + 1)), (mapPut m_24 x_52 true)), h, ?_⟩
   exact Wk.mk2 [0, 1, 2] 3 rfl rfl (by decide) rfl ⟨rr, rr, maS_mk rfl, trivial⟩ ⟨rr, rr, rr, rr, rr, rr, rr, rr, trivial⟩
  refine Tr.exit ?_
  conv=>whnf
  refine ⟨(m_24), h, ?_⟩
  exact Wk.mk2 [0, 1, 2] 3 rfl rfl (by decide) rfl ⟨rr, rr, maS_mk rfl, trivial⟩ ⟨rr, rr, rr, rr, trivial⟩
 clear h
 rintro m_26 h T1 H1 hw
 replace h : M110 f_1 h_2 m_26 = some r_3 := h
 conv=>whnf
 refine Tr.weak hw ?_
 unfold M110 at h
 refine Tr.seq ?_
 refine sg ?_
 conv=>whnf
 refine Tr.cutQ (α := Unit) (fun s => ([(4, .d (.b false))], [])) (fun s => M109 s = some r_3) ?_ ?_
 ·refine Tr.block ?_
  refine Tr.loopM (σ := Int) (fun n s => M108 f_1 h_2 m_26 M109 n s) r_3 (fun s => ([(2, .pt 0 0), (3, .pt 1 0), (4, .d (.b false)), (7, .mr 2), (16, (dI s))], [some (.var [.d (.ls (List.map eTSegment f_1.Clocks.Segments)), .d (.ls (List.map (eL eI) f_1.Clocks.Far)), .d (.ls (List.map eTPair f_1.Pairs)), .d (.ls (List.map eTRunner f_1.Runners))]), some (.var [(dI h_2.World), .d (.ls (List.map eI h_2.Offsets)), .d (.ls (List.map eTChoice h_2.Choices))]), some (.mp (List.map (eKV eI eB) m_26))])) (((((f_1.Runners).length : Int)) - 0 : Int).toNat + 1) (0) h (fun s => rfl) (Wk.mk2 [0, 1, 2] 3 rfl rfl (by decide) rfl ⟨rr, rr, maS_mk rfl, trivial⟩ ⟨rr, rr, rr, rr, rr, trivial⟩) ?_
  clear h
  rintro n_55 i_54 h
  replace h : M108 f_1 h_2 m_26 M109 (n_55 + 1) i_54 = some r_3 := h
  rw [M108] at h
  refine Tr.seq ?_
  refine sg ?_
  conv=>whnf
  refine lnS_map ?_
  conv=>whnf
  refine Tr.cond ?_
  conv=>whnf
  refine cB h (fun hb58 h => ?_) (fun hb58 h => ?_)
  ·refine Tr.skip ?_
   conv=>whnf
   refine Tr.seq ?_
   refine Tr.block ?_
   refine sg ?_
   conv=>whnf
   obtain ⟨⟨r_59, r_60⟩, hc61, h⟩ := bS h
   refine PC.ecall (P77 f_1 h_2 i_54 r_59 r_60 hc61) (fun rs hrs => ?_)
   subst hrs
   conv=>whnf
   refine sg ?_
   conv=>whnf
   obtain ⟨⟨r_62, r_63, r_64⟩, hc65, h⟩ := bS h
   refine PC.ecall (P106 f_1 h_2 i_54 r_62 r_63 r_64 hc65) (fun rs hrs => ?_)
   subst hrs
   conv=>whnf
   refine Tr.seq ?_
   refine Tr.cutQ1 ([(2, .pt 0 0), (3, .pt 1 0), (4, .d (.b false)), (7, .mr 2), (16, (dI i_54)), (164, .d (.b ((r_60 != 0) || ((r_64 != 0) || ((!((mapGet m_26 i_54 false) == (decide (r_59 > 0)))) || (!(r_63 == (decide (r_59 > 0)))))))))]) ([some (.var [.d (.ls (List.map eTSegment f_1.Clocks.Segments)), .d (.ls (List.map (eL eI) f_1.Clocks.Far)), .d (.ls (List.map eTPair f_1.Pairs)), .d (.ls (List.map eTRunner f_1.Runners))]), some (.var [(dI h_2.World), .d (.ls (List.map eI h_2.Offsets)), .d (.ls (List.map eTChoice h_2.Choices))]), some (.mp (List.map (eKV eI eB) m_26))]) ?_ (fun T1 H1 hw => ?_)
   ·refine rg ?_
    conv=>whnf
    refine condS_mk (fun hb67 => ?_) (fun hb67 => ?_)
    ·conv=>whnf
     exact Wk.mk2 [0, 1, 2] 3 rfl rfl (by decide) rfl ⟨rr, rr, maS_mk rfl, trivial⟩ ⟨rr, rr, rr, rr, rr, ⟨rfl, (by first | rfl | (simp only [↓hb6, ↓hb9, ↓hb13, ↓hb58, ↓hb67, bl]; done) | (simp only [↓hb6, ↓hb9, ↓hb13, ↓hb58, ↓hb67, bl]; rfl))⟩, trivial⟩
    conv=>whnf
    refine condS_mk (fun hb68 => ?_) (fun hb68 => ?_)
    ·conv=>whnf
     exact Wk.mk2 [0, 1, 2] 3 rfl rfl (by decide) rfl ⟨rr, rr, maS_mk rfl, trivial⟩ ⟨rr, rr, rr, rr, rr, ⟨rfl, (by first | rfl | (simp only [↓hb6, ↓hb9, ↓hb13, ↓hb58, ↓hb67, ↓hb68, bl]; done) | (simp only [↓hb6, ↓hb9, ↓hb13, ↓hb58, ↓hb67, ↓hb68, bl]; rfl))⟩, trivial⟩
    conv=>whnf
    refine mgS_mk (mfit_map (g := eB) (sameK_eI) m_26 i_54) (mget_map (g := eB) (keyEq_eI) m_26 i_54 false) (neAg_b _) ?_
    conv=>whnf
    refine condS_mk (fun hb69 => ?_) (fun hb69 => ?_)
    ·conv=>whnf
     exact Wk.mk2 [0, 1, 2] 3 rfl rfl (by decide) rfl ⟨rr, rr, maS_mk rfl, trivial⟩ ⟨rr, rr, rr, rr, rr, ⟨rfl, (by first | rfl | (simp only [↓hb6, ↓hb9, ↓hb13, ↓hb58, ↓hb67, ↓hb68, ↓hb69, bl]; done) | (simp only [↓hb6, ↓hb9, ↓hb13, ↓hb58, ↓hb67, ↓hb68, ↓hb69, bl]; rfl))⟩, trivial⟩
    conv=>whnf
    exact Wk.mk2 [0, 1, 2] 3 rfl rfl (by decide) rfl ⟨rr, rr, maS_mk rfl, trivial⟩ ⟨rr, rr, rr, rr, rr, ⟨rfl, (by first | rfl | (simp only [↓hb6, ↓hb9, ↓hb13, ↓hb58, ↓hb67, ↓hb68, ↓hb69, bl]; done) | (simp only [↓hb6, ↓hb9, ↓hb13, ↓hb58, ↓hb67, ↓hb68, ↓hb69, bl]; rfl))⟩, trivial⟩
   conv=>whnf
   refine Tr.weak hw ?_
   refine Tr.cond ?_
   conv=>whnf
   refine cB h (fun hb70 h => ?_) (fun hb70 h => ?_)
   ·refine sg ?_
    conv=>whnf
    refine Tr.ret ?_
    conv=>whnf
    cases h
    rfl
   refine Tr.skip ?_
   conv=>whnf
   refine rg ?_
   conv=>whnf
   refine arS_raw ?_
   conv=>whnf
   refine ⟨((w64 (i_54 + 1))), h, ?_⟩
   exact Wk.mk2 [0, 1, 2] 3 rfl rfl (by decide) rfl ⟨rr, rr, maS_mk rfl, trivial⟩ ⟨rr, rr, rr, rr, rr, trivial⟩
  refine Tr.exit ?_
  conv=>whnf
  refine ⟨(), h, ?_⟩
  exact Wk.mk2 [] 3 rfl rfl (by decide) rfl trivial ⟨rr, trivial⟩
 clear h
 rintro _ h T1 H1 hw
 replace h : M109 () = some r_3 := h
 conv=>whnf
 refine Tr.weak hw ?_
 unfold M109 at h
 refine sg ?_
 conv=>whnf
 refine Tr.ret ?_
 conv=>whnf
 cases h
 rfl
end Go.Proofs.Try
