/- Contracts of functions, by program (gen.py). No condition. -/
import Derived.Test.YtolclhjojfcipaaGreatZL
import Derived.Test.YtolclhjojfcipaaGreatZM
import Derived.Test.YtolclhjojfcipaaGreatZS11
namespace Go.Proofs.Tryz
open Go Go.Abs Go.Stop
set_option maxRecDepth 8000
set_option linter.unusedVariables false
set_option linter.unusedSimpArgs false
theorem P297 (h_1 : THistory) (r_2 : Bool) (h : M297 h_1 = some r_2) :
    PC prog 15 [(eTHistory h_1)] (fun rs => rs = [(.b r_2)]) := by
 refine PC.of_tr (cx := ⟨13, none, lay, 0⟩) layOK func15 rfl rfl rfl rfl rfl (by simp [f15]) ?_
 unfold M297 at h
 refine Tr.seq ?_
 refine Tr.region layOK ?_
 conv => whnf
 refine Tr.seq ?_
 refine Tr.region layOK ?_
 conv => whnf
 refine lnS_map ?_
 conv => whnf
 refine condS_bif h (fun hb3 h => ?_) (fun hb3 h => ?_)
 ·conv => whnf
  refine lnS_map ?_
  conv => whnf
  refine Tr.ret ?_
  conv => whnf
  cases h
  rfl
 conv => whnf
 refine Tr.ret ?_
 conv => whnf
 cases h
 rfl
theorem P309 (p_1 : TProof) (r_2 : Bool) (h : M309 p_1 = some r_2) :
    PC prog 25 [(eTProof p_1)] (fun rs => rs = [(.b r_2)]) := by
 refine PC.of_tr (cx := ⟨11, none, lay, 0⟩) layOK func25 rfl rfl rfl rfl rfl (by simp [f25]) ?_
 unfold M309 at h
 refine Tr.seq ?_
 refine Tr.region layOK ?_
 conv => whnf
 refine Tr.seq ?_
 refine Tr.region layOK ?_
 conv => whnf
 obtain ⟨r_3, hc4, h⟩ := bind_some h
 refine PC.ecall (P297 p_1.A r_3 hc4) (fun rs hrs => ?_)
 subst hrs
 conv => whnf
 refine condS_bif h (fun hb5 h => ?_) (fun hb5 h => ?_)
 ·conv => whnf
  obtain ⟨r_6, hc7, h⟩ := bind_some h
  refine PC.ecall (P297 p_1.B r_6 hc7) (fun rs hrs => ?_)
  subst hrs
  conv => whnf
  refine Tr.ret ?_
  conv => whnf
  cases h
  rfl
 conv => whnf
 refine Tr.ret ?_
 conv => whnf
 cases h
 rfl
theorem P310 (f_1 : TField) (r_2 : TRank) (p_3 : TProof) (r_4 : Bool) (h : M310 f_1 r_2 p_3 = some r_4) :
    PC prog 7 [(eTField f_1), (eTRank r_2), (eTProof p_3)] (fun rs => rs = [(.b r_4)]) := by
 refine PC.of_tr (cx := ⟨85, none, lay, 0⟩) layOK func7 rfl rfl rfl rfl rfl (by simp [f7]) ?_
 unfold M310 at h
 refine Tr.seq ?_
 refine Tr.region layOK ?_
 conv => whnf
 refine Tr.seq ?_
 refine Tr.seq ?_
 refine Tr.region layOK ?_
 conv => whnf
 obtain ⟨r_5, hc6, h⟩ := bind_some h
 refine PC.ecall (P271 r_5 hc6) (fun rs hrs => ?_)
 subst hrs
 conv => whnf
 refine Tr.cond ?_
 conv => whnf
 refine condS_bif h (fun hb7 h => ?_) (fun hb7 h => ?_)
 ·refine Tr.seq ?_
  refine Tr.region layOK ?_
  conv => whnf
  refine Tr.ret ?_
  conv => whnf
  cases h
  rfl
 refine Tr.skip ?_
 conv => whnf
 refine Tr.seq ?_
 refine Tr.seq ?_
 obtain ⟨v_8, hv9, h⟩ := bind_some h
 refine Tr.cutQ1 ([(3, .pt 0 0), (4, .pt 1 0), (6, .d (.b false)), (38, .d (.b v_8))]) ([some (.var [.d (.ls (List.map eTSegment f_1.Clocks.Segments)), .d (.ls (List.map (eL eI) f_1.Clocks.Far)), .d (.ls (List.map eTPair f_1.Pairs)), .d (.ls (List.map eTRunner f_1.Runners))]), some (.var [(dI r_2.Bib), (dI r_2.Kind), (dI r_2.Lo), (dI r_2.Hi), .d (.b r_2.Out)])]) ?_ (fun T1 H1 hw => ?_)
 ·replace h := hv9; clear hv9
  refine Tr.region layOK ?_
  conv => whnf
  obtain ⟨r_10, hc11, h⟩ := bind_some h
  refine PC.ecall (P278 f_1 r_10 hc11) (fun rs hrs => ?_)
  subst hrs
  conv => whnf
  refine condS_bif h (fun hb12 h => ?_) (fun hb12 h => ?_)
  ·conv => whnf
   cases h
   exact Wk.mk2 [0, 1] 3 rfl rfl (by decide) rfl ⟨rr, rr, trivial⟩ ⟨rr, rr, rr, rr, trivial⟩
  conv => whnf
  obtain ⟨r_13, hc14, h⟩ := bind_some h
  refine PC.ecall (P309 p_3 r_13 hc14) (fun rs hrs => ?_)
  subst hrs
  conv => whnf
  refine condS_bif h (fun hb15 h => ?_) (fun hb15 h => ?_)
  ·conv => whnf
   cases h
   exact Wk.mk2 [0, 1] 3 rfl rfl (by decide) rfl ⟨rr, rr, trivial⟩ ⟨rr, rr, rr, rr, trivial⟩
  conv => whnf
  obtain ⟨r_16, hc17, h⟩ := bind_some h
  refine PC.ecall (P160 f_1 r_16 hc17) (fun rs hrs => ?_)
  subst hrs
  conv => whnf
  refine condS_bif h (fun hb18 h => ?_) (fun hb18 h => ?_)
  ·conv => whnf
   cases h
   exact Wk.mk2 [0, 1] 3 rfl rfl (by decide) rfl ⟨rr, rr, trivial⟩ ⟨rr, rr, rr, rr, trivial⟩
  conv => whnf
  obtain ⟨r_19, hc20, h⟩ := bind_some h
  refine PC.ecall (P220 f_1 r_2 p_3 r_19 hc20) (fun rs hrs => ?_)
  subst hrs
  conv => whnf
  refine condS_bif h (fun hb21 h => ?_) (fun hb21 h => ?_)
  ·conv => whnf
   cases h
   exact Wk.mk2 [0, 1] 3 rfl rfl (by decide) rfl ⟨rr, rr, trivial⟩ ⟨rr, rr, rr, rr, trivial⟩
  conv => whnf
  obtain ⟨r_22, hc23, h⟩ := bind_some h
  refine PC.ecall (P238 f_1 r_2 r_22 hc23) (fun rs hrs => ?_)
  subst hrs
  conv => whnf
  cases h
  exact Wk.mk2 [0, 1] 3 rfl rfl (by decide) rfl ⟨rr, rr, trivial⟩ ⟨rr, rr, rr, rr, trivial⟩
 clear hv9
 conv => whnf
 refine Tr.weak hw ?_
 refine Tr.cond ?_
 conv => whnf
 refine condS_bif h (fun hb24 h => ?_) (fun hb24 h => ?_)
 ·refine Tr.seq ?_
  refine Tr.region layOK ?_
  conv => whnf
  refine Tr.ret ?_
  conv => whnf
  cases h
  rfl
 refine Tr.skip ?_
 conv => whnf
 refine Tr.seq ?_
 refine Tr.region layOK ?_
 conv => whnf
 obtain ⟨⟨r_25, r_26⟩, hc27, h⟩ := bind_some h
 refine PC.ecall (P163 f_1 r_2.Bib r_25 r_26 hc27) (fun rs hrs => ?_)
 subst hrs
 conv => whnf
 refine Tr.seq ?_
 refine Tr.region layOK ?_
 conv => whnf
 obtain ⟨⟨r_28, r_29⟩, hc30, h⟩ := bind_some h
 refine PC.ecall (P93 f_1 r_25 r_28 r_29 hc30) (fun rs hrs => ?_)
 subst hrs
 conv => whnf
 refine Tr.seq ?_
 refine Tr.cutQ1 ([(6, .d (.b (r_26 && ((r_29 == 0) && ((r_28.Lo == r_2.Lo) && ((r_28.Hi == r_2.Hi) && ((r_28.Kind == 2) && (r_2.Out || (!r_28.Out)))))))))]) ([]) ?_ (fun T1 H1 hw => ?_)
 ·refine Tr.region layOK ?_
  conv => whnf
  refine condS_mk (fun hb32 => ?_) (fun hb32 => ?_)
  ·conv => whnf
   refine condS_mk (fun hb33 => ?_) (fun hb33 => ?_)
   ·conv => whnf
    refine condS_mk (fun hb34 => ?_) (fun hb34 => ?_)
    ·conv => whnf
     refine condS_mk (fun hb35 => ?_) (fun hb35 => ?_)
     ·conv => whnf
      refine condS_mk (fun hb36 => ?_) (fun hb36 => ?_)
      ·conv => whnf
       refine condS_mk (fun hb37 => ?_) (fun hb37 => ?_)
       ·conv => whnf
        exact Wk.mk2 [] 3 rfl rfl (by decide) rfl trivial ⟨⟨rfl, (by first | rfl | (simp only [↓hb7, ↓hb24, ↓hb32, ↓hb33, ↓hb34, ↓hb35, ↓hb36, ↓hb37, bl]; done) | (simp only [↓hb7, ↓hb24, ↓hb32, ↓hb33, ↓hb34, ↓hb35, ↓hb36, ↓hb37, bl]; rfl))⟩, trivial⟩
       conv => whnf
       exact Wk.mk2 [] 3 rfl rfl (by decide) rfl trivial ⟨⟨rfl, (by first | rfl | (simp only [↓hb7, ↓hb24, ↓hb32, ↓hb33, ↓hb34, ↓hb35, ↓hb36, ↓hb37, bl]; done) | (simp only [↓hb7, ↓hb24, ↓hb32, ↓hb33, ↓hb34, ↓hb35, ↓hb36, ↓hb37, bl]; rfl))⟩, trivial⟩
      conv => whnf
      exact Wk.mk2 [] 3 rfl rfl (by decide) rfl trivial ⟨⟨rfl, (by first | rfl | (simp only [↓hb7, ↓hb24, ↓hb32, ↓hb33, ↓hb34, ↓hb35, ↓hb36, bl]; done) | (simp only [↓hb7, ↓hb24, ↓hb32, ↓hb33, ↓hb34, ↓hb35, ↓hb36, bl]; rfl))⟩, trivial⟩
     conv => whnf
     exact Wk.mk2 [] 3 rfl rfl (by decide) rfl trivial ⟨⟨rfl, (by first | rfl | (simp only [↓hb7, ↓hb24, ↓hb32, ↓hb33, ↓hb34, ↓hb35, bl]; done) | (simp only [↓hb7, ↓hb24, ↓hb32, ↓hb33, ↓hb34, ↓hb35, bl]; rfl))⟩, trivial⟩
    conv => whnf
    exact Wk.mk2 [] 3 rfl rfl (by decide) rfl trivial ⟨⟨rfl, (by first | rfl | (simp only [↓hb7, ↓hb24, ↓hb32, ↓hb33, ↓hb34, bl]; done) | (simp only [↓hb7, ↓hb24, ↓hb32, ↓hb33, ↓hb34, bl]; rfl))⟩, trivial⟩
   conv => whnf
   exact Wk.mk2 [] 3 rfl rfl (by decide) rfl trivial ⟨⟨rfl, (by first | rfl | (simp only [↓hb7, ↓hb24, ↓hb32, ↓hb33, bl]; done) | (simp only [↓hb7, ↓hb24, ↓hb32, ↓hb33, bl]; rfl))⟩, trivial⟩
  conv => whnf
  exact Wk.mk2 [] 3 rfl rfl (by decide) rfl trivial ⟨⟨rfl, (by first | rfl | (simp only [↓hb7, ↓hb24, ↓hb32, bl]; done) | (simp only [↓hb7, ↓hb24, ↓hb32, bl]; rfl))⟩, trivial⟩
 conv => whnf
 refine Tr.weak hw ?_
 refine Tr.ret ?_
 conv => whnf
 cases h
 rfl
end Go.Proofs.Tryz
