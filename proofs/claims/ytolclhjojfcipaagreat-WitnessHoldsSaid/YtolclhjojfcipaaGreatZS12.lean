/- Contracts of functions, by program (gen.py). No condition. -/
import Derived.Test.YtolclhjojfcipaaGreatZL
import Derived.Test.YtolclhjojfcipaaGreatZM
import Derived.Test.YtolclhjojfcipaaGreatZS11
namespace Go.Proofs.Tryz
open Go Go.Abs Go.Stop
set_option maxRecDepth 8000
set_option linter.unusedVariables false
set_option linter.unusedSimpArgs false
theorem P407 (h_1 : THistory) (r_2 : Bool) (h : M143 h_1 = some r_2) :
    PC prog 15 [(eTHistory h_1)] (fun rs => rs = [(.b r_2)]) := by
 refine PC.of_tr (cx := ⟨13, none, lay, 0⟩) layOK func15 rfl rfl rfl rfl rfl (by simp [f15]) ?_
 unfold M143 at h
 refine Tr.seq ?_
 refine Tr.region layOK ?_
 conv => whnf
 refine Tr.seq ?_
 refine Tr.region layOK ?_
 conv => whnf
 refine lnS_map ?_
 conv => whnf
 refine condS_bif h (fun hb3 h => ?_) (fun hb3 h => ?_)
 ·conv => whnf
  refine lnS_map ?_
  conv => whnf
  refine Tr.ret ?_
  conv => whnf
  cases h
  rfl
 conv => whnf
 refine Tr.ret ?_
 conv => whnf
 cases h
 rfl
theorem P353 (f_1 : TField) (r_2 : TRank) (h_3 : THistory) (r_4 : Bool) (h : M188 f_1 r_2 h_3 = some r_4) :
    PC prog 6 [(eTField f_1), (eTRank r_2), (eTHistory h_3)] (fun rs => rs = [(.b r_4)]) := by
 refine PC.of_tr (cx := ⟨78, none, lay, 0⟩) layOK func6 rfl rfl rfl rfl rfl (by simp [f6]) ?_
 unfold M188 at h
 refine Tr.seq ?_
 refine Tr.region layOK ?_
 conv => whnf
 refine Tr.seq ?_
 refine Tr.seq ?_
 refine Tr.region layOK ?_
 conv => whnf
 obtain ⟨r_5, hc6, h⟩ := bind_some h
 refine PC.ecall (P396 r_5 hc6) (fun rs hrs => ?_)
 subst hrs
 conv => whnf
 refine Tr.cond ?_
 conv => whnf
 refine condS_bif h (fun hb7 h => ?_) (fun hb7 h => ?_)
 ·refine Tr.seq ?_
  refine Tr.region layOK ?_
  conv => whnf
  refine Tr.ret ?_
  conv => whnf
  cases h
  rfl
 refine Tr.skip ?_
 conv => whnf
 refine Tr.seq ?_
 refine Tr.seq ?_
 obtain ⟨v_8, hv9, h⟩ := bind_some h
 refine Tr.cutQ1 ([(3, .pt 0 0), (4, .pt 1 0), (5, .pt 2 0), (6, .d (.b false)), (31, .d (.b v_8))]) ([some (.var [.d (.ls (List.map eTSegment f_1.Clocks.Segments)), .d (.ls (List.map (eL eI) f_1.Clocks.Far)), .d (.ls (List.map eTPair f_1.Pairs)), .d (.ls (List.map eTRunner f_1.Runners))]), some (.var [(dI r_2.Bib), (dI r_2.Kind), (dI r_2.Lo), (dI r_2.Hi), .d (.b r_2.Out)]), some (.var [(dI h_3.World), .d (.ls (List.map eI h_3.Offsets)), .d (.ls (List.map eTChoice h_3.Choices))])]) ?_ (fun T1 H1 hw => ?_)
 ·replace h := hv9; clear hv9
  refine Tr.region layOK ?_
  conv => whnf
  obtain ⟨r_10, hc11, h⟩ := bind_some h
  refine PC.ecall (P406 f_1 r_10 hc11) (fun rs hrs => ?_)
  subst hrs
  conv => whnf
  refine condS_bif h (fun hb12 h => ?_) (fun hb12 h => ?_)
  ·conv => whnf
   cases h
   exact Wk.mk2 [0, 1, 2] 3 rfl rfl (by decide) rfl ⟨rr, rr, rr, trivial⟩ ⟨rr, rr, rr, rr, rr, trivial⟩
  conv => whnf
  obtain ⟨r_13, hc14, h⟩ := bind_some h
  refine PC.ecall (P407 h_3 r_13 hc14) (fun rs hrs => ?_)
  subst hrs
  conv => whnf
  refine condS_bif h (fun hb15 h => ?_) (fun hb15 h => ?_)
  ·conv => whnf
   cases h
   exact Wk.mk2 [0, 1, 2] 3 rfl rfl (by decide) rfl ⟨rr, rr, rr, trivial⟩ ⟨rr, rr, rr, rr, rr, trivial⟩
  conv => whnf
  obtain ⟨r_16, hc17, h⟩ := bind_some h
  refine PC.ecall (P289 f_1 r_16 hc17) (fun rs hrs => ?_)
  subst hrs
  conv => whnf
  refine condS_bif h (fun hb18 h => ?_) (fun hb18 h => ?_)
  ·conv => whnf
   cases h
   exact Wk.mk2 [0, 1, 2] 3 rfl rfl (by decide) rfl ⟨rr, rr, rr, trivial⟩ ⟨rr, rr, rr, rr, rr, trivial⟩
  conv => whnf
  obtain ⟨r_19, hc20, h⟩ := bind_some h
  refine PC.ecall (P381 f_1 h_3 r_19 hc20) (fun rs hrs => ?_)
  subst hrs
  conv => whnf
  cases h
  exact Wk.mk2 [0, 1, 2] 3 rfl rfl (by decide) rfl ⟨rr, rr, rr, trivial⟩ ⟨rr, rr, rr, rr, rr, trivial⟩
 clear hv9
 conv => whnf
 refine Tr.weak hw ?_
 refine Tr.cond ?_
 conv => whnf
 refine condS_bif h (fun hb21 h => ?_) (fun hb21 h => ?_)
 ·refine Tr.seq ?_
  refine Tr.region layOK ?_
  conv => whnf
  refine Tr.ret ?_
  conv => whnf
  cases h
  rfl
 refine Tr.skip ?_
 conv => whnf
 refine Tr.seq ?_
 refine Tr.region layOK ?_
 conv => whnf
 obtain ⟨⟨r_22, r_23⟩, hc24, h⟩ := bind_some h
 refine PC.ecall (P341 f_1 r_2.Bib r_22 r_23 hc24) (fun rs hrs => ?_)
 subst hrs
 conv => whnf
 refine Tr.seq ?_
 refine Tr.seq ?_
 refine Tr.region layOK ?_
 conv => whnf
 obtain ⟨r_25, hc26, h⟩ := bind_some h
 refine PC.ecall (P340 f_1 r_2 r_25 hc26) (fun rs hrs => ?_)
 subst hrs
 conv => whnf
 refine Tr.cond ?_
 conv => whnf
 refine condS_bif h (fun hb27 h => ?_) (fun hb27 h => ?_)
 ·refine Tr.seq ?_
  refine Tr.region layOK ?_
  conv => whnf
  refine Tr.ret ?_
  conv => whnf
  cases h
  rfl
 refine Tr.skip ?_
 conv => whnf
 refine Tr.seq ?_
 refine Tr.region layOK ?_
 conv => whnf
 obtain ⟨⟨r_28, r_29⟩, hc30, h⟩ := bind_some h
 refine PC.ecall (P321 f_1 h_3 r_22 r_28 r_29 hc30) (fun rs hrs => ?_)
 subst hrs
 conv => whnf
 refine Tr.seq ?_
 refine Tr.seq ?_
 refine Tr.region layOK ?_
 conv => whnf
 refine condS_bif h (fun hb31 h => ?_) (fun hb31 h => ?_)
 ·conv => whnf
  refine Tr.cond ?_
  conv => whnf
  refine Tr.seq ?_
  refine Tr.region layOK ?_
  conv => whnf
  refine Tr.ret ?_
  conv => whnf
  cases h
  rfl
 conv => whnf
 refine Tr.cond ?_
 conv => whnf
 refine condS_bif h (fun hb32 h => ?_) (fun hb32 h => ?_)
 ·refine Tr.seq ?_
  refine Tr.region layOK ?_
  conv => whnf
  refine Tr.ret ?_
  conv => whnf
  cases h
  rfl
 refine Tr.skip ?_
 conv => whnf
 refine Tr.seq ?_
 refine Tr.cutQ1 ([(6, .d (.b (bif (r_28 == 0) then (r_2.Out || ((decide (r_28 > 0)) && ((decide (r_2.Lo ≤ r_28)) && (decide (r_28 ≤ r_2.Hi))))) else ((decide (r_28 > 0)) && ((decide (r_2.Lo ≤ r_28)) && (decide (r_28 ≤ r_2.Hi)))))))]) ([]) ?_ (fun T1 H1 hw => ?_)
 ·refine Tr.region layOK ?_
  conv => whnf
  refine condS_mk (fun hb34 => ?_) (fun hb34 => ?_)
  ·conv => whnf
   refine condS_mk (fun hb35 => ?_) (fun hb35 => ?_)
   ·conv => whnf
    exact Wk.mk2 [] 3 rfl rfl (by decide) rfl trivial ⟨⟨rfl, (by first | rfl | (simp only [↓hb7, ↓hb21, ↓hb27, ↓hb31, ↓hb32, ↓hb34, ↓hb35, bl]; done) | (simp only [↓hb7, ↓hb21, ↓hb27, ↓hb31, ↓hb32, ↓hb34, ↓hb35, bl]; rfl))⟩, trivial⟩
   conv => whnf
   refine condS_mk (fun hb36 => ?_) (fun hb36 => ?_)
   ·conv => whnf
    refine condS_mk (fun hb37 => ?_) (fun hb37 => ?_)
    ·conv => whnf
     exact Wk.mk2 [] 3 rfl rfl (by decide) rfl trivial ⟨⟨rfl, (by first | rfl | (simp only [↓hb7, ↓hb21, ↓hb27, ↓hb31, ↓hb32, ↓hb34, ↓hb35, ↓hb36, ↓hb37, bl]; done) | (simp only [↓hb7, ↓hb21, ↓hb27, ↓hb31, ↓hb32, ↓hb34, ↓hb35, ↓hb36, ↓hb37, bl]; rfl))⟩, trivial⟩
    conv => whnf
    exact Wk.mk2 [] 3 rfl rfl (by decide) rfl trivial ⟨⟨rfl, (by first | rfl | (simp only [↓hb7, ↓hb21, ↓hb27, ↓hb31, ↓hb32, ↓hb34, ↓hb35, ↓hb36, ↓hb37, bl]; done) | (simp only [↓hb7, ↓hb21, ↓hb27, ↓hb31, ↓hb32, ↓hb34, ↓hb35, ↓hb36, ↓hb37, bl]; rfl))⟩, trivial⟩
   conv => whnf
   exact Wk.mk2 [] 3 rfl rfl (by decide) rfl trivial ⟨⟨rfl, (by first | rfl | (simp only [↓hb7, ↓hb21, ↓hb27, ↓hb31, ↓hb32, ↓hb34, ↓hb35, ↓hb36, bl]; done) | (simp only [↓hb7, ↓hb21, ↓hb27, ↓hb31, ↓hb32, ↓hb34, ↓hb35, ↓hb36, bl]; rfl))⟩, trivial⟩
  conv => whnf
  refine condS_mk (fun hb38 => ?_) (fun hb38 => ?_)
  ·conv => whnf
   refine condS_mk (fun hb39 => ?_) (fun hb39 => ?_)
   ·conv => whnf
    exact Wk.mk2 [] 3 rfl rfl (by decide) rfl trivial ⟨⟨rfl, (by first | rfl | (simp only [↓hb7, ↓hb21, ↓hb27, ↓hb31, ↓hb32, ↓hb34, ↓hb38, ↓hb39, bl]; done) | (simp only [↓hb7, ↓hb21, ↓hb27, ↓hb31, ↓hb32, ↓hb34, ↓hb38, ↓hb39, bl]; rfl))⟩, trivial⟩
   conv => whnf
   exact Wk.mk2 [] 3 rfl rfl (by decide) rfl trivial ⟨⟨rfl, (by first | rfl | (simp only [↓hb7, ↓hb21, ↓hb27, ↓hb31, ↓hb32, ↓hb34, ↓hb38, ↓hb39, bl]; done) | (simp only [↓hb7, ↓hb21, ↓hb27, ↓hb31, ↓hb32, ↓hb34, ↓hb38, ↓hb39, bl]; rfl))⟩, trivial⟩
  conv => whnf
  exact Wk.mk2 [] 3 rfl rfl (by decide) rfl trivial ⟨⟨rfl, (by first | rfl | (simp only [↓hb7, ↓hb21, ↓hb27, ↓hb31, ↓hb32, ↓hb34, ↓hb38, bl]; done) | (simp only [↓hb7, ↓hb21, ↓hb27, ↓hb31, ↓hb32, ↓hb34, ↓hb38, bl]; rfl))⟩, trivial⟩
 conv => whnf
 refine Tr.weak hw ?_
 refine Tr.ret ?_
 conv => whnf
 cases h
 rfl
end Go.Proofs.Tryz
