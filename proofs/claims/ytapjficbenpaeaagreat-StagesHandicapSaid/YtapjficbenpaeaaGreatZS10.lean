/- Contracts of functions, by program (gen.py). No condition. -/
import Derived.Test.YtapjficbenpaeaaGreatZL
import Derived.Test.YtapjficbenpaeaaGreatZM
import Derived.Test.YtapjficbenpaeaaGreatZS9
namespace Go.Proofs.Tryz
open Go Go.Abs Go.Stop
set_option maxRecDepth 8000
set_option linter.unusedVariables false
set_option linter.unusedSimpArgs false
theorem P1228 (l_1 : List TTotal) (leaders_2 : List Int) (sure_3 : List Int) (perhaps_4 : List Int) (r_5 : Bool) (h : M1228 l_1 leaders_2 sure_3 perhaps_4 = some r_5) :
    PC prog 35 [(.ls (List.map eTTotal l_1)), (.ls (List.map eI leaders_2)), (.ls (List.map eI sure_3)), (.ls (List.map eI perhaps_4))] (fun rs => rs = [(.b r_5)]) := by
 refine PC.of_tr (cx := ⟨46, none, lay, 0⟩) layOK func35 rfl rfl rfl rfl rfl (by simp [f35]) ?_
 unfold M1228 at h
 refine Tr.seq ?_
 refine rg ?_
 conv => whnf
 refine Tr.seq ?_
 refine rg ?_
 conv => whnf
 obtain ⟨⟨r_6, r_7⟩, hc8, h⟩ := bS h
 refine PC.ecall (P1213 l_1 r_6 r_7 hc8) (fun rs hrs => ?_)
 subst hrs
 conv => whnf
 refine Tr.seq ?_
 refine rg ?_
 conv => whnf
 obtain ⟨⟨r_9, r_10, r_11⟩, hc12, h⟩ := bS h
 refine PC.ecall (P1224 l_1 1 r_9 r_10 r_11 hc12) (fun rs hrs => ?_)
 subst hrs
 conv => whnf
 refine Tr.seq ?_
 obtain ⟨v_13, hv14, h⟩ := bS h
 refine Tr.cutQ1 ([(8, .d (.b v_13))]) ([]) ?_ (fun T1 H1 hw => ?_)
 ·replace h := hv14; clear hv14
  refine rg ?_
  conv => whnf
  refine cB h (fun hb15 h => ?_) (fun hb15 h => ?_)
  ·conv => whnf
   refine cB h (fun hb16 h => ?_) (fun hb16 h => ?_)
   ·conv => whnf
    obtain ⟨r_17, hc18, h⟩ := bS h
    refine PC.ecall (P1227 r_6 leaders_2 r_17 hc18) (fun rs hrs => ?_)
    subst hrs
    conv => whnf
    refine cB h (fun hb19 h => ?_) (fun hb19 h => ?_)
    ·conv => whnf
     obtain ⟨r_20, hc21, h⟩ := bS h
     refine PC.ecall (P1227 r_9 sure_3 r_20 hc21) (fun rs hrs => ?_)
     subst hrs
     conv => whnf
     refine cB h (fun hb22 h => ?_) (fun hb22 h => ?_)
     ·conv => whnf
      obtain ⟨r_23, hc24, h⟩ := bS h
      refine PC.ecall (P1227 r_10 perhaps_4 r_23 hc24) (fun rs hrs => ?_)
      subst hrs
      conv => whnf
      cases h
      exact Wk.mk2 [] 0 rfl rfl (by decide) rfl trivial ⟨rr, trivial⟩
     conv => whnf
     cases h
     exact Wk.mk2 [] 0 rfl rfl (by decide) rfl trivial ⟨rr, trivial⟩
    conv => whnf
    cases h
    exact Wk.mk2 [] 0 rfl rfl (by decide) rfl trivial ⟨rr, trivial⟩
   conv => whnf
   cases h
   exact Wk.mk2 [] 0 rfl rfl (by decide) rfl trivial ⟨rr, trivial⟩
  conv => whnf
  cases h
  exact Wk.mk2 [] 0 rfl rfl (by decide) rfl trivial ⟨rr, trivial⟩
 clear hv14
 conv => whnf
 refine Tr.weak hw ?_
 refine Tr.ret ?_
 conv => whnf
 cases h
 rfl
theorem P1229 (x_1 : Int) (r_2 : Bool) (h : M1229 x_1 = some r_2) :
    PC prog 91 [(.i .i64 x_1)] (fun rs => rs = [(.b r_2)]) := by
 refine PC.of_tr (cx := ⟨6, none, lay, 0⟩) layOK func91 rfl rfl rfl rfl rfl (by simp [f91]) ?_
 unfold M1229 at h
 refine Tr.seq ?_
 refine rg ?_
 conv => whnf
 refine Tr.seq ?_
 refine rg ?_
 conv => whnf
 refine Tr.ret ?_
 conv => whnf
 cases h
 rfl
theorem P1231 (x_1 : List Int) (target_2 : Int) (r_3 : Int) (r_4 : Bool) (h : M1231 x_1 target_2 = some (r_3, r_4)) :
    PC prog 64 [(.ls (List.map eI x_1)), (.i .i64 target_2)] (fun rs => rs = [(.i .i64 r_3), (.b r_4)]) := by
 refine PC.of_tr (cx := ⟨54, none, lay, 0⟩) layOK func64 rfl rfl rfl rfl rfl (by simp [f64]) ?_
 unfold M1231 at h
 refine Tr.seq ?_
 refine rg ?_
 conv => whnf
 refine Tr.seq ?_
 refine rg ?_
 conv => whnf
 refine lnS_map ?_
 conv => whnf
 refine Tr.seq ?_
 refine rg ?_
 conv => whnf
 refine Tr.seq ?_
 obtain ⟨i_10, hv18, h⟩ := bS h
 refine Tr.cutQ1 ([(0, .d (.ls (List.map eI x_1))), (1, (dI target_2)), (4, (dI 0)), (5, .d (.b false)), (6, (dI (((x_1).length : Int)))), (7, (dI i_10))]) ([]) ?_ (fun T1 H1 hw => ?_)
 ·replace h := hv18; clear hv18
  refine Tr.block ?_
  refine Tr.loopM (σ := Int × Int) (fun n s => M1230 x_1 target_2 n s.1 s.2) i_10 (fun s => ([(0, .d (.ls (List.map eI x_1))), (1, (dI target_2)), (4, (dI 0)), (5, .d (.b false)), (6, (dI (((x_1).length : Int)))), (7, (dI s.1)), (8, (dI s.2))], [])) (((((x_1).length : Int)) - 0 : Int).toNat + 1) (0, (((x_1).length : Int))) h (fun s => rfl) (Wk.mk2 [] 0 rfl rfl (by decide) rfl trivial ⟨rr, rr, rr, rr, rr, rr, rr, trivial⟩) ?_
  clear h
  rintro n_9 ⟨i_7, j_8⟩ h
  replace h : M1230 x_1 target_2 (n_9 + 1) i_7 j_8 = some i_10 := h
  rw [M1230] at h
  refine Tr.seq ?_
  refine Tr.seq ?_
  refine rg ?_
  conv => whnf
  refine Tr.cond ?_
  conv => whnf
  refine cB h (fun hb13 h => ?_) (fun hb13 h => ?_)
  ·refine Tr.skip ?_
   conv => whnf
   refine Tr.block ?_
   refine Tr.seq ?_
   refine rg ?_
   conv => whnf
   refine arS_raw ?_
   conv => whnf
   refine arS_raw ?_
   conv => whnf
   refine nnS_mk (by decide) ?_
   conv => whnf
   refine arS_raw ?_
   conv => whnf
   refine Tr.seq ?_
   refine rg ?_
   conv => whnf
   obtain ⟨x_14, hx_14, h⟩ := bS h
   refine ixP_of hx_14 ?_
   conv => whnf
   obtain ⟨r_15, hc16, h⟩ := bS h
   refine PC.ecall (P1146 x_14 target_2 r_15 hc16) (fun rs hrs => ?_)
   subst hrs
   conv => whnf
   refine Tr.cond ?_
   conv => whnf
   refine cB h (fun hb17 h => ?_) (fun hb17 h => ?_)
   ·refine rg ?_
    conv => whnf
    refine arS_raw ?_
    conv => whnf
    refine ⟨((w64 ((w64 (shrK .u64 (IntKind.wrap .u64 (w64 (i_7 + j_8))) 1)) + 1)), j_8), h, ?_⟩
    exact Wk.mk2 [] 0 rfl rfl (by decide) rfl trivial ⟨rr, rr, rr, rr, rr, rr, rr, trivial⟩
   refine rg ?_
   conv => whnf
   refine ⟨(i_7, (w64 (shrK .u64 (IntKind.wrap .u64 (w64 (i_7 + j_8))) 1))), h, ?_⟩
   exact Wk.mk2 [] 0 rfl rfl (by decide) rfl trivial ⟨rr, rr, rr, rr, rr, rr, rr, trivial⟩
  refine Tr.exit ?_
  conv => whnf
  cases h
  exact Wk.mk2 [] 0 rfl rfl (by decide) rfl trivial ⟨rr, rr, rr, rr, rr, rr, trivial⟩
 clear hv18
 conv => whnf
 refine Tr.weak hw ?_
 refine Tr.seq ?_
 obtain ⟨v_19, hv20, h⟩ := bS h
 refine Tr.cutQ1 ([(4, (dI i_10)), (5, .d (.b v_19))]) ([]) ?_ (fun T1 H1 hw => ?_)
 ·replace h := hv20; clear hv20
  refine rg ?_
  conv => whnf
  refine cB h (fun hb21 h => ?_) (fun hb21 h => ?_)
  ·conv => whnf
   obtain ⟨x_22, hx_22, h⟩ := bS h
   refine ixP_of hx_22 ?_
   conv => whnf
   refine cB h (fun hb23 h => ?_) (fun hb23 h => ?_)
   ·conv => whnf
    cases h
    exact Wk.mk2 [] 0 rfl rfl (by decide) rfl trivial ⟨rr, rr, trivial⟩
   conv => whnf
   obtain ⟨x_24, hx_24, h⟩ := bS h
   refine ixP_of hx_24 ?_
   conv => whnf
   obtain ⟨r_25, hc26, h⟩ := bS h
   refine PC.ecall (P1229 x_24 r_25 hc26) (fun rs hrs => ?_)
   subst hrs
   conv => whnf
   refine cB h (fun hb27 h => ?_) (fun hb27 h => ?_)
   ·conv => whnf
    obtain ⟨r_28, hc29, h⟩ := bS h
    refine PC.ecall (P1229 target_2 r_28 hc29) (fun rs hrs => ?_)
    subst hrs
    conv => whnf
    cases h
    exact Wk.mk2 [] 0 rfl rfl (by decide) rfl trivial ⟨rr, rr, trivial⟩
   conv => whnf
   cases h
   exact Wk.mk2 [] 0 rfl rfl (by decide) rfl trivial ⟨rr, rr, trivial⟩
  conv => whnf
  cases h
  exact Wk.mk2 [] 0 rfl rfl (by decide) rfl trivial ⟨rr, rr, trivial⟩
 clear hv20
 conv => whnf
 refine Tr.weak hw ?_
 refine Tr.ret ?_
 conv => whnf
 cases h
 rfl
theorem P1234 (a_1 : List TSpan) (by_2 : Int) (r_3 : List TSpan) (r_4 : Int) (h : M1234 a_1 by_2 = some (r_3, r_4)) :
    PC prog 65 [(.ls (List.map eTSpan a_1)), (.i .i64 by_2)] (fun rs => rs = [(.ls (List.map eTSpan r_3)), (.i .i64 r_4)]) := by
 refine PC.of_tr (cx := ⟨53, none, lay, 0⟩) layOK func65 rfl rfl rfl rfl rfl (by simp [f65]) ?_
 unfold M1234 at h
 refine Tr.seq ?_
 refine rg ?_
 conv => whnf
 refine Tr.seq ?_
 refine Tr.seq ?_
 refine rg ?_
 conv => whnf
 refine orB_r ?_
 conv => whnf
 obtain ⟨r_5, hc6, h⟩ := bS h
 refine PC.ecall (P1071 ((([a_1] : List (List TSpan)))) r_5 hc6) (fun rs hrs => ?_)
 subst hrs
 conv => whnf
 refine Tr.seq ?_
 refine rg ?_
 conv => whnf
 refine cB h (fun hb7 h => ?_) (fun hb7 h => ?_)
 ·conv => whnf
  refine Tr.cond ?_
  conv => whnf
  refine Tr.seq ?_
  refine rg ?_
  conv => whnf
  refine Tr.ret ?_
  conv => whnf
  cases h
  rfl
 conv => whnf
 refine lnS_map ?_
 conv => whnf
 refine Tr.cond ?_
 conv => whnf
 refine cB h (fun hb8 h => ?_) (fun hb8 h => ?_)
 ·refine Tr.seq ?_
  refine rg ?_
  conv => whnf
  refine Tr.ret ?_
  conv => whnf
  cases h
  rfl
 refine Tr.skip ?_
 conv => whnf
 refine Tr.seq ?_
 refine Tr.seq ?_
 refine rg ?_
 conv => whnf
 refine cB h (fun hb9 h => ?_) (fun hb9 h => ?_)
 ·conv => whnf
  refine Tr.cond ?_
  conv => whnf
  refine Tr.seq ?_
  refine rg ?_
  conv => whnf
  refine Tr.ret ?_
  conv => whnf
  cases h
  rfl
 conv => whnf
 refine Tr.cond ?_
 conv => whnf
 refine cB h (fun hb10 h => ?_) (fun hb10 h => ?_)
 ·refine Tr.seq ?_
  refine rg ?_
  conv => whnf
  refine Tr.ret ?_
  conv => whnf
  cases h
  rfl
 refine Tr.skip ?_
 conv => whnf
 refine Tr.seq ?_
 refine Tr.seq ?_
 refine rg ?_
 conv => whnf
 obtain ⟨r_11, hc12, h⟩ := bS h
 refine PC.ecall (P1126 a_1 r_11 hc12) (fun rs hrs => ?_)
 subst hrs
 conv => whnf
 refine lnS_map ?_
 conv => whnf
 refine Tr.cutQ (α := Int × List TSpan) (fun s => ([(4, .sl 0 2 0 (List.length s.2)), (5, (dI s.1))], [some (.arr 2 (List.map .d (List.map eTSpan s.2)))])) (fun s => M1233 s.1 s.2 = some (r_3, r_4)) ?_ ?_
 ·refine Tr.block ?_
  refine Tr.loopM (σ := Int × Int × List TSpan) (fun n s => M1232 by_2 r_11 M1233 n s.1 s.2.1 s.2.2) (r_3, r_4) (fun s => ([(1, (dI by_2)), (4, .sl 0 2 0 (List.length s.2.2)), (5, (dI s.1)), (26, .d (.ls (List.map eTSpan r_11))), (27, (dI (((r_11).length : Int)))), (28, (dI s.2.1))], [some (.arr 2 (List.map .d (List.map eTSpan s.2.2)))])) (((((r_11).length : Int)) - 0 : Int).toNat + 1) (r_5, 0, (([] : List TSpan))) h (fun s => rfl) (Wk.mk2 [0] 0 rfl rfl (by decide) rfl ⟨rfl, trivial⟩ ⟨rr, ⟨rfl, (by first | rfl | (simp only [↓hb7, ↓hb8, ↓hb9, ↓hb10, bl]; done) | (simp only [↓hb7, ↓hb8, ↓hb9, ↓hb10, bl]; rfl))⟩, rr, rr, rr, rr, trivial⟩) ?_
  clear h
  rintro n_19 ⟨e_16, v_17, l_18⟩ h
  replace h : M1232 by_2 r_11 M1233 (n_19 + 1) e_16 v_17 l_18 = some (r_3, r_4) := h
  rw [M1232] at h
  refine Tr.seq ?_
  refine rg ?_
  conv => whnf
  refine Tr.seq ?_
  refine Tr.cond ?_
  conv => whnf
  refine cB h (fun hb24 h => ?_) (fun hb24 h => ?_)
  ·refine Tr.skip ?_
   conv => whnf
   refine Tr.seq ?_
   refine Tr.block ?_
   refine Tr.seq ?_
   refine rg ?_
   conv => whnf
   obtain ⟨x_25, hx_25, h⟩ := bS h
   refine ixP_of hx_25 ?_
   conv => whnf
   refine Tr.seq ?_
   refine rg ?_
   conv => whnf
   refine arS_raw ?_
   conv => whnf
   refine arS_raw ?_
   conv => whnf
   refine Tr.seq ?_
   refine Tr.seq ?_
   refine rg ?_
   conv => whnf
   obtain ⟨r_26, hc27, h⟩ := bS h
   refine PC.ecall (P1063 (({ Lo := (w64 (x_25.Lo + by_2)), Hi := (w64 (x_25.Hi + by_2)) } : TSpan)) r_26 hc27) (fun rs hrs => ?_)
   subst hrs
   conv => whnf
   refine Tr.seq ?_
   refine rg ?_
   conv => whnf
   refine Tr.cond ?_
   conv => whnf
   refine cB h (fun hb28 h => ?_) (fun hb28 h => ?_)
   ·refine Tr.seq ?_
    refine rg ?_
    conv => whnf
    refine Tr.ret ?_
    conv => whnf
    cases h
    rfl
   refine Tr.skip ?_
   conv => whnf
   refine rg ?_
   conv => whnf
   refine orB_r ?_
   conv => whnf
   refine frP_no ?_
   conv => whnf
   refine eqS_mk (by first | rfl | simp) ?_
   conv => whnf
   obtain ⟨l_29, hl_29, h⟩ := bS h
   refine apS_of hl_29 (aQ (f := eTSpan) (l := (([({ Lo := (w64 (x_25.Lo + by_2)), Hi := (w64 (x_25.Hi + by_2)) } : TSpan)] : List TSpan))) fun _ => rfl) (by first | rfl | simp) (by first | rfl | simp) (fun he => ?_)
   conv => whnf
   refine rS (es' := List.map .d (List.map eTSpan l_29)) (n' := List.length l_29) (by subst he; simp only [List.map_append, List.map_cons, List.map_nil, List.nil_append]; first | done | rfl) (by subst he; simp <;> omega) ?_
   clear he
   conv => whnf
   refine rg ?_
   conv => whnf
   refine arS_raw ?_
   conv => whnf
   refine ⟨(r_26, (w64 (v_17 + 1)), l_29), h, ?_⟩
   exact Wk.mk2 [2] 3 rfl rfl (by decide) rfl ⟨daS_d rfl, trivial⟩ ⟨rr, ⟨rfl, (by first | rfl | (simp only [↓hb7, ↓hb8, ↓hb9, ↓hb10, ↓hb24, ↓hb28, bl]; done) | (simp only [↓hb7, ↓hb8, ↓hb9, ↓hb10, ↓hb24, ↓hb28, bl]; rfl))⟩, rr, rr, rr, rr, trivial⟩
  refine Tr.exit ?_
  conv => whnf
  refine ⟨(e_16, l_18), h, ?_⟩
  exact Wk.mk2 [0] 1 rfl rfl (by decide) rfl ⟨daS_d rfl, trivial⟩ ⟨rr, rr, trivial⟩
 clear h
 rintro ⟨e_20, l_21⟩ h T1 H1 hw
 replace h : M1233 e_20 l_21 = some (r_3, r_4) := h
 conv => whnf
 refine Tr.weak hw ?_
 unfold M1233 at h
 refine Tr.seq ?_
 refine rg ?_
 conv => whnf
 refine Tr.ret ?_
 conv => whnf
 refine frE_of (f := eTSpan) (l := l_21) rfl ?_
 conv => whnf
 cases h
 rfl
theorem P1239 (l_1 : List TTotal) (bibs_2 : List Int) (amounts_3 : List Int) (r_4 : List TTotal) (r_5 : Int) (h : M1239 l_1 bibs_2 amounts_3 = some (r_4, r_5)) :
    PC prog 27 [(.ls (List.map eTTotal l_1)), (.ls (List.map eI bibs_2)), (.ls (List.map eI amounts_3))] (fun rs => rs = [(.ls (List.map eTTotal r_4)), (.i .i64 r_5)]) := by
 refine PC.of_tr (cx := ⟨93, none, lay, 0⟩) layOK func27 rfl rfl rfl rfl rfl (by simp [f27]) ?_
 unfold M1239 at h
 refine Tr.seq ?_
 refine rg ?_
 conv => whnf
 refine Tr.seq ?_
 refine Tr.seq ?_
 refine rg ?_
 conv => whnf
 obtain ⟨r_6, hc7, h⟩ := bS h
 refine PC.ecall (P1202 l_1 r_6 hc7) (fun rs hrs => ?_)
 subst hrs
 conv => whnf
 refine Tr.cond ?_
 conv => whnf
 refine cB h (fun hb8 h => ?_) (fun hb8 h => ?_)
 ·refine Tr.seq ?_
  refine rg ?_
  conv => whnf
  refine Tr.ret ?_
  conv => whnf
  cases h
  rfl
 refine Tr.skip ?_
 conv => whnf
 refine Tr.seq ?_
 refine Tr.seq ?_
 refine rg ?_
 conv => whnf
 refine lnS_map ?_
 conv => whnf
 refine lnS_map ?_
 conv => whnf
 refine Tr.cond ?_
 conv => whnf
 refine cB h (fun hb9 h => ?_) (fun hb9 h => ?_)
 ·refine Tr.seq ?_
  refine rg ?_
  conv => whnf
  refine Tr.ret ?_
  conv => whnf
  cases h
  rfl
 refine Tr.skip ?_
 conv => whnf
 refine Tr.seq ?_
 refine Tr.seq ?_
 refine rg ?_
 conv => whnf
 refine lnS_map ?_
 conv => whnf
 refine Tr.cutQ (α := Unit) (fun s => ([(0, .d (.ls (List.map eTTotal l_1))), (1, .d (.ls (List.map eI bibs_2))), (2, .d (.ls (List.map eI amounts_3))), (6, .nsl), (7, (dI 0))], [])) (fun s => M1238 l_1 bibs_2 amounts_3 s = some (r_4, r_5)) ?_ ?_
 ·refine Tr.block ?_
  refine Tr.loopM (σ := Int) (fun n s => M1235 bibs_2 amounts_3 (M1238 l_1 bibs_2 amounts_3) n s) (r_4, r_5) (fun s => ([(0, .d (.ls (List.map eTTotal l_1))), (1, .d (.ls (List.map eI bibs_2))), (2, .d (.ls (List.map eI amounts_3))), (6, .nsl), (7, (dI 0)), (22, .d (.ls (List.map eI bibs_2))), (23, (dI (((bibs_2).length : Int)))), (24, (dI s))], [])) (((((bibs_2).length : Int)) - 0 : Int).toNat + 1) (0) h (fun s => rfl) (Wk.mk2 [] 0 rfl rfl (by decide) rfl trivial ⟨rr, rr, rr, rr, rr, rr, rr, rr, trivial⟩) ?_
  clear h
  rintro n_12 v_11 h
  replace h : M1235 bibs_2 amounts_3 (M1238 l_1 bibs_2 amounts_3) (n_12 + 1) v_11 = some (r_4, r_5) := h
  rw [M1235] at h
  refine Tr.seq ?_
  refine rg ?_
  conv => whnf
  refine Tr.seq ?_
  refine Tr.cond ?_
  conv => whnf
  refine cB h (fun hb15 h => ?_) (fun hb15 h => ?_)
  ·refine Tr.skip ?_
   conv => whnf
   refine Tr.seq ?_
   refine Tr.block ?_
   refine Tr.seq ?_
   refine rg ?_
   conv => whnf
   obtain ⟨x_16, hx_16, h⟩ := bS h
   refine ixP_of hx_16 ?_
   conv => whnf
   refine Tr.seq ?_
   obtain ⟨v_17, hv18, h⟩ := bS h
   refine Tr.cutQ1 ([(0, .d (.ls (List.map eTTotal l_1))), (1, .d (.ls (List.map eI bibs_2))), (2, .d (.ls (List.map eI amounts_3))), (6, .nsl), (7, (dI 0)), (22, .d (.ls (List.map eI bibs_2))), (23, (dI (((bibs_2).length : Int)))), (24, (dI v_11)), (53, .d (.b v_17))]) ([]) ?_ (fun T1 H1 hw => ?_)
   ·replace h := hv18; clear hv18
    refine rg ?_
    conv => whnf
    refine cB h (fun hb19 h => ?_) (fun hb19 h => ?_)
    ·conv => whnf
     refine arS_raw ?_
     conv => whnf
     obtain ⟨x_20, hx_20, h⟩ := bS h
     refine ixP_of hx_20 ?_
     conv => whnf
     refine cB h (fun hb21 h => ?_) (fun hb21 h => ?_)
     ·conv => whnf
      cases h
      exact Wk.mk2 [] 0 rfl rfl (by decide) rfl trivial ⟨rr, rr, rr, rr, rr, rr, rr, rr, rr, trivial⟩
     conv => whnf
     obtain ⟨x_22, hx_22, h⟩ := bS h
     refine ixP_of hx_22 ?_
     conv => whnf
     refine cB h (fun hb23 h => ?_) (fun hb23 h => ?_)
     ·conv => whnf
      cases h
      exact Wk.mk2 [] 0 rfl rfl (by decide) rfl trivial ⟨rr, rr, rr, rr, rr, rr, rr, rr, rr, trivial⟩
     conv => whnf
     obtain ⟨x_24, hx_24, h⟩ := bS h
     refine ixP_of hx_24 ?_
     conv => whnf
     cases h
     exact Wk.mk2 [] 0 rfl rfl (by decide) rfl trivial ⟨rr, rr, rr, rr, rr, rr, rr, rr, rr, trivial⟩
    conv => whnf
    obtain ⟨x_25, hx_25, h⟩ := bS h
    refine ixP_of hx_25 ?_
    conv => whnf
    refine cB h (fun hb26 h => ?_) (fun hb26 h => ?_)
    ·conv => whnf
     cases h
     exact Wk.mk2 [] 0 rfl rfl (by decide) rfl trivial ⟨rr, rr, rr, rr, rr, rr, rr, rr, rr, trivial⟩
    conv => whnf
    obtain ⟨x_27, hx_27, h⟩ := bS h
    refine ixP_of hx_27 ?_
    conv => whnf
    cases h
    exact Wk.mk2 [] 0 rfl rfl (by decide) rfl trivial ⟨rr, rr, rr, rr, rr, rr, rr, rr, rr, trivial⟩
   clear hv18
   conv => whnf
   refine Tr.weak hw ?_
   refine Tr.cond ?_
   conv => whnf
   refine cB h (fun hb28 h => ?_) (fun hb28 h => ?_)
   ·refine Tr.seq ?_
    refine rg ?_
    conv => whnf
    refine Tr.ret ?_
    conv => whnf
    cases h
    rfl
   refine Tr.skip ?_
   conv => whnf
   refine rg ?_
   conv => whnf
   refine arS_raw ?_
   conv => whnf
   refine ⟨((w64 (v_11 + 1))), h, ?_⟩
   exact Wk.mk2 [] 0 rfl rfl (by decide) rfl trivial ⟨rr, rr, rr, rr, rr, rr, rr, rr, trivial⟩
  refine Tr.exit ?_
  conv => whnf
  refine ⟨(), h, ?_⟩
  exact Wk.mk2 [] 0 rfl rfl (by decide) rfl trivial ⟨rr, rr, rr, rr, rr, trivial⟩
 clear h
 rintro _ h T1 H1 hw
 replace h : M1238 l_1 bibs_2 amounts_3 () = some (r_4, r_5) := h
 conv => whnf
 refine Tr.weak hw ?_
 unfold M1238 at h
 refine Tr.seq ?_
 obtain ⟨l_29, hv30, h⟩ := bS h
 refine Tr.cutQ1 ([(1, .d (.ls (List.map eI bibs_2))), (2, .d (.ls (List.map eI amounts_3))), (6, .sl 0 3 0 (List.length l_29)), (7, (dI 0))]) ([some (.arr 3 (List.map .d (List.map eTTotal l_29)))]) ?_ (fun T1 H1 hw => ?_)
 ·replace h := hv30; clear hv30
  refine rg ?_
  conv => whnf
  refine ECall.of_tr (cx := ⟨8, none, lay, 0⟩) layOK func63 rfl rfl rfl rfl rfl (by simp [f63]) ?_
  refine Tr.seq ?_
  refine rg ?_
  conv => whnf
  refine Tr.seq ?_
  refine Tr.seq ?_
  refine rg ?_
  conv => whnf
  intro nb_31 hnb_31
  cases nb_31
  ·conv => whnf
   refine Tr.cond ?_
   conv => whnf
   refine Tr.skip ?_
   conv => whnf
   refine Tr.seq ?_
   refine rg ?_
   conv => whnf
   refine orB_l ?_
   conv => whnf
   refine frP_no ?_
   conv => whnf
   refine eqS_mk (by first | rfl | simp) ?_
   conv => whnf
   obtain ⟨l_32, hl_32, h⟩ := bS h
   refine apS_of hl_32 (aQ (f := eTTotal) (l := l_1) fun _ => rfl) (by first | rfl | simp) (by first | rfl | simp) (fun he => ?_)
   conv => whnf
   refine rS (es' := List.map .d (List.map eTTotal l_32)) (n' := List.length l_32) (by subst he; simp only [List.map_append, List.map_cons, List.map_nil, List.nil_append]; first | done | rfl) (by subst he; simp <;> omega) ?_
   clear he
   conv => whnf
   refine Tr.ret ?_
   conv => whnf
   cases h
   exact Wk.mk2 [1] 2 rfl rfl (by decide) rfl ⟨daS_d rfl, trivial⟩ ⟨rr, rr, ⟨rfl, (by first | rfl | (simp only [↓hb8, ↓hb9, bl]; done) | (simp only [↓hb8, ↓hb9, bl]; rfl))⟩, rr, trivial⟩
  replace hnb_31 : l_1 = [] := by simpa using hnb_31 rfl
  subst hnb_31
  replace h : some (([] : List TTotal)) = some l_29 := by simpa [app] using h
  conv => whnf
  refine Tr.cond ?_
  conv => whnf
  refine Tr.seq ?_
  refine rg ?_
  conv => whnf
  refine Tr.ret ?_
  conv => whnf
  cases h
  exact Wk.mk2 [0] 0 rfl rfl (by decide) rfl ⟨rfl, trivial⟩ ⟨rr, rr, ⟨rfl, (by first | rfl | (simp only [↓hb8, ↓hb9, bl]; done) | (simp only [↓hb8, ↓hb9, bl]; rfl))⟩, rr, trivial⟩
 clear hv30
 conv => whnf
 refine Tr.weak hw ?_
 refine Tr.seq ?_
 refine Tr.seq ?_
 refine rg ?_
 conv => whnf
 refine lnS_mk rfl ?_
 conv => whnf
 refine Tr.cutQ (α := Int × List TTotal) (fun s => ([(6, .sl 0 3 0 (List.length s.2)), (7, (dI s.1))], [some (.arr 3 (List.map .d (List.map eTTotal s.2)))])) (fun s => M1237 s.1 s.2 = some (r_4, r_5)) ?_ ?_
 ·refine Tr.block ?_
  refine Tr.loopM (σ := Int × Int × List TTotal) (fun n s => M1236 bibs_2 amounts_3 l_29 M1237 n s.1 s.2.1 s.2.2) (r_4, r_5) (fun s => ([(1, .d (.ls (List.map eI bibs_2))), (2, .d (.ls (List.map eI amounts_3))), (6, .sl 0 3 0 (List.length s.2.2)), (7, (dI s.1)), (57, .sl 0 3 0 (List.length s.2.2)), (58, (dI (((l_29).length : Int)))), (59, (dI s.2.1))], [some (.arr 3 (List.map .d (List.map eTTotal s.2.2)))])) (((((l_29).length : Int)) - 0 : Int).toNat + 1) (0, 0, l_29) h (fun s => rfl) (Wk.mk2 [0] 1 rfl rfl (by decide) rfl ⟨daS_d rfl, trivial⟩ ⟨rr, rr, rr, rr, rr, rr, rr, trivial⟩) ?_
  clear h
  rintro n_39 ⟨e_36, v_37, l_38⟩ h
  replace h : M1236 bibs_2 amounts_3 l_29 M1237 (n_39 + 1) e_36 v_37 l_38 = some (r_4, r_5) := h
  rw [M1236] at h
  refine Tr.seq ?_
  refine rg ?_
  conv => whnf
  refine Tr.seq ?_
  refine Tr.cond ?_
  conv => whnf
  refine cB h (fun hb44 h => ?_) (fun hb44 h => ?_)
  ·refine Tr.skip ?_
   conv => whnf
   refine Tr.seq ?_
   refine Tr.block ?_
   refine Tr.seq ?_
   refine rg ?_
   conv => whnf
   obtain ⟨x_45, hx_45, h⟩ := bS h
   refine ixS_of hx_45 rfl ?_
   conv => whnf
   refine elP_of hx_45 ?_
   conv => whnf
   refine Tr.seq ?_
   refine rg ?_
   conv => whnf
   obtain ⟨⟨r_46, r_47⟩, hc48, h⟩ := bS h
   refine PC.ecall (P1231 bibs_2 x_45.Bib r_46 r_47 hc48) (fun rs hrs => ?_)
   subst hrs
   conv => whnf
   refine Tr.seq ?_
   refine Tr.seq ?_
   refine rg ?_
   conv => whnf
   refine Tr.cond ?_
   conv => whnf
   refine cB h (fun hb49 h => ?_) (fun hb49 h => ?_)
   ·refine Tr.exit ?_
    conv => whnf
    refine rg ?_
    conv => whnf
    refine arS_raw ?_
    conv => whnf
    refine ⟨(e_36, (w64 (v_37 + 1)), l_38), h, ?_⟩
    exact Wk.mk2 [0] 2 rfl rfl (by decide) rfl ⟨daS_d rfl, trivial⟩ ⟨rr, rr, rr, rr, rr, rr, rr, trivial⟩
   refine Tr.skip ?_
   conv => whnf
   refine Tr.seq ?_
   refine Tr.draw (DrawP.seqQ layOK mixed [(15, 0)] [(0, 1), (1, 1), (2, 4), (3, 4), (4, 1), (5, 1), (6, 2), (7, 2), (8, 1), (9, 1), (10, 1), (11, 1), (12, 1), (13, 3), (14, 3), (15, 0), (16, 1)] (by kernel_rfl) ?_)
   conv => whnf
   refine ⟨_, (fun _ => rr), ?_⟩
   conv => whnf
   refine ⟨_, (fun _ => rr), ?_⟩
   conv => whnf
   refine ⟨_, ⟨rfl, rfl, rr⟩, ?_⟩
   conv => whnf
   refine ⟨_, ⟨rfl, rfl, rr⟩, ?_⟩
   conv => whnf
   refine ⟨_, (fun _ => rr), ?_⟩
   conv => whnf
   refine ⟨_, (fun _ => rr), ?_⟩
   conv => whnf
   obtain ⟨x_50, hx_50, h⟩ := bS h
   refine ⟨_, ⟨rfl, rfl, (by (conv => whnf); (refine ixP_of hx_50 ?_); (conv => whnf); (exact rr))⟩, ?_⟩
   conv => whnf
   refine ⟨_, ⟨rfl, rfl, rr⟩, ?_⟩
   conv => whnf
   refine ⟨_, (fun _ => by (conv => whnf); (refine arS_raw ?_); (conv => whnf); (exact rr)), ?_⟩
   conv => whnf
   obtain ⟨⟨r_51, r_52⟩, hc53, h⟩ := bS h
   refine ⟨_, (fun _ => by (conv => whnf); (refine PC.ecall (P1234 x_45.Sums ((w64 (0 - x_50))) r_51 r_52 hc53) (fun rs hrs => ?_)); (subst hrs); (conv => whnf); (exact rr)), ?_⟩
   conv => whnf
   refine ⟨_, (fun _ => rr), ?_⟩
   conv => whnf
   refine ⟨_, (fun _ => rr), ?_⟩
   conv => whnf
   refine ⟨_, (fun _ => rr), ?_⟩
   conv => whnf
   obtain ⟨x_54, hx_54, h⟩ := bS h
   refine ⟨_, ⟨rfl, rfl, (by (conv => whnf); (refine ixS_of hx_54 rfl ?_); (conv => whnf); (exact rr))⟩, ?_⟩
   conv => whnf
   refine ⟨_, ⟨rfl, rfl, rr⟩, ?_⟩
   conv => whnf
   refine ⟨_, _, (by (conv => whnf); (refine elP_of hx_54 ?_); (conv => whnf); (refine lvS_mk (es' := List.map .d (List.map eTTotal (List.set l_38 (Int.toNat v_37) ({ Bib := x_54.Bib, Sums := r_51, Out := x_54.Out } : TTotal)))) (by simp only [Nat.zero_add, List.map_set]; first | done | rfl) ?_); (conv => whnf); (exact rr)), kp_ok (by repeat (first | exact trivial | refine ⟨trivial, ?_⟩ | refine ⟨rfl, ?_⟩)), ?_⟩
   conv => whnf
   refine ⟨_, (fun _ => rr), ?_⟩
   conv => whnf
   refine Tr.seq ?_
   refine rg ?_
   conv => whnf
   refine Tr.cond ?_
   conv => whnf
   refine cB h (fun hb55 h => ?_) (fun hb55 h => ?_)
   ·refine Tr.seq ?_
    refine rg ?_
    conv => whnf
    refine Tr.ret ?_
    conv => whnf
    cases h
    rfl
   refine Tr.skip ?_
   conv => whnf
   refine rg ?_
   conv => whnf
   refine arS_raw ?_
   conv => whnf
   refine ⟨(r_52, (w64 (v_37 + 1)), (List.set l_38 (Int.toNat v_37) ({ Bib := x_54.Bib, Sums := r_51, Out := x_54.Out } : TTotal))), h, ?_⟩
   exact Wk.mk2 [0] 2 rfl rfl (by decide) rfl ⟨daS_d rfl, trivial⟩ ⟨rr, rr, ⟨rfl, (slEq (by first | rfl | simp))⟩, rr, ⟨rfl, (slEq (by first | rfl | simp))⟩, rr, rr, trivial⟩
  refine Tr.exit ?_
  conv => whnf
  refine ⟨(e_36, l_38), h, ?_⟩
  exact Wk.mk2 [0] 1 rfl rfl (by decide) rfl ⟨daS_d rfl, trivial⟩ ⟨rr, rr, trivial⟩
 clear h
 rintro ⟨e_40, l_41⟩ h T1 H1 hw
 replace h : M1237 e_40 l_41 = some (r_4, r_5) := h
 conv => whnf
 refine Tr.weak hw ?_
 unfold M1237 at h
 refine Tr.seq ?_
 refine rg ?_
 conv => whnf
 refine Tr.ret ?_
 conv => whnf
 refine frE_of (f := eTTotal) (l := l_41) rfl ?_
 conv => whnf
 cases h
 rfl
theorem P1242 (a_1 : List TTotal) (b_2 : List TTotal) (r_3 : Bool) (h : M1242 a_1 b_2 = some r_3) :
    PC prog 21 [(.ls (List.map eTTotal a_1)), (.ls (List.map eTTotal b_2))] (fun rs => rs = [(.b r_3)]) := by
 refine PC.of_tr (cx := ⟨27, none, lay, 0⟩) layOK func21 rfl rfl rfl rfl rfl (by simp [f21]) ?_
 unfold M1242 at h
 refine Tr.seq ?_
 refine rg ?_
 conv => whnf
 refine Tr.seq ?_
 refine Tr.seq ?_
 refine rg ?_
 conv => whnf
 refine lnS_map ?_
 conv => whnf
 refine lnS_map ?_
 conv => whnf
 refine Tr.cond ?_
 conv => whnf
 refine cB h (fun hb4 h => ?_) (fun hb4 h => ?_)
 ·refine Tr.seq ?_
  refine rg ?_
  conv => whnf
  refine Tr.ret ?_
  conv => whnf
  cases h
  rfl
 refine Tr.skip ?_
 conv => whnf
 refine Tr.seq ?_
 refine Tr.seq ?_
 refine rg ?_
 conv => whnf
 refine Tr.cutQ (α := Unit) (fun s => ([(4, .d (.b false))], [])) (fun s => M1241 s = some r_3) ?_ ?_
 ·refine Tr.block ?_
  refine Tr.loopM (σ := Int) (fun n s => M1240 a_1 b_2 M1241 n s) r_3 (fun s => ([(0, .d (.ls (List.map eTTotal a_1))), (1, .d (.ls (List.map eTTotal b_2))), (4, .d (.b false)), (5, (dI s))], [])) (((((a_1).length : Int)) - 0 : Int).toNat + 1) (0) h (fun s => rfl) (Wk.mk2 [] 0 rfl rfl (by decide) rfl trivial ⟨rr, rr, rr, rr, trivial⟩) ?_
  clear h
  rintro n_7 i_6 h
  replace h : M1240 a_1 b_2 M1241 (n_7 + 1) i_6 = some r_3 := h
  rw [M1240] at h
  refine Tr.seq ?_
  refine Tr.seq ?_
  refine rg ?_
  conv => whnf
  refine lnS_map ?_
  conv => whnf
  refine Tr.cond ?_
  conv => whnf
  refine cB h (fun hb10 h => ?_) (fun hb10 h => ?_)
  ·refine Tr.skip ?_
   conv => whnf
   refine Tr.seq ?_
   refine Tr.block ?_
   refine Tr.seq ?_
   refine Tr.draw (DrawP.seqQ layOK mixed [] [(0, 1), (1, 1), (2, 2), (3, 2), (4, 1), (5, 1), (6, 2), (7, 2), (8, 1), (9, 1)] (by kernel_rfl) ?_)
   conv => whnf
   refine ⟨_, (fun _ => rr), ?_⟩
   conv => whnf
   refine ⟨_, (fun _ => rr), ?_⟩
   conv => whnf
   obtain ⟨x_11, hx_11, h⟩ := bS h
   refine ⟨_, ⟨rfl, rfl, (by (conv => whnf); (refine ixP_of hx_11 ?_); (conv => whnf); (exact rr))⟩, ?_⟩
   conv => whnf
   refine ⟨_, ⟨rfl, rfl, rr⟩, ?_⟩
   conv => whnf
   refine ⟨_, (fun _ => rr), ?_⟩
   conv => whnf
   refine ⟨_, (fun _ => rr), ?_⟩
   conv => whnf
   obtain ⟨x_12, hx_12, h⟩ := bS h
   refine ⟨_, ⟨rfl, rfl, (by (conv => whnf); (refine ixP_of hx_12 ?_); (conv => whnf); (exact rr))⟩, ?_⟩
   conv => whnf
   refine ⟨_, ⟨rfl, rfl, rr⟩, ?_⟩
   conv => whnf
   obtain ⟨r_13, hc14, h⟩ := bS h
   refine ⟨_, (fun _ => by (conv => whnf); (refine PC.ecall (P1194 x_11 x_12 r_13 hc14) (fun rs hrs => ?_)); (subst hrs); (conv => whnf); (exact rr)), ?_⟩
   conv => whnf
   refine ⟨_, (fun _ => rr), ?_⟩
   conv => whnf
   refine Tr.cond ?_
   conv => whnf
   refine cB h (fun hb15 h => ?_) (fun hb15 h => ?_)
   ·refine Tr.seq ?_
    refine rg ?_
    conv => whnf
    refine Tr.ret ?_
    conv => whnf
    cases h
    rfl
   refine Tr.skip ?_
   conv => whnf
   refine rg ?_
   conv => whnf
   refine arS_raw ?_
   conv => whnf
   refine ⟨((w64 (i_6 + 1))), h, ?_⟩
   exact Wk.mk2 [] 0 rfl rfl (by decide) rfl trivial ⟨rr, rr, rr, rr, trivial⟩
  refine Tr.exit ?_
  conv => whnf
  refine ⟨(), h, ?_⟩
  exact Wk.mk2 [] 0 rfl rfl (by decide) rfl trivial ⟨rr, trivial⟩
 clear h
 rintro _ h T1 H1 hw
 replace h : M1241 () = some r_3 := h
 conv => whnf
 refine Tr.weak hw ?_
 unfold M1241 at h
 refine Tr.seq ?_
 refine rg ?_
 conv => whnf
 refine Tr.ret ?_
 conv => whnf
 cases h
 rfl
theorem P1243 (r_1 : Bool) (h : M1243 = some r_1) :
    PC prog 10 [] (fun rs => rs = [(.b r_1)]) := by
 refine PC.of_tr (cx := ⟨148, none, lay, 0⟩) layOK func10 rfl rfl rfl rfl rfl (by simp [f10]) ?_
 unfold M1243 at h
 refine Tr.seq ?_
 refine rg ?_
 conv => whnf
 refine Tr.seq ?_
 refine rg ?_
 conv => whnf
 obtain ⟨r_2, hc3, h⟩ := bS h
 refine PC.ecall (P1000 10 11 r_2 hc3) (fun rs hrs => ?_)
 subst hrs
 conv => whnf
 refine orB_r ?_
 conv => whnf
 obtain ⟨r_4, hc5, h⟩ := bS h
 refine PC.ecall (P1000 12 13 r_4 hc5) (fun rs hrs => ?_)
 subst hrs
 conv => whnf
 refine orB_r ?_
 conv => whnf
 obtain ⟨r_6, hc7, h⟩ := bS h
 refine PC.ecall (P1001 ((([r_2] : List TOutcome))) ((([r_4] : List TOutcome))) r_6 hc7) (fun rs hrs => ?_)
 subst hrs
 conv => whnf
 refine Tr.seq ?_
 refine rg ?_
 conv => whnf
 obtain ⟨r_8, hc9, h⟩ := bS h
 refine PC.ecall (P1000 5 5 r_8 hc9) (fun rs hrs => ?_)
 subst hrs
 conv => whnf
 obtain ⟨r_10, hc11, h⟩ := bS h
 refine PC.ecall (P1000 9 9 r_10 hc11) (fun rs hrs => ?_)
 subst hrs
 conv => whnf
 refine orB_r ?_
 conv => whnf
 refine orB_r ?_
 conv => whnf
 obtain ⟨r_12, hc13, h⟩ := bS h
 refine PC.ecall (P1001 ((([r_8, r_10] : List TOutcome))) ((([({ Out := true, Seg := (-1), Lo := 0, Hi := 0 } : TOutcome)] : List TOutcome))) r_12 hc13) (fun rs hrs => ?_)
 subst hrs
 conv => whnf
 refine Tr.seq ?_
 refine rg ?_
 conv => whnf
 refine orB_r ?_
 conv => whnf
 obtain ⟨⟨r_14, r_15⟩, hc16, h⟩ := bS h
 refine PC.ecall (P1145 ((([r_6, r_12] : List TField))) 1 r_14 r_15 hc16) (fun rs hrs => ?_)
 subst hrs
 conv => whnf
 refine Tr.seq ?_
 refine rg ?_
 conv => whnf
 refine orB_r ?_
 conv => whnf
 obtain ⟨⟨r_17, r_18⟩, hc19, h⟩ := bS h
 refine PC.ecall (P1145 ((([r_6, r_12] : List TField))) 2 r_17 r_18 hc19) (fun rs hrs => ?_)
 subst hrs
 conv => whnf
 refine Tr.seq ?_
 refine rg ?_
 conv => whnf
 refine orB_r ?_
 conv => whnf
 obtain ⟨⟨r_20, r_21⟩, hc22, h⟩ := bS h
 refine PC.ecall (P1145 ((([r_6] : List TField))) 3 r_20 r_21 hc22) (fun rs hrs => ?_)
 subst hrs
 conv => whnf
 refine Tr.seq ?_
 refine rg ?_
 conv => whnf
 obtain ⟨⟨r_23, r_24⟩, hc25, h⟩ := bS h
 refine PC.ecall_frz ?_ ⟨_, _, func18, rfl, rfl⟩
 conv => whnf
 refine ⟨_, P1190 ((([] : List TField))) r_23 r_24 hc25, fun rs hrs => ?_⟩
 subst hrs
 conv => whnf
 refine Tr.seq ?_
 refine Tr.seq ?_
 obtain ⟨v_26, hv27, h⟩ := bS h
 refine Tr.cutQ1 ([(0, .d (.b false)), (79, .d (.b v_26))]) ([]) ?_ (fun T1 H1 hw => ?_)
 ·replace h := hv27; clear hv27
  refine rg ?_
  conv => whnf
  refine cB h (fun hb28 h => ?_) (fun hb28 h => ?_)
  ·conv => whnf
   cases h
   exact Wk.mk2 [] 5 rfl rfl (by decide) rfl trivial ⟨rr, rr, trivial⟩
  conv => whnf
  refine cB h (fun hb29 h => ?_) (fun hb29 h => ?_)
  ·conv => whnf
   cases h
   exact Wk.mk2 [] 5 rfl rfl (by decide) rfl trivial ⟨rr, rr, trivial⟩
  conv => whnf
  refine cB h (fun hb30 h => ?_) (fun hb30 h => ?_)
  ·conv => whnf
   cases h
   exact Wk.mk2 [] 5 rfl rfl (by decide) rfl trivial ⟨rr, rr, trivial⟩
  conv => whnf
  refine cB h (fun hb31 h => ?_) (fun hb31 h => ?_)
  ·conv => whnf
   cases h
   exact Wk.mk2 [] 5 rfl rfl (by decide) rfl trivial ⟨rr, rr, trivial⟩
  conv => whnf
  refine orB_r ?_
  conv => whnf
  obtain ⟨r_32, hc33, h⟩ := bS h
  refine PC.ecall (P1194 r_14 (({ Bib := 1, Sums := (([({ Lo := 15, Hi := 16 } : TSpan), ({ Lo := 19, Hi := 20 } : TSpan)] : List TSpan)), Out := false } : TTotal)) r_32 hc33) (fun rs hrs => ?_)
  subst hrs
  conv => whnf
  refine cB h (fun hb34 h => ?_) (fun hb34 h => ?_)
  ·conv => whnf
   cases h
   exact Wk.mk2 [] 5 rfl rfl (by decide) rfl trivial ⟨rr, rr, trivial⟩
  conv => whnf
  obtain ⟨r_35, hc36, h⟩ := bS h
  refine PC.ecall_lend ?_ ⟨_, _, func20, rfl, rfl⟩
  conv => whnf
  refine ⟨_, P1194 r_17 (({ Bib := 2, Sums := (([] : List TSpan)), Out := true } : TTotal)) r_35 hc36, fun rs hrs => ?_⟩
  subst hrs
  refine ⟨rfl, ?_⟩
  conv => whnf
  cases h
  exact Wk.mk2 [] 5 rfl rfl (by decide) rfl trivial ⟨rr, rr, trivial⟩
 clear hv27
 conv => whnf
 refine Tr.weak hw ?_
 refine Tr.cond ?_
 conv => whnf
 refine cB h (fun hb37 h => ?_) (fun hb37 h => ?_)
 ·refine Tr.seq ?_
  refine rg ?_
  conv => whnf
  refine Tr.ret ?_
  conv => whnf
  cases h
  rfl
 refine Tr.skip ?_
 conv => whnf
 refine Tr.seq ?_
 refine Tr.seq ?_
 obtain ⟨v_38, hv39, h⟩ := bS h
 refine Tr.cutQ1 ([(0, .d (.b false)), (112, .d (.b v_38))]) ([]) ?_ (fun T1 H1 hw => ?_)
 ·replace h := hv39; clear hv39
  refine rg ?_
  conv => whnf
  obtain ⟨r_40, hc41, h⟩ := bS h
  refine PC.ecall (P1195 1 10 11 false r_40 hc41) (fun rs hrs => ?_)
  subst hrs
  conv => whnf
  obtain ⟨r_42, hc43, h⟩ := bS h
  refine PC.ecall (P1195 2 12 13 false r_42 hc43) (fun rs hrs => ?_)
  subst hrs
  conv => whnf
  refine orB_r ?_
  conv => whnf
  refine orB_r ?_
  conv => whnf
  refine orB_r ?_
  conv => whnf
  refine orB_r ?_
  conv => whnf
  obtain ⟨r_44, hc45, h⟩ := bS h
  refine PC.ecall (P1228 ((([r_40, r_42] : List TTotal))) ((([1] : List Int))) ((([1] : List Int))) ((([1] : List Int))) r_44 hc45) (fun rs hrs => ?_)
  subst hrs
  conv => whnf
  refine cB h (fun hb46 h => ?_) (fun hb46 h => ?_)
  ·conv => whnf
   cases h
   exact Wk.mk2 [] 0 rfl rfl (by decide) rfl trivial ⟨rr, rr, trivial⟩
  conv => whnf
  obtain ⟨r_47, hc48, h⟩ := bS h
  refine PC.ecall (P1195 1 10 12 false r_47 hc48) (fun rs hrs => ?_)
  subst hrs
  conv => whnf
  obtain ⟨r_49, hc50, h⟩ := bS h
  refine PC.ecall (P1195 2 12 13 false r_49 hc50) (fun rs hrs => ?_)
  subst hrs
  conv => whnf
  refine orB_r ?_
  conv => whnf
  refine orB_r ?_
  conv => whnf
  refine orB_r ?_
  conv => whnf
  refine orB_r ?_
  conv => whnf
  obtain ⟨r_51, hc52, h⟩ := bS h
  refine PC.ecall (P1228 ((([r_47, r_49] : List TTotal))) ((([1, 2] : List Int))) ((([1] : List Int))) ((([1, 2] : List Int))) r_51 hc52) (fun rs hrs => ?_)
  subst hrs
  conv => whnf
  refine cB h (fun hb53 h => ?_) (fun hb53 h => ?_)
  ·conv => whnf
   cases h
   exact Wk.mk2 [] 0 rfl rfl (by decide) rfl trivial ⟨rr, rr, trivial⟩
  conv => whnf
  obtain ⟨r_54, hc55, h⟩ := bS h
  refine PC.ecall (P1195 1 10 11 true r_54 hc55) (fun rs hrs => ?_)
  subst hrs
  conv => whnf
  obtain ⟨r_56, hc57, h⟩ := bS h
  refine PC.ecall (P1195 2 12 13 false r_56 hc57) (fun rs hrs => ?_)
  subst hrs
  conv => whnf
  refine orB_r ?_
  conv => whnf
  refine orB_r ?_
  conv => whnf
  refine orB_r ?_
  conv => whnf
  obtain ⟨r_58, hc59, h⟩ := bS h
  refine PC.ecall_lend ?_ ⟨_, _, func35, rfl, rfl⟩
  conv => whnf
  refine ⟨_, P1228 ((([r_54, r_56] : List TTotal))) ((([1, 2] : List Int))) ((([] : List Int))) ((([1, 2] : List Int))) r_58 hc59, fun rs hrs => ?_⟩
  subst hrs
  refine ⟨rfl, ?_⟩
  conv => whnf
  refine cB h (fun hb60 h => ?_) (fun hb60 h => ?_)
  ·conv => whnf
   cases h
   exact Wk.mk2 [] 0 rfl rfl (by decide) rfl trivial ⟨rr, rr, trivial⟩
  conv => whnf
  refine orB_r ?_
  conv => whnf
  obtain ⟨r_61, hc62, h⟩ := bS h
  refine PC.ecall_lend ?_ ⟨_, _, func35, rfl, rfl⟩
  conv => whnf
  refine ⟨_, P1228 ((([({ Bib := 1, Sums := (([] : List TSpan)), Out := true } : TTotal)] : List TTotal))) ((([] : List Int))) ((([] : List Int))) ((([] : List Int))) r_61 hc62, fun rs hrs => ?_⟩
  subst hrs
  refine ⟨rfl, ?_⟩
  conv => whnf
  cases h
  exact Wk.mk2 [] 0 rfl rfl (by decide) rfl trivial ⟨rr, rr, trivial⟩
 clear hv39
 conv => whnf
 refine Tr.weak hw ?_
 refine Tr.cond ?_
 conv => whnf
 refine cB h (fun hb63 h => ?_) (fun hb63 h => ?_)
 ·refine Tr.seq ?_
  refine rg ?_
  conv => whnf
  refine Tr.ret ?_
  conv => whnf
  cases h
  rfl
 refine Tr.skip ?_
 conv => whnf
 refine Tr.seq ?_
 refine rg ?_
 conv => whnf
 obtain ⟨r_64, hc65, h⟩ := bS h
 refine PC.ecall (P1195 1 10 11 false r_64 hc65) (fun rs hrs => ?_)
 subst hrs
 conv => whnf
 refine orB_r ?_
 conv => whnf
 obtain ⟨⟨r_66, r_67, r_68⟩, hc69, h⟩ := bS h
 refine PC.ecall (P1224 ((([r_64] : List TTotal))) 0 r_66 r_67 r_68 hc69) (fun rs hrs => ?_)
 subst hrs
 conv => whnf
 refine Tr.seq ?_
 refine rg ?_
 conv => whnf
 obtain ⟨r_70, hc71, h⟩ := bS h
 refine PC.ecall (P1195 1 15 16 false r_70 hc71) (fun rs hrs => ?_)
 subst hrs
 conv => whnf
 refine orB_r ?_
 conv => whnf
 refine orB_r ?_
 conv => whnf
 refine orB_r ?_
 conv => whnf
 obtain ⟨⟨r_72, r_73⟩, hc74, h⟩ := bS h
 refine PC.ecall (P1239 ((([r_70] : List TTotal))) ((([1] : List Int))) ((([5] : List Int))) r_72 r_73 hc74) (fun rs hrs => ?_)
 subst hrs
 conv => whnf
 refine Tr.seq ?_
 obtain ⟨v_75, hv76, h⟩ := bS h
 refine Tr.cutQ1 ([(0, .d (.b v_75))]) ([]) ?_ (fun T1 H1 hw => ?_)
 ·replace h := hv76; clear hv76
  refine rg ?_
  conv => whnf
  refine lnS_map ?_
  conv => whnf
  refine lnS_map ?_
  conv => whnf
  refine arS_raw ?_
  conv => whnf
  refine cB h (fun hb77 h => ?_) (fun hb77 h => ?_)
  ·conv => whnf
   refine cB h (fun hb78 h => ?_) (fun hb78 h => ?_)
   ·conv => whnf
    refine cB h (fun hb79 h => ?_) (fun hb79 h => ?_)
    ·conv => whnf
     obtain ⟨r_80, hc81, h⟩ := bS h
     refine PC.ecall (P1195 1 10 11 false r_80 hc81) (fun rs hrs => ?_)
     subst hrs
     conv => whnf
     refine orB_r ?_
     conv => whnf
     obtain ⟨r_82, hc83, h⟩ := bS h
     refine PC.ecall (P1242 r_72 ((([r_80] : List TTotal))) r_82 hc83) (fun rs hrs => ?_)
     subst hrs
     conv => whnf
     cases h
     exact Wk.mk2 [] 0 rfl rfl (by decide) rfl trivial ⟨rr, trivial⟩
    conv => whnf
    cases h
    exact Wk.mk2 [] 0 rfl rfl (by decide) rfl trivial ⟨rr, trivial⟩
   conv => whnf
   cases h
   exact Wk.mk2 [] 0 rfl rfl (by decide) rfl trivial ⟨rr, trivial⟩
  conv => whnf
  cases h
  exact Wk.mk2 [] 0 rfl rfl (by decide) rfl trivial ⟨rr, trivial⟩
 clear hv76
 conv => whnf
 refine Tr.weak hw ?_
 refine Tr.ret ?_
 conv => whnf
 cases h
 rfl
theorem P1244 (s_1 : TSpan) (r_2 : Int) (h : M1244 s_1 = some r_2) :
    PC prog 97 [(eTSpan s_1)] (fun rs => rs = [(.i .i64 r_2)]) := by
 refine PC.of_tr (cx := ⟨18, none, lay, 0⟩) layOK func97 rfl rfl rfl rfl rfl (by simp [f97]) ?_
 unfold M1244 at h
 refine Tr.seq ?_
 refine rg ?_
 conv => whnf
 refine Tr.seq ?_
 refine Tr.seq ?_
 refine rg ?_
 conv => whnf
 refine cB h (fun hb3 h => ?_) (fun hb3 h => ?_)
 ·conv => whnf
  refine Tr.cond ?_
  conv => whnf
  refine Tr.seq ?_
  refine rg ?_
  conv => whnf
  refine Tr.ret ?_
  conv => whnf
  cases h
  rfl
 conv => whnf
 refine cB h (fun hb4 h => ?_) (fun hb4 h => ?_)
 ·conv => whnf
  refine Tr.cond ?_
  conv => whnf
  refine Tr.seq ?_
  refine rg ?_
  conv => whnf
  refine Tr.ret ?_
  conv => whnf
  cases h
  rfl
 conv => whnf
 refine Tr.cond ?_
 conv => whnf
 refine cB h (fun hb5 h => ?_) (fun hb5 h => ?_)
 ·refine Tr.seq ?_
  refine rg ?_
  conv => whnf
  refine Tr.ret ?_
  conv => whnf
  cases h
  rfl
 refine Tr.skip ?_
 conv => whnf
 refine Tr.seq ?_
 refine rg ?_
 conv => whnf
 refine Tr.ret ?_
 conv => whnf
 cases h
 rfl
theorem P1247 (l_1 : List TSpan) (r_2 : Int) (h : M1247 l_1 = some r_2) :
    PC prog 95 [(.ls (List.map eTSpan l_1))] (fun rs => rs = [(.i .i64 r_2)]) := by
 refine PC.of_tr (cx := ⟨19, none, lay, 0⟩) layOK func95 rfl rfl rfl rfl rfl (by simp [f95]) ?_
 unfold M1247 at h
 refine Tr.seq ?_
 refine rg ?_
 conv => whnf
 refine Tr.seq ?_
 refine Tr.seq ?_
 refine rg ?_
 conv => whnf
 refine lnS_map ?_
 conv => whnf
 refine Tr.cond ?_
 conv => whnf
 refine cB h (fun hb3 h => ?_) (fun hb3 h => ?_)
 ·refine Tr.seq ?_
  refine rg ?_
  conv => whnf
  refine Tr.ret ?_
  conv => whnf
  cases h
  rfl
 refine Tr.skip ?_
 conv => whnf
 refine Tr.seq ?_
 refine Tr.seq ?_
 refine rg ?_
 conv => whnf
 refine Tr.cutQ (α := Unit) (fun s => ([(2, (dI 0))], [])) (fun s => M1246 s = some r_2) ?_ ?_
 ·refine Tr.block ?_
  refine Tr.loopM (σ := Int) (fun n s => M1245 l_1 M1246 n s) r_2 (fun s => ([(0, .d (.ls (List.map eTSpan l_1))), (2, (dI 0)), (3, (dI s))], [])) (((((l_1).length : Int)) - 0 : Int).toNat + 1) (0) h (fun s => rfl) (Wk.mk2 [] 0 rfl rfl (by decide) rfl trivial ⟨rr, rr, rr, trivial⟩) ?_
  clear h
  rintro n_6 i_5 h
  replace h : M1245 l_1 M1246 (n_6 + 1) i_5 = some r_2 := h
  rw [M1245] at h
  refine Tr.seq ?_
  refine Tr.seq ?_
  refine rg ?_
  conv => whnf
  refine lnS_map ?_
  conv => whnf
  refine Tr.cond ?_
  conv => whnf
  refine cB h (fun hb9 h => ?_) (fun hb9 h => ?_)
  ·refine Tr.skip ?_
   conv => whnf
   refine Tr.seq ?_
   refine Tr.block ?_
   refine Tr.seq ?_
   refine rg ?_
   conv => whnf
   obtain ⟨x_10, hx_10, h⟩ := bS h
   refine ixP_of hx_10 ?_
   conv => whnf
   obtain ⟨r_11, hc12, h⟩ := bS h
   refine PC.ecall (P1244 x_10 r_11 hc12) (fun rs hrs => ?_)
   subst hrs
   conv => whnf
   refine Tr.cond ?_
   conv => whnf
   refine cB h (fun hb13 h => ?_) (fun hb13 h => ?_)
   ·refine Tr.seq ?_
    refine rg ?_
    conv => whnf
    refine Tr.ret ?_
    conv => whnf
    cases h
    rfl
   refine Tr.skip ?_
   conv => whnf
   refine rg ?_
   conv => whnf
   refine arS_raw ?_
   conv => whnf
   refine ⟨((w64 (i_5 + 1))), h, ?_⟩
   exact Wk.mk2 [] 0 rfl rfl (by decide) rfl trivial ⟨rr, rr, rr, trivial⟩
  refine Tr.exit ?_
  conv => whnf
  refine ⟨(), h, ?_⟩
  exact Wk.mk2 [] 0 rfl rfl (by decide) rfl trivial ⟨rr, trivial⟩
 clear h
 rintro _ h T1 H1 hw
 replace h : M1246 () = some r_2 := h
 conv => whnf
 refine Tr.weak hw ?_
 unfold M1246 at h
 refine Tr.seq ?_
 refine rg ?_
 conv => whnf
 refine Tr.ret ?_
 conv => whnf
 cases h
 rfl
theorem P1249 (l_1 : List TSpan) (s_2 : TSpan) (r_3 : List TSpan) (h : M1249 l_1 s_2 = some r_3) :
    PC prog 118 [(.ls (List.map eTSpan l_1)), (eTSpan s_2)] (fun rs => rs = [(.ls (List.map eTSpan r_3))]) := by
 refine PC.of_tr (cx := ⟨79, none, lay, 0⟩) layOK func118 rfl rfl rfl rfl rfl (by simp [f118]) ?_
 unfold M1249 at h
 refine Tr.seq ?_
 refine rg ?_
 conv => whnf
 refine Tr.seq ?_
 refine rg ?_
 conv => whnf
 refine orB_l ?_
 conv => whnf
 refine Tr.seq ?_
 refine rg ?_
 conv => whnf
 refine Tr.seq ?_
 refine Tr.seq ?_
 refine rg ?_
 conv => whnf
 obtain ⟨⟨done_15, v_16, v_17, l_18⟩, hv41, h⟩ := bS h
 refine Tr.cutQ1 ([(3, .pt 0 0), (4, .nsl), (5, .sl 1 2 0 (List.length l_18)), (6, .d (.b done_15))]) ([some (.var [(dI v_16), (dI v_17)]), some (.arr 2 (List.map .d (List.map eTSpan l_18)))]) ?_ (fun T1 H1 hw => ?_)
 ·replace h := hv41; clear hv41
  refine Tr.block ?_
  refine Tr.loopM (σ := Bool × Int × Int × Int × List TSpan) (fun n s => M1248 l_1 n s.1 s.2.1 s.2.2.1 s.2.2.2.1 s.2.2.2.2) (done_15, v_16, v_17, l_18) (fun s => ([(0, .d (.ls (List.map eTSpan l_1))), (3, .pt 0 0), (4, .nsl), (5, .sl 1 2 0 (List.length s.2.2.2.2)), (6, .d (.b s.1)), (7, (dI s.2.1))], [some (.var [(dI s.2.2.1), (dI s.2.2.2.1)]), some (.arr 2 (List.map .d (List.map eTSpan s.2.2.2.2)))])) (((((l_1).length : Int)) - 0 : Int).toNat + 1) (false, 0, s_2.Lo, s_2.Hi, (([] : List TSpan))) h (fun s => rfl) (Wk.mk2 [0, 1] 2 rfl rfl (by decide) rfl ⟨rr, daS_d rfl, trivial⟩ ⟨rr, rr, rr, rr, rr, rr, trivial⟩) ?_
  clear h
  rintro n_14 ⟨done_9, i_10, v_11, v_12, l_13⟩ h
  replace h : M1248 l_1 (n_14 + 1) done_9 i_10 v_11 v_12 l_13 = some (done_15, v_16, v_17, l_18) := h
  rw [M1248] at h
  refine Tr.seq ?_
  refine Tr.seq ?_
  refine rg ?_
  conv => whnf
  refine lnS_map ?_
  conv => whnf
  refine Tr.cond ?_
  conv => whnf
  refine cB h (fun hb21 h => ?_) (fun hb21 h => ?_)
  ·refine Tr.skip ?_
   conv => whnf
   refine Tr.seq ?_
   obtain ⟨⟨done_22, v_23, v_24, l_25⟩, hv26, h⟩ := bS h
   refine Tr.cutQ1 ([(0, .d (.ls (List.map eTSpan l_1))), (3, .pt 0 0), (4, .nsl), (5, .sl 1 2 0 (List.length l_25)), (6, .d (.b done_22)), (7, (dI i_10))]) ([some (.var [(dI v_23), (dI v_24)]), some (.arr 2 (List.map .d (List.map eTSpan l_25)))]) ?_ (fun T1 H1 hw => ?_)
   ·replace h := hv26; clear hv26
    refine Tr.block ?_
    refine Tr.block ?_
    refine Tr.seq ?_
    refine Tr.draw (DrawP.seqQ layOK mixed [] [(0, 1), (1, 1), (2, 2), (3, 2), (4, 2), (5, 1), (6, 3), (7, 3), (8, 1), (9, 1)] (by kernel_rfl) ?_)
    conv => whnf
    refine ⟨_, (fun _ => rr), ?_⟩
    conv => whnf
    refine ⟨_, (fun _ => rr), ?_⟩
    conv => whnf
    obtain ⟨x_27, hx_27, h⟩ := bS h
    refine ⟨_, ⟨rfl, rfl, (by (conv => whnf); (refine ixP_of hx_27 ?_); (conv => whnf); (exact rr))⟩, ?_⟩
    conv => whnf
    refine ⟨_, ⟨rfl, rfl, rr⟩, ?_⟩
    conv => whnf
    refine ⟨_, ⟨rfl, rfl, rr⟩, ?_⟩
    conv => whnf
    refine ⟨_, (fun _ => by (conv => whnf); (refine arS_raw ?_); (conv => whnf); (exact rr)), ?_⟩
    conv => whnf
    refine ⟨_, ⟨rfl, rfl, rr⟩, ?_⟩
    conv => whnf
    refine ⟨_, ⟨rfl, rfl, rr⟩, ?_⟩
    conv => whnf
    refine ⟨_, (fun _ => rr), ?_⟩
    conv => whnf
    refine ⟨_, (fun _ => rr), ?_⟩
    conv => whnf
    refine Tr.cond ?_
    conv => whnf
    refine cB h (fun hb28 h => ?_) (fun hb28 h => ?_)
    ·refine rg ?_
     conv => whnf
     obtain ⟨x_29, hx_29, h⟩ := bS h
     refine ixP_of hx_29 ?_
     conv => whnf
     refine orB_r ?_
     conv => whnf
     refine frP_no ?_
     conv => whnf
     refine eqS_mk (by first | rfl | simp) ?_
     conv => whnf
     obtain ⟨l_30, hl_30, h⟩ := bS h
     refine apS_of hl_30 (aQ (f := eTSpan) (l := (([x_29] : List TSpan))) fun _ => rfl) (by first | rfl | simp) (by first | rfl | simp) (fun he => ?_)
     conv => whnf
     refine rS (es' := List.map .d (List.map eTSpan l_30)) (n' := List.length l_30) (by subst he; simp only [List.map_append, List.map_cons, List.map_nil, List.nil_append]; first | done | rfl) (by subst he; simp <;> omega) ?_
     clear he
     conv => whnf
     cases h
     exact Wk.mk2 [0, 2] 3 rfl rfl (by decide) rfl ⟨rr, daS_d rfl, trivial⟩ ⟨rr, rr, rr, ⟨rfl, (by first | rfl | (simp only [↓hb21, ↓hb28, bl]; done) | (simp only [↓hb21, ↓hb28, bl]; rfl))⟩, rr, rr, trivial⟩
    refine Tr.seq ?_
    refine Tr.draw (DrawP.seqQ layOK mixed [] [(0, 3), (1, 3), (2, 1), (3, 1), (4, 1), (5, 2), (6, 2), (7, 2), (8, 1), (9, 1)] (by kernel_rfl) ?_)
    conv => whnf
    refine ⟨_, ⟨rfl, rfl, rr⟩, ?_⟩
    conv => whnf
    refine ⟨_, ⟨rfl, rfl, rr⟩, ?_⟩
    conv => whnf
    refine ⟨_, (fun _ => by (conv => whnf); (refine arS_raw ?_); (conv => whnf); (exact rr)), ?_⟩
    conv => whnf
    refine ⟨_, (fun _ => rr), ?_⟩
    conv => whnf
    refine ⟨_, (fun _ => rr), ?_⟩
    conv => whnf
    obtain ⟨x_31, hx_31, h⟩ := bS h
    refine ⟨_, ⟨rfl, rfl, (by (conv => whnf); (refine ixP_of hx_31 ?_); (conv => whnf); (exact rr))⟩, ?_⟩
    conv => whnf
    refine ⟨_, ⟨rfl, rfl, rr⟩, ?_⟩
    conv => whnf
    refine ⟨_, ⟨rfl, rfl, rr⟩, ?_⟩
    conv => whnf
    refine ⟨_, (fun _ => rr), ?_⟩
    conv => whnf
    refine ⟨_, (fun _ => rr), ?_⟩
    conv => whnf
    refine Tr.cond ?_
    conv => whnf
    refine cB h (fun hb32 h => ?_) (fun hb32 h => ?_)
    ·refine Tr.seq ?_
     refine Tr.seq ?_
     refine rg ?_
     conv => whnf
     refine Tr.cond ?_
     conv => whnf
     refine cB h (fun hb33 h => ?_) (fun hb33 h => ?_)
     ·refine Tr.seq ?_
      refine rg ?_
      conv => whnf
      refine orB_r ?_
      conv => whnf
      refine frP_no ?_
      conv => whnf
      refine eqS_mk (by first | rfl | simp) ?_
      conv => whnf
      obtain ⟨l_34, hl_34, h⟩ := bS h
      refine apS_of hl_34 (aQ (f := eTSpan) (l := (([({ Lo := v_11, Hi := v_12 } : TSpan)] : List TSpan))) fun _ => rfl) (by first | rfl | simp) (by first | rfl | simp) (fun he => ?_)
      conv => whnf
      refine rS (es' := List.map .d (List.map eTSpan l_34)) (n' := List.length l_34) (by subst he; simp only [List.map_append, List.map_cons, List.map_nil, List.nil_append]; first | done | rfl) (by subst he; simp <;> omega) ?_
      clear he
      conv => whnf
      refine rg ?_
      conv => whnf
      refine rg ?_
      conv => whnf
      obtain ⟨x_35, hx_35, h⟩ := bS h
      refine ixP_of hx_35 ?_
      conv => whnf
      refine orB_r ?_
      conv => whnf
      refine frP_no ?_
      conv => whnf
      refine eqS_mk (by first | rfl | simp) ?_
      conv => whnf
      obtain ⟨l_36, hl_36, h⟩ := bS h
      refine apS_of hl_36 (aQ (f := eTSpan) (l := (([x_35] : List TSpan))) fun _ => rfl) (by first | rfl | simp) (by first | rfl | simp) (fun he => ?_)
      conv => whnf
      refine rS (es' := List.map .d (List.map eTSpan l_36)) (n' := List.length l_36) (by subst he; simp only [List.map_append, List.map_cons, List.map_nil, List.nil_append]; first | done | rfl) (by subst he; simp <;> omega) ?_
      clear he
      conv => whnf
      cases h
      exact Wk.mk2 [0, 3] 4 rfl rfl (by decide) rfl ⟨rr, daS_d rfl, trivial⟩ ⟨rr, rr, rr, ⟨rfl, (by first | rfl | (simp only [↓hb21, ↓hb28, ↓hb32, ↓hb33, bl]; done) | (simp only [↓hb21, ↓hb28, ↓hb32, ↓hb33, bl]; rfl))⟩, rr, rr, trivial⟩
     refine Tr.skip ?_
     conv => whnf
     refine rg ?_
     conv => whnf
     obtain ⟨x_37, hx_37, h⟩ := bS h
     refine ixP_of hx_37 ?_
     conv => whnf
     refine orB_r ?_
     conv => whnf
     refine frP_no ?_
     conv => whnf
     refine eqS_mk (by first | rfl | simp) ?_
     conv => whnf
     obtain ⟨l_38, hl_38, h⟩ := bS h
     refine apS_of hl_38 (aQ (f := eTSpan) (l := (([x_37] : List TSpan))) fun _ => rfl) (by first | rfl | simp) (by first | rfl | simp) (fun he => ?_)
     conv => whnf
     refine rS (es' := List.map .d (List.map eTSpan l_38)) (n' := List.length l_38) (by subst he; simp only [List.map_append, List.map_cons, List.map_nil, List.nil_append]; first | done | rfl) (by subst he; simp <;> omega) ?_
     clear he
     conv => whnf
     cases h
     exact Wk.mk2 [0, 2] 3 rfl rfl (by decide) rfl ⟨rr, daS_d rfl, trivial⟩ ⟨rr, rr, rr, ⟨rfl, (by first | rfl | (simp only [↓hb21, ↓hb28, ↓hb32, ↓hb33, bl]; done) | (simp only [↓hb21, ↓hb28, ↓hb32, ↓hb33, bl]; rfl))⟩, rr, rr, trivial⟩
    refine Tr.draw (DrawP.seqQ layOK mixed [(17, 0)] [(0, 3), (1, 3), (2, 1), (3, 1), (4, 2), (5, 2), (6, 2), (7, 1), (8, 3), (9, 3), (10, 1), (11, 1), (12, 2), (13, 2), (14, 2), (15, 1), (16, 1), (17, 0)] (by kernel_rfl) ?_)
    conv => whnf
    refine ⟨_, ⟨rfl, rfl, rr⟩, ?_⟩
    conv => whnf
    refine ⟨_, ⟨rfl, rfl, rr⟩, ?_⟩
    conv => whnf
    refine ⟨_, (fun _ => rr), ?_⟩
    conv => whnf
    refine ⟨_, (fun _ => rr), ?_⟩
    conv => whnf
    obtain ⟨x_39, hx_39, h⟩ := bS h
    refine ⟨_, ⟨rfl, rfl, (by (conv => whnf); (refine ixP_of hx_39 ?_); (conv => whnf); (exact rr))⟩, ?_⟩
    conv => whnf
    refine ⟨_, ⟨rfl, rfl, rr⟩, ?_⟩
    conv => whnf
    refine ⟨_, ⟨rfl, rfl, rr⟩, ?_⟩
    conv => whnf
    refine ⟨_, (fun _ => rr), ?_⟩
    conv => whnf
    refine ⟨_, ⟨rfl, rfl, rr⟩, ?_⟩
    conv => whnf
    refine ⟨_, ⟨rfl, rfl, rr⟩, ?_⟩
    conv => whnf
    refine ⟨_, (fun _ => rr), ?_⟩
    conv => whnf
    refine ⟨_, (fun _ => rr), ?_⟩
    conv => whnf
    obtain ⟨x_40, hx_40, h⟩ := bS h
    refine ⟨_, ⟨rfl, rfl, (by (conv => whnf); (refine ixP_of hx_40 ?_); (conv => whnf); (exact rr))⟩, ?_⟩
    conv => whnf
    refine ⟨_, ⟨rfl, rfl, rr⟩, ?_⟩
    conv => whnf
    refine ⟨_, ⟨rfl, rfl, rr⟩, ?_⟩
    conv => whnf
    refine ⟨_, (fun _ => rr), ?_⟩
    conv => whnf
    refine ⟨_, (fun _ => rr), ?_⟩
    conv => whnf
    refine ⟨_, _, rr, kp_ok (by repeat (first | exact trivial | refine ⟨trivial, ?_⟩ | refine ⟨rfl, ?_⟩)), ?_⟩
    conv => whnf
    cases h
    exact Wk.mk2 [0, 1] 2 rfl rfl (by decide) rfl ⟨rr, daS_d rfl, trivial⟩ ⟨rr, rr, rr, rr, rr, rr, trivial⟩
   clear hv26
   conv => whnf
   refine Tr.weak hw ?_
   refine rg ?_
   conv => whnf
   refine arS_raw ?_
   conv => whnf
   refine ⟨(done_22, (w64 (i_10 + 1)), v_23, v_24, l_25), h, ?_⟩
   exact Wk.mk2 [0, 1] 2 rfl rfl (by decide) rfl ⟨rr, daS_d rfl, trivial⟩ ⟨rr, rr, rr, rr, rr, rr, trivial⟩
  refine Tr.exit ?_
  conv => whnf
  cases h
  exact Wk.mk2 [0, 1] 2 rfl rfl (by decide) rfl ⟨rr, daS_d rfl, trivial⟩ ⟨rr, rr, rr, rr, trivial⟩
 clear hv41
 conv => whnf
 refine Tr.weak hw ?_
 refine Tr.seq ?_
 refine Tr.seq ?_
 refine rg ?_
 conv => whnf
 refine Tr.cond ?_
 conv => whnf
 refine cB h (fun hb42 h => ?_) (fun hb42 h => ?_)
 ·refine rg ?_
  conv => whnf
  refine orB_r ?_
  conv => whnf
  refine frP_no ?_
  conv => whnf
  refine eqS_mk (by first | rfl | simp) ?_
  conv => whnf
  obtain ⟨l_43, hl_43, h⟩ := bS h
  refine apS_of hl_43 (aQ (f := eTSpan) (l := (([({ Lo := v_16, Hi := v_17 } : TSpan)] : List TSpan))) fun _ => rfl) (by first | rfl | simp) (by first | rfl | simp) (fun he => ?_)
  conv => whnf
  refine rS (es' := List.map .d (List.map eTSpan l_43)) (n' := List.length l_43) (by subst he; simp only [List.map_append, List.map_cons, List.map_nil, List.nil_append]; first | done | rfl) (by subst he; simp <;> omega) ?_
  clear he
  conv => whnf
  refine Tr.seq ?_
  refine rg ?_
  conv => whnf
  refine Tr.ret ?_
  conv => whnf
  refine frE_of (f := eTSpan) (l := l_43) rfl ?_
  conv => whnf
  cases h
  rfl
 refine Tr.skip ?_
 conv => whnf
 refine Tr.seq ?_
 refine rg ?_
 conv => whnf
 refine Tr.ret ?_
 conv => whnf
 refine frE_of (f := eTSpan) (l := l_18) rfl ?_
 conv => whnf
 cases h
 rfl
theorem P1251 (l_1 : List TSpan) (r_2 : List TSpan) (h : M1251 l_1 = some r_2) :
    PC prog 96 [(.ls (List.map eTSpan l_1))] (fun rs => rs = [(.ls (List.map eTSpan r_2))]) := by
 refine PC.of_tr (cx := ⟨19, none, lay, 0⟩) layOK func96 rfl rfl rfl rfl rfl (by simp [f96]) ?_
 unfold M1251 at h
 refine Tr.seq ?_
 refine rg ?_
 conv => whnf
 refine Tr.seq ?_
 refine rg ?_
 conv => whnf
 refine orB_r ?_
 conv => whnf
 refine Tr.seq ?_
 refine Tr.seq ?_
 refine rg ?_
 conv => whnf
 obtain ⟨out_8, hv15, h⟩ := bS h
 refine Tr.cutQ1 ([(2, .nsl), (3, .d (.ls (List.map eTSpan out_8)))]) ([]) ?_ (fun T1 H1 hw => ?_)
 ·replace h := hv15; clear hv15
  refine Tr.block ?_
  refine Tr.loopM (σ := List TSpan × Int) (fun n s => M1250 l_1 n s.1 s.2) out_8 (fun s => ([(0, .d (.ls (List.map eTSpan l_1))), (2, .nsl), (3, .d (.ls (List.map eTSpan s.1))), (4, (dI s.2))], [])) (((((l_1).length : Int)) - 0 : Int).toNat + 1) ((([] : List TSpan)), 0) h (fun s => rfl) (Wk.mk2 [] 0 rfl rfl (by decide) rfl trivial ⟨rr, rr, rr, rr, trivial⟩) ?_
  clear h
  rintro n_7 ⟨out_5, i_6⟩ h
  replace h : M1250 l_1 (n_7 + 1) out_5 i_6 = some out_8 := h
  rw [M1250] at h
  refine Tr.seq ?_
  refine Tr.seq ?_
  refine rg ?_
  conv => whnf
  refine lnS_map ?_
  conv => whnf
  refine Tr.cond ?_
  conv => whnf
  refine cB h (fun hb11 h => ?_) (fun hb11 h => ?_)
  ·refine Tr.skip ?_
   conv => whnf
   refine Tr.seq ?_
   refine Tr.block ?_
   refine rg ?_
   conv => whnf
   obtain ⟨x_12, hx_12, h⟩ := bS h
   refine ixP_of hx_12 ?_
   conv => whnf
   obtain ⟨r_13, hc14, h⟩ := bS h
   refine PC.ecall (P1249 out_5 x_12 r_13 hc14) (fun rs hrs => ?_)
   subst hrs
   conv => whnf
   refine rg ?_
   conv => whnf
   refine arS_raw ?_
   conv => whnf
   refine ⟨(r_13, (w64 (i_6 + 1))), h, ?_⟩
   exact Wk.mk2 [] 0 rfl rfl (by decide) rfl trivial ⟨rr, rr, rr, rr, trivial⟩
  refine Tr.exit ?_
  conv => whnf
  cases h
  exact Wk.mk2 [] 0 rfl rfl (by decide) rfl trivial ⟨rr, rr, trivial⟩
 clear hv15
 conv => whnf
 refine Tr.weak hw ?_
 refine Tr.seq ?_
 refine rg ?_
 conv => whnf
 refine Tr.ret ?_
 conv => whnf
 cases h
 rfl
theorem P1252 (l_1 : List TSpan) (r_2 : List TSpan) (r_3 : Int) (h : M1252 l_1 = some (r_2, r_3)) :
    PC prog 67 [(.ls (List.map eTSpan l_1))] (fun rs => rs = [(.ls (List.map eTSpan r_2)), (.i .i64 r_3)]) := by
 refine PC.of_tr (cx := ⟨12, none, lay, 0⟩) layOK func67 rfl rfl rfl rfl rfl (by simp [f67]) ?_
 unfold M1252 at h
 refine Tr.seq ?_
 refine rg ?_
 conv => whnf
 refine Tr.seq ?_
 refine rg ?_
 conv => whnf
 obtain ⟨r_4, hc5, h⟩ := bS h
 refine PC.ecall (P1247 l_1 r_4 hc5) (fun rs hrs => ?_)
 subst hrs
 conv => whnf
 refine Tr.seq ?_
 refine Tr.seq ?_
 refine rg ?_
 conv => whnf
 refine Tr.cond ?_
 conv => whnf
 refine cB h (fun hb6 h => ?_) (fun hb6 h => ?_)
 ·refine Tr.seq ?_
  refine rg ?_
  conv => whnf
  refine Tr.ret ?_
  conv => whnf
  cases h
  rfl
 refine Tr.skip ?_
 conv => whnf
 refine Tr.seq ?_
 refine rg ?_
 conv => whnf
 obtain ⟨r_7, hc8, h⟩ := bS h
 refine PC.ecall (P1251 l_1 r_7 hc8) (fun rs hrs => ?_)
 subst hrs
 conv => whnf
 refine Tr.ret ?_
 conv => whnf
 cases h
 rfl
end Go.Proofs.Tryz
