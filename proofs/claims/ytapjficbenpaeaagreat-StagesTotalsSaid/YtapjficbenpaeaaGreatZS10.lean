/- Contracts of functions, by program (gen.py). No condition. -/
import Derived.Test.YtapjficbenpaeaaGreatZL
import Derived.Test.YtapjficbenpaeaaGreatZM
import Derived.Test.YtapjficbenpaeaaGreatZCB
import Derived.Test.YtapjficbenpaeaaGreatZS9
namespace Go.Proofs.Tryz
open Go Go.Abs Go.Stop
set_option maxRecDepth 8000
set_option linter.unusedVariables false
set_option linter.unusedSimpArgs false
theorem P228 (l_1 : List TTotal) (leaders_2 : List Int) (sure_3 : List Int) (perhaps_4 : List Int) (r_5 : Bool) (h : M228 l_1 leaders_2 sure_3 perhaps_4 = some r_5) :
    PC prog 35 [(.ls (List.map eTTotal l_1)), (.ls (List.map eI leaders_2)), (.ls (List.map eI sure_3)), (.ls (List.map eI perhaps_4))] (fun rs => rs = [(.b r_5)]) := by
 refine PC.of_tr (cx := ⟨46, none, lay, 0⟩) layOK func35 rfl rfl rfl rfl rfl (by simp [f35]) ?_
 unfold M228 at h
 refine sg ?_
 conv=>whnf
 refine sg ?_
 conv=>whnf
 obtain ⟨⟨r_6, r_7⟩, hc8, h⟩ := bS h
 refine PC.ecall (P213 l_1 r_6 r_7 hc8) (fun rs hrs => ?_)
 subst hrs
 conv=>whnf
 refine sg ?_
 conv=>whnf
 obtain ⟨⟨r_9, r_10, r_11⟩, hc12, h⟩ := bS h
 refine PC.ecall (P224 l_1 1 r_9 r_10 r_11 hc12) (fun rs hrs => ?_)
 subst hrs
 conv=>whnf
 refine Tr.seq ?_
 obtain ⟨v_13, hv14, h⟩ := bS h
 refine Tr.cutQ1 ([(8, .d (.b v_13))]) ([]) ?_ (fun T1 H1 hw => ?_)
 ·replace h := hv14; clear hv14
  refine rg ?_
  conv=>whnf
  refine cB h (fun hb15 h => ?_) (fun hb15 h => ?_)
  ·conv=>whnf
   refine cB h (fun hb16 h => ?_) (fun hb16 h => ?_)
   ·conv=>whnf
    obtain ⟨r_17, hc18, h⟩ := bS h
    refine PC.ecall (P227 r_6 leaders_2 r_17 hc18) (fun rs hrs => ?_)
    subst hrs
    conv=>whnf
    refine cB h (fun hb19 h => ?_) (fun hb19 h => ?_)
    ·conv=>whnf
     obtain ⟨r_20, hc21, h⟩ := bS h
     refine PC.ecall (P227 r_9 sure_3 r_20 hc21) (fun rs hrs => ?_)
     subst hrs
     conv=>whnf
     refine cB h (fun hb22 h => ?_) (fun hb22 h => ?_)
     ·conv=>whnf
      obtain ⟨r_23, hc24, h⟩ := bS h
      refine PC.ecall (P227 r_10 perhaps_4 r_23 hc24) (fun rs hrs => ?_)
      subst hrs
      conv=>whnf
      cases h
      exact Wk.mk2 [] 0 rfl rfl (by decide) rfl trivial ⟨rr, trivial⟩
     conv=>whnf
     cases h
     exact Wk.mk2 [] 0 rfl rfl (by decide) rfl trivial ⟨rr, trivial⟩
    conv=>whnf
    cases h
    exact Wk.mk2 [] 0 rfl rfl (by decide) rfl trivial ⟨rr, trivial⟩
   conv=>whnf
   cases h
   exact Wk.mk2 [] 0 rfl rfl (by decide) rfl trivial ⟨rr, trivial⟩
  conv=>whnf
  cases h
  exact Wk.mk2 [] 0 rfl rfl (by decide) rfl trivial ⟨rr, trivial⟩
 clear hv14
 conv=>whnf
 refine Tr.weak hw ?_
 refine Tr.ret ?_
 conv=>whnf
 cases h
 rfl
theorem P229 (x_1 : Int) (r_2 : Bool) (h : M229 x_1 = some r_2) :
    PC prog 91 [(.i .i64 x_1)] (fun rs => rs = [(.b r_2)]) := by
 refine PC.of_tr (cx := ⟨6, none, lay, 0⟩) layOK func91 rfl rfl rfl rfl rfl (by simp [f91]) ?_
 unfold M229 at h
 refine sg ?_
 conv=>whnf
 refine sg ?_
 conv=>whnf
 refine Tr.ret ?_
 conv=>whnf
 cases h
 rfl
theorem P231 (x_1 : List Int) (target_2 : Int) (r_3 : Int) (r_4 : Bool) (h : M231 x_1 target_2 = some (r_3, r_4)) :
    PC prog 64 [(.ls (List.map eI x_1)), (.i .i64 target_2)] (fun rs => rs = [(.i .i64 r_3), (.b r_4)]) := by
 refine PC.of_tr (cx := ⟨54, none, lay, 0⟩) layOK func64 rfl rfl rfl rfl rfl (by simp [f64]) ?_
 unfold M231 at h
 refine sg ?_
 conv=>whnf
 refine sg ?_
 conv=>whnf
 refine lnS_map ?_
 conv=>whnf
 refine sg ?_
 conv=>whnf
 refine Tr.seq ?_
 obtain ⟨i_10, hv18, h⟩ := bS h
 refine Tr.cutQ1 ([(0, .d (.ls (List.map eI x_1))), (1, (dI target_2)), (4, (dI 0)), (5, .d (.b false)), (6, (dI (((x_1).length : Int)))), (7, (dI i_10))]) ([]) ?_ (fun T1 H1 hw => ?_)
 ·replace h := hv18; clear hv18
  refine Tr.block ?_
  refine Tr.loopM (σ := Int × Int) (fun n s => M230 x_1 target_2 n s.1 s.2) i_10 (fun s => ([(0, .d (.ls (List.map eI x_1))), (1, (dI target_2)), (4, (dI 0)), (5, .d (.b false)), (6, (dI (((x_1).length : Int)))), (7, (dI s.1)), (8, (dI s.2))], [])) (((((x_1).length : Int)) - 0 : Int).toNat + 1) (0, (((x_1).length : Int))) h (fun s => rfl) (Wk.mk2 [] 0 rfl rfl (by decide) rfl trivial ⟨rr, rr, rr, rr, rr, rr, rr, trivial⟩) ?_
  clear h
  rintro n_9 ⟨i_7, j_8⟩ h
  replace h : M230 x_1 target_2 (n_9 + 1) i_7 j_8 = some i_10 := h
  rw [M230] at h
  refine Tr.seq ?_
  refine sg ?_
  conv=>whnf
  refine Tr.cond ?_
  conv=>whnf
  refine cB h (fun hb13 h => ?_) (fun hb13 h => ?_)
  ·refine Tr.skip ?_
   conv=>whnf
   refine Tr.block ?_
   refine sg ?_
   conv=>whnf
   refine arS_raw ?_
   conv=>whnf
   refine arS_raw ?_
   conv=>whnf
   refine nnS_mk (by decide) ?_
   conv=>whnf
   refine arS_raw ?_
   conv=>whnf
   refine sg ?_
   conv=>whnf
   obtain ⟨x_14, hx_14, h⟩ := bS h
   refine ixP_of hx_14 ?_
   conv=>whnf
   obtain ⟨r_15, hc16, h⟩ := bS h
   refine PC.ecall (P146 x_14 target_2 r_15 hc16) (fun rs hrs => ?_)
   subst hrs
   conv=>whnf
   refine Tr.cond ?_
   conv=>whnf
   refine cB h (fun hb17 h => ?_) (fun hb17 h => ?_)
   ·refine rg ?_
    conv=>whnf
    refine arS_raw ?_
    conv=>whnf
    refine ⟨((w64 ((w64 (shrK .u64 (IntKind.wrap .u64 (w64 (i_7 + j_8))) 1)) + 1)), j_8), h, ?_⟩
    exact Wk.mk2 [] 0 rfl rfl (by decide) rfl trivial ⟨rr, rr, rr, rr, rr, rr, rr, trivial⟩
   refine rg ?_
   conv=>whnf
   refine ⟨(i_7, (w64 (shrK .u64 (IntKind.wrap .u64 (w64 (i_7 + j_8))) 1))), h, ?_⟩
   exact Wk.mk2 [] 0 rfl rfl (by decide) rfl trivial ⟨rr, rr, rr, rr, rr, rr, rr, trivial⟩
  refine Tr.exit ?_
  conv=>whnf
  cases h
  exact Wk.mk2 [] 0 rfl rfl (by decide) rfl trivial ⟨rr, rr, rr, rr, rr, rr, trivial⟩
 clear hv18
 conv=>whnf
 refine Tr.weak hw ?_
 refine Tr.seq ?_
 obtain ⟨v_19, hv20, h⟩ := bS h
 refine Tr.cutQ1 ([(4, (dI i_10)), (5, .d (.b v_19))]) ([]) ?_ (fun T1 H1 hw => ?_)
 ·replace h := hv20; clear hv20
  refine rg ?_
  conv=>whnf
  refine cB h (fun hb21 h => ?_) (fun hb21 h => ?_)
  ·conv=>whnf
   obtain ⟨x_22, hx_22, h⟩ := bS h
   refine ixP_of hx_22 ?_
   conv=>whnf
   refine cB h (fun hb23 h => ?_) (fun hb23 h => ?_)
   ·conv=>whnf
    cases h
    exact Wk.mk2 [] 0 rfl rfl (by decide) rfl trivial ⟨rr, rr, trivial⟩
   conv=>whnf
   obtain ⟨x_24, hx_24, h⟩ := bS h
   refine ixP_of hx_24 ?_
   conv=>whnf
   obtain ⟨r_25, hc26, h⟩ := bS h
   refine PC.ecall (P229 x_24 r_25 hc26) (fun rs hrs => ?_)
   subst hrs
   conv=>whnf
   refine cB h (fun hb27 h => ?_) (fun hb27 h => ?_)
   ·conv=>whnf
    obtain ⟨r_28, hc29, h⟩ := bS h
    refine PC.ecall (P229 target_2 r_28 hc29) (fun rs hrs => ?_)
    subst hrs
    conv=>whnf
    cases h
    exact Wk.mk2 [] 0 rfl rfl (by decide) rfl trivial ⟨rr, rr, trivial⟩
   conv=>whnf
   cases h
   exact Wk.mk2 [] 0 rfl rfl (by decide) rfl trivial ⟨rr, rr, trivial⟩
  conv=>whnf
  cases h
  exact Wk.mk2 [] 0 rfl rfl (by decide) rfl trivial ⟨rr, rr, trivial⟩
 clear hv20
 conv=>whnf
 refine Tr.weak hw ?_
 refine Tr.ret ?_
 conv=>whnf
 cases h
 rfl
theorem P234 (a_1 : List TSpan) (by_2 : Int) (r_3 : List TSpan) (r_4 : Int) (h : M234 a_1 by_2 = some (r_3, r_4)) :
    PC prog 65 [(.ls (List.map eTSpan a_1)), (.i .i64 by_2)] (fun rs => rs = [(.ls (List.map eTSpan r_3)), (.i .i64 r_4)]) := by
 refine PC.of_tr (cx := ⟨53, none, lay, 0⟩) layOK func65 rfl rfl rfl rfl rfl (by simp [f65]) ?_
 unfold M234 at h
 refine sg ?_
 conv=>whnf
 refine Tr.seq ?_
 refine sg ?_
 conv=>whnf
 refine orB_r ?_
 conv=>whnf
 obtain ⟨r_5, hc6, h⟩ := bS h
 refine PC.ecall (P71 ((([a_1] : List (List TSpan)))) r_5 hc6) (fun rs hrs => ?_)
 subst hrs
 conv=>whnf
 refine sg ?_
 conv=>whnf
 refine cB h (fun hb7 h => ?_) (fun hb7 h => ?_)
 ·conv=>whnf
  refine Tr.cond ?_
  conv=>whnf
  refine sg ?_
  conv=>whnf
  refine Tr.ret ?_
  conv=>whnf
  cases h
  rfl
 conv=>whnf
 refine lnS_map ?_
 conv=>whnf
 refine Tr.cond ?_
 conv=>whnf
 refine cB h (fun hb8 h => ?_) (fun hb8 h => ?_)
 ·refine sg ?_
  conv=>whnf
  refine Tr.ret ?_
  conv=>whnf
  cases h
  rfl
 refine Tr.skip ?_
 conv=>whnf
 refine Tr.seq ?_
 refine sg ?_
 conv=>whnf
 refine cB h (fun hb9 h => ?_) (fun hb9 h => ?_)
 ·conv=>whnf
  refine Tr.cond ?_
  conv=>whnf
  refine sg ?_
  conv=>whnf
  refine Tr.ret ?_
  conv=>whnf
  cases h
  rfl
 conv=>whnf
 refine Tr.cond ?_
 conv=>whnf
 refine cB h (fun hb10 h => ?_) (fun hb10 h => ?_)
 ·refine sg ?_
  conv=>whnf
  refine Tr.ret ?_
  conv=>whnf
  cases h
  rfl
 refine Tr.skip ?_
 conv=>whnf
 refine Tr.seq ?_
 refine sg ?_
 conv=>whnf
 obtain ⟨r_11, hc12, h⟩ := bS h
 refine PC.ecall (P126 a_1 r_11 hc12) (fun rs hrs => ?_)
 subst hrs
 conv=>whnf
 refine lnS_map ?_
 conv=>whnf
 refine Tr.cutQ (α := Int × List TSpan) (fun s => ([(4, .sl 0 2 0 (List.length s.2)), (5, (dI s.1))], [some (.arr 2 (List.map .d (List.map eTSpan s.2)))])) (fun s => M233 s.1 s.2 = some (r_3, r_4)) ?_ ?_
 ·refine Tr.block ?_
  refine Tr.loopM (σ := Int × Int × List TSpan) (fun n s => M232 by_2 r_11 M233 n s.1 s.2.1 s.2.2) (r_3, r_4) (fun s => ([(1, (dI by_2)), (4, .sl 0 2 0 (List.length s.2.2)), (5, (dI s.1)), (26, .d (.ls (List.map eTSpan r_11))), (27, (dI (((r_11).length : Int)))), (28, (dI s.2.1))], [some (.arr 2 (List.map .d (List.map eTSpan s.2.2)))])) (((((r_11).length : Int)) - 0 : Int).toNat + 1) (r_5, 0, (([] : List TSpan))) h (fun s => rfl) (Wk.mk2 [0] 0 rfl rfl (by decide) rfl ⟨rfl, trivial⟩ ⟨rr, ⟨rfl, (by first | rfl | (simp only [↓hb7, ↓hb8, ↓hb9, ↓hb10, bl]; done) | (simp only [↓hb7, ↓hb8, ↓hb9, ↓hb10, bl]; rfl))⟩, rr, rr, rr, rr, trivial⟩) ?_
  clear h
  rintro n_19 ⟨e_16, v_17, l_18⟩ h
  replace h : M232 by_2 r_11 M233 (n_19 + 1) e_16 v_17 l_18 = some (r_3, r_4) := h
  rw [M232] at h
  refine sg ?_
  conv=>whnf
  refine Tr.seq ?_
  refine Tr.cond ?_
  conv=>whnf
  refine cB h (fun hb24 h => ?_) (fun hb24 h => ?_)
  ·refine Tr.skip ?_
   conv=>whnf
   refine Tr.seq ?_
   refine Tr.block ?_
   refine sg ?_
   conv=>whnf
   obtain ⟨x_25, hx_25, h⟩ := bS h
   refine ixP_of hx_25 ?_
   conv=>whnf
   refine sg ?_
   conv=>whnf
   refine arS_raw ?_
   conv=>whnf
   refine arS_raw ?_
   conv=>whnf
   refine Tr.seq ?_
   refine sg ?_
   conv=>whnf
   obtain ⟨r_26, hc27, h⟩ := bS h
   refine PC.ecall (P63 (({ Lo := (w64 (x_25.Lo + by_2)), Hi := (w64 (x_25.Hi + by_2)) } : TSpan)) r_26 hc27) (fun rs hrs => ?_)
   subst hrs
   conv=>whnf
   refine sg ?_
   conv=>whnf
   refine Tr.cond ?_
   conv=>whnf
   refine cB h (fun hb28 h => ?_) (fun hb28 h => ?_)
   ·refine sg ?_
    conv=>whnf
    refine Tr.ret ?_
    conv=>whnf
    cases h
    rfl
   refine Tr.skip ?_
   conv=>whnf
   refine rg ?_
   conv=>whnf
   refine orB_r ?_
   conv=>whnf
   refine frP_no ?_
   conv=>whnf
   refine eqS_mk (by first | rfl | simp) ?_
   conv=>whnf
   obtain ⟨l_29, hl_29, h⟩ := bS h
   refine apS_of hl_29 (aQ (f := eTSpan) (l := (([({ Lo := (w64 (x_25.Lo + by_2)), Hi := (w64 (x_25.Hi + by_2)) } : TSpan)] : List TSpan))) fun _ => rfl) (by first | rfl | simp) (by first | rfl | simp) (fun he => ?_)
   conv=>whnf
   refine rS (es' := List.map .d (List.map eTSpan l_29)) (n' := List.length l_29) (by subst he; simp only [List.map_append, List.map_cons, List.map_nil, List.nil_append]; first | done | rfl) (by subst he; simp <;> omega) ?_
   clear he
   conv=>whnf
   refine rg ?_
   conv=>whnf
   refine arS_raw ?_
   conv=>whnf
   refine ⟨(r_26, (w64 (v_17 + 1)), l_29), h, ?_⟩
   exact Wk.mk2 [2] 3 rfl rfl (by decide) rfl ⟨daS_d rfl, trivial⟩ ⟨rr, ⟨rfl, (by first | rfl | (simp only [↓hb7, ↓hb8, ↓hb9, ↓hb10, ↓hb24, ↓hb28, bl]; done) | (simp only [↓hb7, ↓hb8, ↓hb9, ↓hb10, ↓hb24, ↓hb28, bl]; rfl))⟩, rr, rr, rr, rr, trivial⟩
  refine Tr.exit ?_
  conv=>whnf
  refine ⟨(e_16, l_18), h, ?_⟩
  exact Wk.mk2 [0] 1 rfl rfl (by decide) rfl ⟨daS_d rfl, trivial⟩ ⟨rr, rr, trivial⟩
 clear h
 rintro ⟨e_20, l_21⟩ h T1 H1 hw
 replace h : M233 e_20 l_21 = some (r_3, r_4) := h
 conv=>whnf
 refine Tr.weak hw ?_
 unfold M233 at h
 refine sg ?_
 conv=>whnf
 refine Tr.ret ?_
 conv=>whnf
 refine frE_of (f := eTSpan) (l := l_21) rfl ?_
 conv=>whnf
 cases h
 rfl
theorem P239 (l_1 : List TTotal) (bibs_2 : List Int) (amounts_3 : List Int) (r_4 : List TTotal) (r_5 : Int) (h : M239 l_1 bibs_2 amounts_3 = some (r_4, r_5)) :
    PC prog 27 [(.ls (List.map eTTotal l_1)), (.ls (List.map eI bibs_2)), (.ls (List.map eI amounts_3))] (fun rs => rs = [(.ls (List.map eTTotal r_4)), (.i .i64 r_5)]) := by
 refine PC.of_tr (cx := ⟨93, none, lay, 0⟩) layOK func27 rfl rfl rfl rfl rfl (by simp [f27]) ?_
 unfold M239 at h
 refine sg ?_
 conv=>whnf
 refine Tr.seq ?_
 refine sg ?_
 conv=>whnf
 obtain ⟨r_6, hc7, h⟩ := bS h
 refine PC.ecall (P202 l_1 r_6 hc7) (fun rs hrs => ?_)
 subst hrs
 conv=>whnf
 refine Tr.cond ?_
 conv=>whnf
 refine cB h (fun hb8 h => ?_) (fun hb8 h => ?_)
 ·refine sg ?_
  conv=>whnf
  refine Tr.ret ?_
  conv=>whnf
  cases h
  rfl
 refine Tr.skip ?_
 conv=>whnf
 refine Tr.seq ?_
 refine sg ?_
 conv=>whnf
 refine lnS_map ?_
 conv=>whnf
 refine lnS_map ?_
 conv=>whnf
 refine Tr.cond ?_
 conv=>whnf
 refine cB h (fun hb9 h => ?_) (fun hb9 h => ?_)
 ·refine sg ?_
  conv=>whnf
  refine Tr.ret ?_
  conv=>whnf
  cases h
  rfl
 refine Tr.skip ?_
 conv=>whnf
 refine Tr.seq ?_
 refine sg ?_
 conv=>whnf
 refine lnS_map ?_
 conv=>whnf
 refine Tr.cutQ (α := Unit) (fun s => ([(0, .d (.ls (List.map eTTotal l_1))), (1, .d (.ls (List.map eI bibs_2))), (2, .d (.ls (List.map eI amounts_3))), (6, .nsl), (7, (dI 0))], [])) (fun s => M238 l_1 bibs_2 amounts_3 s = some (r_4, r_5)) ?_ ?_
 ·refine Tr.block ?_
  refine Tr.loopM (σ := Int) (fun n s => M235 bibs_2 amounts_3 (M238 l_1 bibs_2 amounts_3) n s) (r_4, r_5) (fun s => ([(0, .d (.ls (List.map eTTotal l_1))), (1, .d (.ls (List.map eI bibs_2))), (2, .d (.ls (List.map eI amounts_3))), (6, .nsl), (7, (dI 0)), (22, .d (.ls (List.map eI bibs_2))), (23, (dI (((bibs_2).length : Int)))), (24, (dI s))], [])) (((((bibs_2).length : Int)) - 0 : Int).toNat + 1) (0) h (fun s => rfl) (Wk.mk2 [] 0 rfl rfl (by decide) rfl trivial ⟨rr, rr, rr, rr, rr, rr, rr, rr, trivial⟩) ?_
  clear h
  rintro n_12 v_11 h
  replace h : M235 bibs_2 amounts_3 (M238 l_1 bibs_2 amounts_3) (n_12 + 1) v_11 = some (r_4, r_5) := h
  rw [M235] at h
  refine sg ?_
  conv=>whnf
  refine Tr.seq ?_
  refine Tr.cond ?_
  conv=>whnf
  refine cB h (fun hb15 h => ?_) (fun hb15 h => ?_)
  ·refine Tr.skip ?_
   conv=>whnf
   refine Tr.seq ?_
   refine Tr.block ?_
   refine sg ?_
   conv=>whnf
   obtain ⟨x_16, hx_16, h⟩ := bS h
   refine ixP_of hx_16 ?_
   conv=>whnf
   refine Tr.seq ?_
   obtain ⟨v_17, hv18, h⟩ := bS h
   refine Tr.cutQ1 ([(0, .d (.ls (List.map eTTotal l_1))), (1, .d (.ls (List.map eI bibs_2))), (2, .d (.ls (List.map eI amounts_3))), (6, .nsl), (7, (dI 0)), (22, .d (.ls (List.map eI bibs_2))), (23, (dI (((bibs_2).length : Int)))), (24, (dI v_11)), (53, .d (.b v_17))]) ([]) ?_ (fun T1 H1 hw => ?_)
   ·replace h := hv18; clear hv18
    refine rg ?_
    conv=>whnf
    refine cB h (fun hb19 h => ?_) (fun hb19 h => ?_)
    ·conv=>whnf
     refine arS_raw ?_
     conv=>whnf
     obtain ⟨x_20, hx_20, h⟩ := bS h
     refine ixP_of hx_20 ?_
     conv=>whnf
     refine cB h (fun hb21 h => ?_) (fun hb21 h => ?_)
     ·conv=>whnf
      cases h
      exact Wk.mk2 [] 0 rfl rfl (by decide) rfl trivial ⟨rr, rr, rr, rr, rr, rr, rr, rr, rr, trivial⟩
     conv=>whnf
     obtain ⟨x_22, hx_22, h⟩ := bS h
     refine ixP_of hx_22 ?_
     conv=>whnf
     refine cB h (fun hb23 h => ?_) (fun hb23 h => ?_)
     ·conv=>whnf
      cases h
      exact Wk.mk2 [] 0 rfl rfl (by decide) rfl trivial ⟨rr, rr, rr, rr, rr, rr, rr, rr, rr, trivial⟩
     conv=>whnf
     obtain ⟨x_24, hx_24, h⟩ := bS h
     refine ixP_of hx_24 ?_
     conv=>whnf
     cases h
     exact Wk.mk2 [] 0 rfl rfl (by decide) rfl trivial ⟨rr, rr, rr, rr, rr, rr, rr, rr, rr, trivial⟩
    conv=>whnf
    obtain ⟨x_25, hx_25, h⟩ := bS h
    refine ixP_of hx_25 ?_
    conv=>whnf
    refine cB h (fun hb26 h => ?_) (fun hb26 h => ?_)
    ·conv=>whnf
     cases h
     exact Wk.mk2 [] 0 rfl rfl (by decide) rfl trivial ⟨rr, rr, rr, rr, rr, rr, rr, rr, rr, trivial⟩
    conv=>whnf
    obtain ⟨x_27, hx_27, h⟩ := bS h
    refine ixP_of hx_27 ?_
    conv=>whnf
    cases h
    exact Wk.mk2 [] 0 rfl rfl (by decide) rfl trivial ⟨rr, rr, rr, rr, rr, rr, rr, rr, rr, trivial⟩
   clear hv18
   conv=>whnf
   refine Tr.weak hw ?_
   refine Tr.cond ?_
   conv=>whnf
   refine cB h (fun hb28 h => ?_) (fun hb28 h => ?_)
   ·refine sg ?_
    conv=>whnf
    refine Tr.ret ?_
    conv=>whnf
    cases h
    rfl
   refine Tr.skip ?_
   conv=>whnf
   refine rg ?_
   conv=>whnf
   refine arS_raw ?_
   conv=>whnf
   refine ⟨((w64 (v_11 + 1))), h, ?_⟩
   exact Wk.mk2 [] 0 rfl rfl (by decide) rfl trivial ⟨rr, rr, rr, rr, rr, rr, rr, rr, trivial⟩
  refine Tr.exit ?_
  conv=>whnf
  refine ⟨(), h, ?_⟩
  exact Wk.mk2 [] 0 rfl rfl (by decide) rfl trivial ⟨rr, rr, rr, rr, rr, trivial⟩
 clear h
 rintro _ h T1 H1 hw
 replace h : M238 l_1 bibs_2 amounts_3 () = some (r_4, r_5) := h
 conv=>whnf
 refine Tr.weak hw ?_
 unfold M238 at h
 refine Tr.seq ?_
 obtain ⟨l_29, hv30, h⟩ := bS h
 refine Tr.cutQ1 ([(1, .d (.ls (List.map eI bibs_2))), (2, .d (.ls (List.map eI amounts_3))), (6, .sl 0 3 0 (List.length l_29)), (7, (dI 0))]) ([some (.arr 3 (List.map .d (List.map eTTotal l_29)))]) ?_ (fun T1 H1 hw => ?_)
 ·replace h := hv30; clear hv30
  refine rg ?_
  conv=>whnf
  refine ECall.of_tr (cx := ⟨8, none, lay, 0⟩) layOK func63 rfl rfl rfl rfl rfl (by simp [f63]) ?_
  refine sg ?_
  conv=>whnf
  refine Tr.seq ?_
  refine sg ?_
  conv=>whnf
  intro nb_31 hnb_31
  cases nb_31
  ·conv=>whnf
   refine Tr.cond ?_
   conv=>whnf
   refine Tr.skip ?_
   conv=>whnf
   refine sg ?_
   conv=>whnf
   refine orB_l ?_
   conv=>whnf
   refine frP_no ?_
   conv=>whnf
   refine eqS_mk (by first | rfl | simp) ?_
   conv=>whnf
   obtain ⟨l_32, hl_32, h⟩ := bS h
   refine apS_of hl_32 (aQ (f := eTTotal) (l := l_1) fun _ => rfl) (by first | rfl | simp) (by first | rfl | simp) (fun he => ?_)
   conv=>whnf
   refine rS (es' := List.map .d (List.map eTTotal l_32)) (n' := List.length l_32) (by subst he; simp only [List.map_append, List.map_cons, List.map_nil, List.nil_append]; first | done | rfl) (by subst he; simp <;> omega) ?_
   clear he
   conv=>whnf
   refine Tr.ret ?_
   conv=>whnf
   cases h
   exact Wk.mk2 [1] 2 rfl rfl (by decide) rfl ⟨daS_d rfl, trivial⟩ ⟨rr, rr, ⟨rfl, (by first | rfl | (simp only [↓hb8, ↓hb9, bl]; done) | (simp only [↓hb8, ↓hb9, bl]; rfl))⟩, rr, trivial⟩
  replace hnb_31 : l_1 = [] := by simpa using hnb_31 rfl
  subst hnb_31
  replace h : some (([] : List TTotal)) = some l_29 := by simpa [app] using h
  conv=>whnf
  refine Tr.cond ?_
  conv=>whnf
  refine sg ?_
  conv=>whnf
  refine Tr.ret ?_
  conv=>whnf
  cases h
  exact Wk.mk2 [0] 0 rfl rfl (by decide) rfl ⟨rfl, trivial⟩ ⟨rr, rr, ⟨rfl, (by first | rfl | (simp only [↓hb8, ↓hb9, bl]; done) | (simp only [↓hb8, ↓hb9, bl]; rfl))⟩, rr, trivial⟩
 clear hv30
 conv=>whnf
 refine Tr.weak hw ?_
 refine Tr.seq ?_
 refine sg ?_
 conv=>whnf
 refine lnS_mk rfl ?_
 conv=>whnf
 refine Tr.cutQ (α := Int × List TTotal) (fun s => ([(6, .sl 0 3 0 (List.length s.2)), (7, (dI s.1))], [some (.arr 3 (List.map .d (List.map eTTotal s.2)))])) (fun s => M237 s.1 s.2 = some (r_4, r_5)) ?_ ?_
 ·refine Tr.block ?_
  refine Tr.loopM (σ := Int × Int × List TTotal) (fun n s => M236 bibs_2 amounts_3 l_29 M237 n s.1 s.2.1 s.2.2) (r_4, r_5) (fun s => ([(1, .d (.ls (List.map eI bibs_2))), (2, .d (.ls (List.map eI amounts_3))), (6, .sl 0 3 0 (List.length s.2.2)), (7, (dI s.1)), (57, .sl 0 3 0 (List.length s.2.2)), (58, (dI (((l_29).length : Int)))), (59, (dI s.2.1))], [some (.arr 3 (List.map .d (List.map eTTotal s.2.2)))])) (((((l_29).length : Int)) - 0 : Int).toNat + 1) (0, 0, l_29) h (fun s => rfl) (Wk.mk2 [0] 1 rfl rfl (by decide) rfl ⟨daS_d rfl, trivial⟩ ⟨rr, rr, rr, rr, rr, rr, rr, trivial⟩) ?_
  clear h
  rintro n_39 ⟨e_36, v_37, l_38⟩ h
  replace h : M236 bibs_2 amounts_3 l_29 M237 (n_39 + 1) e_36 v_37 l_38 = some (r_4, r_5) := h
  rw [M236] at h
  refine sg ?_
  conv=>whnf
  refine Tr.seq ?_
  refine Tr.cond ?_
  conv=>whnf
  refine cB h (fun hb44 h => ?_) (fun hb44 h => ?_)
  ·refine Tr.skip ?_
   conv=>whnf
   refine Tr.seq ?_
   refine Tr.block ?_
   refine sg ?_
   conv=>whnf
   obtain ⟨x_45, hx_45, h⟩ := bS h
   refine ixS_of hx_45 rfl ?_
   conv=>whnf
   refine elP_of hx_45 ?_
   conv=>whnf
   refine sg ?_
   conv=>whnf
   obtain ⟨⟨r_46, r_47⟩, hc48, h⟩ := bS h
   refine PC.ecall (P231 bibs_2 x_45.Bib r_46 r_47 hc48) (fun rs hrs => ?_)
   subst hrs
   conv=>whnf
   refine Tr.seq ?_
   refine sg ?_
   conv=>whnf
   refine Tr.cond ?_
   conv=>whnf
   refine cB h (fun hb49 h => ?_) (fun hb49 h => ?_)
   ·refine Tr.exit ?_
    conv=>whnf
    refine rg ?_
    conv=>whnf
    refine arS_raw ?_
    conv=>whnf
    refine ⟨(e_36, (w64 (v_37 + 1)), l_38), h, ?_⟩
    exact Wk.mk2 [0] 2 rfl rfl (by decide) rfl ⟨daS_d rfl, trivial⟩ ⟨rr, rr, rr, rr, rr, rr, rr, trivial⟩
   refine Tr.skip ?_
   conv=>whnf
   refine sd [(15,0)] [(0,1),(1,1),(2,4),(3,4),(4,1),(5,1),(6,2),(7,2),(8,1),(9,1),(10,1),(11,1),(12,1),(13,3),(14,3),(15,0),(16,1)] ?_
   conv=>whnf
   refine q1 ?_
   conv=>whnf
   refine q1 ?_
   conv=>whnf
   refine q2 ?_
   conv=>whnf
   refine q2 ?_
   conv=>whnf
   refine q1 ?_
   conv=>whnf
   refine q1 ?_
   conv=>whnf
   obtain ⟨x_50, hx_50, h⟩ := bS h
   refine q3 (ixP_of hx_50 rr) ?_
   conv=>whnf
   refine q2 ?_
   conv=>whnf
   refine q4 ?_
   conv=>whnf
   obtain ⟨⟨r_51, r_52⟩, hc53, h⟩ := bS h
   refine q1 ?_ (fun _ => pe (P234 x_45.Sums ((w64 (0 - x_50))) r_51 r_52 hc53) rr)
   conv=>whnf
   refine q1 ?_
   conv=>whnf
   refine q1 ?_
   conv=>whnf
   refine q1 ?_
   conv=>whnf
   obtain ⟨x_54, hx_54, h⟩ := bS h
   refine q3 (ixS_of hx_54 rfl rr) ?_
   conv=>whnf
   refine q2 ?_
   conv=>whnf
   refine ⟨_, _, (by (conv=>whnf); (refine elP_of hx_54 ?_); (conv=>whnf); (refine lvS_mk (es' := List.map .d (List.map eTTotal (List.set l_38 (Int.toNat v_37) ({ Bib := x_54.Bib, Sums := r_51, Out := x_54.Out } : TTotal)))) (by simp only [Nat.zero_add, List.map_set]; first | done | rfl) ?_); (conv=>whnf); (exact rr)), kp_ok (by repeat (first | exact trivial | refine ⟨trivial, ?_⟩ | refine ⟨rfl, ?_⟩)), ?_⟩
   conv=>whnf
   refine q1 ?_
   conv=>whnf
   refine sg ?_
   conv=>whnf
   refine Tr.cond ?_
   conv=>whnf
   refine cB h (fun hb55 h => ?_) (fun hb55 h => ?_)
   ·refine sg ?_
    conv=>whnf
    refine Tr.ret ?_
    conv=>whnf
    cases h
    rfl
   refine Tr.skip ?_
   conv=>whnf
   refine rg ?_
   conv=>whnf
   refine arS_raw ?_
   conv=>whnf
   refine ⟨(r_52, (w64 (v_37 + 1)), (List.set l_38 (Int.toNat v_37) ({ Bib := x_54.Bib, Sums := r_51, Out := x_54.Out } : TTotal))), h, ?_⟩
   exact Wk.mk2 [0] 2 rfl rfl (by decide) rfl ⟨daS_d rfl, trivial⟩ ⟨rr, rr, ⟨rfl, (slEq (by first | rfl | simp))⟩, rr, ⟨rfl, (slEq (by first | rfl | simp))⟩, rr, rr, trivial⟩
  refine Tr.exit ?_
  conv=>whnf
  refine ⟨(e_36, l_38), h, ?_⟩
  exact Wk.mk2 [0] 1 rfl rfl (by decide) rfl ⟨daS_d rfl, trivial⟩ ⟨rr, rr, trivial⟩
 clear h
 rintro ⟨e_40, l_41⟩ h T1 H1 hw
 replace h : M237 e_40 l_41 = some (r_4, r_5) := h
 conv=>whnf
 refine Tr.weak hw ?_
 unfold M237 at h
 refine sg ?_
 conv=>whnf
 refine Tr.ret ?_
 conv=>whnf
 refine frE_of (f := eTTotal) (l := l_41) rfl ?_
 conv=>whnf
 cases h
 rfl
theorem P242 (a_1 : List TTotal) (b_2 : List TTotal) (r_3 : Bool) (h : M242 a_1 b_2 = some r_3) :
    PC prog 21 [(.ls (List.map eTTotal a_1)), (.ls (List.map eTTotal b_2))] (fun rs => rs = [(.b r_3)]) := by
 refine PC.of_tr (cx := ⟨27, none, lay, 0⟩) layOK func21 rfl rfl rfl rfl rfl (by simp [f21]) ?_
 unfold M242 at h
 refine sg ?_
 conv=>whnf
 refine Tr.seq ?_
 refine sg ?_
 conv=>whnf
 refine lnS_map ?_
 conv=>whnf
 refine lnS_map ?_
 conv=>whnf
 refine Tr.cond ?_
 conv=>whnf
 refine cB h (fun hb4 h => ?_) (fun hb4 h => ?_)
 ·refine sg ?_
  conv=>whnf
  refine Tr.ret ?_
  conv=>whnf
  cases h
  rfl
 refine Tr.skip ?_
 conv=>whnf
 refine Tr.seq ?_
 refine sg ?_
 conv=>whnf
 refine Tr.cutQ (α := Unit) (fun s => ([(4, .d (.b false))], [])) (fun s => M241 s = some r_3) ?_ ?_
 ·refine Tr.block ?_
  refine Tr.loopM (σ := Int) (fun n s => M240 a_1 b_2 M241 n s) r_3 (fun s => ([(0, .d (.ls (List.map eTTotal a_1))), (1, .d (.ls (List.map eTTotal b_2))), (4, .d (.b false)), (5, (dI s))], [])) (((((a_1).length : Int)) - 0 : Int).toNat + 1) (0) h (fun s => rfl) (Wk.mk2 [] 0 rfl rfl (by decide) rfl trivial ⟨rr, rr, rr, rr, trivial⟩) ?_
  clear h
  rintro n_7 i_6 h
  replace h : M240 a_1 b_2 M241 (n_7 + 1) i_6 = some r_3 := h
  rw [M240] at h
  refine Tr.seq ?_
  refine sg ?_
  conv=>whnf
  refine lnS_map ?_
  conv=>whnf
  refine Tr.cond ?_
  conv=>whnf
  refine cB h (fun hb10 h => ?_) (fun hb10 h => ?_)
  ·refine Tr.skip ?_
   conv=>whnf
   refine Tr.seq ?_
   refine Tr.block ?_
   refine sd [] [(0,1),(1,1),(2,2),(3,2),(4,1),(5,1),(6,2),(7,2),(8,1),(9,1)] ?_
   conv=>whnf
   refine q1 ?_
   conv=>whnf
   refine q1 ?_
   conv=>whnf
   obtain ⟨x_11, hx_11, h⟩ := bS h
   refine q3 (ixP_of hx_11 rr) ?_
   conv=>whnf
   refine q2 ?_
   conv=>whnf
   refine q1 ?_
   conv=>whnf
   refine q1 ?_
   conv=>whnf
   obtain ⟨x_12, hx_12, h⟩ := bS h
   refine q3 (ixP_of hx_12 rr) ?_
   conv=>whnf
   refine q2 ?_
   conv=>whnf
   obtain ⟨r_13, hc14, h⟩ := bS h
   refine q1 ?_ (fun _ => pe (P194 x_11 x_12 r_13 hc14) rr)
   conv=>whnf
   refine q1 ?_
   conv=>whnf
   refine Tr.cond ?_
   conv=>whnf
   refine cB h (fun hb15 h => ?_) (fun hb15 h => ?_)
   ·refine sg ?_
    conv=>whnf
    refine Tr.ret ?_
    conv=>whnf
    cases h
    rfl
   refine Tr.skip ?_
   conv=>whnf
   refine rg ?_
   conv=>whnf
   refine arS_raw ?_
   conv=>whnf
   refine ⟨((w64 (i_6 + 1))), h, ?_⟩
   exact Wk.mk2 [] 0 rfl rfl (by decide) rfl trivial ⟨rr, rr, rr, rr, trivial⟩
  refine Tr.exit ?_
  conv=>whnf
  refine ⟨(), h, ?_⟩
  exact Wk.mk2 [] 0 rfl rfl (by decide) rfl trivial ⟨rr, trivial⟩
 clear h
 rintro _ h T1 H1 hw
 replace h : M241 () = some r_3 := h
 conv=>whnf
 refine Tr.weak hw ?_
 unfold M241 at h
 refine sg ?_
 conv=>whnf
 refine Tr.ret ?_
 conv=>whnf
 cases h
 rfl
theorem P243 (r_1 : Bool) (h : M243 = some r_1) :
    PC prog 10 [] (fun rs => rs = [(.b r_1)]) := by
 refine PC.of_tr (cx := ⟨148, none, lay, 0⟩) layOK func10 rfl rfl rfl rfl rfl (by simp [f10]) ?_
 unfold M243 at h
 refine sg ?_
 conv=>whnf
 refine sg ?_
 conv=>whnf
 obtain ⟨r_2, hc3, h⟩ := bS h
 refine PC.ecall (P0 10 11 r_2 hc3) (fun rs hrs => ?_)
 subst hrs
 conv=>whnf
 refine orB_r ?_
 conv=>whnf
 obtain ⟨r_4, hc5, h⟩ := bS h
 refine PC.ecall (P0 12 13 r_4 hc5) (fun rs hrs => ?_)
 subst hrs
 conv=>whnf
 refine orB_r ?_
 conv=>whnf
 obtain ⟨r_6, hc7, h⟩ := bS h
 refine PC.ecall (P1 ((([r_2] : List TOutcome))) ((([r_4] : List TOutcome))) r_6 hc7) (fun rs hrs => ?_)
 subst hrs
 conv=>whnf
 refine sg ?_
 conv=>whnf
 obtain ⟨r_8, hc9, h⟩ := bS h
 refine PC.ecall (P0 5 5 r_8 hc9) (fun rs hrs => ?_)
 subst hrs
 conv=>whnf
 obtain ⟨r_10, hc11, h⟩ := bS h
 refine PC.ecall (P0 9 9 r_10 hc11) (fun rs hrs => ?_)
 subst hrs
 conv=>whnf
 refine orB_r ?_
 conv=>whnf
 refine orB_r ?_
 conv=>whnf
 obtain ⟨r_12, hc13, h⟩ := bS h
 refine PC.ecall (P1 ((([r_8, r_10] : List TOutcome))) ((([({ Out := true, Seg := (-1), Lo := 0, Hi := 0 } : TOutcome)] : List TOutcome))) r_12 hc13) (fun rs hrs => ?_)
 subst hrs
 conv=>whnf
 refine sg ?_
 conv=>whnf
 refine orB_r ?_
 conv=>whnf
 obtain ⟨⟨r_14, r_15⟩, hc16, h⟩ := bS h
 refine PC.ecall (P145 ((([r_6, r_12] : List TField))) 1 r_14 r_15 hc16) (fun rs hrs => ?_)
 subst hrs
 conv=>whnf
 refine sg ?_
 conv=>whnf
 refine orB_r ?_
 conv=>whnf
 obtain ⟨⟨r_17, r_18⟩, hc19, h⟩ := bS h
 refine PC.ecall (P145 ((([r_6, r_12] : List TField))) 2 r_17 r_18 hc19) (fun rs hrs => ?_)
 subst hrs
 conv=>whnf
 refine sg ?_
 conv=>whnf
 refine orB_r ?_
 conv=>whnf
 obtain ⟨⟨r_20, r_21⟩, hc22, h⟩ := bS h
 refine PC.ecall (P145 ((([r_6] : List TField))) 3 r_20 r_21 hc22) (fun rs hrs => ?_)
 subst hrs
 conv=>whnf
 refine sg ?_
 conv=>whnf
 obtain ⟨⟨r_23, r_24⟩, hc25, h⟩ := bS h
 refine PC.ecall_frz ?_ ⟨_, _, func18, rfl, rfl⟩
 conv=>whnf
 refine ⟨_, P190 ((([] : List TField))) r_23 r_24 hc25, fun rs hrs => ?_⟩
 subst hrs
 conv=>whnf
 refine Tr.seq ?_
 refine Tr.seq ?_
 obtain ⟨v_26, hv27, h⟩ := bS h
 refine Tr.cutQ1 ([(0, .d (.b false)), (79, .d (.b v_26))]) ([]) ?_ (fun T1 H1 hw => ?_)
 ·replace h := hv27; clear hv27
  refine rg ?_
  conv=>whnf
  refine cB h (fun hb28 h => ?_) (fun hb28 h => ?_)
  ·conv=>whnf
   cases h
   exact Wk.mk2 [] 5 rfl rfl (by decide) rfl trivial ⟨rr, rr, trivial⟩
  conv=>whnf
  refine cB h (fun hb29 h => ?_) (fun hb29 h => ?_)
  ·conv=>whnf
   cases h
   exact Wk.mk2 [] 5 rfl rfl (by decide) rfl trivial ⟨rr, rr, trivial⟩
  conv=>whnf
  refine cB h (fun hb30 h => ?_) (fun hb30 h => ?_)
  ·conv=>whnf
   cases h
   exact Wk.mk2 [] 5 rfl rfl (by decide) rfl trivial ⟨rr, rr, trivial⟩
  conv=>whnf
  refine cB h (fun hb31 h => ?_) (fun hb31 h => ?_)
  ·conv=>whnf
   cases h
   exact Wk.mk2 [] 5 rfl rfl (by decide) rfl trivial ⟨rr, rr, trivial⟩
  conv=>whnf
  refine orB_r ?_
  conv=>whnf
  obtain ⟨r_32, hc33, h⟩ := bS h
  refine PC.ecall (P194 r_14 (({ Bib := 1, Sums := (([({ Lo := 15, Hi := 16 } : TSpan), ({ Lo := 19, Hi := 20 } : TSpan)] : List TSpan)), Out := false } : TTotal)) r_32 hc33) (fun rs hrs => ?_)
  subst hrs
  conv=>whnf
  refine cB h (fun hb34 h => ?_) (fun hb34 h => ?_)
  ·conv=>whnf
   cases h
   exact Wk.mk2 [] 5 rfl rfl (by decide) rfl trivial ⟨rr, rr, trivial⟩
  conv=>whnf
  obtain ⟨r_35, hc36, h⟩ := bS h
  refine PC.ecall_lend ?_ ⟨_, _, func20, rfl, rfl⟩
  conv=>whnf
  refine ⟨_, P194 r_17 (({ Bib := 2, Sums := (([] : List TSpan)), Out := true } : TTotal)) r_35 hc36, fun rs hrs => ?_⟩
  subst hrs
  refine ⟨rfl, ?_⟩
  conv=>whnf
  cases h
  exact Wk.mk2 [] 5 rfl rfl (by decide) rfl trivial ⟨rr, rr, trivial⟩
 clear hv27
 conv=>whnf
 refine Tr.weak hw ?_
 refine Tr.cond ?_
 conv=>whnf
 refine cB h (fun hb37 h => ?_) (fun hb37 h => ?_)
 ·refine sg ?_
  conv=>whnf
  refine Tr.ret ?_
  conv=>whnf
  cases h
  rfl
 refine Tr.skip ?_
 conv=>whnf
 refine Tr.seq ?_
 refine Tr.seq ?_
 obtain ⟨v_38, hv39, h⟩ := bS h
 refine Tr.cutQ1 ([(0, .d (.b false)), (112, .d (.b v_38))]) ([]) ?_ (fun T1 H1 hw => ?_)
 ·replace h := hv39; clear hv39
  refine rg ?_
  conv=>whnf
  obtain ⟨r_40, hc41, h⟩ := bS h
  refine PC.ecall (P195 1 10 11 false r_40 hc41) (fun rs hrs => ?_)
  subst hrs
  conv=>whnf
  obtain ⟨r_42, hc43, h⟩ := bS h
  refine PC.ecall (P195 2 12 13 false r_42 hc43) (fun rs hrs => ?_)
  subst hrs
  conv=>whnf
  refine orB_r ?_
  conv=>whnf
  refine orB_r ?_
  conv=>whnf
  refine orB_r ?_
  conv=>whnf
  refine orB_r ?_
  conv=>whnf
  obtain ⟨r_44, hc45, h⟩ := bS h
  refine PC.ecall (P228 ((([r_40, r_42] : List TTotal))) ((([1] : List Int))) ((([1] : List Int))) ((([1] : List Int))) r_44 hc45) (fun rs hrs => ?_)
  subst hrs
  conv=>whnf
  refine cB h (fun hb46 h => ?_) (fun hb46 h => ?_)
  ·conv=>whnf
   cases h
   exact Wk.mk2 [] 0 rfl rfl (by decide) rfl trivial ⟨rr, rr, trivial⟩
  conv=>whnf
  obtain ⟨r_47, hc48, h⟩ := bS h
  refine PC.ecall (P195 1 10 12 false r_47 hc48) (fun rs hrs => ?_)
  subst hrs
  conv=>whnf
  obtain ⟨r_49, hc50, h⟩ := bS h
  refine PC.ecall (P195 2 12 13 false r_49 hc50) (fun rs hrs => ?_)
  subst hrs
  conv=>whnf
  refine orB_r ?_
  conv=>whnf
  refine orB_r ?_
  conv=>whnf
  refine orB_r ?_
  conv=>whnf
  refine orB_r ?_
  conv=>whnf
  obtain ⟨r_51, hc52, h⟩ := bS h
  refine PC.ecall (P228 ((([r_47, r_49] : List TTotal))) ((([1, 2] : List Int))) ((([1] : List Int))) ((([1, 2] : List Int))) r_51 hc52) (fun rs hrs => ?_)
  subst hrs
  conv=>whnf
  refine cB h (fun hb53 h => ?_) (fun hb53 h => ?_)
  ·conv=>whnf
   cases h
   exact Wk.mk2 [] 0 rfl rfl (by decide) rfl trivial ⟨rr, rr, trivial⟩
  conv=>whnf
  obtain ⟨r_54, hc55, h⟩ := bS h
  refine PC.ecall (P195 1 10 11 true r_54 hc55) (fun rs hrs => ?_)
  subst hrs
  conv=>whnf
  obtain ⟨r_56, hc57, h⟩ := bS h
  refine PC.ecall (P195 2 12 13 false r_56 hc57) (fun rs hrs => ?_)
  subst hrs
  conv=>whnf
  refine orB_r ?_
  conv=>whnf
  refine orB_r ?_
  conv=>whnf
  refine orB_r ?_
  conv=>whnf
  obtain ⟨r_58, hc59, h⟩ := bS h
  refine PC.ecall_lend ?_ ⟨_, _, func35, rfl, rfl⟩
  conv=>whnf
  refine ⟨_, P228 ((([r_54, r_56] : List TTotal))) ((([1, 2] : List Int))) ((([] : List Int))) ((([1, 2] : List Int))) r_58 hc59, fun rs hrs => ?_⟩
  subst hrs
  refine ⟨rfl, ?_⟩
  conv=>whnf
  refine cB h (fun hb60 h => ?_) (fun hb60 h => ?_)
  ·conv=>whnf
   cases h
   exact Wk.mk2 [] 0 rfl rfl (by decide) rfl trivial ⟨rr, rr, trivial⟩
  conv=>whnf
  refine orB_r ?_
  conv=>whnf
  obtain ⟨r_61, hc62, h⟩ := bS h
  refine PC.ecall_lend ?_ ⟨_, _, func35, rfl, rfl⟩
  conv=>whnf
  refine ⟨_, P228 ((([({ Bib := 1, Sums := (([] : List TSpan)), Out := true } : TTotal)] : List TTotal))) ((([] : List Int))) ((([] : List Int))) ((([] : List Int))) r_61 hc62, fun rs hrs => ?_⟩
  subst hrs
  refine ⟨rfl, ?_⟩
  conv=>whnf
  cases h
  exact Wk.mk2 [] 0 rfl rfl (by decide) rfl trivial ⟨rr, rr, trivial⟩
 clear hv39
 conv=>whnf
 refine Tr.weak hw ?_
 refine Tr.cond ?_
 conv=>whnf
 refine cB h (fun hb63 h => ?_) (fun hb63 h => ?_)
 ·refine sg ?_
  conv=>whnf
  refine Tr.ret ?_
  conv=>whnf
  cases h
  rfl
 refine Tr.skip ?_
 conv=>whnf
 refine sg ?_
 conv=>whnf
 obtain ⟨r_64, hc65, h⟩ := bS h
 refine PC.ecall (P195 1 10 11 false r_64 hc65) (fun rs hrs => ?_)
 subst hrs
 conv=>whnf
 refine orB_r ?_
 conv=>whnf
 obtain ⟨⟨r_66, r_67, r_68⟩, hc69, h⟩ := bS h
 refine PC.ecall (P224 ((([r_64] : List TTotal))) 0 r_66 r_67 r_68 hc69) (fun rs hrs => ?_)
 subst hrs
 conv=>whnf
 refine sg ?_
 conv=>whnf
 obtain ⟨r_70, hc71, h⟩ := bS h
 refine PC.ecall (P195 1 15 16 false r_70 hc71) (fun rs hrs => ?_)
 subst hrs
 conv=>whnf
 refine orB_r ?_
 conv=>whnf
 refine orB_r ?_
 conv=>whnf
 refine orB_r ?_
 conv=>whnf
 obtain ⟨⟨r_72, r_73⟩, hc74, h⟩ := bS h
 refine PC.ecall (P239 ((([r_70] : List TTotal))) ((([1] : List Int))) ((([5] : List Int))) r_72 r_73 hc74) (fun rs hrs => ?_)
 subst hrs
 conv=>whnf
 refine Tr.seq ?_
 obtain ⟨v_75, hv76, h⟩ := bS h
 refine Tr.cutQ1 ([(0, .d (.b v_75))]) ([]) ?_ (fun T1 H1 hw => ?_)
 ·replace h := hv76; clear hv76
  refine rg ?_
  conv=>whnf
  refine lnS_map ?_
  conv=>whnf
  refine lnS_map ?_
  conv=>whnf
  refine arS_raw ?_
  conv=>whnf
  refine cB h (fun hb77 h => ?_) (fun hb77 h => ?_)
  ·conv=>whnf
   refine cB h (fun hb78 h => ?_) (fun hb78 h => ?_)
   ·conv=>whnf
    refine cB h (fun hb79 h => ?_) (fun hb79 h => ?_)
    ·conv=>whnf
     obtain ⟨r_80, hc81, h⟩ := bS h
     refine PC.ecall (P195 1 10 11 false r_80 hc81) (fun rs hrs => ?_)
     subst hrs
     conv=>whnf
     refine orB_r ?_
     conv=>whnf
     obtain ⟨r_82, hc83, h⟩ := bS h
     refine PC.ecall (P242 r_72 ((([r_80] : List TTotal))) r_82 hc83) (fun rs hrs => ?_)
     subst hrs
     conv=>whnf
     cases h
     exact Wk.mk2 [] 0 rfl rfl (by decide) rfl trivial ⟨rr, trivial⟩
    conv=>whnf
    cases h
    exact Wk.mk2 [] 0 rfl rfl (by decide) rfl trivial ⟨rr, trivial⟩
   conv=>whnf
   cases h
   exact Wk.mk2 [] 0 rfl rfl (by decide) rfl trivial ⟨rr, trivial⟩
  conv=>whnf
  cases h
  exact Wk.mk2 [] 0 rfl rfl (by decide) rfl trivial ⟨rr, trivial⟩
 clear hv76
 conv=>whnf
 refine Tr.weak hw ?_
 refine Tr.ret ?_
 conv=>whnf
 cases h
 rfl
theorem P246 (k_1 : TClocks) (r_2 : Bool) (h : M246 k_1 = some r_2) :
    PC prog 68 [(eTClocks k_1)] (fun rs => rs = [(.b r_2)]) := by
 refine PC.of_tr (cx := ⟨28, none, lay, 0⟩) layOK func68 rfl rfl rfl rfl rfl (by simp [f68]) ?_
 unfold M246 at h
 refine sg ?_
 conv=>whnf
 refine Tr.seq ?_
 refine sg ?_
 conv=>whnf
 refine lnS_map ?_
 conv=>whnf
 refine cB h (fun hb3 h => ?_) (fun hb3 h => ?_)
 ·conv=>whnf
  refine Tr.cond ?_
  conv=>whnf
  refine sg ?_
  conv=>whnf
  refine Tr.ret ?_
  conv=>whnf
  cases h
  rfl
 conv=>whnf
 refine lnS_map ?_
 conv=>whnf
 refine Tr.cond ?_
 conv=>whnf
 refine cB h (fun hb4 h => ?_) (fun hb4 h => ?_)
 ·refine sg ?_
  conv=>whnf
  refine Tr.ret ?_
  conv=>whnf
  cases h
  rfl
 refine Tr.skip ?_
 conv=>whnf
 refine Tr.seq ?_
 refine sg ?_
 conv=>whnf
 refine Tr.cutQ (α := Unit) (fun s => ([(2, .d (.b false))], [])) (fun s => M245 s = some r_2) ?_ ?_
 ·refine Tr.block ?_
  refine Tr.loopM (σ := Int) (fun n s => M244 k_1 M245 n s) r_2 (fun s => ([(1, .pt 0 0), (2, .d (.b false)), (3, (dI s))], [some (.var [.d (.ls (List.map eTSegment k_1.Segments)), .d (.ls (List.map (eL eI) k_1.Far))])])) (((((k_1.Far).length : Int)) - 0 : Int).toNat + 1) (0) h (fun s => rfl) (Wk.mk2 [0] 1 rfl rfl (by decide) rfl ⟨rr, trivial⟩ ⟨rr, rr, rr, trivial⟩) ?_
  clear h
  rintro n_7 i_6 h
  replace h : M244 k_1 M245 (n_7 + 1) i_6 = some r_2 := h
  rw [M244] at h
  refine Tr.seq ?_
  refine sg ?_
  conv=>whnf
  refine lnS_map ?_
  conv=>whnf
  refine Tr.cond ?_
  conv=>whnf
  refine cB h (fun hb10 h => ?_) (fun hb10 h => ?_)
  ·refine Tr.skip ?_
   conv=>whnf
   refine Tr.seq ?_
   refine Tr.block ?_
   refine sg ?_
   conv=>whnf
   obtain ⟨x_11, hx_11, h⟩ := bS h
   refine ixP_of hx_11 ?_
   conv=>whnf
   refine lnS_map ?_
   conv=>whnf
   refine Tr.cond ?_
   conv=>whnf
   refine cB h (fun hb12 h => ?_) (fun hb12 h => ?_)
   ·refine sg ?_
    conv=>whnf
    refine Tr.ret ?_
    conv=>whnf
    cases h
    rfl
   refine Tr.skip ?_
   conv=>whnf
   refine rg ?_
   conv=>whnf
   refine arS_raw ?_
   conv=>whnf
   refine ⟨((w64 (i_6 + 1))), h, ?_⟩
   exact Wk.mk2 [0] 1 rfl rfl (by decide) rfl ⟨rr, trivial⟩ ⟨rr, rr, rr, trivial⟩
  refine Tr.exit ?_
  conv=>whnf
  refine ⟨(), h, ?_⟩
  exact Wk.mk2 [] 1 rfl rfl (by decide) rfl trivial ⟨rr, trivial⟩
 clear h
 rintro _ h T1 H1 hw
 replace h : M245 () = some r_2 := h
 conv=>whnf
 refine Tr.weak hw ?_
 unfold M245 at h
 refine sg ?_
 conv=>whnf
 refine Tr.ret ?_
 conv=>whnf
 cases h
 rfl
theorem P250 (f_1 : TField) (r_2 : Bool) (h : M250 f_1 = some r_2) :
    PC prog 37 [(eTField f_1)] (fun rs => rs = [(.b r_2)]) := by
 refine PC.of_tr (cx := ⟨62, none, lay, 0⟩) layOK func37 rfl rfl rfl rfl rfl (by simp [f37]) ?_
 unfold M250 at h
 refine sg ?_
 conv=>whnf
 refine sg ?_
 conv=>whnf
 refine Tr.seq ?_
 refine sg ?_
 conv=>whnf
 refine lnS_map ?_
 conv=>whnf
 refine cB h (fun hb3 h => ?_) (fun hb3 h => ?_)
 ·conv=>whnf
  refine Tr.cond ?_
  conv=>whnf
  refine sg ?_
  conv=>whnf
  refine Tr.ret ?_
  conv=>whnf
  cases h
  rfl
 conv=>whnf
 refine lnS_map ?_
 conv=>whnf
 refine cB h (fun hb4 h => ?_) (fun hb4 h => ?_)
 ·conv=>whnf
  refine Tr.cond ?_
  conv=>whnf
  refine sg ?_
  conv=>whnf
  refine Tr.ret ?_
  conv=>whnf
  cases h
  rfl
 conv=>whnf
 obtain ⟨r_5, hc6, h⟩ := bS h
 refine PC.ecall (P246 f_1.Clocks r_5 hc6) (fun rs hrs => ?_)
 subst hrs
 conv=>whnf
 refine Tr.cond ?_
 conv=>whnf
 refine cB h (fun hb7 h => ?_) (fun hb7 h => ?_)
 ·refine sg ?_
  conv=>whnf
  refine Tr.ret ?_
  conv=>whnf
  cases h
  rfl
 refine Tr.skip ?_
 conv=>whnf
 refine Tr.seq ?_
 refine sg ?_
 conv=>whnf
 refine Tr.cutQ (α := Int) (fun s => ([(2, .d (.b false)), (3, (dI s))], [])) (fun s => M249 s = some r_2) ?_ ?_
 ·refine Tr.block ?_
  refine Tr.loopM (σ := Int × Int) (fun n s => M248 f_1 M249 n s.1 s.2) r_2 (fun s => ([(1, .pt 0 0), (2, .d (.b false)), (3, (dI s.1)), (4, (dI s.2))], [some (.var [.d (.ls (List.map eTSegment f_1.Clocks.Segments)), .d (.ls (List.map (eL eI) f_1.Clocks.Far)), .d (.ls (List.map eTPair f_1.Pairs)), .d (.ls (List.map eTRunner f_1.Runners))])])) (((((f_1.Runners).length : Int)) - 0 : Int).toNat + 1) (0, 0) h (fun s => rfl) (Wk.mk2 [0] 1 rfl rfl (by decide) rfl ⟨rr, trivial⟩ ⟨rr, rr, rr, rr, trivial⟩) ?_
  clear h
  rintro n_12 ⟨n_10, i_11⟩ h
  replace h : M248 f_1 M249 (n_12 + 1) n_10 i_11 = some r_2 := h
  rw [M248] at h
  refine Tr.seq ?_
  refine sg ?_
  conv=>whnf
  refine lnS_map ?_
  conv=>whnf
  refine Tr.cond ?_
  conv=>whnf
  refine cB h (fun hb16 h => ?_) (fun hb16 h => ?_)
  ·refine Tr.skip ?_
   conv=>whnf
   refine Tr.seq ?_
   refine Tr.block ?_
   refine sg ?_
   conv=>whnf
   obtain ⟨x_17, hx_17, h⟩ := bS h
   refine ixP_of hx_17 ?_
   conv=>whnf
   refine Tr.seq ?_
   refine sg ?_
   conv=>whnf
   refine lnS_map ?_
   conv=>whnf
   refine cB h (fun hb18 h => ?_) (fun hb18 h => ?_)
   ·conv=>whnf
    refine Tr.cond ?_
    conv=>whnf
    refine sg ?_
    conv=>whnf
    refine Tr.ret ?_
    conv=>whnf
    cases h
    rfl
   conv=>whnf
   refine lnS_map ?_
   conv=>whnf
   refine Tr.cond ?_
   conv=>whnf
   refine cB h (fun hb19 h => ?_) (fun hb19 h => ?_)
   ·refine sg ?_
    conv=>whnf
    refine Tr.ret ?_
    conv=>whnf
    cases h
    rfl
   refine Tr.skip ?_
   conv=>whnf
   refine sg ?_
   conv=>whnf
   obtain ⟨n_25, hv30, h⟩ := bS h
   refine Tr.cutQ1 ([(1, .pt 0 0), (2, .d (.b false)), (3, (dI n_25)), (4, (dI i_11))]) ([some (.var [.d (.ls (List.map eTSegment f_1.Clocks.Segments)), .d (.ls (List.map (eL eI) f_1.Clocks.Far)), .d (.ls (List.map eTPair f_1.Pairs)), .d (.ls (List.map eTRunner f_1.Runners))])]) ?_ (fun T1 H1 hw => ?_)
   ·replace h := hv30; clear hv30
    refine Tr.block ?_
    refine Tr.loopM (σ := Int × Int) (fun n s => M247 x_17 n s.1 s.2) n_25 (fun s => ([(1, .pt 0 0), (2, .d (.b false)), (3, (dI s.1)), (4, (dI i_11)), (5, .pt 1 0), (6, (dI s.2))], [some (.var [.d (.ls (List.map eTSegment f_1.Clocks.Segments)), .d (.ls (List.map (eL eI) f_1.Clocks.Far)), .d (.ls (List.map eTPair f_1.Pairs)), .d (.ls (List.map eTRunner f_1.Runners))]), some (.var [(dI x_17.Bib), .d (.ls (List.map eI x_17.Keys)), .d (.ls (List.map (eL eTOutcome) x_17.Worlds))])])) (((((x_17.Worlds).length : Int)) - 0 : Int).toNat + 1) (n_10, 0) h (fun s => rfl) (Wk.mk2 [0, 1] 2 rfl rfl (by decide) rfl ⟨rr, rr, trivial⟩ ⟨rr, rr, rr, rr, rr, rr, trivial⟩) ?_
    clear h
    rintro n_24 ⟨n_22, w_23⟩ h
    replace h : M247 x_17 (n_24 + 1) n_22 w_23 = some n_25 := h
    rw [M247] at h
    refine Tr.seq ?_
    refine sg ?_
    conv=>whnf
    refine lnS_map ?_
    conv=>whnf
    refine Tr.cond ?_
    conv=>whnf
    refine cB h (fun hb28 h => ?_) (fun hb28 h => ?_)
    ·refine Tr.skip ?_
     conv=>whnf
     refine Tr.seq ?_
     refine Tr.block ?_
     refine rg ?_
     conv=>whnf
     obtain ⟨x_29, hx_29, h⟩ := bS h
     refine ixP_of hx_29 ?_
     conv=>whnf
     refine lnS_map ?_
     conv=>whnf
     refine arS_raw ?_
     conv=>whnf
     refine rg ?_
     conv=>whnf
     refine arS_raw ?_
     conv=>whnf
     refine ⟨((w64 (n_22 + (((x_29).length : Int)))), (w64 (w_23 + 1))), h, ?_⟩
     exact Wk.mk2 [0, 1] 2 rfl rfl (by decide) rfl ⟨rr, rr, trivial⟩ ⟨rr, rr, rr, rr, rr, rr, trivial⟩
    refine Tr.exit ?_
    conv=>whnf
    cases h
    exact Wk.mk2 [0] 2 rfl rfl (by decide) rfl ⟨rr, trivial⟩ ⟨rr, rr, rr, rr, trivial⟩
   clear hv30
   conv=>whnf
   refine Tr.weak hw ?_
   refine rg ?_
   conv=>whnf
   refine arS_raw ?_
   conv=>whnf
   refine ⟨(n_25, (w64 (i_11 + 1))), h, ?_⟩
   exact Wk.mk2 [0] 1 rfl rfl (by decide) rfl ⟨rr, trivial⟩ ⟨rr, rr, rr, rr, trivial⟩
  refine Tr.exit ?_
  conv=>whnf
  refine ⟨(n_10), h, ?_⟩
  exact Wk.mk2 [] 1 rfl rfl (by decide) rfl trivial ⟨rr, rr, trivial⟩
 clear h
 rintro n_13 h T1 H1 hw
 replace h : M249 n_13 = some r_2 := h
 conv=>whnf
 refine Tr.weak hw ?_
 unfold M249 at h
 refine sg ?_
 conv=>whnf
 refine Tr.ret ?_
 conv=>whnf
 cases h
 rfl
theorem P253 (f_1 : List TField) (r_2 : Bool) (h : M253 f_1 = some r_2) :
    PC prog 11 [(.ls (List.map eTField f_1))] (fun rs => rs = [(.b r_2)]) := by
 refine PC.of_tr (cx := ⟨32, none, lay, 0⟩) layOK func11 rfl rfl rfl rfl rfl (by simp [f11]) ?_
 unfold M253 at h
 refine sg ?_
 conv=>whnf
 refine Tr.seq ?_
 refine sg ?_
 conv=>whnf
 refine lnS_map ?_
 conv=>whnf
 refine Tr.cond ?_
 conv=>whnf
 refine cB h (fun hb3 h => ?_) (fun hb3 h => ?_)
 ·refine sg ?_
  conv=>whnf
  refine Tr.ret ?_
  conv=>whnf
  cases h
  rfl
 refine Tr.skip ?_
 conv=>whnf
 refine Tr.seq ?_
 refine sg ?_
 conv=>whnf
 refine Tr.cutQ (α := Unit) (fun s => ([(2, .d (.b false))], [])) (fun s => M252 s = some r_2) ?_ ?_
 ·refine Tr.block ?_
  refine Tr.loopM (σ := Int) (fun n s => M251 f_1 M252 n s) r_2 (fun s => ([(0, .d (.ls (List.map eTField f_1))), (2, .d (.b false)), (3, (dI s))], [])) (((((f_1).length : Int)) - 0 : Int).toNat + 1) (0) h (fun s => rfl) (Wk.mk2 [] 0 rfl rfl (by decide) rfl trivial ⟨rr, rr, rr, trivial⟩) ?_
  clear h
  rintro n_6 i_5 h
  replace h : M251 f_1 M252 (n_6 + 1) i_5 = some r_2 := h
  rw [M251] at h
  refine Tr.seq ?_
  refine sg ?_
  conv=>whnf
  refine lnS_map ?_
  conv=>whnf
  refine Tr.cond ?_
  conv=>whnf
  refine cB h (fun hb9 h => ?_) (fun hb9 h => ?_)
  ·refine Tr.skip ?_
   conv=>whnf
   refine Tr.seq ?_
   refine Tr.block ?_
   refine sg ?_
   conv=>whnf
   refine cB h (fun hb10 h => ?_) (fun hb10 h => ?_)
   ·conv=>whnf
    obtain ⟨x_11, hx_11, h⟩ := bS h
    refine ixP_of hx_11 ?_
    conv=>whnf
    refine lnS_map ?_
    conv=>whnf
    refine cB h (fun hb12 h => ?_) (fun hb12 h => ?_)
    ·conv=>whnf
     refine Tr.cond ?_
     conv=>whnf
     refine sg ?_
     conv=>whnf
     refine Tr.ret ?_
     conv=>whnf
     cases h
     rfl
    conv=>whnf
    obtain ⟨x_13, hx_13, h⟩ := bS h
    refine ixP_of hx_13 ?_
    conv=>whnf
    obtain ⟨r_14, hc15, h⟩ := bS h
    refine PC.ecall (P250 x_13 r_14 hc15) (fun rs hrs => ?_)
    subst hrs
    conv=>whnf
    refine Tr.cond ?_
    conv=>whnf
    refine cB h (fun hb16 h => ?_) (fun hb16 h => ?_)
    ·refine sg ?_
     conv=>whnf
     refine Tr.ret ?_
     conv=>whnf
     cases h
     rfl
    refine Tr.skip ?_
    conv=>whnf
    refine rg ?_
    conv=>whnf
    refine arS_raw ?_
    conv=>whnf
    refine ⟨((w64 (i_5 + 1))), h, ?_⟩
    exact Wk.mk2 [] 0 rfl rfl (by decide) rfl trivial ⟨rr, rr, rr, trivial⟩
   conv=>whnf
   obtain ⟨x_17, hx_17, h⟩ := bS h
   refine ixP_of hx_17 ?_
   conv=>whnf
   obtain ⟨r_18, hc19, h⟩ := bS h
   refine PC.ecall (P250 x_17 r_18 hc19) (fun rs hrs => ?_)
   subst hrs
   conv=>whnf
   refine Tr.cond ?_
   conv=>whnf
   refine cB h (fun hb20 h => ?_) (fun hb20 h => ?_)
   ·refine sg ?_
    conv=>whnf
    refine Tr.ret ?_
    conv=>whnf
    cases h
    rfl
   refine Tr.skip ?_
   conv=>whnf
   refine rg ?_
   conv=>whnf
   refine arS_raw ?_
   conv=>whnf
   refine ⟨((w64 (i_5 + 1))), h, ?_⟩
   exact Wk.mk2 [] 0 rfl rfl (by decide) rfl trivial ⟨rr, rr, rr, trivial⟩
  refine Tr.exit ?_
  conv=>whnf
  refine ⟨(), h, ?_⟩
  exact Wk.mk2 [] 0 rfl rfl (by decide) rfl trivial ⟨rr, trivial⟩
 clear h
 rintro _ h T1 H1 hw
 replace h : M252 () = some r_2 := h
 conv=>whnf
 refine Tr.weak hw ?_
 unfold M252 at h
 refine sg ?_
 conv=>whnf
 refine Tr.ret ?_
 conv=>whnf
 cases h
 rfl
theorem P254 (n_1 : Int) (r_2 : Bool) (h : M254 n_1 = some r_2) :
    PC prog 150 [(.i .i64 n_1)] (fun rs => rs = [(.b r_2)]) := by
 refine PC.of_tr (cx := ⟨9, none, lay, 0⟩) layOK func150 rfl rfl rfl rfl rfl (by simp [f150]) ?_
 unfold M254 at h
 refine sg ?_
 conv=>whnf
 refine sg ?_
 conv=>whnf
 refine cB h (fun hb3 h => ?_) (fun hb3 h => ?_)
 ·conv=>whnf
  refine Tr.ret ?_
  conv=>whnf
  cases h
  rfl
 conv=>whnf
 refine Tr.ret ?_
 conv=>whnf
 cases h
 rfl
theorem P255 (a_1 : TSegment) (b_2 : TSegment) (r_3 : Bool) (h : M255 a_1 b_2 = some r_3) :
    PC prog 151 [(eTSegment a_1), (eTSegment b_2)] (fun rs => rs = [(.b r_3)]) := by
 refine PC.of_tr (cx := ⟨24, none, lay, 0⟩) layOK func151 rfl rfl rfl rfl rfl (by simp [f151]) ?_
 unfold M255 at h
 refine sg ?_
 conv=>whnf
 refine sg ?_
 conv=>whnf
 refine cB h (fun hb4 h => ?_) (fun hb4 h => ?_)
 ·conv=>whnf
  refine Tr.ret ?_
  conv=>whnf
  cases h
  rfl
 conv=>whnf
 refine cB h (fun hb5 h => ?_) (fun hb5 h => ?_)
 ·conv=>whnf
  refine Tr.ret ?_
  conv=>whnf
  cases h
  rfl
 conv=>whnf
 refine Tr.ret ?_
 conv=>whnf
 cases h
 rfl
end Go.Proofs.Tryz
