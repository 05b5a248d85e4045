/- Contracts of functions, by program (gen.py). No condition. -/
import Derived.Test.YtapjficbenpaeaaGreatZL
import Derived.Test.YtapjficbenpaeaaGreatZM
import Derived.Test.YtapjficbenpaeaaGreatZCB
import Derived.Test.YtapjficbenpaeaaGreatZS7
namespace Go.Proofs.Tryz
open Go Go.Abs Go.Stop
set_option maxRecDepth 8000
set_option linter.unusedVariables false
set_option linter.unusedSimpArgs false
theorem P193 (a_1 : List TSpan) (b_2 : List TSpan) (r_3 : Bool) (h : M193 a_1 b_2 = some r_3) :
    PC prog 51 [(.ls (List.map eTSpan a_1)), (.ls (List.map eTSpan b_2))] (fun rs => rs = [(.b r_3)]) := by
 refine PC.of_tr (cx := ⟨26, none, lay, 0⟩) layOK func51 rfl rfl rfl rfl rfl (by simp [f51]) ?_
 unfold M193 at h
 refine sg ?_
 conv=>whnf
 refine Tr.seq ?_
 refine sg ?_
 conv=>whnf
 refine lnS_map ?_
 conv=>whnf
 refine lnS_map ?_
 conv=>whnf
 refine Tr.cond ?_
 conv=>whnf
 refine cB h (fun hb4 h => ?_) (fun hb4 h => ?_)
 ·refine sg ?_
  conv=>whnf
  refine Tr.ret ?_
  conv=>whnf
  cases h
  rfl
 refine Tr.skip ?_
 conv=>whnf
 refine Tr.seq ?_
 refine sg ?_
 conv=>whnf
 refine Tr.cutQ (α := Unit) (fun s => ([(4, .d (.b false))], [])) (fun s => M192 s = some r_3) ?_ ?_
 ·refine Tr.block ?_
  refine Tr.loopM (σ := Int) (fun n s => M191 a_1 b_2 M192 n s) r_3 (fun s => ([(0, .d (.ls (List.map eTSpan a_1))), (1, .d (.ls (List.map eTSpan b_2))), (4, .d (.b false)), (5, (dI s))], [])) (((((a_1).length : Int)) - 0 : Int).toNat + 1) (0) h (fun s => rfl) (Wk.mk2 [] 0 rfl rfl (by decide) rfl trivial ⟨rr, rr, rr, rr, trivial⟩) ?_
  clear h
  rintro n_7 i_6 h
  replace h : M191 a_1 b_2 M192 (n_7 + 1) i_6 = some r_3 := h
  rw [M191] at h
  refine Tr.seq ?_
  refine sg ?_
  conv=>whnf
  refine lnS_map ?_
  conv=>whnf
  refine Tr.cond ?_
  conv=>whnf
  refine cB h (fun hb10 h => ?_) (fun hb10 h => ?_)
  ·refine Tr.skip ?_
   conv=>whnf
   refine Tr.seq ?_
   refine Tr.block ?_
   refine sd [] [(0,1),(1,1),(2,2),(3,2),(4,1),(5,1),(6,2),(7,2),(8,1)] ?_
   conv=>whnf
   refine q1 ?_
   conv=>whnf
   refine q1 ?_
   conv=>whnf
   obtain ⟨x_11, hx_11, h⟩ := bS h
   refine q3 (ixP_of hx_11 rr) ?_
   conv=>whnf
   refine q2 ?_
   conv=>whnf
   refine q1 ?_
   conv=>whnf
   refine q1 ?_
   conv=>whnf
   obtain ⟨x_12, hx_12, h⟩ := bS h
   refine q3 (ixP_of hx_12 rr) ?_
   conv=>whnf
   refine q2 ?_
   conv=>whnf
   refine q1 ?_
   conv=>whnf
   refine Tr.cond ?_
   conv=>whnf
   refine cB h (fun hb13 h => ?_) (fun hb13 h => ?_)
   ·refine sg ?_
    conv=>whnf
    refine Tr.ret ?_
    conv=>whnf
    cases h
    rfl
   refine Tr.skip ?_
   conv=>whnf
   refine rg ?_
   conv=>whnf
   refine arS_raw ?_
   conv=>whnf
   refine ⟨((w64 (i_6 + 1))), h, ?_⟩
   exact Wk.mk2 [] 0 rfl rfl (by decide) rfl trivial ⟨rr, rr, rr, rr, trivial⟩
  refine Tr.exit ?_
  conv=>whnf
  refine ⟨(), h, ?_⟩
  exact Wk.mk2 [] 0 rfl rfl (by decide) rfl trivial ⟨rr, trivial⟩
 clear h
 rintro _ h T1 H1 hw
 replace h : M192 () = some r_3 := h
 conv=>whnf
 refine Tr.weak hw ?_
 unfold M192 at h
 refine sg ?_
 conv=>whnf
 refine Tr.ret ?_
 conv=>whnf
 cases h
 rfl
theorem P194 (a_1 : TTotal) (b_2 : TTotal) (r_3 : Bool) (h : M194 a_1 b_2 = some r_3) :
    PC prog 20 [(eTTotal a_1), (eTTotal b_2)] (fun rs => rs = [(.b r_3)]) := by
 refine PC.of_tr (cx := ⟨24, none, lay, 0⟩) layOK func20 rfl rfl rfl rfl rfl (by simp [f20]) ?_
 unfold M194 at h
 refine sg ?_
 conv=>whnf
 refine sg ?_
 conv=>whnf
 refine cB h (fun hb4 h => ?_) (fun hb4 h => ?_)
 ·conv=>whnf
  refine cB h (fun hb5 h => ?_) (fun hb5 h => ?_)
  ·conv=>whnf
   obtain ⟨r_6, hc7, h⟩ := bS h
   refine PC.ecall (P193 a_1.Sums b_2.Sums r_6 hc7) (fun rs hrs => ?_)
   subst hrs
   conv=>whnf
   refine Tr.ret ?_
   conv=>whnf
   cases h
   rfl
  conv=>whnf
  refine Tr.ret ?_
  conv=>whnf
  cases h
  rfl
 conv=>whnf
 refine Tr.ret ?_
 conv=>whnf
 cases h
 rfl
theorem P195 (bib_1 : Int) (lo_2 : Int) (hi_3 : Int) (out_4 : Bool) (r_5 : TTotal) (h : M195 bib_1 lo_2 hi_3 out_4 = some r_5) :
    PC prog 36 [(.i .i64 bib_1), (.i .i64 lo_2), (.i .i64 hi_3), (.b out_4)] (fun rs => rs = [(eTTotal r_5)]) := by
 refine PC.of_tr (cx := ⟨16, none, lay, 0⟩) layOK func36 rfl rfl rfl rfl rfl (by simp [f36]) ?_
 unfold M195 at h
 refine sg ?_
 conv=>whnf
 refine sg ?_
 conv=>whnf
 refine orB_r ?_
 conv=>whnf
 refine Tr.ret ?_
 conv=>whnf
 cases h
 rfl
theorem P198 (s_1 : List TSpan) (s_2 : List TSpan) (r_3 : Bool) (h : M198 s_1 s_2 = some r_3) :
    PC prog 83 [(.ls (List.map eTSpan s_1)), (.ls (List.map eTSpan s_2))] (fun rs => rs = [(.b r_3)]) := by
 refine PC.of_tr (cx := ⟨26, none, lay, 0⟩) layOK func83 rfl rfl rfl rfl rfl (by simp [f83]) ?_
 unfold M198 at h
 refine sg ?_
 conv=>whnf
 refine Tr.seq ?_
 refine sg ?_
 conv=>whnf
 refine lnS_map ?_
 conv=>whnf
 refine lnS_map ?_
 conv=>whnf
 refine Tr.cond ?_
 conv=>whnf
 refine cB h (fun hb4 h => ?_) (fun hb4 h => ?_)
 ·refine sg ?_
  conv=>whnf
  refine Tr.ret ?_
  conv=>whnf
  cases h
  rfl
 refine Tr.skip ?_
 conv=>whnf
 refine Tr.seq ?_
 refine sg ?_
 conv=>whnf
 refine lnS_map ?_
 conv=>whnf
 refine Tr.cutQ (α := Unit) (fun s => ([(4, .d (.b false))], [])) (fun s => M197 s = some r_3) ?_ ?_
 ·refine Tr.block ?_
  refine Tr.loopM (σ := Int) (fun n s => M196 s_1 s_2 M197 n s) r_3 (fun s => ([(0, .d (.ls (List.map eTSpan s_1))), (1, .d (.ls (List.map eTSpan s_2))), (4, .d (.b false)), (12, (dI (((s_1).length : Int)))), (13, (dI s))], [])) (((((s_1).length : Int)) - 0 : Int).toNat + 1) (0) h (fun s => rfl) (Wk.mk2 [] 0 rfl rfl (by decide) rfl trivial ⟨rr, rr, rr, rr, rr, trivial⟩) ?_
  clear h
  rintro n_7 v_6 h
  replace h : M196 s_1 s_2 M197 (n_7 + 1) v_6 = some r_3 := h
  rw [M196] at h
  refine sg ?_
  conv=>whnf
  refine Tr.seq ?_
  refine Tr.cond ?_
  conv=>whnf
  refine cB h (fun hb10 h => ?_) (fun hb10 h => ?_)
  ·refine Tr.skip ?_
   conv=>whnf
   refine Tr.seq ?_
   refine Tr.block ?_
   refine sg ?_
   conv=>whnf
   refine sd [] [(0,1),(1,1),(2,2),(3,2),(4,1),(5,1),(6,2),(7,2),(8,1)] ?_
   conv=>whnf
   refine q1 ?_
   conv=>whnf
   refine q1 ?_
   conv=>whnf
   obtain ⟨x_11, hx_11, h⟩ := bS h
   refine q3 (ixP_of hx_11 rr) ?_
   conv=>whnf
   refine q2 ?_
   conv=>whnf
   refine q1 ?_
   conv=>whnf
   refine q1 ?_
   conv=>whnf
   obtain ⟨x_12, hx_12, h⟩ := bS h
   refine q3 (ixP_of hx_12 rr) ?_
   conv=>whnf
   refine q2 ?_
   conv=>whnf
   refine q1 ?_
   conv=>whnf
   refine Tr.cond ?_
   conv=>whnf
   refine cB h (fun hb13 h => ?_) (fun hb13 h => ?_)
   ·refine sg ?_
    conv=>whnf
    refine Tr.ret ?_
    conv=>whnf
    cases h
    rfl
   refine Tr.skip ?_
   conv=>whnf
   refine rg ?_
   conv=>whnf
   refine arS_raw ?_
   conv=>whnf
   refine ⟨((w64 (v_6 + 1))), h, ?_⟩
   exact Wk.mk2 [] 0 rfl rfl (by decide) rfl trivial ⟨rr, rr, rr, rr, rr, trivial⟩
  refine Tr.exit ?_
  conv=>whnf
  refine ⟨(), h, ?_⟩
  exact Wk.mk2 [] 0 rfl rfl (by decide) rfl trivial ⟨rr, trivial⟩
 clear h
 rintro _ h T1 H1 hw
 replace h : M197 () = some r_3 := h
 conv=>whnf
 refine Tr.weak hw ?_
 unfold M197 at h
 refine sg ?_
 conv=>whnf
 refine Tr.ret ?_
 conv=>whnf
 cases h
 rfl
theorem P199 (t_1 : TTotal) (r_2 : Bool) (h : M199 t_1 = some r_2) :
    PC prog 56 [(eTTotal t_1)] (fun rs => rs = [(.b r_2)]) := by
 refine PC.of_tr (cx := ⟨7, none, lay, 0⟩) layOK func56 rfl rfl rfl rfl rfl (by simp [f56]) ?_
 unfold M199 at h
 refine sg ?_
 conv=>whnf
 refine sg ?_
 conv=>whnf
 refine lnS_map ?_
 conv=>whnf
 refine Tr.ret ?_
 conv=>whnf
 cases h
 rfl
theorem P202 (l_1 : List TTotal) (r_2 : Bool) (h : M202 l_1 = some r_2) :
    PC prog 52 [(.ls (List.map eTTotal l_1))] (fun rs => rs = [(.b r_2)]) := by
 refine PC.of_tr (cx := ⟨65, none, lay, 0⟩) layOK func52 rfl rfl rfl rfl rfl (by simp [f52]) ?_
 unfold M202 at h
 refine sg ?_
 conv=>whnf
 refine Tr.seq ?_
 refine sg ?_
 conv=>whnf
 refine lnS_map ?_
 conv=>whnf
 refine Tr.cutQ (α := Unit) (fun s => ([(2, .d (.b false))], [])) (fun s => M201 s = some r_2) ?_ ?_
 ·refine Tr.block ?_
  refine Tr.loopM (σ := Int) (fun n s => M200 l_1 M201 n s) r_2 (fun s => ([(0, .d (.ls (List.map eTTotal l_1))), (2, .d (.b false)), (7, .d (.ls (List.map eTTotal l_1))), (8, (dI (((l_1).length : Int)))), (9, (dI s))], [])) (((((l_1).length : Int)) - 0 : Int).toNat + 1) (0) h (fun s => rfl) (Wk.mk2 [] 0 rfl rfl (by decide) rfl trivial ⟨rr, rr, rr, rr, rr, trivial⟩) ?_
  clear h
  rintro n_5 v_4 h
  replace h : M200 l_1 M201 (n_5 + 1) v_4 = some r_2 := h
  rw [M200] at h
  refine sg ?_
  conv=>whnf
  refine Tr.seq ?_
  refine Tr.cond ?_
  conv=>whnf
  refine cB h (fun hb8 h => ?_) (fun hb8 h => ?_)
  ·refine Tr.skip ?_
   conv=>whnf
   refine Tr.seq ?_
   refine Tr.block ?_
   refine sg ?_
   conv=>whnf
   obtain ⟨x_9, hx_9, h⟩ := bS h
   refine ixP_of hx_9 ?_
   conv=>whnf
   refine sg ?_
   conv=>whnf
   obtain ⟨⟨r_10, r_11⟩, hc12, h⟩ := bS h
   refine PC.ecall (P127 x_9.Sums r_10 r_11 hc12) (fun rs hrs => ?_)
   subst hrs
   conv=>whnf
   refine Tr.seq ?_
   obtain ⟨v_13, hv14, h⟩ := bS h
   refine Tr.cutQ1 ([(0, .d (.ls (List.map eTTotal l_1))), (2, .d (.b false)), (7, .d (.ls (List.map eTTotal l_1))), (8, (dI (((l_1).length : Int)))), (9, (dI v_4)), (63, .d (.b v_13))]) ([]) ?_ (fun T1 H1 hw => ?_)
   ·replace h := hv14; clear hv14
    refine dq [] [(0,3),(1,3),(2,1),(3,1),(4,3),(5,3),(6,1),(7,1),(8,1),(9,1),(10,1),(11,1),(12,3),(13,3),(14,1),(15,1),(16,1),(17,2),(18,2),(19,2),(20,1),(21,1),(22,1),(23,1),(24,1),(25,1),(26,1),(27,1),(28,1),(29,3),(30,3),(31,1),(32,1),(33,1),(34,1),(35,3),(36,1),(37,1),(38,1),(39,3),(40,3),(41,1),(42,1),(43,1)] ?_
    conv=>whnf
    refine q2 ?_
    conv=>whnf
    refine q2 ?_
    conv=>whnf
    refine q1 ?_
    conv=>whnf
    refine q1 ?_
    conv=>whnf
    refine cB h (fun hb15 h => ?_) (fun hb15 h => ?_)
    ·conv=>whnf
     refine q1 ?_
     conv=>whnf
     refine q1 ?_
     conv=>whnf
     refine q1 ?_
     conv=>whnf
     refine q1 ?_
     conv=>whnf
     refine q1 ?_
     conv=>whnf
     refine q1 ?_
     conv=>whnf
     refine q1 ?_
     conv=>whnf
     refine q1 ?_
     conv=>whnf
     refine q1 ?_
     conv=>whnf
     cases h
     exact Wk.mk2 [] 1 rfl rfl (by decide) rfl trivial ⟨rr, rr, rr, rr, rr, rr, trivial⟩
    conv=>whnf
    refine q2 ?_
    conv=>whnf
    refine q2 ?_
    conv=>whnf
    refine q1 ?_
    conv=>whnf
    refine q1 ?_
    conv=>whnf
    refine q1 ?_
    conv=>whnf
    refine cB h (fun hb16 h => ?_) (fun hb16 h => ?_)
    ·conv=>whnf
     refine q1 ?_
     conv=>whnf
     refine q1 ?_
     conv=>whnf
     refine q1 ?_
     conv=>whnf
     refine q1 ?_
     conv=>whnf
     refine q1 ?_
     conv=>whnf
     refine q1 ?_
     conv=>whnf
     refine q1 ?_
     conv=>whnf
     cases h
     exact Wk.mk2 [] 1 rfl rfl (by decide) rfl trivial ⟨rr, rr, rr, rr, rr, rr, trivial⟩
    conv=>whnf
    refine q1 ?_
    conv=>whnf
    refine q1 ?_
    conv=>whnf
    refine q1 ?_
    conv=>whnf
    refine cB h (fun hb17 h => ?_) (fun hb17 h => ?_)
    ·conv=>whnf
     refine q2 ?_
     conv=>whnf
     refine q2 ?_
     conv=>whnf
     refine q1 ?_
     conv=>whnf
     refine q1 ?_
     conv=>whnf
     refine q4 ?_
     conv=>whnf
     obtain ⟨x_18, hx_18, h⟩ := bS h
     refine q3 (ixP_of hx_18 rr) ?_
     conv=>whnf
     refine q2 ?_
     conv=>whnf
     refine q2 ?_
     conv=>whnf
     refine q1 ?_
     conv=>whnf
     refine q1 ?_
     conv=>whnf
     refine q1 ?_
     conv=>whnf
     refine q1 ?_
     conv=>whnf
     refine cB h (fun hb19 h => ?_) (fun hb19 h => ?_)
     ·conv=>whnf
      refine q1 ?_
      conv=>whnf
      refine q1 ?_
      conv=>whnf
      refine q1 ?_
      conv=>whnf
      refine q1 ?_
      conv=>whnf
      refine q1 ?_
      conv=>whnf
      cases h
      exact Wk.mk2 [] 1 rfl rfl (by decide) rfl trivial ⟨rr, rr, rr, rr, rr, rr, trivial⟩
     conv=>whnf
     refine q1 ?_
     conv=>whnf
     refine q1 ?_
     conv=>whnf
     refine q1 ?_
     conv=>whnf
     refine q1 ?_
     conv=>whnf
     refine cB h (fun hb20 h => ?_) (fun hb20 h => ?_)
     ·conv=>whnf
      refine q1 ?_
      conv=>whnf
      refine q1 ?_
      conv=>whnf
      refine q1 ?_
      conv=>whnf
      cases h
      exact Wk.mk2 [] 1 rfl rfl (by decide) rfl trivial ⟨rr, rr, rr, rr, rr, rr, trivial⟩
     conv=>whnf
     refine q1 ?_
     conv=>whnf
     refine q2 ?_
     conv=>whnf
     refine q2 ?_
     conv=>whnf
     obtain ⟨r_21, hc22, h⟩ := bS h
     refine q1 ?_ (fun _ => pe (P198 r_10 x_9.Sums r_21 hc22) rr)
     conv=>whnf
     refine q1 ?_
     conv=>whnf
     refine q1 ?_
     conv=>whnf
     refine q1 ?_
     conv=>whnf
     refine cB h (fun hb23 h => ?_) (fun hb23 h => ?_)
     ·conv=>whnf
      refine q1 ?_
      conv=>whnf
      cases h
      exact Wk.mk2 [] 1 rfl rfl (by decide) rfl trivial ⟨rr, rr, rr, rr, rr, rr, trivial⟩
     conv=>whnf
     refine q2 ?_
     conv=>whnf
     obtain ⟨r_24, hc25, h⟩ := bS h
     refine q1 ?_ (fun _ => pe (P199 x_9 r_24 hc25) rr)
     conv=>whnf
     refine q1 ?_
     conv=>whnf
     refine q1 ?_
     conv=>whnf
     refine cB h (fun hb26 h => ?_) (fun hb26 h => ?_)
     ·conv=>whnf
      refine q2 ?_
      conv=>whnf
      refine q2 ?_
      conv=>whnf
      refine q1 ?_
      conv=>whnf
      refine q1 ?_
      conv=>whnf
      refine q1 ?_
      conv=>whnf
      cases h
      exact Wk.mk2 [] 1 rfl rfl (by decide) rfl trivial ⟨rr, rr, rr, rr, rr, rr, trivial⟩
     conv=>whnf
     refine q1 ?_
     conv=>whnf
     refine q1 ?_
     conv=>whnf
     cases h
     exact Wk.mk2 [] 1 rfl rfl (by decide) rfl trivial ⟨rr, rr, rr, rr, rr, rr, trivial⟩
    conv=>whnf
    refine q1 ?_
    conv=>whnf
    refine q1 ?_
    conv=>whnf
    refine q1 ?_
    conv=>whnf
    refine q1 ?_
    conv=>whnf
    refine q1 ?_
    conv=>whnf
    refine q1 ?_
    conv=>whnf
    refine q1 ?_
    conv=>whnf
    refine cB h (fun hb27 h => ?_) (fun hb27 h => ?_)
    ·conv=>whnf
     refine q1 ?_
     conv=>whnf
     refine q1 ?_
     conv=>whnf
     refine q1 ?_
     conv=>whnf
     cases h
     exact Wk.mk2 [] 1 rfl rfl (by decide) rfl trivial ⟨rr, rr, rr, rr, rr, rr, trivial⟩
    conv=>whnf
    refine q1 ?_
    conv=>whnf
    refine q2 ?_
    conv=>whnf
    refine q2 ?_
    conv=>whnf
    obtain ⟨r_28, hc29, h⟩ := bS h
    refine q1 ?_ (fun _ => pe (P198 r_10 x_9.Sums r_28 hc29) rr)
    conv=>whnf
    refine q1 ?_
    conv=>whnf
    refine q1 ?_
    conv=>whnf
    refine q1 ?_
    conv=>whnf
    refine cB h (fun hb30 h => ?_) (fun hb30 h => ?_)
    ·conv=>whnf
     refine q1 ?_
     conv=>whnf
     cases h
     exact Wk.mk2 [] 1 rfl rfl (by decide) rfl trivial ⟨rr, rr, rr, rr, rr, rr, trivial⟩
    conv=>whnf
    refine q2 ?_
    conv=>whnf
    obtain ⟨r_31, hc32, h⟩ := bS h
    refine q1 ?_ (fun _ => pe (P199 x_9 r_31 hc32) rr)
    conv=>whnf
    refine q1 ?_
    conv=>whnf
    refine q1 ?_
    conv=>whnf
    refine cB h (fun hb33 h => ?_) (fun hb33 h => ?_)
    ·conv=>whnf
     refine q2 ?_
     conv=>whnf
     refine q2 ?_
     conv=>whnf
     refine q1 ?_
     conv=>whnf
     refine q1 ?_
     conv=>whnf
     refine q1 ?_
     conv=>whnf
     cases h
     exact Wk.mk2 [] 1 rfl rfl (by decide) rfl trivial ⟨rr, rr, rr, rr, rr, rr, trivial⟩
    conv=>whnf
    refine q1 ?_
    conv=>whnf
    refine q1 ?_
    conv=>whnf
    cases h
    exact Wk.mk2 [] 1 rfl rfl (by decide) rfl trivial ⟨rr, rr, rr, rr, rr, rr, trivial⟩
   clear hv14
   conv=>whnf
   refine Tr.weak hw ?_
   refine Tr.cond ?_
   conv=>whnf
   refine cB h (fun hb34 h => ?_) (fun hb34 h => ?_)
   ·refine sg ?_
    conv=>whnf
    refine Tr.ret ?_
    conv=>whnf
    cases h
    rfl
   refine Tr.skip ?_
   conv=>whnf
   refine rg ?_
   conv=>whnf
   refine arS_raw ?_
   conv=>whnf
   refine ⟨((w64 (v_4 + 1))), h, ?_⟩
   exact Wk.mk2 [] 0 rfl rfl (by decide) rfl trivial ⟨rr, rr, rr, rr, rr, trivial⟩
  refine Tr.exit ?_
  conv=>whnf
  refine ⟨(), h, ?_⟩
  exact Wk.mk2 [] 0 rfl rfl (by decide) rfl trivial ⟨rr, trivial⟩
 clear h
 rintro _ h T1 H1 hw
 replace h : M201 () = some r_2 := h
 conv=>whnf
 refine Tr.weak hw ?_
 unfold M201 at h
 refine sg ?_
 conv=>whnf
 refine Tr.ret ?_
 conv=>whnf
 cases h
 rfl
theorem P203 (h : M203 = some ()) :
    PC prog 57 [] (fun rs => rs = [(.ag [(.fn 84 [])])]) := by
 refine PC.of_tr (cx := ⟨2, none, lay, 0⟩) layOK func57 rfl rfl rfl rfl rfl (by simp [f57]) ?_
 unfold M203 at h
 refine sg ?_
 conv=>whnf
 refine sg ?_
 conv=>whnf
 refine Tr.ret ?_
 conv=>whnf
theorem P204 (t_1 : TTotal) (r_2 : Int) (h : M204 t_1 = some r_2) :
    PC prog 85 [(eTTotal t_1)] (fun rs => rs = [(.i .i64 r_2)]) := by
 refine PC.of_tr (cx := ⟨12, none, lay, 0⟩) layOK func85 rfl rfl rfl rfl rfl (by simp [f85]) ?_
 unfold M204 at h
 refine sg ?_
 conv=>whnf
 refine sg ?_
 conv=>whnf
 refine lnS_map ?_
 conv=>whnf
 refine arS_raw ?_
 conv=>whnf
 obtain ⟨x_3, hx_3, h⟩ := bS h
 refine ixP_of hx_3 ?_
 conv=>whnf
 refine Tr.ret ?_
 conv=>whnf
 cases h
 rfl
theorem P205 (t_1 : TTotal) (r_2 : Int) (h : M205 t_1 = some r_2) :
    PC prog 86 [(eTTotal t_1)] (fun rs => rs = [(.i .i64 r_2)]) := by
 refine PC.of_tr (cx := ⟨8, none, lay, 0⟩) layOK func86 rfl rfl rfl rfl rfl (by simp [f86]) ?_
 unfold M205 at h
 refine sg ?_
 conv=>whnf
 refine sg ?_
 conv=>whnf
 obtain ⟨x_3, hx_3, h⟩ := bS h
 refine ixP_of hx_3 ?_
 conv=>whnf
 refine Tr.ret ?_
 conv=>whnf
 cases h
 rfl
theorem P206 (a_1 : TTotal) (b_2 : TTotal) (r_3 : Bool) (h : M206 a_1 b_2 = some r_3) :
    PC prog 84 [(eTTotal a_1), (eTTotal b_2)] (fun rs => rs = [(.b r_3)]) := by
 refine PC.of_tr (cx := ⟨15, none, lay, 0⟩) layOK func84 rfl rfl rfl rfl rfl (by simp [f84]) ?_
 unfold M206 at h
 refine sg ?_
 conv=>whnf
 refine sd [] [(0,3),(1,3),(2,1),(3,1),(4,3),(5,1),(6,4),(7,1),(8,1),(9,1),(10,1)] ?_
 conv=>whnf
 refine q2 ?_
 conv=>whnf
 refine q2 ?_
 conv=>whnf
 refine q1 ?_
 conv=>whnf
 refine q1 ?_
 conv=>whnf
 refine cB h (fun hb4 h => ?_) (fun hb4 h => ?_)
 ·conv=>whnf
  refine q2 ?_
  conv=>whnf
  obtain ⟨r_5, hc6, h⟩ := bS h
  refine q1 ?_ (fun _ => pe (P204 a_1 r_5 hc6) rr)
  conv=>whnf
  refine q2 ?_
  conv=>whnf
  obtain ⟨r_7, hc8, h⟩ := bS h
  refine q1 ?_ (fun _ => pe (P205 b_2 r_7 hc8) rr)
  conv=>whnf
  refine q1 ?_
  conv=>whnf
  refine q1 ?_
  conv=>whnf
  refine q1 ?_
  conv=>whnf
  refine Tr.ret ?_
  conv=>whnf
  cases h
  rfl
 conv=>whnf
 refine q1 ?_
 conv=>whnf
 refine q1 ?_
 conv=>whnf
 refine Tr.ret ?_
 conv=>whnf
 cases h
 rfl
theorem P208 (l_1 : List TTotal) (at_2 : Int) (r_3 : Int) (h : M208 l_1 at_2 = some r_3) :
    PC prog 58 [(.ag [(.fn 84 [])]), (.ls (List.map eTTotal l_1)), (.i .i64 at_2)] (fun rs => rs = [(.i .i64 r_3)]) := by
 refine PC.of_tr (cx := ⟨37, none, lay, 0⟩) layOK func58 rfl rfl rfl rfl rfl (by simp [f58]) ?_
 unfold M208 at h
 refine sg ?_
 conv=>whnf
 refine Tr.seq ?_
 refine sg ?_
 conv=>whnf
 refine lnS_map ?_
 conv=>whnf
 obtain ⟨n_9, hv24, h⟩ := bS h
 refine Tr.cutQ1 ([(6, (dI n_9))]) ([]) ?_ (fun T1 H1 hw => ?_)
 ·replace h := hv24; clear hv24
  refine Tr.block ?_
  refine Tr.loopM (σ := Int × Int) (fun n s => M207 l_1 at_2 n s.1 s.2) n_9 (fun s => ([(1, .d (.ls (List.map eTTotal l_1))), (2, (dI at_2)), (3, .pt 0 0), (6, (dI s.1)), (9, .d (.ls (List.map eTTotal l_1))), (10, (dI (((l_1).length : Int)))), (11, (dI s.2))], [some (.var [.d (.fn 84 [])])])) (((((l_1).length : Int)) - 0 : Int).toNat + 1) (0, 0) h (fun s => rfl) (Wk.mk2 [0] 1 rfl rfl (by decide) rfl ⟨rr, trivial⟩ ⟨rr, rr, rr, rr, rr, rr, rr, trivial⟩) ?_
  clear h
  rintro n_8 ⟨n_6, v_7⟩ h
  replace h : M207 l_1 at_2 (n_8 + 1) n_6 v_7 = some n_9 := h
  rw [M207] at h
  refine sg ?_
  conv=>whnf
  refine Tr.seq ?_
  refine Tr.cond ?_
  conv=>whnf
  refine cB h (fun hb12 h => ?_) (fun hb12 h => ?_)
  ·refine Tr.skip ?_
   conv=>whnf
   refine Tr.seq ?_
   obtain ⟨n_13, hv14, h⟩ := bS h
   refine Tr.cutQ1 ([(1, .d (.ls (List.map eTTotal l_1))), (2, (dI at_2)), (3, .pt 0 0), (6, (dI n_13)), (9, .d (.ls (List.map eTTotal l_1))), (10, (dI (((l_1).length : Int)))), (11, (dI v_7))]) ([some (.var [.d (.fn 84 [])])]) ?_ (fun T1 H1 hw => ?_)
   ·replace h := hv14; clear hv14
    refine Tr.block ?_
    refine sg ?_
    conv=>whnf
    obtain ⟨x_15, hx_15, h⟩ := bS h
    refine ixP_of hx_15 ?_
    conv=>whnf
    refine sd [] [(0,1),(1,1),(2,1),(3,1),(4,4),(5,1),(6,1),(7,1),(8,3),(9,3),(10,4),(11,1),(12,1),(13,2),(14,2),(15,1),(16,1)] ?_
    conv=>whnf
    refine q1 ?_
    conv=>whnf
    refine q1 ?_
    conv=>whnf
    refine q1 ?_
    conv=>whnf
    refine q1 ?_
    conv=>whnf
    refine cB h (fun hb16 h => ?_) (fun hb16 h => ?_)
    ·conv=>whnf
     refine q2 ?_
     conv=>whnf
     obtain ⟨r_17, hc18, h⟩ := bS h
     refine q1 ?_ (fun _ => pe (P199 x_15 r_17 hc18) rr)
     conv=>whnf
     refine q1 ?_
     conv=>whnf
     refine q1 ?_
     conv=>whnf
     refine cB h (fun hb19 h => ?_) (fun hb19 h => ?_)
     ·conv=>whnf
      refine q2 ?_
      conv=>whnf
      refine q2 ?_
      conv=>whnf
      refine q2 ?_
      conv=>whnf
      refine q1 ?_
      conv=>whnf
      refine q1 ?_
      conv=>whnf
      obtain ⟨x_20, hx_20, h⟩ := bS h
      refine q3 (ixP_of hx_20 rr) ?_
      conv=>whnf
      refine q2 ?_
      conv=>whnf
      obtain ⟨r_21, hc22, h⟩ := bS h
      refine q1 ?_ (fun _ => pe (P206 x_15 x_20 r_21 hc22) rr)
      conv=>whnf
      refine q1 ?_
      conv=>whnf
      refine Tr.cond ?_
      conv=>whnf
      refine cB h (fun hb23 h => ?_) (fun hb23 h => ?_)
      ·refine rg ?_
       conv=>whnf
       refine arS_raw ?_
       conv=>whnf
       cases h
       exact Wk.mk2 [0] 2 rfl rfl (by decide) rfl ⟨rr, trivial⟩ ⟨rr, rr, rr, rr, rr, rr, rr, trivial⟩
      refine Tr.skip ?_
      conv=>whnf
      cases h
      exact Wk.mk2 [0] 2 rfl rfl (by decide) rfl ⟨rr, trivial⟩ ⟨rr, rr, rr, rr, rr, rr, rr, trivial⟩
     conv=>whnf
     refine q1 ?_
     conv=>whnf
     refine Tr.cond ?_
     conv=>whnf
     refine Tr.skip ?_
     conv=>whnf
     cases h
     exact Wk.mk2 [0] 2 rfl rfl (by decide) rfl ⟨rr, trivial⟩ ⟨rr, rr, rr, rr, rr, rr, rr, trivial⟩
    conv=>whnf
    refine q1 ?_
    conv=>whnf
    refine q1 ?_
    conv=>whnf
    refine q1 ?_
    conv=>whnf
    refine Tr.cond ?_
    conv=>whnf
    refine Tr.skip ?_
    conv=>whnf
    cases h
    exact Wk.mk2 [0] 2 rfl rfl (by decide) rfl ⟨rr, trivial⟩ ⟨rr, rr, rr, rr, rr, rr, rr, trivial⟩
   clear hv14
   conv=>whnf
   refine Tr.weak hw ?_
   refine rg ?_
   conv=>whnf
   refine arS_raw ?_
   conv=>whnf
   refine ⟨(n_13, (w64 (v_7 + 1))), h, ?_⟩
   exact Wk.mk2 [0] 1 rfl rfl (by decide) rfl ⟨rr, trivial⟩ ⟨rr, rr, rr, rr, rr, rr, rr, trivial⟩
  refine Tr.exit ?_
  conv=>whnf
  cases h
  exact Wk.mk2 [] 1 rfl rfl (by decide) rfl trivial ⟨rr, trivial⟩
 clear hv24
 conv=>whnf
 refine Tr.weak hw ?_
 refine sg ?_
 conv=>whnf
 refine Tr.ret ?_
 conv=>whnf
 cases h
 rfl
theorem P209 (i_1 : Int) (c_2 : List TTotal) (r_3 : Bool) (h : M209 i_1 c_2 = some r_3) :
    PC prog 55 [(.i .i64 i_1), (.ro [(.ls (List.map eTTotal c_2))])] (fun rs => rs = [(.b r_3)]) := by
 refine PC.of_tr (cx := ⟨16, none, lay, 0⟩) layOK func55 rfl rfl rfl rfl rfl (by simp [f55]) ?_
 unfold M209 at h
 refine sg ?_
 conv=>whnf
 refine sd [] [(0,2),(1,1),(2,2),(3,2),(4,1),(5,1),(6,1),(7,2),(8,1),(9,1),(10,1),(11,1),(12,1)] ?_
 conv=>whnf
 refine q2 ?_
 conv=>whnf
 refine q1 ?_
 conv=>whnf
 obtain ⟨x_4, hx_4, h⟩ := bS h
 refine q3 (ixP_of hx_4 rr) ?_
 conv=>whnf
 refine q2 ?_
 conv=>whnf
 obtain ⟨r_5, hc6, h⟩ := bS h
 refine q1 ?_ (fun _ => pe (P199 x_4 r_5 hc6) rr)
 conv=>whnf
 refine q1 ?_
 conv=>whnf
 refine cB h (fun hb7 h => ?_) (fun hb7 h => ?_)
 ·conv=>whnf
  obtain ⟨_, hc8, h⟩ := bS h
  refine q1 ?_ (fun _ => pe (P203  hc8) rr)
  conv=>whnf
  refine q2 ?_
  conv=>whnf
  refine q1 ?_
  conv=>whnf
  obtain ⟨r_9, hc10, h⟩ := bS h
  refine q1 ?_ (fun _ => pe (P208 c_2 i_1 r_9 hc10) rr)
  conv=>whnf
  refine q1 ?_
  conv=>whnf
  refine q1 ?_
  conv=>whnf
  refine q1 ?_
  conv=>whnf
  refine Tr.ret ?_
  conv=>whnf
  cases h
  rfl
 conv=>whnf
 refine q1 ?_
 conv=>whnf
 refine q1 ?_
 conv=>whnf
 refine Tr.ret ?_
 conv=>whnf
 cases h
 rfl
end Go.Proofs.Tryz
