/- Contracts of functions, by program (gen.py). No condition. -/
import Derived.Test.YtapjficbenpaeaaGreatZL
import Derived.Test.YtapjficbenpaeaaGreatZM
import Derived.Test.YtapjficbenpaeaaGreatZS10
namespace Go.Proofs.Tryz
open Go Go.Abs Go.Stop
set_option maxRecDepth 8000
set_option linter.unusedVariables false
set_option linter.unusedSimpArgs false
theorem P1255 (l_1 : List TTotal) (r_2 : Bool) (h : M1255 l_1 = some r_2) :
    PC prog 22 [(.ls (List.map eTTotal l_1))] (fun rs => rs = [(.b r_2)]) := by
 refine PC.of_tr (cx := ⟨20, none, lay, 0⟩) layOK func22 rfl rfl rfl rfl rfl (by simp [f22]) ?_
 unfold M1255 at h
 refine Tr.seq ?_
 refine rg ?_
 conv => whnf
 refine Tr.seq ?_
 refine Tr.seq ?_
 refine rg ?_
 conv => whnf
 refine lnS_map ?_
 conv => whnf
 refine Tr.cond ?_
 conv => whnf
 refine cB h (fun hb3 h => ?_) (fun hb3 h => ?_)
 ·refine Tr.seq ?_
  refine rg ?_
  conv => whnf
  refine Tr.ret ?_
  conv => whnf
  cases h
  rfl
 refine Tr.skip ?_
 conv => whnf
 refine Tr.seq ?_
 refine Tr.seq ?_
 refine rg ?_
 conv => whnf
 refine Tr.cutQ (α := Unit) (fun s => ([(2, .d (.b false))], [])) (fun s => M1254 s = some r_2) ?_ ?_
 ·refine Tr.block ?_
  refine Tr.loopM (σ := Int) (fun n s => M1253 l_1 M1254 n s) r_2 (fun s => ([(0, .d (.ls (List.map eTTotal l_1))), (2, .d (.b false)), (3, (dI s))], [])) (((((l_1).length : Int)) - 0 : Int).toNat + 1) (0) h (fun s => rfl) (Wk.mk2 [] 0 rfl rfl (by decide) rfl trivial ⟨rr, rr, rr, trivial⟩) ?_
  clear h
  rintro n_6 i_5 h
  replace h : M1253 l_1 M1254 (n_6 + 1) i_5 = some r_2 := h
  rw [M1253] at h
  refine Tr.seq ?_
  refine Tr.seq ?_
  refine rg ?_
  conv => whnf
  refine lnS_map ?_
  conv => whnf
  refine Tr.cond ?_
  conv => whnf
  refine cB h (fun hb9 h => ?_) (fun hb9 h => ?_)
  ·refine Tr.skip ?_
   conv => whnf
   refine Tr.seq ?_
   refine Tr.block ?_
   refine Tr.seq ?_
   refine rg ?_
   conv => whnf
   obtain ⟨x_10, hx_10, h⟩ := bS h
   refine ixP_of hx_10 ?_
   conv => whnf
   refine lnS_map ?_
   conv => whnf
   refine Tr.cond ?_
   conv => whnf
   refine cB h (fun hb11 h => ?_) (fun hb11 h => ?_)
   ·refine Tr.seq ?_
    refine rg ?_
    conv => whnf
    refine Tr.ret ?_
    conv => whnf
    cases h
    rfl
   refine Tr.skip ?_
   conv => whnf
   refine rg ?_
   conv => whnf
   refine arS_raw ?_
   conv => whnf
   refine ⟨((w64 (i_5 + 1))), h, ?_⟩
   exact Wk.mk2 [] 0 rfl rfl (by decide) rfl trivial ⟨rr, rr, rr, trivial⟩
  refine Tr.exit ?_
  conv => whnf
  refine ⟨(), h, ?_⟩
  exact Wk.mk2 [] 0 rfl rfl (by decide) rfl trivial ⟨rr, trivial⟩
 clear h
 rintro _ h T1 H1 hw
 replace h : M1254 () = some r_2 := h
 conv => whnf
 refine Tr.weak hw ?_
 unfold M1254 at h
 refine Tr.seq ?_
 refine rg ?_
 conv => whnf
 refine Tr.ret ?_
 conv => whnf
 cases h
 rfl
theorem P1258 (l_1 : List TTotal) (r_2 : Bool) (h : M1258 l_1 = some r_2) :
    PC prog 30 [(.ls (List.map eTTotal l_1))] (fun rs => rs = [(.b r_2)]) := by
 refine PC.of_tr (cx := ⟨84, none, lay, 0⟩) layOK func30 rfl rfl rfl rfl rfl (by simp [f30]) ?_
 unfold M1258 at h
 refine Tr.seq ?_
 refine rg ?_
 conv => whnf
 refine Tr.seq ?_
 refine Tr.seq ?_
 refine rg ?_
 conv => whnf
 refine Tr.cutQ (α := Unit) (fun s => ([(2, .d (.b false))], [])) (fun s => M1257 s = some r_2) ?_ ?_
 ·refine Tr.block ?_
  refine Tr.loopM (σ := Int) (fun n s => M1256 l_1 M1257 n s) r_2 (fun s => ([(0, .d (.ls (List.map eTTotal l_1))), (2, .d (.b false)), (3, (dI s))], [])) (((((l_1).length : Int)) - 0 : Int).toNat + 1) (0) h (fun s => rfl) (Wk.mk2 [] 0 rfl rfl (by decide) rfl trivial ⟨rr, rr, rr, trivial⟩) ?_
  clear h
  rintro n_5 i_4 h
  replace h : M1256 l_1 M1257 (n_5 + 1) i_4 = some r_2 := h
  rw [M1256] at h
  refine Tr.seq ?_
  refine Tr.seq ?_
  refine rg ?_
  conv => whnf
  refine lnS_map ?_
  conv => whnf
  refine Tr.cond ?_
  conv => whnf
  refine cB h (fun hb8 h => ?_) (fun hb8 h => ?_)
  ·refine Tr.skip ?_
   conv => whnf
   refine Tr.seq ?_
   refine Tr.block ?_
   refine Tr.seq ?_
   refine rg ?_
   conv => whnf
   obtain ⟨x_9, hx_9, h⟩ := bS h
   refine ixP_of hx_9 ?_
   conv => whnf
   obtain ⟨⟨r_10, r_11⟩, hc12, h⟩ := bS h
   refine PC.ecall (P1252 x_9.Sums r_10 r_11 hc12) (fun rs hrs => ?_)
   subst hrs
   conv => whnf
   refine Tr.seq ?_
   obtain ⟨v_13, hv14, h⟩ := bS h
   refine Tr.cutQ1 ([(0, .d (.ls (List.map eTTotal l_1))), (2, .d (.b false)), (3, (dI i_4)), (83, .d (.b v_13))]) ([]) ?_ (fun T1 H1 hw => ?_)
   ·replace h := hv14; clear hv14
    refine Tr.draw (DrawP.seqQ layOK mixed [] [(0, 1), (1, 1), (2, 2), (3, 2), (4, 2), (5, 1), (6, 1), (7, 1), (8, 1), (9, 2), (10, 2), (11, 2), (12, 1), (13, 1), (14, 1), (15, 1), (16, 1), (17, 1), (18, 1), (19, 1), (20, 2), (21, 2), (22, 2), (23, 1), (24, 1), (25, 1), (26, 2), (27, 2), (28, 2), (29, 1), (30, 1), (31, 1), (32, 1), (33, 1), (34, 1), (35, 1), (36, 1), (37, 1), (38, 1), (39, 1), (40, 2), (41, 2), (42, 2), (43, 1), (44, 1), (45, 1), (46, 1), (47, 1), (48, 1), (49, 2), (50, 2), (51, 2), (52, 2), (53, 1), (54, 1), (55, 1), (56, 1), (57, 2), (58, 2), (59, 2), (60, 1), (61, 1), (62, 1)] (by kernel_rfl) ?_)
    conv => whnf
    refine ⟨_, (fun _ => rr), ?_⟩
    conv => whnf
    refine ⟨_, (fun _ => rr), ?_⟩
    conv => whnf
    obtain ⟨x_15, hx_15, h⟩ := bS h
    refine ⟨_, ⟨rfl, rfl, (by (conv => whnf); (refine ixP_of hx_15 ?_); (conv => whnf); (exact rr))⟩, ?_⟩
    conv => whnf
    refine ⟨_, ⟨rfl, rfl, rr⟩, ?_⟩
    conv => whnf
    refine ⟨_, ⟨rfl, rfl, rr⟩, ?_⟩
    conv => whnf
    refine ⟨_, (fun _ => rr), ?_⟩
    conv => whnf
    refine ⟨_, (fun _ => rr), ?_⟩
    conv => whnf
    refine cB h (fun hb16 h => ?_) (fun hb16 h => ?_)
    ·conv => whnf
     refine ⟨_, (fun _ => rr), ?_⟩
     conv => whnf
     refine ⟨_, (fun _ => rr), ?_⟩
     conv => whnf
     refine ⟨_, (fun _ => rr), ?_⟩
     conv => whnf
     refine ⟨_, (fun _ => rr), ?_⟩
     conv => whnf
     refine ⟨_, (fun _ => rr), ?_⟩
     conv => whnf
     refine ⟨_, (fun _ => rr), ?_⟩
     conv => whnf
     refine ⟨_, (fun _ => rr), ?_⟩
     conv => whnf
     refine ⟨_, (fun _ => rr), ?_⟩
     conv => whnf
     refine ⟨_, (fun _ => rr), ?_⟩
     conv => whnf
     cases h
     exact Wk.mk2 [] 0 rfl rfl (by decide) rfl trivial ⟨rr, rr, rr, rr, trivial⟩
    conv => whnf
    refine ⟨_, (fun _ => rr), ?_⟩
    conv => whnf
    refine ⟨_, (fun _ => rr), ?_⟩
    conv => whnf
    obtain ⟨x_17, hx_17, h⟩ := bS h
    refine ⟨_, ⟨rfl, rfl, (by (conv => whnf); (refine ixP_of hx_17 ?_); (conv => whnf); (exact rr))⟩, ?_⟩
    conv => whnf
    refine ⟨_, ⟨rfl, rfl, rr⟩, ?_⟩
    conv => whnf
    refine ⟨_, ⟨rfl, rfl, rr⟩, ?_⟩
    conv => whnf
    refine ⟨_, (fun _ => rr), ?_⟩
    conv => whnf
    refine ⟨_, (fun _ => rr), ?_⟩
    conv => whnf
    refine ⟨_, (fun _ => rr), ?_⟩
    conv => whnf
    refine cB h (fun hb18 h => ?_) (fun hb18 h => ?_)
    ·conv => whnf
     refine ⟨_, (fun _ => rr), ?_⟩
     conv => whnf
     refine ⟨_, (fun _ => rr), ?_⟩
     conv => whnf
     refine ⟨_, (fun _ => rr), ?_⟩
     conv => whnf
     refine ⟨_, (fun _ => rr), ?_⟩
     conv => whnf
     refine ⟨_, (fun _ => rr), ?_⟩
     conv => whnf
     refine ⟨_, (fun _ => rr), ?_⟩
     conv => whnf
     refine ⟨_, (fun _ => rr), ?_⟩
     conv => whnf
     cases h
     exact Wk.mk2 [] 0 rfl rfl (by decide) rfl trivial ⟨rr, rr, rr, rr, trivial⟩
    conv => whnf
    refine ⟨_, (fun _ => rr), ?_⟩
    conv => whnf
    refine ⟨_, (fun _ => rr), ?_⟩
    conv => whnf
    refine ⟨_, (fun _ => rr), ?_⟩
    conv => whnf
    refine cB h (fun hb19 h => ?_) (fun hb19 h => ?_)
    ·conv => whnf
     refine ⟨_, (fun _ => rr), ?_⟩
     conv => whnf
     refine ⟨_, (fun _ => rr), ?_⟩
     conv => whnf
     obtain ⟨x_20, hx_20, h⟩ := bS h
     refine ⟨_, ⟨rfl, rfl, (by (conv => whnf); (refine ixP_of hx_20 ?_); (conv => whnf); (exact rr))⟩, ?_⟩
     conv => whnf
     refine ⟨_, ⟨rfl, rfl, rr⟩, ?_⟩
     conv => whnf
     refine ⟨_, ⟨rfl, rfl, rr⟩, ?_⟩
     conv => whnf
     refine ⟨_, (fun _ => rr), ?_⟩
     conv => whnf
     refine ⟨_, (fun _ => rr), ?_⟩
     conv => whnf
     refine ⟨_, (fun _ => by (conv => whnf); (refine arS_raw ?_); (conv => whnf); (exact rr)), ?_⟩
     conv => whnf
     obtain ⟨x_21, hx_21, h⟩ := bS h
     refine ⟨_, ⟨rfl, rfl, (by (conv => whnf); (refine ixP_of hx_21 ?_); (conv => whnf); (exact rr))⟩, ?_⟩
     conv => whnf
     refine ⟨_, ⟨rfl, rfl, rr⟩, ?_⟩
     conv => whnf
     refine ⟨_, ⟨rfl, rfl, rr⟩, ?_⟩
     conv => whnf
     refine ⟨_, (fun _ => rr), ?_⟩
     conv => whnf
     refine ⟨_, (fun _ => rr), ?_⟩
     conv => whnf
     refine ⟨_, (fun _ => rr), ?_⟩
     conv => whnf
     refine ⟨_, (fun _ => rr), ?_⟩
     conv => whnf
     refine cB h (fun hb22 h => ?_) (fun hb22 h => ?_)
     ·conv => whnf
      refine ⟨_, (fun _ => rr), ?_⟩
      conv => whnf
      refine ⟨_, (fun _ => rr), ?_⟩
      conv => whnf
      refine ⟨_, (fun _ => rr), ?_⟩
      conv => whnf
      refine ⟨_, (fun _ => rr), ?_⟩
      conv => whnf
      refine ⟨_, (fun _ => rr), ?_⟩
      conv => whnf
      cases h
      exact Wk.mk2 [] 0 rfl rfl (by decide) rfl trivial ⟨rr, rr, rr, rr, trivial⟩
     conv => whnf
     refine ⟨_, (fun _ => rr), ?_⟩
     conv => whnf
     refine ⟨_, (fun _ => rr), ?_⟩
     conv => whnf
     refine ⟨_, (fun _ => rr), ?_⟩
     conv => whnf
     refine ⟨_, (fun _ => rr), ?_⟩
     conv => whnf
     refine cB h (fun hb23 h => ?_) (fun hb23 h => ?_)
     ·conv => whnf
      refine ⟨_, (fun _ => rr), ?_⟩
      conv => whnf
      refine ⟨_, (fun _ => rr), ?_⟩
      conv => whnf
      refine ⟨_, (fun _ => rr), ?_⟩
      conv => whnf
      cases h
      exact Wk.mk2 [] 0 rfl rfl (by decide) rfl trivial ⟨rr, rr, rr, rr, trivial⟩
     conv => whnf
     refine ⟨_, (fun _ => rr), ?_⟩
     conv => whnf
     refine ⟨_, (fun _ => rr), ?_⟩
     conv => whnf
     refine ⟨_, (fun _ => rr), ?_⟩
     conv => whnf
     obtain ⟨x_24, hx_24, h⟩ := bS h
     refine ⟨_, ⟨rfl, rfl, (by (conv => whnf); (refine ixP_of hx_24 ?_); (conv => whnf); (exact rr))⟩, ?_⟩
     conv => whnf
     refine ⟨_, ⟨rfl, rfl, rr⟩, ?_⟩
     conv => whnf
     refine ⟨_, ⟨rfl, rfl, rr⟩, ?_⟩
     conv => whnf
     obtain ⟨r_25, hc26, h⟩ := bS h
     refine ⟨_, (fun _ => by (conv => whnf); (refine PC.ecall (P1193 r_10 x_24.Sums r_25 hc26) (fun rs hrs => ?_)); (subst hrs); (conv => whnf); (exact rr)), ?_⟩
     conv => whnf
     refine ⟨_, (fun _ => rr), ?_⟩
     conv => whnf
     refine ⟨_, (fun _ => rr), ?_⟩
     conv => whnf
     refine ⟨_, (fun _ => rr), ?_⟩
     conv => whnf
     refine cB h (fun hb27 h => ?_) (fun hb27 h => ?_)
     ·conv => whnf
      refine ⟨_, (fun _ => rr), ?_⟩
      conv => whnf
      cases h
      exact Wk.mk2 [] 0 rfl rfl (by decide) rfl trivial ⟨rr, rr, rr, rr, trivial⟩
     conv => whnf
     refine ⟨_, (fun _ => rr), ?_⟩
     conv => whnf
     refine ⟨_, (fun _ => rr), ?_⟩
     conv => whnf
     obtain ⟨x_28, hx_28, h⟩ := bS h
     refine ⟨_, ⟨rfl, rfl, (by (conv => whnf); (refine ixP_of hx_28 ?_); (conv => whnf); (exact rr))⟩, ?_⟩
     conv => whnf
     refine ⟨_, ⟨rfl, rfl, rr⟩, ?_⟩
     conv => whnf
     refine ⟨_, ⟨rfl, rfl, rr⟩, ?_⟩
     conv => whnf
     refine ⟨_, ⟨rfl, rfl, (by (conv => whnf); (refine lnS_map ?_); (conv => whnf); (exact rr))⟩, ?_⟩
     conv => whnf
     refine ⟨_, (fun _ => rr), ?_⟩
     conv => whnf
     refine ⟨_, (fun _ => rr), ?_⟩
     conv => whnf
     refine cB h (fun hb29 h => ?_) (fun hb29 h => ?_)
     ·conv => whnf
      refine ⟨_, (fun _ => rr), ?_⟩
      conv => whnf
      refine ⟨_, (fun _ => rr), ?_⟩
      conv => whnf
      obtain ⟨x_30, hx_30, h⟩ := bS h
      refine ⟨_, ⟨rfl, rfl, (by (conv => whnf); (refine ixP_of hx_30 ?_); (conv => whnf); (exact rr))⟩, ?_⟩
      conv => whnf
      refine ⟨_, ⟨rfl, rfl, rr⟩, ?_⟩
      conv => whnf
      refine ⟨_, ⟨rfl, rfl, rr⟩, ?_⟩
      conv => whnf
      refine ⟨_, (fun _ => rr), ?_⟩
      conv => whnf
      refine ⟨_, (fun _ => rr), ?_⟩
      conv => whnf
      refine ⟨_, (fun _ => rr), ?_⟩
      conv => whnf
      cases h
      exact Wk.mk2 [] 0 rfl rfl (by decide) rfl trivial ⟨rr, rr, rr, rr, trivial⟩
     conv => whnf
     refine ⟨_, (fun _ => rr), ?_⟩
     conv => whnf
     refine ⟨_, (fun _ => rr), ?_⟩
     conv => whnf
     cases h
     exact Wk.mk2 [] 0 rfl rfl (by decide) rfl trivial ⟨rr, rr, rr, rr, trivial⟩
    conv => whnf
    refine ⟨_, (fun _ => rr), ?_⟩
    conv => whnf
    refine ⟨_, (fun _ => rr), ?_⟩
    conv => whnf
    refine ⟨_, (fun _ => rr), ?_⟩
    conv => whnf
    refine ⟨_, (fun _ => rr), ?_⟩
    conv => whnf
    refine ⟨_, (fun _ => rr), ?_⟩
    conv => whnf
    refine ⟨_, (fun _ => rr), ?_⟩
    conv => whnf
    refine ⟨_, (fun _ => rr), ?_⟩
    conv => whnf
    refine cB h (fun hb31 h => ?_) (fun hb31 h => ?_)
    ·conv => whnf
     refine ⟨_, (fun _ => rr), ?_⟩
     conv => whnf
     refine ⟨_, (fun _ => rr), ?_⟩
     conv => whnf
     refine ⟨_, (fun _ => rr), ?_⟩
     conv => whnf
     cases h
     exact Wk.mk2 [] 0 rfl rfl (by decide) rfl trivial ⟨rr, rr, rr, rr, trivial⟩
    conv => whnf
    refine ⟨_, (fun _ => rr), ?_⟩
    conv => whnf
    refine ⟨_, (fun _ => rr), ?_⟩
    conv => whnf
    refine ⟨_, (fun _ => rr), ?_⟩
    conv => whnf
    obtain ⟨x_32, hx_32, h⟩ := bS h
    refine ⟨_, ⟨rfl, rfl, (by (conv => whnf); (refine ixP_of hx_32 ?_); (conv => whnf); (exact rr))⟩, ?_⟩
    conv => whnf
    refine ⟨_, ⟨rfl, rfl, rr⟩, ?_⟩
    conv => whnf
    refine ⟨_, ⟨rfl, rfl, rr⟩, ?_⟩
    conv => whnf
    obtain ⟨r_33, hc34, h⟩ := bS h
    refine ⟨_, (fun _ => by (conv => whnf); (refine PC.ecall (P1193 r_10 x_32.Sums r_33 hc34) (fun rs hrs => ?_)); (subst hrs); (conv => whnf); (exact rr)), ?_⟩
    conv => whnf
    refine ⟨_, (fun _ => rr), ?_⟩
    conv => whnf
    refine ⟨_, (fun _ => rr), ?_⟩
    conv => whnf
    refine ⟨_, (fun _ => rr), ?_⟩
    conv => whnf
    refine cB h (fun hb35 h => ?_) (fun hb35 h => ?_)
    ·conv => whnf
     refine ⟨_, (fun _ => rr), ?_⟩
     conv => whnf
     cases h
     exact Wk.mk2 [] 0 rfl rfl (by decide) rfl trivial ⟨rr, rr, rr, rr, trivial⟩
    conv => whnf
    refine ⟨_, (fun _ => rr), ?_⟩
    conv => whnf
    refine ⟨_, (fun _ => rr), ?_⟩
    conv => whnf
    obtain ⟨x_36, hx_36, h⟩ := bS h
    refine ⟨_, ⟨rfl, rfl, (by (conv => whnf); (refine ixP_of hx_36 ?_); (conv => whnf); (exact rr))⟩, ?_⟩
    conv => whnf
    refine ⟨_, ⟨rfl, rfl, rr⟩, ?_⟩
    conv => whnf
    refine ⟨_, ⟨rfl, rfl, rr⟩, ?_⟩
    conv => whnf
    refine ⟨_, ⟨rfl, rfl, (by (conv => whnf); (refine lnS_map ?_); (conv => whnf); (exact rr))⟩, ?_⟩
    conv => whnf
    refine ⟨_, (fun _ => rr), ?_⟩
    conv => whnf
    refine ⟨_, (fun _ => rr), ?_⟩
    conv => whnf
    refine cB h (fun hb37 h => ?_) (fun hb37 h => ?_)
    ·conv => whnf
     refine ⟨_, (fun _ => rr), ?_⟩
     conv => whnf
     refine ⟨_, (fun _ => rr), ?_⟩
     conv => whnf
     obtain ⟨x_38, hx_38, h⟩ := bS h
     refine ⟨_, ⟨rfl, rfl, (by (conv => whnf); (refine ixP_of hx_38 ?_); (conv => whnf); (exact rr))⟩, ?_⟩
     conv => whnf
     refine ⟨_, ⟨rfl, rfl, rr⟩, ?_⟩
     conv => whnf
     refine ⟨_, ⟨rfl, rfl, rr⟩, ?_⟩
     conv => whnf
     refine ⟨_, (fun _ => rr), ?_⟩
     conv => whnf
     refine ⟨_, (fun _ => rr), ?_⟩
     conv => whnf
     refine ⟨_, (fun _ => rr), ?_⟩
     conv => whnf
     cases h
     exact Wk.mk2 [] 0 rfl rfl (by decide) rfl trivial ⟨rr, rr, rr, rr, trivial⟩
    conv => whnf
    refine ⟨_, (fun _ => rr), ?_⟩
    conv => whnf
    refine ⟨_, (fun _ => rr), ?_⟩
    conv => whnf
    cases h
    exact Wk.mk2 [] 0 rfl rfl (by decide) rfl trivial ⟨rr, rr, rr, rr, trivial⟩
   clear hv14
   conv => whnf
   refine Tr.weak hw ?_
   refine Tr.cond ?_
   conv => whnf
   refine cB h (fun hb39 h => ?_) (fun hb39 h => ?_)
   ·refine Tr.seq ?_
    refine rg ?_
    conv => whnf
    refine Tr.ret ?_
    conv => whnf
    cases h
    rfl
   refine Tr.skip ?_
   conv => whnf
   refine rg ?_
   conv => whnf
   refine arS_raw ?_
   conv => whnf
   refine ⟨((w64 (i_4 + 1))), h, ?_⟩
   exact Wk.mk2 [] 0 rfl rfl (by decide) rfl trivial ⟨rr, rr, rr, trivial⟩
  refine Tr.exit ?_
  conv => whnf
  refine ⟨(), h, ?_⟩
  exact Wk.mk2 [] 0 rfl rfl (by decide) rfl trivial ⟨rr, trivial⟩
 clear h
 rintro _ h T1 H1 hw
 replace h : M1257 () = some r_2 := h
 conv => whnf
 refine Tr.weak hw ?_
 unfold M1257 at h
 refine Tr.seq ?_
 refine rg ?_
 conv => whnf
 refine Tr.ret ?_
 conv => whnf
 cases h
 rfl
theorem P1278 (l_1 : List TTotal) (amount_2 : Int) (most_3 : Int) (r_4 : Bool) (h : M1278 l_1 amount_2 most_3 = some r_4) :
    PC prog 9 [(.ls (List.map eTTotal l_1)), (.i .i64 amount_2), (.i .i64 most_3)] (fun rs => rs = [(.b r_4)]) := by
 refine PC.of_tr (cx := ⟨144, none, lay, 0⟩) layOK func9 rfl rfl rfl rfl rfl (by simp [f9]) ?_
 unfold M1278 at h
 refine Tr.seq ?_
 refine rg ?_
 conv => whnf
 refine Tr.seq ?_
 refine Tr.seq ?_
 refine rg ?_
 conv => whnf
 obtain ⟨r_5, hc6, h⟩ := bS h
 refine PC.ecall (P1243 r_5 hc6) (fun rs hrs => ?_)
 subst hrs
 conv => whnf
 refine Tr.cond ?_
 conv => whnf
 refine cB h (fun hb7 h => ?_) (fun hb7 h => ?_)
 ·refine Tr.seq ?_
  refine rg ?_
  conv => whnf
  refine Tr.ret ?_
  conv => whnf
  cases h
  rfl
 refine Tr.skip ?_
 conv => whnf
 refine Tr.seq ?_
 refine Tr.seq ?_
 obtain ⟨v_8, hv9, h⟩ := bS h
 refine Tr.cutQ1 ([(0, .d (.ls (List.map eTTotal l_1))), (1, (dI amount_2)), (2, (dI most_3)), (6, .d (.b false)), (42, .d (.b v_8))]) ([]) ?_ (fun T1 H1 hw => ?_)
 ·replace h := hv9; clear hv9
  refine rg ?_
  conv => whnf
  obtain ⟨r_10, hc11, h⟩ := bS h
  refine PC.ecall (P1255 l_1 r_10 hc11) (fun rs hrs => ?_)
  subst hrs
  conv => whnf
  refine cB h (fun hb12 h => ?_) (fun hb12 h => ?_)
  ·conv => whnf
   cases h
   exact Wk.mk2 [] 0 rfl rfl (by decide) rfl trivial ⟨rr, rr, rr, rr, rr, trivial⟩
  conv => whnf
  obtain ⟨r_13, hc14, h⟩ := bS h
  refine PC.ecall (P1258 l_1 r_13 hc14) (fun rs hrs => ?_)
  subst hrs
  conv => whnf
  refine cB h (fun hb15 h => ?_) (fun hb15 h => ?_)
  ·conv => whnf
   cases h
   exact Wk.mk2 [] 0 rfl rfl (by decide) rfl trivial ⟨rr, rr, rr, rr, rr, trivial⟩
  conv => whnf
  refine cB h (fun hb16 h => ?_) (fun hb16 h => ?_)
  ·conv => whnf
   cases h
   exact Wk.mk2 [] 0 rfl rfl (by decide) rfl trivial ⟨rr, rr, rr, rr, rr, trivial⟩
  conv => whnf
  cases h
  exact Wk.mk2 [] 0 rfl rfl (by decide) rfl trivial ⟨rr, rr, rr, rr, rr, trivial⟩
 clear hv9
 conv => whnf
 refine Tr.weak hw ?_
 refine Tr.cond ?_
 conv => whnf
 refine cB h (fun hb17 h => ?_) (fun hb17 h => ?_)
 ·refine Tr.seq ?_
  refine rg ?_
  conv => whnf
  refine Tr.ret ?_
  conv => whnf
  cases h
  rfl
 refine Tr.skip ?_
 conv => whnf
 refine Tr.seq ?_
 refine rg ?_
 conv => whnf
 refine Tr.seq ?_
 refine Tr.seq ?_
 refine rg ?_
 conv => whnf
 obtain ⟨⟨l_27, l_28, l_29⟩, hv37, h⟩ := bS h
 refine Tr.cutQ1 ([(0, .d (.ls (List.map eTTotal l_1))), (2, (dI most_3)), (6, .d (.b false)), (7, .sl 0 1 0 (List.length l_27)), (8, .sl 1 1 0 (List.length l_28)), (9, .sl 2 1 0 (List.length l_29))]) ([some (.arr 1 (List.map .d (List.map eI l_27))), some (.arr 1 (List.map .d (List.map eI l_28))), some (.arr 1 (List.map .d (List.map eI l_29)))]) ?_ (fun T1 H1 hw => ?_)
 ·replace h := hv37; clear hv37
  refine Tr.block ?_
  refine Tr.loopM (σ := Int × List Int × List Int × List Int) (fun n s => M1277 l_1 amount_2 n s.1 s.2.1 s.2.2.1 s.2.2.2) (l_27, l_28, l_29) (fun s => ([(0, .d (.ls (List.map eTTotal l_1))), (1, (dI amount_2)), (2, (dI most_3)), (6, .d (.b false)), (7, .sl 0 1 0 (List.length s.2.1)), (8, .sl 1 1 0 (List.length s.2.2.1)), (9, .sl 2 1 0 (List.length s.2.2.2)), (10, (dI s.1))], [some (.arr 1 (List.map .d (List.map eI s.2.1))), some (.arr 1 (List.map .d (List.map eI s.2.2.1))), some (.arr 1 (List.map .d (List.map eI s.2.2.2)))])) (((((l_1).length : Int)) - 0 : Int).toNat + 1) (0, (([] : List Int)), (([] : List Int)), (([] : List Int))) h (fun s => rfl) (Wk.mk2 [0, 2, 4] 0 rfl rfl (by decide) rfl ⟨rfl, rfl, rfl, trivial⟩ ⟨rr, rr, rr, rr, ⟨rfl, (by first | rfl | (simp only [↓hb7, ↓hb17, bl]; done) | (simp only [↓hb7, ↓hb17, bl]; rfl))⟩, ⟨rfl, (by first | rfl | (simp only [↓hb7, ↓hb17, bl]; done) | (simp only [↓hb7, ↓hb17, bl]; rfl))⟩, ⟨rfl, (by first | rfl | (simp only [↓hb7, ↓hb17, bl]; done) | (simp only [↓hb7, ↓hb17, bl]; rfl))⟩, rr, trivial⟩) ?_
  clear h
  rintro n_26 ⟨i_22, l_23, l_24, l_25⟩ h
  replace h : M1277 l_1 amount_2 (n_26 + 1) i_22 l_23 l_24 l_25 = some (l_27, l_28, l_29) := h
  rw [M1277] at h
  refine Tr.seq ?_
  refine Tr.seq ?_
  refine rg ?_
  conv => whnf
  refine lnS_map ?_
  conv => whnf
  refine Tr.cond ?_
  conv => whnf
  refine cB h (fun hb32 h => ?_) (fun hb32 h => ?_)
  ·refine Tr.skip ?_
   conv => whnf
   refine Tr.seq ?_
   refine Tr.block ?_
   refine Tr.seq ?_
   refine rg ?_
   conv => whnf
   obtain ⟨x_33, hx_33, h⟩ := bS h
   refine ixP_of hx_33 ?_
   conv => whnf
   refine orB_r ?_
   conv => whnf
   refine frP_no ?_
   conv => whnf
   refine eqS_mk (by first | rfl | simp) ?_
   conv => whnf
   obtain ⟨l_34, hl_34, h⟩ := bS h
   refine apS_of hl_34 (aQ (f := eI) (l := (([x_33.Bib] : List Int))) fun _ => rfl) (by first | rfl | simp) (by first | rfl | simp) (fun he => ?_)
   conv => whnf
   refine rS (es' := List.map .d (List.map eI l_34)) (n' := List.length l_34) (by subst he; simp only [List.map_append, List.map_cons, List.map_nil, List.nil_append]; first | done | rfl) (by subst he; simp <;> omega) ?_
   clear he
   conv => whnf
   refine Tr.seq ?_
   refine rg ?_
   conv => whnf
   refine orB_r ?_
   conv => whnf
   refine frP_no ?_
   conv => whnf
   refine eqS_mk (by first | rfl | simp) ?_
   conv => whnf
   obtain ⟨l_35, hl_35, h⟩ := bS h
   refine apS_of hl_35 (aQ (f := eI) (l := (([amount_2] : List Int))) fun _ => rfl) (by first | rfl | simp) (by first | rfl | simp) (fun he => ?_)
   conv => whnf
   refine rS (es' := List.map .d (List.map eI l_35)) (n' := List.length l_35) (by subst he; simp only [List.map_append, List.map_cons, List.map_nil, List.nil_append]; first | done | rfl) (by subst he; simp <;> omega) ?_
   clear he
   conv => whnf
   refine rg ?_
   conv => whnf
   refine orB_r ?_
   conv => whnf
   refine frP_no ?_
   conv => whnf
   refine eqS_mk (by first | rfl | simp) ?_
   conv => whnf
   obtain ⟨l_36, hl_36, h⟩ := bS h
   refine apS_of hl_36 (aQ (f := eI) (l := (([0] : List Int))) fun _ => rfl) (by first | rfl | simp) (by first | rfl | simp) (fun he => ?_)
   conv => whnf
   refine rS (es' := List.map .d (List.map eI l_36)) (n' := List.length l_36) (by subst he; simp only [List.map_append, List.map_cons, List.map_nil, List.nil_append]; first | done | rfl) (by subst he; simp <;> omega) ?_
   clear he
   conv => whnf
   refine rg ?_
   conv => whnf
   refine arS_raw ?_
   conv => whnf
   refine ⟨((w64 (i_22 + 1)), l_34, l_35, l_36), h, ?_⟩
   exact Wk.mk2 [3, 4, 5] 6 rfl rfl (by decide) rfl ⟨daS_d rfl, daS_d rfl, daS_d rfl, trivial⟩ ⟨rr, rr, rr, rr, ⟨rfl, (by first | rfl | (simp only [↓hb7, ↓hb17, ↓hb32, bl]; done) | (simp only [↓hb7, ↓hb17, ↓hb32, bl]; rfl))⟩, ⟨rfl, (by first | rfl | (simp only [↓hb7, ↓hb17, ↓hb32, bl]; done) | (simp only [↓hb7, ↓hb17, ↓hb32, bl]; rfl))⟩, ⟨rfl, (by first | rfl | (simp only [↓hb7, ↓hb17, ↓hb32, bl]; done) | (simp only [↓hb7, ↓hb17, ↓hb32, bl]; rfl))⟩, rr, trivial⟩
  refine Tr.exit ?_
  conv => whnf
  cases h
  exact Wk.mk2 [0, 1, 2] 3 rfl rfl (by decide) rfl ⟨daS_d rfl, daS_d rfl, daS_d rfl, trivial⟩ ⟨rr, rr, rr, rr, rr, rr, trivial⟩
 clear hv37
 conv => whnf
 refine Tr.weak hw ?_
 refine Tr.seq ?_
 refine Tr.frz 7 ?_
 conv => whnf
 refine frE_of (f := eI) (l := l_27) rfl ?_
 conv => whnf
 refine Tr.frz 8 ?_
 conv => whnf
 refine frE_of (f := eI) (l := l_28) rfl ?_
 conv => whnf
 refine Tr.frz 9 ?_
 conv => whnf
 refine frE_of (f := eI) (l := l_29) rfl ?_
 conv => whnf
 refine rg ?_
 conv => whnf
 obtain ⟨⟨r_38, r_39⟩, hc40, h⟩ := bS h
 refine PC.ecall (P1239 l_1 l_27 l_29 r_38 r_39 hc40) (fun rs hrs => ?_)
 subst hrs
 conv => whnf
 refine Tr.seq ?_
 refine Tr.seq ?_
 refine rg ?_
 conv => whnf
 refine cB h (fun hb41 h => ?_) (fun hb41 h => ?_)
 ·conv => whnf
  refine Tr.cond ?_
  conv => whnf
  refine Tr.seq ?_
  refine rg ?_
  conv => whnf
  refine Tr.ret ?_
  conv => whnf
  cases h
  rfl
 conv => whnf
 obtain ⟨r_42, hc43, h⟩ := bS h
 refine PC.ecall (P1242 r_38 l_1 r_42 hc43) (fun rs hrs => ?_)
 subst hrs
 conv => whnf
 refine Tr.cond ?_
 conv => whnf
 refine cB h (fun hb44 h => ?_) (fun hb44 h => ?_)
 ·refine Tr.seq ?_
  refine rg ?_
  conv => whnf
  refine Tr.ret ?_
  conv => whnf
  cases h
  rfl
 refine Tr.skip ?_
 conv => whnf
 refine Tr.seq ?_
 refine rg ?_
 conv => whnf
 obtain ⟨⟨r_45, r_46⟩, hc47, h⟩ := bS h
 refine PC.ecall (P1239 l_1 l_27 l_28 r_45 r_46 hc47) (fun rs hrs => ?_)
 subst hrs
 conv => whnf
 refine Tr.seq ?_
 refine Tr.seq ?_
 refine rg ?_
 conv => whnf
 refine Tr.cond ?_
 conv => whnf
 refine cB h (fun hb48 h => ?_) (fun hb48 h => ?_)
 ·refine Tr.seq ?_
  refine rg ?_
  conv => whnf
  refine lnS_map ?_
  conv => whnf
  refine Tr.ret ?_
  conv => whnf
  cases h
  rfl
 refine Tr.skip ?_
 conv => whnf
 refine Tr.seq ?_
 refine rg ?_
 conv => whnf
 obtain ⟨⟨r_49, r_50⟩, hc51, h⟩ := bS h
 refine PC.ecall (P1213 l_1 r_49 r_50 hc51) (fun rs hrs => ?_)
 subst hrs
 conv => whnf
 refine Tr.seq ?_
 refine rg ?_
 conv => whnf
 obtain ⟨⟨r_52, r_53⟩, hc54, h⟩ := bS h
 refine PC.ecall (P1213 r_45 r_52 r_53 hc54) (fun rs hrs => ?_)
 subst hrs
 conv => whnf
 refine Tr.seq ?_
 refine rg ?_
 conv => whnf
 obtain ⟨⟨r_55, r_56, r_57⟩, hc58, h⟩ := bS h
 refine PC.ecall (P1224 l_1 most_3 r_55 r_56 r_57 hc58) (fun rs hrs => ?_)
 subst hrs
 conv => whnf
 refine Tr.seq ?_
 refine rg ?_
 conv => whnf
 obtain ⟨⟨r_59, r_60, r_61⟩, hc62, h⟩ := bS h
 refine PC.ecall (P1224 r_45 most_3 r_59 r_60 r_61 hc62) (fun rs hrs => ?_)
 subst hrs
 conv => whnf
 refine Tr.seq ?_
 obtain ⟨v_63, hv64, h⟩ := bS h
 refine Tr.cutQ1 ([(6, .d (.b v_63))]) ([]) ?_ (fun T1 H1 hw => ?_)
 ·replace h := hv64; clear hv64
  refine rg ?_
  conv => whnf
  refine cB h (fun hb65 h => ?_) (fun hb65 h => ?_)
  ·conv => whnf
   refine cB h (fun hb66 h => ?_) (fun hb66 h => ?_)
   ·conv => whnf
    refine cB h (fun hb67 h => ?_) (fun hb67 h => ?_)
    ·conv => whnf
     refine cB h (fun hb68 h => ?_) (fun hb68 h => ?_)
     ·conv => whnf
      obtain ⟨r_69, hc70, h⟩ := bS h
      refine PC.ecall (P1227 r_49 r_52 r_69 hc70) (fun rs hrs => ?_)
      subst hrs
      conv => whnf
      refine cB h (fun hb71 h => ?_) (fun hb71 h => ?_)
      ·conv => whnf
       obtain ⟨r_72, hc73, h⟩ := bS h
       refine PC.ecall (P1227 r_55 r_59 r_72 hc73) (fun rs hrs => ?_)
       subst hrs
       conv => whnf
       refine cB h (fun hb74 h => ?_) (fun hb74 h => ?_)
       ·conv => whnf
        obtain ⟨r_75, hc76, h⟩ := bS h
        refine PC.ecall (P1227 r_56 r_60 r_75 hc76) (fun rs hrs => ?_)
        subst hrs
        conv => whnf
        cases h
        exact Wk.mk2 [] 3 rfl rfl (by decide) rfl trivial ⟨rr, trivial⟩
       conv => whnf
       cases h
       exact Wk.mk2 [] 3 rfl rfl (by decide) rfl trivial ⟨rr, trivial⟩
      conv => whnf
      cases h
      exact Wk.mk2 [] 3 rfl rfl (by decide) rfl trivial ⟨rr, trivial⟩
     conv => whnf
     cases h
     exact Wk.mk2 [] 3 rfl rfl (by decide) rfl trivial ⟨rr, trivial⟩
    conv => whnf
    cases h
    exact Wk.mk2 [] 3 rfl rfl (by decide) rfl trivial ⟨rr, trivial⟩
   conv => whnf
   cases h
   exact Wk.mk2 [] 3 rfl rfl (by decide) rfl trivial ⟨rr, trivial⟩
  conv => whnf
  cases h
  exact Wk.mk2 [] 3 rfl rfl (by decide) rfl trivial ⟨rr, trivial⟩
 clear hv64
 conv => whnf
 refine Tr.weak hw ?_
 refine Tr.ret ?_
 conv => whnf
 cases h
 rfl
end Go.Proofs.Tryz
