/- Contracts of functions, by program (gen.py). No condition. -/
import Derived.Test.YtapjficbenpaeaaGreatZL
import Derived.Test.YtapjficbenpaeaaGreatZM
import Derived.Test.YtapjficbenpaeaaGreatZS10
namespace Go.Proofs.Tryz
open Go Go.Abs Go.Stop
set_option maxRecDepth 8000
set_option linter.unusedVariables false
set_option linter.unusedSimpArgs false
theorem P1255 (l_1 : List TTotal) (r_2 : Bool) (h : M1255 l_1 = some r_2) :
    PC prog 22 [(.ls (List.map eTTotal l_1))] (fun rs => rs = [(.b r_2)]) := by
 refine PC.of_tr (cx := ⟨20, none, lay, 0⟩) layOK func22 rfl rfl rfl rfl rfl (by simp [f22]) ?_
 unfold M1255 at h
 refine Tr.seq ?_
 refine rg ?_
 conv => whnf
 refine Tr.seq ?_
 refine Tr.seq ?_
 refine rg ?_
 conv => whnf
 refine lnS_map ?_
 conv => whnf
 refine Tr.cond ?_
 conv => whnf
 refine cB h (fun hb3 h => ?_) (fun hb3 h => ?_)
 ·refine Tr.seq ?_
  refine rg ?_
  conv => whnf
  refine Tr.ret ?_
  conv => whnf
  cases h
  rfl
 refine Tr.skip ?_
 conv => whnf
 refine Tr.seq ?_
 refine Tr.seq ?_
 refine rg ?_
 conv => whnf
 refine Tr.cutQ (α := Unit) (fun s => ([(2, .d (.b false))], [])) (fun s => M1254 s = some r_2) ?_ ?_
 ·refine Tr.block ?_
  refine Tr.loopM (σ := Int) (fun n s => M1253 l_1 M1254 n s) r_2 (fun s => ([(0, .d (.ls (List.map eTTotal l_1))), (2, .d (.b false)), (3, (dI s))], [])) (((((l_1).length : Int)) - 0 : Int).toNat + 1) (0) h (fun s => rfl) (Wk.mk2 [] 0 rfl rfl (by decide) rfl trivial ⟨rr, rr, rr, trivial⟩) ?_
  clear h
  rintro n_6 i_5 h
  replace h : M1253 l_1 M1254 (n_6 + 1) i_5 = some r_2 := h
  rw [M1253] at h
  refine Tr.seq ?_
  refine Tr.seq ?_
  refine rg ?_
  conv => whnf
  refine lnS_map ?_
  conv => whnf
  refine Tr.cond ?_
  conv => whnf
  refine cB h (fun hb9 h => ?_) (fun hb9 h => ?_)
  ·refine Tr.skip ?_
   conv => whnf
   refine Tr.seq ?_
   refine Tr.block ?_
   refine Tr.seq ?_
   refine rg ?_
   conv => whnf
   obtain ⟨x_10, hx_10, h⟩ := bS h
   refine ixP_of hx_10 ?_
   conv => whnf
   refine lnS_map ?_
   conv => whnf
   refine Tr.cond ?_
   conv => whnf
   refine cB h (fun hb11 h => ?_) (fun hb11 h => ?_)
   ·refine Tr.seq ?_
    refine rg ?_
    conv => whnf
    refine Tr.ret ?_
    conv => whnf
    cases h
    rfl
   refine Tr.skip ?_
   conv => whnf
   refine rg ?_
   conv => whnf
   refine arS_raw ?_
   conv => whnf
   refine ⟨((w64 (i_5 + 1))), h, ?_⟩
   exact Wk.mk2 [] 0 rfl rfl (by decide) rfl trivial ⟨rr, rr, rr, trivial⟩
  refine Tr.exit ?_
  conv => whnf
  refine ⟨(), h, ?_⟩
  exact Wk.mk2 [] 0 rfl rfl (by decide) rfl trivial ⟨rr, trivial⟩
 clear h
 rintro _ h T1 H1 hw
 replace h : M1254 () = some r_2 := h
 conv => whnf
 refine Tr.weak hw ?_
 unfold M1254 at h
 refine Tr.seq ?_
 refine rg ?_
 conv => whnf
 refine Tr.ret ?_
 conv => whnf
 cases h
 rfl
theorem P1258 (l_1 : List TTotal) (r_2 : Bool) (h : M1258 l_1 = some r_2) :
    PC prog 30 [(.ls (List.map eTTotal l_1))] (fun rs => rs = [(.b r_2)]) := by
 refine PC.of_tr (cx := ⟨84, none, lay, 0⟩) layOK func30 rfl rfl rfl rfl rfl (by simp [f30]) ?_
 unfold M1258 at h
 refine Tr.seq ?_
 refine rg ?_
 conv => whnf
 refine Tr.seq ?_
 refine Tr.seq ?_
 refine rg ?_
 conv => whnf
 refine Tr.cutQ (α := Unit) (fun s => ([(2, .d (.b false))], [])) (fun s => M1257 s = some r_2) ?_ ?_
 ·refine Tr.block ?_
  refine Tr.loopM (σ := Int) (fun n s => M1256 l_1 M1257 n s) r_2 (fun s => ([(0, .d (.ls (List.map eTTotal l_1))), (2, .d (.b false)), (3, (dI s))], [])) (((((l_1).length : Int)) - 0 : Int).toNat + 1) (0) h (fun s => rfl) (Wk.mk2 [] 0 rfl rfl (by decide) rfl trivial ⟨rr, rr, rr, trivial⟩) ?_
  clear h
  rintro n_5 i_4 h
  replace h : M1256 l_1 M1257 (n_5 + 1) i_4 = some r_2 := h
  rw [M1256] at h
  refine Tr.seq ?_
  refine Tr.seq ?_
  refine rg ?_
  conv => whnf
  refine lnS_map ?_
  conv => whnf
  refine Tr.cond ?_
  conv => whnf
  refine cB h (fun hb8 h => ?_) (fun hb8 h => ?_)
  ·refine Tr.skip ?_
   conv => whnf
   refine Tr.seq ?_
   refine Tr.block ?_
   refine Tr.seq ?_
   refine rg ?_
   conv => whnf
   obtain ⟨x_9, hx_9, h⟩ := bS h
   refine ixP_of hx_9 ?_
   conv => whnf
   obtain ⟨⟨r_10, r_11⟩, hc12, h⟩ := bS h
   refine PC.ecall (P1252 x_9.Sums r_10 r_11 hc12) (fun rs hrs => ?_)
   subst hrs
   conv => whnf
   refine Tr.seq ?_
   obtain ⟨v_13, hv14, h⟩ := bS h
   refine Tr.cutQ1 ([(0, .d (.ls (List.map eTTotal l_1))), (2, .d (.b false)), (3, (dI i_4)), (83, .d (.b v_13))]) ([]) ?_ (fun T1 H1 hw => ?_)
   ·replace h := hv14; clear hv14
    refine Tr.draw (DrawP.seqQ layOK mixed [] [(0, 1), (1, 1), (2, 2), (3, 2), (4, 2), (5, 1), (6, 1), (7, 1), (8, 1), (9, 2), (10, 2), (11, 2), (12, 1), (13, 1), (14, 1), (15, 1), (16, 1), (17, 1), (18, 1), (19, 1), (20, 2), (21, 2), (22, 2), (23, 1), (24, 1), (25, 1), (26, 2), (27, 2), (28, 2), (29, 1), (30, 1), (31, 1), (32, 1), (33, 1), (34, 1), (35, 1), (36, 1), (37, 1), (38, 1), (39, 1), (40, 2), (41, 2), (42, 2), (43, 1), (44, 1), (45, 1), (46, 1), (47, 1), (48, 1), (49, 2), (50, 2), (51, 2), (52, 2), (53, 1), (54, 1), (55, 1), (56, 1), (57, 2), (58, 2), (59, 2), (60, 1), (61, 1), (62, 1)] (by kernel_rfl) ?_)
    conv => whnf
    refine ⟨_, (fun _ => rr), ?_⟩
    conv => whnf
    refine ⟨_, (fun _ => rr), ?_⟩
    conv => whnf
    obtain ⟨x_15, hx_15, h⟩ := bS h
    refine ⟨_, ⟨rfl, rfl, (by (conv => whnf); (refine ixP_of hx_15 ?_); (conv => whnf); (exact rr))⟩, ?_⟩
    conv => whnf
    refine ⟨_, ⟨rfl, rfl, rr⟩, ?_⟩
    conv => whnf
    refine ⟨_, ⟨rfl, rfl, rr⟩, ?_⟩
    conv => whnf
    refine ⟨_, (fun _ => rr), ?_⟩
    conv => whnf
    refine ⟨_, (fun _ => rr), ?_⟩
    conv => whnf
    refine cB h (fun hb16 h => ?_) (fun hb16 h => ?_)
    ·conv => whnf
     refine ⟨_, (fun _ => rr), ?_⟩
     conv => whnf
     refine ⟨_, (fun _ => rr), ?_⟩
     conv => whnf
     refine ⟨_, (fun _ => rr), ?_⟩
     conv => whnf
     refine ⟨_, (fun _ => rr), ?_⟩
     conv => whnf
     refine ⟨_, (fun _ => rr), ?_⟩
     conv => whnf
     refine ⟨_, (fun _ => rr), ?_⟩
     conv => whnf
     refine ⟨_, (fun _ => rr), ?_⟩
     conv => whnf
     refine ⟨_, (fun _ => rr), ?_⟩
     conv => whnf
     refine ⟨_, (fun _ => rr), ?_⟩
     conv => whnf
     cases h
     exact Wk.mk2 [] 0 rfl rfl (by decide) rfl trivial ⟨rr, rr, rr, rr, trivial⟩
    conv => whnf
    refine ⟨_, (fun _ => rr), ?_⟩
    conv => whnf
    refine ⟨_, (fun _ => rr), ?_⟩
    conv => whnf
    obtain ⟨x_17, hx_17, h⟩ := bS h
    refine ⟨_, ⟨rfl, rfl, (by (conv => whnf); (refine ixP_of hx_17 ?_); (conv => whnf); (exact rr))⟩, ?_⟩
    conv => whnf
    refine ⟨_, ⟨rfl, rfl, rr⟩, ?_⟩
    conv => whnf
    refine ⟨_, ⟨rfl, rfl, rr⟩, ?_⟩
    conv => whnf
    refine ⟨_, (fun _ => rr), ?_⟩
    conv => whnf
    refine ⟨_, (fun _ => rr), ?_⟩
    conv => whnf
    refine ⟨_, (fun _ => rr), ?_⟩
    conv => whnf
    refine cB h (fun hb18 h => ?_) (fun hb18 h => ?_)
    ·conv => whnf
     refine ⟨_, (fun _ => rr), ?_⟩
     conv => whnf
     refine ⟨_, (fun _ => rr), ?_⟩
     conv => whnf
     refine ⟨_, (fun _ => rr), ?_⟩
     conv => whnf
     refine ⟨_, (fun _ => rr), ?_⟩
     conv => whnf
     refine ⟨_, (fun _ => rr), ?_⟩
     conv => whnf
     refine ⟨_, (fun _ => rr), ?_⟩
     conv => whnf
     refine ⟨_, (fun _ => rr), ?_⟩
     conv => whnf
     cases h
     exact Wk.mk2 [] 0 rfl rfl (by decide) rfl trivial ⟨rr, rr, rr, rr, trivial⟩
    conv => whnf
    refine ⟨_, (fun _ => rr), ?_⟩
    conv => whnf
    refine ⟨_, (fun _ => rr), ?_⟩
    conv => whnf
    refine ⟨_, (fun _ => rr), ?_⟩
    conv => whnf
    refine cB h (fun hb19 h => ?_) (fun hb19 h => ?_)
    ·conv => whnf
     refine ⟨_, (fun _ => rr), ?_⟩
     conv => whnf
     refine ⟨_, (fun _ => rr), ?_⟩
     conv => whnf
     obtain ⟨x_20, hx_20, h⟩ := bS h
     refine ⟨_, ⟨rfl, rfl, (by (conv => whnf); (refine ixP_of hx_20 ?_); (conv => whnf); (exact rr))⟩, ?_⟩
     conv => whnf
     refine ⟨_, ⟨rfl, rfl, rr⟩, ?_⟩
     conv => whnf
     refine ⟨_, ⟨rfl, rfl, rr⟩, ?_⟩
     conv => whnf
     refine ⟨_, (fun _ => rr), ?_⟩
     conv => whnf
     refine ⟨_, (fun _ => rr), ?_⟩
     conv => whnf
     refine ⟨_, (fun _ => by (conv => whnf); (refine arS_raw ?_); (conv => whnf); (exact rr)), ?_⟩
     conv => whnf
     obtain ⟨x_21, hx_21, h⟩ := bS h
     refine ⟨_, ⟨rfl, rfl, (by (conv => whnf); (refine ixP_of hx_21 ?_); (conv => whnf); (exact rr))⟩, ?_⟩
     conv => whnf
     refine ⟨_, ⟨rfl, rfl, rr⟩, ?_⟩
     conv => whnf
     refine ⟨_, ⟨rfl, rfl, rr⟩, ?_⟩
     conv => whnf
     refine ⟨_, (fun _ => rr), ?_⟩
     conv => whnf
     refine ⟨_, (fun _ => rr), ?_⟩
     conv => whnf
     refine ⟨_, (fun _ => rr), ?_⟩
     conv => whnf
     refine ⟨_, (fun _ => rr), ?_⟩
     conv => whnf
     refine cB h (fun hb22 h => ?_) (fun hb22 h => ?_)
     ·conv => whnf
      refine ⟨_, (fun _ => rr), ?_⟩
      conv => whnf
      refine ⟨_, (fun _ => rr), ?_⟩
      conv => whnf
      refine ⟨_, (fun _ => rr), ?_⟩
      conv => whnf
      refine ⟨_, (fun _ => rr), ?_⟩
      conv => whnf
      refine ⟨_, (fun _ => rr), ?_⟩
      conv => whnf
      cases h
      exact Wk.mk2 [] 0 rfl rfl (by decide) rfl trivial ⟨rr, rr, rr, rr, trivial⟩
     conv => whnf
     refine ⟨_, (fun _ => rr), ?_⟩
     conv => whnf
     refine ⟨_, (fun _ => rr), ?_⟩
     conv => whnf
     refine ⟨_, (fun _ => rr), ?_⟩
     conv => whnf
     refine ⟨_, (fun _ => rr), ?_⟩
     conv => whnf
     refine cB h (fun hb23 h => ?_) (fun hb23 h => ?_)
     ·conv => whnf
      refine ⟨_, (fun _ => rr), ?_⟩
      conv => whnf
      refine ⟨_, (fun _ => rr), ?_⟩
      conv => whnf
      refine ⟨_, (fun _ => rr), ?_⟩
      conv => whnf
      cases h
      exact Wk.mk2 [] 0 rfl rfl (by decide) rfl trivial ⟨rr, rr, rr, rr, trivial⟩
     conv => whnf
     refine ⟨_, (fun _ => rr), ?_⟩
     conv => whnf
     refine ⟨_, (fun _ => rr), ?_⟩
     conv => whnf
     refine ⟨_, (fun _ => rr), ?_⟩
     conv => whnf
     obtain ⟨x_24, hx_24, h⟩ := bS h
     refine ⟨_, ⟨rfl, rfl, (by (conv => whnf); (refine ixP_of hx_24 ?_); (conv => whnf); (exact rr))⟩, ?_⟩
     conv => whnf
     refine ⟨_, ⟨rfl, rfl, rr⟩, ?_⟩
     conv => whnf
     refine ⟨_, ⟨rfl, rfl, rr⟩, ?_⟩
     conv => whnf
     obtain ⟨r_25, hc26, h⟩ := bS h
     refine ⟨_, (fun _ => by (conv => whnf); (refine PC.ecall (P1193 r_10 x_24.Sums r_25 hc26) (fun rs hrs => ?_)); (subst hrs); (conv => whnf); (exact rr)), ?_⟩
     conv => whnf
     refine ⟨_, (fun _ => rr), ?_⟩
     conv => whnf
     refine ⟨_, (fun _ => rr), ?_⟩
     conv => whnf
     refine ⟨_, (fun _ => rr), ?_⟩
     conv => whnf
     refine cB h (fun hb27 h => ?_) (fun hb27 h => ?_)
     ·conv => whnf
      refine ⟨_, (fun _ => rr), ?_⟩
      conv => whnf
      cases h
      exact Wk.mk2 [] 0 rfl rfl (by decide) rfl trivial ⟨rr, rr, rr, rr, trivial⟩
     conv => whnf
     refine ⟨_, (fun _ => rr), ?_⟩
     conv => whnf
     refine ⟨_, (fun _ => rr), ?_⟩
     conv => whnf
     obtain ⟨x_28, hx_28, h⟩ := bS h
     refine ⟨_, ⟨rfl, rfl, (by (conv => whnf); (refine ixP_of hx_28 ?_); (conv => whnf); (exact rr))⟩, ?_⟩
     conv => whnf
     refine ⟨_, ⟨rfl, rfl, rr⟩, ?_⟩
     conv => whnf
     refine ⟨_, ⟨rfl, rfl, rr⟩, ?_⟩
     conv => whnf
     refine ⟨_, ⟨rfl, rfl, (by (conv => whnf); (refine lnS_map ?_); (conv => whnf); (exact rr))⟩, ?_⟩
     conv => whnf
     refine ⟨_, (fun _ => rr), ?_⟩
     conv => whnf
     refine ⟨_, (fun _ => rr), ?_⟩
     conv => whnf
     refine cB h (fun hb29 h => ?_) (fun hb29 h => ?_)
     ·conv => whnf
      refine ⟨_, (fun _ => rr), ?_⟩
      conv => whnf
      refine ⟨_, (fun _ => rr), ?_⟩
      conv => whnf
      obtain ⟨x_30, hx_30, h⟩ := bS h
      refine ⟨_, ⟨rfl, rfl, (by (conv => whnf); (refine ixP_of hx_30 ?_); (conv => whnf); (exact rr))⟩, ?_⟩
      conv => whnf
      refine ⟨_, ⟨rfl, rfl, rr⟩, ?_⟩
      conv => whnf
      refine ⟨_, ⟨rfl, rfl, rr⟩, ?_⟩
      conv => whnf
      refine ⟨_, (fun _ => rr), ?_⟩
      conv => whnf
      refine ⟨_, (fun _ => rr), ?_⟩
      conv => whnf
      refine ⟨_, (fun _ => rr), ?_⟩
      conv => whnf
      cases h
      exact Wk.mk2 [] 0 rfl rfl (by decide) rfl trivial ⟨rr, rr, rr, rr, trivial⟩
     conv => whnf
     refine ⟨_, (fun _ => rr), ?_⟩
     conv => whnf
     refine ⟨_, (fun _ => rr), ?_⟩
     conv => whnf
     cases h
     exact Wk.mk2 [] 0 rfl rfl (by decide) rfl trivial ⟨rr, rr, rr, rr, trivial⟩
    conv => whnf
    refine ⟨_, (fun _ => rr), ?_⟩
    conv => whnf
    refine ⟨_, (fun _ => rr), ?_⟩
    conv => whnf
    refine ⟨_, (fun _ => rr), ?_⟩
    conv => whnf
    refine ⟨_, (fun _ => rr), ?_⟩
    conv => whnf
    refine ⟨_, (fun _ => rr), ?_⟩
    conv => whnf
    refine ⟨_, (fun _ => rr), ?_⟩
    conv => whnf
    refine ⟨_, (fun _ => rr), ?_⟩
    conv => whnf
    refine cB h (fun hb31 h => ?_) (fun hb31 h => ?_)
    ·conv => whnf
     refine ⟨_, (fun _ => rr), ?_⟩
     conv => whnf
     refine ⟨_, (fun _ => rr), ?_⟩
     conv => whnf
     refine ⟨_, (fun _ => rr), ?_⟩
     conv => whnf
     cases h
     exact Wk.mk2 [] 0 rfl rfl (by decide) rfl trivial ⟨rr, rr, rr, rr, trivial⟩
    conv => whnf
    refine ⟨_, (fun _ => rr), ?_⟩
    conv => whnf
    refine ⟨_, (fun _ => rr), ?_⟩
    conv => whnf
    refine ⟨_, (fun _ => rr), ?_⟩
    conv => whnf
    obtain ⟨x_32, hx_32, h⟩ := bS h
    refine ⟨_, ⟨rfl, rfl, (by (conv => whnf); (refine ixP_of hx_32 ?_); (conv => whnf); (exact rr))⟩, ?_⟩
    conv => whnf
    refine ⟨_, ⟨rfl, rfl, rr⟩, ?_⟩
    conv => whnf
    refine ⟨_, ⟨rfl, rfl, rr⟩, ?_⟩
    conv => whnf
    obtain ⟨r_33, hc34, h⟩ := bS h
    refine ⟨_, (fun _ => by (conv => whnf); (refine PC.ecall (P1193 r_10 x_32.Sums r_33 hc34) (fun rs hrs => ?_)); (subst hrs); (conv => whnf); (exact rr)), ?_⟩
    conv => whnf
    refine ⟨_, (fun _ => rr), ?_⟩
    conv => whnf
    refine ⟨_, (fun _ => rr), ?_⟩
    conv => whnf
    refine ⟨_, (fun _ => rr), ?_⟩
    conv => whnf
    refine cB h (fun hb35 h => ?_) (fun hb35 h => ?_)
    ·conv => whnf
     refine ⟨_, (fun _ => rr), ?_⟩
     conv => whnf
     cases h
     exact Wk.mk2 [] 0 rfl rfl (by decide) rfl trivial ⟨rr, rr, rr, rr, trivial⟩
    conv => whnf
    refine ⟨_, (fun _ => rr), ?_⟩
    conv => whnf
    refine ⟨_, (fun _ => rr), ?_⟩
    conv => whnf
    obtain ⟨x_36, hx_36, h⟩ := bS h
    refine ⟨_, ⟨rfl, rfl, (by (conv => whnf); (refine ixP_of hx_36 ?_); (conv => whnf); (exact rr))⟩, ?_⟩
    conv => whnf
    refine ⟨_, ⟨rfl, rfl, rr⟩, ?_⟩
    conv => whnf
    refine ⟨_, ⟨rfl, rfl, rr⟩, ?_⟩
    conv => whnf
    refine ⟨_, ⟨rfl, rfl, (by (conv => whnf); (refine lnS_map ?_); (conv => whnf); (exact rr))⟩, ?_⟩
    conv => whnf
    refine ⟨_, (fun _ => rr), ?_⟩
    conv => whnf
    refine ⟨_, (fun _ => rr), ?_⟩
    conv => whnf
    refine cB h (fun hb37 h => ?_) (fun hb37 h => ?_)
    ·conv => whnf
     refine ⟨_, (fun _ => rr), ?_⟩
     conv => whnf
     refine ⟨_, (fun _ => rr), ?_⟩
     conv => whnf
     obtain ⟨x_38, hx_38, h⟩ := bS h
     refine ⟨_, ⟨rfl, rfl, (by (conv => whnf); (refine ixP_of hx_38 ?_); (conv => whnf); (exact rr))⟩, ?_⟩
     conv => whnf
     refine ⟨_, ⟨rfl, rfl, rr⟩, ?_⟩
     conv => whnf
     refine ⟨_, ⟨rfl, rfl, rr⟩, ?_⟩
     conv => whnf
     refine ⟨_, (fun _ => rr), ?_⟩
     conv => whnf
     refine ⟨_, (fun _ => rr), ?_⟩
     conv => whnf
     refine ⟨_, (fun _ => rr), ?_⟩
     conv => whnf
     cases h
     exact Wk.mk2 [] 0 rfl rfl (by decide) rfl trivial ⟨rr, rr, rr, rr, trivial⟩
    conv => whnf
    refine ⟨_, (fun _ => rr), ?_⟩
    conv => whnf
    refine ⟨_, (fun _ => rr), ?_⟩
    conv => whnf
    cases h
    exact Wk.mk2 [] 0 rfl rfl (by decide) rfl trivial ⟨rr, rr, rr, rr, trivial⟩
   clear hv14
   conv => whnf
   refine Tr.weak hw ?_
   refine Tr.cond ?_
   conv => whnf
   refine cB h (fun hb39 h => ?_) (fun hb39 h => ?_)
   ·refine Tr.seq ?_
    refine rg ?_
    conv => whnf
    refine Tr.ret ?_
    conv => whnf
    cases h
    rfl
   refine Tr.skip ?_
   conv => whnf
   refine rg ?_
   conv => whnf
   refine arS_raw ?_
   conv => whnf
   refine ⟨((w64 (i_4 + 1))), h, ?_⟩
   exact Wk.mk2 [] 0 rfl rfl (by decide) rfl trivial ⟨rr, rr, rr, trivial⟩
  refine Tr.exit ?_
  conv => whnf
  refine ⟨(), h, ?_⟩
  exact Wk.mk2 [] 0 rfl rfl (by decide) rfl trivial ⟨rr, trivial⟩
 clear h
 rintro _ h T1 H1 hw
 replace h : M1257 () = some r_2 := h
 conv => whnf
 refine Tr.weak hw ?_
 unfold M1257 at h
 refine Tr.seq ?_
 refine rg ?_
 conv => whnf
 refine Tr.ret ?_
 conv => whnf
 cases h
 rfl
theorem P1269 (t_1 : TTotal) (n_2 : Int) (r_3 : Int) (r_4 : Bool) (h : M1269 t_1 n_2 = some (r_3, r_4)) :
    PC prog 31 [(eTTotal t_1), (.i .i64 n_2)] (fun rs => rs = [(.i .i64 r_3), (.b r_4)]) := by
 refine PC.of_tr (cx := ⟨43, none, lay, 0⟩) layOK func31 rfl rfl rfl rfl rfl (by simp [f31]) ?_
 unfold M1269 at h
 refine Tr.seq ?_
 refine rg ?_
 conv => whnf
 refine Tr.seq ?_
 refine Tr.seq ?_
 refine rg ?_
 conv => whnf
 refine Tr.cutQ (α := Unit) (fun s => ([(4, (dI 0)), (5, .d (.b false))], [])) (fun s => M1268 s = some (r_3, r_4)) ?_ ?_
 ·refine Tr.block ?_
  refine Tr.loopM (σ := Int × Int) (fun n s => M1267 t_1 M1268 n s.1 s.2) (r_3, r_4) (fun s => ([(1, (dI s.1)), (2, .pt 0 0), (4, (dI 0)), (5, .d (.b false)), (6, (dI s.2))], [some (.var [(dI t_1.Bib), .d (.ls (List.map eTSpan t_1.Sums)), .d (.b t_1.Out)])])) (((((t_1.Sums).length : Int)) - 0 : Int).toNat + 1) (n_2, 0) h (fun s => rfl) (Wk.mk2 [0] 1 rfl rfl (by decide) rfl ⟨rr, trivial⟩ ⟨rr, rr, rr, rr, rr, trivial⟩) ?_
  clear h
  rintro n_9 ⟨n_7, i_8⟩ h
  replace h : M1267 t_1 M1268 (n_9 + 1) n_7 i_8 = some (r_3, r_4) := h
  rw [M1267] at h
  refine Tr.seq ?_
  refine Tr.seq ?_
  refine rg ?_
  conv => whnf
  refine lnS_map ?_
  conv => whnf
  refine Tr.cond ?_
  conv => whnf
  refine cB h (fun hb12 h => ?_) (fun hb12 h => ?_)
  ·refine Tr.skip ?_
   conv => whnf
   refine Tr.seq ?_
   refine Tr.block ?_
   refine Tr.seq ?_
   refine Tr.draw (DrawP.seqQ layOK mixed [] [(0, 3), (1, 3), (2, 1), (3, 2), (4, 2), (5, 2), (6, 3), (7, 3), (8, 1), (9, 2), (10, 2), (11, 2), (12, 1), (13, 1), (14, 1)] (by kernel_rfl) ?_)
   conv => whnf
   refine ⟨_, ⟨rfl, rfl, rr⟩, ?_⟩
   conv => whnf
   refine ⟨_, ⟨rfl, rfl, rr⟩, ?_⟩
   conv => whnf
   refine ⟨_, (fun _ => rr), ?_⟩
   conv => whnf
   obtain ⟨x_13, hx_13, h⟩ := bS h
   refine ⟨_, ⟨rfl, rfl, (by (conv => whnf); (refine ixP_of hx_13 ?_); (conv => whnf); (exact rr))⟩, ?_⟩
   conv => whnf
   refine ⟨_, ⟨rfl, rfl, rr⟩, ?_⟩
   conv => whnf
   refine ⟨_, ⟨rfl, rfl, rr⟩, ?_⟩
   conv => whnf
   refine ⟨_, ⟨rfl, rfl, rr⟩, ?_⟩
   conv => whnf
   refine ⟨_, ⟨rfl, rfl, rr⟩, ?_⟩
   conv => whnf
   refine ⟨_, (fun _ => rr), ?_⟩
   conv => whnf
   obtain ⟨x_14, hx_14, h⟩ := bS h
   refine ⟨_, ⟨rfl, rfl, (by (conv => whnf); (refine ixP_of hx_14 ?_); (conv => whnf); (exact rr))⟩, ?_⟩
   conv => whnf
   refine ⟨_, ⟨rfl, rfl, rr⟩, ?_⟩
   conv => whnf
   refine ⟨_, ⟨rfl, rfl, rr⟩, ?_⟩
   conv => whnf
   refine ⟨_, (fun _ => by (conv => whnf); (refine arS_raw ?_); (conv => whnf); (exact rr)), ?_⟩
   conv => whnf
   refine ⟨_, (fun _ => by (conv => whnf); (refine arS_raw ?_); (conv => whnf); (exact rr)), ?_⟩
   conv => whnf
   refine ⟨_, (fun _ => rr), ?_⟩
   conv => whnf
   refine Tr.seq ?_
   refine Tr.seq ?_
   refine rg ?_
   conv => whnf
   refine Tr.cond ?_
   conv => whnf
   refine cB h (fun hb15 h => ?_) (fun hb15 h => ?_)
   ·refine Tr.seq ?_
    refine rg ?_
    conv => whnf
    obtain ⟨x_16, hx_16, h⟩ := bS h
    refine ixP_of hx_16 ?_
    conv => whnf
    refine arS_raw ?_
    conv => whnf
    refine Tr.ret ?_
    conv => whnf
    cases h
    rfl
   refine Tr.skip ?_
   conv => whnf
   refine rg ?_
   conv => whnf
   refine arS_raw ?_
   conv => whnf
   refine rg ?_
   conv => whnf
   refine arS_raw ?_
   conv => whnf
   refine ⟨((w64 (n_7 - (w64 ((w64 (x_13.Hi - x_14.Lo)) + 1)))), (w64 (i_8 + 1))), h, ?_⟩
   exact Wk.mk2 [0] 1 rfl rfl (by decide) rfl ⟨rr, trivial⟩ ⟨rr, rr, rr, rr, rr, trivial⟩
  refine Tr.exit ?_
  conv => whnf
  refine ⟨(), h, ?_⟩
  exact Wk.mk2 [] 1 rfl rfl (by decide) rfl trivial ⟨rr, rr, trivial⟩
 clear h
 rintro _ h T1 H1 hw
 replace h : M1268 () = some (r_3, r_4) := h
 conv => whnf
 refine Tr.weak hw ?_
 unfold M1268 at h
 refine Tr.seq ?_
 refine rg ?_
 conv => whnf
 refine Tr.ret ?_
 conv => whnf
 cases h
 rfl
theorem P1272 (l_1 : List Int) (n_2 : Int) (r_3 : Bool) (h : M1272 l_1 n_2 = some r_3) :
    PC prog 32 [(.ls (List.map eI l_1)), (.i .i64 n_2)] (fun rs => rs = [(.b r_3)]) := by
 refine PC.of_tr (cx := ⟨18, none, lay, 0⟩) layOK func32 rfl rfl rfl rfl rfl (by simp [f32]) ?_
 unfold M1272 at h
 refine Tr.seq ?_
 refine rg ?_
 conv => whnf
 refine Tr.seq ?_
 refine Tr.seq ?_
 refine rg ?_
 conv => whnf
 refine Tr.cutQ (α := Unit) (fun s => ([(4, .d (.b false))], [])) (fun s => M1271 s = some r_3) ?_ ?_
 ·refine Tr.block ?_
  refine Tr.loopM (σ := Int) (fun n s => M1270 l_1 n_2 M1271 n s) r_3 (fun s => ([(0, .d (.ls (List.map eI l_1))), (1, (dI n_2)), (4, .d (.b false)), (5, (dI s))], [])) (((((l_1).length : Int)) - 0 : Int).toNat + 1) (0) h (fun s => rfl) (Wk.mk2 [] 0 rfl rfl (by decide) rfl trivial ⟨rr, rr, rr, rr, trivial⟩) ?_
  clear h
  rintro n_6 i_5 h
  replace h : M1270 l_1 n_2 M1271 (n_6 + 1) i_5 = some r_3 := h
  rw [M1270] at h
  refine Tr.seq ?_
  refine Tr.seq ?_
  refine rg ?_
  conv => whnf
  refine lnS_map ?_
  conv => whnf
  refine Tr.cond ?_
  conv => whnf
  refine cB h (fun hb9 h => ?_) (fun hb9 h => ?_)
  ·refine Tr.skip ?_
   conv => whnf
   refine Tr.seq ?_
   refine Tr.block ?_
   refine Tr.seq ?_
   refine rg ?_
   conv => whnf
   obtain ⟨x_10, hx_10, h⟩ := bS h
   refine ixP_of hx_10 ?_
   conv => whnf
   refine Tr.cond ?_
   conv => whnf
   refine cB h (fun hb11 h => ?_) (fun hb11 h => ?_)
   ·refine Tr.seq ?_
    refine rg ?_
    conv => whnf
    refine Tr.ret ?_
    conv => whnf
    cases h
    rfl
   refine Tr.skip ?_
   conv => whnf
   refine rg ?_
   conv => whnf
   refine arS_raw ?_
   conv => whnf
   refine ⟨((w64 (i_5 + 1))), h, ?_⟩
   exact Wk.mk2 [] 0 rfl rfl (by decide) rfl trivial ⟨rr, rr, rr, rr, trivial⟩
  refine Tr.exit ?_
  conv => whnf
  refine ⟨(), h, ?_⟩
  exact Wk.mk2 [] 0 rfl rfl (by decide) rfl trivial ⟨rr, trivial⟩
 clear h
 rintro _ h T1 H1 hw
 replace h : M1271 () = some r_3 := h
 conv => whnf
 refine Tr.weak hw ?_
 unfold M1271 at h
 refine Tr.seq ?_
 refine rg ?_
 conv => whnf
 refine Tr.ret ?_
 conv => whnf
 cases h
 rfl
theorem P1279 (l_1 : List TTotal) (picks_2 : List Int) (none_3 : List Bool) (most_4 : Int) (r_5 : Bool) (h : M1279 l_1 picks_2 none_3 most_4 = some r_5) :
    PC prog 6 [(.ls (List.map eTTotal l_1)), (.ls (List.map eI picks_2)), (.ls (List.map eB none_3)), (.i .i64 most_4)] (fun rs => rs = [(.b r_5)]) := by
 refine PC.of_tr (cx := ⟨214, none, lay, 0⟩) layOK func6 rfl rfl rfl rfl rfl (by simp [f6]) ?_
 unfold M1279 at h
 refine Tr.seq ?_
 refine rg ?_
 conv => whnf
 refine Tr.seq ?_
 refine Tr.seq ?_
 refine rg ?_
 conv => whnf
 obtain ⟨r_6, hc7, h⟩ := bS h
 refine PC.ecall (P1243 r_6 hc7) (fun rs hrs => ?_)
 subst hrs
 conv => whnf
 refine Tr.cond ?_
 conv => whnf
 refine cB h (fun hb8 h => ?_) (fun hb8 h => ?_)
 ·refine Tr.seq ?_
  refine rg ?_
  conv => whnf
  refine Tr.ret ?_
  conv => whnf
  cases h
  rfl
 refine Tr.skip ?_
 conv => whnf
 refine Tr.seq ?_
 refine Tr.seq ?_
 obtain ⟨v_9, hv10, h⟩ := bS h
 refine Tr.cutQ1 ([(0, .d (.ls (List.map eTTotal l_1))), (1, .d (.ls (List.map eI picks_2))), (2, .d (.ls (List.map eB none_3))), (3, (dI most_4)), (8, .d (.b false)), (53, .d (.b v_9))]) ([]) ?_ (fun T1 H1 hw => ?_)
 ·replace h := hv10; clear hv10
  refine rg ?_
  conv => whnf
  obtain ⟨r_11, hc12, h⟩ := bS h
  refine PC.ecall (P1255 l_1 r_11 hc12) (fun rs hrs => ?_)
  subst hrs
  conv => whnf
  refine cB h (fun hb13 h => ?_) (fun hb13 h => ?_)
  ·conv => whnf
   cases h
   exact Wk.mk2 [] 0 rfl rfl (by decide) rfl trivial ⟨rr, rr, rr, rr, rr, rr, trivial⟩
  conv => whnf
  obtain ⟨r_14, hc15, h⟩ := bS h
  refine PC.ecall (P1258 l_1 r_14 hc15) (fun rs hrs => ?_)
  subst hrs
  conv => whnf
  refine cB h (fun hb16 h => ?_) (fun hb16 h => ?_)
  ·conv => whnf
   cases h
   exact Wk.mk2 [] 0 rfl rfl (by decide) rfl trivial ⟨rr, rr, rr, rr, rr, rr, trivial⟩
  conv => whnf
  refine lnS_map ?_
  conv => whnf
  refine lnS_map ?_
  conv => whnf
  refine cB h (fun hb17 h => ?_) (fun hb17 h => ?_)
  ·conv => whnf
   cases h
   exact Wk.mk2 [] 0 rfl rfl (by decide) rfl trivial ⟨rr, rr, rr, rr, rr, rr, trivial⟩
  conv => whnf
  refine lnS_map ?_
  conv => whnf
  refine lnS_map ?_
  conv => whnf
  refine cB h (fun hb18 h => ?_) (fun hb18 h => ?_)
  ·conv => whnf
   cases h
   exact Wk.mk2 [] 0 rfl rfl (by decide) rfl trivial ⟨rr, rr, rr, rr, rr, rr, trivial⟩
  conv => whnf
  refine cB h (fun hb19 h => ?_) (fun hb19 h => ?_)
  ·conv => whnf
   cases h
   exact Wk.mk2 [] 0 rfl rfl (by decide) rfl trivial ⟨rr, rr, rr, rr, rr, rr, trivial⟩
  conv => whnf
  cases h
  exact Wk.mk2 [] 0 rfl rfl (by decide) rfl trivial ⟨rr, rr, rr, rr, rr, rr, trivial⟩
 clear hv10
 conv => whnf
 refine Tr.weak hw ?_
 refine Tr.cond ?_
 conv => whnf
 refine cB h (fun hb20 h => ?_) (fun hb20 h => ?_)
 ·refine Tr.seq ?_
  refine rg ?_
  conv => whnf
  refine Tr.ret ?_
  conv => whnf
  cases h
  rfl
 refine Tr.skip ?_
 conv => whnf
 refine Tr.seq ?_
 refine rg ?_
 conv => whnf
 refine lnS_map ?_
 conv => whnf
 obtain ⟨n_21, hn_21, h⟩ := bS h
 refine msS_of hn_21 rfl ?_
 conv => whnf
 refine rS (es' := List.map .d (List.map eI (List.replicate n_21 0))) (n' := List.length ((List.replicate n_21 0) : List Int)) (by simp only [List.map_replicate]; first | done | rfl) (by simp) ?_
 conv => whnf
 refine Tr.seq ?_
 refine rg ?_
 conv => whnf
 refine lnS_map ?_
 conv => whnf
 obtain ⟨n_22, hn_22, h⟩ := bS h
 refine msS_of hn_22 rfl ?_
 conv => whnf
 refine rS (es' := List.map .d (List.map eB (List.replicate n_22 false))) (n' := List.length ((List.replicate n_22 false) : List Bool)) (by simp only [List.map_replicate]; first | done | rfl) (by simp) ?_
 conv => whnf
 refine Tr.seq ?_
 refine Tr.seq ?_
 refine rg ?_
 conv => whnf
 refine Tr.cutQ (α := List Int × List Bool) (fun s => ([(0, .d (.ls (List.map eTTotal l_1))), (3, (dI most_4)), (8, .d (.b false)), (9, .sl 0 1 0 (List.length s.1)), (10, .sl 1 1 0 (List.length s.2))], [some (.arr 1 (List.map .d (List.map eI s.1))), some (.arr 1 (List.map .d (List.map eB s.2)))])) (fun s => M1278 l_1 most_4 s.1 s.2 = some r_5) ?_ ?_
 ·refine Tr.block ?_
  refine Tr.loopM (σ := Int × List Int × List Bool) (fun n s => M1274 l_1 picks_2 none_3 (M1278 l_1 most_4) n s.1 s.2.1 s.2.2) r_5 (fun s => ([(0, .d (.ls (List.map eTTotal l_1))), (1, .d (.ls (List.map eI picks_2))), (2, .d (.ls (List.map eB none_3))), (3, (dI most_4)), (8, .d (.b false)), (9, .sl 0 1 0 (List.length s.2.1)), (10, .sl 1 1 0 (List.length s.2.2)), (11, (dI s.1))], [some (.arr 1 (List.map .d (List.map eI s.2.1))), some (.arr 1 (List.map .d (List.map eB s.2.2)))])) (((((l_1).length : Int)) - 0 : Int).toNat + 1) (0, (List.replicate n_21 0), (List.replicate n_22 false)) h (fun s => rfl) (Wk.mk2 [0, 1] 2 rfl rfl (by decide) rfl ⟨daS_d rfl, daS_d rfl, trivial⟩ ⟨rr, rr, rr, rr, rr, rr, rr, rr, trivial⟩) ?_
  clear h
  rintro n_29 ⟨i_26, l_27, l_28⟩ h
  replace h : M1274 l_1 picks_2 none_3 (M1278 l_1 most_4) (n_29 + 1) i_26 l_27 l_28 = some r_5 := h
  rw [M1274] at h
  refine Tr.seq ?_
  refine Tr.seq ?_
  refine rg ?_
  conv => whnf
  refine lnS_map ?_
  conv => whnf
  refine Tr.cond ?_
  conv => whnf
  refine cB h (fun hb34 h => ?_) (fun hb34 h => ?_)
  ·refine Tr.skip ?_
   conv => whnf
   refine Tr.seq ?_
   refine Tr.cutQ (α := List Int × List Bool) (fun s => ([(0, .d (.ls (List.map eTTotal l_1))), (1, .d (.ls (List.map eI picks_2))), (2, .d (.ls (List.map eB none_3))), (3, (dI most_4)), (8, .d (.b false)), (9, .sl 0 1 0 (List.length s.1)), (10, .sl 1 1 0 (List.length s.2)), (11, (dI i_26))], [some (.arr 1 (List.map .d (List.map eI s.1))), some (.arr 1 (List.map .d (List.map eB s.2)))])) (fun s => M1273 i_26 (M1274 l_1 picks_2 none_3 (M1278 l_1 most_4) n_29) s.1 s.2 = some r_5) ?_ ?_
   ·refine Tr.block ?_
    refine Tr.seq ?_
    refine Tr.seq ?_
    refine rg ?_
    conv => whnf
    obtain ⟨x_37, hx_37, h⟩ := bS h
    refine ixP_of hx_37 ?_
    conv => whnf
    refine cB h (fun hb38 h => ?_) (fun hb38 h => ?_)
    ·conv => whnf
     obtain ⟨x_39, hx_39, h⟩ := bS h
     refine ixP_of hx_39 ?_
     conv => whnf
     refine cB h (fun hb40 h => ?_) (fun hb40 h => ?_)
     ·conv => whnf
      refine Tr.cond ?_
      conv => whnf
      refine Tr.exit ?_
      conv => whnf
      refine ⟨(l_27, l_28), h, ?_⟩
      exact Wk.mk2 [0, 1] 2 rfl rfl (by decide) rfl ⟨daS_d rfl, daS_d rfl, trivial⟩ ⟨rr, rr, rr, rr, rr, rr, rr, rr, trivial⟩
     conv => whnf
     obtain ⟨x_41, hx_41, h⟩ := bS h
     refine ixP_of hx_41 ?_
     conv => whnf
     refine lnS_map ?_
     conv => whnf
     refine Tr.cond ?_
     conv => whnf
     refine cB h (fun hb42 h => ?_) (fun hb42 h => ?_)
     ·refine Tr.exit ?_
      conv => whnf
      refine ⟨(l_27, l_28), h, ?_⟩
      exact Wk.mk2 [0, 1] 2 rfl rfl (by decide) rfl ⟨daS_d rfl, daS_d rfl, trivial⟩ ⟨rr, rr, rr, rr, rr, rr, rr, rr, trivial⟩
     refine Tr.skip ?_
     conv => whnf
     refine Tr.seq ?_
     refine Tr.draw (DrawP.seqQ layOK mixed [] [(0, 1), (1, 1), (2, 2), (3, 2), (4, 1), (5, 1), (6, 2), (7, 2), (8, 1), (9, 1), (10, 1), (11, 1), (12, 1), (13, 1)] (by kernel_rfl) ?_)
     conv => whnf
     refine ⟨_, (fun _ => rr), ?_⟩
     conv => whnf
     refine ⟨_, (fun _ => rr), ?_⟩
     conv => whnf
     obtain ⟨x_43, hx_43, h⟩ := bS h
     refine ⟨_, ⟨rfl, rfl, (by (conv => whnf); (refine ixP_of hx_43 ?_); (conv => whnf); (exact rr))⟩, ?_⟩
     conv => whnf
     refine ⟨_, ⟨rfl, rfl, rr⟩, ?_⟩
     conv => whnf
     refine ⟨_, (fun _ => rr), ?_⟩
     conv => whnf
     refine ⟨_, (fun _ => rr), ?_⟩
     conv => whnf
     obtain ⟨x_44, hx_44, h⟩ := bS h
     refine ⟨_, ⟨rfl, rfl, (by (conv => whnf); (refine ixP_of hx_44 ?_); (conv => whnf); (exact rr))⟩, ?_⟩
     conv => whnf
     refine ⟨_, ⟨rfl, rfl, rr⟩, ?_⟩
     conv => whnf
     obtain ⟨⟨r_45, r_46⟩, hc47, h⟩ := bS h
     refine ⟨_, (fun _ => by (conv => whnf); (refine PC.ecall (P1269 x_43 x_44 r_45 r_46 hc47) (fun rs hrs => ?_)); (subst hrs); (conv => whnf); (exact rr)), ?_⟩
     conv => whnf
     refine ⟨_, (fun _ => rr), ?_⟩
     conv => whnf
     refine ⟨_, (fun _ => rr), ?_⟩
     conv => whnf
     refine ⟨_, (fun _ => rr), ?_⟩
     conv => whnf
     refine ⟨_, (fun _ => rr), ?_⟩
     conv => whnf
     refine ⟨_, (fun _ => rr), ?_⟩
     conv => whnf
     refine Tr.seq ?_
     refine Tr.seq ?_
     refine rg ?_
     conv => whnf
     refine cB h (fun hb48 h => ?_) (fun hb48 h => ?_)
     ·conv => whnf
      refine Tr.cond ?_
      conv => whnf
      refine Tr.seq ?_
      refine rg ?_
      conv => whnf
      refine Tr.ret ?_
      conv => whnf
      cases h
      rfl
     conv => whnf
     obtain ⟨x_49, hx_49, h⟩ := bS h
     refine ixP_of hx_49 ?_
     conv => whnf
     refine Tr.cond ?_
     conv => whnf
     refine cB h (fun hb50 h => ?_) (fun hb50 h => ?_)
     ·refine Tr.seq ?_
      refine rg ?_
      conv => whnf
      refine Tr.ret ?_
      conv => whnf
      cases h
      rfl
     refine Tr.skip ?_
     conv => whnf
     refine Tr.seq ?_
     refine rg ?_
     conv => whnf
     obtain ⟨x_51, hx_51, h⟩ := bS h
     refine ixS_of hx_51 rfl ?_
     conv => whnf
     refine elP_of hx_51 ?_
     conv => whnf
     refine lvS_mk (es' := List.map .d (List.map eI (List.set l_27 (Int.toNat i_26) r_45))) (by simp only [Nat.zero_add, List.map_set]; first | done | rfl) ?_
     conv => whnf
     refine rg ?_
     conv => whnf
     obtain ⟨x_52, hx_52, h⟩ := bS h
     refine ixS_of hx_52 rfl ?_
     conv => whnf
     refine elP_of hx_52 ?_
     conv => whnf
     refine lvS_mk (es' := List.map .d (List.map eB (List.set l_28 (Int.toNat i_26) true))) (by simp only [Nat.zero_add, List.map_set]; first | done | rfl) ?_
     conv => whnf
     refine ⟨((List.set l_27 (Int.toNat i_26) r_45), (List.set l_28 (Int.toNat i_26) true)), h, ?_⟩
     exact Wk.mk2 [0, 1] 2 rfl rfl (by decide) rfl ⟨daS_d rfl, daS_d rfl, trivial⟩ ⟨rr, rr, rr, rr, rr, ⟨rfl, (slEq (by first | rfl | simp))⟩, ⟨rfl, (slEq (by first | rfl | simp))⟩, rr, trivial⟩
    conv => whnf
    obtain ⟨x_53, hx_53, h⟩ := bS h
    refine ixP_of hx_53 ?_
    conv => whnf
    refine lnS_map ?_
    conv => whnf
    refine Tr.cond ?_
    conv => whnf
    refine cB h (fun hb54 h => ?_) (fun hb54 h => ?_)
    ·refine Tr.exit ?_
     conv => whnf
     refine ⟨(l_27, l_28), h, ?_⟩
     exact Wk.mk2 [0, 1] 2 rfl rfl (by decide) rfl ⟨daS_d rfl, daS_d rfl, trivial⟩ ⟨rr, rr, rr, rr, rr, rr, rr, rr, trivial⟩
    refine Tr.skip ?_
    conv => whnf
    refine Tr.seq ?_
    refine Tr.draw (DrawP.seqQ layOK mixed [] [(0, 1), (1, 1), (2, 2), (3, 2), (4, 1), (5, 1), (6, 2), (7, 2), (8, 1), (9, 1), (10, 1), (11, 1), (12, 1), (13, 1)] (by kernel_rfl) ?_)
    conv => whnf
    refine ⟨_, (fun _ => rr), ?_⟩
    conv => whnf
    refine ⟨_, (fun _ => rr), ?_⟩
    conv => whnf
    obtain ⟨x_55, hx_55, h⟩ := bS h
    refine ⟨_, ⟨rfl, rfl, (by (conv => whnf); (refine ixP_of hx_55 ?_); (conv => whnf); (exact rr))⟩, ?_⟩
    conv => whnf
    refine ⟨_, ⟨rfl, rfl, rr⟩, ?_⟩
    conv => whnf
    refine ⟨_, (fun _ => rr), ?_⟩
    conv => whnf
    refine ⟨_, (fun _ => rr), ?_⟩
    conv => whnf
    obtain ⟨x_56, hx_56, h⟩ := bS h
    refine ⟨_, ⟨rfl, rfl, (by (conv => whnf); (refine ixP_of hx_56 ?_); (conv => whnf); (exact rr))⟩, ?_⟩
    conv => whnf
    refine ⟨_, ⟨rfl, rfl, rr⟩, ?_⟩
    conv => whnf
    obtain ⟨⟨r_57, r_58⟩, hc59, h⟩ := bS h
    refine ⟨_, (fun _ => by (conv => whnf); (refine PC.ecall (P1269 x_55 x_56 r_57 r_58 hc59) (fun rs hrs => ?_)); (subst hrs); (conv => whnf); (exact rr)), ?_⟩
    conv => whnf
    refine ⟨_, (fun _ => rr), ?_⟩
    conv => whnf
    refine ⟨_, (fun _ => rr), ?_⟩
    conv => whnf
    refine ⟨_, (fun _ => rr), ?_⟩
    conv => whnf
    refine ⟨_, (fun _ => rr), ?_⟩
    conv => whnf
    refine ⟨_, (fun _ => rr), ?_⟩
    conv => whnf
    refine Tr.seq ?_
    refine Tr.seq ?_
    refine rg ?_
    conv => whnf
    refine cB h (fun hb60 h => ?_) (fun hb60 h => ?_)
    ·conv => whnf
     refine Tr.cond ?_
     conv => whnf
     refine Tr.seq ?_
     refine rg ?_
     conv => whnf
     refine Tr.ret ?_
     conv => whnf
     cases h
     rfl
    conv => whnf
    obtain ⟨x_61, hx_61, h⟩ := bS h
    refine ixP_of hx_61 ?_
    conv => whnf
    refine Tr.cond ?_
    conv => whnf
    refine cB h (fun hb62 h => ?_) (fun hb62 h => ?_)
    ·refine Tr.seq ?_
     refine rg ?_
     conv => whnf
     refine Tr.ret ?_
     conv => whnf
     cases h
     rfl
    refine Tr.skip ?_
    conv => whnf
    refine Tr.seq ?_
    refine rg ?_
    conv => whnf
    obtain ⟨x_63, hx_63, h⟩ := bS h
    refine ixS_of hx_63 rfl ?_
    conv => whnf
    refine elP_of hx_63 ?_
    conv => whnf
    refine lvS_mk (es' := List.map .d (List.map eI (List.set l_27 (Int.toNat i_26) r_57))) (by simp only [Nat.zero_add, List.map_set]; first | done | rfl) ?_
    conv => whnf
    refine rg ?_
    conv => whnf
    obtain ⟨x_64, hx_64, h⟩ := bS h
    refine ixS_of hx_64 rfl ?_
    conv => whnf
    refine elP_of hx_64 ?_
    conv => whnf
    refine lvS_mk (es' := List.map .d (List.map eB (List.set l_28 (Int.toNat i_26) true))) (by simp only [Nat.zero_add, List.map_set]; first | done | rfl) ?_
    conv => whnf
    refine ⟨((List.set l_27 (Int.toNat i_26) r_57), (List.set l_28 (Int.toNat i_26) true)), h, ?_⟩
    exact Wk.mk2 [0, 1] 2 rfl rfl (by decide) rfl ⟨daS_d rfl, daS_d rfl, trivial⟩ ⟨rr, rr, rr, rr, rr, ⟨rfl, (slEq (by first | rfl | simp))⟩, ⟨rfl, (slEq (by first | rfl | simp))⟩, rr, trivial⟩
   clear h
   rintro ⟨l_35, l_36⟩ h T1 H1 hw
   replace h : M1273 i_26 (M1274 l_1 picks_2 none_3 (M1278 l_1 most_4) n_29) l_35 l_36 = some r_5 := h
   conv => whnf
   refine Tr.weak hw ?_
   unfold M1273 at h
   refine rg ?_
   conv => whnf
   refine arS_raw ?_
   conv => whnf
   refine ⟨((w64 (i_26 + 1)), l_35, l_36), h, ?_⟩
   exact Wk.mk2 [0, 1] 2 rfl rfl (by decide) rfl ⟨daS_d rfl, daS_d rfl, trivial⟩ ⟨rr, rr, rr, rr, rr, rr, rr, rr, trivial⟩
  refine Tr.exit ?_
  conv => whnf
  refine ⟨(l_27, l_28), h, ?_⟩
  exact Wk.mk2 [0, 1] 2 rfl rfl (by decide) rfl ⟨daS_d rfl, daS_d rfl, trivial⟩ ⟨rr, rr, rr, rr, rr, trivial⟩
 clear h
 rintro ⟨l_30, l_31⟩ h T1 H1 hw
 replace h : M1278 l_1 most_4 l_30 l_31 = some r_5 := h
 conv => whnf
 refine Tr.weak hw ?_
 unfold M1278 at h
 refine Tr.seq ?_
 refine rg ?_
 conv => whnf
 obtain ⟨⟨r_65, r_66⟩, hc67, h⟩ := bS h
 refine PC.ecall (P1213 l_1 r_65 r_66 hc67) (fun rs hrs => ?_)
 subst hrs
 conv => whnf
 refine Tr.seq ?_
 refine rg ?_
 conv => whnf
 obtain ⟨⟨r_68, r_69, r_70⟩, hc71, h⟩ := bS h
 refine PC.ecall (P1224 l_1 most_4 r_68 r_69 r_70 hc71) (fun rs hrs => ?_)
 subst hrs
 conv => whnf
 refine Tr.seq ?_
 refine Tr.seq ?_
 refine rg ?_
 conv => whnf
 refine cB h (fun hb72 h => ?_) (fun hb72 h => ?_)
 ·conv => whnf
  refine Tr.cond ?_
  conv => whnf
  refine Tr.seq ?_
  refine rg ?_
  conv => whnf
  refine Tr.ret ?_
  conv => whnf
  cases h
  rfl
 conv => whnf
 refine Tr.cond ?_
 conv => whnf
 refine cB h (fun hb73 h => ?_) (fun hb73 h => ?_)
 ·refine Tr.seq ?_
  refine rg ?_
  conv => whnf
  refine Tr.ret ?_
  conv => whnf
  cases h
  rfl
 refine Tr.skip ?_
 conv => whnf
 refine Tr.seq ?_
 refine Tr.seq ?_
 refine rg ?_
 conv => whnf
 refine Tr.cutQ (α := Unit) (fun s => ([(8, .d (.b false))], [])) (fun s => M1277 s = some r_5) ?_ ?_
 ·refine Tr.block ?_
  refine Tr.loopM (σ := Int) (fun n s => M1276 l_1 most_4 l_30 l_31 r_65 r_68 r_69 M1277 n s) r_5 (fun s => ([(0, .d (.ls (List.map eTTotal l_1))), (3, (dI most_4)), (8, .d (.b false)), (9, .sl 0 1 0 (List.length l_30)), (10, .sl 1 1 0 (List.length l_31)), (14, .d (.ls (List.map eI r_65))), (16, .d (.ls (List.map eI r_68))), (17, .d (.ls (List.map eI r_69))), (19, (dI s))], [some (.arr 1 (List.map .d (List.map eI l_30))), some (.arr 1 (List.map .d (List.map eB l_31)))])) (((((l_1).length : Int)) - 0 : Int).toNat + 1) (0) h (fun s => rfl) (Wk.mk2 [0, 1] 2 rfl rfl (by decide) rfl ⟨daS_d rfl, daS_d rfl, trivial⟩ ⟨rr, rr, rr, rr, rr, rr, rr, rr, rr, trivial⟩) ?_
  clear h
  rintro n_76 i_75 h
  replace h : M1276 l_1 most_4 l_30 l_31 r_65 r_68 r_69 M1277 (n_76 + 1) i_75 = some r_5 := h
  rw [M1276] at h
  refine Tr.seq ?_
  refine Tr.seq ?_
  refine rg ?_
  conv => whnf
  refine lnS_map ?_
  conv => whnf
  refine Tr.cond ?_
  conv => whnf
  refine cB h (fun hb79 h => ?_) (fun hb79 h => ?_)
  ·refine Tr.skip ?_
   conv => whnf
   refine Tr.seq ?_
   refine Tr.block ?_
   refine Tr.seq ?_
   refine Tr.seq ?_
   refine rg ?_
   conv => whnf
   obtain ⟨x_80, hx_80, h⟩ := bS h
   refine ixS_of hx_80 rfl ?_
   conv => whnf
   refine elP_of hx_80 ?_
   conv => whnf
   refine Tr.cond ?_
   conv => whnf
   refine cB h (fun hb81 h => ?_) (fun hb81 h => ?_)
   ·refine Tr.seq ?_
    refine Tr.seq ?_
    refine rg ?_
    conv => whnf
    obtain ⟨x_82, hx_82, h⟩ := bS h
    refine ixP_of hx_82 ?_
    conv => whnf
    obtain ⟨r_83, hc84, h⟩ := bS h
    refine PC.ecall (P1272 r_68 x_82.Bib r_83 hc84) (fun rs hrs => ?_)
    subst hrs
    conv => whnf
    refine Tr.cond ?_
    conv => whnf
    refine cB h (fun hb85 h => ?_) (fun hb85 h => ?_)
    ·refine Tr.seq ?_
     refine rg ?_
     conv => whnf
     refine Tr.ret ?_
     conv => whnf
     cases h
     rfl
    refine Tr.skip ?_
    conv => whnf
    refine Tr.exit ?_
    conv => whnf
    refine rg ?_
    conv => whnf
    refine arS_raw ?_
    conv => whnf
    refine ⟨((w64 (i_75 + 1))), h, ?_⟩
    exact Wk.mk2 [0, 1] 2 rfl rfl (by decide) rfl ⟨daS_d rfl, daS_d rfl, trivial⟩ ⟨rr, rr, rr, rr, rr, rr, rr, rr, rr, trivial⟩
   refine Tr.skip ?_
   conv => whnf
   refine Tr.seq ?_
   refine rg ?_
   conv => whnf
   refine Tr.seq ?_
   refine Tr.seq ?_
   refine rg ?_
   conv => whnf
   obtain ⟨before_91, hv100, h⟩ := bS h
   refine Tr.cutQ1 ([(0, .d (.ls (List.map eTTotal l_1))), (3, (dI most_4)), (8, .d (.b false)), (9, .sl 0 1 0 (List.length l_30)), (10, .sl 1 1 0 (List.length l_31)), (14, .d (.ls (List.map eI r_65))), (16, .d (.ls (List.map eI r_68))), (17, .d (.ls (List.map eI r_69))), (19, (dI i_75)), (20, (dI before_91))]) ([some (.arr 1 (List.map .d (List.map eI l_30))), some (.arr 1 (List.map .d (List.map eB l_31)))]) ?_ (fun T1 H1 hw => ?_)
   ·replace h := hv100; clear hv100
    refine Tr.block ?_
    refine Tr.loopM (σ := Int × Int) (fun n s => M1275 l_1 l_30 l_31 i_75 n s.1 s.2) before_91 (fun s => ([(0, .d (.ls (List.map eTTotal l_1))), (3, (dI most_4)), (8, .d (.b false)), (9, .sl 0 1 0 (List.length l_30)), (10, .sl 1 1 0 (List.length l_31)), (14, .d (.ls (List.map eI r_65))), (16, .d (.ls (List.map eI r_68))), (17, .d (.ls (List.map eI r_69))), (19, (dI i_75)), (20, (dI s.1)), (21, (dI s.2))], [some (.arr 1 (List.map .d (List.map eI l_30))), some (.arr 1 (List.map .d (List.map eB l_31)))])) (((((l_1).length : Int)) - 0 : Int).toNat + 1) (0, 0) h (fun s => rfl) (Wk.mk2 [0, 1] 2 rfl rfl (by decide) rfl ⟨daS_d rfl, daS_d rfl, trivial⟩ ⟨rr, rr, rr, rr, rr, rr, rr, rr, rr, rr, rr, trivial⟩) ?_
    clear h
    rintro n_90 ⟨before_88, k_89⟩ h
    replace h : M1275 l_1 l_30 l_31 i_75 (n_90 + 1) before_88 k_89 = some before_91 := h
    rw [M1275] at h
    refine Tr.seq ?_
    refine Tr.seq ?_
    refine rg ?_
    conv => whnf
    refine lnS_map ?_
    conv => whnf
    refine Tr.cond ?_
    conv => whnf
    refine cB h (fun hb94 h => ?_) (fun hb94 h => ?_)
    ·refine Tr.skip ?_
     conv => whnf
     refine Tr.seq ?_
     refine Tr.block ?_
     refine Tr.seq ?_
     refine Tr.draw (DrawP.seqQ layOK mixed [] [(0, 1), (1, 1), (2, 4), (3, 4), (4, 1), (5, 1), (6, 1), (7, 3), (8, 3), (9, 1), (10, 1), (11, 3), (12, 3), (13, 1), (14, 1)] (by kernel_rfl) ?_)
     conv => whnf
     refine ⟨_, (fun _ => rr), ?_⟩
     conv => whnf
     refine ⟨_, (fun _ => rr), ?_⟩
     conv => whnf
     obtain ⟨x_95, hx_95, h⟩ := bS h
     refine ⟨_, ⟨rfl, rfl, (by (conv => whnf); (refine ixS_of hx_95 rfl ?_); (conv => whnf); (exact rr))⟩, ?_⟩
     conv => whnf
     refine ⟨_, ⟨rfl, rfl, (by (conv => whnf); (refine elP_of hx_95 ?_); (conv => whnf); (exact rr))⟩, ?_⟩
     conv => whnf
     refine ⟨_, (fun _ => rr), ?_⟩
     conv => whnf
     refine cB h (fun hb96 h => ?_) (fun hb96 h => ?_)
     ·conv => whnf
      refine ⟨_, (fun _ => rr), ?_⟩
      conv => whnf
      refine ⟨_, (fun _ => rr), ?_⟩
      conv => whnf
      obtain ⟨x_97, hx_97, h⟩ := bS h
      refine ⟨_, ⟨rfl, rfl, (by (conv => whnf); (refine ixS_of hx_97 rfl ?_); (conv => whnf); (exact rr))⟩, ?_⟩
      conv => whnf
      refine ⟨_, ⟨rfl, rfl, (by (conv => whnf); (refine elP_of hx_97 ?_); (conv => whnf); (exact rr))⟩, ?_⟩
      conv => whnf
      refine ⟨_, (fun _ => rr), ?_⟩
      conv => whnf
      refine ⟨_, (fun _ => rr), ?_⟩
      conv => whnf
      obtain ⟨x_98, hx_98, h⟩ := bS h
      refine ⟨_, ⟨rfl, rfl, (by (conv => whnf); (refine ixS_of hx_98 rfl ?_); (conv => whnf); (exact rr))⟩, ?_⟩
      conv => whnf
      refine ⟨_, ⟨rfl, rfl, (by (conv => whnf); (refine elP_of hx_98 ?_); (conv => whnf); (exact rr))⟩, ?_⟩
      conv => whnf
      refine ⟨_, (fun _ => rr), ?_⟩
      conv => whnf
      refine ⟨_, (fun _ => rr), ?_⟩
      conv => whnf
      refine Tr.cond ?_
      conv => whnf
      refine cB h (fun hb99 h => ?_) (fun hb99 h => ?_)
      ·refine rg ?_
       conv => whnf
       refine arS_raw ?_
       conv => whnf
       refine rg ?_
       conv => whnf
       refine arS_raw ?_
       conv => whnf
       refine ⟨((w64 (before_88 + 1)), (w64 (k_89 + 1))), h, ?_⟩
       exact Wk.mk2 [0, 1] 2 rfl rfl (by decide) rfl ⟨daS_d rfl, daS_d rfl, trivial⟩ ⟨rr, rr, rr, rr, rr, rr, rr, rr, rr, rr, rr, trivial⟩
      refine Tr.skip ?_
      conv => whnf
      refine rg ?_
      conv => whnf
      refine arS_raw ?_
      conv => whnf
      refine ⟨(before_88, (w64 (k_89 + 1))), h, ?_⟩
      exact Wk.mk2 [0, 1] 2 rfl rfl (by decide) rfl ⟨daS_d rfl, daS_d rfl, trivial⟩ ⟨rr, rr, rr, rr, rr, rr, rr, rr, rr, rr, rr, trivial⟩
     conv => whnf
     refine ⟨_, (fun _ => rr), ?_⟩
     conv => whnf
     refine Tr.cond ?_
     conv => whnf
     refine Tr.skip ?_
     conv => whnf
     refine rg ?_
     conv => whnf
     refine arS_raw ?_
     conv => whnf
     refine ⟨(before_88, (w64 (k_89 + 1))), h, ?_⟩
     exact Wk.mk2 [0, 1] 2 rfl rfl (by decide) rfl ⟨daS_d rfl, daS_d rfl, trivial⟩ ⟨rr, rr, rr, rr, rr, rr, rr, rr, rr, rr, rr, trivial⟩
    refine Tr.exit ?_
    conv => whnf
    cases h
    exact Wk.mk2 [0, 1] 2 rfl rfl (by decide) rfl ⟨daS_d rfl, daS_d rfl, trivial⟩ ⟨rr, rr, rr, rr, rr, rr, rr, rr, rr, rr, trivial⟩
   clear hv100
   conv => whnf
   refine Tr.weak hw ?_
   refine Tr.seq ?_
   obtain ⟨v_101, hv102, h⟩ := bS h
   refine Tr.cutQ1 ([(0, .d (.ls (List.map eTTotal l_1))), (3, (dI most_4)), (8, .d (.b false)), (9, .sl 0 1 0 (List.length l_30)), (10, .sl 1 1 0 (List.length l_31)), (14, .d (.ls (List.map eI r_65))), (16, .d (.ls (List.map eI r_68))), (17, .d (.ls (List.map eI r_69))), (19, (dI i_75)), (213, .d (.b v_101))]) ([some (.arr 1 (List.map .d (List.map eI l_30))), some (.arr 1 (List.map .d (List.map eB l_31)))]) ?_ (fun T1 H1 hw => ?_)
   ·replace h := hv102; clear hv102
    refine rg ?_
    conv => whnf
    refine cB h (fun hb103 h => ?_) (fun hb103 h => ?_)
    ·conv => whnf
     obtain ⟨x_104, hx_104, h⟩ := bS h
     refine ixP_of hx_104 ?_
     conv => whnf
     obtain ⟨r_105, hc106, h⟩ := bS h
     refine PC.ecall (P1272 r_65 x_104.Bib r_105 hc106) (fun rs hrs => ?_)
     subst hrs
     conv => whnf
     refine cB h (fun hb107 h => ?_) (fun hb107 h => ?_)
     ·conv => whnf
      cases h
      exact Wk.mk2 [0, 1] 2 rfl rfl (by decide) rfl ⟨daS_d rfl, daS_d rfl, trivial⟩ ⟨rr, rr, rr, rr, rr, rr, rr, rr, rr, rr, trivial⟩
     conv => whnf
     refine cB h (fun hb108 h => ?_) (fun hb108 h => ?_)
     ·conv => whnf
      obtain ⟨x_109, hx_109, h⟩ := bS h
      refine ixP_of hx_109 ?_
      conv => whnf
      obtain ⟨r_110, hc111, h⟩ := bS h
      refine PC.ecall (P1272 r_68 x_109.Bib r_110 hc111) (fun rs hrs => ?_)
      subst hrs
      conv => whnf
      refine cB h (fun hb112 h => ?_) (fun hb112 h => ?_)
      ·conv => whnf
       cases h
       exact Wk.mk2 [0, 1] 2 rfl rfl (by decide) rfl ⟨daS_d rfl, daS_d rfl, trivial⟩ ⟨rr, rr, rr, rr, rr, rr, rr, rr, rr, rr, trivial⟩
      conv => whnf
      refine cB h (fun hb113 h => ?_) (fun hb113 h => ?_)
      ·conv => whnf
       obtain ⟨x_114, hx_114, h⟩ := bS h
       refine ixP_of hx_114 ?_
       conv => whnf
       obtain ⟨r_115, hc116, h⟩ := bS h
       refine PC.ecall (P1272 r_69 x_114.Bib r_115 hc116) (fun rs hrs => ?_)
       subst hrs
       conv => whnf
       cases h
       exact Wk.mk2 [0, 1] 2 rfl rfl (by decide) rfl ⟨daS_d rfl, daS_d rfl, trivial⟩ ⟨rr, rr, rr, rr, rr, rr, rr, rr, rr, rr, trivial⟩
      conv => whnf
      cases h
      exact Wk.mk2 [0, 1] 2 rfl rfl (by decide) rfl ⟨daS_d rfl, daS_d rfl, trivial⟩ ⟨rr, rr, rr, rr, rr, rr, rr, rr, rr, rr, trivial⟩
     conv => whnf
     refine cB h (fun hb117 h => ?_) (fun hb117 h => ?_)
     ·conv => whnf
      obtain ⟨x_118, hx_118, h⟩ := bS h
      refine ixP_of hx_118 ?_
      conv => whnf
      obtain ⟨r_119, hc120, h⟩ := bS h
      refine PC.ecall (P1272 r_69 x_118.Bib r_119 hc120) (fun rs hrs => ?_)
      subst hrs
      conv => whnf
      cases h
      exact Wk.mk2 [0, 1] 2 rfl rfl (by decide) rfl ⟨daS_d rfl, daS_d rfl, trivial⟩ ⟨rr, rr, rr, rr, rr, rr, rr, rr, rr, rr, trivial⟩
     conv => whnf
     cases h
     exact Wk.mk2 [0, 1] 2 rfl rfl (by decide) rfl ⟨daS_d rfl, daS_d rfl, trivial⟩ ⟨rr, rr, rr, rr, rr, rr, rr, rr, rr, rr, trivial⟩
    conv => whnf
    refine cB h (fun hb121 h => ?_) (fun hb121 h => ?_)
    ·conv => whnf
     obtain ⟨x_122, hx_122, h⟩ := bS h
     refine ixP_of hx_122 ?_
     conv => whnf
     obtain ⟨r_123, hc124, h⟩ := bS h
     refine PC.ecall (P1272 r_68 x_122.Bib r_123 hc124) (fun rs hrs => ?_)
     subst hrs
     conv => whnf
     refine cB h (fun hb125 h => ?_) (fun hb125 h => ?_)
     ·conv => whnf
      cases h
      exact Wk.mk2 [0, 1] 2 rfl rfl (by decide) rfl ⟨daS_d rfl, daS_d rfl, trivial⟩ ⟨rr, rr, rr, rr, rr, rr, rr, rr, rr, rr, trivial⟩
     conv => whnf
     refine cB h (fun hb126 h => ?_) (fun hb126 h => ?_)
     ·conv => whnf
      obtain ⟨x_127, hx_127, h⟩ := bS h
      refine ixP_of hx_127 ?_
      conv => whnf
      obtain ⟨r_128, hc129, h⟩ := bS h
      refine PC.ecall (P1272 r_69 x_127.Bib r_128 hc129) (fun rs hrs => ?_)
      subst hrs
      conv => whnf
      cases h
      exact Wk.mk2 [0, 1] 2 rfl rfl (by decide) rfl ⟨daS_d rfl, daS_d rfl, trivial⟩ ⟨rr, rr, rr, rr, rr, rr, rr, rr, rr, rr, trivial⟩
     conv => whnf
     cases h
     exact Wk.mk2 [0, 1] 2 rfl rfl (by decide) rfl ⟨daS_d rfl, daS_d rfl, trivial⟩ ⟨rr, rr, rr, rr, rr, rr, rr, rr, rr, rr, trivial⟩
    conv => whnf
    refine cB h (fun hb130 h => ?_) (fun hb130 h => ?_)
    ·conv => whnf
     obtain ⟨x_131, hx_131, h⟩ := bS h
     refine ixP_of hx_131 ?_
     conv => whnf
     obtain ⟨r_132, hc133, h⟩ := bS h
     refine PC.ecall (P1272 r_69 x_131.Bib r_132 hc133) (fun rs hrs => ?_)
     subst hrs
     conv => whnf
     cases h
     exact Wk.mk2 [0, 1] 2 rfl rfl (by decide) rfl ⟨daS_d rfl, daS_d rfl, trivial⟩ ⟨rr, rr, rr, rr, rr, rr, rr, rr, rr, rr, trivial⟩
    conv => whnf
    cases h
    exact Wk.mk2 [0, 1] 2 rfl rfl (by decide) rfl ⟨daS_d rfl, daS_d rfl, trivial⟩ ⟨rr, rr, rr, rr, rr, rr, rr, rr, rr, rr, trivial⟩
   clear hv102
   conv => whnf
   refine Tr.weak hw ?_
   refine Tr.cond ?_
   conv => whnf
   refine cB h (fun hb134 h => ?_) (fun hb134 h => ?_)
   ·refine Tr.seq ?_
    refine rg ?_
    conv => whnf
    refine Tr.ret ?_
    conv => whnf
    cases h
    rfl
   refine Tr.skip ?_
   conv => whnf
   refine rg ?_
   conv => whnf
   refine arS_raw ?_
   conv => whnf
   refine ⟨((w64 (i_75 + 1))), h, ?_⟩
   exact Wk.mk2 [0, 1] 2 rfl rfl (by decide) rfl ⟨daS_d rfl, daS_d rfl, trivial⟩ ⟨rr, rr, rr, rr, rr, rr, rr, rr, rr, trivial⟩
  refine Tr.exit ?_
  conv => whnf
  refine ⟨(), h, ?_⟩
  exact Wk.mk2 [] 2 rfl rfl (by decide) rfl trivial ⟨rr, trivial⟩
 clear h
 rintro _ h T1 H1 hw
 replace h : M1277 () = some r_5 := h
 conv => whnf
 refine Tr.weak hw ?_
 unfold M1277 at h
 refine Tr.seq ?_
 refine rg ?_
 conv => whnf
 refine Tr.ret ?_
 conv => whnf
 cases h
 rfl
end Go.Proofs.Tryz
