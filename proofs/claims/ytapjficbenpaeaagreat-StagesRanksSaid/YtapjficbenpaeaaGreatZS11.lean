/- Contracts of functions, by program (gen.py). No condition. -/
import Derived.Test.YtapjficbenpaeaaGreatZL
import Derived.Test.YtapjficbenpaeaaGreatZM
import Derived.Test.YtapjficbenpaeaaGreatZS10
namespace Go.Proofs.Tryz
open Go Go.Abs Go.Stop
set_option maxRecDepth 8000
set_option linter.unusedVariables false
set_option linter.unusedSimpArgs false
theorem P1255 (l_1 : List TTotal) (r_2 : Bool) (h : M1255 l_1 = some r_2) :
    PC prog 22 [(.ls (List.map eTTotal l_1))] (fun rs => rs = [(.b r_2)]) := by
 refine PC.of_tr (cx := ⟨20, none, lay, 0⟩) layOK func22 rfl rfl rfl rfl rfl (by simp [f22]) ?_
 unfold M1255 at h
 refine Tr.seq ?_
 refine rg ?_
 conv => whnf
 refine Tr.seq ?_
 refine Tr.seq ?_
 refine rg ?_
 conv => whnf
 refine lnS_map ?_
 conv => whnf
 refine Tr.cond ?_
 conv => whnf
 refine cB h (fun hb3 h => ?_) (fun hb3 h => ?_)
 ·refine Tr.seq ?_
  refine rg ?_
  conv => whnf
  refine Tr.ret ?_
  conv => whnf
  cases h
  rfl
 refine Tr.skip ?_
 conv => whnf
 refine Tr.seq ?_
 refine Tr.seq ?_
 refine rg ?_
 conv => whnf
 refine Tr.cutQ (α := Unit) (fun s => ([(2, .d (.b false))], [])) (fun s => M1254 s = some r_2) ?_ ?_
 ·refine Tr.block ?_
  refine Tr.loopM (σ := Int) (fun n s => M1253 l_1 M1254 n s) r_2 (fun s => ([(0, .d (.ls (List.map eTTotal l_1))), (2, .d (.b false)), (3, (dI s))], [])) (((((l_1).length : Int)) - 0 : Int).toNat + 1) (0) h (fun s => rfl) (Wk.mk2 [] 0 rfl rfl (by decide) rfl trivial ⟨rr, rr, rr, trivial⟩) ?_
  clear h
  rintro n_6 i_5 h
  replace h : M1253 l_1 M1254 (n_6 + 1) i_5 = some r_2 := h
  rw [M1253] at h
  refine Tr.seq ?_
  refine Tr.seq ?_
  refine rg ?_
  conv => whnf
  refine lnS_map ?_
  conv => whnf
  refine Tr.cond ?_
  conv => whnf
  refine cB h (fun hb9 h => ?_) (fun hb9 h => ?_)
  ·refine Tr.skip ?_
   conv => whnf
   refine Tr.seq ?_
   refine Tr.block ?_
   refine Tr.seq ?_
   refine rg ?_
   conv => whnf
   obtain ⟨x_10, hx_10, h⟩ := bS h
   refine ixP_of hx_10 ?_
   conv => whnf
   refine lnS_map ?_
   conv => whnf
   refine Tr.cond ?_
   conv => whnf
   refine cB h (fun hb11 h => ?_) (fun hb11 h => ?_)
   ·refine Tr.seq ?_
    refine rg ?_
    conv => whnf
    refine Tr.ret ?_
    conv => whnf
    cases h
    rfl
   refine Tr.skip ?_
   conv => whnf
   refine rg ?_
   conv => whnf
   refine arS_raw ?_
   conv => whnf
   refine ⟨((w64 (i_5 + 1))), h, ?_⟩
   exact Wk.mk2 [] 0 rfl rfl (by decide) rfl trivial ⟨rr, rr, rr, trivial⟩
  refine Tr.exit ?_
  conv => whnf
  refine ⟨(), h, ?_⟩
  exact Wk.mk2 [] 0 rfl rfl (by decide) rfl trivial ⟨rr, trivial⟩
 clear h
 rintro _ h T1 H1 hw
 replace h : M1254 () = some r_2 := h
 conv => whnf
 refine Tr.weak hw ?_
 unfold M1254 at h
 refine Tr.seq ?_
 refine rg ?_
 conv => whnf
 refine Tr.ret ?_
 conv => whnf
 cases h
 rfl
theorem P1258 (l_1 : List TTotal) (r_2 : Bool) (h : M1258 l_1 = some r_2) :
    PC prog 30 [(.ls (List.map eTTotal l_1))] (fun rs => rs = [(.b r_2)]) := by
 refine PC.of_tr (cx := ⟨84, none, lay, 0⟩) layOK func30 rfl rfl rfl rfl rfl (by simp [f30]) ?_
 unfold M1258 at h
 refine Tr.seq ?_
 refine rg ?_
 conv => whnf
 refine Tr.seq ?_
 refine Tr.seq ?_
 refine rg ?_
 conv => whnf
 refine Tr.cutQ (α := Unit) (fun s => ([(2, .d (.b false))], [])) (fun s => M1257 s = some r_2) ?_ ?_
 ·refine Tr.block ?_
  refine Tr.loopM (σ := Int) (fun n s => M1256 l_1 M1257 n s) r_2 (fun s => ([(0, .d (.ls (List.map eTTotal l_1))), (2, .d (.b false)), (3, (dI s))], [])) (((((l_1).length : Int)) - 0 : Int).toNat + 1) (0) h (fun s => rfl) (Wk.mk2 [] 0 rfl rfl (by decide) rfl trivial ⟨rr, rr, rr, trivial⟩) ?_
  clear h
  rintro n_5 i_4 h
  replace h : M1256 l_1 M1257 (n_5 + 1) i_4 = some r_2 := h
  rw [M1256] at h
  refine Tr.seq ?_
  refine Tr.seq ?_
  refine rg ?_
  conv => whnf
  refine lnS_map ?_
  conv => whnf
  refine Tr.cond ?_
  conv => whnf
  refine cB h (fun hb8 h => ?_) (fun hb8 h => ?_)
  ·refine Tr.skip ?_
   conv => whnf
   refine Tr.seq ?_
   refine Tr.block ?_
   refine Tr.seq ?_
   refine rg ?_
   conv => whnf
   obtain ⟨x_9, hx_9, h⟩ := bS h
   refine ixP_of hx_9 ?_
   conv => whnf
   obtain ⟨⟨r_10, r_11⟩, hc12, h⟩ := bS h
   refine PC.ecall (P1252 x_9.Sums r_10 r_11 hc12) (fun rs hrs => ?_)
   subst hrs
   conv => whnf
   refine Tr.seq ?_
   obtain ⟨v_13, hv14, h⟩ := bS h
   refine Tr.cutQ1 ([(0, .d (.ls (List.map eTTotal l_1))), (2, .d (.b false)), (3, (dI i_4)), (83, .d (.b v_13))]) ([]) ?_ (fun T1 H1 hw => ?_)
   ·replace h := hv14; clear hv14
    refine Tr.draw (DrawP.seqQ layOK mixed [] [(0, 1), (1, 1), (2, 2), (3, 2), (4, 2), (5, 1), (6, 1), (7, 1), (8, 1), (9, 2), (10, 2), (11, 2), (12, 1), (13, 1), (14, 1), (15, 1), (16, 1), (17, 1), (18, 1), (19, 1), (20, 2), (21, 2), (22, 2), (23, 1), (24, 1), (25, 1), (26, 2), (27, 2), (28, 2), (29, 1), (30, 1), (31, 1), (32, 1), (33, 1), (34, 1), (35, 1), (36, 1), (37, 1), (38, 1), (39, 1), (40, 2), (41, 2), (42, 2), (43, 1), (44, 1), (45, 1), (46, 1), (47, 1), (48, 1), (49, 2), (50, 2), (51, 2), (52, 2), (53, 1), (54, 1), (55, 1), (56, 1), (57, 2), (58, 2), (59, 2), (60, 1), (61, 1), (62, 1)] (by kernel_rfl) ?_)
    conv => whnf
    refine ⟨_, (fun _ => rr), ?_⟩
    conv => whnf
    refine ⟨_, (fun _ => rr), ?_⟩
    conv => whnf
    obtain ⟨x_15, hx_15, h⟩ := bS h
    refine ⟨_, ⟨rfl, rfl, (by (conv => whnf); (refine ixP_of hx_15 ?_); (conv => whnf); (exact rr))⟩, ?_⟩
    conv => whnf
    refine ⟨_, ⟨rfl, rfl, rr⟩, ?_⟩
    conv => whnf
    refine ⟨_, ⟨rfl, rfl, rr⟩, ?_⟩
    conv => whnf
    refine ⟨_, (fun _ => rr), ?_⟩
    conv => whnf
    refine ⟨_, (fun _ => rr), ?_⟩
    conv => whnf
    refine cB h (fun hb16 h => ?_) (fun hb16 h => ?_)
    ·conv => whnf
     refine ⟨_, (fun _ => rr), ?_⟩
     conv => whnf
     refine ⟨_, (fun _ => rr), ?_⟩
     conv => whnf
     refine ⟨_, (fun _ => rr), ?_⟩
     conv => whnf
     refine ⟨_, (fun _ => rr), ?_⟩
     conv => whnf
     refine ⟨_, (fun _ => rr), ?_⟩
     conv => whnf
     refine ⟨_, (fun _ => rr), ?_⟩
     conv => whnf
     refine ⟨_, (fun _ => rr), ?_⟩
     conv => whnf
     refine ⟨_, (fun _ => rr), ?_⟩
     conv => whnf
     refine ⟨_, (fun _ => rr), ?_⟩
     conv => whnf
     cases h
     exact Wk.mk2 [] 0 rfl rfl (by decide) rfl trivial ⟨rr, rr, rr, rr, trivial⟩
    conv => whnf
    refine ⟨_, (fun _ => rr), ?_⟩
    conv => whnf
    refine ⟨_, (fun _ => rr), ?_⟩
    conv => whnf
    obtain ⟨x_17, hx_17, h⟩ := bS h
    refine ⟨_, ⟨rfl, rfl, (by (conv => whnf); (refine ixP_of hx_17 ?_); (conv => whnf); (exact rr))⟩, ?_⟩
    conv => whnf
    refine ⟨_, ⟨rfl, rfl, rr⟩, ?_⟩
    conv => whnf
    refine ⟨_, ⟨rfl, rfl, rr⟩, ?_⟩
    conv => whnf
    refine ⟨_, (fun _ => rr), ?_⟩
    conv => whnf
    refine ⟨_, (fun _ => rr), ?_⟩
    conv => whnf
    refine ⟨_, (fun _ => rr), ?_⟩
    conv => whnf
    refine cB h (fun hb18 h => ?_) (fun hb18 h => ?_)
    ·conv => whnf
     refine ⟨_, (fun _ => rr), ?_⟩
     conv => whnf
     refine ⟨_, (fun _ => rr), ?_⟩
     conv => whnf
     refine ⟨_, (fun _ => rr), ?_⟩
     conv => whnf
     refine ⟨_, (fun _ => rr), ?_⟩
     conv => whnf
     refine ⟨_, (fun _ => rr), ?_⟩
     conv => whnf
     refine ⟨_, (fun _ => rr), ?_⟩
     conv => whnf
     refine ⟨_, (fun _ => rr), ?_⟩
     conv => whnf
     cases h
     exact Wk.mk2 [] 0 rfl rfl (by decide) rfl trivial ⟨rr, rr, rr, rr, trivial⟩
    conv => whnf
    refine ⟨_, (fun _ => rr), ?_⟩
    conv => whnf
    refine ⟨_, (fun _ => rr), ?_⟩
    conv => whnf
    refine ⟨_, (fun _ => rr), ?_⟩
    conv => whnf
    refine cB h (fun hb19 h => ?_) (fun hb19 h => ?_)
    ·conv => whnf
     refine ⟨_, (fun _ => rr), ?_⟩
     conv => whnf
     refine ⟨_, (fun _ => rr), ?_⟩
     conv => whnf
     obtain ⟨x_20, hx_20, h⟩ := bS h
     refine ⟨_, ⟨rfl, rfl, (by (conv => whnf); (refine ixP_of hx_20 ?_); (conv => whnf); (exact rr))⟩, ?_⟩
     conv => whnf
     refine ⟨_, ⟨rfl, rfl, rr⟩, ?_⟩
     conv => whnf
     refine ⟨_, ⟨rfl, rfl, rr⟩, ?_⟩
     conv => whnf
     refine ⟨_, (fun _ => rr), ?_⟩
     conv => whnf
     refine ⟨_, (fun _ => rr), ?_⟩
     conv => whnf
     refine ⟨_, (fun _ => by (conv => whnf); (refine arS_raw ?_); (conv => whnf); (exact rr)), ?_⟩
     conv => whnf
     obtain ⟨x_21, hx_21, h⟩ := bS h
     refine ⟨_, ⟨rfl, rfl, (by (conv => whnf); (refine ixP_of hx_21 ?_); (conv => whnf); (exact rr))⟩, ?_⟩
     conv => whnf
     refine ⟨_, ⟨rfl, rfl, rr⟩, ?_⟩
     conv => whnf
     refine ⟨_, ⟨rfl, rfl, rr⟩, ?_⟩
     conv => whnf
     refine ⟨_, (fun _ => rr), ?_⟩
     conv => whnf
     refine ⟨_, (fun _ => rr), ?_⟩
     conv => whnf
     refine ⟨_, (fun _ => rr), ?_⟩
     conv => whnf
     refine ⟨_, (fun _ => rr), ?_⟩
     conv => whnf
     refine cB h (fun hb22 h => ?_) (fun hb22 h => ?_)
     ·conv => whnf
      refine ⟨_, (fun _ => rr), ?_⟩
      conv => whnf
      refine ⟨_, (fun _ => rr), ?_⟩
      conv => whnf
      refine ⟨_, (fun _ => rr), ?_⟩
      conv => whnf
      refine ⟨_, (fun _ => rr), ?_⟩
      conv => whnf
      refine ⟨_, (fun _ => rr), ?_⟩
      conv => whnf
      cases h
      exact Wk.mk2 [] 0 rfl rfl (by decide) rfl trivial ⟨rr, rr, rr, rr, trivial⟩
     conv => whnf
     refine ⟨_, (fun _ => rr), ?_⟩
     conv => whnf
     refine ⟨_, (fun _ => rr), ?_⟩
     conv => whnf
     refine ⟨_, (fun _ => rr), ?_⟩
     conv => whnf
     refine ⟨_, (fun _ => rr), ?_⟩
     conv => whnf
     refine cB h (fun hb23 h => ?_) (fun hb23 h => ?_)
     ·conv => whnf
      refine ⟨_, (fun _ => rr), ?_⟩
      conv => whnf
      refine ⟨_, (fun _ => rr), ?_⟩
      conv => whnf
      refine ⟨_, (fun _ => rr), ?_⟩
      conv => whnf
      cases h
      exact Wk.mk2 [] 0 rfl rfl (by decide) rfl trivial ⟨rr, rr, rr, rr, trivial⟩
     conv => whnf
     refine ⟨_, (fun _ => rr), ?_⟩
     conv => whnf
     refine ⟨_, (fun _ => rr), ?_⟩
     conv => whnf
     refine ⟨_, (fun _ => rr), ?_⟩
     conv => whnf
     obtain ⟨x_24, hx_24, h⟩ := bS h
     refine ⟨_, ⟨rfl, rfl, (by (conv => whnf); (refine ixP_of hx_24 ?_); (conv => whnf); (exact rr))⟩, ?_⟩
     conv => whnf
     refine ⟨_, ⟨rfl, rfl, rr⟩, ?_⟩
     conv => whnf
     refine ⟨_, ⟨rfl, rfl, rr⟩, ?_⟩
     conv => whnf
     obtain ⟨r_25, hc26, h⟩ := bS h
     refine ⟨_, (fun _ => by (conv => whnf); (refine PC.ecall (P1193 r_10 x_24.Sums r_25 hc26) (fun rs hrs => ?_)); (subst hrs); (conv => whnf); (exact rr)), ?_⟩
     conv => whnf
     refine ⟨_, (fun _ => rr), ?_⟩
     conv => whnf
     refine ⟨_, (fun _ => rr), ?_⟩
     conv => whnf
     refine ⟨_, (fun _ => rr), ?_⟩
     conv => whnf
     refine cB h (fun hb27 h => ?_) (fun hb27 h => ?_)
     ·conv => whnf
      refine ⟨_, (fun _ => rr), ?_⟩
      conv => whnf
      cases h
      exact Wk.mk2 [] 0 rfl rfl (by decide) rfl trivial ⟨rr, rr, rr, rr, trivial⟩
     conv => whnf
     refine ⟨_, (fun _ => rr), ?_⟩
     conv => whnf
     refine ⟨_, (fun _ => rr), ?_⟩
     conv => whnf
     obtain ⟨x_28, hx_28, h⟩ := bS h
     refine ⟨_, ⟨rfl, rfl, (by (conv => whnf); (refine ixP_of hx_28 ?_); (conv => whnf); (exact rr))⟩, ?_⟩
     conv => whnf
     refine ⟨_, ⟨rfl, rfl, rr⟩, ?_⟩
     conv => whnf
     refine ⟨_, ⟨rfl, rfl, rr⟩, ?_⟩
     conv => whnf
     refine ⟨_, ⟨rfl, rfl, (by (conv => whnf); (refine lnS_map ?_); (conv => whnf); (exact rr))⟩, ?_⟩
     conv => whnf
     refine ⟨_, (fun _ => rr), ?_⟩
     conv => whnf
     refine ⟨_, (fun _ => rr), ?_⟩
     conv => whnf
     refine cB h (fun hb29 h => ?_) (fun hb29 h => ?_)
     ·conv => whnf
      refine ⟨_, (fun _ => rr), ?_⟩
      conv => whnf
      refine ⟨_, (fun _ => rr), ?_⟩
      conv => whnf
      obtain ⟨x_30, hx_30, h⟩ := bS h
      refine ⟨_, ⟨rfl, rfl, (by (conv => whnf); (refine ixP_of hx_30 ?_); (conv => whnf); (exact rr))⟩, ?_⟩
      conv => whnf
      refine ⟨_, ⟨rfl, rfl, rr⟩, ?_⟩
      conv => whnf
      refine ⟨_, ⟨rfl, rfl, rr⟩, ?_⟩
      conv => whnf
      refine ⟨_, (fun _ => rr), ?_⟩
      conv => whnf
      refine ⟨_, (fun _ => rr), ?_⟩
      conv => whnf
      refine ⟨_, (fun _ => rr), ?_⟩
      conv => whnf
      cases h
      exact Wk.mk2 [] 0 rfl rfl (by decide) rfl trivial ⟨rr, rr, rr, rr, trivial⟩
     conv => whnf
     refine ⟨_, (fun _ => rr), ?_⟩
     conv => whnf
     refine ⟨_, (fun _ => rr), ?_⟩
     conv => whnf
     cases h
     exact Wk.mk2 [] 0 rfl rfl (by decide) rfl trivial ⟨rr, rr, rr, rr, trivial⟩
    conv => whnf
    refine ⟨_, (fun _ => rr), ?_⟩
    conv => whnf
    refine ⟨_, (fun _ => rr), ?_⟩
    conv => whnf
    refine ⟨_, (fun _ => rr), ?_⟩
    conv => whnf
    refine ⟨_, (fun _ => rr), ?_⟩
    conv => whnf
    refine ⟨_, (fun _ => rr), ?_⟩
    conv => whnf
    refine ⟨_, (fun _ => rr), ?_⟩
    conv => whnf
    refine ⟨_, (fun _ => rr), ?_⟩
    conv => whnf
    refine cB h (fun hb31 h => ?_) (fun hb31 h => ?_)
    ·conv => whnf
     refine ⟨_, (fun _ => rr), ?_⟩
     conv => whnf
     refine ⟨_, (fun _ => rr), ?_⟩
     conv => whnf
     refine ⟨_, (fun _ => rr), ?_⟩
     conv => whnf
     cases h
     exact Wk.mk2 [] 0 rfl rfl (by decide) rfl trivial ⟨rr, rr, rr, rr, trivial⟩
    conv => whnf
    refine ⟨_, (fun _ => rr), ?_⟩
    conv => whnf
    refine ⟨_, (fun _ => rr), ?_⟩
    conv => whnf
    refine ⟨_, (fun _ => rr), ?_⟩
    conv => whnf
    obtain ⟨x_32, hx_32, h⟩ := bS h
    refine ⟨_, ⟨rfl, rfl, (by (conv => whnf); (refine ixP_of hx_32 ?_); (conv => whnf); (exact rr))⟩, ?_⟩
    conv => whnf
    refine ⟨_, ⟨rfl, rfl, rr⟩, ?_⟩
    conv => whnf
    refine ⟨_, ⟨rfl, rfl, rr⟩, ?_⟩
    conv => whnf
    obtain ⟨r_33, hc34, h⟩ := bS h
    refine ⟨_, (fun _ => by (conv => whnf); (refine PC.ecall (P1193 r_10 x_32.Sums r_33 hc34) (fun rs hrs => ?_)); (subst hrs); (conv => whnf); (exact rr)), ?_⟩
    conv => whnf
    refine ⟨_, (fun _ => rr), ?_⟩
    conv => whnf
    refine ⟨_, (fun _ => rr), ?_⟩
    conv => whnf
    refine ⟨_, (fun _ => rr), ?_⟩
    conv => whnf
    refine cB h (fun hb35 h => ?_) (fun hb35 h => ?_)
    ·conv => whnf
     refine ⟨_, (fun _ => rr), ?_⟩
     conv => whnf
     cases h
     exact Wk.mk2 [] 0 rfl rfl (by decide) rfl trivial ⟨rr, rr, rr, rr, trivial⟩
    conv => whnf
    refine ⟨_, (fun _ => rr), ?_⟩
    conv => whnf
    refine ⟨_, (fun _ => rr), ?_⟩
    conv => whnf
    obtain ⟨x_36, hx_36, h⟩ := bS h
    refine ⟨_, ⟨rfl, rfl, (by (conv => whnf); (refine ixP_of hx_36 ?_); (conv => whnf); (exact rr))⟩, ?_⟩
    conv => whnf
    refine ⟨_, ⟨rfl, rfl, rr⟩, ?_⟩
    conv => whnf
    refine ⟨_, ⟨rfl, rfl, rr⟩, ?_⟩
    conv => whnf
    refine ⟨_, ⟨rfl, rfl, (by (conv => whnf); (refine lnS_map ?_); (conv => whnf); (exact rr))⟩, ?_⟩
    conv => whnf
    refine ⟨_, (fun _ => rr), ?_⟩
    conv => whnf
    refine ⟨_, (fun _ => rr), ?_⟩
    conv => whnf
    refine cB h (fun hb37 h => ?_) (fun hb37 h => ?_)
    ·conv => whnf
     refine ⟨_, (fun _ => rr), ?_⟩
     conv => whnf
     refine ⟨_, (fun _ => rr), ?_⟩
     conv => whnf
     obtain ⟨x_38, hx_38, h⟩ := bS h
     refine ⟨_, ⟨rfl, rfl, (by (conv => whnf); (refine ixP_of hx_38 ?_); (conv => whnf); (exact rr))⟩, ?_⟩
     conv => whnf
     refine ⟨_, ⟨rfl, rfl, rr⟩, ?_⟩
     conv => whnf
     refine ⟨_, ⟨rfl, rfl, rr⟩, ?_⟩
     conv => whnf
     refine ⟨_, (fun _ => rr), ?_⟩
     conv => whnf
     refine ⟨_, (fun _ => rr), ?_⟩
     conv => whnf
     refine ⟨_, (fun _ => rr), ?_⟩
     conv => whnf
     cases h
     exact Wk.mk2 [] 0 rfl rfl (by decide) rfl trivial ⟨rr, rr, rr, rr, trivial⟩
    conv => whnf
    refine ⟨_, (fun _ => rr), ?_⟩
    conv => whnf
    refine ⟨_, (fun _ => rr), ?_⟩
    conv => whnf
    cases h
    exact Wk.mk2 [] 0 rfl rfl (by decide) rfl trivial ⟨rr, rr, rr, rr, trivial⟩
   clear hv14
   conv => whnf
   refine Tr.weak hw ?_
   refine Tr.cond ?_
   conv => whnf
   refine cB h (fun hb39 h => ?_) (fun hb39 h => ?_)
   ·refine Tr.seq ?_
    refine rg ?_
    conv => whnf
    refine Tr.ret ?_
    conv => whnf
    cases h
    rfl
   refine Tr.skip ?_
   conv => whnf
   refine rg ?_
   conv => whnf
   refine arS_raw ?_
   conv => whnf
   refine ⟨((w64 (i_4 + 1))), h, ?_⟩
   exact Wk.mk2 [] 0 rfl rfl (by decide) rfl trivial ⟨rr, rr, rr, trivial⟩
  refine Tr.exit ?_
  conv => whnf
  refine ⟨(), h, ?_⟩
  exact Wk.mk2 [] 0 rfl rfl (by decide) rfl trivial ⟨rr, trivial⟩
 clear h
 rintro _ h T1 H1 hw
 replace h : M1257 () = some r_2 := h
 conv => whnf
 refine Tr.weak hw ?_
 unfold M1257 at h
 refine Tr.seq ?_
 refine rg ?_
 conv => whnf
 refine Tr.ret ?_
 conv => whnf
 cases h
 rfl
theorem P1259 (t_1 : TTotal) (r_2 : Int) (h : M1259 t_1 = some r_2) :
    PC prog 87 [(eTTotal t_1)] (fun rs => rs = [(.i .i64 r_2)]) := by
 refine PC.of_tr (cx := ⟨12, none, lay, 0⟩) layOK func87 rfl rfl rfl rfl rfl (by simp [f87]) ?_
 unfold M1259 at h
 refine Tr.seq ?_
 refine rg ?_
 conv => whnf
 refine Tr.seq ?_
 refine rg ?_
 conv => whnf
 refine lnS_map ?_
 conv => whnf
 refine arS_raw ?_
 conv => whnf
 obtain ⟨x_3, hx_3, h⟩ := bS h
 refine ixP_of hx_3 ?_
 conv => whnf
 refine Tr.ret ?_
 conv => whnf
 cases h
 rfl
theorem P1260 (t_1 : TTotal) (r_2 : Int) (h : M1260 t_1 = some r_2) :
    PC prog 88 [(eTTotal t_1)] (fun rs => rs = [(.i .i64 r_2)]) := by
 refine PC.of_tr (cx := ⟨8, none, lay, 0⟩) layOK func88 rfl rfl rfl rfl rfl (by simp [f88]) ?_
 unfold M1260 at h
 refine Tr.seq ?_
 refine rg ?_
 conv => whnf
 refine Tr.seq ?_
 refine rg ?_
 conv => whnf
 obtain ⟨x_3, hx_3, h⟩ := bS h
 refine ixP_of hx_3 ?_
 conv => whnf
 refine Tr.ret ?_
 conv => whnf
 cases h
 rfl
theorem P1262 (l_1 : List TTotal) (at_2 : Int) (r_3 : Int) (r_4 : Int) (h : M1262 l_1 at_2 = some (r_3, r_4)) :
    PC prog 59 [(.ls (List.map eTTotal l_1)), (.i .i64 at_2)] (fun rs => rs = [(.i .i64 r_3), (.i .i64 r_4)]) := by
 refine PC.of_tr (cx := ⟨63, none, lay, 0⟩) layOK func59 rfl rfl rfl rfl rfl (by simp [f59]) ?_
 unfold M1262 at h
 refine Tr.seq ?_
 refine rg ?_
 conv => whnf
 refine Tr.seq ?_
 refine rg ?_
 conv => whnf
 refine Tr.seq ?_
 refine Tr.seq ?_
 refine rg ?_
 conv => whnf
 obtain ⟨⟨certain_12, perhaps_13⟩, hv53, h⟩ := bS h
 refine Tr.cutQ1 ([(4, (dI 0)), (5, (dI 0)), (6, (dI certain_12)), (7, (dI perhaps_13))]) ([]) ?_ (fun T1 H1 hw => ?_)
 ·replace h := hv53; clear hv53
  refine Tr.block ?_
  refine Tr.loopM (σ := Int × Int × Int) (fun n s => M1261 l_1 at_2 n s.1 s.2.1 s.2.2) (certain_12, perhaps_13) (fun s => ([(0, .d (.ls (List.map eTTotal l_1))), (1, (dI at_2)), (4, (dI 0)), (5, (dI 0)), (6, (dI s.1)), (7, (dI s.2.1)), (8, (dI s.2.2))], [])) (((((l_1).length : Int)) - 0 : Int).toNat + 1) (0, 0, 0) h (fun s => rfl) (Wk.mk2 [] 0 rfl rfl (by decide) rfl trivial ⟨rr, rr, rr, rr, rr, rr, rr, trivial⟩) ?_
  clear h
  rintro n_11 ⟨certain_8, perhaps_9, i_10⟩ h
  replace h : M1261 l_1 at_2 (n_11 + 1) certain_8 perhaps_9 i_10 = some (certain_12, perhaps_13) := h
  rw [M1261] at h
  refine Tr.seq ?_
  refine Tr.seq ?_
  refine rg ?_
  conv => whnf
  refine lnS_map ?_
  conv => whnf
  refine Tr.cond ?_
  conv => whnf
  refine cB h (fun hb16 h => ?_) (fun hb16 h => ?_)
  ·refine Tr.skip ?_
   conv => whnf
   refine Tr.seq ?_
   obtain ⟨⟨certain_17, perhaps_18⟩, hv19, h⟩ := bS h
   refine Tr.cutQ1 ([(0, .d (.ls (List.map eTTotal l_1))), (1, (dI at_2)), (4, (dI 0)), (5, (dI 0)), (6, (dI certain_17)), (7, (dI perhaps_18)), (8, (dI i_10))]) ([]) ?_ (fun T1 H1 hw => ?_)
   ·replace h := hv19; clear hv19
    refine Tr.block ?_
    refine Tr.seq ?_
    refine Tr.seq ?_
    refine rg ?_
    conv => whnf
    refine cB h (fun hb20 h => ?_) (fun hb20 h => ?_)
    ·conv => whnf
     refine Tr.cond ?_
     conv => whnf
     refine Tr.exit ?_
     conv => whnf
     cases h
     exact Wk.mk2 [] 0 rfl rfl (by decide) rfl trivial ⟨rr, rr, rr, rr, rr, rr, rr, trivial⟩
    conv => whnf
    obtain ⟨x_21, hx_21, h⟩ := bS h
    refine ixP_of hx_21 ?_
    conv => whnf
    refine lnS_map ?_
    conv => whnf
    refine Tr.cond ?_
    conv => whnf
    refine cB h (fun hb22 h => ?_) (fun hb22 h => ?_)
    ·refine Tr.exit ?_
     conv => whnf
     cases h
     exact Wk.mk2 [] 0 rfl rfl (by decide) rfl trivial ⟨rr, rr, rr, rr, rr, rr, rr, trivial⟩
    refine Tr.skip ?_
    conv => whnf
    refine Tr.seq ?_
    refine Tr.seq ?_
    refine Tr.draw (DrawP.seqQ layOK mixed [] [(0, 1), (1, 1), (2, 2), (3, 2), (4, 2), (5, 1), (6, 1), (7, 1), (8, 1), (9, 2), (10, 2), (11, 1), (12, 1), (13, 1), (14, 2), (15, 2), (16, 1), (17, 1), (18, 1)] (by kernel_rfl) ?_)
    conv => whnf
    refine ⟨_, (fun _ => rr), ?_⟩
    conv => whnf
    refine ⟨_, (fun _ => rr), ?_⟩
    conv => whnf
    obtain ⟨x_23, hx_23, h⟩ := bS h
    refine ⟨_, ⟨rfl, rfl, (by (conv => whnf); (refine ixP_of hx_23 ?_); (conv => whnf); (exact rr))⟩, ?_⟩
    conv => whnf
    refine ⟨_, ⟨rfl, rfl, rr⟩, ?_⟩
    conv => whnf
    refine ⟨_, ⟨rfl, rfl, rr⟩, ?_⟩
    conv => whnf
    refine ⟨_, (fun _ => rr), ?_⟩
    conv => whnf
    refine ⟨_, (fun _ => rr), ?_⟩
    conv => whnf
    refine cB h (fun hb24 h => ?_) (fun hb24 h => ?_)
    ·conv => whnf
     refine ⟨_, (fun _ => rr), ?_⟩
     conv => whnf
     refine ⟨_, (fun _ => rr), ?_⟩
     conv => whnf
     obtain ⟨x_25, hx_25, h⟩ := bS h
     refine ⟨_, ⟨rfl, rfl, (by (conv => whnf); (refine ixP_of hx_25 ?_); (conv => whnf); (exact rr))⟩, ?_⟩
     conv => whnf
     refine ⟨_, ⟨rfl, rfl, rr⟩, ?_⟩
     conv => whnf
     obtain ⟨r_26, hc27, h⟩ := bS h
     refine ⟨_, (fun _ => by (conv => whnf); (refine PC.ecall (P1259 x_25 r_26 hc27) (fun rs hrs => ?_)); (subst hrs); (conv => whnf); (exact rr)), ?_⟩
     conv => whnf
     refine ⟨_, (fun _ => rr), ?_⟩
     conv => whnf
     refine ⟨_, (fun _ => rr), ?_⟩
     conv => whnf
     obtain ⟨x_28, hx_28, h⟩ := bS h
     refine ⟨_, ⟨rfl, rfl, (by (conv => whnf); (refine ixP_of hx_28 ?_); (conv => whnf); (exact rr))⟩, ?_⟩
     conv => whnf
     refine ⟨_, ⟨rfl, rfl, rr⟩, ?_⟩
     conv => whnf
     obtain ⟨r_29, hc30, h⟩ := bS h
     refine ⟨_, (fun _ => by (conv => whnf); (refine PC.ecall (P1260 x_28 r_29 hc30) (fun rs hrs => ?_)); (subst hrs); (conv => whnf); (exact rr)), ?_⟩
     conv => whnf
     refine ⟨_, (fun _ => rr), ?_⟩
     conv => whnf
     refine ⟨_, (fun _ => rr), ?_⟩
     conv => whnf
     refine Tr.cond ?_
     conv => whnf
     refine cB h (fun hb31 h => ?_) (fun hb31 h => ?_)
     ·refine rg ?_
      conv => whnf
      refine arS_raw ?_
      conv => whnf
      refine Tr.seq ?_
      refine Tr.draw (DrawP.seqQ layOK mixed [] [(0, 1), (1, 1), (2, 2), (3, 2), (4, 1), (5, 1), (6, 1), (7, 2), (8, 2), (9, 1), (10, 1)] (by kernel_rfl) ?_)
      conv => whnf
      refine ⟨_, (fun _ => rr), ?_⟩
      conv => whnf
      refine ⟨_, (fun _ => rr), ?_⟩
      conv => whnf
      obtain ⟨x_32, hx_32, h⟩ := bS h
      refine ⟨_, ⟨rfl, rfl, (by (conv => whnf); (refine ixP_of hx_32 ?_); (conv => whnf); (exact rr))⟩, ?_⟩
      conv => whnf
      refine ⟨_, ⟨rfl, rfl, rr⟩, ?_⟩
      conv => whnf
      obtain ⟨r_33, hc34, h⟩ := bS h
      refine ⟨_, (fun _ => by (conv => whnf); (refine PC.ecall (P1260 x_32 r_33 hc34) (fun rs hrs => ?_)); (subst hrs); (conv => whnf); (exact rr)), ?_⟩
      conv => whnf
      refine ⟨_, (fun _ => rr), ?_⟩
      conv => whnf
      refine ⟨_, (fun _ => rr), ?_⟩
      conv => whnf
      obtain ⟨x_35, hx_35, h⟩ := bS h
      refine ⟨_, ⟨rfl, rfl, (by (conv => whnf); (refine ixP_of hx_35 ?_); (conv => whnf); (exact rr))⟩, ?_⟩
      conv => whnf
      refine ⟨_, ⟨rfl, rfl, rr⟩, ?_⟩
      conv => whnf
      obtain ⟨r_36, hc37, h⟩ := bS h
      refine ⟨_, (fun _ => by (conv => whnf); (refine PC.ecall (P1259 x_35 r_36 hc37) (fun rs hrs => ?_)); (subst hrs); (conv => whnf); (exact rr)), ?_⟩
      conv => whnf
      refine ⟨_, (fun _ => rr), ?_⟩
      conv => whnf
      refine Tr.cond ?_
      conv => whnf
      refine cB h (fun hb38 h => ?_) (fun hb38 h => ?_)
      ·refine rg ?_
       conv => whnf
       refine arS_raw ?_
       conv => whnf
       cases h
       exact Wk.mk2 [] 0 rfl rfl (by decide) rfl trivial ⟨rr, rr, rr, rr, rr, rr, rr, trivial⟩
      refine Tr.skip ?_
      conv => whnf
      cases h
      exact Wk.mk2 [] 0 rfl rfl (by decide) rfl trivial ⟨rr, rr, rr, rr, rr, rr, rr, trivial⟩
     refine Tr.skip ?_
     conv => whnf
     refine Tr.seq ?_
     refine Tr.draw (DrawP.seqQ layOK mixed [] [(0, 1), (1, 1), (2, 2), (3, 2), (4, 1), (5, 1), (6, 1), (7, 2), (8, 2), (9, 1), (10, 1)] (by kernel_rfl) ?_)
     conv => whnf
     refine ⟨_, (fun _ => rr), ?_⟩
     conv => whnf
     refine ⟨_, (fun _ => rr), ?_⟩
     conv => whnf
     obtain ⟨x_39, hx_39, h⟩ := bS h
     refine ⟨_, ⟨rfl, rfl, (by (conv => whnf); (refine ixP_of hx_39 ?_); (conv => whnf); (exact rr))⟩, ?_⟩
     conv => whnf
     refine ⟨_, ⟨rfl, rfl, rr⟩, ?_⟩
     conv => whnf
     obtain ⟨r_40, hc41, h⟩ := bS h
     refine ⟨_, (fun _ => by (conv => whnf); (refine PC.ecall (P1260 x_39 r_40 hc41) (fun rs hrs => ?_)); (subst hrs); (conv => whnf); (exact rr)), ?_⟩
     conv => whnf
     refine ⟨_, (fun _ => rr), ?_⟩
     conv => whnf
     refine ⟨_, (fun _ => rr), ?_⟩
     conv => whnf
     obtain ⟨x_42, hx_42, h⟩ := bS h
     refine ⟨_, ⟨rfl, rfl, (by (conv => whnf); (refine ixP_of hx_42 ?_); (conv => whnf); (exact rr))⟩, ?_⟩
     conv => whnf
     refine ⟨_, ⟨rfl, rfl, rr⟩, ?_⟩
     conv => whnf
     obtain ⟨r_43, hc44, h⟩ := bS h
     refine ⟨_, (fun _ => by (conv => whnf); (refine PC.ecall (P1259 x_42 r_43 hc44) (fun rs hrs => ?_)); (subst hrs); (conv => whnf); (exact rr)), ?_⟩
     conv => whnf
     refine ⟨_, (fun _ => rr), ?_⟩
     conv => whnf
     refine Tr.cond ?_
     conv => whnf
     refine cB h (fun hb45 h => ?_) (fun hb45 h => ?_)
     ·refine rg ?_
      conv => whnf
      refine arS_raw ?_
      conv => whnf
      cases h
      exact Wk.mk2 [] 0 rfl rfl (by decide) rfl trivial ⟨rr, rr, rr, rr, rr, rr, rr, trivial⟩
     refine Tr.skip ?_
     conv => whnf
     cases h
     exact Wk.mk2 [] 0 rfl rfl (by decide) rfl trivial ⟨rr, rr, rr, rr, rr, rr, rr, trivial⟩
    conv => whnf
    refine ⟨_, (fun _ => rr), ?_⟩
    conv => whnf
    refine Tr.cond ?_
    conv => whnf
    refine Tr.skip ?_
    conv => whnf
    refine Tr.seq ?_
    refine Tr.draw (DrawP.seqQ layOK mixed [] [(0, 1), (1, 1), (2, 2), (3, 2), (4, 1), (5, 1), (6, 1), (7, 2), (8, 2), (9, 1), (10, 1)] (by kernel_rfl) ?_)
    conv => whnf
    refine ⟨_, (fun _ => rr), ?_⟩
    conv => whnf
    refine ⟨_, (fun _ => rr), ?_⟩
    conv => whnf
    obtain ⟨x_46, hx_46, h⟩ := bS h
    refine ⟨_, ⟨rfl, rfl, (by (conv => whnf); (refine ixP_of hx_46 ?_); (conv => whnf); (exact rr))⟩, ?_⟩
    conv => whnf
    refine ⟨_, ⟨rfl, rfl, rr⟩, ?_⟩
    conv => whnf
    obtain ⟨r_47, hc48, h⟩ := bS h
    refine ⟨_, (fun _ => by (conv => whnf); (refine PC.ecall (P1260 x_46 r_47 hc48) (fun rs hrs => ?_)); (subst hrs); (conv => whnf); (exact rr)), ?_⟩
    conv => whnf
    refine ⟨_, (fun _ => rr), ?_⟩
    conv => whnf
    refine ⟨_, (fun _ => rr), ?_⟩
    conv => whnf
    obtain ⟨x_49, hx_49, h⟩ := bS h
    refine ⟨_, ⟨rfl, rfl, (by (conv => whnf); (refine ixP_of hx_49 ?_); (conv => whnf); (exact rr))⟩, ?_⟩
    conv => whnf
    refine ⟨_, ⟨rfl, rfl, rr⟩, ?_⟩
    conv => whnf
    obtain ⟨r_50, hc51, h⟩ := bS h
    refine ⟨_, (fun _ => by (conv => whnf); (refine PC.ecall (P1259 x_49 r_50 hc51) (fun rs hrs => ?_)); (subst hrs); (conv => whnf); (exact rr)), ?_⟩
    conv => whnf
    refine ⟨_, (fun _ => rr), ?_⟩
    conv => whnf
    refine Tr.cond ?_
    conv => whnf
    refine cB h (fun hb52 h => ?_) (fun hb52 h => ?_)
    ·refine rg ?_
     conv => whnf
     refine arS_raw ?_
     conv => whnf
     cases h
     exact Wk.mk2 [] 0 rfl rfl (by decide) rfl trivial ⟨rr, rr, rr, rr, rr, rr, rr, trivial⟩
    refine Tr.skip ?_
    conv => whnf
    cases h
    exact Wk.mk2 [] 0 rfl rfl (by decide) rfl trivial ⟨rr, rr, rr, rr, rr, rr, rr, trivial⟩
   clear hv19
   conv => whnf
   refine Tr.weak hw ?_
   refine rg ?_
   conv => whnf
   refine arS_raw ?_
   conv => whnf
   refine ⟨(certain_17, perhaps_18, (w64 (i_10 + 1))), h, ?_⟩
   exact Wk.mk2 [] 0 rfl rfl (by decide) rfl trivial ⟨rr, rr, rr, rr, rr, rr, rr, trivial⟩
  refine Tr.exit ?_
  conv => whnf
  cases h
  exact Wk.mk2 [] 0 rfl rfl (by decide) rfl trivial ⟨rr, rr, rr, rr, trivial⟩
 clear hv53
 conv => whnf
 refine Tr.weak hw ?_
 refine Tr.seq ?_
 refine rg ?_
 conv => whnf
 refine Tr.ret ?_
 conv => whnf
 cases h
 rfl
theorem P1264 (l_1 : List TTotal) (r_2 : List Int) (r_3 : Int) (h : M1264 l_1 = some (r_2, r_3)) :
    PC prog 24 [(.ls (List.map eTTotal l_1))] (fun rs => rs = [(.ls (List.map eI r_2)), (.i .i64 r_3)]) := by
 refine PC.of_tr (cx := ⟨41, none, lay, 0⟩) layOK func24 rfl rfl rfl rfl rfl (by simp [f24]) ?_
 unfold M1264 at h
 refine Tr.seq ?_
 refine rg ?_
 conv => whnf
 refine Tr.seq ?_
 refine Tr.seq ?_
 refine rg ?_
 conv => whnf
 obtain ⟨r_4, hc5, h⟩ := bS h
 refine PC.ecall (P1258 l_1 r_4 hc5) (fun rs hrs => ?_)
 subst hrs
 conv => whnf
 refine Tr.cond ?_
 conv => whnf
 refine cB h (fun hb6 h => ?_) (fun hb6 h => ?_)
 ·refine Tr.seq ?_
  refine rg ?_
  conv => whnf
  refine Tr.ret ?_
  conv => whnf
  cases h
  rfl
 refine Tr.skip ?_
 conv => whnf
 refine Tr.seq ?_
 refine rg ?_
 conv => whnf
 refine Tr.seq ?_
 refine Tr.seq ?_
 refine rg ?_
 conv => whnf
 obtain ⟨l_12, hv24, h⟩ := bS h
 refine Tr.cutQ1 ([(2, .nsl), (3, (dI 0)), (4, .sl 0 1 0 (List.length l_12))]) ([some (.arr 1 (List.map .d (List.map eI l_12)))]) ?_ (fun T1 H1 hw => ?_)
 ·replace h := hv24; clear hv24
  refine Tr.block ?_
  refine Tr.loopM (σ := Int × List Int) (fun n s => M1263 l_1 n s.1 s.2) l_12 (fun s => ([(0, .d (.ls (List.map eTTotal l_1))), (2, .nsl), (3, (dI 0)), (4, .sl 0 1 0 (List.length s.2)), (5, (dI s.1))], [some (.arr 1 (List.map .d (List.map eI s.2)))])) (((((l_1).length : Int)) - 0 : Int).toNat + 1) (0, (([] : List Int))) h (fun s => rfl) (Wk.mk2 [0] 0 rfl rfl (by decide) rfl ⟨rfl, trivial⟩ ⟨rr, rr, rr, ⟨rfl, (by first | rfl | (simp only [↓hb6, bl]; done) | (simp only [↓hb6, bl]; rfl))⟩, rr, trivial⟩) ?_
  clear h
  rintro n_11 ⟨i_9, l_10⟩ h
  replace h : M1263 l_1 (n_11 + 1) i_9 l_10 = some l_12 := h
  rw [M1263] at h
  refine Tr.seq ?_
  refine Tr.seq ?_
  refine rg ?_
  conv => whnf
  refine lnS_map ?_
  conv => whnf
  refine Tr.cond ?_
  conv => whnf
  refine cB h (fun hb15 h => ?_) (fun hb15 h => ?_)
  ·refine Tr.skip ?_
   conv => whnf
   refine Tr.seq ?_
   refine Tr.block ?_
   refine Tr.seq ?_
   refine Tr.seq ?_
   refine rg ?_
   conv => whnf
   obtain ⟨x_16, hx_16, h⟩ := bS h
   refine ixP_of hx_16 ?_
   conv => whnf
   refine lnS_map ?_
   conv => whnf
   refine Tr.cond ?_
   conv => whnf
   refine cB h (fun hb17 h => ?_) (fun hb17 h => ?_)
   ·refine Tr.exit ?_
    conv => whnf
    refine rg ?_
    conv => whnf
    refine arS_raw ?_
    conv => whnf
    refine ⟨((w64 (i_9 + 1)), l_10), h, ?_⟩
    exact Wk.mk2 [0] 1 rfl rfl (by decide) rfl ⟨daS_d rfl, trivial⟩ ⟨rr, rr, rr, rr, rr, trivial⟩
   refine Tr.skip ?_
   conv => whnf
   refine Tr.seq ?_
   refine rg ?_
   conv => whnf
   obtain ⟨⟨r_18, r_19⟩, hc20, h⟩ := bS h
   refine PC.ecall (P1262 l_1 i_9 r_18 r_19 hc20) (fun rs hrs => ?_)
   subst hrs
   conv => whnf
   refine Tr.seq ?_
   refine rg ?_
   conv => whnf
   refine Tr.cond ?_
   conv => whnf
   refine cB h (fun hb21 h => ?_) (fun hb21 h => ?_)
   ·refine rg ?_
    conv => whnf
    obtain ⟨x_22, hx_22, h⟩ := bS h
    refine ixP_of hx_22 ?_
    conv => whnf
    refine orB_r ?_
    conv => whnf
    refine frP_no ?_
    conv => whnf
    refine eqS_mk (by first | rfl | simp) ?_
    conv => whnf
    obtain ⟨l_23, hl_23, h⟩ := bS h
    refine apS_of hl_23 (aQ (f := eI) (l := (([x_22.Bib] : List Int))) fun _ => rfl) (by first | rfl | simp) (by first | rfl | simp) (fun he => ?_)
    conv => whnf
    refine rS (es' := List.map .d (List.map eI l_23)) (n' := List.length l_23) (by subst he; simp only [List.map_append, List.map_cons, List.map_nil, List.nil_append]; first | done | rfl) (by subst he; simp <;> omega) ?_
    clear he
    conv => whnf
    refine rg ?_
    conv => whnf
    refine arS_raw ?_
    conv => whnf
    refine ⟨((w64 (i_9 + 1)), l_23), h, ?_⟩
    exact Wk.mk2 [1] 2 rfl rfl (by decide) rfl ⟨daS_d rfl, trivial⟩ ⟨rr, rr, rr, ⟨rfl, (by first | rfl | (simp only [↓hb6, ↓hb15, ↓hb17, ↓hb21, bl]; done) | (simp only [↓hb6, ↓hb15, ↓hb17, ↓hb21, bl]; rfl))⟩, rr, trivial⟩
   refine Tr.skip ?_
   conv => whnf
   refine rg ?_
   conv => whnf
   refine arS_raw ?_
   conv => whnf
   refine ⟨((w64 (i_9 + 1)), l_10), h, ?_⟩
   exact Wk.mk2 [0] 1 rfl rfl (by decide) rfl ⟨daS_d rfl, trivial⟩ ⟨rr, rr, rr, rr, rr, trivial⟩
  refine Tr.exit ?_
  conv => whnf
  cases h
  exact Wk.mk2 [0] 1 rfl rfl (by decide) rfl ⟨daS_d rfl, trivial⟩ ⟨rr, rr, rr, trivial⟩
 clear hv24
 conv => whnf
 refine Tr.weak hw ?_
 refine Tr.seq ?_
 refine rg ?_
 conv => whnf
 refine Tr.ret ?_
 conv => whnf
 refine frE_of (f := eI) (l := l_12) rfl ?_
 conv => whnf
 cases h
 rfl
theorem P1266 (l_1 : List TTotal) (most_2 : Int) (r_3 : List Int) (r_4 : List Int) (r_5 : Int) (h : M1266 l_1 most_2 = some (r_3, r_4, r_5)) :
    PC prog 26 [(.ls (List.map eTTotal l_1)), (.i .i64 most_2)] (fun rs => rs = [(.ls (List.map eI r_3)), (.ls (List.map eI r_4)), (.i .i64 r_5)]) := by
 refine PC.of_tr (cx := ⟨72, none, lay, 0⟩) layOK func26 rfl rfl rfl rfl rfl (by simp [f26]) ?_
 unfold M1266 at h
 refine Tr.seq ?_
 refine rg ?_
 conv => whnf
 refine Tr.seq ?_
 refine Tr.seq ?_
 refine rg ?_
 conv => whnf
 obtain ⟨r_6, hc7, h⟩ := bS h
 refine PC.ecall (P1258 l_1 r_6 hc7) (fun rs hrs => ?_)
 subst hrs
 conv => whnf
 refine Tr.cond ?_
 conv => whnf
 refine cB h (fun hb8 h => ?_) (fun hb8 h => ?_)
 ·refine Tr.seq ?_
  refine rg ?_
  conv => whnf
  refine Tr.ret ?_
  conv => whnf
  cases h
  rfl
 refine Tr.skip ?_
 conv => whnf
 refine Tr.seq ?_
 refine Tr.seq ?_
 refine rg ?_
 conv => whnf
 refine cB h (fun hb9 h => ?_) (fun hb9 h => ?_)
 ·conv => whnf
  refine Tr.cond ?_
  conv => whnf
  refine Tr.seq ?_
  refine rg ?_
  conv => whnf
  refine Tr.ret ?_
  conv => whnf
  cases h
  rfl
 conv => whnf
 refine Tr.cond ?_
 conv => whnf
 refine cB h (fun hb10 h => ?_) (fun hb10 h => ?_)
 ·refine Tr.seq ?_
  refine rg ?_
  conv => whnf
  refine Tr.ret ?_
  conv => whnf
  cases h
  rfl
 refine Tr.skip ?_
 conv => whnf
 refine Tr.seq ?_
 refine rg ?_
 conv => whnf
 refine Tr.seq ?_
 refine Tr.seq ?_
 refine rg ?_
 conv => whnf
 obtain ⟨⟨l_18, l_19⟩, hv44, h⟩ := bS h
 refine Tr.cutQ1 ([(4, .nsl), (5, .nsl), (6, (dI 0)), (7, .sl 0 1 0 (List.length l_18)), (8, .sl 1 1 0 (List.length l_19))]) ([some (.arr 1 (List.map .d (List.map eI l_18))), some (.arr 1 (List.map .d (List.map eI l_19)))]) ?_ (fun T1 H1 hw => ?_)
 ·replace h := hv44; clear hv44
  refine Tr.block ?_
  refine Tr.loopM (σ := Int × List Int × List Int) (fun n s => M1265 l_1 most_2 n s.1 s.2.1 s.2.2) (l_18, l_19) (fun s => ([(0, .d (.ls (List.map eTTotal l_1))), (1, (dI most_2)), (4, .nsl), (5, .nsl), (6, (dI 0)), (7, .sl 0 1 0 (List.length s.2.1)), (8, .sl 1 1 0 (List.length s.2.2)), (9, (dI s.1))], [some (.arr 1 (List.map .d (List.map eI s.2.1))), some (.arr 1 (List.map .d (List.map eI s.2.2)))])) (((((l_1).length : Int)) - 0 : Int).toNat + 1) (0, (([] : List Int)), (([] : List Int))) h (fun s => rfl) (Wk.mk2 [0, 2] 0 rfl rfl (by decide) rfl ⟨rfl, rfl, trivial⟩ ⟨rr, rr, rr, rr, rr, ⟨rfl, (by first | rfl | (simp only [↓hb8, ↓hb9, ↓hb10, bl]; done) | (simp only [↓hb8, ↓hb9, ↓hb10, bl]; rfl))⟩, ⟨rfl, (by first | rfl | (simp only [↓hb8, ↓hb9, ↓hb10, bl]; done) | (simp only [↓hb8, ↓hb9, ↓hb10, bl]; rfl))⟩, rr, trivial⟩) ?_
  clear h
  rintro n_17 ⟨i_14, l_15, l_16⟩ h
  replace h : M1265 l_1 most_2 (n_17 + 1) i_14 l_15 l_16 = some (l_18, l_19) := h
  rw [M1265] at h
  refine Tr.seq ?_
  refine Tr.seq ?_
  refine rg ?_
  conv => whnf
  refine lnS_map ?_
  conv => whnf
  refine Tr.cond ?_
  conv => whnf
  refine cB h (fun hb22 h => ?_) (fun hb22 h => ?_)
  ·refine Tr.skip ?_
   conv => whnf
   refine Tr.seq ?_
   obtain ⟨⟨l_23, l_24⟩, hv25, h⟩ := bS h
   refine Tr.cutQ1 ([(0, .d (.ls (List.map eTTotal l_1))), (1, (dI most_2)), (4, .nsl), (5, .nsl), (6, (dI 0)), (7, .sl 0 1 0 (List.length l_23)), (8, .sl 1 1 0 (List.length l_24)), (9, (dI i_14))]) ([some (.arr 1 (List.map .d (List.map eI l_23))), some (.arr 1 (List.map .d (List.map eI l_24)))]) ?_ (fun T1 H1 hw => ?_)
   ·replace h := hv25; clear hv25
    refine Tr.block ?_
    refine Tr.seq ?_
    refine Tr.seq ?_
    refine rg ?_
    conv => whnf
    obtain ⟨x_26, hx_26, h⟩ := bS h
    refine ixP_of hx_26 ?_
    conv => whnf
    refine lnS_map ?_
    conv => whnf
    refine Tr.cond ?_
    conv => whnf
    refine cB h (fun hb27 h => ?_) (fun hb27 h => ?_)
    ·refine Tr.exit ?_
     conv => whnf
     cases h
     exact Wk.mk2 [0, 1] 2 rfl rfl (by decide) rfl ⟨daS_d rfl, daS_d rfl, trivial⟩ ⟨rr, rr, rr, rr, rr, rr, rr, rr, trivial⟩
    refine Tr.skip ?_
    conv => whnf
    refine Tr.seq ?_
    refine rg ?_
    conv => whnf
    obtain ⟨⟨r_28, r_29⟩, hc30, h⟩ := bS h
    refine PC.ecall (P1262 l_1 i_14 r_28 r_29 hc30) (fun rs hrs => ?_)
    subst hrs
    conv => whnf
    refine Tr.seq ?_
    refine Tr.seq ?_
    obtain ⟨v_31, hv32, h⟩ := bS h
    refine Tr.cutQ1 ([(0, .d (.ls (List.map eTTotal l_1))), (1, (dI most_2)), (4, .nsl), (5, .nsl), (6, (dI 0)), (7, .sl 0 1 0 (List.length l_15)), (8, .sl 1 1 0 (List.length l_16)), (9, (dI i_14)), (10, (dI r_28)), (50, .d (.b v_31))]) ([some (.arr 1 (List.map .d (List.map eI l_15))), some (.arr 1 (List.map .d (List.map eI l_16)))]) ?_ (fun T1 H1 hw => ?_)
    ·replace h := hv32; clear hv32
     refine rg ?_
     conv => whnf
     obtain ⟨x_33, hx_33, h⟩ := bS h
     refine ixP_of hx_33 ?_
     conv => whnf
     refine cB h (fun hb34 h => ?_) (fun hb34 h => ?_)
     ·conv => whnf
      cases h
      exact Wk.mk2 [0, 1] 2 rfl rfl (by decide) rfl ⟨daS_d rfl, daS_d rfl, trivial⟩ ⟨rr, rr, rr, rr, rr, rr, rr, rr, rr, rr, trivial⟩
     conv => whnf
     cases h
     exact Wk.mk2 [0, 1] 2 rfl rfl (by decide) rfl ⟨daS_d rfl, daS_d rfl, trivial⟩ ⟨rr, rr, rr, rr, rr, rr, rr, rr, rr, rr, trivial⟩
    clear hv32
    conv => whnf
    refine Tr.weak hw ?_
    refine Tr.cond ?_
    conv => whnf
    refine cB h (fun hb35 h => ?_) (fun hb35 h => ?_)
    ·refine rg ?_
     conv => whnf
     obtain ⟨x_36, hx_36, h⟩ := bS h
     refine ixP_of hx_36 ?_
     conv => whnf
     refine orB_r ?_
     conv => whnf
     refine frP_no ?_
     conv => whnf
     refine eqS_mk (by first | rfl | simp) ?_
     conv => whnf
     obtain ⟨l_37, hl_37, h⟩ := bS h
     refine apS_of hl_37 (aQ (f := eI) (l := (([x_36.Bib] : List Int))) fun _ => rfl) (by first | rfl | simp) (by first | rfl | simp) (fun he => ?_)
     conv => whnf
     refine rS (es' := List.map .d (List.map eI l_37)) (n' := List.length l_37) (by subst he; simp only [List.map_append, List.map_cons, List.map_nil, List.nil_append]; first | done | rfl) (by subst he; simp <;> omega) ?_
     clear he
     conv => whnf
     refine Tr.seq ?_
     refine rg ?_
     conv => whnf
     refine Tr.cond ?_
     conv => whnf
     refine cB h (fun hb38 h => ?_) (fun hb38 h => ?_)
     ·refine rg ?_
      conv => whnf
      obtain ⟨x_39, hx_39, h⟩ := bS h
      refine ixP_of hx_39 ?_
      conv => whnf
      refine orB_r ?_
      conv => whnf
      refine frP_no ?_
      conv => whnf
      refine eqS_mk (by first | rfl | simp) ?_
      conv => whnf
      obtain ⟨l_40, hl_40, h⟩ := bS h
      refine apS_of hl_40 (aQ (f := eI) (l := (([x_39.Bib] : List Int))) fun _ => rfl) (by first | rfl | simp) (by first | rfl | simp) (fun he => ?_)
      conv => whnf
      refine rS (es' := List.map .d (List.map eI l_40)) (n' := List.length l_40) (by subst he; simp only [List.map_append, List.map_cons, List.map_nil, List.nil_append]; first | done | rfl) (by subst he; simp <;> omega) ?_
      clear he
      conv => whnf
      cases h
      exact Wk.mk2 [2, 3] 4 rfl rfl (by decide) rfl ⟨daS_d rfl, daS_d rfl, trivial⟩ ⟨rr, rr, rr, rr, rr, ⟨rfl, (by first | rfl | (simp only [↓hb8, ↓hb9, ↓hb10, ↓hb22, ↓hb27, ↓hb35, ↓hb38, bl]; done) | (simp only [↓hb8, ↓hb9, ↓hb10, ↓hb22, ↓hb27, ↓hb35, ↓hb38, bl]; rfl))⟩, ⟨rfl, (by first | rfl | (simp only [↓hb8, ↓hb9, ↓hb10, ↓hb22, ↓hb27, ↓hb35, ↓hb38, bl]; done) | (simp only [↓hb8, ↓hb9, ↓hb10, ↓hb22, ↓hb27, ↓hb35, ↓hb38, bl]; rfl))⟩, rr, trivial⟩
     refine Tr.skip ?_
     conv => whnf
     cases h
     exact Wk.mk2 [2, 1] 3 rfl rfl (by decide) rfl ⟨daS_d rfl, daS_d rfl, trivial⟩ ⟨rr, rr, rr, rr, rr, ⟨rfl, (by first | rfl | (simp only [↓hb8, ↓hb9, ↓hb10, ↓hb22, ↓hb27, ↓hb35, ↓hb38, bl]; done) | (simp only [↓hb8, ↓hb9, ↓hb10, ↓hb22, ↓hb27, ↓hb35, ↓hb38, bl]; rfl))⟩, rr, rr, trivial⟩
    refine Tr.skip ?_
    conv => whnf
    refine Tr.seq ?_
    refine rg ?_
    conv => whnf
    refine Tr.cond ?_
    conv => whnf
    refine cB h (fun hb41 h => ?_) (fun hb41 h => ?_)
    ·refine rg ?_
     conv => whnf
     obtain ⟨x_42, hx_42, h⟩ := bS h
     refine ixP_of hx_42 ?_
     conv => whnf
     refine orB_r ?_
     conv => whnf
     refine frP_no ?_
     conv => whnf
     refine eqS_mk (by first | rfl | simp) ?_
     conv => whnf
     obtain ⟨l_43, hl_43, h⟩ := bS h
     refine apS_of hl_43 (aQ (f := eI) (l := (([x_42.Bib] : List Int))) fun _ => rfl) (by first | rfl | simp) (by first | rfl | simp) (fun he => ?_)
     conv => whnf
     refine rS (es' := List.map .d (List.map eI l_43)) (n' := List.length l_43) (by subst he; simp only [List.map_append, List.map_cons, List.map_nil, List.nil_append]; first | done | rfl) (by subst he; simp <;> omega) ?_
     clear he
     conv => whnf
     cases h
     exact Wk.mk2 [0, 2] 3 rfl rfl (by decide) rfl ⟨daS_d rfl, daS_d rfl, trivial⟩ ⟨rr, rr, rr, rr, rr, rr, ⟨rfl, (by first | rfl | (simp only [↓hb8, ↓hb9, ↓hb10, ↓hb22, ↓hb27, ↓hb35, ↓hb41, bl]; done) | (simp only [↓hb8, ↓hb9, ↓hb10, ↓hb22, ↓hb27, ↓hb35, ↓hb41, bl]; rfl))⟩, rr, trivial⟩
    refine Tr.skip ?_
    conv => whnf
    cases h
    exact Wk.mk2 [0, 1] 2 rfl rfl (by decide) rfl ⟨daS_d rfl, daS_d rfl, trivial⟩ ⟨rr, rr, rr, rr, rr, rr, rr, rr, trivial⟩
   clear hv25
   conv => whnf
   refine Tr.weak hw ?_
   refine rg ?_
   conv => whnf
   refine arS_raw ?_
   conv => whnf
   refine ⟨((w64 (i_14 + 1)), l_23, l_24), h, ?_⟩
   exact Wk.mk2 [0, 1] 2 rfl rfl (by decide) rfl ⟨daS_d rfl, daS_d rfl, trivial⟩ ⟨rr, rr, rr, rr, rr, rr, rr, rr, trivial⟩
  refine Tr.exit ?_
  conv => whnf
  cases h
  exact Wk.mk2 [0, 1] 2 rfl rfl (by decide) rfl ⟨daS_d rfl, daS_d rfl, trivial⟩ ⟨rr, rr, rr, rr, rr, trivial⟩
 clear hv44
 conv => whnf
 refine Tr.weak hw ?_
 refine Tr.seq ?_
 refine rg ?_
 conv => whnf
 refine Tr.ret ?_
 conv => whnf
 refine frE_of (f := eI) (l := l_18) rfl ?_
 conv => whnf
 refine frE_of (f := eI) (l := l_19) rfl ?_
 conv => whnf
 cases h
 rfl
theorem P1269 (a_1 : List TSpan) (by_2 : Int) (r_3 : List TSpan) (r_4 : Int) (h : M1269 a_1 by_2 = some (r_3, r_4)) :
    PC prog 66 [(.ls (List.map eTSpan a_1)), (.i .i64 by_2)] (fun rs => rs = [(.ls (List.map eTSpan r_3)), (.i .i64 r_4)]) := by
 refine PC.of_tr (cx := ⟨54, none, lay, 0⟩) layOK func66 rfl rfl rfl rfl rfl (by simp [f66]) ?_
 unfold M1269 at h
 refine Tr.seq ?_
 refine rg ?_
 conv => whnf
 refine Tr.seq ?_
 refine rg ?_
 conv => whnf
 obtain ⟨r_5, hc6, h⟩ := bS h
 refine PC.ecall (P1247 a_1 r_5 hc6) (fun rs hrs => ?_)
 subst hrs
 conv => whnf
 refine Tr.seq ?_
 refine Tr.seq ?_
 refine rg ?_
 conv => whnf
 refine Tr.cond ?_
 conv => whnf
 refine cB h (fun hb7 h => ?_) (fun hb7 h => ?_)
 ·refine Tr.seq ?_
  refine rg ?_
  conv => whnf
  refine Tr.ret ?_
  conv => whnf
  cases h
  rfl
 refine Tr.skip ?_
 conv => whnf
 refine Tr.seq ?_
 refine rg ?_
 conv => whnf
 obtain ⟨r_8, hc9, h⟩ := bS h
 refine PC.ecall (P1251 a_1 r_8 hc9) (fun rs hrs => ?_)
 subst hrs
 conv => whnf
 refine Tr.seq ?_
 refine rg ?_
 conv => whnf
 refine orB_l ?_
 conv => whnf
 refine Tr.seq ?_
 refine Tr.seq ?_
 refine rg ?_
 conv => whnf
 refine Tr.cutQ (α := List TSpan) (fun s => ([(4, .nsl), (5, (dI 0)), (8, .sl 0 2 0 (List.length s))], [some (.arr 2 (List.map .d (List.map eTSpan s)))])) (fun s => M1268 s = some (r_3, r_4)) ?_ ?_
 ·refine Tr.block ?_
  refine Tr.loopM (σ := Int × List TSpan) (fun n s => M1267 by_2 r_8 M1268 n s.1 s.2) (r_3, r_4) (fun s => ([(1, (dI by_2)), (4, .nsl), (5, (dI 0)), (7, .d (.ls (List.map eTSpan r_8))), (8, .sl 0 2 0 (List.length s.2)), (9, (dI s.1))], [some (.arr 2 (List.map .d (List.map eTSpan s.2)))])) (((((r_8).length : Int)) - 0 : Int).toNat + 1) (0, (([] : List TSpan))) h (fun s => rfl) (Wk.mk2 [0] 1 rfl rfl (by decide) rfl ⟨daS_d rfl, trivial⟩ ⟨rr, rr, rr, rr, rr, rr, trivial⟩) ?_
  clear h
  rintro n_14 ⟨i_12, l_13⟩ h
  replace h : M1267 by_2 r_8 M1268 (n_14 + 1) i_12 l_13 = some (r_3, r_4) := h
  rw [M1267] at h
  refine Tr.seq ?_
  refine Tr.seq ?_
  refine rg ?_
  conv => whnf
  refine lnS_map ?_
  conv => whnf
  refine Tr.cond ?_
  conv => whnf
  refine cB h (fun hb18 h => ?_) (fun hb18 h => ?_)
  ·refine Tr.skip ?_
   conv => whnf
   refine Tr.seq ?_
   refine Tr.block ?_
   refine Tr.seq ?_
   refine Tr.seq ?_
   refine rg ?_
   conv => whnf
   refine cB h (fun hb19 h => ?_) (fun hb19 h => ?_)
   ·conv => whnf
    refine Tr.cond ?_
    conv => whnf
    refine Tr.seq ?_
    refine rg ?_
    conv => whnf
    refine Tr.ret ?_
    conv => whnf
    cases h
    rfl
   conv => whnf
   refine Tr.cond ?_
   conv => whnf
   refine cB h (fun hb20 h => ?_) (fun hb20 h => ?_)
   ·refine Tr.seq ?_
    refine rg ?_
    conv => whnf
    refine Tr.ret ?_
    conv => whnf
    cases h
    rfl
   refine Tr.skip ?_
   conv => whnf
   refine Tr.seq ?_
   refine Tr.draw (DrawP.seqQ layOK mixed [(16, 1)] [(0, 1), (1, 1), (2, 2), (3, 2), (4, 2), (5, 1), (6, 1), (7, 1), (8, 1), (9, 2), (10, 2), (11, 2), (12, 1), (13, 1), (14, 1), (15, 0), (16, 0)] (by kernel_rfl) ?_)
   conv => whnf
   refine ⟨_, (fun _ => rr), ?_⟩
   conv => whnf
   refine ⟨_, (fun _ => rr), ?_⟩
   conv => whnf
   obtain ⟨x_21, hx_21, h⟩ := bS h
   refine ⟨_, ⟨rfl, rfl, (by (conv => whnf); (refine ixP_of hx_21 ?_); (conv => whnf); (exact rr))⟩, ?_⟩
   conv => whnf
   refine ⟨_, ⟨rfl, rfl, rr⟩, ?_⟩
   conv => whnf
   refine ⟨_, ⟨rfl, rfl, rr⟩, ?_⟩
   conv => whnf
   refine ⟨_, (fun _ => rr), ?_⟩
   conv => whnf
   refine ⟨_, (fun _ => by (conv => whnf); (refine arS_raw ?_); (conv => whnf); (exact rr)), ?_⟩
   conv => whnf
   refine ⟨_, (fun _ => rr), ?_⟩
   conv => whnf
   refine ⟨_, (fun _ => rr), ?_⟩
   conv => whnf
   obtain ⟨x_22, hx_22, h⟩ := bS h
   refine ⟨_, ⟨rfl, rfl, (by (conv => whnf); (refine ixP_of hx_22 ?_); (conv => whnf); (exact rr))⟩, ?_⟩
   conv => whnf
   refine ⟨_, ⟨rfl, rfl, rr⟩, ?_⟩
   conv => whnf
   refine ⟨_, ⟨rfl, rfl, rr⟩, ?_⟩
   conv => whnf
   refine ⟨_, (fun _ => rr), ?_⟩
   conv => whnf
   refine ⟨_, (fun _ => by (conv => whnf); (refine arS_raw ?_); (conv => whnf); (exact rr)), ?_⟩
   conv => whnf
   refine ⟨_, (fun _ => rr), ?_⟩
   conv => whnf
   refine ⟨_, _, rr, kp_ok (by repeat (first | exact trivial | refine ⟨trivial, ?_⟩ | refine ⟨rfl, ?_⟩)), ?_⟩
   conv => whnf
   refine ⟨_, _, rr, kp_ok (by repeat (first | exact trivial | refine ⟨trivial, ?_⟩ | refine ⟨rfl, ?_⟩)), ?_⟩
   conv => whnf
   refine Tr.seq ?_
   refine Tr.seq ?_
   refine rg ?_
   conv => whnf
   obtain ⟨r_23, hc24, h⟩ := bS h
   refine PC.ecall (P1244 (({ Lo := (w64 (x_21.Lo + by_2)), Hi := (w64 (x_22.Hi + by_2)) } : TSpan)) r_23 hc24) (fun rs hrs => ?_)
   subst hrs
   conv => whnf
   refine Tr.cond ?_
   conv => whnf
   refine cB h (fun hb25 h => ?_) (fun hb25 h => ?_)
   ·refine Tr.seq ?_
    refine rg ?_
    conv => whnf
    refine Tr.ret ?_
    conv => whnf
    cases h
    rfl
   refine Tr.skip ?_
   conv => whnf
   refine rg ?_
   conv => whnf
   refine orB_r ?_
   conv => whnf
   refine frP_no ?_
   conv => whnf
   refine eqS_mk (by first | rfl | simp) ?_
   conv => whnf
   obtain ⟨l_26, hl_26, h⟩ := bS h
   refine apS_of hl_26 (aQ (f := eTSpan) (l := (([({ Lo := (w64 (x_21.Lo + by_2)), Hi := (w64 (x_22.Hi + by_2)) } : TSpan)] : List TSpan))) fun _ => rfl) (by first | rfl | simp) (by first | rfl | simp) (fun he => ?_)
   conv => whnf
   refine rS (es' := List.map .d (List.map eTSpan l_26)) (n' := List.length l_26) (by subst he; simp only [List.map_append, List.map_cons, List.map_nil, List.nil_append]; first | done | rfl) (by subst he; simp <;> omega) ?_
   clear he
   conv => whnf
   refine rg ?_
   conv => whnf
   refine arS_raw ?_
   conv => whnf
   refine ⟨((w64 (i_12 + 1)), l_26), h, ?_⟩
   exact Wk.mk2 [2] 3 rfl rfl (by decide) rfl ⟨daS_d rfl, trivial⟩ ⟨rr, rr, rr, rr, ⟨rfl, (by first | rfl | (simp only [↓hb7, ↓hb18, ↓hb19, ↓hb20, ↓hb25, bl]; done) | (simp only [↓hb7, ↓hb18, ↓hb19, ↓hb20, ↓hb25, bl]; rfl))⟩, rr, trivial⟩
  refine Tr.exit ?_
  conv => whnf
  refine ⟨(l_13), h, ?_⟩
  exact Wk.mk2 [0] 1 rfl rfl (by decide) rfl ⟨daS_d rfl, trivial⟩ ⟨rr, rr, rr, trivial⟩
 clear h
 rintro l_15 h T1 H1 hw
 replace h : M1268 l_15 = some (r_3, r_4) := h
 conv => whnf
 refine Tr.weak hw ?_
 unfold M1268 at h
 refine Tr.seq ?_
 refine rg ?_
 conv => whnf
 refine Tr.ret ?_
 conv => whnf
 refine frE_of (f := eTSpan) (l := l_15) rfl ?_
 conv => whnf
 cases h
 rfl
theorem P1276 (l_1 : List TTotal) (bibs_2 : List Int) (amounts_3 : List Int) (r_4 : List TTotal) (r_5 : Int) (h : M1276 l_1 bibs_2 amounts_3 = some (r_4, r_5)) :
    PC prog 28 [(.ls (List.map eTTotal l_1)), (.ls (List.map eI bibs_2)), (.ls (List.map eI amounts_3))] (fun rs => rs = [(.ls (List.map eTTotal r_4)), (.i .i64 r_5)]) := by
 refine PC.of_tr (cx := ⟨104, none, lay, 0⟩) layOK func28 rfl rfl rfl rfl rfl (by simp [f28]) ?_
 unfold M1276 at h
 refine Tr.seq ?_
 refine rg ?_
 conv => whnf
 refine Tr.seq ?_
 refine Tr.seq ?_
 refine rg ?_
 conv => whnf
 obtain ⟨r_6, hc7, h⟩ := bS h
 refine PC.ecall (P1258 l_1 r_6 hc7) (fun rs hrs => ?_)
 subst hrs
 conv => whnf
 refine Tr.cond ?_
 conv => whnf
 refine cB h (fun hb8 h => ?_) (fun hb8 h => ?_)
 ·refine Tr.seq ?_
  refine rg ?_
  conv => whnf
  refine Tr.ret ?_
  conv => whnf
  cases h
  rfl
 refine Tr.skip ?_
 conv => whnf
 refine Tr.seq ?_
 refine Tr.seq ?_
 refine rg ?_
 conv => whnf
 refine lnS_map ?_
 conv => whnf
 refine lnS_map ?_
 conv => whnf
 refine Tr.cond ?_
 conv => whnf
 refine cB h (fun hb9 h => ?_) (fun hb9 h => ?_)
 ·refine Tr.seq ?_
  refine rg ?_
  conv => whnf
  refine Tr.ret ?_
  conv => whnf
  cases h
  rfl
 refine Tr.skip ?_
 conv => whnf
 refine Tr.seq ?_
 refine Tr.seq ?_
 refine rg ?_
 conv => whnf
 refine Tr.cutQ (α := Unit) (fun s => ([(0, .d (.ls (List.map eTTotal l_1))), (1, .d (.ls (List.map eI bibs_2))), (2, .d (.ls (List.map eI amounts_3))), (6, .nsl), (7, (dI 0))], [])) (fun s => M1275 l_1 bibs_2 amounts_3 s = some (r_4, r_5)) ?_ ?_
 ·refine Tr.block ?_
  refine Tr.loopM (σ := Int) (fun n s => M1270 bibs_2 amounts_3 (M1275 l_1 bibs_2 amounts_3) n s) (r_4, r_5) (fun s => ([(0, .d (.ls (List.map eTTotal l_1))), (1, .d (.ls (List.map eI bibs_2))), (2, .d (.ls (List.map eI amounts_3))), (6, .nsl), (7, (dI 0)), (8, (dI s))], [])) (((((bibs_2).length : Int)) - 0 : Int).toNat + 1) (0) h (fun s => rfl) (Wk.mk2 [] 0 rfl rfl (by decide) rfl trivial ⟨rr, rr, rr, rr, rr, rr, trivial⟩) ?_
  clear h
  rintro n_12 i_11 h
  replace h : M1270 bibs_2 amounts_3 (M1275 l_1 bibs_2 amounts_3) (n_12 + 1) i_11 = some (r_4, r_5) := h
  rw [M1270] at h
  refine Tr.seq ?_
  refine Tr.seq ?_
  refine rg ?_
  conv => whnf
  refine lnS_map ?_
  conv => whnf
  refine Tr.cond ?_
  conv => whnf
  refine cB h (fun hb15 h => ?_) (fun hb15 h => ?_)
  ·refine Tr.skip ?_
   conv => whnf
   refine Tr.seq ?_
   refine Tr.block ?_
   refine Tr.seq ?_
   obtain ⟨v_16, hv17, h⟩ := bS h
   refine Tr.cutQ1 ([(0, .d (.ls (List.map eTTotal l_1))), (1, .d (.ls (List.map eI bibs_2))), (2, .d (.ls (List.map eI amounts_3))), (6, .nsl), (7, (dI 0)), (8, (dI i_11)), (55, .d (.b v_16))]) ([]) ?_ (fun T1 H1 hw => ?_)
   ·replace h := hv17; clear hv17
    refine Tr.draw (DrawP.seqQ layOK mixed [] [(0, 1), (1, 1), (2, 1), (3, 1), (4, 1), (5, 2), (6, 2), (7, 1), (8, 1), (9, 1), (10, 2), (11, 2), (12, 1), (13, 1), (14, 1), (15, 1), (16, 1), (17, 2), (18, 2), (19, 1), (20, 1), (21, 1), (22, 1), (23, 1), (24, 2), (25, 2), (26, 1), (27, 1)] (by kernel_rfl) ?_)
    conv => whnf
    refine ⟨_, (fun _ => rr), ?_⟩
    conv => whnf
    refine ⟨_, (fun _ => rr), ?_⟩
    conv => whnf
    refine ⟨_, (fun _ => rr), ?_⟩
    conv => whnf
    refine cB h (fun hb18 h => ?_) (fun hb18 h => ?_)
    ·conv => whnf
     refine ⟨_, (fun _ => rr), ?_⟩
     conv => whnf
     refine ⟨_, (fun _ => rr), ?_⟩
     conv => whnf
     obtain ⟨x_19, hx_19, h⟩ := bS h
     refine ⟨_, ⟨rfl, rfl, (by (conv => whnf); (refine ixP_of hx_19 ?_); (conv => whnf); (exact rr))⟩, ?_⟩
     conv => whnf
     refine ⟨_, ⟨rfl, rfl, rr⟩, ?_⟩
     conv => whnf
     refine ⟨_, (fun _ => rr), ?_⟩
     conv => whnf
     refine ⟨_, (fun _ => rr), ?_⟩
     conv => whnf
     refine ⟨_, (fun _ => by (conv => whnf); (refine arS_raw ?_); (conv => whnf); (exact rr)), ?_⟩
     conv => whnf
     obtain ⟨x_20, hx_20, h⟩ := bS h
     refine ⟨_, ⟨rfl, rfl, (by (conv => whnf); (refine ixP_of hx_20 ?_); (conv => whnf); (exact rr))⟩, ?_⟩
     conv => whnf
     refine ⟨_, ⟨rfl, rfl, rr⟩, ?_⟩
     conv => whnf
     refine ⟨_, (fun _ => rr), ?_⟩
     conv => whnf
     refine ⟨_, (fun _ => rr), ?_⟩
     conv => whnf
     refine ⟨_, (fun _ => rr), ?_⟩
     conv => whnf
     refine cB h (fun hb21 h => ?_) (fun hb21 h => ?_)
     ·conv => whnf
      refine ⟨_, (fun _ => rr), ?_⟩
      conv => whnf
      refine ⟨_, (fun _ => rr), ?_⟩
      conv => whnf
      refine ⟨_, (fun _ => rr), ?_⟩
      conv => whnf
      cases h
      exact Wk.mk2 [] 0 rfl rfl (by decide) rfl trivial ⟨rr, rr, rr, rr, rr, rr, rr, trivial⟩
     conv => whnf
     refine ⟨_, (fun _ => rr), ?_⟩
     conv => whnf
     refine ⟨_, (fun _ => rr), ?_⟩
     conv => whnf
     obtain ⟨x_22, hx_22, h⟩ := bS h
     refine ⟨_, ⟨rfl, rfl, (by (conv => whnf); (refine ixP_of hx_22 ?_); (conv => whnf); (exact rr))⟩, ?_⟩
     conv => whnf
     refine ⟨_, ⟨rfl, rfl, rr⟩, ?_⟩
     conv => whnf
     refine ⟨_, (fun _ => rr), ?_⟩
     conv => whnf
     refine ⟨_, (fun _ => rr), ?_⟩
     conv => whnf
     refine ⟨_, (fun _ => rr), ?_⟩
     conv => whnf
     refine cB h (fun hb23 h => ?_) (fun hb23 h => ?_)
     ·conv => whnf
      refine ⟨_, (fun _ => rr), ?_⟩
      conv => whnf
      cases h
      exact Wk.mk2 [] 0 rfl rfl (by decide) rfl trivial ⟨rr, rr, rr, rr, rr, rr, rr, trivial⟩
     conv => whnf
     refine ⟨_, (fun _ => rr), ?_⟩
     conv => whnf
     refine ⟨_, (fun _ => rr), ?_⟩
     conv => whnf
     obtain ⟨x_24, hx_24, h⟩ := bS h
     refine ⟨_, ⟨rfl, rfl, (by (conv => whnf); (refine ixP_of hx_24 ?_); (conv => whnf); (exact rr))⟩, ?_⟩
     conv => whnf
     refine ⟨_, ⟨rfl, rfl, rr⟩, ?_⟩
     conv => whnf
     refine ⟨_, (fun _ => rr), ?_⟩
     conv => whnf
     refine ⟨_, (fun _ => rr), ?_⟩
     conv => whnf
     cases h
     exact Wk.mk2 [] 0 rfl rfl (by decide) rfl trivial ⟨rr, rr, rr, rr, rr, rr, rr, trivial⟩
    conv => whnf
    refine ⟨_, (fun _ => rr), ?_⟩
    conv => whnf
    refine ⟨_, (fun _ => rr), ?_⟩
    conv => whnf
    refine ⟨_, (fun _ => rr), ?_⟩
    conv => whnf
    refine ⟨_, (fun _ => rr), ?_⟩
    conv => whnf
    obtain ⟨x_25, hx_25, h⟩ := bS h
    refine ⟨_, ⟨rfl, rfl, (by (conv => whnf); (refine ixP_of hx_25 ?_); (conv => whnf); (exact rr))⟩, ?_⟩
    conv => whnf
    refine ⟨_, ⟨rfl, rfl, rr⟩, ?_⟩
    conv => whnf
    refine ⟨_, (fun _ => rr), ?_⟩
    conv => whnf
    refine ⟨_, (fun _ => rr), ?_⟩
    conv => whnf
    refine ⟨_, (fun _ => rr), ?_⟩
    conv => whnf
    refine cB h (fun hb26 h => ?_) (fun hb26 h => ?_)
    ·conv => whnf
     refine ⟨_, (fun _ => rr), ?_⟩
     conv => whnf
     cases h
     exact Wk.mk2 [] 0 rfl rfl (by decide) rfl trivial ⟨rr, rr, rr, rr, rr, rr, rr, trivial⟩
    conv => whnf
    refine ⟨_, (fun _ => rr), ?_⟩
    conv => whnf
    refine ⟨_, (fun _ => rr), ?_⟩
    conv => whnf
    obtain ⟨x_27, hx_27, h⟩ := bS h
    refine ⟨_, ⟨rfl, rfl, (by (conv => whnf); (refine ixP_of hx_27 ?_); (conv => whnf); (exact rr))⟩, ?_⟩
    conv => whnf
    refine ⟨_, ⟨rfl, rfl, rr⟩, ?_⟩
    conv => whnf
    refine ⟨_, (fun _ => rr), ?_⟩
    conv => whnf
    refine ⟨_, (fun _ => rr), ?_⟩
    conv => whnf
    cases h
    exact Wk.mk2 [] 0 rfl rfl (by decide) rfl trivial ⟨rr, rr, rr, rr, rr, rr, rr, trivial⟩
   clear hv17
   conv => whnf
   refine Tr.weak hw ?_
   refine Tr.cond ?_
   conv => whnf
   refine cB h (fun hb28 h => ?_) (fun hb28 h => ?_)
   ·refine Tr.seq ?_
    refine rg ?_
    conv => whnf
    refine Tr.ret ?_
    conv => whnf
    cases h
    rfl
   refine Tr.skip ?_
   conv => whnf
   refine rg ?_
   conv => whnf
   refine arS_raw ?_
   conv => whnf
   refine ⟨((w64 (i_11 + 1))), h, ?_⟩
   exact Wk.mk2 [] 0 rfl rfl (by decide) rfl trivial ⟨rr, rr, rr, rr, rr, rr, trivial⟩
  refine Tr.exit ?_
  conv => whnf
  refine ⟨(), h, ?_⟩
  exact Wk.mk2 [] 0 rfl rfl (by decide) rfl trivial ⟨rr, rr, rr, rr, rr, trivial⟩
 clear h
 rintro _ h T1 H1 hw
 replace h : M1275 l_1 bibs_2 amounts_3 () = some (r_4, r_5) := h
 conv => whnf
 refine Tr.weak hw ?_
 unfold M1275 at h
 refine Tr.seq ?_
 refine rg ?_
 conv => whnf
 refine orB_l ?_
 conv => whnf
 refine frP_no ?_
 conv => whnf
 refine eqS_mk (by first | rfl | simp) ?_
 conv => whnf
 obtain ⟨l_29, hl_29, h⟩ := bS h
 refine apS_of hl_29 (aQ (f := eTTotal) (l := l_1) fun _ => rfl) (by first | rfl | simp) (by first | rfl | simp) (fun he => ?_)
 conv => whnf
 refine rS (es' := List.map .d (List.map eTTotal l_29)) (n' := List.length l_29) (by subst he; simp only [List.map_append, List.map_cons, List.map_nil, List.nil_append]; first | done | rfl) (by subst he; simp <;> omega) ?_
 clear he
 conv => whnf
 refine Tr.seq ?_
 refine Tr.seq ?_
 refine rg ?_
 conv => whnf
 refine Tr.cutQ (α := List TTotal) (fun s => ([(6, .nsl), (7, (dI 0)), (9, .sl 0 3 0 (List.length s))], [some (.arr 3 (List.map .d (List.map eTTotal s)))])) (fun s => M1274 s = some (r_4, r_5)) ?_ ?_
 ·refine Tr.block ?_
  refine Tr.loopM (σ := Int × List TTotal) (fun n s => M1273 bibs_2 amounts_3 M1274 n s.1 s.2) (r_4, r_5) (fun s => ([(1, .d (.ls (List.map eI bibs_2))), (2, .d (.ls (List.map eI amounts_3))), (6, .nsl), (7, (dI 0)), (9, .sl 0 3 0 (List.length s.2)), (10, (dI s.1))], [some (.arr 3 (List.map .d (List.map eTTotal s.2)))])) (((((l_29).length : Int)) - 0 : Int).toNat + 1) (0, l_29) h (fun s => rfl) (Wk.mk2 [1] 2 rfl rfl (by decide) rfl ⟨daS_d rfl, trivial⟩ ⟨rr, rr, rr, rr, ⟨rfl, (by first | rfl | (simp only [↓hb8, ↓hb9, bl]; done) | (simp only [↓hb8, ↓hb9, bl]; rfl))⟩, rr, trivial⟩) ?_
  clear h
  rintro n_34 ⟨i_32, l_33⟩ h
  replace h : M1273 bibs_2 amounts_3 M1274 (n_34 + 1) i_32 l_33 = some (r_4, r_5) := h
  rw [M1273] at h
  refine Tr.seq ?_
  refine Tr.seq ?_
  refine rg ?_
  conv => whnf
  refine lnS_mk rfl ?_
  conv => whnf
  refine Tr.cond ?_
  conv => whnf
  refine cB h (fun hb38 h => ?_) (fun hb38 h => ?_)
  ·refine Tr.skip ?_
   conv => whnf
   refine Tr.seq ?_
   refine Tr.block ?_
   refine Tr.seq ?_
   refine rg ?_
   conv => whnf
   refine Tr.cutQ (α := List TTotal) (fun s => ([(1, .d (.ls (List.map eI bibs_2))), (2, .d (.ls (List.map eI amounts_3))), (6, .nsl), (7, (dI 0)), (9, .sl 0 3 0 (List.length s)), (10, (dI i_32))], [some (.arr 3 (List.map .d (List.map eTTotal s)))])) (fun s => M1272 i_32 (M1273 bibs_2 amounts_3 M1274 n_34) s = some (r_4, r_5)) ?_ ?_
   ·refine Tr.block ?_
    refine Tr.loopM (σ := Int × List TTotal) (fun n s => M1271 bibs_2 amounts_3 i_32 (M1272 i_32 (M1273 bibs_2 amounts_3 M1274 n_34)) n s.1 s.2) (r_4, r_5) (fun s => ([(1, .d (.ls (List.map eI bibs_2))), (2, .d (.ls (List.map eI amounts_3))), (6, .nsl), (7, (dI 0)), (9, .sl 0 3 0 (List.length s.2)), (10, (dI i_32)), (11, (dI s.1))], [some (.arr 3 (List.map .d (List.map eTTotal s.2)))])) (((((bibs_2).length : Int)) - 0 : Int).toNat + 1) (0, l_33) h (fun s => rfl) (Wk.mk2 [0] 1 rfl rfl (by decide) rfl ⟨daS_d rfl, trivial⟩ ⟨rr, rr, rr, rr, rr, rr, rr, trivial⟩) ?_
    clear h
    rintro n_43 ⟨k_41, l_42⟩ h
    replace h : M1271 bibs_2 amounts_3 i_32 (M1272 i_32 (M1273 bibs_2 amounts_3 M1274 n_34)) (n_43 + 1) k_41 l_42 = some (r_4, r_5) := h
    rw [M1271] at h
    refine Tr.seq ?_
    refine Tr.seq ?_
    refine rg ?_
    conv => whnf
    refine lnS_map ?_
    conv => whnf
    refine Tr.cond ?_
    conv => whnf
    refine cB h (fun hb47 h => ?_) (fun hb47 h => ?_)
    ·refine Tr.skip ?_
     conv => whnf
     refine Tr.seq ?_
     refine Tr.block ?_
     refine Tr.seq ?_
     refine Tr.seq ?_
     refine Tr.draw (DrawP.seqQ layOK mixed [] [(0, 1), (1, 1), (2, 2), (3, 2), (4, 1), (5, 1), (6, 3), (7, 3), (8, 3), (9, 1)] (by kernel_rfl) ?_)
     conv => whnf
     refine ⟨_, (fun _ => rr), ?_⟩
     conv => whnf
     refine ⟨_, (fun _ => rr), ?_⟩
     conv => whnf
     obtain ⟨x_48, hx_48, h⟩ := bS h
     refine ⟨_, ⟨rfl, rfl, (by (conv => whnf); (refine ixP_of hx_48 ?_); (conv => whnf); (exact rr))⟩, ?_⟩
     conv => whnf
     refine ⟨_, ⟨rfl, rfl, rr⟩, ?_⟩
     conv => whnf
     refine ⟨_, (fun _ => rr), ?_⟩
     conv => whnf
     refine ⟨_, (fun _ => rr), ?_⟩
     conv => whnf
     obtain ⟨x_49, hx_49, h⟩ := bS h
     refine ⟨_, ⟨rfl, rfl, (by (conv => whnf); (refine ixS_of hx_49 rfl ?_); (conv => whnf); (exact rr))⟩, ?_⟩
     conv => whnf
     refine ⟨_, ⟨rfl, rfl, rr⟩, ?_⟩
     conv => whnf
     refine ⟨_, ⟨rfl, rfl, (by (conv => whnf); (refine elP_of hx_49 ?_); (conv => whnf); (exact rr))⟩, ?_⟩
     conv => whnf
     refine ⟨_, (fun _ => rr), ?_⟩
     conv => whnf
     refine Tr.cond ?_
     conv => whnf
     refine cB h (fun hb50 h => ?_) (fun hb50 h => ?_)
     ·refine Tr.exit ?_
      conv => whnf
      refine rg ?_
      conv => whnf
      refine arS_raw ?_
      conv => whnf
      refine ⟨((w64 (k_41 + 1)), l_42), h, ?_⟩
      exact Wk.mk2 [0] 1 rfl rfl (by decide) rfl ⟨daS_d rfl, trivial⟩ ⟨rr, rr, rr, rr, rr, rr, rr, trivial⟩
     refine Tr.skip ?_
     conv => whnf
     refine Tr.seq ?_
     refine Tr.draw (DrawP.seqQ layOK mixed [] [(0, 1), (1, 1), (2, 3), (3, 3), (4, 3), (5, 1), (6, 1), (7, 2), (8, 2), (9, 1), (10, 1), (11, 1), (12, 1), (13, 1), (14, 1), (15, 1)] (by kernel_rfl) ?_)
     conv => whnf
     refine ⟨_, (fun _ => rr), ?_⟩
     conv => whnf
     refine ⟨_, (fun _ => rr), ?_⟩
     conv => whnf
     obtain ⟨x_51, hx_51, h⟩ := bS h
     refine ⟨_, ⟨rfl, rfl, (by (conv => whnf); (refine ixS_of hx_51 rfl ?_); (conv => whnf); (exact rr))⟩, ?_⟩
     conv => whnf
     refine ⟨_, ⟨rfl, rfl, rr⟩, ?_⟩
     conv => whnf
     refine ⟨_, ⟨rfl, rfl, (by (conv => whnf); (refine elP_of hx_51 ?_); (conv => whnf); (exact rr))⟩, ?_⟩
     conv => whnf
     refine ⟨_, (fun _ => rr), ?_⟩
     conv => whnf
     refine ⟨_, (fun _ => rr), ?_⟩
     conv => whnf
     obtain ⟨x_52, hx_52, h⟩ := bS h
     refine ⟨_, ⟨rfl, rfl, (by (conv => whnf); (refine ixP_of hx_52 ?_); (conv => whnf); (exact rr))⟩, ?_⟩
     conv => whnf
     refine ⟨_, ⟨rfl, rfl, rr⟩, ?_⟩
     conv => whnf
     refine ⟨_, (fun _ => by (conv => whnf); (refine arS_raw ?_); (conv => whnf); (exact rr)), ?_⟩
     conv => whnf
     obtain ⟨⟨r_53, r_54⟩, hc55, h⟩ := bS h
     refine ⟨_, (fun _ => by (conv => whnf); (refine PC.ecall (P1269 x_51.Sums ((w64 (0 - x_52))) r_53 r_54 hc55) (fun rs hrs => ?_)); (subst hrs); (conv => whnf); (exact rr)), ?_⟩
     conv => whnf
     refine ⟨_, (fun _ => rr), ?_⟩
     conv => whnf
     refine ⟨_, (fun _ => rr), ?_⟩
     conv => whnf
     refine ⟨_, (fun _ => rr), ?_⟩
     conv => whnf
     refine ⟨_, (fun _ => rr), ?_⟩
     conv => whnf
     refine ⟨_, (fun _ => rr), ?_⟩
     conv => whnf
     refine Tr.seq ?_
     refine Tr.seq ?_
     refine rg ?_
     conv => whnf
     refine Tr.cond ?_
     conv => whnf
     refine cB h (fun hb56 h => ?_) (fun hb56 h => ?_)
     ·refine Tr.seq ?_
      refine rg ?_
      conv => whnf
      refine Tr.ret ?_
      conv => whnf
      cases h
      rfl
     refine Tr.skip ?_
     conv => whnf
     refine rg ?_
     conv => whnf
     obtain ⟨x_57, hx_57, h⟩ := bS h
     refine ixS_of hx_57 rfl ?_
     conv => whnf
     refine elP_of hx_57 ?_
     conv => whnf
     refine lvS_mk (es' := List.map .d (List.map eTTotal (List.set l_42 (Int.toNat i_32) ({ Bib := x_57.Bib, Sums := r_53, Out := x_57.Out } : TTotal)))) (by simp only [Nat.zero_add, List.map_set]; first | done | rfl) ?_
     conv => whnf
     refine rg ?_
     conv => whnf
     refine arS_raw ?_
     conv => whnf
     refine ⟨((w64 (k_41 + 1)), (List.set l_42 (Int.toNat i_32) ({ Bib := x_57.Bib, Sums := r_53, Out := x_57.Out } : TTotal))), h, ?_⟩
     exact Wk.mk2 [0] 1 rfl rfl (by decide) rfl ⟨daS_d rfl, trivial⟩ ⟨rr, rr, rr, rr, ⟨rfl, (slEq (by first | rfl | simp))⟩, rr, rr, trivial⟩
    refine Tr.exit ?_
    conv => whnf
    refine ⟨(l_42), h, ?_⟩
    exact Wk.mk2 [0] 1 rfl rfl (by decide) rfl ⟨daS_d rfl, trivial⟩ ⟨rr, rr, rr, rr, rr, rr, trivial⟩
   clear h
   rintro l_44 h T1 H1 hw
   replace h : M1272 i_32 (M1273 bibs_2 amounts_3 M1274 n_34) l_44 = some (r_4, r_5) := h
   conv => whnf
   refine Tr.weak hw ?_
   unfold M1272 at h
   refine rg ?_
   conv => whnf
   refine arS_raw ?_
   conv => whnf
   refine ⟨((w64 (i_32 + 1)), l_44), h, ?_⟩
   exact Wk.mk2 [0] 1 rfl rfl (by decide) rfl ⟨daS_d rfl, trivial⟩ ⟨rr, rr, rr, rr, rr, rr, trivial⟩
  refine Tr.exit ?_
  conv => whnf
  refine ⟨(l_33), h, ?_⟩
  exact Wk.mk2 [0] 1 rfl rfl (by decide) rfl ⟨daS_d rfl, trivial⟩ ⟨rr, rr, rr, trivial⟩
 clear h
 rintro l_35 h T1 H1 hw
 replace h : M1274 l_35 = some (r_4, r_5) := h
 conv => whnf
 refine Tr.weak hw ?_
 unfold M1274 at h
 refine Tr.seq ?_
 refine rg ?_
 conv => whnf
 refine Tr.ret ?_
 conv => whnf
 refine frE_of (f := eTTotal) (l := l_35) rfl ?_
 conv => whnf
 cases h
 rfl
theorem P1277 (l_1 : List TTotal) (most_2 : Int) (bibs_3 : List Int) (amounts_4 : List Int) (r_5 : Bool) (h : M1277 l_1 most_2 bibs_3 amounts_4 = some r_5) :
    PC prog 5 [(.ls (List.map eTTotal l_1)), (.i .i64 most_2), (.ls (List.map eI bibs_3)), (.ls (List.map eI amounts_4))] (fun rs => rs = [(.b r_5)]) := by
 refine PC.of_tr (cx := ⟨109, none, lay, 0⟩) layOK func5 rfl rfl rfl rfl rfl (by simp [f5]) ?_
 unfold M1277 at h
 refine Tr.seq ?_
 refine rg ?_
 conv => whnf
 refine Tr.seq ?_
 refine Tr.seq ?_
 refine rg ?_
 conv => whnf
 obtain ⟨r_6, hc7, h⟩ := bS h
 refine PC.ecall (P1243 r_6 hc7) (fun rs hrs => ?_)
 subst hrs
 conv => whnf
 refine Tr.cond ?_
 conv => whnf
 refine cB h (fun hb8 h => ?_) (fun hb8 h => ?_)
 ·refine Tr.seq ?_
  refine rg ?_
  conv => whnf
  refine Tr.ret ?_
  conv => whnf
  cases h
  rfl
 refine Tr.skip ?_
 conv => whnf
 refine Tr.seq ?_
 refine Tr.seq ?_
 refine rg ?_
 conv => whnf
 obtain ⟨r_9, hc10, h⟩ := bS h
 refine PC.ecall (P1255 l_1 r_9 hc10) (fun rs hrs => ?_)
 subst hrs
 conv => whnf
 refine cB h (fun hb11 h => ?_) (fun hb11 h => ?_)
 ·conv => whnf
  refine Tr.cond ?_
  conv => whnf
  refine Tr.seq ?_
  refine rg ?_
  conv => whnf
  refine Tr.ret ?_
  conv => whnf
  cases h
  rfl
 conv => whnf
 refine lnS_map ?_
 conv => whnf
 refine cB h (fun hb12 h => ?_) (fun hb12 h => ?_)
 ·conv => whnf
  refine Tr.cond ?_
  conv => whnf
  refine Tr.seq ?_
  refine rg ?_
  conv => whnf
  refine Tr.ret ?_
  conv => whnf
  cases h
  rfl
 conv => whnf
 refine lnS_map ?_
 conv => whnf
 refine Tr.cond ?_
 conv => whnf
 refine cB h (fun hb13 h => ?_) (fun hb13 h => ?_)
 ·refine Tr.seq ?_
  refine rg ?_
  conv => whnf
  refine Tr.ret ?_
  conv => whnf
  cases h
  rfl
 refine Tr.skip ?_
 conv => whnf
 refine Tr.seq ?_
 refine rg ?_
 conv => whnf
 obtain ⟨⟨r_14, r_15⟩, hc16, h⟩ := bS h
 refine PC.ecall (P1213 l_1 r_14 r_15 hc16) (fun rs hrs => ?_)
 subst hrs
 conv => whnf
 refine Tr.seq ?_
 refine rg ?_
 conv => whnf
 obtain ⟨⟨r_17, r_18⟩, hc19, h⟩ := bS h
 refine PC.ecall (P1264 l_1 r_17 r_18 hc19) (fun rs hrs => ?_)
 subst hrs
 conv => whnf
 refine Tr.seq ?_
 refine rg ?_
 conv => whnf
 obtain ⟨⟨r_20, r_21, r_22⟩, hc23, h⟩ := bS h
 refine PC.ecall (P1224 l_1 most_2 r_20 r_21 r_22 hc23) (fun rs hrs => ?_)
 subst hrs
 conv => whnf
 refine Tr.seq ?_
 refine rg ?_
 conv => whnf
 obtain ⟨⟨r_24, r_25, r_26⟩, hc27, h⟩ := bS h
 refine PC.ecall (P1266 l_1 most_2 r_24 r_25 r_26 hc27) (fun rs hrs => ?_)
 subst hrs
 conv => whnf
 refine Tr.seq ?_
 refine rg ?_
 conv => whnf
 obtain ⟨⟨r_28, r_29⟩, hc30, h⟩ := bS h
 refine PC.ecall (P1239 l_1 bibs_3 amounts_4 r_28 r_29 hc30) (fun rs hrs => ?_)
 subst hrs
 conv => whnf
 refine Tr.seq ?_
 refine rg ?_
 conv => whnf
 obtain ⟨⟨r_31, r_32⟩, hc33, h⟩ := bS h
 refine PC.ecall (P1276 l_1 bibs_3 amounts_4 r_31 r_32 hc33) (fun rs hrs => ?_)
 subst hrs
 conv => whnf
 refine Tr.seq ?_
 obtain ⟨v_34, hv35, h⟩ := bS h
 refine Tr.cutQ1 ([(8, .d (.b v_34))]) ([]) ?_ (fun T1 H1 hw => ?_)
 ·replace h := hv35; clear hv35
  refine rg ?_
  conv => whnf
  obtain ⟨r_36, hc37, h⟩ := bS h
  refine PC.ecall (P1227 r_14 r_17 r_36 hc37) (fun rs hrs => ?_)
  subst hrs
  conv => whnf
  refine cB h (fun hb38 h => ?_) (fun hb38 h => ?_)
  ·conv => whnf
   refine cB h (fun hb39 h => ?_) (fun hb39 h => ?_)
   ·conv => whnf
    obtain ⟨r_40, hc41, h⟩ := bS h
    refine PC.ecall (P1227 r_20 r_24 r_40 hc41) (fun rs hrs => ?_)
    subst hrs
    conv => whnf
    refine cB h (fun hb42 h => ?_) (fun hb42 h => ?_)
    ·conv => whnf
     obtain ⟨r_43, hc44, h⟩ := bS h
     refine PC.ecall (P1227 r_21 r_25 r_43 hc44) (fun rs hrs => ?_)
     subst hrs
     conv => whnf
     refine cB h (fun hb45 h => ?_) (fun hb45 h => ?_)
     ·conv => whnf
      refine cB h (fun hb46 h => ?_) (fun hb46 h => ?_)
      ·conv => whnf
       obtain ⟨r_47, hc48, h⟩ := bS h
       refine PC.ecall (P1242 r_28 r_31 r_47 hc48) (fun rs hrs => ?_)
       subst hrs
       conv => whnf
       refine cB h (fun hb49 h => ?_) (fun hb49 h => ?_)
       ·conv => whnf
        cases h
        exact Wk.mk2 [] 0 rfl rfl (by decide) rfl trivial ⟨rr, trivial⟩
       conv => whnf
       cases h
       exact Wk.mk2 [] 0 rfl rfl (by decide) rfl trivial ⟨rr, trivial⟩
      conv => whnf
      cases h
      exact Wk.mk2 [] 0 rfl rfl (by decide) rfl trivial ⟨rr, trivial⟩
     conv => whnf
     cases h
     exact Wk.mk2 [] 0 rfl rfl (by decide) rfl trivial ⟨rr, trivial⟩
    conv => whnf
    cases h
    exact Wk.mk2 [] 0 rfl rfl (by decide) rfl trivial ⟨rr, trivial⟩
   conv => whnf
   cases h
   exact Wk.mk2 [] 0 rfl rfl (by decide) rfl trivial ⟨rr, trivial⟩
  conv => whnf
  cases h
  exact Wk.mk2 [] 0 rfl rfl (by decide) rfl trivial ⟨rr, trivial⟩
 clear hv35
 conv => whnf
 refine Tr.weak hw ?_
 refine Tr.ret ?_
 conv => whnf
 cases h
 rfl
end Go.Proofs.Tryz
