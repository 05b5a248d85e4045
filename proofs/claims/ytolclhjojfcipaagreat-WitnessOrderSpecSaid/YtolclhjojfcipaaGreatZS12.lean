/- Contracts of functions, by program (gen.py). No condition. -/
import Derived.Test.YtolclhjojfcipaaGreatZL
import Derived.Test.YtolclhjojfcipaaGreatZM
import Derived.Test.YtolclhjojfcipaaGreatZS11
namespace Go.Proofs.Tryz
open Go Go.Abs Go.Stop
set_option maxRecDepth 8000
set_option linter.unusedVariables false
set_option linter.unusedSimpArgs false
theorem P297 (h_1 : THistory) (r_2 : Bool) (h : M297 h_1 = some r_2) :
    PC prog 15 [(eTHistory h_1)] (fun rs => rs = [(.b r_2)]) := by
 refine PC.of_tr (cx := ⟨13, none, lay, 0⟩) layOK func15 rfl rfl rfl rfl rfl (by simp [f15]) ?_
 unfold M297 at h
 refine Tr.seq ?_
 refine rg ?_
 conv => whnf
 refine Tr.seq ?_
 refine rg ?_
 conv => whnf
 refine lnS_map ?_
 conv => whnf
 refine cB h (fun hb3 h => ?_) (fun hb3 h => ?_)
 ·conv => whnf
  refine lnS_map ?_
  conv => whnf
  refine Tr.ret ?_
  conv => whnf
  cases h
  rfl
 conv => whnf
 refine Tr.ret ?_
 conv => whnf
 cases h
 rfl
theorem P303 (f_1 : TField) (h_2 : THistory) (l_3 : List Int) (r_4 : Int) (h : M303 f_1 h_2 l_3 = some r_4) :
    PC prog 17 [(eTField f_1), (eTHistory h_2), (.ls (List.map eI l_3))] (fun rs => rs = [(.i .i64 r_4)]) := by
 refine PC.of_tr (cx := ⟨84, none, lay, 0⟩) layOK func17 rfl rfl rfl rfl rfl (by simp [f17]) ?_
 unfold M303 at h
 refine Tr.seq ?_
 refine rg ?_
 conv => whnf
 refine Tr.seq ?_
 refine Tr.seq ?_
 refine rg ?_
 conv => whnf
 obtain ⟨r_5, hc6, h⟩ := bS h
 refine PC.ecall (P160 f_1 r_5 hc6) (fun rs hrs => ?_)
 subst hrs
 conv => whnf
 refine Tr.cond ?_
 conv => whnf
 refine cB h (fun hb7 h => ?_) (fun hb7 h => ?_)
 ·refine Tr.seq ?_
  refine rg ?_
  conv => whnf
  refine Tr.ret ?_
  conv => whnf
  cases h
  rfl
 refine Tr.skip ?_
 conv => whnf
 refine Tr.seq ?_
 refine Tr.seq ?_
 refine rg ?_
 conv => whnf
 obtain ⟨r_8, hc9, h⟩ := bS h
 refine PC.ecall (P176 f_1 h_2 r_8 hc9) (fun rs hrs => ?_)
 subst hrs
 conv => whnf
 refine Tr.cond ?_
 conv => whnf
 refine cB h (fun hb10 h => ?_) (fun hb10 h => ?_)
 ·refine Tr.seq ?_
  refine rg ?_
  conv => whnf
  refine Tr.ret ?_
  conv => whnf
  cases h
  rfl
 refine Tr.skip ?_
 conv => whnf
 refine Tr.seq ?_
 refine rg ?_
 conv => whnf
 refine Tr.seq ?_
 refine Tr.seq ?_
 refine rg ?_
 conv => whnf
 obtain ⟨ranked_16, hv23, h⟩ := bS h
 refine Tr.cutQ1 ([(2, .d (.ls (List.map eI l_3))), (3, .pt 0 0), (4, .pt 1 0), (6, (dI 0)), (7, (dI ranked_16))]) ([some (.var [.d (.ls (List.map eTSegment f_1.Clocks.Segments)), .d (.ls (List.map (eL eI) f_1.Clocks.Far)), .d (.ls (List.map eTPair f_1.Pairs)), .d (.ls (List.map eTRunner f_1.Runners))]), some (.var [(dI h_2.World), .d (.ls (List.map eI h_2.Offsets)), .d (.ls (List.map eTChoice h_2.Choices))])]) ?_ (fun T1 H1 hw => ?_)
 ·replace h := hv23; clear hv23
  refine Tr.block ?_
  refine Tr.loopM (σ := Int × Int) (fun n s => M298 f_1 h_2 n s.1 s.2) ranked_16 (fun s => ([(2, .d (.ls (List.map eI l_3))), (3, .pt 0 0), (4, .pt 1 0), (6, (dI 0)), (7, (dI s.1)), (8, (dI s.2))], [some (.var [.d (.ls (List.map eTSegment f_1.Clocks.Segments)), .d (.ls (List.map (eL eI) f_1.Clocks.Far)), .d (.ls (List.map eTPair f_1.Pairs)), .d (.ls (List.map eTRunner f_1.Runners))]), some (.var [(dI h_2.World), .d (.ls (List.map eI h_2.Offsets)), .d (.ls (List.map eTChoice h_2.Choices))])])) (((((f_1.Runners).length : Int)) - 0 : Int).toNat + 1) (0, 0) h (fun s => rfl) (Wk.mk2 [0, 1] 2 rfl rfl (by decide) rfl ⟨rr, rr, trivial⟩ ⟨rr, rr, rr, rr, rr, rr, trivial⟩) ?_
  clear h
  rintro n_15 ⟨ranked_13, i_14⟩ h
  replace h : M298 f_1 h_2 (n_15 + 1) ranked_13 i_14 = some ranked_16 := h
  rw [M298] at h
  refine Tr.seq ?_
  refine Tr.seq ?_
  refine rg ?_
  conv => whnf
  refine lnS_map ?_
  conv => whnf
  refine Tr.cond ?_
  conv => whnf
  refine cB h (fun hb19 h => ?_) (fun hb19 h => ?_)
  ·refine Tr.skip ?_
   conv => whnf
   refine Tr.seq ?_
   refine Tr.block ?_
   refine Tr.seq ?_
   refine rg ?_
   conv => whnf
   obtain ⟨r_20, hc21, h⟩ := bS h
   refine PC.ecall (P185 f_1 h_2 i_14 r_20 hc21) (fun rs hrs => ?_)
   subst hrs
   conv => whnf
   refine Tr.cond ?_
   conv => whnf
   refine cB h (fun hb22 h => ?_) (fun hb22 h => ?_)
   ·refine rg ?_
    conv => whnf
    refine arS_raw ?_
    conv => whnf
    refine rg ?_
    conv => whnf
    refine arS_raw ?_
    conv => whnf
    refine ⟨((w64 (ranked_13 + 1)), (w64 (i_14 + 1))), h, ?_⟩
    exact Wk.mk2 [0, 1] 2 rfl rfl (by decide) rfl ⟨rr, rr, trivial⟩ ⟨rr, rr, rr, rr, rr, rr, trivial⟩
   refine Tr.skip ?_
   conv => whnf
   refine rg ?_
   conv => whnf
   refine arS_raw ?_
   conv => whnf
   refine ⟨(ranked_13, (w64 (i_14 + 1))), h, ?_⟩
   exact Wk.mk2 [0, 1] 2 rfl rfl (by decide) rfl ⟨rr, rr, trivial⟩ ⟨rr, rr, rr, rr, rr, rr, trivial⟩
  refine Tr.exit ?_
  conv => whnf
  cases h
  exact Wk.mk2 [0, 1] 2 rfl rfl (by decide) rfl ⟨rr, rr, trivial⟩ ⟨rr, rr, rr, rr, rr, trivial⟩
 clear hv23
 conv => whnf
 refine Tr.weak hw ?_
 refine Tr.seq ?_
 refine Tr.seq ?_
 refine rg ?_
 conv => whnf
 refine lnS_map ?_
 conv => whnf
 refine Tr.cond ?_
 conv => whnf
 refine cB h (fun hb24 h => ?_) (fun hb24 h => ?_)
 ·refine Tr.seq ?_
  refine rg ?_
  conv => whnf
  refine Tr.ret ?_
  conv => whnf
  cases h
  rfl
 refine Tr.skip ?_
 conv => whnf
 refine Tr.seq ?_
 refine rg ?_
 conv => whnf
 refine Tr.seq ?_
 refine Tr.seq ?_
 refine rg ?_
 conv => whnf
 refine Tr.cutQ (α := Unit) (fun s => ([(6, (dI 0))], [])) (fun s => M302 s = some r_4) ?_ ?_
 ·refine Tr.block ?_
  refine Tr.loopM (σ := Int × Int) (fun n s => M301 f_1 h_2 l_3 M302 n s.1 s.2) r_4 (fun s => ([(2, .d (.ls (List.map eI l_3))), (3, .pt 0 0), (4, .pt 1 0), (6, (dI 0)), (9, (dI s.1)), (10, (dI s.2))], [some (.var [.d (.ls (List.map eTSegment f_1.Clocks.Segments)), .d (.ls (List.map (eL eI) f_1.Clocks.Far)), .d (.ls (List.map eTPair f_1.Pairs)), .d (.ls (List.map eTRunner f_1.Runners))]), some (.var [(dI h_2.World), .d (.ls (List.map eI h_2.Offsets)), .d (.ls (List.map eTChoice h_2.Choices))])])) (((((l_3).length : Int)) - 0 : Int).toNat + 1) (1, 0) h (fun s => rfl) (Wk.mk2 [0, 1] 2 rfl rfl (by decide) rfl ⟨rr, rr, trivial⟩ ⟨rr, rr, rr, rr, rr, rr, trivial⟩) ?_
  clear h
  rintro n_29 ⟨last_27, i_28⟩ h
  replace h : M301 f_1 h_2 l_3 M302 (n_29 + 1) last_27 i_28 = some r_4 := h
  rw [M301] at h
  refine Tr.seq ?_
  refine Tr.seq ?_
  refine rg ?_
  conv => whnf
  refine lnS_map ?_
  conv => whnf
  refine Tr.cond ?_
  conv => whnf
  refine cB h (fun hb32 h => ?_) (fun hb32 h => ?_)
  ·refine Tr.skip ?_
   conv => whnf
   refine Tr.seq ?_
   refine Tr.block ?_
   refine Tr.seq ?_
   refine Tr.seq ?_
   refine Tr.draw (DrawP.seqQ layOK mixed [] [(0, 1), (1, 1), (2, 2), (3, 2), (4, 1), (5, 1), (6, 1), (7, 1), (8, 2), (9, 2), (10, 3), (11, 3), (12, 2), (13, 1), (14, 1)] (by kernel_rfl) ?_)
   conv => whnf
   refine ⟨_, (fun _ => rr), ?_⟩
   conv => whnf
   refine ⟨_, (fun _ => rr), ?_⟩
   conv => whnf
   obtain ⟨x_33, hx_33, h⟩ := bS h
   refine ⟨_, ⟨rfl, rfl, (by (conv => whnf); (refine ixP_of hx_33 ?_); (conv => whnf); (exact rr))⟩, ?_⟩
   conv => whnf
   refine ⟨_, ⟨rfl, rfl, rr⟩, ?_⟩
   conv => whnf
   refine ⟨_, (fun _ => rr), ?_⟩
   conv => whnf
   refine ⟨_, (fun _ => rr), ?_⟩
   conv => whnf
   refine cB h (fun hb34 h => ?_) (fun hb34 h => ?_)
   ·conv => whnf
    refine ⟨_, (fun _ => rr), ?_⟩
    conv => whnf
    refine Tr.cond ?_
    conv => whnf
    refine Tr.seq ?_
    refine rg ?_
    conv => whnf
    refine Tr.ret ?_
    conv => whnf
    cases h
    rfl
   conv => whnf
   refine ⟨_, (fun _ => rr), ?_⟩
   conv => whnf
   refine ⟨_, (fun _ => rr), ?_⟩
   conv => whnf
   obtain ⟨x_35, hx_35, h⟩ := bS h
   refine ⟨_, ⟨rfl, rfl, (by (conv => whnf); (refine ixP_of hx_35 ?_); (conv => whnf); (exact rr))⟩, ?_⟩
   conv => whnf
   refine ⟨_, ⟨rfl, rfl, rr⟩, ?_⟩
   conv => whnf
   refine ⟨_, ⟨rfl, rfl, rr⟩, ?_⟩
   conv => whnf
   refine ⟨_, ⟨rfl, rfl, rr⟩, ?_⟩
   conv => whnf
   refine ⟨_, ⟨rfl, rfl, (by (conv => whnf); (refine lnS_map ?_); (conv => whnf); (exact rr))⟩, ?_⟩
   conv => whnf
   refine ⟨_, (fun _ => rr), ?_⟩
   conv => whnf
   refine ⟨_, (fun _ => rr), ?_⟩
   conv => whnf
   refine Tr.cond ?_
   conv => whnf
   refine cB h (fun hb36 h => ?_) (fun hb36 h => ?_)
   ·refine Tr.seq ?_
    refine rg ?_
    conv => whnf
    refine Tr.ret ?_
    conv => whnf
    cases h
    rfl
   refine Tr.skip ?_
   conv => whnf
   refine Tr.seq ?_
   refine Tr.draw (DrawP.seqQ layOK mixed [] [(0, 3), (1, 4), (2, 1), (3, 1), (4, 2), (5, 2), (6, 1), (7, 1)] (by kernel_rfl) ?_)
   conv => whnf
   refine ⟨_, ⟨rfl, rfl, rr⟩, ?_⟩
   conv => whnf
   refine ⟨_, ⟨rfl, rfl, rr⟩, ?_⟩
   conv => whnf
   refine ⟨_, (fun _ => rr), ?_⟩
   conv => whnf
   refine ⟨_, (fun _ => rr), ?_⟩
   conv => whnf
   obtain ⟨x_37, hx_37, h⟩ := bS h
   refine ⟨_, ⟨rfl, rfl, (by (conv => whnf); (refine ixP_of hx_37 ?_); (conv => whnf); (exact rr))⟩, ?_⟩
   conv => whnf
   refine ⟨_, ⟨rfl, rfl, rr⟩, ?_⟩
   conv => whnf
   obtain ⟨r_38, hc39, h⟩ := bS h
   refine ⟨_, (fun _ => by (conv => whnf); (refine PC.ecall (P185 f_1 h_2 x_37 r_38 hc39) (fun rs hrs => ?_)); (subst hrs); (conv => whnf); (exact rr)), ?_⟩
   conv => whnf
   refine ⟨_, (fun _ => rr), ?_⟩
   conv => whnf
   refine Tr.seq ?_
   refine Tr.seq ?_
   refine rg ?_
   conv => whnf
   refine Tr.cond ?_
   conv => whnf
   refine cB h (fun hb40 h => ?_) (fun hb40 h => ?_)
   ·refine Tr.seq ?_
    refine rg ?_
    conv => whnf
    refine Tr.ret ?_
    conv => whnf
    cases h
    rfl
   refine Tr.skip ?_
   conv => whnf
   refine Tr.seq ?_
   refine rg ?_
   conv => whnf
   refine Tr.seq ?_
   refine rg ?_
   conv => whnf
   refine Tr.cutQ (α := Unit) (fun s => ([(2, .d (.ls (List.map eI l_3))), (3, .pt 0 0), (4, .pt 1 0), (6, (dI 0)), (9, (dI r_38)), (10, (dI i_28))], [some (.var [.d (.ls (List.map eTSegment f_1.Clocks.Segments)), .d (.ls (List.map (eL eI) f_1.Clocks.Far)), .d (.ls (List.map eTPair f_1.Pairs)), .d (.ls (List.map eTRunner f_1.Runners))]), some (.var [(dI h_2.World), .d (.ls (List.map eI h_2.Offsets)), .d (.ls (List.map eTChoice h_2.Choices))])])) (fun s => M300 i_28 (M301 f_1 h_2 l_3 M302 n_29) r_38 s = some r_4) ?_ ?_
   ·refine Tr.block ?_
    refine Tr.loopM (σ := Int) (fun n s => M299 l_3 i_28 (M300 i_28 (M301 f_1 h_2 l_3 M302 n_29) r_38) n s) r_4 (fun s => ([(2, .d (.ls (List.map eI l_3))), (3, .pt 0 0), (4, .pt 1 0), (6, (dI 0)), (9, (dI r_38)), (10, (dI i_28)), (12, (dI s))], [some (.var [.d (.ls (List.map eTSegment f_1.Clocks.Segments)), .d (.ls (List.map (eL eI) f_1.Clocks.Far)), .d (.ls (List.map eTPair f_1.Pairs)), .d (.ls (List.map eTRunner f_1.Runners))]), some (.var [(dI h_2.World), .d (.ls (List.map eI h_2.Offsets)), .d (.ls (List.map eTChoice h_2.Choices))])])) ((i_28 - 0 : Int).toNat + 1) (0) h (fun s => rfl) (Wk.mk2 [0, 1] 2 rfl rfl (by decide) rfl ⟨rr, rr, trivial⟩ ⟨rr, rr, rr, rr, rr, rr, rr, trivial⟩) ?_
    clear h
    rintro n_43 k_42 h
    replace h : M299 l_3 i_28 (M300 i_28 (M301 f_1 h_2 l_3 M302 n_29) r_38) (n_43 + 1) k_42 = some r_4 := h
    rw [M299] at h
    refine Tr.seq ?_
    refine Tr.seq ?_
    refine rg ?_
    conv => whnf
    refine Tr.cond ?_
    conv => whnf
    refine cB h (fun hb46 h => ?_) (fun hb46 h => ?_)
    ·refine Tr.skip ?_
     conv => whnf
     refine Tr.seq ?_
     refine Tr.block ?_
     refine Tr.seq ?_
     refine Tr.draw (DrawP.seqQ layOK mixed [] [(0, 1), (1, 1), (2, 2), (3, 2), (4, 1), (5, 1), (6, 2), (7, 2), (8, 1)] (by kernel_rfl) ?_)
     conv => whnf
     refine ⟨_, (fun _ => rr), ?_⟩
     conv => whnf
     refine ⟨_, (fun _ => rr), ?_⟩
     conv => whnf
     obtain ⟨x_47, hx_47, h⟩ := bS h
     refine ⟨_, ⟨rfl, rfl, (by (conv => whnf); (refine ixP_of hx_47 ?_); (conv => whnf); (exact rr))⟩, ?_⟩
     conv => whnf
     refine ⟨_, ⟨rfl, rfl, rr⟩, ?_⟩
     conv => whnf
     refine ⟨_, (fun _ => rr), ?_⟩
     conv => whnf
     refine ⟨_, (fun _ => rr), ?_⟩
     conv => whnf
     obtain ⟨x_48, hx_48, h⟩ := bS h
     refine ⟨_, ⟨rfl, rfl, (by (conv => whnf); (refine ixP_of hx_48 ?_); (conv => whnf); (exact rr))⟩, ?_⟩
     conv => whnf
     refine ⟨_, ⟨rfl, rfl, rr⟩, ?_⟩
     conv => whnf
     refine ⟨_, (fun _ => rr), ?_⟩
     conv => whnf
     refine Tr.cond ?_
     conv => whnf
     refine cB h (fun hb49 h => ?_) (fun hb49 h => ?_)
     ·refine Tr.seq ?_
      refine rg ?_
      conv => whnf
      refine Tr.ret ?_
      conv => whnf
      cases h
      rfl
     refine Tr.skip ?_
     conv => whnf
     refine rg ?_
     conv => whnf
     refine arS_raw ?_
     conv => whnf
     refine ⟨((w64 (k_42 + 1))), h, ?_⟩
     exact Wk.mk2 [0, 1] 2 rfl rfl (by decide) rfl ⟨rr, rr, trivial⟩ ⟨rr, rr, rr, rr, rr, rr, rr, trivial⟩
    refine Tr.exit ?_
    conv => whnf
    refine ⟨(), h, ?_⟩
    exact Wk.mk2 [0, 1] 2 rfl rfl (by decide) rfl ⟨rr, rr, trivial⟩ ⟨rr, rr, rr, rr, rr, rr, trivial⟩
   clear h
   rintro _ h T1 H1 hw
   replace h : M300 i_28 (M301 f_1 h_2 l_3 M302 n_29) r_38 () = some r_4 := h
   conv => whnf
   refine Tr.weak hw ?_
   unfold M300 at h
   refine rg ?_
   conv => whnf
   refine arS_raw ?_
   conv => whnf
   refine ⟨(r_38, (w64 (i_28 + 1))), h, ?_⟩
   exact Wk.mk2 [0, 1] 2 rfl rfl (by decide) rfl ⟨rr, rr, trivial⟩ ⟨rr, rr, rr, rr, rr, rr, trivial⟩
  refine Tr.exit ?_
  conv => whnf
  refine ⟨(), h, ?_⟩
  exact Wk.mk2 [] 2 rfl rfl (by decide) rfl trivial ⟨rr, trivial⟩
 clear h
 rintro _ h T1 H1 hw
 replace h : M302 () = some r_4 := h
 conv => whnf
 refine Tr.weak hw ?_
 unfold M302 at h
 refine Tr.seq ?_
 refine rg ?_
 conv => whnf
 refine Tr.ret ?_
 conv => whnf
 cases h
 rfl
theorem P304 (f_1 : TField) (h_2 : THistory) (l_3 : List Int) (r_4 : Bool) (h : M304 f_1 h_2 l_3 = some r_4) :
    PC prog 4 [(eTField f_1), (eTHistory h_2), (.ls (List.map eI l_3))] (fun rs => rs = [(.b r_4)]) := by
 refine PC.of_tr (cx := ⟨31, none, lay, 0⟩) layOK func4 rfl rfl rfl rfl rfl (by simp [f4]) ?_
 unfold M304 at h
 refine Tr.seq ?_
 refine rg ?_
 conv => whnf
 refine Tr.seq ?_
 refine Tr.seq ?_
 refine rg ?_
 conv => whnf
 obtain ⟨r_5, hc6, h⟩ := bS h
 refine PC.ecall (P271 r_5 hc6) (fun rs hrs => ?_)
 subst hrs
 conv => whnf
 refine Tr.cond ?_
 conv => whnf
 refine cB h (fun hb7 h => ?_) (fun hb7 h => ?_)
 ·refine Tr.seq ?_
  refine rg ?_
  conv => whnf
  refine Tr.ret ?_
  conv => whnf
  cases h
  rfl
 refine Tr.skip ?_
 conv => whnf
 refine Tr.seq ?_
 refine Tr.seq ?_
 refine rg ?_
 conv => whnf
 obtain ⟨r_8, hc9, h⟩ := bS h
 refine PC.ecall (P278 f_1 r_8 hc9) (fun rs hrs => ?_)
 subst hrs
 conv => whnf
 refine cB h (fun hb10 h => ?_) (fun hb10 h => ?_)
 ·conv => whnf
  refine Tr.cond ?_
  conv => whnf
  refine Tr.seq ?_
  refine rg ?_
  conv => whnf
  refine Tr.ret ?_
  conv => whnf
  cases h
  rfl
 conv => whnf
 obtain ⟨r_11, hc12, h⟩ := bS h
 refine PC.ecall (P297 h_2 r_11 hc12) (fun rs hrs => ?_)
 subst hrs
 conv => whnf
 refine cB h (fun hb13 h => ?_) (fun hb13 h => ?_)
 ·conv => whnf
  refine Tr.cond ?_
  conv => whnf
  refine Tr.seq ?_
  refine rg ?_
  conv => whnf
  refine Tr.ret ?_
  conv => whnf
  cases h
  rfl
 conv => whnf
 refine lnS_map ?_
 conv => whnf
 refine Tr.cond ?_
 conv => whnf
 refine cB h (fun hb14 h => ?_) (fun hb14 h => ?_)
 ·refine Tr.seq ?_
  refine rg ?_
  conv => whnf
  refine Tr.ret ?_
  conv => whnf
  cases h
  rfl
 refine Tr.skip ?_
 conv => whnf
 refine Tr.seq ?_
 refine Tr.draw (DrawP.seqQ layOK mixed [] [(0, 3), (1, 4), (2, 1), (3, 1), (4, 3), (5, 4), (6, 1), (7, 1), (8, 1), (9, 1)] (by kernel_rfl) ?_)
 conv => whnf
 refine ⟨_, ⟨rfl, rfl, rr⟩, ?_⟩
 conv => whnf
 refine ⟨_, ⟨rfl, rfl, rr⟩, ?_⟩
 conv => whnf
 refine ⟨_, (fun _ => rr), ?_⟩
 conv => whnf
 obtain ⟨r_15, hc16, h⟩ := bS h
 refine ⟨_, (fun _ => by (conv => whnf); (refine PC.ecall (P270 f_1 h_2 l_3 r_15 hc16) (fun rs hrs => ?_)); (subst hrs); (conv => whnf); (exact rr)), ?_⟩
 conv => whnf
 refine ⟨_, ⟨rfl, rfl, rr⟩, ?_⟩
 conv => whnf
 refine ⟨_, ⟨rfl, rfl, rr⟩, ?_⟩
 conv => whnf
 refine ⟨_, (fun _ => rr), ?_⟩
 conv => whnf
 obtain ⟨r_17, hc18, h⟩ := bS h
 refine ⟨_, (fun _ => by (conv => whnf); (refine PC.ecall (P303 f_1 h_2 l_3 r_17 hc18) (fun rs hrs => ?_)); (subst hrs); (conv => whnf); (exact rr)), ?_⟩
 conv => whnf
 refine ⟨_, (fun _ => rr), ?_⟩
 conv => whnf
 refine ⟨_, (fun _ => rr), ?_⟩
 conv => whnf
 refine Tr.ret ?_
 conv => whnf
 cases h
 rfl
end Go.Proofs.Tryz
