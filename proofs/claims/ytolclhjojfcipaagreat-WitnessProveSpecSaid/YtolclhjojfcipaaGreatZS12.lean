/- Contracts of functions, by program (gen.py). No condition. -/
import Derived.Test.YtolclhjojfcipaaGreatZL
import Derived.Test.YtolclhjojfcipaaGreatZM
import Derived.Test.YtolclhjojfcipaaGreatZS11
namespace Go.Proofs.Tryz
open Go Go.Abs Go.Stop
set_option maxRecDepth 8000
set_option linter.unusedVariables false
set_option linter.unusedSimpArgs false
theorem P396 (f_1 : TField) (runner_2 : Int) (r_3 : Int) (h : M226 f_1 runner_2 = some r_3) :
    PC prog 34 [(eTField f_1), (.i .i64 runner_2)] (fun rs => rs = [(.i .i64 r_3)]) := by
 refine PC.of_tr (cx := ⟨19, none, lay, 0⟩) layOK func34 rfl rfl rfl rfl rfl (by simp [f34]) ?_
 unfold M226 at h
 refine Tr.seq ?_
 refine Tr.region layOK ?_
 conv => whnf
 refine Tr.seq ?_
 refine Tr.region layOK ?_
 conv => whnf
 obtain ⟨r_4, hc5, h⟩ := bind_some h
 refine PC.ecall (P308 f_1 r_4 hc5) (fun rs hrs => ?_)
 subst hrs
 conv => whnf
 refine Tr.seq ?_
 refine Tr.seq ?_
 refine Tr.region layOK ?_
 conv => whnf
 refine Tr.cond ?_
 conv => whnf
 refine condS_bif h (fun hb6 h => ?_) (fun hb6 h => ?_)
 ·refine Tr.seq ?_
  refine Tr.region layOK ?_
  conv => whnf
  refine Tr.ret ?_
  conv => whnf
  cases h
  rfl
 refine Tr.skip ?_
 conv => whnf
 refine Tr.seq ?_
 refine Tr.seq ?_
 refine Tr.region layOK ?_
 conv => whnf
 refine condS_bif h (fun hb7 h => ?_) (fun hb7 h => ?_)
 ·conv => whnf
  refine Tr.cond ?_
  conv => whnf
  refine Tr.seq ?_
  refine Tr.region layOK ?_
  conv => whnf
  refine Tr.ret ?_
  conv => whnf
  cases h
  rfl
 conv => whnf
 refine lnS_map ?_
 conv => whnf
 refine Tr.cond ?_
 conv => whnf
 refine condS_bif h (fun hb8 h => ?_) (fun hb8 h => ?_)
 ·refine Tr.seq ?_
  refine Tr.region layOK ?_
  conv => whnf
  refine Tr.ret ?_
  conv => whnf
  cases h
  rfl
 refine Tr.skip ?_
 conv => whnf
 refine Tr.seq ?_
 refine Tr.region layOK ?_
 conv => whnf
 refine Tr.ret ?_
 conv => whnf
 cases h
 rfl
theorem P404 (f_1 : TField) (x_2 : TOutcome) (runner_3 : Int) (y_4 : TOutcome) (rival_5 : Int) (r_6 : Bool) (h : M168 f_1 x_2 runner_3 y_4 rival_5 = some r_6) :
    PC prog 107 [(eTField f_1), (eTOutcome x_2), (.i .i64 runner_3), (eTOutcome y_4), (.i .i64 rival_5)] (fun rs => rs = [(.b r_6)]) := by
 refine PC.of_tr (cx := ⟨55, none, lay, 0⟩) layOK func107 rfl rfl rfl rfl rfl (by simp [f107]) ?_
 unfold M168 at h
 refine Tr.seq ?_
 refine Tr.region layOK ?_
 conv => whnf
 refine Tr.seq ?_
 refine Tr.seq ?_
 refine Tr.region layOK ?_
 conv => whnf
 refine Tr.cond ?_
 conv => whnf
 refine condS_bif h (fun hb7 h => ?_) (fun hb7 h => ?_)
 ·refine Tr.seq ?_
  refine Tr.region layOK ?_
  conv => whnf
  refine Tr.ret ?_
  conv => whnf
  cases h
  rfl
 refine Tr.skip ?_
 conv => whnf
 refine Tr.seq ?_
 refine Tr.draw (DrawP.seqQ layOK mixed [] [(0, 5), (1, 5), (2, 3), (3, 3), (4, 3), (5, 4), (6, 4), (7, 1), (8, 2), (9, 2), (10, 5), (11, 5), (12, 1), (13, 2), (14, 2), (15, 1), (16, 4), (17, 4), (18, 1), (19, 1)] (by kernel_rfl) ?_)
 conv => whnf
 refine ⟨_, ⟨rfl, rfl, rr⟩, ?_⟩
 conv => whnf
 refine ⟨_, ⟨rfl, rfl, rr⟩, ?_⟩
 conv => whnf
 refine ⟨_, ⟨rfl, rfl, rr⟩, ?_⟩
 conv => whnf
 refine ⟨_, ⟨rfl, rfl, rr⟩, ?_⟩
 conv => whnf
 refine ⟨_, ⟨rfl, rfl, rr⟩, ?_⟩
 conv => whnf
 refine ⟨_, ⟨rfl, rfl, rr⟩, ?_⟩
 conv => whnf
 refine ⟨_, ⟨rfl, rfl, rr⟩, ?_⟩
 conv => whnf
 refine ⟨_, (fun _ => by (conv => whnf); (refine arS_raw ?_); (conv => whnf); (exact rr)), ?_⟩
 conv => whnf
 obtain ⟨x_8, hx_8, h⟩ := bind_some h
 refine ⟨_, ⟨rfl, rfl, (by (conv => whnf); (refine ixP_of hx_8 ?_); (conv => whnf); (exact rr))⟩, ?_⟩
 conv => whnf
 refine ⟨_, ⟨rfl, rfl, rr⟩, ?_⟩
 conv => whnf
 refine ⟨_, ⟨rfl, rfl, rr⟩, ?_⟩
 conv => whnf
 refine ⟨_, ⟨rfl, rfl, rr⟩, ?_⟩
 conv => whnf
 refine ⟨_, (fun _ => by (conv => whnf); (refine arS_raw ?_); (conv => whnf); (exact rr)), ?_⟩
 conv => whnf
 obtain ⟨x_9, hx_9, h⟩ := bind_some h
 refine ⟨_, ⟨rfl, rfl, (by (conv => whnf); (refine ixP_of hx_9 ?_); (conv => whnf); (exact rr))⟩, ?_⟩
 conv => whnf
 refine ⟨_, ⟨rfl, rfl, rr⟩, ?_⟩
 conv => whnf
 refine ⟨_, (fun _ => by (conv => whnf); (refine arS_raw ?_); (conv => whnf); (exact rr)), ?_⟩
 conv => whnf
 refine ⟨_, ⟨rfl, rfl, rr⟩, ?_⟩
 conv => whnf
 refine ⟨_, ⟨rfl, rfl, rr⟩, ?_⟩
 conv => whnf
 refine ⟨_, (fun _ => by (conv => whnf); (refine arS_raw ?_); (conv => whnf); (exact rr)), ?_⟩
 conv => whnf
 refine ⟨_, (fun _ => rr), ?_⟩
 conv => whnf
 refine Tr.seq ?_
 refine Tr.draw (DrawP.seqQ layOK mixed [] [(0, 1), (1, 1), (2, 1), (3, 1), (4, 1), (5, 1), (6, 3), (7, 3), (8, 1), (9, 2), (10, 2), (11, 2), (12, 3), (13, 3), (14, 1), (15, 2), (16, 2), (17, 2), (18, 1), (19, 1), (20, 1), (21, 1), (22, 1)] (by kernel_rfl) ?_)
 conv => whnf
 refine ⟨_, (fun _ => rr), ?_⟩
 conv => whnf
 refine ⟨_, (fun _ => rr), ?_⟩
 conv => whnf
 refine ⟨_, (fun _ => rr), ?_⟩
 conv => whnf
 refine condS_bif h (fun hb10 h => ?_) (fun hb10 h => ?_)
 ·conv => whnf
  refine ⟨_, (fun _ => rr), ?_⟩
  conv => whnf
  refine ⟨_, (fun _ => rr), ?_⟩
  conv => whnf
  refine Tr.ret ?_
  conv => whnf
  cases h
  rfl
 conv => whnf
 refine ⟨_, (fun _ => rr), ?_⟩
 conv => whnf
 refine ⟨_, (fun _ => rr), ?_⟩
 conv => whnf
 refine ⟨_, (fun _ => rr), ?_⟩
 conv => whnf
 refine condS_bif h (fun hb11 h => ?_) (fun hb11 h => ?_)
 ·conv => whnf
  refine ⟨_, ⟨rfl, rfl, rr⟩, ?_⟩
  conv => whnf
  refine ⟨_, ⟨rfl, rfl, rr⟩, ?_⟩
  conv => whnf
  refine ⟨_, (fun _ => rr), ?_⟩
  conv => whnf
  obtain ⟨x_12, hx_12, h⟩ := bind_some h
  refine ⟨_, ⟨rfl, rfl, (by (conv => whnf); (refine ixP_of hx_12 ?_); (conv => whnf); (exact rr))⟩, ?_⟩
  conv => whnf
  refine ⟨_, ⟨rfl, rfl, rr⟩, ?_⟩
  conv => whnf
  refine ⟨_, ⟨rfl, rfl, rr⟩, ?_⟩
  conv => whnf
  refine ⟨_, ⟨rfl, rfl, rr⟩, ?_⟩
  conv => whnf
  refine ⟨_, ⟨rfl, rfl, rr⟩, ?_⟩
  conv => whnf
  refine ⟨_, (fun _ => rr), ?_⟩
  conv => whnf
  obtain ⟨x_13, hx_13, h⟩ := bind_some h
  refine ⟨_, ⟨rfl, rfl, (by (conv => whnf); (refine ixP_of hx_13 ?_); (conv => whnf); (exact rr))⟩, ?_⟩
  conv => whnf
  refine ⟨_, ⟨rfl, rfl, rr⟩, ?_⟩
  conv => whnf
  refine ⟨_, ⟨rfl, rfl, rr⟩, ?_⟩
  conv => whnf
  obtain ⟨r_14, hc15, h⟩ := bind_some h
  refine ⟨_, (fun _ => by (conv => whnf); (refine PC.ecall (P320 x_12.Keys x_13.Keys r_14 hc15) (fun rs hrs => ?_)); (subst hrs); (conv => whnf); (exact rr)), ?_⟩
  conv => whnf
  refine ⟨_, (fun _ => rr), ?_⟩
  conv => whnf
  refine ⟨_, (fun _ => rr), ?_⟩
  conv => whnf
  refine ⟨_, (fun _ => rr), ?_⟩
  conv => whnf
  refine ⟨_, (fun _ => rr), ?_⟩
  conv => whnf
  refine Tr.ret ?_
  conv => whnf
  cases h
  rfl
 conv => whnf
 refine ⟨_, (fun _ => rr), ?_⟩
 conv => whnf
 refine ⟨_, (fun _ => rr), ?_⟩
 conv => whnf
 refine ⟨_, (fun _ => rr), ?_⟩
 conv => whnf
 refine Tr.ret ?_
 conv => whnf
 cases h
 rfl
theorem P386 (f_1 : TField) (world_2 : Int) (x_3 : TOutcome) (runner_4 : Int) (rival_5 : Int) (r_6 : Bool) (h : M211 f_1 world_2 x_3 runner_4 rival_5 = some r_6) :
    PC prog 67 [(eTField f_1), (.i .i64 world_2), (eTOutcome x_3), (.i .i64 runner_4), (.i .i64 rival_5)] (fun rs => rs = [(.b r_6)]) := by
 refine PC.of_tr (cx := ⟨37, none, lay, 0⟩) layOK func67 rfl rfl rfl rfl rfl (by simp [f67]) ?_
 unfold M211 at h
 refine Tr.seq ?_
 refine Tr.region layOK ?_
 conv => whnf
 refine Tr.seq ?_
 refine Tr.region layOK ?_
 conv => whnf
 obtain ⟨x_7, hx_7, h⟩ := bind_some h
 refine ixP_of hx_7 ?_
 conv => whnf
 obtain ⟨x_8, hx_8, h⟩ := bind_some h
 refine ixP_of hx_8 ?_
 conv => whnf
 refine Tr.seq ?_
 refine Tr.seq ?_
 refine Tr.region layOK ?_
 conv => whnf
 refine Tr.cutQ (α := Unit) (fun s => ([(10, .d (.b false))], [])) (fun s => M125 s = some r_6) ?_ ?_
 ·refine Tr.block ?_
  refine Tr.loopM (σ := Int) (fun n s => M73 f_1 x_3 runner_4 rival_5 x_8 M125 n s) r_6 (fun s => ([(3, (dI runner_4)), (4, (dI rival_5)), (5, .pt 0 0), (7, .pt 1 0), (10, .d (.b false)), (11, .d (.ls (List.map eTOutcome x_8))), (12, (dI s))], [some (.var [.d (.ls (List.map eTSegment f_1.Clocks.Segments)), .d (.ls (List.map (eL eI) f_1.Clocks.Far)), .d (.ls (List.map eTPair f_1.Pairs)), .d (.ls (List.map eTRunner f_1.Runners))]), some (.var [.d (.b x_3.Out), (dI x_3.Seg), (dI x_3.Lo), (dI x_3.Hi)])])) (((((x_8).length : Int)) - 0 : Int).toNat + 1) (0) h (fun s => rfl) (Wk.mk2 [0, 1] 2 rfl rfl (by decide) rfl ⟨rr, rr, trivial⟩ ⟨rr, rr, rr, rr, rr, rr, rr, trivial⟩) ?_
  clear h
  rintro n_11 i_10 h
  replace h : M73 f_1 x_3 runner_4 rival_5 x_8 M125 (n_11 + 1) i_10 = some r_6 := h
  rw [M73] at h
  refine Tr.seq ?_
  refine Tr.seq ?_
  refine Tr.region layOK ?_
  conv => whnf
  refine lnS_map ?_
  conv => whnf
  refine Tr.cond ?_
  conv => whnf
  refine condS_bif h (fun hb14 h => ?_) (fun hb14 h => ?_)
  ·refine Tr.skip ?_
   conv => whnf
   refine Tr.seq ?_
   refine Tr.block ?_
   refine Tr.seq ?_
   refine Tr.draw (DrawP.seqQ layOK mixed [] [(0, 3), (1, 4), (2, 1), (3, 1), (4, 1), (5, 2), (6, 2), (7, 1), (8, 1)] (by kernel_rfl) ?_)
   conv => whnf
   refine ⟨_, ⟨rfl, rfl, rr⟩, ?_⟩
   conv => whnf
   refine ⟨_, ⟨rfl, rfl, rr⟩, ?_⟩
   conv => whnf
   refine ⟨_, (fun _ => rr), ?_⟩
   conv => whnf
   refine ⟨_, (fun _ => rr), ?_⟩
   conv => whnf
   refine ⟨_, (fun _ => rr), ?_⟩
   conv => whnf
   obtain ⟨x_15, hx_15, h⟩ := bind_some h
   refine ⟨_, ⟨rfl, rfl, (by (conv => whnf); (refine ixP_of hx_15 ?_); (conv => whnf); (exact rr))⟩, ?_⟩
   conv => whnf
   refine ⟨_, ⟨rfl, rfl, rr⟩, ?_⟩
   conv => whnf
   refine ⟨_, (fun _ => rr), ?_⟩
   conv => whnf
   obtain ⟨r_16, hc17, h⟩ := bind_some h
   refine ⟨_, (fun _ => by (conv => whnf); (refine PC.ecall (P404 f_1 x_3 runner_4 x_15 rival_5 r_16 hc17) (fun rs hrs => ?_)); (subst hrs); (conv => whnf); (exact rr)), ?_⟩
   conv => whnf
   refine Tr.cond ?_
   conv => whnf
   refine condS_bif h (fun hb18 h => ?_) (fun hb18 h => ?_)
   ·refine Tr.seq ?_
    refine Tr.region layOK ?_
    conv => whnf
    refine Tr.ret ?_
    conv => whnf
    cases h
    rfl
   refine Tr.skip ?_
   conv => whnf
   refine Tr.region layOK ?_
   conv => whnf
   refine arS_raw ?_
   conv => whnf
   refine ⟨((w64 (i_10 + 1))), h, ?_⟩
   exact Wk.mk2 [0, 1] 2 rfl rfl (by decide) rfl ⟨rr, rr, trivial⟩ ⟨rr, rr, rr, rr, rr, rr, rr, trivial⟩
  refine Tr.exit ?_
  conv => whnf
  refine ⟨(), h, ?_⟩
  exact Wk.mk2 [] 2 rfl rfl (by decide) rfl trivial ⟨rr, trivial⟩
 clear h
 rintro _ h T1 H1 hw
 replace h : M125 () = some r_6 := h
 conv => whnf
 refine Tr.weak hw ?_
 unfold M125 at h
 refine Tr.seq ?_
 refine Tr.region layOK ?_
 conv => whnf
 refine Tr.ret ?_
 conv => whnf
 cases h
 rfl
theorem P397 (f_1 : TField) (x_2 : TOutcome) (runner_3 : Int) (y_4 : TOutcome) (rival_5 : Int) (r_6 : Bool) (h : M157 f_1 x_2 runner_3 y_4 rival_5 = some r_6) :
    PC prog 108 [(eTField f_1), (eTOutcome x_2), (.i .i64 runner_3), (eTOutcome y_4), (.i .i64 rival_5)] (fun rs => rs = [(.b r_6)]) := by
 refine PC.of_tr (cx := ⟨54, none, lay, 0⟩) layOK func108 rfl rfl rfl rfl rfl (by simp [f108]) ?_
 unfold M157 at h
 refine Tr.seq ?_
 refine Tr.region layOK ?_
 conv => whnf
 refine Tr.seq ?_
 refine Tr.seq ?_
 refine Tr.region layOK ?_
 conv => whnf
 refine Tr.cond ?_
 conv => whnf
 refine condS_bif h (fun hb7 h => ?_) (fun hb7 h => ?_)
 ·refine Tr.seq ?_
  refine Tr.region layOK ?_
  conv => whnf
  refine Tr.ret ?_
  conv => whnf
  cases h
  rfl
 refine Tr.skip ?_
 conv => whnf
 refine Tr.seq ?_
 refine Tr.draw (DrawP.seqQ layOK mixed [] [(0, 5), (1, 5), (2, 3), (3, 3), (4, 3), (5, 5), (6, 5), (7, 1), (8, 2), (9, 2), (10, 4), (11, 4), (12, 1), (13, 2), (14, 2), (15, 1), (16, 4), (17, 4), (18, 1), (19, 1)] (by kernel_rfl) ?_)
 conv => whnf
 refine ⟨_, ⟨rfl, rfl, rr⟩, ?_⟩
 conv => whnf
 refine ⟨_, ⟨rfl, rfl, rr⟩, ?_⟩
 conv => whnf
 refine ⟨_, ⟨rfl, rfl, rr⟩, ?_⟩
 conv => whnf
 refine ⟨_, ⟨rfl, rfl, rr⟩, ?_⟩
 conv => whnf
 refine ⟨_, ⟨rfl, rfl, rr⟩, ?_⟩
 conv => whnf
 refine ⟨_, ⟨rfl, rfl, rr⟩, ?_⟩
 conv => whnf
 refine ⟨_, ⟨rfl, rfl, rr⟩, ?_⟩
 conv => whnf
 refine ⟨_, (fun _ => by (conv => whnf); (refine arS_raw ?_); (conv => whnf); (exact rr)), ?_⟩
 conv => whnf
 obtain ⟨x_8, hx_8, h⟩ := bind_some h
 refine ⟨_, ⟨rfl, rfl, (by (conv => whnf); (refine ixP_of hx_8 ?_); (conv => whnf); (exact rr))⟩, ?_⟩
 conv => whnf
 refine ⟨_, ⟨rfl, rfl, rr⟩, ?_⟩
 conv => whnf
 refine ⟨_, ⟨rfl, rfl, rr⟩, ?_⟩
 conv => whnf
 refine ⟨_, ⟨rfl, rfl, rr⟩, ?_⟩
 conv => whnf
 refine ⟨_, (fun _ => by (conv => whnf); (refine arS_raw ?_); (conv => whnf); (exact rr)), ?_⟩
 conv => whnf
 obtain ⟨x_9, hx_9, h⟩ := bind_some h
 refine ⟨_, ⟨rfl, rfl, (by (conv => whnf); (refine ixP_of hx_9 ?_); (conv => whnf); (exact rr))⟩, ?_⟩
 conv => whnf
 refine ⟨_, ⟨rfl, rfl, rr⟩, ?_⟩
 conv => whnf
 refine ⟨_, (fun _ => by (conv => whnf); (refine arS_raw ?_); (conv => whnf); (exact rr)), ?_⟩
 conv => whnf
 refine ⟨_, ⟨rfl, rfl, rr⟩, ?_⟩
 conv => whnf
 refine ⟨_, ⟨rfl, rfl, rr⟩, ?_⟩
 conv => whnf
 refine ⟨_, (fun _ => by (conv => whnf); (refine arS_raw ?_); (conv => whnf); (exact rr)), ?_⟩
 conv => whnf
 refine ⟨_, (fun _ => rr), ?_⟩
 conv => whnf
 refine Tr.seq ?_
 refine Tr.draw (DrawP.seqQ layOK mixed [] [(0, 1), (1, 1), (2, 1), (3, 1), (4, 1), (5, 1), (6, 3), (7, 3), (8, 1), (9, 2), (10, 2), (11, 2), (12, 3), (13, 3), (14, 1), (15, 2), (16, 2), (17, 2), (18, 1), (19, 1), (20, 1), (21, 1)] (by kernel_rfl) ?_)
 conv => whnf
 refine ⟨_, (fun _ => rr), ?_⟩
 conv => whnf
 refine ⟨_, (fun _ => rr), ?_⟩
 conv => whnf
 refine ⟨_, (fun _ => rr), ?_⟩
 conv => whnf
 refine condS_bif h (fun hb10 h => ?_) (fun hb10 h => ?_)
 ·conv => whnf
  refine ⟨_, (fun _ => rr), ?_⟩
  conv => whnf
  refine ⟨_, (fun _ => rr), ?_⟩
  conv => whnf
  refine Tr.ret ?_
  conv => whnf
  cases h
  rfl
 conv => whnf
 refine ⟨_, (fun _ => rr), ?_⟩
 conv => whnf
 refine ⟨_, (fun _ => rr), ?_⟩
 conv => whnf
 refine ⟨_, (fun _ => rr), ?_⟩
 conv => whnf
 refine condS_bif h (fun hb11 h => ?_) (fun hb11 h => ?_)
 ·conv => whnf
  refine ⟨_, ⟨rfl, rfl, rr⟩, ?_⟩
  conv => whnf
  refine ⟨_, ⟨rfl, rfl, rr⟩, ?_⟩
  conv => whnf
  refine ⟨_, (fun _ => rr), ?_⟩
  conv => whnf
  obtain ⟨x_12, hx_12, h⟩ := bind_some h
  refine ⟨_, ⟨rfl, rfl, (by (conv => whnf); (refine ixP_of hx_12 ?_); (conv => whnf); (exact rr))⟩, ?_⟩
  conv => whnf
  refine ⟨_, ⟨rfl, rfl, rr⟩, ?_⟩
  conv => whnf
  refine ⟨_, ⟨rfl, rfl, rr⟩, ?_⟩
  conv => whnf
  refine ⟨_, ⟨rfl, rfl, rr⟩, ?_⟩
  conv => whnf
  refine ⟨_, ⟨rfl, rfl, rr⟩, ?_⟩
  conv => whnf
  refine ⟨_, (fun _ => rr), ?_⟩
  conv => whnf
  obtain ⟨x_13, hx_13, h⟩ := bind_some h
  refine ⟨_, ⟨rfl, rfl, (by (conv => whnf); (refine ixP_of hx_13 ?_); (conv => whnf); (exact rr))⟩, ?_⟩
  conv => whnf
  refine ⟨_, ⟨rfl, rfl, rr⟩, ?_⟩
  conv => whnf
  refine ⟨_, ⟨rfl, rfl, rr⟩, ?_⟩
  conv => whnf
  obtain ⟨r_14, hc15, h⟩ := bind_some h
  refine ⟨_, (fun _ => by (conv => whnf); (refine PC.ecall (P320 x_12.Keys x_13.Keys r_14 hc15) (fun rs hrs => ?_)); (subst hrs); (conv => whnf); (exact rr)), ?_⟩
  conv => whnf
  refine ⟨_, (fun _ => rr), ?_⟩
  conv => whnf
  refine ⟨_, (fun _ => rr), ?_⟩
  conv => whnf
  refine ⟨_, (fun _ => rr), ?_⟩
  conv => whnf
  refine Tr.ret ?_
  conv => whnf
  cases h
  rfl
 conv => whnf
 refine ⟨_, (fun _ => rr), ?_⟩
 conv => whnf
 refine ⟨_, (fun _ => rr), ?_⟩
 conv => whnf
 refine ⟨_, (fun _ => rr), ?_⟩
 conv => whnf
 refine Tr.ret ?_
 conv => whnf
 cases h
 rfl
theorem P335 (f_1 : TField) (world_2 : Int) (x_3 : TOutcome) (runner_4 : Int) (rival_5 : Int) (r_6 : Bool) (h : M185 f_1 world_2 x_3 runner_4 rival_5 = some r_6) :
    PC prog 68 [(eTField f_1), (.i .i64 world_2), (eTOutcome x_3), (.i .i64 runner_4), (.i .i64 rival_5)] (fun rs => rs = [(.b r_6)]) := by
 refine PC.of_tr (cx := ⟨37, none, lay, 0⟩) layOK func68 rfl rfl rfl rfl rfl (by simp [f68]) ?_
 unfold M185 at h
 refine Tr.seq ?_
 refine Tr.region layOK ?_
 conv => whnf
 refine Tr.seq ?_
 refine Tr.region layOK ?_
 conv => whnf
 obtain ⟨x_7, hx_7, h⟩ := bind_some h
 refine ixP_of hx_7 ?_
 conv => whnf
 obtain ⟨x_8, hx_8, h⟩ := bind_some h
 refine ixP_of hx_8 ?_
 conv => whnf
 refine Tr.seq ?_
 refine Tr.seq ?_
 refine Tr.region layOK ?_
 conv => whnf
 refine Tr.cutQ (α := Unit) (fun s => ([(10, .d (.b false))], [])) (fun s => M119 s = some r_6) ?_ ?_
 ·refine Tr.block ?_
  refine Tr.loopM (σ := Int) (fun n s => M71 f_1 x_3 runner_4 rival_5 x_8 M119 n s) r_6 (fun s => ([(3, (dI runner_4)), (4, (dI rival_5)), (5, .pt 0 0), (7, .pt 1 0), (10, .d (.b false)), (11, .d (.ls (List.map eTOutcome x_8))), (12, (dI s))], [some (.var [.d (.ls (List.map eTSegment f_1.Clocks.Segments)), .d (.ls (List.map (eL eI) f_1.Clocks.Far)), .d (.ls (List.map eTPair f_1.Pairs)), .d (.ls (List.map eTRunner f_1.Runners))]), some (.var [.d (.b x_3.Out), (dI x_3.Seg), (dI x_3.Lo), (dI x_3.Hi)])])) (((((x_8).length : Int)) - 0 : Int).toNat + 1) (0) h (fun s => rfl) (Wk.mk2 [0, 1] 2 rfl rfl (by decide) rfl ⟨rr, rr, trivial⟩ ⟨rr, rr, rr, rr, rr, rr, rr, trivial⟩) ?_
  clear h
  rintro n_11 i_10 h
  replace h : M71 f_1 x_3 runner_4 rival_5 x_8 M119 (n_11 + 1) i_10 = some r_6 := h
  rw [M71] at h
  refine Tr.seq ?_
  refine Tr.seq ?_
  refine Tr.region layOK ?_
  conv => whnf
  refine lnS_map ?_
  conv => whnf
  refine Tr.cond ?_
  conv => whnf
  refine condS_bif h (fun hb14 h => ?_) (fun hb14 h => ?_)
  ·refine Tr.skip ?_
   conv => whnf
   refine Tr.seq ?_
   refine Tr.block ?_
   refine Tr.seq ?_
   refine Tr.draw (DrawP.seqQ layOK mixed [] [(0, 3), (1, 4), (2, 1), (3, 1), (4, 1), (5, 2), (6, 2), (7, 1), (8, 1)] (by kernel_rfl) ?_)
   conv => whnf
   refine ⟨_, ⟨rfl, rfl, rr⟩, ?_⟩
   conv => whnf
   refine ⟨_, ⟨rfl, rfl, rr⟩, ?_⟩
   conv => whnf
   refine ⟨_, (fun _ => rr), ?_⟩
   conv => whnf
   refine ⟨_, (fun _ => rr), ?_⟩
   conv => whnf
   refine ⟨_, (fun _ => rr), ?_⟩
   conv => whnf
   obtain ⟨x_15, hx_15, h⟩ := bind_some h
   refine ⟨_, ⟨rfl, rfl, (by (conv => whnf); (refine ixP_of hx_15 ?_); (conv => whnf); (exact rr))⟩, ?_⟩
   conv => whnf
   refine ⟨_, ⟨rfl, rfl, rr⟩, ?_⟩
   conv => whnf
   refine ⟨_, (fun _ => rr), ?_⟩
   conv => whnf
   obtain ⟨r_16, hc17, h⟩ := bind_some h
   refine ⟨_, (fun _ => by (conv => whnf); (refine PC.ecall (P397 f_1 x_3 runner_4 x_15 rival_5 r_16 hc17) (fun rs hrs => ?_)); (subst hrs); (conv => whnf); (exact rr)), ?_⟩
   conv => whnf
   refine Tr.cond ?_
   conv => whnf
   refine condS_bif h (fun hb18 h => ?_) (fun hb18 h => ?_)
   ·refine Tr.seq ?_
    refine Tr.region layOK ?_
    conv => whnf
    refine Tr.ret ?_
    conv => whnf
    cases h
    rfl
   refine Tr.skip ?_
   conv => whnf
   refine Tr.region layOK ?_
   conv => whnf
   refine arS_raw ?_
   conv => whnf
   refine ⟨((w64 (i_10 + 1))), h, ?_⟩
   exact Wk.mk2 [0, 1] 2 rfl rfl (by decide) rfl ⟨rr, rr, trivial⟩ ⟨rr, rr, rr, rr, rr, rr, rr, trivial⟩
  refine Tr.exit ?_
  conv => whnf
  refine ⟨(), h, ?_⟩
  exact Wk.mk2 [] 2 rfl rfl (by decide) rfl trivial ⟨rr, trivial⟩
 clear h
 rintro _ h T1 H1 hw
 replace h : M119 () = some r_6 := h
 conv => whnf
 refine Tr.weak hw ?_
 unfold M119 at h
 refine Tr.seq ?_
 refine Tr.region layOK ?_
 conv => whnf
 refine Tr.ret ?_
 conv => whnf
 cases h
 rfl
theorem P380 (f_1 : TField) (world_2 : Int) (x_3 : TOutcome) (runner_4 : Int) (r_5 : Int) (r_6 : Int) (h : M208 f_1 world_2 x_3 runner_4 = some (r_5, r_6)) :
    PC prog 36 [(eTField f_1), (.i .i64 world_2), (eTOutcome x_3), (.i .i64 runner_4)] (fun rs => rs = [(.i .i64 r_5), (.i .i64 r_6)]) := by
 refine PC.of_tr (cx := ⟨42, none, lay, 0⟩) layOK func36 rfl rfl rfl rfl rfl (by simp [f36]) ?_
 unfold M208 at h
 refine Tr.seq ?_
 refine Tr.region layOK ?_
 conv => whnf
 refine Tr.seq ?_
 refine Tr.region layOK ?_
 conv => whnf
 refine Tr.seq ?_
 refine Tr.region layOK ?_
 conv => whnf
 refine Tr.seq ?_
 refine Tr.seq ?_
 refine Tr.region layOK ?_
 conv => whnf
 obtain ⟨⟨best_14, worst_15⟩, hv32, h⟩ := bind_some h
 refine Tr.cutQ1 ([(8, (dI 0)), (9, (dI 0)), (10, (dI best_14)), (11, (dI worst_15))]) ([]) ?_ (fun T1 H1 hw => ?_)
 ·replace h := hv32; clear hv32
  refine Tr.block ?_
  refine Tr.loopM (σ := Int × Int × Int) (fun n s => M72 f_1 world_2 x_3 runner_4 n s.1 s.2.1 s.2.2) (best_14, worst_15) (fun s => ([(1, (dI world_2)), (3, (dI runner_4)), (4, .pt 0 0), (6, .pt 1 0), (8, (dI 0)), (9, (dI 0)), (10, (dI s.1)), (11, (dI s.2.1)), (12, (dI s.2.2))], [some (.var [.d (.ls (List.map eTSegment f_1.Clocks.Segments)), .d (.ls (List.map (eL eI) f_1.Clocks.Far)), .d (.ls (List.map eTPair f_1.Pairs)), .d (.ls (List.map eTRunner f_1.Runners))]), some (.var [.d (.b x_3.Out), (dI x_3.Seg), (dI x_3.Lo), (dI x_3.Hi)])])) (((((f_1.Runners).length : Int)) - 0 : Int).toNat + 1) (1, 1, 0) h (fun s => rfl) (Wk.mk2 [0, 1] 2 rfl rfl (by decide) rfl ⟨rr, rr, trivial⟩ ⟨rr, rr, rr, rr, rr, rr, rr, rr, rr, trivial⟩) ?_
  clear h
  rintro n_13 ⟨best_10, worst_11, i_12⟩ h
  replace h : M72 f_1 world_2 x_3 runner_4 (n_13 + 1) best_10 worst_11 i_12 = some (best_14, worst_15) := h
  rw [M72] at h
  refine Tr.seq ?_
  refine Tr.seq ?_
  refine Tr.region layOK ?_
  conv => whnf
  refine lnS_map ?_
  conv => whnf
  refine Tr.cond ?_
  conv => whnf
  refine condS_bif h (fun hb18 h => ?_) (fun hb18 h => ?_)
  ·refine Tr.skip ?_
   conv => whnf
   refine Tr.seq ?_
   obtain ⟨⟨best_19, worst_20⟩, hv21, h⟩ := bind_some h
   refine Tr.cutQ1 ([(1, (dI world_2)), (3, (dI runner_4)), (4, .pt 0 0), (6, .pt 1 0), (8, (dI 0)), (9, (dI 0)), (10, (dI best_19)), (11, (dI worst_20)), (12, (dI i_12))]) ([some (.var [.d (.ls (List.map eTSegment f_1.Clocks.Segments)), .d (.ls (List.map (eL eI) f_1.Clocks.Far)), .d (.ls (List.map eTPair f_1.Pairs)), .d (.ls (List.map eTRunner f_1.Runners))]), some (.var [.d (.b x_3.Out), (dI x_3.Seg), (dI x_3.Lo), (dI x_3.Hi)])]) ?_ (fun T1 H1 hw => ?_)
   ·replace h := hv21; clear hv21
    refine Tr.block ?_
    refine Tr.seq ?_
    refine Tr.seq ?_
    refine Tr.region layOK ?_
    conv => whnf
    refine Tr.cond ?_
    conv => whnf
    refine condS_bif h (fun hb22 h => ?_) (fun hb22 h => ?_)
    ·refine Tr.exit ?_
     conv => whnf
     cases h
     exact Wk.mk2 [0, 1] 2 rfl rfl (by decide) rfl ⟨rr, rr, trivial⟩ ⟨rr, rr, rr, rr, rr, rr, rr, rr, rr, trivial⟩
    refine Tr.skip ?_
    conv => whnf
    refine Tr.seq ?_
    refine Tr.seq ?_
    refine Tr.region layOK ?_
    conv => whnf
    obtain ⟨r_23, hc24, h⟩ := bind_some h
    refine PC.ecall (P386 f_1 world_2 x_3 runner_4 i_12 r_23 hc24) (fun rs hrs => ?_)
    subst hrs
    conv => whnf
    refine Tr.cond ?_
    conv => whnf
    refine condS_bif h (fun hb25 h => ?_) (fun hb25 h => ?_)
    ·refine Tr.region layOK ?_
     conv => whnf
     refine arS_raw ?_
     conv => whnf
     refine Tr.seq ?_
     refine Tr.region layOK ?_
     conv => whnf
     obtain ⟨r_26, hc27, h⟩ := bind_some h
     refine PC.ecall (P335 f_1 world_2 x_3 runner_4 i_12 r_26 hc27) (fun rs hrs => ?_)
     subst hrs
     conv => whnf
     refine Tr.cond ?_
     conv => whnf
     refine condS_bif h (fun hb28 h => ?_) (fun hb28 h => ?_)
     ·refine Tr.region layOK ?_
      conv => whnf
      refine arS_raw ?_
      conv => whnf
      cases h
      exact Wk.mk2 [0, 1] 2 rfl rfl (by decide) rfl ⟨rr, rr, trivial⟩ ⟨rr, rr, rr, rr, rr, rr, rr, rr, rr, trivial⟩
     refine Tr.skip ?_
     conv => whnf
     cases h
     exact Wk.mk2 [0, 1] 2 rfl rfl (by decide) rfl ⟨rr, rr, trivial⟩ ⟨rr, rr, rr, rr, rr, rr, rr, rr, rr, trivial⟩
    refine Tr.skip ?_
    conv => whnf
    refine Tr.seq ?_
    refine Tr.region layOK ?_
    conv => whnf
    obtain ⟨r_29, hc30, h⟩ := bind_some h
    refine PC.ecall (P335 f_1 world_2 x_3 runner_4 i_12 r_29 hc30) (fun rs hrs => ?_)
    subst hrs
    conv => whnf
    refine Tr.cond ?_
    conv => whnf
    refine condS_bif h (fun hb31 h => ?_) (fun hb31 h => ?_)
    ·refine Tr.region layOK ?_
     conv => whnf
     refine arS_raw ?_
     conv => whnf
     cases h
     exact Wk.mk2 [0, 1] 2 rfl rfl (by decide) rfl ⟨rr, rr, trivial⟩ ⟨rr, rr, rr, rr, rr, rr, rr, rr, rr, trivial⟩
    refine Tr.skip ?_
    conv => whnf
    cases h
    exact Wk.mk2 [0, 1] 2 rfl rfl (by decide) rfl ⟨rr, rr, trivial⟩ ⟨rr, rr, rr, rr, rr, rr, rr, rr, rr, trivial⟩
   clear hv21
   conv => whnf
   refine Tr.weak hw ?_
   refine Tr.region layOK ?_
   conv => whnf
   refine arS_raw ?_
   conv => whnf
   refine ⟨(best_19, worst_20, (w64 (i_12 + 1))), h, ?_⟩
   exact Wk.mk2 [0, 1] 2 rfl rfl (by decide) rfl ⟨rr, rr, trivial⟩ ⟨rr, rr, rr, rr, rr, rr, rr, rr, rr, trivial⟩
  refine Tr.exit ?_
  conv => whnf
  cases h
  exact Wk.mk2 [] 2 rfl rfl (by decide) rfl trivial ⟨rr, rr, rr, rr, trivial⟩
 clear hv32
 conv => whnf
 refine Tr.weak hw ?_
 refine Tr.seq ?_
 refine Tr.region layOK ?_
 conv => whnf
 refine Tr.ret ?_
 conv => whnf
 cases h
 rfl
theorem P368 (f_1 : TField) (runner_2 : Int) (r_3 : TRank) (r_4 : Int) (h : M150 f_1 runner_2 = some (r_3, r_4)) :
    PC prog 13 [(eTField f_1), (.i .i64 runner_2)] (fun rs => rs = [(eTRank r_3), (.i .i64 r_4)]) := by
 refine PC.of_tr (cx := ⟨106, none, lay, 0⟩) layOK func13 rfl rfl rfl rfl rfl (by simp [f13]) ?_
 unfold M150 at h
 refine Tr.seq ?_
 refine Tr.region layOK ?_
 conv => whnf
 refine Tr.seq ?_
 refine Tr.region layOK ?_
 conv => whnf
 obtain ⟨r_5, hc6, h⟩ := bind_some h
 refine PC.ecall (P396 f_1 runner_2 r_5 hc6) (fun rs hrs => ?_)
 subst hrs
 conv => whnf
 refine Tr.seq ?_
 refine Tr.seq ?_
 refine Tr.region layOK ?_
 conv => whnf
 refine Tr.cond ?_
 conv => whnf
 refine condS_bif h (fun hb7 h => ?_) (fun hb7 h => ?_)
 ·refine Tr.seq ?_
  refine Tr.region layOK ?_
  conv => whnf
  refine Tr.ret ?_
  conv => whnf
  cases h
  rfl
 refine Tr.skip ?_
 conv => whnf
 refine Tr.seq ?_
 refine Tr.region layOK ?_
 conv => whnf
 obtain ⟨x_8, hx_8, h⟩ := bind_some h
 refine ixP_of hx_8 ?_
 conv => whnf
 refine Tr.seq ?_
 refine Tr.seq ?_
 refine Tr.region layOK ?_
 conv => whnf
 obtain ⟨⟨v_18, v_19, v_20⟩, hv57, h⟩ := bind_some h
 refine Tr.cutQ1 ([(4, .pt 0 0), (5, (dI 0)), (7, .pt 1 0)]) ([some (.var [(dI 0), (dI 0), (dI 0), (dI 0), .d (.b false)]), some (.var [(dI x_8.Bib), (dI 0), (dI v_18), (dI v_19), .d (.b v_20)])]) ?_ (fun T1 H1 hw => ?_)
 ·replace h := hv57; clear hv57
  refine Tr.block ?_
  refine Tr.loopM (σ := Int × Int × Int × Bool) (fun n s => M86 f_1 runner_2 n s.1 s.2.1 s.2.2.1 s.2.2.2) (v_18, v_19, v_20) (fun s => ([(1, (dI runner_2)), (2, .pt 0 0), (4, .pt 1 0), (5, (dI 0)), (7, .pt 2 0), (8, (dI s.1))], [some (.var [.d (.ls (List.map eTSegment f_1.Clocks.Segments)), .d (.ls (List.map (eL eI) f_1.Clocks.Far)), .d (.ls (List.map eTPair f_1.Pairs)), .d (.ls (List.map eTRunner f_1.Runners))]), some (.var [(dI 0), (dI 0), (dI 0), (dI 0), .d (.b false)]), some (.var [(dI x_8.Bib), (dI 0), (dI s.2.1), (dI s.2.2.1), .d (.b s.2.2.2)])])) (((((f_1.Pairs).length : Int)) + 1 - 0 : Int).toNat + 1) (0, 0, 0, false) h (fun s => rfl) (Wk.mk2 [0, 1, 2] 3 rfl rfl (by decide) rfl ⟨rr, rr, rr, trivial⟩ ⟨rr, rr, rr, rr, rr, rr, trivial⟩) ?_
  clear h
  rintro n_17 ⟨w_13, v_14, v_15, v_16⟩ h
  replace h : M86 f_1 runner_2 (n_17 + 1) w_13 v_14 v_15 v_16 = some (v_18, v_19, v_20) := h
  rw [M86] at h
  refine Tr.seq ?_
  refine Tr.seq ?_
  refine Tr.region layOK ?_
  conv => whnf
  refine lnS_map ?_
  conv => whnf
  refine Tr.cond ?_
  conv => whnf
  refine condS_bif h (fun hb23 h => ?_) (fun hb23 h => ?_)
  ·refine Tr.skip ?_
   conv => whnf
   refine Tr.seq ?_
   refine Tr.block ?_
   refine Tr.seq ?_
   refine Tr.region layOK ?_
   conv => whnf
   obtain ⟨x_24, hx_24, h⟩ := bind_some h
   refine ixP_of hx_24 ?_
   conv => whnf
   obtain ⟨x_25, hx_25, h⟩ := bind_some h
   refine ixP_of hx_25 ?_
   conv => whnf
   refine Tr.seq ?_
   refine Tr.region layOK ?_
   conv => whnf
   obtain ⟨⟨v_35, v_36, v_37⟩, hv56, h⟩ := bind_some h
   refine Tr.cutQ1 ([(1, (dI runner_2)), (2, .pt 0 0), (4, .pt 1 0), (5, (dI 0)), (7, .pt 2 0), (8, (dI w_13))]) ([some (.var [.d (.ls (List.map eTSegment f_1.Clocks.Segments)), .d (.ls (List.map (eL eI) f_1.Clocks.Far)), .d (.ls (List.map eTPair f_1.Pairs)), .d (.ls (List.map eTRunner f_1.Runners))]), some (.var [(dI 0), (dI 0), (dI 0), (dI 0), .d (.b false)]), some (.var [(dI x_8.Bib), (dI 0), (dI v_35), (dI v_36), .d (.b v_37)])]) ?_ (fun T1 H1 hw => ?_)
   ·replace h := hv56; clear hv56
    refine Tr.block ?_
    refine Tr.loopM (σ := Int × Int × Int × Bool) (fun n s => M56 f_1 runner_2 w_13 x_25 n s.1 s.2.1 s.2.2.1 s.2.2.2) (v_35, v_36, v_37) (fun s => ([(1, (dI runner_2)), (2, .pt 0 0), (4, .pt 1 0), (5, (dI 0)), (7, .pt 2 0), (8, (dI w_13)), (9, .d (.ls (List.map eTOutcome x_25))), (10, (dI s.1))], [some (.var [.d (.ls (List.map eTSegment f_1.Clocks.Segments)), .d (.ls (List.map (eL eI) f_1.Clocks.Far)), .d (.ls (List.map eTPair f_1.Pairs)), .d (.ls (List.map eTRunner f_1.Runners))]), some (.var [(dI 0), (dI 0), (dI 0), (dI 0), .d (.b false)]), some (.var [(dI x_8.Bib), (dI 0), (dI s.2.1), (dI s.2.2.1), .d (.b s.2.2.2)])])) (((((x_25).length : Int)) - 0 : Int).toNat + 1) (0, v_14, v_15, v_16) h (fun s => rfl) (Wk.mk2 [0, 1, 2] 3 rfl rfl (by decide) rfl ⟨rr, rr, rr, trivial⟩ ⟨rr, rr, rr, rr, rr, rr, rr, rr, trivial⟩) ?_
    clear h
    rintro n_34 ⟨i_30, v_31, v_32, v_33⟩ h
    replace h : M56 f_1 runner_2 w_13 x_25 (n_34 + 1) i_30 v_31 v_32 v_33 = some (v_35, v_36, v_37) := h
    rw [M56] at h
    refine Tr.seq ?_
    refine Tr.seq ?_
    refine Tr.region layOK ?_
    conv => whnf
    refine lnS_map ?_
    conv => whnf
    refine condS_bif h (fun hb40 h => ?_) (fun hb40 h => ?_)
    ·conv => whnf
     obtain ⟨r_41, hc42, h⟩ := bind_some h
     refine PC.ecall (P336 f_1 w_13 r_41 hc42) (fun rs hrs => ?_)
     subst hrs
     conv => whnf
     refine Tr.cond ?_
     conv => whnf
     refine condS_bif h (fun hb43 h => ?_) (fun hb43 h => ?_)
     ·refine Tr.skip ?_
      conv => whnf
      refine Tr.seq ?_
      obtain ⟨⟨v_44, v_45, v_46⟩, hv47, h⟩ := bind_some h
      refine Tr.cutQ1 ([(1, (dI runner_2)), (2, .pt 0 0), (4, .pt 1 0), (5, (dI 0)), (7, .pt 2 0), (8, (dI w_13)), (9, .d (.ls (List.map eTOutcome x_25))), (10, (dI i_30))]) ([some (.var [.d (.ls (List.map eTSegment f_1.Clocks.Segments)), .d (.ls (List.map (eL eI) f_1.Clocks.Far)), .d (.ls (List.map eTPair f_1.Pairs)), .d (.ls (List.map eTRunner f_1.Runners))]), some (.var [(dI 0), (dI 0), (dI 0), (dI 0), .d (.b false)]), some (.var [(dI x_8.Bib), (dI 0), (dI v_44), (dI v_45), .d (.b v_46)])]) ?_ (fun T1 H1 hw => ?_)
      ·replace h := hv47; clear hv47
       refine Tr.block ?_
       refine Tr.seq ?_
       refine Tr.seq ?_
       refine Tr.region layOK ?_
       conv => whnf
       obtain ⟨x_48, hx_48, h⟩ := bind_some h
       refine ixP_of hx_48 ?_
       conv => whnf
       refine Tr.cond ?_
       conv => whnf
       refine condS_bif h (fun hb49 h => ?_) (fun hb49 h => ?_)
       ·refine Tr.seq ?_
        refine Tr.region layOK ?_
        conv => whnf
        refine Tr.exit ?_
        conv => whnf
        cases h
        exact Wk.mk2 [0, 1, 2] 3 rfl rfl (by decide) rfl ⟨rr, rr, rr, trivial⟩ ⟨rr, rr, rr, rr, rr, rr, rr, rr, trivial⟩
       refine Tr.skip ?_
       conv => whnf
       refine Tr.seq ?_
       refine Tr.draw (DrawP.seqQ layOK mixed [] [(0, 3), (1, 1), (2, 1), (3, 1), (4, 2), (5, 2), (6, 1), (7, 1), (8, 1), (9, 1), (10, 1), (11, 1), (12, 1)] (by kernel_rfl) ?_)
       conv => whnf
       refine ⟨_, ⟨rfl, rfl, rr⟩, ?_⟩
       conv => whnf
       refine ⟨_, (fun _ => rr), ?_⟩
       conv => whnf
       refine ⟨_, (fun _ => rr), ?_⟩
       conv => whnf
       refine ⟨_, (fun _ => rr), ?_⟩
       conv => whnf
       obtain ⟨x_50, hx_50, h⟩ := bind_some h
       refine ⟨_, ⟨rfl, rfl, (by (conv => whnf); (refine ixP_of hx_50 ?_); (conv => whnf); (exact rr))⟩, ?_⟩
       conv => whnf
       refine ⟨_, ⟨rfl, rfl, rr⟩, ?_⟩
       conv => whnf
       refine ⟨_, (fun _ => rr), ?_⟩
       conv => whnf
       obtain ⟨⟨r_51, r_52⟩, hc53, h⟩ := bind_some h
       refine ⟨_, (fun _ => by (conv => whnf); (refine PC.ecall (P380 f_1 w_13 x_50 runner_2 r_51 r_52 hc53) (fun rs hrs => ?_)); (subst hrs); (conv => whnf); (exact rr)), ?_⟩
       conv => whnf
       refine ⟨_, (fun _ => rr), ?_⟩
       conv => whnf
       refine ⟨_, (fun _ => rr), ?_⟩
       conv => whnf
       refine ⟨_, (fun _ => rr), ?_⟩
       conv => whnf
       refine ⟨_, (fun _ => rr), ?_⟩
       conv => whnf
       refine ⟨_, (fun _ => rr), ?_⟩
       conv => whnf
       refine Tr.seq ?_
       refine Tr.seq ?_
       refine Tr.region layOK ?_
       conv => whnf
       refine condS_bif h (fun hb54 h => ?_) (fun hb54 h => ?_)
       ·conv => whnf
        refine Tr.cond ?_
        conv => whnf
        refine Tr.region layOK ?_
        conv => whnf
        refine Tr.region layOK ?_
        conv => whnf
        cases h
        exact Wk.mk2 [0, 1, 2] 3 rfl rfl (by decide) rfl ⟨rr, rr, rr, trivial⟩ ⟨rr, rr, rr, rr, rr, rr, rr, rr, trivial⟩
       conv => whnf
       refine Tr.cond ?_
       conv => whnf
       refine condS_bif h (fun hb55 h => ?_) (fun hb55 h => ?_)
       ·refine Tr.region layOK ?_
        conv => whnf
        refine Tr.region layOK ?_
        conv => whnf
        cases h
        exact Wk.mk2 [0, 1, 2] 3 rfl rfl (by decide) rfl ⟨rr, rr, rr, trivial⟩ ⟨rr, rr, rr, rr, rr, rr, rr, rr, trivial⟩
       refine Tr.skip ?_
       conv => whnf
       refine Tr.region layOK ?_
       conv => whnf
       cases h
       exact Wk.mk2 [0, 1, 2] 3 rfl rfl (by decide) rfl ⟨rr, rr, rr, trivial⟩ ⟨rr, rr, rr, rr, rr, rr, rr, rr, trivial⟩
      clear hv47
      conv => whnf
      refine Tr.weak hw ?_
      refine Tr.region layOK ?_
      conv => whnf
      refine arS_raw ?_
      conv => whnf
      refine ⟨((w64 (i_30 + 1)), v_44, v_45, v_46), h, ?_⟩
      exact Wk.mk2 [0, 1, 2] 3 rfl rfl (by decide) rfl ⟨rr, rr, rr, trivial⟩ ⟨rr, rr, rr, rr, rr, rr, rr, rr, trivial⟩
     refine Tr.exit ?_
     conv => whnf
     cases h
     exact Wk.mk2 [0, 1, 2] 3 rfl rfl (by decide) rfl ⟨rr, rr, rr, trivial⟩ ⟨rr, rr, rr, rr, rr, rr, trivial⟩
    conv => whnf
    refine Tr.cond ?_
    conv => whnf
    refine Tr.exit ?_
    conv => whnf
    cases h
    exact Wk.mk2 [0, 1, 2] 3 rfl rfl (by decide) rfl ⟨rr, rr, rr, trivial⟩ ⟨rr, rr, rr, rr, rr, rr, trivial⟩
   clear hv56
   conv => whnf
   refine Tr.weak hw ?_
   refine Tr.region layOK ?_
   conv => whnf
   refine arS_raw ?_
   conv => whnf
   refine ⟨((w64 (w_13 + 1)), v_35, v_36, v_37), h, ?_⟩
   exact Wk.mk2 [0, 1, 2] 3 rfl rfl (by decide) rfl ⟨rr, rr, rr, trivial⟩ ⟨rr, rr, rr, rr, rr, rr, trivial⟩
  refine Tr.exit ?_
  conv => whnf
  cases h
  exact Wk.mk2 [1, 2] 3 rfl rfl (by decide) rfl ⟨rr, rr, trivial⟩ ⟨⟨rfl, (by first | rfl | (simp only [↓hb7, ↓hb23, bl]; done) | (simp only [↓hb7, ↓hb23, bl]; rfl))⟩, rr, ⟨rfl, (by first | rfl | (simp only [↓hb7, ↓hb23, bl]; done) | (simp only [↓hb7, ↓hb23, bl]; rfl))⟩, trivial⟩
 clear hv57
 conv => whnf
 refine Tr.weak hw ?_
 refine Tr.seq ?_
 refine Tr.cutQ1 ([(4, .pt 0 0), (5, (dI 0)), (7, .pt 1 0)]) ([some (.var [(dI 0), (dI 0), (dI 0), (dI 0), .d (.b false)]), some (.var [(dI x_8.Bib), (dI (bif (v_18 == 0) then 3 else (bif (v_18 == v_19) then (bif (!v_20) then 1 else 2) else 2))), (dI v_18), (dI v_19), .d (.b v_20)])]) ?_ (fun T1 H1 hw => ?_)
 ·refine Tr.block ?_
  refine Tr.seq ?_
  refine Tr.region layOK ?_
  conv => whnf
  refine Tr.cond ?_
  conv => whnf
  refine condS_mk (fun hb59 => ?_) (fun hb59 => ?_)
  ·refine Tr.region layOK ?_
   conv => whnf
   exact Wk.mk2 [0, 1] 2 rfl rfl (by decide) rfl ⟨rr, ⟨rfl, (by first | rfl | (simp only [↓hb7, ↓hb59, bl]; done) | (simp only [↓hb7, ↓hb59, bl]; rfl))⟩, trivial⟩ ⟨rr, rr, rr, trivial⟩
  refine Tr.seq ?_
  refine Tr.region layOK ?_
  conv => whnf
  refine condS_mk (fun hb60 => ?_) (fun hb60 => ?_)
  ·conv => whnf
   refine Tr.cond ?_
   conv => whnf
   refine condS_mk (fun hb61 => ?_) (fun hb61 => ?_)
   ·refine Tr.region layOK ?_
    conv => whnf
    exact Wk.mk2 [0, 1] 2 rfl rfl (by decide) rfl ⟨rr, ⟨rfl, (by first | rfl | (simp only [↓hb7, ↓hb59, ↓hb60, ↓hb61, bl]; done) | (simp only [↓hb7, ↓hb59, ↓hb60, ↓hb61, bl]; rfl))⟩, trivial⟩ ⟨rr, rr, rr, trivial⟩
   refine Tr.region layOK ?_
   conv => whnf
   exact Wk.mk2 [0, 1] 2 rfl rfl (by decide) rfl ⟨rr, ⟨rfl, (by first | rfl | (simp only [↓hb7, ↓hb59, ↓hb60, ↓hb61, bl]; done) | (simp only [↓hb7, ↓hb59, ↓hb60, ↓hb61, bl]; rfl))⟩, trivial⟩ ⟨rr, rr, rr, trivial⟩
  conv => whnf
  refine Tr.cond ?_
  conv => whnf
  refine Tr.region layOK ?_
  conv => whnf
  exact Wk.mk2 [0, 1] 2 rfl rfl (by decide) rfl ⟨rr, ⟨rfl, (by first | rfl | (simp only [↓hb7, ↓hb59, ↓hb60, bl]; done) | (simp only [↓hb7, ↓hb59, ↓hb60, bl]; rfl))⟩, trivial⟩ ⟨rr, rr, rr, trivial⟩
 conv => whnf
 refine Tr.weak hw ?_
 refine Tr.seq ?_
 refine Tr.region layOK ?_
 conv => whnf
 refine Tr.ret ?_
 conv => whnf
 cases h
 rfl
theorem P398 (f_1 : TField) (runner_2 : Int) (r_3 : Int) (h : M199 f_1 runner_2 = some r_3) :
    PC prog 12 [(eTField f_1), (.i .i64 runner_2)] (fun rs => rs = [(.i .i64 r_3)]) := by
 refine PC.of_tr (cx := ⟨19, none, lay, 0⟩) layOK func12 rfl rfl rfl rfl rfl (by simp [f12]) ?_
 unfold M199 at h
 refine Tr.seq ?_
 refine Tr.region layOK ?_
 conv => whnf
 refine Tr.seq ?_
 refine Tr.region layOK ?_
 conv => whnf
 obtain ⟨⟨r_4, r_5⟩, hc6, h⟩ := bind_some h
 refine PC.ecall (P368 f_1 runner_2 r_4 r_5 hc6) (fun rs hrs => ?_)
 subst hrs
 conv => whnf
 refine Tr.seq ?_
 refine Tr.seq ?_
 refine Tr.region layOK ?_
 conv => whnf
 refine Tr.cond ?_
 conv => whnf
 refine condS_bif h (fun hb7 h => ?_) (fun hb7 h => ?_)
 ·refine Tr.seq ?_
  refine Tr.region layOK ?_
  conv => whnf
  refine Tr.ret ?_
  conv => whnf
  cases h
  rfl
 refine Tr.skip ?_
 conv => whnf
 refine Tr.seq ?_
 refine Tr.seq ?_
 refine Tr.region layOK ?_
 conv => whnf
 refine Tr.cond ?_
 conv => whnf
 refine condS_bif h (fun hb8 h => ?_) (fun hb8 h => ?_)
 ·refine Tr.seq ?_
  refine Tr.region layOK ?_
  conv => whnf
  refine Tr.ret ?_
  conv => whnf
  cases h
  rfl
 refine Tr.skip ?_
 conv => whnf
 refine Tr.seq ?_
 refine Tr.region layOK ?_
 conv => whnf
 refine Tr.ret ?_
 conv => whnf
 cases h
 rfl
theorem P352 (f_1 : TField) (runner_2 : Int) (r_3 : Bool) (h : M195 f_1 runner_2 = some r_3) :
    PC prog 3 [(eTField f_1), (.i .i64 runner_2)] (fun rs => rs = [(.b r_3)]) := by
 refine PC.of_tr (cx := ⟨52, none, lay, 0⟩) layOK func3 rfl rfl rfl rfl rfl (by simp [f3]) ?_
 unfold M195 at h
 refine Tr.seq ?_
 refine Tr.region layOK ?_
 conv => whnf
 refine Tr.seq ?_
 refine Tr.seq ?_
 refine Tr.region layOK ?_
 conv => whnf
 obtain ⟨r_4, hc5, h⟩ := bind_some h
 refine PC.ecall (P403 r_4 hc5) (fun rs hrs => ?_)
 subst hrs
 conv => whnf
 refine Tr.cond ?_
 conv => whnf
 refine condS_bif h (fun hb6 h => ?_) (fun hb6 h => ?_)
 ·refine Tr.seq ?_
  refine Tr.region layOK ?_
  conv => whnf
  refine Tr.ret ?_
  conv => whnf
  cases h
  rfl
 refine Tr.skip ?_
 conv => whnf
 refine Tr.seq ?_
 refine Tr.seq ?_
 refine Tr.region layOK ?_
 conv => whnf
 obtain ⟨r_7, hc8, h⟩ := bind_some h
 refine PC.ecall (P413 f_1 r_7 hc8) (fun rs hrs => ?_)
 subst hrs
 conv => whnf
 refine Tr.cond ?_
 conv => whnf
 refine condS_bif h (fun hb9 h => ?_) (fun hb9 h => ?_)
 ·refine Tr.seq ?_
  refine Tr.region layOK ?_
  conv => whnf
  refine Tr.ret ?_
  conv => whnf
  cases h
  rfl
 refine Tr.skip ?_
 conv => whnf
 refine Tr.seq ?_
 refine Tr.seq ?_
 refine Tr.region layOK ?_
 conv => whnf
 refine orB_r ?_
 conv => whnf
 refine lnS_map (f := eI) (l := (([runner_2, 0, 1] : List Int))) ?_
 conv => whnf
 refine Tr.cutQ (α := Unit) (fun s => ([(4, .d (.b false))], [])) (fun s => M98 s = some r_3) ?_ ?_
 ·refine Tr.block ?_
  refine Tr.loopM (σ := Int) (fun n s => M39 f_1 runner_2 M98 n s) r_3 (fun s => ([(2, .pt 0 0), (4, .d (.b false)), (17, .d (.ls (List.map eI (([runner_2, 0, 1] : List Int))))), (18, (dI 3)), (19, (dI s))], [some (.var [.d (.ls (List.map eTSegment f_1.Clocks.Segments)), .d (.ls (List.map (eL eI) f_1.Clocks.Far)), .d (.ls (List.map eTPair f_1.Pairs)), .d (.ls (List.map eTRunner f_1.Runners))])])) ((3 - 0 : Int).toNat + 1) (0) h (fun s => rfl) (Wk.mk2 [0] 1 rfl rfl (by decide) rfl ⟨rr, trivial⟩ ⟨rr, rr, rr, rr, rr, trivial⟩) ?_
  clear h
  rintro n_12 v_11 h
  replace h : M39 f_1 runner_2 M98 (n_12 + 1) v_11 = some r_3 := h
  rw [M39] at h
  refine Tr.seq ?_
  refine Tr.region layOK ?_
  conv => whnf
  refine Tr.seq ?_
  refine Tr.cond ?_
  conv => whnf
  refine condS_bif h (fun hb15 h => ?_) (fun hb15 h => ?_)
  ·refine Tr.skip ?_
   conv => whnf
   refine Tr.seq ?_
   refine Tr.block ?_
   refine Tr.seq ?_
   refine Tr.region layOK ?_
   conv => whnf
   obtain ⟨x_16, hx_16, h⟩ := bind_some h
   refine ixP_of hx_16 ?_
   conv => whnf
   refine Tr.seq ?_
   refine Tr.region layOK ?_
   conv => whnf
   obtain ⟨⟨r_17, r_18⟩, hc19, h⟩ := bind_some h
   refine PC.ecall (P334 f_1 x_16 r_17 r_18 hc19) (fun rs hrs => ?_)
   subst hrs
   conv => whnf
   refine Tr.seq ?_
   refine Tr.seq ?_
   refine Tr.region layOK ?_
   conv => whnf
   obtain ⟨r_20, hc21, h⟩ := bind_some h
   refine PC.ecall (P398 f_1 x_16 r_20 hc21) (fun rs hrs => ?_)
   subst hrs
   conv => whnf
   refine Tr.cond ?_
   conv => whnf
   refine condS_bif h (fun hb22 h => ?_) (fun hb22 h => ?_)
   ·refine Tr.seq ?_
    refine Tr.region layOK ?_
    conv => whnf
    refine Tr.ret ?_
    conv => whnf
    cases h
    rfl
   refine Tr.skip ?_
   conv => whnf
   refine Tr.seq ?_
   refine Tr.seq ?_
   refine Tr.region layOK ?_
   conv => whnf
   refine Tr.cond ?_
   conv => whnf
   refine condS_bif h (fun hb23 h => ?_) (fun hb23 h => ?_)
   ·refine Tr.exit ?_
    conv => whnf
    refine Tr.region layOK ?_
    conv => whnf
    refine arS_raw ?_
    conv => whnf
    refine ⟨((w64 (v_11 + 1))), h, ?_⟩
    exact Wk.mk2 [0] 2 rfl rfl (by decide) rfl ⟨rr, trivial⟩ ⟨rr, rr, rr, rr, rr, trivial⟩
   refine Tr.skip ?_
   conv => whnf
   refine Tr.seq ?_
   refine Tr.region layOK ?_
   conv => whnf
   obtain ⟨⟨r_24, r_25⟩, hc26, h⟩ := bind_some h
   refine PC.ecall (P368 f_1 x_16 r_24 r_25 hc26) (fun rs hrs => ?_)
   subst hrs
   conv => whnf
   refine Tr.seq ?_
   refine Tr.region layOK ?_
   conv => whnf
   refine condS_bif h (fun hb27 h => ?_) (fun hb27 h => ?_)
   ·conv => whnf
    refine Tr.cond ?_
    conv => whnf
    refine Tr.seq ?_
    refine Tr.region layOK ?_
    conv => whnf
    refine Tr.ret ?_
    conv => whnf
    cases h
    rfl
   conv => whnf
   obtain ⟨r_28, hc29, h⟩ := bind_some h
   refine PC.ecall (P351 f_1 r_24 r_17 r_28 hc29) (fun rs hrs => ?_)
   subst hrs
   conv => whnf
   refine Tr.cond ?_
   conv => whnf
   refine condS_bif h (fun hb30 h => ?_) (fun hb30 h => ?_)
   ·refine Tr.seq ?_
    refine Tr.region layOK ?_
    conv => whnf
    refine Tr.ret ?_
    conv => whnf
    cases h
    rfl
   refine Tr.skip ?_
   conv => whnf
   refine Tr.region layOK ?_
   conv => whnf
   refine arS_raw ?_
   conv => whnf
   refine ⟨((w64 (v_11 + 1))), h, ?_⟩
   exact Wk.mk2 [0] 3 rfl rfl (by decide) rfl ⟨rr, trivial⟩ ⟨rr, rr, rr, rr, rr, trivial⟩
  refine Tr.exit ?_
  conv => whnf
  refine ⟨(), h, ?_⟩
  exact Wk.mk2 [] 1 rfl rfl (by decide) rfl trivial ⟨rr, trivial⟩
 clear h
 rintro _ h T1 H1 hw
 replace h : M98 () = some r_3 := h
 conv => whnf
 refine Tr.weak hw ?_
 unfold M98 at h
 refine Tr.seq ?_
 refine Tr.region layOK ?_
 conv => whnf
 refine Tr.ret ?_
 conv => whnf
 cases h
 rfl
end Go.Proofs.Tryz
