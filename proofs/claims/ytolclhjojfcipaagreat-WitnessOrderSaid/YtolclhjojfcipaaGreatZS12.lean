/- Contracts of functions, by program (gen.py). No condition. -/
import Derived.Test.YtolclhjojfcipaaGreatZL
import Derived.Test.YtolclhjojfcipaaGreatZM
import Derived.Test.YtolclhjojfcipaaGreatZS11
namespace Go.Proofs.Tryz
open Go Go.Abs Go.Stop
set_option maxRecDepth 8000
set_option linter.unusedVariables false
set_option linter.unusedSimpArgs false
theorem P297 (h_1 : THistory) (r_2 : Bool) (h : M297 h_1 = some r_2) :
    PC prog 15 [(eTHistory h_1)] (fun rs => rs = [(.b r_2)]) := by
 refine PC.of_tr (cx := ⟨13, none, lay, 0⟩) layOK func15 rfl rfl rfl rfl rfl (by simp [f15]) ?_
 unfold M297 at h
 refine Tr.seq ?_
 refine rg ?_
 conv => whnf
 refine Tr.seq ?_
 refine rg ?_
 conv => whnf
 refine lnS_map ?_
 conv => whnf
 refine cB h (fun hb3 h => ?_) (fun hb3 h => ?_)
 ·conv => whnf
  refine lnS_map ?_
  conv => whnf
  refine Tr.ret ?_
  conv => whnf
  cases h
  rfl
 conv => whnf
 refine Tr.ret ?_
 conv => whnf
 cases h
 rfl
theorem P311 (f_1 : TField) (h_2 : THistory) (at_3 : Int) (r_4 : Bool) (h : M311 f_1 h_2 at_3 = some r_4) :
    PC prog 8 [(eTField f_1), (eTHistory h_2), (.i .u8 at_3)] (fun rs => rs = [(.b r_4)]) := by
 refine PC.of_tr (cx := ⟨131, none, lay, 0⟩) layOK func8 rfl rfl rfl rfl rfl (by simp [f8]) ?_
 unfold M311 at h
 refine Tr.seq ?_
 refine rg ?_
 conv => whnf
 refine Tr.seq ?_
 refine Tr.seq ?_
 refine rg ?_
 conv => whnf
 obtain ⟨r_5, hc6, h⟩ := bS h
 refine PC.ecall (P271 r_5 hc6) (fun rs hrs => ?_)
 subst hrs
 conv => whnf
 refine Tr.cond ?_
 conv => whnf
 refine cB h (fun hb7 h => ?_) (fun hb7 h => ?_)
 ·refine Tr.seq ?_
  refine rg ?_
  conv => whnf
  refine Tr.ret ?_
  conv => whnf
  cases h
  rfl
 refine Tr.skip ?_
 conv => whnf
 refine Tr.seq ?_
 refine Tr.seq ?_
 obtain ⟨v_8, hv9, h⟩ := bS h
 refine Tr.cutQ1 ([(2, .d (.i .u8 at_3)), (3, .pt 0 0), (4, .pt 1 0), (6, .d (.b false)), (35, .d (.b v_8))]) ([some (.var [.d (.ls (List.map eTSegment f_1.Clocks.Segments)), .d (.ls (List.map (eL eI) f_1.Clocks.Far)), .d (.ls (List.map eTPair f_1.Pairs)), .d (.ls (List.map eTRunner f_1.Runners))]), some (.var [(dI h_2.World), .d (.ls (List.map eI h_2.Offsets)), .d (.ls (List.map eTChoice h_2.Choices))])]) ?_ (fun T1 H1 hw => ?_)
 ·replace h := hv9; clear hv9
  refine rg ?_
  conv => whnf
  obtain ⟨r_10, hc11, h⟩ := bS h
  refine PC.ecall (P278 f_1 r_10 hc11) (fun rs hrs => ?_)
  subst hrs
  conv => whnf
  refine cB h (fun hb12 h => ?_) (fun hb12 h => ?_)
  ·conv => whnf
   cases h
   exact Wk.mk2 [0, 1] 2 rfl rfl (by decide) rfl ⟨rr, rr, trivial⟩ ⟨rr, rr, rr, rr, rr, trivial⟩
  conv => whnf
  obtain ⟨r_13, hc14, h⟩ := bS h
  refine PC.ecall (P297 h_2 r_13 hc14) (fun rs hrs => ?_)
  subst hrs
  conv => whnf
  refine cB h (fun hb15 h => ?_) (fun hb15 h => ?_)
  ·conv => whnf
   cases h
   exact Wk.mk2 [0, 1] 2 rfl rfl (by decide) rfl ⟨rr, rr, trivial⟩ ⟨rr, rr, rr, rr, rr, trivial⟩
  conv => whnf
  obtain ⟨r_16, hc17, h⟩ := bS h
  refine PC.ecall (P160 f_1 r_16 hc17) (fun rs hrs => ?_)
  subst hrs
  conv => whnf
  refine cB h (fun hb18 h => ?_) (fun hb18 h => ?_)
  ·conv => whnf
   cases h
   exact Wk.mk2 [0, 1] 2 rfl rfl (by decide) rfl ⟨rr, rr, trivial⟩ ⟨rr, rr, rr, rr, rr, trivial⟩
  conv => whnf
  obtain ⟨r_19, hc20, h⟩ := bS h
  refine PC.ecall (P239 f_1 h_2 r_19 hc20) (fun rs hrs => ?_)
  subst hrs
  conv => whnf
  cases h
  exact Wk.mk2 [0, 1] 2 rfl rfl (by decide) rfl ⟨rr, rr, trivial⟩ ⟨rr, rr, rr, rr, rr, trivial⟩
 clear hv9
 conv => whnf
 refine Tr.weak hw ?_
 refine Tr.cond ?_
 conv => whnf
 refine cB h (fun hb21 h => ?_) (fun hb21 h => ?_)
 ·refine Tr.seq ?_
  refine rg ?_
  conv => whnf
  refine Tr.ret ?_
  conv => whnf
  cases h
  rfl
 refine Tr.skip ?_
 conv => whnf
 refine Tr.seq ?_
 refine rg ?_
 conv => whnf
 obtain ⟨⟨r_22, r_23⟩, hc24, h⟩ := bS h
 refine PC.ecall (P250 f_1 h_2 r_22 r_23 hc24) (fun rs hrs => ?_)
 subst hrs
 conv => whnf
 refine Tr.seq ?_
 refine Tr.seq ?_
 refine rg ?_
 conv => whnf
 refine cB h (fun hb25 h => ?_) (fun hb25 h => ?_)
 ·conv => whnf
  refine Tr.cond ?_
  conv => whnf
  refine Tr.seq ?_
  refine rg ?_
  conv => whnf
  refine Tr.ret ?_
  conv => whnf
  cases h
  rfl
 conv => whnf
 refine lnS_map ?_
 conv => whnf
 refine lnS_map ?_
 conv => whnf
 refine cB h (fun hb26 h => ?_) (fun hb26 h => ?_)
 ·conv => whnf
  refine Tr.cond ?_
  conv => whnf
  refine Tr.seq ?_
  refine rg ?_
  conv => whnf
  refine Tr.ret ?_
  conv => whnf
  cases h
  rfl
 conv => whnf
 obtain ⟨r_27, hc28, h⟩ := bS h
 refine PC.ecall (P270 f_1 h_2 r_22 r_27 hc28) (fun rs hrs => ?_)
 subst hrs
 conv => whnf
 refine Tr.cond ?_
 conv => whnf
 refine cB h (fun hb29 h => ?_) (fun hb29 h => ?_)
 ·refine Tr.seq ?_
  refine rg ?_
  conv => whnf
  refine Tr.ret ?_
  conv => whnf
  cases h
  rfl
 refine Tr.skip ?_
 conv => whnf
 refine Tr.seq ?_
 refine Tr.seq ?_
 refine rg ?_
 conv => whnf
 refine lnS_map ?_
 conv => whnf
 refine Tr.cond ?_
 conv => whnf
 refine cB h (fun hb30 h => ?_) (fun hb30 h => ?_)
 ·refine Tr.seq ?_
  refine rg ?_
  conv => whnf
  refine Tr.ret ?_
  conv => whnf
  cases h
  rfl
 refine Tr.skip ?_
 conv => whnf
 refine Tr.seq ?_
 refine rg ?_
 conv => whnf
 refine arS_raw ?_
 conv => whnf
 refine lnS_map ?_
 conv => whnf
 refine arS_raw ?_
 conv => whnf
 obtain ⟨u_31, hu_31, h⟩ := bS h
 refine neS_mk (nz_ne hu_31) ?_
 conv => whnf
 refine Tr.seq ?_
 refine rg ?_
 conv => whnf
 refine orB_l ?_
 conv => whnf
 refine frP_no ?_
 conv => whnf
 refine eqS_mk (by first | rfl | simp) ?_
 conv => whnf
 obtain ⟨l_32, hl_32, h⟩ := bS h
 refine apS_of hl_32 (aQ (f := eI) (l := r_22) fun _ => rfl) (by first | rfl | simp) (by first | rfl | simp) (fun he => ?_)
 conv => whnf
 refine rS (es' := List.map .d (List.map eI l_32)) (n' := List.length l_32) (by subst he; simp only [List.map_append, List.map_cons, List.map_nil, List.nil_append]; first | done | rfl) (by subst he; simp <;> omega) ?_
 clear he
 conv => whnf
 refine Tr.seq ?_
 refine Tr.draw (DrawP.seqQ layOK mixed [(15, 3), (17, 3)] [(0, 1), (1, 1), (2, 1), (3, 1), (4, 1), (5, 1), (6, 1), (7, 1), (8, 6), (9, 6), (10, 1), (11, 1), (12, 6), (13, 6), (14, 6), (15, 0), (16, 6), (17, 0)] (by kernel_rfl) ?_)
 conv => whnf
 refine ⟨_, (fun _ => rr), ?_⟩
 conv => whnf
 refine ⟨_, (fun _ => rr), ?_⟩
 conv => whnf
 refine ⟨_, (fun _ => rr), ?_⟩
 conv => whnf
 refine ⟨_, (fun _ => rr), ?_⟩
 conv => whnf
 refine ⟨_, (fun _ => by (conv => whnf); (refine arS_raw ?_); (conv => whnf); (exact rr)), ?_⟩
 conv => whnf
 refine ⟨_, (fun _ => rr), ?_⟩
 conv => whnf
 refine ⟨_, (fun _ => rr), ?_⟩
 conv => whnf
 refine ⟨_, (fun _ => by (conv => whnf); (refine arS_raw ?_); (conv => whnf); (exact rr)), ?_⟩
 conv => whnf
 obtain ⟨x_33, hx_33, h⟩ := bS h
 refine ⟨_, ⟨rfl, rfl, (by (conv => whnf); (refine ixS_of hx_33 rfl ?_); (conv => whnf); (exact rr))⟩, ?_⟩
 conv => whnf
 refine ⟨_, ⟨rfl, rfl, (by (conv => whnf); (refine elP_of hx_33 ?_); (conv => whnf); (exact rr))⟩, ?_⟩
 conv => whnf
 refine ⟨_, (fun _ => rr), ?_⟩
 conv => whnf
 refine ⟨_, (fun _ => rr), ?_⟩
 conv => whnf
 obtain ⟨x_34, hx_34, h⟩ := bS h
 refine ⟨_, ⟨rfl, rfl, (by (conv => whnf); (refine ixS_of hx_34 rfl ?_); (conv => whnf); (exact rr))⟩, ?_⟩
 conv => whnf
 refine ⟨_, ⟨rfl, rfl, (by (conv => whnf); (refine elP_of hx_34 ?_); (conv => whnf); (exact rr))⟩, ?_⟩
 conv => whnf
 obtain ⟨x_35, hx_35, h⟩ := bS h
 refine ⟨_, ⟨rfl, rfl, (by (conv => whnf); (refine ixS_of hx_35 rfl ?_); (conv => whnf); (exact rr))⟩, ?_⟩
 conv => whnf
 refine ⟨_, _, (by (conv => whnf); (refine elP_of hx_35 ?_); (conv => whnf); (refine lvS_mk (es' := List.map .d (List.map eI (List.set l_32 (Int.toNat (Int.tmod (w64 at_3) (w64 ((((r_22).length : Int)) - 1)))) x_33))) (by simp only [Nat.zero_add, List.map_set]; first | done | rfl) ?_); (conv => whnf); (exact rr)), kp_ok (by repeat (first | exact trivial | refine ⟨trivial, ?_⟩ | refine ⟨rfl, ?_⟩)), ?_⟩
 conv => whnf
 obtain ⟨x_36, hx_36, h⟩ := bS h
 refine ⟨_, ⟨rfl, rfl, (by (conv => whnf); (refine ixS_of hx_36 (by first | rfl | simp) ?_); (conv => whnf); (exact rr))⟩, ?_⟩
 conv => whnf
 refine ⟨_, _, (by (conv => whnf); (refine elP_of hx_36 ?_); (conv => whnf); (refine lvS_mk (es' := List.map .d (List.map eI (List.set (List.set l_32 (Int.toNat (Int.tmod (w64 at_3) (w64 ((((r_22).length : Int)) - 1)))) x_33) (Int.toNat (w64 ((Int.tmod (w64 at_3) (w64 ((((r_22).length : Int)) - 1))) + 1))) x_34))) (by simp only [Nat.zero_add, List.map_set]; first | done | rfl) ?_); (conv => whnf); (exact rr)), kp_ok (by repeat (first | exact trivial | refine ⟨trivial, ?_⟩ | refine ⟨rfl, ?_⟩)), ?_⟩
 conv => whnf
 refine Tr.seq ?_
 refine Tr.draw (DrawP.seqQ layOK mixed [] [(0, 3), (1, 4), (2, 1), (3, 1), (4, 2), (5, 2), (6, 1), (7, 1), (8, 1), (9, 1), (10, 1), (11, 1)] (by kernel_rfl) ?_)
 conv => whnf
 refine ⟨_, ⟨rfl, rfl, rr⟩, ?_⟩
 conv => whnf
 refine ⟨_, ⟨rfl, rfl, rr⟩, ?_⟩
 conv => whnf
 refine ⟨_, (fun _ => rr), ?_⟩
 conv => whnf
 refine ⟨_, (fun _ => rr), ?_⟩
 conv => whnf
 obtain ⟨x_37, hx_37, h⟩ := bS h
 refine ⟨_, ⟨rfl, rfl, (by (conv => whnf); (refine ixP_of hx_37 ?_); (conv => whnf); (exact rr))⟩, ?_⟩
 conv => whnf
 refine ⟨_, ⟨rfl, rfl, rr⟩, ?_⟩
 conv => whnf
 obtain ⟨⟨r_38, r_39⟩, hc40, h⟩ := bS h
 refine ⟨_, (fun _ => by (conv => whnf); (refine PC.ecall (P219 f_1 h_2 x_37 r_38 r_39 hc40) (fun rs hrs => ?_)); (subst hrs); (conv => whnf); (exact rr)), ?_⟩
 conv => whnf
 refine ⟨_, (fun _ => rr), ?_⟩
 conv => whnf
 refine ⟨_, (fun _ => rr), ?_⟩
 conv => whnf
 refine ⟨_, (fun _ => rr), ?_⟩
 conv => whnf
 refine ⟨_, (fun _ => rr), ?_⟩
 conv => whnf
 refine ⟨_, (fun _ => rr), ?_⟩
 conv => whnf
 refine Tr.seq ?_
 refine Tr.draw (DrawP.seqQ layOK mixed [] [(0, 3), (1, 4), (2, 1), (3, 1), (4, 1), (5, 2), (6, 2), (7, 1), (8, 1), (9, 1), (10, 1), (11, 1), (12, 1)] (by kernel_rfl) ?_)
 conv => whnf
 refine ⟨_, ⟨rfl, rfl, rr⟩, ?_⟩
 conv => whnf
 refine ⟨_, ⟨rfl, rfl, rr⟩, ?_⟩
 conv => whnf
 refine ⟨_, (fun _ => rr), ?_⟩
 conv => whnf
 refine ⟨_, (fun _ => rr), ?_⟩
 conv => whnf
 refine ⟨_, (fun _ => by (conv => whnf); (refine arS_raw ?_); (conv => whnf); (exact rr)), ?_⟩
 conv => whnf
 obtain ⟨x_41, hx_41, h⟩ := bS h
 refine ⟨_, ⟨rfl, rfl, (by (conv => whnf); (refine ixP_of hx_41 ?_); (conv => whnf); (exact rr))⟩, ?_⟩
 conv => whnf
 refine ⟨_, ⟨rfl, rfl, rr⟩, ?_⟩
 conv => whnf
 obtain ⟨⟨r_42, r_43⟩, hc44, h⟩ := bS h
 refine ⟨_, (fun _ => by (conv => whnf); (refine PC.ecall (P219 f_1 h_2 x_41 r_42 r_43 hc44) (fun rs hrs => ?_)); (subst hrs); (conv => whnf); (exact rr)), ?_⟩
 conv => whnf
 refine ⟨_, (fun _ => rr), ?_⟩
 conv => whnf
 refine ⟨_, (fun _ => rr), ?_⟩
 conv => whnf
 refine ⟨_, (fun _ => rr), ?_⟩
 conv => whnf
 refine ⟨_, (fun _ => rr), ?_⟩
 conv => whnf
 refine ⟨_, (fun _ => rr), ?_⟩
 conv => whnf
 refine Tr.seq ?_
 refine Tr.seq ?_
 refine rg ?_
 conv => whnf
 refine cB h (fun hb45 h => ?_) (fun hb45 h => ?_)
 ·conv => whnf
  refine Tr.cond ?_
  conv => whnf
  refine Tr.seq ?_
  refine rg ?_
  conv => whnf
  refine Tr.ret ?_
  conv => whnf
  cases h
  rfl
 conv => whnf
 refine Tr.cond ?_
 conv => whnf
 refine cB h (fun hb46 h => ?_) (fun hb46 h => ?_)
 ·refine Tr.seq ?_
  refine rg ?_
  conv => whnf
  refine Tr.ret ?_
  conv => whnf
  cases h
  rfl
 refine Tr.skip ?_
 conv => whnf
 refine Tr.seq ?_
 refine Tr.draw (DrawP.seqQ layOK mixed [] [(0, 3), (1, 4), (2, 1), (5, 1), (6, 1), (7, 1), (3, 0), (4, 1), (8, 1), (9, 1), (10, 3), (11, 4), (12, 1), (13, 1), (14, 1), (15, 1), (16, 1), (17, 1)] (by kernel_rfl) ?_)
 conv => whnf
 refine ⟨_, ⟨rfl, rfl, rr⟩, ?_⟩
 conv => whnf
 refine ⟨_, ⟨rfl, rfl, rr⟩, ?_⟩
 conv => whnf
 refine ⟨_, (fun _ => rr), ?_⟩
 conv => whnf
 refine ⟨_, (fun _ => rr), ?_⟩
 conv => whnf
 refine ⟨_, (fun _ => rr), ?_⟩
 conv => whnf
 refine ⟨_, (fun _ => rr), ?_⟩
 conv => whnf
 obtain ⟨r_47, hc48, h⟩ := bS h
 refine ⟨_, _, (by (conv => whnf); (refine PC.ecall_lend ?_ ⟨_, _, func16, rfl, rfl⟩); (conv => whnf); (refine frE_of (f := eI) (l := (List.set (List.set l_32 (Int.toNat (Int.tmod (w64 at_3) (w64 ((((r_22).length : Int)) - 1)))) x_33) (Int.toNat (w64 ((Int.tmod (w64 at_3) (w64 ((((r_22).length : Int)) - 1))) + 1))) x_34)) (by first | rfl | simp) ?_); (conv => whnf); (refine ⟨_, P270 f_1 h_2 ((List.set (List.set l_32 (Int.toNat (Int.tmod (w64 at_3) (w64 ((((r_22).length : Int)) - 1)))) x_33) (Int.toNat (w64 ((Int.tmod (w64 at_3) (w64 ((((r_22).length : Int)) - 1))) + 1))) x_34)) r_47 hc48, fun rs hrs => ?_⟩); (subst hrs); (refine ⟨rfl, ?_⟩); (conv => whnf); (exact rr)), kp_ok (by repeat (first | exact trivial | refine ⟨trivial, ?_⟩ | refine ⟨rfl, ?_⟩)), ?_⟩
 conv => whnf
 refine ⟨_, (fun _ => rr), ?_⟩
 conv => whnf
 refine ⟨_, (fun _ => rr), ?_⟩
 conv => whnf
 refine ⟨_, (fun _ => rr), ?_⟩
 conv => whnf
 refine cB h (fun hb49 h => ?_) (fun hb49 h => ?_)
 ·conv => whnf
  refine ⟨_, ⟨rfl, rfl, rr⟩, ?_⟩
  conv => whnf
  refine ⟨_, ⟨rfl, rfl, rr⟩, ?_⟩
  conv => whnf
  refine ⟨_, (fun _ => rr), ?_⟩
  conv => whnf
  obtain ⟨l_50, hl_50, h⟩ := bS h
  refine ⟨_, (fun _ => by (conv => whnf); (refine szS_mk (szq_map fun _ => rfl) ?_); (conv => whnf); (refine slS_from hl_50 (by simp) rfl (fun he => ?_)); (conv => whnf); (refine lsS_mk (es' := List.map eI l_50) (by subst he; simp [List.map_take, List.map_drop]) ?_); (clear he); (conv => whnf); (exact rr)), ?_⟩
  conv => whnf
  obtain ⟨r_51, hc52, h⟩ := bS h
  refine ⟨_, (fun _ => by (conv => whnf); (refine PC.ecall (P270 f_1 h_2 l_50 r_51 hc52) (fun rs hrs => ?_)); (subst hrs); (conv => whnf); (exact rr)), ?_⟩
  conv => whnf
  refine ⟨_, (fun _ => rr), ?_⟩
  conv => whnf
  refine ⟨_, (fun _ => rr), ?_⟩
  conv => whnf
  refine ⟨_, (fun _ => rr), ?_⟩
  conv => whnf
  refine Tr.ret ?_
  conv => whnf
  cases h
  rfl
 conv => whnf
 refine ⟨_, (fun _ => rr), ?_⟩
 conv => whnf
 refine ⟨_, (fun _ => rr), ?_⟩
 conv => whnf
 refine Tr.ret ?_
 conv => whnf
 cases h
 rfl
end Go.Proofs.Tryz
