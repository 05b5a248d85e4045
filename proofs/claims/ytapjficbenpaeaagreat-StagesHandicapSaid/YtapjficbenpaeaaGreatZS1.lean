/- Contracts of functions, by program (gen.py). No condition. -/
import Derived.Test.YtapjficbenpaeaaGreatZL
import Derived.Test.YtapjficbenpaeaaGreatZM
namespace Go.Proofs.Tryz
open Go Go.Abs Go.Stop
set_option maxRecDepth 8000
set_option linter.unusedVariables false
set_option linter.unusedSimpArgs false
theorem P1000 (lo_1 : Int) (hi_2 : Int) (r_3 : TOutcome) (h : M1000 lo_1 hi_2 = some r_3) :
    PC prog 34 [(.i .i64 lo_1), (.i .i64 hi_2)] (fun rs => rs = [(eTOutcome r_3)]) := by
 refine PC.of_tr (cx := ⟨8, none, lay, 0⟩) layOK func34 rfl rfl rfl rfl rfl (by simp [f34]) ?_
 unfold M1000 at h
 refine Tr.seq ?_
 refine rg ?_
 conv => whnf
 refine Tr.seq ?_
 refine rg ?_
 conv => whnf
 refine Tr.ret ?_
 conv => whnf
 cases h
 rfl
theorem P1001 (a_1 : List TOutcome) (b_2 : List TOutcome) (r_3 : TField) (h : M1001 a_1 b_2 = some r_3) :
    PC prog 33 [(.ls (List.map eTOutcome a_1)), (.ls (List.map eTOutcome b_2))] (fun rs => rs = [(eTField r_3)]) := by
 refine PC.of_tr (cx := ⟨16, none, lay, 0⟩) layOK func33 rfl rfl rfl rfl rfl (by simp [f33]) ?_
 unfold M1001 at h
 refine Tr.seq ?_
 refine rg ?_
 conv => whnf
 refine Tr.seq ?_
 refine rg ?_
 conv => whnf
 refine orB_r ?_
 conv => whnf
 refine orB_r ?_
 conv => whnf
 refine orB_r ?_
 conv => whnf
 refine orB_r ?_
 conv => whnf
 refine orB_r ?_
 conv => whnf
 refine orB_l ?_
 conv => whnf
 refine Tr.ret ?_
 conv => whnf
 cases h
 rfl
theorem P1002 (n_1 : Int) (r_2 : Bool) (h : M1002 n_1 = some r_2) :
    PC prog 140 [(.i .i64 n_1)] (fun rs => rs = [(.b r_2)]) := by
 refine PC.of_tr (cx := ⟨9, none, lay, 0⟩) layOK func140 rfl rfl rfl rfl rfl (by simp [f140]) ?_
 unfold M1002 at h
 refine Tr.seq ?_
 refine rg ?_
 conv => whnf
 refine Tr.seq ?_
 refine rg ?_
 conv => whnf
 refine cB h (fun hb3 h => ?_) (fun hb3 h => ?_)
 ·conv => whnf
  refine Tr.ret ?_
  conv => whnf
  cases h
  rfl
 conv => whnf
 refine Tr.ret ?_
 conv => whnf
 cases h
 rfl
theorem P1003 (x_1 : Int) (r_2 : Bool) (h : M1003 x_1 = some r_2) :
    PC prog 130 [(.i .i64 x_1)] (fun rs => rs = [(.b r_2)]) := by
 refine PC.of_tr (cx := ⟨6, none, lay, 0⟩) layOK func130 rfl rfl rfl rfl rfl (by simp [f130]) ?_
 unfold M1003 at h
 refine Tr.seq ?_
 refine rg ?_
 conv => whnf
 refine Tr.seq ?_
 refine rg ?_
 conv => whnf
 refine Tr.ret ?_
 conv => whnf
 cases h
 rfl
theorem P1004 (x_1 : Int) (y_2 : Int) (r_3 : Int) (h : M1004 x_1 y_2 = some r_3) :
    PC prog 136 [(.i .i64 x_1), (.i .i64 y_2)] (fun rs => rs = [(.i .i64 r_3)]) := by
 refine PC.of_tr (cx := ⟨20, none, lay, 0⟩) layOK func136 rfl rfl rfl rfl rfl (by simp [f136]) ?_
 unfold M1004 at h
 refine Tr.seq ?_
 refine rg ?_
 conv => whnf
 refine Tr.seq ?_
 refine rg ?_
 conv => whnf
 obtain ⟨r_4, hc5, h⟩ := bS h
 refine PC.ecall (P1003 x_1 r_4 hc5) (fun rs hrs => ?_)
 subst hrs
 conv => whnf
 refine Tr.seq ?_
 refine rg ?_
 conv => whnf
 obtain ⟨r_6, hc7, h⟩ := bS h
 refine PC.ecall (P1003 y_2 r_6 hc7) (fun rs hrs => ?_)
 subst hrs
 conv => whnf
 refine Tr.seq ?_
 refine Tr.seq ?_
 refine rg ?_
 conv => whnf
 refine Tr.cond ?_
 conv => whnf
 refine cB h (fun hb8 h => ?_) (fun hb8 h => ?_)
 ·refine Tr.seq ?_
  refine Tr.seq ?_
  refine rg ?_
  conv => whnf
  refine Tr.cond ?_
  conv => whnf
  refine cB h (fun hb9 h => ?_) (fun hb9 h => ?_)
  ·refine Tr.seq ?_
   refine rg ?_
   conv => whnf
   refine Tr.ret ?_
   conv => whnf
   cases h
   rfl
  refine Tr.skip ?_
  conv => whnf
  refine Tr.seq ?_
  refine rg ?_
  conv => whnf
  refine Tr.ret ?_
  conv => whnf
  cases h
  rfl
 refine Tr.skip ?_
 conv => whnf
 refine Tr.seq ?_
 refine Tr.seq ?_
 refine rg ?_
 conv => whnf
 refine Tr.cond ?_
 conv => whnf
 refine cB h (fun hb10 h => ?_) (fun hb10 h => ?_)
 ·refine Tr.seq ?_
  refine rg ?_
  conv => whnf
  refine Tr.ret ?_
  conv => whnf
  cases h
  rfl
 refine Tr.skip ?_
 conv => whnf
 refine Tr.seq ?_
 refine Tr.seq ?_
 refine rg ?_
 conv => whnf
 refine Tr.cond ?_
 conv => whnf
 refine cB h (fun hb11 h => ?_) (fun hb11 h => ?_)
 ·refine Tr.seq ?_
  refine rg ?_
  conv => whnf
  refine Tr.ret ?_
  conv => whnf
  cases h
  rfl
 refine Tr.skip ?_
 conv => whnf
 refine Tr.seq ?_
 refine Tr.seq ?_
 refine rg ?_
 conv => whnf
 refine Tr.cond ?_
 conv => whnf
 refine cB h (fun hb12 h => ?_) (fun hb12 h => ?_)
 ·refine Tr.seq ?_
  refine rg ?_
  conv => whnf
  refine Tr.ret ?_
  conv => whnf
  cases h
  rfl
 refine Tr.skip ?_
 conv => whnf
 refine Tr.seq ?_
 refine rg ?_
 conv => whnf
 refine Tr.ret ?_
 conv => whnf
 cases h
 rfl
theorem P1007 (vals_1 : List Int) (r_2 : Int) (h : M1007 vals_1 = some r_2) :
    PC prog 135 [(.ls (List.map eI vals_1))] (fun rs => rs = [(.i .i64 r_2)]) := by
 refine PC.of_tr (cx := ⟨18, none, lay, 0⟩) layOK func135 rfl rfl rfl rfl rfl (by simp [f135]) ?_
 unfold M1007 at h
 refine Tr.seq ?_
 refine rg ?_
 conv => whnf
 refine Tr.seq ?_
 refine rg ?_
 conv => whnf
 refine Tr.seq ?_
 refine Tr.seq ?_
 refine rg ?_
 conv => whnf
 refine lnS_map ?_
 conv => whnf
 refine Tr.cutQ (α := Unit) (fun s => ([(2, (dI 0)), (3, (dI 0))], [])) (fun s => M1006 s = some r_2) ?_ ?_
 ·refine Tr.block ?_
  refine Tr.loopM (σ := Int) (fun n s => M1005 vals_1 M1006 n s) r_2 (fun s => ([(2, (dI 0)), (3, (dI 0)), (6, .d (.ls (List.map eI vals_1))), (7, (dI (((vals_1).length : Int)))), (8, (dI s))], [])) (((((vals_1).length : Int)) - 0 : Int).toNat + 1) (0) h (fun s => rfl) (Wk.mk2 [] 0 rfl rfl (by decide) rfl trivial ⟨rr, rr, rr, rr, rr, trivial⟩) ?_
  clear h
  rintro n_5 v_4 h
  replace h : M1005 vals_1 M1006 (n_5 + 1) v_4 = some r_2 := h
  rw [M1005] at h
  refine Tr.seq ?_
  refine rg ?_
  conv => whnf
  refine Tr.seq ?_
  refine Tr.cond ?_
  conv => whnf
  refine cB h (fun hb8 h => ?_) (fun hb8 h => ?_)
  ·refine Tr.skip ?_
   conv => whnf
   refine Tr.seq ?_
   refine Tr.block ?_
   refine Tr.seq ?_
   refine rg ?_
   conv => whnf
   obtain ⟨x_9, hx_9, h⟩ := bS h
   refine ixP_of hx_9 ?_
   conv => whnf
   refine Tr.seq ?_
   refine rg ?_
   conv => whnf
   refine Tr.cond ?_
   conv => whnf
   refine cB h (fun hb10 h => ?_) (fun hb10 h => ?_)
   ·refine Tr.seq ?_
    refine rg ?_
    conv => whnf
    refine Tr.ret ?_
    conv => whnf
    cases h
    rfl
   refine Tr.skip ?_
   conv => whnf
   refine rg ?_
   conv => whnf
   refine arS_raw ?_
   conv => whnf
   refine ⟨((w64 (v_4 + 1))), h, ?_⟩
   exact Wk.mk2 [] 0 rfl rfl (by decide) rfl trivial ⟨rr, rr, rr, rr, rr, trivial⟩
  refine Tr.exit ?_
  conv => whnf
  refine ⟨(), h, ?_⟩
  exact Wk.mk2 [] 0 rfl rfl (by decide) rfl trivial ⟨rr, rr, trivial⟩
 clear h
 rintro _ h T1 H1 hw
 replace h : M1006 () = some r_2 := h
 conv => whnf
 refine Tr.weak hw ?_
 unfold M1006 at h
 refine Tr.seq ?_
 refine rg ?_
 conv => whnf
 refine Tr.ret ?_
 conv => whnf
 cases h
 rfl
theorem P1008 (p_1 : Tclocks_place) (q_2 : Tclocks_place) (r_3 : Int) (h : M1008 p_1 q_2 = some r_3) :
    PC prog 163 [(eTclocks_place p_1), (eTclocks_place q_2)] (fun rs => rs = [(.i .i64 r_3)]) := by
 refine PC.of_tr (cx := ⟨17, none, lay, 0⟩) layOK func163 rfl rfl rfl rfl rfl (by simp [f163]) ?_
 unfold M1008 at h
 refine Tr.seq ?_
 refine rg ?_
 conv => whnf
 refine Tr.seq ?_
 refine Tr.draw (DrawP.seqQ layOK mixed [] [(0, 3), (1, 3), (2, 4), (3, 4), (4, 1), (5, 3), (6, 3), (7, 4), (8, 4), (9, 1), (10, 1), (11, 0), (12, 1)] (by kernel_rfl) ?_)
 conv => whnf
 refine ⟨_, ⟨rfl, rfl, rr⟩, ?_⟩
 conv => whnf
 refine ⟨_, ⟨rfl, rfl, rr⟩, ?_⟩
 conv => whnf
 refine ⟨_, ⟨rfl, rfl, rr⟩, ?_⟩
 conv => whnf
 refine ⟨_, ⟨rfl, rfl, rr⟩, ?_⟩
 conv => whnf
 obtain ⟨r_4, hc5, h⟩ := bS h
 refine ⟨_, (fun _ => by (conv => whnf); (refine PC.ecall (P1004 p_1.mat q_2.mat r_4 hc5) (fun rs hrs => ?_)); (subst hrs); (conv => whnf); (exact rr)), ?_⟩
 conv => whnf
 refine ⟨_, ⟨rfl, rfl, rr⟩, ?_⟩
 conv => whnf
 refine ⟨_, ⟨rfl, rfl, rr⟩, ?_⟩
 conv => whnf
 refine ⟨_, ⟨rfl, rfl, rr⟩, ?_⟩
 conv => whnf
 refine ⟨_, ⟨rfl, rfl, rr⟩, ?_⟩
 conv => whnf
 obtain ⟨r_6, hc7, h⟩ := bS h
 refine ⟨_, (fun _ => by (conv => whnf); (refine PC.ecall (P1004 p_1.epoch q_2.epoch r_6 hc7) (fun rs hrs => ?_)); (subst hrs); (conv => whnf); (exact rr)), ?_⟩
 conv => whnf
 refine ⟨_, (fun _ => by (conv => whnf); (refine orB_r ?_); (conv => whnf); (exact rr)), ?_⟩
 conv => whnf
 obtain ⟨r_8, hc9, h⟩ := bS h
 refine ⟨_, _, (by (conv => whnf); (refine PC.ecall (P1007 ((([r_4, r_6] : List Int))) r_8 hc9) (fun rs hrs => ?_)); (subst hrs); (conv => whnf); (exact rr)), kp_ok (by repeat (first | exact trivial | refine ⟨trivial, ?_⟩ | refine ⟨rfl, ?_⟩)), ?_⟩
 conv => whnf
 refine ⟨_, (fun _ => rr), ?_⟩
 conv => whnf
 refine Tr.ret ?_
 conv => whnf
 cases h
 rfl
theorem P1009 (a_1 : TSegment) (b_2 : TSegment) (r_3 : Int) (h : M1009 a_1 b_2 = some r_3) :
    PC prog 141 [(eTSegment a_1), (eTSegment b_2)] (fun rs => rs = [(.i .i64 r_3)]) := by
 refine PC.of_tr (cx := ⟨16, none, lay, 0⟩) layOK func141 rfl rfl rfl rfl rfl (by simp [f141]) ?_
 unfold M1009 at h
 refine Tr.seq ?_
 refine rg ?_
 conv => whnf
 refine Tr.seq ?_
 refine rg ?_
 conv => whnf
 obtain ⟨r_4, hc5, h⟩ := bS h
 refine PC.ecall (P1008 ({ mat := a_1.Mat, epoch := a_1.Epoch } : Tclocks_place) ({ mat := b_2.Mat, epoch := b_2.Epoch } : Tclocks_place) r_4 hc5) (fun rs hrs => ?_)
 subst hrs
 conv => whnf
 refine Tr.ret ?_
 conv => whnf
 cases h
 rfl
theorem P1010 (w_1 : Int) (r_2 : Bool) (h : M1010 w_1 = some r_2) :
    PC prog 142 [(.i .i64 w_1)] (fun rs => rs = [(.b r_2)]) := by
 refine PC.of_tr (cx := ⟨9, none, lay, 0⟩) layOK func142 rfl rfl rfl rfl rfl (by simp [f142]) ?_
 unfold M1010 at h
 refine Tr.seq ?_
 refine rg ?_
 conv => whnf
 refine Tr.seq ?_
 refine rg ?_
 conv => whnf
 refine cB h (fun hb3 h => ?_) (fun hb3 h => ?_)
 ·conv => whnf
  refine Tr.ret ?_
  conv => whnf
  cases h
  rfl
 conv => whnf
 refine Tr.ret ?_
 conv => whnf
 cases h
 rfl
theorem P1013 (s_1 : List Int) (r_2 : Int) (h : M1013 s_1 = some r_2) :
    PC prog 146 [(.ls (List.map eI s_1)), (.fn 142 [])] (fun rs => rs = [(.i .i64 r_2)]) := by
 refine PC.of_tr (cx := ⟨19, none, lay, 0⟩) layOK func146 rfl rfl rfl rfl rfl (by simp [f146]) ?_
 unfold M1013 at h
 refine Tr.seq ?_
 refine rg ?_
 conv => whnf
 refine Tr.seq ?_
 refine Tr.seq ?_
 refine rg ?_
 conv => whnf
 refine lnS_map ?_
 conv => whnf
 refine Tr.cutQ (α := Unit) (fun s => ([(4, (dI 0))], [])) (fun s => M1012 s = some r_2) ?_ ?_
 ·refine Tr.block ?_
  refine Tr.loopM (σ := Int) (fun n s => M1011 s_1 M1012 n s) r_2 (fun s => ([(0, .d (.ls (List.map eI s_1))), (1, .d (.fn 142 [])), (4, (dI 0)), (7, (dI (((s_1).length : Int)))), (8, (dI s))], [])) (((((s_1).length : Int)) - 0 : Int).toNat + 1) (0) h (fun s => rfl) (Wk.mk2 [] 0 rfl rfl (by decide) rfl trivial ⟨rr, rr, rr, rr, rr, trivial⟩) ?_
  clear h
  rintro n_5 v_4 h
  replace h : M1011 s_1 M1012 (n_5 + 1) v_4 = some r_2 := h
  rw [M1011] at h
  refine Tr.seq ?_
  refine rg ?_
  conv => whnf
  refine Tr.seq ?_
  refine Tr.cond ?_
  conv => whnf
  refine cB h (fun hb8 h => ?_) (fun hb8 h => ?_)
  ·refine Tr.skip ?_
   conv => whnf
   refine Tr.seq ?_
   refine Tr.block ?_
   refine Tr.seq ?_
   refine rg ?_
   conv => whnf
   refine Tr.seq ?_
   refine rg ?_
   conv => whnf
   obtain ⟨x_9, hx_9, h⟩ := bS h
   refine ixP_of hx_9 ?_
   conv => whnf
   obtain ⟨r_10, hc11, h⟩ := bS h
   refine PC.ecall (P1010 x_9 r_10 hc11) (fun rs hrs => ?_)
   subst hrs
   conv => whnf
   refine Tr.cond ?_
   conv => whnf
   refine cB h (fun hb12 h => ?_) (fun hb12 h => ?_)
   ·refine Tr.seq ?_
    refine rg ?_
    conv => whnf
    refine Tr.ret ?_
    conv => whnf
    cases h
    rfl
   refine Tr.skip ?_
   conv => whnf
   refine rg ?_
   conv => whnf
   refine arS_raw ?_
   conv => whnf
   refine ⟨((w64 (v_4 + 1))), h, ?_⟩
   exact Wk.mk2 [] 0 rfl rfl (by decide) rfl trivial ⟨rr, rr, rr, rr, rr, trivial⟩
  refine Tr.exit ?_
  conv => whnf
  refine ⟨(), h, ?_⟩
  exact Wk.mk2 [] 0 rfl rfl (by decide) rfl trivial ⟨rr, trivial⟩
 clear h
 rintro _ h T1 H1 hw
 replace h : M1012 () = some r_2 := h
 conv => whnf
 refine Tr.weak hw ?_
 unfold M1012 at h
 refine Tr.seq ?_
 refine rg ?_
 conv => whnf
 refine Tr.ret ?_
 conv => whnf
 cases h
 rfl
theorem P1014 (s_1 : List Int) (r_2 : Bool) (h : M1014 s_1 = some r_2) :
    PC prog 104 [(.ls (List.map eI s_1)), (.fn 142 [])] (fun rs => rs = [(.b r_2)]) := by
 refine PC.of_tr (cx := ⟨9, none, lay, 0⟩) layOK func104 rfl rfl rfl rfl rfl (by simp [f104]) ?_
 unfold M1014 at h
 refine Tr.seq ?_
 refine rg ?_
 conv => whnf
 refine Tr.seq ?_
 refine rg ?_
 conv => whnf
 obtain ⟨r_3, hc4, h⟩ := bS h
 refine PC.ecall (P1013 s_1 r_3 hc4) (fun rs hrs => ?_)
 subst hrs
 conv => whnf
 refine Tr.ret ?_
 conv => whnf
 cases h
 rfl
theorem P1025 (k_1 : TClocks) (r_2 : Int) (h : M1025 k_1 = some r_2) :
    PC prog 98 [(eTClocks k_1)] (fun rs => rs = [(.i .i64 r_2)]) := by
 refine PC.of_tr (cx := ⟨141, none, lay, 0⟩) layOK func98 rfl rfl rfl rfl rfl (by simp [f98]) ?_
 unfold M1025 at h
 refine Tr.seq ?_
 refine rg ?_
 conv => whnf
 refine Tr.seq ?_
 refine rg ?_
 conv => whnf
 refine lnS_map ?_
 conv => whnf
 refine Tr.seq ?_
 refine Tr.seq ?_
 refine rg ?_
 conv => whnf
 refine cB h (fun hb3 h => ?_) (fun hb3 h => ?_)
 ·conv => whnf
  refine Tr.cond ?_
  conv => whnf
  refine Tr.seq ?_
  refine rg ?_
  conv => whnf
  refine Tr.ret ?_
  conv => whnf
  cases h
  rfl
 conv => whnf
 refine lnS_map ?_
 conv => whnf
 refine arS_raw ?_
 conv => whnf
 refine Tr.cond ?_
 conv => whnf
 refine cB h (fun hb4 h => ?_) (fun hb4 h => ?_)
 ·refine Tr.seq ?_
  refine rg ?_
  conv => whnf
  refine Tr.ret ?_
  conv => whnf
  cases h
  rfl
 refine Tr.skip ?_
 conv => whnf
 refine Tr.seq ?_
 refine Tr.seq ?_
 refine rg ?_
 conv => whnf
 refine lnS_map ?_
 conv => whnf
 refine Tr.cutQ (α := Unit) (fun s => ([(1, .pt 0 0), (2, (dI 0)), (3, (dI (((k_1.Segments).length : Int))))], [some (.var [.d (.ls (List.map eTSegment k_1.Segments)), .d (.ls (List.map (eL eI) k_1.Far))])])) (fun s => M1024 k_1 s = some r_2) ?_ ?_
 ·refine Tr.block ?_
  refine Tr.loopM (σ := Int) (fun n s => M1015 k_1 (M1024 k_1) n s) r_2 (fun s => ([(1, .pt 0 0), (2, (dI 0)), (3, (dI (((k_1.Segments).length : Int)))), (27, .d (.ls (List.map eTSegment k_1.Segments))), (28, (dI (((k_1.Segments).length : Int)))), (29, (dI s))], [some (.var [.d (.ls (List.map eTSegment k_1.Segments)), .d (.ls (List.map (eL eI) k_1.Far))])])) (((((k_1.Segments).length : Int)) - 0 : Int).toNat + 1) (0) h (fun s => rfl) (Wk.mk2 [0] 1 rfl rfl (by decide) rfl ⟨rr, trivial⟩ ⟨rr, rr, rr, rr, rr, rr, trivial⟩) ?_
  clear h
  rintro n_7 v_6 h
  replace h : M1015 k_1 (M1024 k_1) (n_7 + 1) v_6 = some r_2 := h
  rw [M1015] at h
  refine Tr.seq ?_
  refine rg ?_
  conv => whnf
  refine Tr.seq ?_
  refine Tr.cond ?_
  conv => whnf
  refine cB h (fun hb10 h => ?_) (fun hb10 h => ?_)
  ·refine Tr.skip ?_
   conv => whnf
   refine Tr.seq ?_
   refine Tr.block ?_
   refine Tr.seq ?_
   refine rg ?_
   conv => whnf
   obtain ⟨x_11, hx_11, h⟩ := bS h
   refine ixP_of hx_11 ?_
   conv => whnf
   refine Tr.seq ?_
   obtain ⟨v_12, hv13, h⟩ := bS h
   refine Tr.cutQ1 ([(1, .pt 0 0), (2, (dI 0)), (3, (dI (((k_1.Segments).length : Int)))), (27, .d (.ls (List.map eTSegment k_1.Segments))), (28, (dI (((k_1.Segments).length : Int)))), (29, (dI v_6)), (72, .d (.b v_12))]) ([some (.var [.d (.ls (List.map eTSegment k_1.Segments)), .d (.ls (List.map (eL eI) k_1.Far))])]) ?_ (fun T1 H1 hw => ?_)
   ·replace h := hv13; clear hv13
    refine Tr.draw (DrawP.seqQ layOK mixed [] [(0, 4), (1, 4), (2, 1), (3, 1), (4, 4), (5, 4), (6, 1), (7, 1), (8, 1), (9, 4), (10, 4), (11, 1), (12, 1), (13, 1), (14, 4), (15, 4), (16, 1), (17, 1), (18, 1), (19, 4), (20, 4), (21, 1), (22, 1), (23, 1), (24, 1), (25, 1), (26, 1), (27, 1), (28, 3), (29, 3), (30, 1), (31, 1), (32, 2), (33, 2), (34, 4), (35, 1), (36, 1), (37, 1), (38, 1)] (by kernel_rfl) ?_)
    conv => whnf
    refine ⟨_, ⟨rfl, rfl, rr⟩, ?_⟩
    conv => whnf
    refine ⟨_, ⟨rfl, rfl, rr⟩, ?_⟩
    conv => whnf
    refine ⟨_, (fun _ => rr), ?_⟩
    conv => whnf
    refine ⟨_, (fun _ => rr), ?_⟩
    conv => whnf
    refine cB h (fun hb14 h => ?_) (fun hb14 h => ?_)
    ·conv => whnf
     refine ⟨_, (fun _ => rr), ?_⟩
     conv => whnf
     refine ⟨_, (fun _ => rr), ?_⟩
     conv => whnf
     refine ⟨_, (fun _ => rr), ?_⟩
     conv => whnf
     refine ⟨_, (fun _ => rr), ?_⟩
     conv => whnf
     refine ⟨_, (fun _ => rr), ?_⟩
     conv => whnf
     refine ⟨_, (fun _ => rr), ?_⟩
     conv => whnf
     refine ⟨_, (fun _ => rr), ?_⟩
     conv => whnf
     refine ⟨_, (fun _ => rr), ?_⟩
     conv => whnf
     refine ⟨_, (fun _ => rr), ?_⟩
     conv => whnf
     cases h
     exact Wk.mk2 [0] 2 rfl rfl (by decide) rfl ⟨rr, trivial⟩ ⟨rr, rr, rr, rr, rr, rr, rr, trivial⟩
    conv => whnf
    refine ⟨_, ⟨rfl, rfl, rr⟩, ?_⟩
    conv => whnf
    refine ⟨_, ⟨rfl, rfl, rr⟩, ?_⟩
    conv => whnf
    refine ⟨_, (fun _ => rr), ?_⟩
    conv => whnf
    refine ⟨_, (fun _ => rr), ?_⟩
    conv => whnf
    refine ⟨_, (fun _ => rr), ?_⟩
    conv => whnf
    refine cB h (fun hb15 h => ?_) (fun hb15 h => ?_)
    ·conv => whnf
     refine ⟨_, (fun _ => rr), ?_⟩
     conv => whnf
     refine ⟨_, (fun _ => rr), ?_⟩
     conv => whnf
     refine ⟨_, (fun _ => rr), ?_⟩
     conv => whnf
     refine ⟨_, (fun _ => rr), ?_⟩
     conv => whnf
     refine ⟨_, (fun _ => rr), ?_⟩
     conv => whnf
     refine ⟨_, (fun _ => rr), ?_⟩
     conv => whnf
     refine ⟨_, (fun _ => rr), ?_⟩
     conv => whnf
     cases h
     exact Wk.mk2 [0] 2 rfl rfl (by decide) rfl ⟨rr, trivial⟩ ⟨rr, rr, rr, rr, rr, rr, rr, trivial⟩
    conv => whnf
    refine ⟨_, ⟨rfl, rfl, rr⟩, ?_⟩
    conv => whnf
    refine ⟨_, ⟨rfl, rfl, rr⟩, ?_⟩
    conv => whnf
    refine ⟨_, (fun _ => rr), ?_⟩
    conv => whnf
    refine ⟨_, (fun _ => rr), ?_⟩
    conv => whnf
    refine ⟨_, (fun _ => rr), ?_⟩
    conv => whnf
    refine cB h (fun hb16 h => ?_) (fun hb16 h => ?_)
    ·conv => whnf
     refine ⟨_, (fun _ => rr), ?_⟩
     conv => whnf
     refine ⟨_, (fun _ => rr), ?_⟩
     conv => whnf
     refine ⟨_, (fun _ => rr), ?_⟩
     conv => whnf
     refine ⟨_, (fun _ => rr), ?_⟩
     conv => whnf
     refine ⟨_, (fun _ => rr), ?_⟩
     conv => whnf
     cases h
     exact Wk.mk2 [0] 2 rfl rfl (by decide) rfl ⟨rr, trivial⟩ ⟨rr, rr, rr, rr, rr, rr, rr, trivial⟩
    conv => whnf
    refine ⟨_, ⟨rfl, rfl, rr⟩, ?_⟩
    conv => whnf
    refine ⟨_, ⟨rfl, rfl, rr⟩, ?_⟩
    conv => whnf
    refine ⟨_, (fun _ => rr), ?_⟩
    conv => whnf
    refine ⟨_, (fun _ => rr), ?_⟩
    conv => whnf
    refine ⟨_, (fun _ => rr), ?_⟩
    conv => whnf
    refine cB h (fun hb17 h => ?_) (fun hb17 h => ?_)
    ·conv => whnf
     refine ⟨_, (fun _ => rr), ?_⟩
     conv => whnf
     refine ⟨_, (fun _ => rr), ?_⟩
     conv => whnf
     refine ⟨_, (fun _ => rr), ?_⟩
     conv => whnf
     cases h
     exact Wk.mk2 [0] 2 rfl rfl (by decide) rfl ⟨rr, trivial⟩ ⟨rr, rr, rr, rr, rr, rr, rr, trivial⟩
    conv => whnf
    refine ⟨_, ⟨rfl, rfl, rr⟩, ?_⟩
    conv => whnf
    refine ⟨_, ⟨rfl, rfl, rr⟩, ?_⟩
    conv => whnf
    obtain ⟨r_18, hc19, h⟩ := bS h
    refine ⟨_, (fun _ => by (conv => whnf); (refine PC.ecall (P1002 x_11.Anchor r_18 hc19) (fun rs hrs => ?_)); (subst hrs); (conv => whnf); (exact rr)), ?_⟩
    conv => whnf
    refine ⟨_, (fun _ => rr), ?_⟩
    conv => whnf
    refine ⟨_, (fun _ => rr), ?_⟩
    conv => whnf
    refine ⟨_, (fun _ => rr), ?_⟩
    conv => whnf
    refine cB h (fun hb20 h => ?_) (fun hb20 h => ?_)
    ·conv => whnf
     refine ⟨_, (fun _ => rr), ?_⟩
     conv => whnf
     cases h
     exact Wk.mk2 [0] 2 rfl rfl (by decide) rfl ⟨rr, trivial⟩ ⟨rr, rr, rr, rr, rr, rr, rr, trivial⟩
    conv => whnf
    refine ⟨_, (fun _ => rr), ?_⟩
    conv => whnf
    refine ⟨_, (fun _ => rr), ?_⟩
    conv => whnf
    refine ⟨_, (fun _ => rr), ?_⟩
    conv => whnf
    refine cB h (fun hb21 h => ?_) (fun hb21 h => ?_)
    ·conv => whnf
     refine ⟨_, ⟨rfl, rfl, rr⟩, ?_⟩
     conv => whnf
     refine ⟨_, ⟨rfl, rfl, rr⟩, ?_⟩
     conv => whnf
     refine ⟨_, (fun _ => rr), ?_⟩
     conv => whnf
     refine ⟨_, (fun _ => by (conv => whnf); (refine arS_raw ?_); (conv => whnf); (exact rr)), ?_⟩
     conv => whnf
     obtain ⟨x_22, hx_22, h⟩ := bS h
     refine ⟨_, ⟨rfl, rfl, (by (conv => whnf); (refine ixP_of hx_22 ?_); (conv => whnf); (exact rr))⟩, ?_⟩
     conv => whnf
     refine ⟨_, ⟨rfl, rfl, rr⟩, ?_⟩
     conv => whnf
     refine ⟨_, ⟨rfl, rfl, rr⟩, ?_⟩
     conv => whnf
     obtain ⟨r_23, hc24, h⟩ := bS h
     refine ⟨_, (fun _ => by (conv => whnf); (refine PC.ecall (P1009 x_22 x_11 r_23 hc24) (fun rs hrs => ?_)); (subst hrs); (conv => whnf); (exact rr)), ?_⟩
     conv => whnf
     refine ⟨_, (fun _ => rr), ?_⟩
     conv => whnf
     refine ⟨_, (fun _ => rr), ?_⟩
     conv => whnf
     refine ⟨_, (fun _ => rr), ?_⟩
     conv => whnf
     cases h
     exact Wk.mk2 [0] 2 rfl rfl (by decide) rfl ⟨rr, trivial⟩ ⟨rr, rr, rr, rr, rr, rr, rr, trivial⟩
    conv => whnf
    refine ⟨_, (fun _ => rr), ?_⟩
    conv => whnf
    refine ⟨_, (fun _ => rr), ?_⟩
    conv => whnf
    cases h
    exact Wk.mk2 [0] 2 rfl rfl (by decide) rfl ⟨rr, trivial⟩ ⟨rr, rr, rr, rr, rr, rr, rr, trivial⟩
   clear hv13
   conv => whnf
   refine Tr.weak hw ?_
   refine Tr.cond ?_
   conv => whnf
   refine cB h (fun hb25 h => ?_) (fun hb25 h => ?_)
   ·refine Tr.seq ?_
    refine rg ?_
    conv => whnf
    refine Tr.ret ?_
    conv => whnf
    cases h
    rfl
   refine Tr.skip ?_
   conv => whnf
   refine rg ?_
   conv => whnf
   refine arS_raw ?_
   conv => whnf
   refine ⟨((w64 (v_6 + 1))), h, ?_⟩
   exact Wk.mk2 [0] 1 rfl rfl (by decide) rfl ⟨rr, trivial⟩ ⟨rr, rr, rr, rr, rr, rr, trivial⟩
  refine Tr.exit ?_
  conv => whnf
  refine ⟨(), h, ?_⟩
  exact Wk.mk2 [0] 1 rfl rfl (by decide) rfl ⟨rr, trivial⟩ ⟨rr, rr, rr, trivial⟩
 clear h
 rintro _ h T1 H1 hw
 replace h : M1024 k_1 () = some r_2 := h
 conv => whnf
 refine Tr.weak hw ?_
 unfold M1024 at h
 refine Tr.seq ?_
 refine Tr.seq ?_
 refine rg ?_
 conv => whnf
 refine lnS_map ?_
 conv => whnf
 refine Tr.cutQ (α := Unit) (fun s => ([(1, .pt 0 0), (2, (dI 0)), (3, (dI (((k_1.Segments).length : Int))))], [some (.var [.d (.ls (List.map eTSegment k_1.Segments)), .d (.ls (List.map (eL eI) k_1.Far))])])) (fun s => M1023 k_1 s = some r_2) ?_ ?_
 ·refine Tr.block ?_
  refine Tr.loopM (σ := Int) (fun n s => M1016 k_1 (M1023 k_1) n s) r_2 (fun s => ([(1, .pt 0 0), (2, (dI 0)), (3, (dI (((k_1.Segments).length : Int)))), (75, .d (.ls (List.map (eL eI) k_1.Far))), (76, (dI (((k_1.Far).length : Int)))), (77, (dI s))], [some (.var [.d (.ls (List.map eTSegment k_1.Segments)), .d (.ls (List.map (eL eI) k_1.Far))])])) (((((k_1.Far).length : Int)) - 0 : Int).toNat + 1) (0) h (fun s => rfl) (Wk.mk2 [0] 1 rfl rfl (by decide) rfl ⟨rr, trivial⟩ ⟨rr, rr, rr, rr, rr, rr, trivial⟩) ?_
  clear h
  rintro n_28 v_27 h
  replace h : M1016 k_1 (M1023 k_1) (n_28 + 1) v_27 = some r_2 := h
  rw [M1016] at h
  refine Tr.seq ?_
  refine rg ?_
  conv => whnf
  refine Tr.seq ?_
  refine Tr.cond ?_
  conv => whnf
  refine cB h (fun hb31 h => ?_) (fun hb31 h => ?_)
  ·refine Tr.skip ?_
   conv => whnf
   refine Tr.seq ?_
   refine Tr.block ?_
   refine Tr.seq ?_
   refine rg ?_
   conv => whnf
   obtain ⟨x_32, hx_32, h⟩ := bS h
   refine ixP_of hx_32 ?_
   conv => whnf
   refine Tr.seq ?_
   refine rg ?_
   conv => whnf
   refine lnS_map ?_
   conv => whnf
   refine arS_raw ?_
   conv => whnf
   refine cB h (fun hb33 h => ?_) (fun hb33 h => ?_)
   ·conv => whnf
    refine Tr.cond ?_
    conv => whnf
    refine Tr.seq ?_
    refine rg ?_
    conv => whnf
    refine Tr.ret ?_
    conv => whnf
    cases h
    rfl
   conv => whnf
   obtain ⟨x_34, hx_34, h⟩ := bS h
   refine ixP_of hx_34 ?_
   conv => whnf
   refine cB h (fun hb35 h => ?_) (fun hb35 h => ?_)
   ·conv => whnf
    refine Tr.cond ?_
    conv => whnf
    refine Tr.seq ?_
    refine rg ?_
    conv => whnf
    refine Tr.ret ?_
    conv => whnf
    cases h
    rfl
   conv => whnf
   obtain ⟨r_36, hc37, h⟩ := bS h
   refine PC.ecall (P1014 x_32 r_36 hc37) (fun rs hrs => ?_)
   subst hrs
   conv => whnf
   refine Tr.cond ?_
   conv => whnf
   refine cB h (fun hb38 h => ?_) (fun hb38 h => ?_)
   ·refine Tr.seq ?_
    refine rg ?_
    conv => whnf
    refine Tr.ret ?_
    conv => whnf
    cases h
    rfl
   refine Tr.skip ?_
   conv => whnf
   refine rg ?_
   conv => whnf
   refine arS_raw ?_
   conv => whnf
   refine ⟨((w64 (v_27 + 1))), h, ?_⟩
   exact Wk.mk2 [0] 1 rfl rfl (by decide) rfl ⟨rr, trivial⟩ ⟨rr, rr, rr, rr, rr, rr, trivial⟩
  refine Tr.exit ?_
  conv => whnf
  refine ⟨(), h, ?_⟩
  exact Wk.mk2 [0] 1 rfl rfl (by decide) rfl ⟨rr, trivial⟩ ⟨rr, rr, rr, trivial⟩
 clear h
 rintro _ h T1 H1 hw
 replace h : M1023 k_1 () = some r_2 := h
 conv => whnf
 refine Tr.weak hw ?_
 unfold M1023 at h
 refine Tr.seq ?_
 refine Tr.seq ?_
 refine rg ?_
 conv => whnf
 refine arS_raw ?_
 conv => whnf
 refine Tr.cutQ (α := Unit) (fun s => ([(2, (dI 0))], [])) (fun s => M1022 s = some r_2) ?_ ?_
 ·refine Tr.block ?_
  refine Tr.loopM (σ := Int) (fun n s => M1021 k_1 M1022 n s) r_2 (fun s => ([(1, .pt 0 0), (2, (dI 0)), (100, (dI (w64 ((((k_1.Segments).length : Int)) + 1)))), (101, (dI s))], [some (.var [.d (.ls (List.map eTSegment k_1.Segments)), .d (.ls (List.map (eL eI) k_1.Far))])])) (((w64 ((((k_1.Segments).length : Int)) + 1)) - 0 : Int).toNat + 1) (0) h (fun s => rfl) (Wk.mk2 [0] 1 rfl rfl (by decide) rfl ⟨rr, trivial⟩ ⟨rr, rr, rr, rr, trivial⟩) ?_
  clear h
  rintro n_41 v_40 h
  replace h : M1021 k_1 M1022 (n_41 + 1) v_40 = some r_2 := h
  rw [M1021] at h
  refine Tr.seq ?_
  refine rg ?_
  conv => whnf
  refine Tr.seq ?_
  refine Tr.cond ?_
  conv => whnf
  refine cB h (fun hb44 h => ?_) (fun hb44 h => ?_)
  ·refine Tr.skip ?_
   conv => whnf
   refine Tr.seq ?_
   refine Tr.block ?_
   refine Tr.seq ?_
   refine rg ?_
   conv => whnf
   refine Tr.seq ?_
   refine rg ?_
   conv => whnf
   obtain ⟨x_45, hx_45, h⟩ := bS h
   refine ixP_of hx_45 ?_
   conv => whnf
   refine lnS_map ?_
   conv => whnf
   refine Tr.cutQ (α := Unit) (fun s => ([(1, .pt 0 0), (2, (dI 0)), (100, (dI (w64 ((((k_1.Segments).length : Int)) + 1)))), (101, (dI v_40))], [some (.var [.d (.ls (List.map eTSegment k_1.Segments)), .d (.ls (List.map (eL eI) k_1.Far))])])) (fun s => M1020 v_40 (M1021 k_1 M1022 n_41) s = some r_2) ?_ ?_
   ·refine Tr.block ?_
    refine Tr.loopM (σ := Int) (fun n s => M1019 k_1 v_40 x_45 (M1020 v_40 (M1021 k_1 M1022 n_41)) n s) r_2 (fun s => ([(1, .pt 0 0), (2, (dI 0)), (8, (dI v_40)), (100, (dI (w64 ((((k_1.Segments).length : Int)) + 1)))), (101, (dI v_40)), (108, .d (.ls (List.map eI x_45))), (109, (dI (((x_45).length : Int)))), (110, (dI s))], [some (.var [.d (.ls (List.map eTSegment k_1.Segments)), .d (.ls (List.map (eL eI) k_1.Far))])])) (((((x_45).length : Int)) - 0 : Int).toNat + 1) (0) h (fun s => rfl) (Wk.mk2 [0] 1 rfl rfl (by decide) rfl ⟨rr, trivial⟩ ⟨rr, rr, rr, rr, rr, rr, rr, rr, trivial⟩) ?_
    clear h
    rintro n_48 v_47 h
    replace h : M1019 k_1 v_40 x_45 (M1020 v_40 (M1021 k_1 M1022 n_41)) (n_48 + 1) v_47 = some r_2 := h
    rw [M1019] at h
    refine Tr.seq ?_
    refine rg ?_
    conv => whnf
    refine Tr.seq ?_
    refine Tr.cond ?_
    conv => whnf
    refine cB h (fun hb51 h => ?_) (fun hb51 h => ?_)
    ·refine Tr.skip ?_
     conv => whnf
     refine Tr.seq ?_
     refine Tr.block ?_
     refine Tr.seq ?_
     refine rg ?_
     conv => whnf
     obtain ⟨x_52, hx_52, h⟩ := bS h
     refine ixP_of hx_52 ?_
     conv => whnf
     refine Tr.seq ?_
     refine rg ?_
     conv => whnf
     obtain ⟨x_53, hx_53, h⟩ := bS h
     refine ixP_of hx_53 ?_
     conv => whnf
     refine lnS_map ?_
     conv => whnf
     refine Tr.cutQ (α := Unit) (fun s => ([(1, .pt 0 0), (2, (dI 0)), (8, (dI v_40)), (100, (dI (w64 ((((k_1.Segments).length : Int)) + 1)))), (101, (dI v_40)), (108, .d (.ls (List.map eI x_45))), (109, (dI (((x_45).length : Int)))), (110, (dI v_47))], [some (.var [.d (.ls (List.map eTSegment k_1.Segments)), .d (.ls (List.map (eL eI) k_1.Far))])])) (fun s => M1018 v_47 (M1019 k_1 v_40 x_45 (M1020 v_40 (M1021 k_1 M1022 n_41)) n_48) s = some r_2) ?_ ?_
     ·refine Tr.block ?_
      refine Tr.loopM (σ := Int) (fun n s => M1017 k_1 v_40 x_52 x_53 (M1018 v_47 (M1019 k_1 v_40 x_45 (M1020 v_40 (M1021 k_1 M1022 n_41)) n_48)) n s) r_2 (fun s => ([(1, .pt 0 0), (2, (dI 0)), (8, (dI v_40)), (10, (dI x_52)), (100, (dI (w64 ((((k_1.Segments).length : Int)) + 1)))), (101, (dI v_40)), (108, .d (.ls (List.map eI x_45))), (109, (dI (((x_45).length : Int)))), (110, (dI v_47)), (119, .d (.ls (List.map eI x_53))), (120, (dI (((x_53).length : Int)))), (121, (dI s))], [some (.var [.d (.ls (List.map eTSegment k_1.Segments)), .d (.ls (List.map (eL eI) k_1.Far))])])) (((((x_53).length : Int)) - 0 : Int).toNat + 1) (0) h (fun s => rfl) (Wk.mk2 [0] 1 rfl rfl (by decide) rfl ⟨rr, trivial⟩ ⟨rr, rr, rr, rr, rr, rr, rr, rr, rr, rr, rr, rr, trivial⟩) ?_
      clear h
      rintro n_56 v_55 h
      replace h : M1017 k_1 v_40 x_52 x_53 (M1018 v_47 (M1019 k_1 v_40 x_45 (M1020 v_40 (M1021 k_1 M1022 n_41)) n_48)) (n_56 + 1) v_55 = some r_2 := h
      rw [M1017] at h
      refine Tr.seq ?_
      refine rg ?_
      conv => whnf
      refine Tr.seq ?_
      refine Tr.cond ?_
      conv => whnf
      refine cB h (fun hb59 h => ?_) (fun hb59 h => ?_)
      ·refine Tr.skip ?_
       conv => whnf
       refine Tr.seq ?_
       refine Tr.block ?_
       refine Tr.seq ?_
       refine rg ?_
       conv => whnf
       obtain ⟨x_60, hx_60, h⟩ := bS h
       refine ixP_of hx_60 ?_
       conv => whnf
       refine Tr.seq ?_
       refine rg ?_
       conv => whnf
       obtain ⟨x_61, hx_61, h⟩ := bS h
       refine ixP_of hx_61 ?_
       conv => whnf
       obtain ⟨x_62, hx_62, h⟩ := bS h
       refine ixP_of hx_62 ?_
       conv => whnf
       refine arS_raw ?_
       conv => whnf
       refine Tr.cond ?_
       conv => whnf
       refine cB h (fun hb63 h => ?_) (fun hb63 h => ?_)
       ·refine Tr.seq ?_
        refine rg ?_
        conv => whnf
        refine Tr.ret ?_
        conv => whnf
        cases h
        rfl
       refine Tr.skip ?_
       conv => whnf
       refine rg ?_
       conv => whnf
       refine arS_raw ?_
       conv => whnf
       refine ⟨((w64 (v_55 + 1))), h, ?_⟩
       exact Wk.mk2 [0] 1 rfl rfl (by decide) rfl ⟨rr, trivial⟩ ⟨rr, rr, rr, rr, rr, rr, rr, rr, rr, rr, rr, rr, trivial⟩
      refine Tr.exit ?_
      conv => whnf
      refine ⟨(), h, ?_⟩
      exact Wk.mk2 [0] 1 rfl rfl (by decide) rfl ⟨rr, trivial⟩ ⟨rr, rr, rr, rr, rr, rr, rr, rr, trivial⟩
     clear h
     rintro _ h T1 H1 hw
     replace h : M1018 v_47 (M1019 k_1 v_40 x_45 (M1020 v_40 (M1021 k_1 M1022 n_41)) n_48) () = some r_2 := h
     conv => whnf
     refine Tr.weak hw ?_
     unfold M1018 at h
     refine rg ?_
     conv => whnf
     refine arS_raw ?_
     conv => whnf
     refine ⟨((w64 (v_47 + 1))), h, ?_⟩
     exact Wk.mk2 [0] 1 rfl rfl (by decide) rfl ⟨rr, trivial⟩ ⟨rr, rr, rr, rr, rr, rr, rr, rr, trivial⟩
    refine Tr.exit ?_
    conv => whnf
    refine ⟨(), h, ?_⟩
    exact Wk.mk2 [0] 1 rfl rfl (by decide) rfl ⟨rr, trivial⟩ ⟨rr, rr, rr, rr, trivial⟩
   clear h
   rintro _ h T1 H1 hw
   replace h : M1020 v_40 (M1021 k_1 M1022 n_41) () = some r_2 := h
   conv => whnf
   refine Tr.weak hw ?_
   unfold M1020 at h
   refine rg ?_
   conv => whnf
   refine arS_raw ?_
   conv => whnf
   refine ⟨((w64 (v_40 + 1))), h, ?_⟩
   exact Wk.mk2 [0] 1 rfl rfl (by decide) rfl ⟨rr, trivial⟩ ⟨rr, rr, rr, rr, trivial⟩
  refine Tr.exit ?_
  conv => whnf
  refine ⟨(), h, ?_⟩
  exact Wk.mk2 [] 1 rfl rfl (by decide) rfl trivial ⟨rr, trivial⟩
 clear h
 rintro _ h T1 H1 hw
 replace h : M1022 () = some r_2 := h
 conv => whnf
 refine Tr.weak hw ?_
 unfold M1022 at h
 refine Tr.seq ?_
 refine rg ?_
 conv => whnf
 refine Tr.ret ?_
 conv => whnf
 cases h
 rfl
end Go.Proofs.Tryz
