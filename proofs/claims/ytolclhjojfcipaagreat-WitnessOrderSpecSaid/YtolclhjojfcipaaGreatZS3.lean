/- Contracts of functions, by program (gen.py). No condition. -/
import Derived.Test.YtolclhjojfcipaaGreatZL
import Derived.Test.YtolclhjojfcipaaGreatZM
import Derived.Test.YtolclhjojfcipaaGreatZS2
namespace Go.Proofs.Tryz
open Go Go.Abs Go.Stop
set_option maxRecDepth 8000
set_option linter.unusedVariables false
set_option linter.unusedSimpArgs false
theorem P55 (s_1 : List TRunner) (c_2 : Int) (r_3 : Bool) (h : M55 s_1 c_2 = some r_3) :
    PC prog 89 [(.ls (List.map eTRunner s_1)), (.fn 123 [(.ro [(.i .i64 c_2)])])] (fun rs => rs = [(.b r_3)]) := by
 refine PC.of_tr (cx := ⟨9, none, lay, 0⟩) layOK func89 rfl rfl rfl rfl rfl (by simp [f89]) ?_
 unfold M55 at h
 refine Tr.seq ?_
 refine rg ?_
 conv => whnf
 refine Tr.seq ?_
 refine rg ?_
 conv => whnf
 obtain ⟨r_4, hc5, h⟩ := bS h
 refine PC.ecall (P54 s_1 c_2 r_4 hc5) (fun rs hrs => ?_)
 subst hrs
 conv => whnf
 refine Tr.ret ?_
 conv => whnf
 cases h
 rfl
theorem P58 (c_1 : List TSegment) (c_2 : List (List Int)) (c_3 : List TPair) (c_4 : List TRunner) (ys : List Int) (h : M58 c_1 c_2 c_3 c_4 = some ys) (xs : YL) (hx : Rem xs (fun a => [(.i .i64 a)]) 0 ys) :
    ItC prog 122 [(.ro [(.ls (List.map eTSegment c_1)), (.ls (List.map (eL eI) c_2)), (.ls (List.map eTPair c_3)), (.ls (List.map eTRunner c_4))])] xs := by
 refine ItC.of_tr (cx := ⟨25, none, lay, 0⟩) (hx := hx) func122 rfl rfl rfl (by simp [f122]) rfl (fun l hx => ?_)
 unfold M58 at h
 refine TrY.seq ?_
 refine TrY.region layOK ?_
 conv => whnf
 refine lnS_map ?_
 conv => whnf
 refine arS_raw ?_
 conv => whnf
 refine TrY.block ?_
 refine TrY.loopM (σ := Int) (fun n s => M56 c_3 c_4 M57 n s) _ (fun s => ([(0, .yl l), (1, .d (.ro [(.ls (List.map eTSegment c_1)), (.ls (List.map (eL eI) c_2)), (.ls (List.map eTPair c_3)), (.ls (List.map eTRunner c_4))])), (8, (dI (w64 ((((c_3).length : Int)) + 1)))), (9, (dI s))], [])) (((w64 ((((c_3).length : Int)) + 1)) - 0 : Int).toNat + 1) (0) h (fun s => rfl) hx (Wk.mk2 [] 0 rfl rfl (by decide) rfl trivial ⟨rr, rr, rr, rr, trivial⟩) ?_
 clear h hx
 rintro n_7 v_6 i_15 ys_16 h hx
 replace h : M56 c_3 c_4 M57 (n_7 + 1) v_6 = some ys_16 := h
 rw [M56] at h
 refine TrY.seq ?_
 refine TrY.region layOK ?_
 conv => whnf
 refine TrY.seq ?_
 refine TrY.cond ?_
 conv => whnf
 refine cB h (fun hb10 h => ?_) (fun hb10 h => ?_)
 ·refine TrY.skip ?_
  conv => whnf
  refine TrY.seq ?_
  refine TrY.block ?_
  refine TrY.seq ?_
  refine TrY.region layOK ?_
  conv => whnf
  refine TrY.seq ?_
  refine TrY.region layOK ?_
  conv => whnf
  refine TrY.seq ?_
  refine TrY.region layOK ?_
  conv => whnf
  obtain ⟨r_11, hc12, h⟩ := bS h
  refine PC.ecall_lend ?_ ⟨_, _, func89, rfl, rfl⟩
  conv => whnf
  refine ⟨_, P55 c_4 v_6 r_11 hc12, fun rs hrs => ?_⟩
  subst hrs
  refine ⟨rfl, ?_⟩
  conv => whnf
  refine cB h (fun hb13 h => ?_) (fun hb13 h => ?_)
  ·conv => whnf
   obtain ⟨l_14, h_14, e_14⟩ := bS h
   clear h
   cases e_14
   have h := h_14
   clear h_14
   refine ylS_of hx rfl (fun gb_14 h1_14 h2_14 => ?_)
   cases gb_14
   ·have hend_14 := h2_14 rfl
    clear h1_14 h2_14 h hx
    conv => whnf
    refine ⟨rfl, ?_⟩
    conv => whnf
    refine TrY.cond ?_
    conv => whnf
    refine TrY.ret ?_
    conv => whnf
    exact hend_14
   replace hx := h1_14 rfl
   clear h1_14 h2_14
   conv => whnf
   refine ⟨rfl, ?_⟩
   conv => whnf
   refine TrY.cond ?_
   conv => whnf
   refine TrY.skip ?_
   conv => whnf
   refine TrY.region layOK ?_
   conv => whnf
   refine arS_raw ?_
   conv => whnf
   refine ⟨((w64 (v_6 + 1))), _, h, hx, ?_⟩
   exact Wk.mk2 [] 0 rfl rfl (by decide) rfl trivial ⟨rr, rr, rr, rr, trivial⟩
  conv => whnf
  refine TrY.cond ?_
  conv => whnf
  refine TrY.skip ?_
  conv => whnf
  refine TrY.region layOK ?_
  conv => whnf
  refine arS_raw ?_
  conv => whnf
  refine ⟨((w64 (v_6 + 1))), _, h, hx, ?_⟩
  exact Wk.mk2 [] 1 rfl rfl (by decide) rfl trivial ⟨rr, rr, rr, rr, trivial⟩
 refine TrY.exit ?_
 conv => whnf
 unfold M57 at h
 cases h
 exact Rem.done hx
theorem P59 (x_1 : TOutcome) (r_2 : Bool) (h : M59 x_1 = some r_2) :
    PC prog 84 [(eTOutcome x_1)] (fun rs => rs = [(.b r_2)]) := by
 refine PC.of_tr (cx := ⟨5, none, lay, 0⟩) layOK func84 rfl rfl rfl rfl rfl (by simp [f84]) ?_
 unfold M59 at h
 refine Tr.seq ?_
 refine rg ?_
 conv => whnf
 refine Tr.seq ?_
 refine rg ?_
 conv => whnf
 refine Tr.ret ?_
 conv => whnf
 cases h
 rfl
theorem P62 (s_1 : List TOutcome) (r_2 : Int) (h : M62 s_1 = some r_2) :
    PC prog 63 [(.ls (List.map eTOutcome s_1)), (.fn 84 [])] (fun rs => rs = [(.i .i64 r_2)]) := by
 refine PC.of_tr (cx := ⟨19, none, lay, 0⟩) layOK func63 rfl rfl rfl rfl rfl (by simp [f63]) ?_
 unfold M62 at h
 refine Tr.seq ?_
 refine rg ?_
 conv => whnf
 refine Tr.seq ?_
 refine Tr.seq ?_
 refine rg ?_
 conv => whnf
 refine lnS_map ?_
 conv => whnf
 refine Tr.cutQ (α := Unit) (fun s => ([(4, (dI 0))], [])) (fun s => M61 s = some r_2) ?_ ?_
 ·refine Tr.block ?_
  refine Tr.loopM (σ := Int) (fun n s => M60 s_1 M61 n s) r_2 (fun s => ([(0, .d (.ls (List.map eTOutcome s_1))), (1, .d (.fn 84 [])), (4, (dI 0)), (7, (dI (((s_1).length : Int)))), (8, (dI s))], [])) (((((s_1).length : Int)) - 0 : Int).toNat + 1) (0) h (fun s => rfl) (Wk.mk2 [] 0 rfl rfl (by decide) rfl trivial ⟨rr, rr, rr, rr, rr, trivial⟩) ?_
  clear h
  rintro n_5 v_4 h
  replace h : M60 s_1 M61 (n_5 + 1) v_4 = some r_2 := h
  rw [M60] at h
  refine Tr.seq ?_
  refine rg ?_
  conv => whnf
  refine Tr.seq ?_
  refine Tr.cond ?_
  conv => whnf
  refine cB h (fun hb8 h => ?_) (fun hb8 h => ?_)
  ·refine Tr.skip ?_
   conv => whnf
   refine Tr.seq ?_
   refine Tr.block ?_
   refine Tr.seq ?_
   refine rg ?_
   conv => whnf
   refine Tr.seq ?_
   refine rg ?_
   conv => whnf
   obtain ⟨x_9, hx_9, h⟩ := bS h
   refine ixP_of hx_9 ?_
   conv => whnf
   obtain ⟨r_10, hc11, h⟩ := bS h
   refine PC.ecall (P59 x_9 r_10 hc11) (fun rs hrs => ?_)
   subst hrs
   conv => whnf
   refine Tr.cond ?_
   conv => whnf
   refine cB h (fun hb12 h => ?_) (fun hb12 h => ?_)
   ·refine Tr.seq ?_
    refine rg ?_
    conv => whnf
    refine Tr.ret ?_
    conv => whnf
    cases h
    rfl
   refine Tr.skip ?_
   conv => whnf
   refine rg ?_
   conv => whnf
   refine arS_raw ?_
   conv => whnf
   refine ⟨((w64 (v_4 + 1))), h, ?_⟩
   exact Wk.mk2 [] 0 rfl rfl (by decide) rfl trivial ⟨rr, rr, rr, rr, rr, trivial⟩
  refine Tr.exit ?_
  conv => whnf
  refine ⟨(), h, ?_⟩
  exact Wk.mk2 [] 0 rfl rfl (by decide) rfl trivial ⟨rr, trivial⟩
 clear h
 rintro _ h T1 H1 hw
 replace h : M61 () = some r_2 := h
 conv => whnf
 refine Tr.weak hw ?_
 unfold M61 at h
 refine Tr.seq ?_
 refine rg ?_
 conv => whnf
 refine Tr.ret ?_
 conv => whnf
 cases h
 rfl
theorem P63 (s_1 : List TOutcome) (r_2 : Bool) (h : M63 s_1 = some r_2) :
    PC prog 51 [(.ls (List.map eTOutcome s_1)), (.fn 84 [])] (fun rs => rs = [(.b r_2)]) := by
 refine PC.of_tr (cx := ⟨9, none, lay, 0⟩) layOK func51 rfl rfl rfl rfl rfl (by simp [f51]) ?_
 unfold M63 at h
 refine Tr.seq ?_
 refine rg ?_
 conv => whnf
 refine Tr.seq ?_
 refine rg ?_
 conv => whnf
 obtain ⟨r_3, hc4, h⟩ := bS h
 refine PC.ecall (P62 s_1 r_3 hc4) (fun rs hrs => ?_)
 subst hrs
 conv => whnf
 refine Tr.ret ?_
 conv => whnf
 cases h
 rfl
theorem P64 (h : M64 = some ()) :
    PC prog 62 [] (fun rs => rs = [(.ag [(.fn 101 []), (.fn 102 []), (.fn 103 []), (.fn 104 [])])]) := by
 refine PC.of_tr (cx := ⟨2, none, lay, 0⟩) layOK func62 rfl rfl rfl rfl rfl (by simp [f62]) ?_
 unfold M64 at h
 refine Tr.seq ?_
 refine rg ?_
 conv => whnf
 refine Tr.seq ?_
 refine rg ?_
 conv => whnf
 refine Tr.ret ?_
 conv => whnf
theorem P65 (n_1 : Int) (m_2 : Int) (r_3 : Bool) (h : M65 n_1 m_2 = some r_3) :
    PC prog 104 [(.i .i64 n_1), (.i .i64 m_2)] (fun rs => rs = [(.b r_3)]) := by
 refine PC.of_tr (cx := ⟨8, none, lay, 0⟩) layOK func104 rfl rfl rfl rfl rfl (by simp [f104]) ?_
 unfold M65 at h
 refine Tr.seq ?_
 refine rg ?_
 conv => whnf
 refine Tr.seq ?_
 refine rg ?_
 conv => whnf
 refine Tr.ret ?_
 conv => whnf
 cases h
 rfl
theorem P66 (x_1 : TOutcome) (r_2 : Int) (h : M66 x_1 = some r_2) :
    PC prog 102 [(eTOutcome x_1)] (fun rs => rs = [(.i .i64 r_2)]) := by
 refine PC.of_tr (cx := ⟨5, none, lay, 0⟩) layOK func102 rfl rfl rfl rfl rfl (by simp [f102]) ?_
 unfold M66 at h
 refine Tr.seq ?_
 refine rg ?_
 conv => whnf
 refine Tr.seq ?_
 refine rg ?_
 conv => whnf
 refine Tr.ret ?_
 conv => whnf
 cases h
 rfl
theorem P67 (far_1 : List (List Int)) (a_2 : Int) (b_3 : Int) (r_4 : Int) (h : M67 far_1 a_2 b_3 = some r_4) :
    PC prog 103 [(.ls (List.map (eL eI) far_1)), (.i .i64 a_2), (.i .i64 b_3)] (fun rs => rs = [(.i .i64 r_4)]) := by
 refine PC.of_tr (cx := ⟨14, none, lay, 0⟩) layOK func103 rfl rfl rfl rfl rfl (by simp [f103]) ?_
 unfold M67 at h
 refine Tr.seq ?_
 refine rg ?_
 conv => whnf
 refine Tr.seq ?_
 refine rg ?_
 conv => whnf
 obtain ⟨x_5, hx_5, h⟩ := bS h
 refine ixP_of hx_5 ?_
 conv => whnf
 obtain ⟨x_6, hx_6, h⟩ := bS h
 refine ixP_of hx_6 ?_
 conv => whnf
 refine Tr.ret ?_
 conv => whnf
 cases h
 rfl
theorem P68 (x_1 : TOutcome) (r_2 : Int) (h : M68 x_1 = some r_2) :
    PC prog 101 [(eTOutcome x_1)] (fun rs => rs = [(.i .i64 r_2)]) := by
 refine PC.of_tr (cx := ⟨5, none, lay, 0⟩) layOK func101 rfl rfl rfl rfl rfl (by simp [f101]) ?_
 unfold M68 at h
 refine Tr.seq ?_
 refine rg ?_
 conv => whnf
 refine Tr.seq ?_
 refine rg ?_
 conv => whnf
 refine Tr.ret ?_
 conv => whnf
 cases h
 rfl
theorem P71 (s_1 : List Int) (s_2 : List Int) (r_3 : Int) (h : M71 s_1 s_2 = some r_3) :
    PC prog 95 [(.ls (List.map eI s_1)), (.ls (List.map eI s_2))] (fun rs => rs = [(.i .i64 r_3)]) := by
 refine PC.of_tr (cx := ⟨36, none, lay, 0⟩) layOK func95 rfl rfl rfl rfl rfl (by simp [f95]) ?_
 unfold M71 at h
 refine Tr.seq ?_
 refine rg ?_
 conv => whnf
 refine Tr.seq ?_
 refine Tr.seq ?_
 refine rg ?_
 conv => whnf
 refine lnS_map ?_
 conv => whnf
 refine Tr.cutQ (α := Unit) (fun s => ([(0, .d (.ls (List.map eI s_1))), (1, .d (.ls (List.map eI s_2))), (4, (dI 0))], [])) (fun s => M70 s_1 s_2 s = some r_3) ?_ ?_
 ·refine Tr.block ?_
  refine Tr.loopM (σ := Int) (fun n s => M69 s_1 s_2 (M70 s_1 s_2) n s) r_3 (fun s => ([(0, .d (.ls (List.map eI s_1))), (1, .d (.ls (List.map eI s_2))), (4, (dI 0)), (9, .d (.ls (List.map eI s_1))), (10, (dI (((s_1).length : Int)))), (11, (dI s))], [])) (((((s_1).length : Int)) - 0 : Int).toNat + 1) (0) h (fun s => rfl) (Wk.mk2 [] 0 rfl rfl (by decide) rfl trivial ⟨rr, rr, rr, rr, rr, rr, trivial⟩) ?_
  clear h
  rintro n_6 v_5 h
  replace h : M69 s_1 s_2 (M70 s_1 s_2) (n_6 + 1) v_5 = some r_3 := h
  rw [M69] at h
  refine Tr.seq ?_
  refine rg ?_
  conv => whnf
  refine Tr.seq ?_
  refine Tr.cond ?_
  conv => whnf
  refine cB h (fun hb9 h => ?_) (fun hb9 h => ?_)
  ·refine Tr.skip ?_
   conv => whnf
   refine Tr.seq ?_
   refine Tr.block ?_
   refine Tr.seq ?_
   refine rg ?_
   conv => whnf
   obtain ⟨x_10, hx_10, h⟩ := bS h
   refine ixP_of hx_10 ?_
   conv => whnf
   refine Tr.seq ?_
   refine Tr.seq ?_
   refine rg ?_
   conv => whnf
   refine lnS_map ?_
   conv => whnf
   refine Tr.cond ?_
   conv => whnf
   refine cB h (fun hb11 h => ?_) (fun hb11 h => ?_)
   ·refine Tr.seq ?_
    refine rg ?_
    conv => whnf
    refine Tr.ret ?_
    conv => whnf
    cases h
    rfl
   refine Tr.skip ?_
   conv => whnf
   refine Tr.seq ?_
   refine rg ?_
   conv => whnf
   obtain ⟨x_12, hx_12, h⟩ := bS h
   refine ixP_of hx_12 ?_
   conv => whnf
   refine Tr.seq ?_
   refine rg ?_
   conv => whnf
   obtain ⟨r_13, hc14, h⟩ := bS h
   refine PC.ecall (P4 x_10 x_12 r_13 hc14) (fun rs hrs => ?_)
   subst hrs
   conv => whnf
   refine Tr.seq ?_
   refine rg ?_
   conv => whnf
   refine Tr.cond ?_
   conv => whnf
   refine cB h (fun hb15 h => ?_) (fun hb15 h => ?_)
   ·refine Tr.seq ?_
    refine rg ?_
    conv => whnf
    refine Tr.ret ?_
    conv => whnf
    cases h
    rfl
   refine Tr.skip ?_
   conv => whnf
   refine rg ?_
   conv => whnf
   refine arS_raw ?_
   conv => whnf
   refine ⟨((w64 (v_5 + 1))), h, ?_⟩
   exact Wk.mk2 [] 0 rfl rfl (by decide) rfl trivial ⟨rr, rr, rr, rr, rr, rr, trivial⟩
  refine Tr.exit ?_
  conv => whnf
  refine ⟨(), h, ?_⟩
  exact Wk.mk2 [] 0 rfl rfl (by decide) rfl trivial ⟨rr, rr, rr, trivial⟩
 clear h
 rintro _ h T1 H1 hw
 replace h : M70 s_1 s_2 () = some r_3 := h
 conv => whnf
 refine Tr.weak hw ?_
 unfold M70 at h
 refine Tr.seq ?_
 refine Tr.seq ?_
 refine rg ?_
 conv => whnf
 refine lnS_map ?_
 conv => whnf
 refine lnS_map ?_
 conv => whnf
 refine Tr.cond ?_
 conv => whnf
 refine cB h (fun hb16 h => ?_) (fun hb16 h => ?_)
 ·refine Tr.seq ?_
  refine rg ?_
  conv => whnf
  refine Tr.ret ?_
  conv => whnf
  cases h
  rfl
 refine Tr.skip ?_
 conv => whnf
 refine Tr.seq ?_
 refine rg ?_
 conv => whnf
 refine Tr.ret ?_
 conv => whnf
 cases h
 rfl
theorem P72 (f_1 : TField) (runner_2 : Int) (x_3 : TOutcome) (rival_4 : Int) (y_5 : TOutcome) (r_6 : Bool) (h : M72 f_1 runner_2 x_3 rival_4 y_5 = some r_6) :
    PC prog 145 [(.ag [(.fn 101 []), (.fn 102 []), (.fn 103 []), (.fn 104 [])]), (eTField f_1), (.i .i64 runner_2), (eTOutcome x_3), (.i .i64 rival_4), (eTOutcome y_5)] (fun rs => rs = [(.b r_6)]) := by
 refine PC.of_tr (cx := ⟨60, none, lay, 0⟩) layOK func145 rfl rfl rfl rfl rfl (by simp [f145]) ?_
 unfold M72 at h
 refine Tr.seq ?_
 refine rg ?_
 conv => whnf
 refine Tr.seq ?_
 refine Tr.seq ?_
 refine rg ?_
 conv => whnf
 refine Tr.cond ?_
 conv => whnf
 refine cB h (fun hb7 h => ?_) (fun hb7 h => ?_)
 ·refine Tr.seq ?_
  refine rg ?_
  conv => whnf
  refine Tr.ret ?_
  conv => whnf
  cases h
  rfl
 refine Tr.skip ?_
 conv => whnf
 refine Tr.seq ?_
 refine Tr.draw (DrawP.seqQ layOK mixed [] [(0, 3), (1, 3), (2, 6), (3, 1), (4, 3), (5, 3), (6, 4), (7, 4), (8, 4), (9, 5), (10, 5), (11, 1), (12, 6), (13, 6), (14, 1), (15, 1), (16, 1), (17, 3), (18, 3), (19, 5), (20, 1), (21, 1), (22, 1)] (by kernel_rfl) ?_)
 conv => whnf
 refine ⟨_, ⟨rfl, rfl, rr⟩, ?_⟩
 conv => whnf
 refine ⟨_, ⟨rfl, rfl, rr⟩, ?_⟩
 conv => whnf
 refine ⟨_, ⟨rfl, rfl, rr⟩, ?_⟩
 conv => whnf
 obtain ⟨r_8, hc9, h⟩ := bS h
 refine ⟨_, (fun _ => by (conv => whnf); (refine PC.ecall (P66 y_5 r_8 hc9) (fun rs hrs => ?_)); (subst hrs); (conv => whnf); (exact rr)), ?_⟩
 conv => whnf
 refine ⟨_, ⟨rfl, rfl, rr⟩, ?_⟩
 conv => whnf
 refine ⟨_, ⟨rfl, rfl, rr⟩, ?_⟩
 conv => whnf
 refine ⟨_, ⟨rfl, rfl, rr⟩, ?_⟩
 conv => whnf
 refine ⟨_, ⟨rfl, rfl, rr⟩, ?_⟩
 conv => whnf
 refine ⟨_, ⟨rfl, rfl, rr⟩, ?_⟩
 conv => whnf
 refine ⟨_, ⟨rfl, rfl, rr⟩, ?_⟩
 conv => whnf
 refine ⟨_, ⟨rfl, rfl, rr⟩, ?_⟩
 conv => whnf
 refine ⟨_, (fun _ => by (conv => whnf); (refine arS_raw ?_); (conv => whnf); (exact rr)), ?_⟩
 conv => whnf
 refine ⟨_, ⟨rfl, rfl, rr⟩, ?_⟩
 conv => whnf
 refine ⟨_, ⟨rfl, rfl, rr⟩, ?_⟩
 conv => whnf
 refine ⟨_, (fun _ => by (conv => whnf); (refine arS_raw ?_); (conv => whnf); (exact rr)), ?_⟩
 conv => whnf
 obtain ⟨r_10, hc11, h⟩ := bS h
 refine ⟨_, (fun _ => by (conv => whnf); (refine PC.ecall (P67 f_1.Clocks.Far ((w64 (x_3.Seg + 1))) ((w64 (y_5.Seg + 1))) r_10 hc11) (fun rs hrs => ?_)); (subst hrs); (conv => whnf); (exact rr)), ?_⟩
 conv => whnf
 refine ⟨_, (fun _ => by (conv => whnf); (refine arS_raw ?_); (conv => whnf); (exact rr)), ?_⟩
 conv => whnf
 refine ⟨_, ⟨rfl, rfl, rr⟩, ?_⟩
 conv => whnf
 refine ⟨_, ⟨rfl, rfl, rr⟩, ?_⟩
 conv => whnf
 refine ⟨_, ⟨rfl, rfl, rr⟩, ?_⟩
 conv => whnf
 obtain ⟨r_12, hc13, h⟩ := bS h
 refine ⟨_, (fun _ => by (conv => whnf); (refine PC.ecall (P68 x_3 r_12 hc13) (fun rs hrs => ?_)); (subst hrs); (conv => whnf); (exact rr)), ?_⟩
 conv => whnf
 refine ⟨_, (fun _ => by (conv => whnf); (refine arS_raw ?_); (conv => whnf); (exact rr)), ?_⟩
 conv => whnf
 refine ⟨_, (fun _ => rr), ?_⟩
 conv => whnf
 refine Tr.seq ?_
 refine Tr.draw (DrawP.seqQ layOK mixed [] [(0, 1), (1, 1), (2, 1), (3, 1), (4, 1), (5, 1), (6, 4), (7, 4), (8, 1), (9, 2), (10, 2), (11, 2), (12, 4), (13, 4), (14, 1), (15, 2), (16, 2), (17, 2), (18, 1), (19, 1), (20, 1), (21, 1), (22, 1)] (by kernel_rfl) ?_)
 conv => whnf
 refine ⟨_, (fun _ => rr), ?_⟩
 conv => whnf
 refine ⟨_, (fun _ => rr), ?_⟩
 conv => whnf
 refine ⟨_, (fun _ => rr), ?_⟩
 conv => whnf
 refine cB h (fun hb14 h => ?_) (fun hb14 h => ?_)
 ·conv => whnf
  refine ⟨_, (fun _ => rr), ?_⟩
  conv => whnf
  refine ⟨_, (fun _ => rr), ?_⟩
  conv => whnf
  refine Tr.ret ?_
  conv => whnf
  cases h
  rfl
 conv => whnf
 refine ⟨_, (fun _ => rr), ?_⟩
 conv => whnf
 refine ⟨_, (fun _ => rr), ?_⟩
 conv => whnf
 refine ⟨_, (fun _ => rr), ?_⟩
 conv => whnf
 refine cB h (fun hb15 h => ?_) (fun hb15 h => ?_)
 ·conv => whnf
  refine ⟨_, ⟨rfl, rfl, rr⟩, ?_⟩
  conv => whnf
  refine ⟨_, ⟨rfl, rfl, rr⟩, ?_⟩
  conv => whnf
  refine ⟨_, (fun _ => rr), ?_⟩
  conv => whnf
  obtain ⟨x_16, hx_16, h⟩ := bS h
  refine ⟨_, ⟨rfl, rfl, (by (conv => whnf); (refine ixP_of hx_16 ?_); (conv => whnf); (exact rr))⟩, ?_⟩
  conv => whnf
  refine ⟨_, ⟨rfl, rfl, rr⟩, ?_⟩
  conv => whnf
  refine ⟨_, ⟨rfl, rfl, rr⟩, ?_⟩
  conv => whnf
  refine ⟨_, ⟨rfl, rfl, rr⟩, ?_⟩
  conv => whnf
  refine ⟨_, ⟨rfl, rfl, rr⟩, ?_⟩
  conv => whnf
  refine ⟨_, (fun _ => rr), ?_⟩
  conv => whnf
  obtain ⟨x_17, hx_17, h⟩ := bS h
  refine ⟨_, ⟨rfl, rfl, (by (conv => whnf); (refine ixP_of hx_17 ?_); (conv => whnf); (exact rr))⟩, ?_⟩
  conv => whnf
  refine ⟨_, ⟨rfl, rfl, rr⟩, ?_⟩
  conv => whnf
  refine ⟨_, ⟨rfl, rfl, rr⟩, ?_⟩
  conv => whnf
  obtain ⟨r_18, hc19, h⟩ := bS h
  refine ⟨_, (fun _ => by (conv => whnf); (refine PC.ecall (P71 x_16.Keys x_17.Keys r_18 hc19) (fun rs hrs => ?_)); (subst hrs); (conv => whnf); (exact rr)), ?_⟩
  conv => whnf
  refine ⟨_, (fun _ => rr), ?_⟩
  conv => whnf
  refine ⟨_, (fun _ => rr), ?_⟩
  conv => whnf
  refine ⟨_, (fun _ => rr), ?_⟩
  conv => whnf
  refine ⟨_, (fun _ => rr), ?_⟩
  conv => whnf
  refine Tr.ret ?_
  conv => whnf
  cases h
  rfl
 conv => whnf
 refine ⟨_, (fun _ => rr), ?_⟩
 conv => whnf
 refine ⟨_, (fun _ => rr), ?_⟩
 conv => whnf
 refine ⟨_, (fun _ => rr), ?_⟩
 conv => whnf
 refine Tr.ret ?_
 conv => whnf
 cases h
 rfl
end Go.Proofs.Tryz
