/- Contracts of functions, by program (gen.py). No condition. -/
import Derived.Test.YtolclhjojfcipaaGreatZL
import Derived.Test.YtolclhjojfcipaaGreatZM
import Derived.Test.YtolclhjojfcipaaGreatZS4
namespace Go.Proofs.Tryz
open Go Go.Abs Go.Stop
set_option maxRecDepth 8000
set_option linter.unusedVariables false
set_option linter.unusedSimpArgs false
theorem P100 (f_1 : TField) (runner_2 : Int) (r_3 : THistory) (r_4 : Bool) (r_5 : Int) (h : M100 f_1 runner_2 = some (r_3, r_4, r_5)) :
    PC prog 61 [(.ag [(.fn 101 []), (.fn 102 []), (.fn 103 []), (.fn 104 [])]), (eTField f_1), (.i .i64 runner_2)] (fun rs => rs = [(eTHistory r_3), (.b r_4), (.i .i64 r_5)]) := by
 refine PC.of_tr (cx := ⟨34, none, lay, 0⟩) layOK func61 rfl rfl rfl rfl rfl (by simp [f61]) ?_
 unfold M100 at h
 refine Tr.seq ?_
 refine rg ?_
 conv => whnf
 refine Tr.seq ?_
 refine Tr.seq ?_
 refine rg ?_
 conv => whnf
 refine orB_r ?_
 conv => whnf
 obtain ⟨r_6, hc7, h⟩ := bS h
 refine PC.ecall (P49 f_1 ((([runner_2] : List Int))) r_6 hc7) (fun rs hrs => ?_)
 subst hrs
 conv => whnf
 refine Tr.seq ?_
 refine rg ?_
 conv => whnf
 refine Tr.cond ?_
 conv => whnf
 refine cB h (fun hb8 h => ?_) (fun hb8 h => ?_)
 ·refine Tr.seq ?_
  refine rg ?_
  conv => whnf
  refine orB_l ?_
  conv => whnf
  refine Tr.ret ?_
  conv => whnf
  cases h
  rfl
 refine Tr.skip ?_
 conv => whnf
 refine Tr.seq ?_
 refine rg ?_
 conv => whnf
 obtain ⟨⟨r_9, r_10⟩, hc11, h⟩ := bS h
 refine PC.ecall (P79 f_1 runner_2 r_9 r_10 hc11) (fun rs hrs => ?_)
 subst hrs
 conv => whnf
 refine Tr.seq ?_
 refine Tr.seq ?_
 refine rg ?_
 conv => whnf
 refine Tr.cond ?_
 conv => whnf
 refine cB h (fun hb12 h => ?_) (fun hb12 h => ?_)
 ·refine Tr.seq ?_
  refine rg ?_
  conv => whnf
  refine orB_l ?_
  conv => whnf
  refine Tr.ret ?_
  conv => whnf
  cases h
  rfl
 refine Tr.skip ?_
 conv => whnf
 refine Tr.seq ?_
 refine rg ?_
 conv => whnf
 obtain ⟨r_13, hc14, h⟩ := bS h
 refine PC.ecall (P99 f_1 runner_2 r_9 r_13 hc14) (fun rs hrs => ?_)
 subst hrs
 conv => whnf
 refine Tr.ret ?_
 conv => whnf
 cases h
 rfl
theorem P101 (f_1 : TField) (runner_2 : Int) (r_3 : THistory) (r_4 : Bool) (r_5 : Int) (h : M101 f_1 runner_2 = some (r_3, r_4, r_5)) :
    PC prog 30 [(eTField f_1), (.i .i64 runner_2)] (fun rs => rs = [(eTHistory r_3), (.b r_4), (.i .i64 r_5)]) := by
 refine PC.of_tr (cx := ⟨14, none, lay, 0⟩) layOK func30 rfl rfl rfl rfl rfl (by simp [f30]) ?_
 unfold M101 at h
 refine Tr.seq ?_
 refine rg ?_
 conv => whnf
 refine Tr.seq ?_
 refine Tr.draw (DrawP.seqQ layOK mixed [(7, 1)] [(0, 1), (1, 3), (2, 1), (3, 1), (4, 1), (5, 1), (6, 1), (7, 0), (8, 1), (9, 1)] (by kernel_rfl) ?_)
 conv => whnf
 obtain ⟨_, hc6, h⟩ := bS h
 refine ⟨_, (fun _ => by (conv => whnf); (refine PC.ecall (P64  hc6) (fun rs hrs => ?_)); (subst hrs); (conv => whnf); (exact rr)), ?_⟩
 conv => whnf
 refine ⟨_, ⟨rfl, rfl, rr⟩, ?_⟩
 conv => whnf
 refine ⟨_, (fun _ => rr), ?_⟩
 conv => whnf
 obtain ⟨⟨r_7, r_8, r_9⟩, hc10, h⟩ := bS h
 refine ⟨_, (fun _ => by (conv => whnf); (refine PC.ecall (P100 f_1 runner_2 r_7 r_8 r_9 hc10) (fun rs hrs => ?_)); (subst hrs); (conv => whnf); (exact rr)), ?_⟩
 conv => whnf
 refine ⟨_, (fun _ => rr), ?_⟩
 conv => whnf
 refine ⟨_, (fun _ => rr), ?_⟩
 conv => whnf
 refine ⟨_, (fun _ => rr), ?_⟩
 conv => whnf
 refine ⟨_, _, rr, kp_ok (by repeat (first | exact trivial | refine ⟨trivial, ?_⟩ | refine ⟨rfl, ?_⟩)), ?_⟩
 conv => whnf
 refine ⟨_, (fun _ => rr), ?_⟩
 conv => whnf
 refine ⟨_, (fun _ => rr), ?_⟩
 conv => whnf
 refine Tr.ret ?_
 conv => whnf
 cases h
 rfl
theorem P102 (f_1 : TField) (c_2 : List TSegment) (c_3 : List (List Int)) (c_4 : List TPair) (c_5 : List TRunner) (h : M102 f_1 = some (c_2, c_3, c_4, c_5)) :
    PC prog 50 [(eTField f_1)] (fun rs => rs = [(.fn 88 [(.ro [(.ls (List.map eTSegment c_2)), (.ls (List.map (eL eI) c_3)), (.ls (List.map eTPair c_4)), (.ls (List.map eTRunner c_5))])])]) := by
 refine PC.of_tr (cx := ⟨4, none, lay, 0⟩) layOK func50 rfl rfl rfl rfl rfl (by simp [f50]) ?_
 unfold M102 at h
 refine Tr.seq ?_
 refine rg ?_
 conv => whnf
 refine Tr.seq ?_
 refine rg ?_
 conv => whnf
 refine Tr.ret ?_
 conv => whnf
 cases h
 rfl
theorem P103 (r_1 : TRunner) (c_2 : Int) (r_3 : Bool) (h : M103 r_1 c_2 = some r_3) :
    PC prog 90 [(eTRunner r_1), (.ro [(.i .i64 c_2)])] (fun rs => rs = [(.b r_3)]) := by
 refine PC.of_tr (cx := ⟨11, none, lay, 0⟩) layOK func90 rfl rfl rfl rfl rfl (by simp [f90]) ?_
 unfold M103 at h
 refine Tr.seq ?_
 refine rg ?_
 conv => whnf
 refine Tr.seq ?_
 refine rg ?_
 conv => whnf
 obtain ⟨x_4, hx_4, h⟩ := bS h
 refine ixP_of hx_4 ?_
 conv => whnf
 refine lnS_map ?_
 conv => whnf
 refine Tr.ret ?_
 conv => whnf
 cases h
 rfl
theorem P106 (s_1 : List TRunner) (c_2 : Int) (r_3 : Int) (h : M106 s_1 c_2 = some r_3) :
    PC prog 86 [(.ls (List.map eTRunner s_1)), (.fn 90 [(.ro [(.i .i64 c_2)])])] (fun rs => rs = [(.i .i64 r_3)]) := by
 refine PC.of_tr (cx := ⟨19, none, lay, 0⟩) layOK func86 rfl rfl rfl rfl rfl (by simp [f86]) ?_
 unfold M106 at h
 refine Tr.seq ?_
 refine rg ?_
 conv => whnf
 refine Tr.seq ?_
 refine Tr.seq ?_
 refine rg ?_
 conv => whnf
 refine lnS_map ?_
 conv => whnf
 refine Tr.cutQ (α := Unit) (fun s => ([(4, (dI 0))], [])) (fun s => M105 s = some r_3) ?_ ?_
 ·refine Tr.block ?_
  refine Tr.loopM (σ := Int) (fun n s => M104 s_1 c_2 M105 n s) r_3 (fun s => ([(0, .d (.ls (List.map eTRunner s_1))), (1, .d (.fn 90 [(.ro [(.i .i64 c_2)])])), (4, (dI 0)), (7, (dI (((s_1).length : Int)))), (8, (dI s))], [])) (((((s_1).length : Int)) - 0 : Int).toNat + 1) (0) h (fun s => rfl) (Wk.mk2 [] 0 rfl rfl (by decide) rfl trivial ⟨rr, rr, rr, rr, rr, trivial⟩) ?_
  clear h
  rintro n_6 v_5 h
  replace h : M104 s_1 c_2 M105 (n_6 + 1) v_5 = some r_3 := h
  rw [M104] at h
  refine Tr.seq ?_
  refine rg ?_
  conv => whnf
  refine Tr.seq ?_
  refine Tr.cond ?_
  conv => whnf
  refine cB h (fun hb9 h => ?_) (fun hb9 h => ?_)
  ·refine Tr.skip ?_
   conv => whnf
   refine Tr.seq ?_
   refine Tr.block ?_
   refine Tr.seq ?_
   refine rg ?_
   conv => whnf
   refine Tr.seq ?_
   refine rg ?_
   conv => whnf
   obtain ⟨x_10, hx_10, h⟩ := bS h
   refine ixP_of hx_10 ?_
   conv => whnf
   obtain ⟨r_11, hc12, h⟩ := bS h
   refine PC.ecall (P103 x_10 c_2 r_11 hc12) (fun rs hrs => ?_)
   subst hrs
   conv => whnf
   refine Tr.cond ?_
   conv => whnf
   refine cB h (fun hb13 h => ?_) (fun hb13 h => ?_)
   ·refine Tr.seq ?_
    refine rg ?_
    conv => whnf
    refine Tr.ret ?_
    conv => whnf
    cases h
    rfl
   refine Tr.skip ?_
   conv => whnf
   refine rg ?_
   conv => whnf
   refine arS_raw ?_
   conv => whnf
   refine ⟨((w64 (v_5 + 1))), h, ?_⟩
   exact Wk.mk2 [] 0 rfl rfl (by decide) rfl trivial ⟨rr, rr, rr, rr, rr, trivial⟩
  refine Tr.exit ?_
  conv => whnf
  refine ⟨(), h, ?_⟩
  exact Wk.mk2 [] 0 rfl rfl (by decide) rfl trivial ⟨rr, trivial⟩
 clear h
 rintro _ h T1 H1 hw
 replace h : M105 () = some r_3 := h
 conv => whnf
 refine Tr.weak hw ?_
 unfold M105 at h
 refine Tr.seq ?_
 refine rg ?_
 conv => whnf
 refine Tr.ret ?_
 conv => whnf
 cases h
 rfl
theorem P107 (s_1 : List TRunner) (c_2 : Int) (r_3 : Bool) (h : M107 s_1 c_2 = some r_3) :
    PC prog 89 [(.ls (List.map eTRunner s_1)), (.fn 90 [(.ro [(.i .i64 c_2)])])] (fun rs => rs = [(.b r_3)]) := by
 refine PC.of_tr (cx := ⟨9, none, lay, 0⟩) layOK func89 rfl rfl rfl rfl rfl (by simp [f89]) ?_
 unfold M107 at h
 refine Tr.seq ?_
 refine rg ?_
 conv => whnf
 refine Tr.seq ?_
 refine rg ?_
 conv => whnf
 obtain ⟨r_4, hc5, h⟩ := bS h
 refine PC.ecall (P106 s_1 c_2 r_4 hc5) (fun rs hrs => ?_)
 subst hrs
 conv => whnf
 refine Tr.ret ?_
 conv => whnf
 cases h
 rfl
theorem P110 (c_1 : List TSegment) (c_2 : List (List Int)) (c_3 : List TPair) (c_4 : List TRunner) (ys : List Int) (h : M110 c_1 c_2 c_3 c_4 = some ys) (xs : YL) (hx : Rem xs (fun a => [(.i .i64 a)]) 0 ys) :
    ItC prog 88 [(.ro [(.ls (List.map eTSegment c_1)), (.ls (List.map (eL eI) c_2)), (.ls (List.map eTPair c_3)), (.ls (List.map eTRunner c_4))])] xs := by
 refine ItC.of_tr (cx := ⟨25, none, lay, 0⟩) (hx := hx) func88 rfl rfl rfl (by simp [f88]) rfl (fun l hx => ?_)
 unfold M110 at h
 refine TrY.seq ?_
 refine TrY.region layOK ?_
 conv => whnf
 refine lnS_map ?_
 conv => whnf
 refine arS_raw ?_
 conv => whnf
 refine TrY.block ?_
 refine TrY.loopM (σ := Int) (fun n s => M108 c_3 c_4 M109 n s) _ (fun s => ([(0, .yl l), (1, .d (.ro [(.ls (List.map eTSegment c_1)), (.ls (List.map (eL eI) c_2)), (.ls (List.map eTPair c_3)), (.ls (List.map eTRunner c_4))])), (8, (dI (w64 ((((c_3).length : Int)) + 1)))), (9, (dI s))], [])) (((w64 ((((c_3).length : Int)) + 1)) - 0 : Int).toNat + 1) (0) h (fun s => rfl) hx (Wk.mk2 [] 0 rfl rfl (by decide) rfl trivial ⟨rr, rr, rr, rr, trivial⟩) ?_
 clear h hx
 rintro n_7 v_6 i_15 ys_16 h hx
 replace h : M108 c_3 c_4 M109 (n_7 + 1) v_6 = some ys_16 := h
 rw [M108] at h
 refine TrY.seq ?_
 refine TrY.region layOK ?_
 conv => whnf
 refine TrY.seq ?_
 refine TrY.cond ?_
 conv => whnf
 refine cB h (fun hb10 h => ?_) (fun hb10 h => ?_)
 ·refine TrY.skip ?_
  conv => whnf
  refine TrY.seq ?_
  refine TrY.block ?_
  refine TrY.seq ?_
  refine TrY.region layOK ?_
  conv => whnf
  refine TrY.seq ?_
  refine TrY.region layOK ?_
  conv => whnf
  obtain ⟨r_11, hc12, h⟩ := bS h
  refine PC.ecall_lend ?_ ⟨_, _, func89, rfl, rfl⟩
  conv => whnf
  refine ⟨_, P107 c_4 v_6 r_11 hc12, fun rs hrs => ?_⟩
  subst hrs
  refine ⟨rfl, ?_⟩
  conv => whnf
  refine TrY.seq ?_
  refine TrY.region layOK ?_
  conv => whnf
  refine cB h (fun hb13 h => ?_) (fun hb13 h => ?_)
  ·conv => whnf
   obtain ⟨l_14, h_14, e_14⟩ := bS h
   clear h
   cases e_14
   have h := h_14
   clear h_14
   refine ylS_of hx rfl (fun gb_14 h1_14 h2_14 => ?_)
   cases gb_14
   ·have hend_14 := h2_14 rfl
    clear h1_14 h2_14 h hx
    conv => whnf
    refine ⟨rfl, ?_⟩
    conv => whnf
    refine TrY.cond ?_
    conv => whnf
    refine TrY.ret ?_
    conv => whnf
    exact hend_14
   replace hx := h1_14 rfl
   clear h1_14 h2_14
   conv => whnf
   refine ⟨rfl, ?_⟩
   conv => whnf
   refine TrY.cond ?_
   conv => whnf
   refine TrY.skip ?_
   conv => whnf
   refine TrY.region layOK ?_
   conv => whnf
   refine arS_raw ?_
   conv => whnf
   refine ⟨((w64 (v_6 + 1))), _, h, hx, ?_⟩
   exact Wk.mk2 [] 0 rfl rfl (by decide) rfl trivial ⟨rr, rr, rr, rr, trivial⟩
  conv => whnf
  refine TrY.cond ?_
  conv => whnf
  refine TrY.skip ?_
  conv => whnf
  refine TrY.region layOK ?_
  conv => whnf
  refine arS_raw ?_
  conv => whnf
  refine ⟨((w64 (v_6 + 1))), _, h, hx, ?_⟩
  exact Wk.mk2 [] 1 rfl rfl (by decide) rfl trivial ⟨rr, rr, rr, rr, trivial⟩
 refine TrY.exit ?_
 conv => whnf
 unfold M109 at h
 cases h
 exact Rem.done hx
theorem P111 (x_1 : TOutcome) (r_2 : Bool) (h : M111 x_1 = some r_2) :
    PC prog 64 [(eTOutcome x_1)] (fun rs => rs = [(.b r_2)]) := by
 refine PC.of_tr (cx := ⟨5, none, lay, 0⟩) layOK func64 rfl rfl rfl rfl rfl (by simp [f64]) ?_
 unfold M111 at h
 refine Tr.seq ?_
 refine rg ?_
 conv => whnf
 refine Tr.seq ?_
 refine rg ?_
 conv => whnf
 refine Tr.ret ?_
 conv => whnf
 cases h
 rfl
theorem P114 (s_1 : List TOutcome) (r_2 : Int) (h : M114 s_1 = some r_2) :
    PC prog 63 [(.ls (List.map eTOutcome s_1)), (.fn 64 [])] (fun rs => rs = [(.i .i64 r_2)]) := by
 refine PC.of_tr (cx := ⟨19, none, lay, 0⟩) layOK func63 rfl rfl rfl rfl rfl (by simp [f63]) ?_
 unfold M114 at h
 refine Tr.seq ?_
 refine rg ?_
 conv => whnf
 refine Tr.seq ?_
 refine Tr.seq ?_
 refine rg ?_
 conv => whnf
 refine lnS_map ?_
 conv => whnf
 refine Tr.cutQ (α := Unit) (fun s => ([(4, (dI 0))], [])) (fun s => M113 s = some r_2) ?_ ?_
 ·refine Tr.block ?_
  refine Tr.loopM (σ := Int) (fun n s => M112 s_1 M113 n s) r_2 (fun s => ([(0, .d (.ls (List.map eTOutcome s_1))), (1, .d (.fn 64 [])), (4, (dI 0)), (7, (dI (((s_1).length : Int)))), (8, (dI s))], [])) (((((s_1).length : Int)) - 0 : Int).toNat + 1) (0) h (fun s => rfl) (Wk.mk2 [] 0 rfl rfl (by decide) rfl trivial ⟨rr, rr, rr, rr, rr, trivial⟩) ?_
  clear h
  rintro n_5 v_4 h
  replace h : M112 s_1 M113 (n_5 + 1) v_4 = some r_2 := h
  rw [M112] at h
  refine Tr.seq ?_
  refine rg ?_
  conv => whnf
  refine Tr.seq ?_
  refine Tr.cond ?_
  conv => whnf
  refine cB h (fun hb8 h => ?_) (fun hb8 h => ?_)
  ·refine Tr.skip ?_
   conv => whnf
   refine Tr.seq ?_
   refine Tr.block ?_
   refine Tr.seq ?_
   refine rg ?_
   conv => whnf
   refine Tr.seq ?_
   refine rg ?_
   conv => whnf
   obtain ⟨x_9, hx_9, h⟩ := bS h
   refine ixP_of hx_9 ?_
   conv => whnf
   obtain ⟨r_10, hc11, h⟩ := bS h
   refine PC.ecall (P111 x_9 r_10 hc11) (fun rs hrs => ?_)
   subst hrs
   conv => whnf
   refine Tr.cond ?_
   conv => whnf
   refine cB h (fun hb12 h => ?_) (fun hb12 h => ?_)
   ·refine Tr.seq ?_
    refine rg ?_
    conv => whnf
    refine Tr.ret ?_
    conv => whnf
    cases h
    rfl
   refine Tr.skip ?_
   conv => whnf
   refine rg ?_
   conv => whnf
   refine arS_raw ?_
   conv => whnf
   refine ⟨((w64 (v_4 + 1))), h, ?_⟩
   exact Wk.mk2 [] 0 rfl rfl (by decide) rfl trivial ⟨rr, rr, rr, rr, rr, trivial⟩
  refine Tr.exit ?_
  conv => whnf
  refine ⟨(), h, ?_⟩
  exact Wk.mk2 [] 0 rfl rfl (by decide) rfl trivial ⟨rr, trivial⟩
 clear h
 rintro _ h T1 H1 hw
 replace h : M113 () = some r_2 := h
 conv => whnf
 refine Tr.weak hw ?_
 unfold M113 at h
 refine Tr.seq ?_
 refine rg ?_
 conv => whnf
 refine Tr.ret ?_
 conv => whnf
 cases h
 rfl
theorem P115 (s_1 : List Int) (r_2 : List Int) (h : M115 s_1 = some r_2) :
    PC prog 65 [(.ls (List.map eI s_1))] (fun rs => rs = [(.ls (List.map eI r_2))]) := by
 refine PC.of_tr (cx := ⟨8, none, lay, 0⟩) layOK func65 rfl rfl rfl rfl rfl (by simp [f65]) ?_
 unfold M115 at h
 refine Tr.seq ?_
 refine rg ?_
 conv => whnf
 refine Tr.seq ?_
 refine Tr.seq ?_
 refine rg ?_
 conv => whnf
 intro nb_3 hnb_3
 cases nb_3
 ·conv => whnf
  refine Tr.cond ?_
  conv => whnf
  refine Tr.skip ?_
  conv => whnf
  refine Tr.seq ?_
  refine rg ?_
  conv => whnf
  refine orB_l ?_
  conv => whnf
  refine frP_no ?_
  conv => whnf
  refine eqS_mk (by first | rfl | simp) ?_
  conv => whnf
  obtain ⟨l_4, hl_4, h⟩ := bS h
  refine apS_of hl_4 (aQ (f := eI) (l := s_1) fun _ => rfl) (by first | rfl | simp) (by first | rfl | simp) (fun he => ?_)
  conv => whnf
  refine rS (es' := List.map .d (List.map eI l_4)) (n' := List.length l_4) (by subst he; simp only [List.map_append, List.map_cons, List.map_nil, List.nil_append]; first | done | rfl) (by subst he; simp <;> omega) ?_
  clear he
  conv => whnf
  refine Tr.ret ?_
  conv => whnf
  refine frE_of (f := eI) (l := l_4) rfl ?_
  conv => whnf
  cases h
  rfl
 replace hnb_3 : s_1 = [] := by simpa using hnb_3 rfl
 subst hnb_3
 replace h : some (([] : List Int)) = some r_2 := by simpa [app] using h
 conv => whnf
 refine Tr.cond ?_
 conv => whnf
 refine Tr.seq ?_
 refine rg ?_
 conv => whnf
 refine Tr.ret ?_
 conv => whnf
 cases h
 rfl
theorem P118 (f_1 : TField) (runner_2 : Int) (r_3 : THistory) (r_4 : Bool) (h : M118 f_1 runner_2 = some (r_3, r_4)) :
    PC prog 32 [(eTField f_1), (.i .i64 runner_2)] (fun rs => rs = [(eTHistory r_3), (.b r_4)]) := by
 refine PC.of_tr (cx := ⟨66, none, lay, 0⟩) layOK func32 rfl rfl rfl rfl rfl (by simp [f32]) ?_
 unfold M118 at h
 refine Tr.seq ?_
 refine rg ?_
 conv => whnf
 refine Tr.seq ?_
 refine Tr.seq ?_
 refine rg ?_
 conv => whnf
 obtain ⟨⟨c_5, c_6, c_7, c_8⟩, hc9, h⟩ := bS h
 refine PC.ecall (P102 f_1 c_5 c_6 c_7 c_8 hc9) (fun rs hrs => ?_)
 subst hrs
 conv => whnf
 obtain ⟨l_10, hl11, h⟩ := bS h
 obtain ⟨q_46, hv42, h⟩ := bS h
 refine Tr.block ?_
 refine Tr.rangeE layOK rfl (ge := fun a => [(.i .i64 a)]) rfl (P110 c_5 c_6 c_7 c_8 l_10 hl11) (fun _ => rfl) rfl (fun s => [some (.var [.d (.ls (List.map eTSegment f_1.Clocks.Segments)), .d (.ls (List.map (eL eI) f_1.Clocks.Far)), .d (.ls (List.map eTPair f_1.Pairs)), .d (.ls (List.map eTRunner f_1.Runners))]), some (.var [(dI runner_2)]), some (.var [(dI 0), .nsl, .nsl]), some (.var [.d (.b false)])]) (fun s => [some (.var [.d (.ls (List.map eTSegment f_1.Clocks.Segments)), .d (.ls (List.map (eL eI) f_1.Clocks.Far)), .d (.ls (List.map eTPair f_1.Pairs)), .d (.ls (List.map eTRunner f_1.Runners))]), some (.var [(dI runner_2)]), some (.var [(dI s.1), .d (.ls (List.map eI s.2.1)), .sl 4 2 0 (List.length s.2.2)]), some (.var [.d (.b true)]), some (.arr 2 (List.map .d (List.map eTChoice s.2.2)))]) .ret (.inl rfl) (M117 f_1 runner_2) () q_46 hv42 (Wk.mk2 [0, 1, 2, 3] 4 rfl rfl (by decide) rfl ⟨⟨rfl, rfl⟩, ⟨rfl, rfl⟩, ⟨rfl, rfl⟩, ⟨rfl, rfl⟩, trivial⟩ trivial) ?_ ?_
 ·clear h hv42
  rintro li y_12 ⟨⟩ s_16 ha h
  replace h : (M117 f_1 runner_2) y_12 () = some s_16 := h
  unfold M117 at h
  dsimp only at h
  conv => whnf
  refine Tr.block ?_
  refine Tr.seq ?_
  refine rg ?_
  conv => whnf
  obtain ⟨x_17, hx_17, h⟩ := bS h
  refine ixP_of hx_17 ?_
  conv => whnf
  obtain ⟨x_18, hx_18, h⟩ := bS h
  refine ixP_of hx_18 ?_
  conv => whnf
  obtain ⟨r_19, hc20, h⟩ := bS h
  refine PC.ecall (P114 x_18 r_19 hc20) (fun rs hrs => ?_)
  subst hrs
  conv => whnf
  refine Tr.seq ?_
  refine Tr.seq ?_
  refine rg ?_
  conv => whnf
  refine Tr.cond ?_
  conv => whnf
  refine cB h (fun hb21 h => ?_) (fun hb21 h => ?_)
  ·refine Tr.exit ?_
   conv => whnf
   cases h
   refine ⟨rfl, ?_⟩
   exact Wk.mk2 [0, 1, 2, 3] 4 rfl rfl (by decide) rfl ⟨rr, rr, rr, rr, trivial⟩ trivial
  refine Tr.skip ?_
  conv => whnf
  refine Tr.seq ?_
  refine rg ?_
  conv => whnf
  obtain ⟨x_22, hx_22, h⟩ := bS h
  refine ixP_of hx_22 ?_
  conv => whnf
  refine szS_mk (szq_map fun _ => rfl) ?_
  conv => whnf
  obtain ⟨l_23, hl_23, h⟩ := bS h
  refine slS_from hl_23 (by simp) rfl (fun he => ?_)
  conv => whnf
  refine lsS_mk (es' := List.map eI l_23) (by subst he; simp [List.map_take, List.map_drop]) ?_
  clear he
  conv => whnf
  obtain ⟨r_24, hc25, h⟩ := bS h
  refine PC.ecall (P115 l_23 r_24 hc25) (fun rs hrs => ?_)
  subst hrs
  conv => whnf
  refine orB_l ?_
  conv => whnf
  refine Tr.seq ?_
  refine Tr.seq ?_
  refine rg ?_
  conv => whnf
  refine lnS_map ?_
  conv => whnf
  obtain ⟨l_31, hv41, h⟩ := bS h
  refine Tr.cutQ1 ([(4, .pt 2 0), (5, .pt 3 0)]) ([some (.var [.d (.ls (List.map eTSegment f_1.Clocks.Segments)), .d (.ls (List.map (eL eI) f_1.Clocks.Far)), .d (.ls (List.map eTPair f_1.Pairs)), .d (.ls (List.map eTRunner f_1.Runners))]), some (.var [(dI runner_2)]), some (.var [(dI y_12), .d (.ls (List.map eI r_24)), .sl 4 2 0 (List.length l_31)]), some (.var [.d (.b false)]), some (.arr 2 (List.map .d (List.map eTChoice l_31)))]) ?_ (fun T1 H1 hw => ?_)
  ·replace h := hv41; clear hv41
   refine Tr.block ?_
   refine Tr.loopM (σ := Int × List TChoice) (fun n s => M116 f_1 runner_2 y_12 r_19 n s.1 s.2) l_31 (fun s => ([(3, .pt 1 0), (4, .pt 2 0), (5, .pt 3 0), (6, (dI y_12)), (7, (dI r_19)), (36, .d (.ls (List.map eTRunner f_1.Runners))), (37, (dI (((f_1.Runners).length : Int)))), (38, (dI s.1))], [some (.var [.d (.ls (List.map eTSegment f_1.Clocks.Segments)), .d (.ls (List.map (eL eI) f_1.Clocks.Far)), .d (.ls (List.map eTPair f_1.Pairs)), .d (.ls (List.map eTRunner f_1.Runners))]), some (.var [(dI runner_2)]), some (.var [(dI y_12), .d (.ls (List.map eI r_24)), .sl 4 2 0 (List.length s.2)]), some (.var [.d (.b false)]), some (.arr 2 (List.map .d (List.map eTChoice s.2)))])) (((((f_1.Runners).length : Int)) - 0 : Int).toNat + 1) (0, (([] : List TChoice))) h (fun s => rfl) (Wk.mk2 [0, 1, 2, 3, 4] 4 rfl rfl (by decide) rfl ⟨rr, rr, ⟨rfl, (by first | rfl | (simp only [↓hb21, bl]; done) | (simp only [↓hb21, bl]; rfl))⟩, rr, rfl, trivial⟩ ⟨rr, rr, rr, rr, rr, rr, rr, rr, trivial⟩) ?_
   clear h
   rintro n_30 ⟨v_28, l_29⟩ h
   replace h : M116 f_1 runner_2 y_12 r_19 (n_30 + 1) v_28 l_29 = some l_31 := h
   rw [M116] at h
   refine Tr.seq ?_
   refine rg ?_
   conv => whnf
   refine Tr.seq ?_
   refine Tr.cond ?_
   conv => whnf
   refine cB h (fun hb34 h => ?_) (fun hb34 h => ?_)
   ·refine Tr.skip ?_
    conv => whnf
    refine Tr.seq ?_
    refine Tr.block ?_
    refine Tr.seq ?_
    refine rg ?_
    conv => whnf
    obtain ⟨x_35, hx_35, h⟩ := bS h
    refine ixP_of hx_35 ?_
    conv => whnf
    refine Tr.seq ?_
    refine rg ?_
    conv => whnf
    obtain ⟨x_36, hx_36, h⟩ := bS h
    refine ixP_of hx_36 ?_
    conv => whnf
    obtain ⟨x_37, hx_37, h⟩ := bS h
    refine ixP_of hx_37 ?_
    conv => whnf
    refine Tr.seq ?_
    refine Tr.seq ?_
    refine rg ?_
    conv => whnf
    refine Tr.cond ?_
    conv => whnf
    refine cB h (fun hb38 h => ?_) (fun hb38 h => ?_)
    ·refine rg ?_
     conv => whnf
     refine rg ?_
     conv => whnf
     refine orB_r ?_
     conv => whnf
     refine frP_no ?_
     conv => whnf
     refine eqS_mk (by first | rfl | simp) ?_
     conv => whnf
     obtain ⟨l_39, hl_39, h⟩ := bS h
     refine apS_of hl_39 (aQ (f := eTChoice) (l := (([({ Outcome := r_19, X := 0 } : TChoice)] : List TChoice))) fun _ => rfl) (by first | rfl | simp) (by first | rfl | simp) (fun he => ?_)
     conv => whnf
     refine rS (es' := List.map .d (List.map eTChoice l_39)) (n' := List.length l_39) (by subst he; simp only [List.map_append, List.map_cons, List.map_nil, List.nil_append]; first | done | rfl) (by subst he; simp <;> omega) ?_
     clear he
     conv => whnf
     refine orB_l ?_
     conv => whnf
     refine rg ?_
     conv => whnf
     refine arS_raw ?_
     conv => whnf
     refine ⟨((w64 (v_28 + 1)), l_39), h, ?_⟩
     exact Wk.mk2 [0, 1, 2, 3, 7] 8 rfl rfl (by decide) rfl ⟨rr, rr, ⟨rfl, (by first | rfl | (simp only [↓hb21, ↓hb34, ↓hb38, bl]; done) | (simp only [↓hb21, ↓hb34, ↓hb38, bl]; rfl))⟩, rr, daS_d rfl, trivial⟩ ⟨rr, rr, rr, rr, rr, rr, rr, rr, trivial⟩
    refine Tr.skip ?_
    conv => whnf
    refine rg ?_
    conv => whnf
    refine orB_r ?_
    conv => whnf
    refine frP_no ?_
    conv => whnf
    refine eqS_mk (by first | rfl | simp) ?_
    conv => whnf
    obtain ⟨l_40, hl_40, h⟩ := bS h
    refine apS_of hl_40 (aQ (f := eTChoice) (l := (([({ Outcome := 0, X := x_37.Lo } : TChoice)] : List TChoice))) fun _ => rfl) (by first | rfl | simp) (by first | rfl | simp) (fun he => ?_)
    conv => whnf
    refine rS (es' := List.map .d (List.map eTChoice l_40)) (n' := List.length l_40) (by subst he; simp only [List.map_append, List.map_cons, List.map_nil, List.nil_append]; first | done | rfl) (by subst he; simp <;> omega) ?_
    clear he
    conv => whnf
    refine orB_l ?_
    conv => whnf
    refine rg ?_
    conv => whnf
    refine arS_raw ?_
    conv => whnf
    refine ⟨((w64 (v_28 + 1)), l_40), h, ?_⟩
    exact Wk.mk2 [0, 1, 2, 3, 7] 8 rfl rfl (by decide) rfl ⟨rr, rr, ⟨rfl, (by first | rfl | (simp only [↓hb21, ↓hb34, ↓hb38, bl]; done) | (simp only [↓hb21, ↓hb34, ↓hb38, bl]; rfl))⟩, rr, daS_d rfl, trivial⟩ ⟨rr, rr, rr, rr, rr, rr, rr, rr, trivial⟩
   refine Tr.exit ?_
   conv => whnf
   cases h
   exact Wk.mk2 [0, 1, 2, 3, 4] 5 rfl rfl (by decide) rfl ⟨rr, rr, rr, rr, daS_d rfl, trivial⟩ ⟨rr, rr, trivial⟩
  clear hv41
  conv => whnf
  refine Tr.weak hw ?_
  refine Tr.seq ?_
  refine rg ?_
  conv => whnf
  refine orB_l ?_
  conv => whnf
  refine Tr.ret ?_
  conv => whnf
  cases h
  refine ⟨rfl, ?_⟩
  exact Wk.mk2 [0, 1, 2, 3, 4] 5 rfl rfl (by decide) rfl ⟨rr, rr, rr, rr, daS_d rfl, trivial⟩ trivial
 clear hv42
 rcases q_46 with ⟨⟩ | ⟨v_43, v_44, l_45⟩
 ·dsimp only at h
  conv => whnf
  refine Tr.seq ?_
  refine rg ?_
  conv => whnf
  refine orB_l ?_
  conv => whnf
  refine Tr.ret ?_
  conv => whnf
  cases h
  rfl
 dsimp only at h
 conv => whnf
 refine frE_of (f := eTChoice) (l := l_45) rfl ?_
 conv => whnf
 cases h
 rfl
theorem P119 (k_1 : Int) (c_2 : Int) (c_3 : List TSegment) (c_4 : List (List Int)) (c_5 : List TPair) (c_6 : List TRunner) (c_7 : Int) (r_8 : Int) (h : M119 k_1 c_2 c_3 c_4 c_5 c_6 c_7 = some r_8) :
    PC prog 131 [(.i .i64 k_1), (.ro [(.i .i64 c_2)]), (.ro [(.fn 102 []), (.fn 101 []), (.fn 105 []), (.fn 106 [])]), (.ro [(.ls (List.map eTSegment c_3)), (.ls (List.map (eL eI) c_4)), (.ls (List.map eTPair c_5)), (.ls (List.map eTRunner c_6))]), (.ro [(.i .i64 c_7)])] (fun rs => rs = [(.i .i64 r_8)]) := by
 refine PC.of_tr (cx := ⟨17, none, lay, 0⟩) layOK func131 rfl rfl rfl rfl rfl (by simp [f131]) ?_
 unfold M119 at h
 refine Tr.seq ?_
 refine rg ?_
 conv => whnf
 refine Tr.seq ?_
 refine Tr.draw (DrawP.seqQ layOK mixed [] [(0, 2), (1, 2), (2, 2), (3, 2), (4, 2), (5, 2), (6, 2), (7, 1), (8, 1), (9, 1), (10, 1)] (by kernel_rfl) ?_)
 conv => whnf
 refine ⟨_, ⟨rfl, rfl, rr⟩, ?_⟩
 conv => whnf
 refine ⟨_, ⟨rfl, rfl, rr⟩, ?_⟩
 conv => whnf
 refine ⟨_, ⟨rfl, rfl, rr⟩, ?_⟩
 conv => whnf
 refine ⟨_, ⟨rfl, rfl, rr⟩, ?_⟩
 conv => whnf
 refine ⟨_, ⟨rfl, rfl, rr⟩, ?_⟩
 conv => whnf
 refine ⟨_, ⟨rfl, rfl, rr⟩, ?_⟩
 conv => whnf
 refine ⟨_, ⟨rfl, rfl, rr⟩, ?_⟩
 conv => whnf
 refine ⟨_, (fun _ => rr), ?_⟩
 conv => whnf
 obtain ⟨r_9, hc10, h⟩ := bS h
 refine ⟨_, (fun _ => by (conv => whnf); (refine PC.ecall (P82 c_4 c_7 k_1 r_9 hc10) (fun rs hrs => ?_)); (subst hrs); (conv => whnf); (exact rr)), ?_⟩
 conv => whnf
 refine ⟨_, (fun _ => by (conv => whnf); (refine arS_raw ?_); (conv => whnf); (exact rr)), ?_⟩
 conv => whnf
 refine ⟨_, (fun _ => rr), ?_⟩
 conv => whnf
 refine Tr.ret ?_
 conv => whnf
 cases h
 rfl
end Go.Proofs.Tryz
