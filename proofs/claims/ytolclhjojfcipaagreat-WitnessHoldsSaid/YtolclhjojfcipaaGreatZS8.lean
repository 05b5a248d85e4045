/- Contracts of functions, by program (gen.py). No condition. -/
import Derived.Test.YtolclhjojfcipaaGreatZL
import Derived.Test.YtolclhjojfcipaaGreatZM
import Derived.Test.YtolclhjojfcipaaGreatZS7
namespace Go.Proofs.Tryz
open Go Go.Abs Go.Stop
set_option maxRecDepth 8000
set_option linter.unusedVariables false
set_option linter.unusedSimpArgs false
theorem P438 (r_1 : TRunner) (c_2 : Int) (r_3 : Bool) (h : M320 r_1 c_2 = some r_3) :
    PC prog 87 [(eTRunner r_1), (.ro [(.i .i64 c_2)])] (fun rs => rs = [(.b r_3)]) := by
 refine PC.of_tr (cx := ⟨8, none, lay, 0⟩) layOK func87 rfl rfl rfl rfl rfl (by simp [f87]) ?_
 unfold M320 at h
 refine Tr.seq ?_
 refine Tr.region layOK ?_
 conv => whnf
 refine Tr.seq ?_
 refine Tr.region layOK ?_
 conv => whnf
 refine Tr.ret ?_
 conv => whnf
 cases h
 rfl
theorem P262 (s_1 : List TRunner) (c_2 : Int) (r_3 : Int) (h : M100 s_1 c_2 = some r_3) :
    PC prog 86 [(.ls (List.map eTRunner s_1)), (.fn 87 [(.ro [(.i .i64 c_2)])])] (fun rs => rs = [(.i .i64 r_3)]) := by
 refine PC.of_tr (cx := ⟨19, none, lay, 0⟩) layOK func86 rfl rfl rfl rfl rfl (by simp [f86]) ?_
 unfold M100 at h
 refine Tr.seq ?_
 refine Tr.region layOK ?_
 conv => whnf
 refine Tr.seq ?_
 refine Tr.seq ?_
 refine Tr.region layOK ?_
 conv => whnf
 refine lnS_map ?_
 conv => whnf
 refine Tr.cutQ (α := Unit) (fun s => ([(4, (dI 0))], [])) (fun s => M15 s = some r_3) ?_ ?_
 ·refine Tr.block ?_
  refine Tr.loopM (σ := Int) (fun n s => M4 s_1 c_2 M15 n s) r_3 (fun s => ([(0, .d (.ls (List.map eTRunner s_1))), (1, .d (.fn 87 [(.ro [(.i .i64 c_2)])])), (4, (dI 0)), (7, (dI (((s_1).length : Int)))), (8, (dI s))], [])) (((((s_1).length : Int)) - 0 : Int).toNat + 1) (0) h (fun s => rfl) (Wk.mk2 [] 0 rfl rfl (by decide) rfl trivial ⟨rr, rr, rr, rr, rr, trivial⟩) ?_
  clear h
  rintro n_6 v_5 h
  replace h : M4 s_1 c_2 M15 (n_6 + 1) v_5 = some r_3 := h
  rw [M4] at h
  refine Tr.seq ?_
  refine Tr.region layOK ?_
  conv => whnf
  refine Tr.seq ?_
  refine Tr.cond ?_
  conv => whnf
  refine condS_bif h (fun hb9 h => ?_) (fun hb9 h => ?_)
  ·refine Tr.skip ?_
   conv => whnf
   refine Tr.seq ?_
   refine Tr.block ?_
   refine Tr.seq ?_
   refine Tr.region layOK ?_
   conv => whnf
   refine Tr.seq ?_
   refine Tr.region layOK ?_
   conv => whnf
   obtain ⟨x_10, hx_10, h⟩ := bind_some h
   refine ixP_of hx_10 ?_
   conv => whnf
   obtain ⟨r_11, hc12, h⟩ := bind_some h
   refine PC.ecall (P438 x_10 c_2 r_11 hc12) (fun rs hrs => ?_)
   subst hrs
   conv => whnf
   refine Tr.cond ?_
   conv => whnf
   refine condS_bif h (fun hb13 h => ?_) (fun hb13 h => ?_)
   ·refine Tr.seq ?_
    refine Tr.region layOK ?_
    conv => whnf
    refine Tr.ret ?_
    conv => whnf
    cases h
    rfl
   refine Tr.skip ?_
   conv => whnf
   refine Tr.region layOK ?_
   conv => whnf
   refine arS_raw ?_
   conv => whnf
   refine ⟨((w64 (v_5 + 1))), h, ?_⟩
   exact Wk.mk2 [] 0 rfl rfl (by decide) rfl trivial ⟨rr, rr, rr, rr, rr, trivial⟩
  refine Tr.exit ?_
  conv => whnf
  refine ⟨(), h, ?_⟩
  exact Wk.mk2 [] 0 rfl rfl (by decide) rfl trivial ⟨rr, trivial⟩
 clear h
 rintro _ h T1 H1 hw
 replace h : M15 () = some r_3 := h
 conv => whnf
 refine Tr.weak hw ?_
 unfold M15 at h
 refine Tr.seq ?_
 refine Tr.region layOK ?_
 conv => whnf
 refine Tr.ret ?_
 conv => whnf
 cases h
 rfl
theorem P418 (f_1 : TField) (bib_2 : Int) (r_3 : Int) (r_4 : Bool) (h : M244 f_1 bib_2 = some (r_3, r_4)) :
    PC prog 49 [(eTField f_1), (.i .i64 bib_2)] (fun rs => rs = [(.i .i64 r_3), (.b r_4)]) := by
 refine PC.of_tr (cx := ⟨14, none, lay, 0⟩) layOK func49 rfl rfl rfl rfl rfl (by simp [f49]) ?_
 unfold M244 at h
 refine Tr.seq ?_
 refine Tr.region layOK ?_
 conv => whnf
 refine Tr.seq ?_
 refine Tr.region layOK ?_
 conv => whnf
 obtain ⟨r_5, hc6, h⟩ := bind_some h
 refine PC.ecall_lend ?_ ⟨_, _, func86, rfl, rfl⟩
 conv => whnf
 refine ⟨_, P262 f_1.Runners bib_2 r_5 hc6, fun rs hrs => ?_⟩
 subst hrs
 refine ⟨rfl, ?_⟩
 conv => whnf
 refine Tr.seq ?_
 refine Tr.region layOK ?_
 conv => whnf
 refine Tr.ret ?_
 conv => whnf
 cases h
 rfl
theorem P410 (r_1 : TRunner) (c_2 : Int) (r_3 : Bool) (h : M258 r_1 c_2 = some r_3) :
    PC prog 127 [(eTRunner r_1), (.ro [(.i .i64 c_2)])] (fun rs => rs = [(.b r_3)]) := by
 refine PC.of_tr (cx := ⟨11, none, lay, 0⟩) layOK func127 rfl rfl rfl rfl rfl (by simp [f127]) ?_
 unfold M258 at h
 refine Tr.seq ?_
 refine Tr.region layOK ?_
 conv => whnf
 refine Tr.seq ?_
 refine Tr.region layOK ?_
 conv => whnf
 obtain ⟨x_4, hx_4, h⟩ := bind_some h
 refine ixP_of hx_4 ?_
 conv => whnf
 refine lnS_map ?_
 conv => whnf
 refine Tr.ret ?_
 conv => whnf
 cases h
 rfl
theorem P240 (s_1 : List TRunner) (c_2 : Int) (r_3 : Int) (h : M78 s_1 c_2 = some r_3) :
    PC prog 86 [(.ls (List.map eTRunner s_1)), (.fn 127 [(.ro [(.i .i64 c_2)])])] (fun rs => rs = [(.i .i64 r_3)]) := by
 refine PC.of_tr (cx := ⟨19, none, lay, 0⟩) layOK func86 rfl rfl rfl rfl rfl (by simp [f86]) ?_
 unfold M78 at h
 refine Tr.seq ?_
 refine Tr.region layOK ?_
 conv => whnf
 refine Tr.seq ?_
 refine Tr.seq ?_
 refine Tr.region layOK ?_
 conv => whnf
 refine lnS_map ?_
 conv => whnf
 refine Tr.cutQ (α := Unit) (fun s => ([(4, (dI 0))], [])) (fun s => M9 s = some r_3) ?_ ?_
 ·refine Tr.block ?_
  refine Tr.loopM (σ := Int) (fun n s => M3 s_1 c_2 M9 n s) r_3 (fun s => ([(0, .d (.ls (List.map eTRunner s_1))), (1, .d (.fn 127 [(.ro [(.i .i64 c_2)])])), (4, (dI 0)), (7, (dI (((s_1).length : Int)))), (8, (dI s))], [])) (((((s_1).length : Int)) - 0 : Int).toNat + 1) (0) h (fun s => rfl) (Wk.mk2 [] 0 rfl rfl (by decide) rfl trivial ⟨rr, rr, rr, rr, rr, trivial⟩) ?_
  clear h
  rintro n_6 v_5 h
  replace h : M3 s_1 c_2 M9 (n_6 + 1) v_5 = some r_3 := h
  rw [M3] at h
  refine Tr.seq ?_
  refine Tr.region layOK ?_
  conv => whnf
  refine Tr.seq ?_
  refine Tr.cond ?_
  conv => whnf
  refine condS_bif h (fun hb9 h => ?_) (fun hb9 h => ?_)
  ·refine Tr.skip ?_
   conv => whnf
   refine Tr.seq ?_
   refine Tr.block ?_
   refine Tr.seq ?_
   refine Tr.region layOK ?_
   conv => whnf
   refine Tr.seq ?_
   refine Tr.region layOK ?_
   conv => whnf
   obtain ⟨x_10, hx_10, h⟩ := bind_some h
   refine ixP_of hx_10 ?_
   conv => whnf
   obtain ⟨r_11, hc12, h⟩ := bind_some h
   refine PC.ecall (P410 x_10 c_2 r_11 hc12) (fun rs hrs => ?_)
   subst hrs
   conv => whnf
   refine Tr.cond ?_
   conv => whnf
   refine condS_bif h (fun hb13 h => ?_) (fun hb13 h => ?_)
   ·refine Tr.seq ?_
    refine Tr.region layOK ?_
    conv => whnf
    refine Tr.ret ?_
    conv => whnf
    cases h
    rfl
   refine Tr.skip ?_
   conv => whnf
   refine Tr.region layOK ?_
   conv => whnf
   refine arS_raw ?_
   conv => whnf
   refine ⟨((w64 (v_5 + 1))), h, ?_⟩
   exact Wk.mk2 [] 0 rfl rfl (by decide) rfl trivial ⟨rr, rr, rr, rr, rr, trivial⟩
  refine Tr.exit ?_
  conv => whnf
  refine ⟨(), h, ?_⟩
  exact Wk.mk2 [] 0 rfl rfl (by decide) rfl trivial ⟨rr, trivial⟩
 clear h
 rintro _ h T1 H1 hw
 replace h : M9 () = some r_3 := h
 conv => whnf
 refine Tr.weak hw ?_
 unfold M9 at h
 refine Tr.seq ?_
 refine Tr.region layOK ?_
 conv => whnf
 refine Tr.ret ?_
 conv => whnf
 cases h
 rfl
theorem P229 (s_1 : List TRunner) (c_2 : Int) (r_3 : Bool) (h : M42 s_1 c_2 = some r_3) :
    PC prog 89 [(.ls (List.map eTRunner s_1)), (.fn 127 [(.ro [(.i .i64 c_2)])])] (fun rs => rs = [(.b r_3)]) := by
 refine PC.of_tr (cx := ⟨9, none, lay, 0⟩) layOK func89 rfl rfl rfl rfl rfl (by simp [f89]) ?_
 unfold M42 at h
 refine Tr.seq ?_
 refine Tr.region layOK ?_
 conv => whnf
 refine Tr.seq ?_
 refine Tr.region layOK ?_
 conv => whnf
 obtain ⟨r_4, hc5, h⟩ := bind_some h
 refine PC.ecall (P240 s_1 c_2 r_4 hc5) (fun rs hrs => ?_)
 subst hrs
 conv => whnf
 refine Tr.ret ?_
 conv => whnf
 cases h
 rfl
theorem P422 (f_1 : TField) (world_2 : Int) (r_3 : Bool) (h : M284 f_1 world_2 = some r_3) :
    PC prog 96 [(eTField f_1), (.i .i64 world_2)] (fun rs => rs = [(.b r_3)]) := by
 refine PC.of_tr (cx := ⟨10, none, lay, 0⟩) layOK func96 rfl rfl rfl rfl rfl (by simp [f96]) ?_
 unfold M284 at h
 refine Tr.seq ?_
 refine Tr.region layOK ?_
 conv => whnf
 refine Tr.seq ?_
 refine Tr.region layOK ?_
 conv => whnf
 obtain ⟨r_4, hc5, h⟩ := bind_some h
 refine PC.ecall_lend ?_ ⟨_, _, func89, rfl, rfl⟩
 conv => whnf
 refine ⟨_, P229 f_1.Runners world_2 r_4 hc5, fun rs hrs => ?_⟩
 subst hrs
 refine ⟨rfl, ?_⟩
 conv => whnf
 refine Tr.ret ?_
 conv => whnf
 cases h
 rfl
theorem P415 (n_1 : Int) (r_2 : Bool) (h : M274 n_1 = some r_2) :
    PC prog 128 [(.i .i64 n_1)] (fun rs => rs = [(.b r_2)]) := by
 refine PC.of_tr (cx := ⟨9, none, lay, 0⟩) layOK func128 rfl rfl rfl rfl rfl (by simp [f128]) ?_
 unfold M274 at h
 refine Tr.seq ?_
 refine Tr.region layOK ?_
 conv => whnf
 refine Tr.seq ?_
 refine Tr.region layOK ?_
 conv => whnf
 refine condS_bif h (fun hb3 h => ?_) (fun hb3 h => ?_)
 ·conv => whnf
  refine Tr.ret ?_
  conv => whnf
  cases h
  rfl
 conv => whnf
 refine Tr.ret ?_
 conv => whnf
 cases h
 rfl
theorem P265 (s_1 : List Int) (r_2 : Int) (h : M103 s_1 = some r_2) :
    PC prog 133 [(.ls (List.map eI s_1)), (.fn 128 [])] (fun rs => rs = [(.i .i64 r_2)]) := by
 refine PC.of_tr (cx := ⟨19, none, lay, 0⟩) layOK func133 rfl rfl rfl rfl rfl (by simp [f133]) ?_
 unfold M103 at h
 refine Tr.seq ?_
 refine Tr.region layOK ?_
 conv => whnf
 refine Tr.seq ?_
 refine Tr.seq ?_
 refine Tr.region layOK ?_
 conv => whnf
 refine lnS_map ?_
 conv => whnf
 refine Tr.cutQ (α := Unit) (fun s => ([(4, (dI 0))], [])) (fun s => M16 s = some r_2) ?_ ?_
 ·refine Tr.block ?_
  refine Tr.loopM (σ := Int) (fun n s => M7 s_1 M16 n s) r_2 (fun s => ([(0, .d (.ls (List.map eI s_1))), (1, .d (.fn 128 [])), (4, (dI 0)), (7, (dI (((s_1).length : Int)))), (8, (dI s))], [])) (((((s_1).length : Int)) - 0 : Int).toNat + 1) (0) h (fun s => rfl) (Wk.mk2 [] 0 rfl rfl (by decide) rfl trivial ⟨rr, rr, rr, rr, rr, trivial⟩) ?_
  clear h
  rintro n_5 v_4 h
  replace h : M7 s_1 M16 (n_5 + 1) v_4 = some r_2 := h
  rw [M7] at h
  refine Tr.seq ?_
  refine Tr.region layOK ?_
  conv => whnf
  refine Tr.seq ?_
  refine Tr.cond ?_
  conv => whnf
  refine condS_bif h (fun hb8 h => ?_) (fun hb8 h => ?_)
  ·refine Tr.skip ?_
   conv => whnf
   refine Tr.seq ?_
   refine Tr.block ?_
   refine Tr.seq ?_
   refine Tr.region layOK ?_
   conv => whnf
   refine Tr.seq ?_
   refine Tr.region layOK ?_
   conv => whnf
   obtain ⟨x_9, hx_9, h⟩ := bind_some h
   refine ixP_of hx_9 ?_
   conv => whnf
   obtain ⟨r_10, hc11, h⟩ := bind_some h
   refine PC.ecall (P415 x_9 r_10 hc11) (fun rs hrs => ?_)
   subst hrs
   conv => whnf
   refine Tr.cond ?_
   conv => whnf
   refine condS_bif h (fun hb12 h => ?_) (fun hb12 h => ?_)
   ·refine Tr.seq ?_
    refine Tr.region layOK ?_
    conv => whnf
    refine Tr.ret ?_
    conv => whnf
    cases h
    rfl
   refine Tr.skip ?_
   conv => whnf
   refine Tr.region layOK ?_
   conv => whnf
   refine arS_raw ?_
   conv => whnf
   refine ⟨((w64 (v_4 + 1))), h, ?_⟩
   exact Wk.mk2 [] 0 rfl rfl (by decide) rfl trivial ⟨rr, rr, rr, rr, rr, trivial⟩
  refine Tr.exit ?_
  conv => whnf
  refine ⟨(), h, ?_⟩
  exact Wk.mk2 [] 0 rfl rfl (by decide) rfl trivial ⟨rr, trivial⟩
 clear h
 rintro _ h T1 H1 hw
 replace h : M16 () = some r_2 := h
 conv => whnf
 refine Tr.weak hw ?_
 unfold M16 at h
 refine Tr.seq ?_
 refine Tr.region layOK ?_
 conv => whnf
 refine Tr.ret ?_
 conv => whnf
 cases h
 rfl
theorem P253 (s_1 : List Int) (r_2 : Bool) (h : M55 s_1 = some r_2) :
    PC prog 114 [(.ls (List.map eI s_1)), (.fn 128 [])] (fun rs => rs = [(.b r_2)]) := by
 refine PC.of_tr (cx := ⟨9, none, lay, 0⟩) layOK func114 rfl rfl rfl rfl rfl (by simp [f114]) ?_
 unfold M55 at h
 refine Tr.seq ?_
 refine Tr.region layOK ?_
 conv => whnf
 refine Tr.seq ?_
 refine Tr.region layOK ?_
 conv => whnf
 obtain ⟨r_3, hc4, h⟩ := bind_some h
 refine PC.ecall (P265 s_1 r_3 hc4) (fun rs hrs => ?_)
 subst hrs
 conv => whnf
 refine Tr.ret ?_
 conv => whnf
 cases h
 rfl
theorem P424 (k_1 : TClocks) (offsets_2 : List Int) (r_3 : Bool) (h : M254 k_1 offsets_2 = some r_3) :
    PC prog 97 [(eTClocks k_1), (.ls (List.map eI offsets_2))] (fun rs => rs = [(.b r_3)]) := by
 refine PC.of_tr (cx := ⟨43, none, lay, 0⟩) layOK func97 rfl rfl rfl rfl rfl (by simp [f97]) ?_
 unfold M254 at h
 refine Tr.seq ?_
 refine Tr.region layOK ?_
 conv => whnf
 refine Tr.seq ?_
 refine Tr.region layOK ?_
 conv => whnf
 refine orB_l ?_
 conv => whnf
 refine frP_no ?_
 conv => whnf
 refine eqS_mk (by first | rfl | simp) ?_
 conv => whnf
 obtain ⟨l_4, hl_4, h⟩ := bind_some h
 refine apS_of hl_4 (apq_map (f := eI) (l := offsets_2) fun _ => rfl) (by first | rfl | simp) (by first | rfl | simp) (fun he => ?_)
 conv => whnf
 refine reS_mk (es' := List.map .d (List.map eI l_4)) (n' := List.length l_4) (by subst he; simp only [List.map_append, List.map_cons, List.map_nil, List.nil_append]; first | done | rfl) (by subst he; simp <;> omega) ?_
 clear he
 conv => whnf
 refine Tr.seq ?_
 refine Tr.seq ?_
 refine Tr.region layOK ?_
 conv => whnf
 obtain ⟨r_5, hc6, h⟩ := bind_some h
 refine PC.ecall_lend ?_ ⟨_, _, func114, rfl, rfl⟩
 conv => whnf
 refine frE_of (f := eI) (l := l_4) rfl ?_
 conv => whnf
 refine ⟨_, P253 l_4 r_5 hc6, fun rs hrs => ?_⟩
 subst hrs
 refine ⟨rfl, ?_⟩
 conv => whnf
 refine Tr.cond ?_
 conv => whnf
 refine condS_bif h (fun hb7 h => ?_) (fun hb7 h => ?_)
 ·refine Tr.seq ?_
  refine Tr.region layOK ?_
  conv => whnf
  refine Tr.ret ?_
  conv => whnf
  cases h
  rfl
 refine Tr.skip ?_
 conv => whnf
 refine Tr.seq ?_
 refine Tr.seq ?_
 refine Tr.region layOK ?_
 conv => whnf
 refine lnS_map ?_
 conv => whnf
 refine Tr.cutQ (α := Unit) (fun s => ([(4, .d (.b false))], [])) (fun s => M108 s = some r_3) ?_ ?_
 ·refine Tr.block ?_
  refine Tr.loopM (σ := Int) (fun n s => M48 k_1 l_4 M108 n s) r_3 (fun s => ([(4, .d (.b false)), (5, .sl 0 1 0 (List.length l_4)), (16, .d (.ls (List.map (eL eI) k_1.Far))), (17, (dI (((k_1.Far).length : Int)))), (18, (dI s))], [some (.arr 1 (List.map .d (List.map eI l_4)))])) (((((k_1.Far).length : Int)) - 0 : Int).toNat + 1) (0) h (fun s => rfl) (Wk.mk2 [2] 3 rfl rfl (by decide) rfl ⟨daS_d rfl, trivial⟩ ⟨rr, ⟨rfl, (by first | rfl | (simp only [↓hb7, bl]; done) | (simp only [↓hb7, bl]; rfl))⟩, rr, rr, rr, trivial⟩) ?_
  clear h
  rintro n_10 v_9 h
  replace h : M48 k_1 l_4 M108 (n_10 + 1) v_9 = some r_3 := h
  rw [M48] at h
  refine Tr.seq ?_
  refine Tr.region layOK ?_
  conv => whnf
  refine Tr.seq ?_
  refine Tr.cond ?_
  conv => whnf
  refine condS_bif h (fun hb13 h => ?_) (fun hb13 h => ?_)
  ·refine Tr.skip ?_
   conv => whnf
   refine Tr.seq ?_
   refine Tr.block ?_
   refine Tr.seq ?_
   refine Tr.region layOK ?_
   conv => whnf
   obtain ⟨x_14, hx_14, h⟩ := bind_some h
   refine ixP_of hx_14 ?_
   conv => whnf
   refine Tr.seq ?_
   refine Tr.region layOK ?_
   conv => whnf
   refine lnS_map ?_
   conv => whnf
   refine Tr.cutQ (α := Unit) (fun s => ([(4, .d (.b false)), (5, .sl 0 1 0 (List.length l_4)), (16, .d (.ls (List.map (eL eI) k_1.Far))), (17, (dI (((k_1.Far).length : Int)))), (18, (dI v_9))], [some (.arr 1 (List.map .d (List.map eI l_4)))])) (fun s => M193 v_9 (M48 k_1 l_4 M108 n_10) s = some r_3) ?_ ?_
   ·refine Tr.block ?_
    refine Tr.loopM (σ := Int) (fun n s => M107 l_4 v_9 x_14 (M193 v_9 (M48 k_1 l_4 M108 n_10)) n s) r_3 (fun s => ([(4, .d (.b false)), (5, .sl 0 1 0 (List.length l_4)), (6, (dI v_9)), (16, .d (.ls (List.map (eL eI) k_1.Far))), (17, (dI (((k_1.Far).length : Int)))), (18, (dI v_9)), (23, .d (.ls (List.map eI x_14))), (24, (dI (((x_14).length : Int)))), (25, (dI s))], [some (.arr 1 (List.map .d (List.map eI l_4)))])) (((((x_14).length : Int)) - 0 : Int).toNat + 1) (0) h (fun s => rfl) (Wk.mk2 [0] 1 rfl rfl (by decide) rfl ⟨daS_d rfl, trivial⟩ ⟨rr, rr, rr, rr, rr, rr, rr, rr, rr, trivial⟩) ?_
    clear h
    rintro n_17 v_16 h
    replace h : M107 l_4 v_9 x_14 (M193 v_9 (M48 k_1 l_4 M108 n_10)) (n_17 + 1) v_16 = some r_3 := h
    rw [M107] at h
    refine Tr.seq ?_
    refine Tr.region layOK ?_
    conv => whnf
    refine Tr.seq ?_
    refine Tr.cond ?_
    conv => whnf
    refine condS_bif h (fun hb20 h => ?_) (fun hb20 h => ?_)
    ·refine Tr.skip ?_
     conv => whnf
     refine Tr.seq ?_
     refine Tr.block ?_
     refine Tr.seq ?_
     refine Tr.region layOK ?_
     conv => whnf
     obtain ⟨x_21, hx_21, h⟩ := bind_some h
     refine ixP_of hx_21 ?_
     conv => whnf
     refine Tr.seq ?_
     refine Tr.draw (DrawP.seqQ layOK mixed [] [(0, 1), (1, 1), (2, 3), (3, 3), (4, 1), (5, 1), (6, 3), (7, 3), (8, 1), (9, 1), (10, 1)] (by kernel_rfl) ?_)
     conv => whnf
     refine ⟨_, (fun _ => rr), ?_⟩
     conv => whnf
     refine ⟨_, (fun _ => rr), ?_⟩
     conv => whnf
     obtain ⟨x_22, hx_22, h⟩ := bind_some h
     refine ⟨_, ⟨rfl, rfl, (by (conv => whnf); (refine ixS_of hx_22 rfl ?_); (conv => whnf); (exact rr))⟩, ?_⟩
     conv => whnf
     refine ⟨_, ⟨rfl, rfl, (by (conv => whnf); (refine elP_of hx_22 ?_); (conv => whnf); (exact rr))⟩, ?_⟩
     conv => whnf
     refine ⟨_, (fun _ => rr), ?_⟩
     conv => whnf
     refine ⟨_, (fun _ => rr), ?_⟩
     conv => whnf
     obtain ⟨x_23, hx_23, h⟩ := bind_some h
     refine ⟨_, ⟨rfl, rfl, (by (conv => whnf); (refine ixS_of hx_23 rfl ?_); (conv => whnf); (exact rr))⟩, ?_⟩
     conv => whnf
     refine ⟨_, ⟨rfl, rfl, (by (conv => whnf); (refine elP_of hx_23 ?_); (conv => whnf); (exact rr))⟩, ?_⟩
     conv => whnf
     refine ⟨_, (fun _ => by (conv => whnf); (refine arS_raw ?_); (conv => whnf); (exact rr)), ?_⟩
     conv => whnf
     refine ⟨_, (fun _ => rr), ?_⟩
     conv => whnf
     refine ⟨_, (fun _ => rr), ?_⟩
     conv => whnf
     refine Tr.cond ?_
     conv => whnf
     refine condS_bif h (fun hb24 h => ?_) (fun hb24 h => ?_)
     ·refine Tr.seq ?_
      refine Tr.region layOK ?_
      conv => whnf
      refine Tr.ret ?_
      conv => whnf
      cases h
      rfl
     refine Tr.skip ?_
     conv => whnf
     refine Tr.region layOK ?_
     conv => whnf
     refine arS_raw ?_
     conv => whnf
     refine ⟨((w64 (v_16 + 1))), h, ?_⟩
     exact Wk.mk2 [0] 1 rfl rfl (by decide) rfl ⟨daS_d rfl, trivial⟩ ⟨rr, rr, rr, rr, rr, rr, rr, rr, rr, trivial⟩
    refine Tr.exit ?_
    conv => whnf
    refine ⟨(), h, ?_⟩
    exact Wk.mk2 [0] 1 rfl rfl (by decide) rfl ⟨daS_d rfl, trivial⟩ ⟨rr, rr, rr, rr, rr, trivial⟩
   clear h
   rintro _ h T1 H1 hw
   replace h : M193 v_9 (M48 k_1 l_4 M108 n_10) () = some r_3 := h
   conv => whnf
   refine Tr.weak hw ?_
   unfold M193 at h
   refine Tr.region layOK ?_
   conv => whnf
   refine arS_raw ?_
   conv => whnf
   refine ⟨((w64 (v_9 + 1))), h, ?_⟩
   exact Wk.mk2 [0] 1 rfl rfl (by decide) rfl ⟨daS_d rfl, trivial⟩ ⟨rr, rr, rr, rr, rr, trivial⟩
  refine Tr.exit ?_
  conv => whnf
  refine ⟨(), h, ?_⟩
  exact Wk.mk2 [] 1 rfl rfl (by decide) rfl trivial ⟨rr, trivial⟩
 clear h
 rintro _ h T1 H1 hw
 replace h : M108 () = some r_3 := h
 conv => whnf
 refine Tr.weak hw ?_
 unfold M108 at h
 refine Tr.seq ?_
 refine Tr.region layOK ?_
 conv => whnf
 refine Tr.ret ?_
 conv => whnf
 cases h
 rfl
theorem P325 (v_1 : Thistory_view) (runner_2 : Int) (r_3 : List TOutcome) (h : M174 v_1 runner_2 = some r_3) :
    PC prog 98 [(eThistory_view v_1), (.i .i64 runner_2)] (fun rs => rs = [(.ls (List.map eTOutcome r_3))]) := by
 refine PC.of_tr (cx := ⟨17, none, lay, 0⟩) layOK func98 rfl rfl rfl rfl rfl (by simp [f98]) ?_
 unfold M174 at h
 refine Tr.seq ?_
 refine Tr.region layOK ?_
 conv => whnf
 refine Tr.seq ?_
 refine Tr.draw (DrawP.seqQ layOK mixed [] [(0, 3), (1, 3), (2, 3), (3, 1), (4, 2), (5, 2), (6, 2), (7, 3), (8, 3), (9, 3), (10, 2), (11, 2), (12, 1)] (by kernel_rfl) ?_)
 conv => whnf
 refine ⟨_, ⟨rfl, rfl, rr⟩, ?_⟩
 conv => whnf
 refine ⟨_, ⟨rfl, rfl, rr⟩, ?_⟩
 conv => whnf
 refine ⟨_, ⟨rfl, rfl, rr⟩, ?_⟩
 conv => whnf
 refine ⟨_, (fun _ => rr), ?_⟩
 conv => whnf
 obtain ⟨x_4, hx_4, h⟩ := bind_some h
 refine ⟨_, ⟨rfl, rfl, (by (conv => whnf); (refine ixP_of hx_4 ?_); (conv => whnf); (exact rr))⟩, ?_⟩
 conv => whnf
 refine ⟨_, ⟨rfl, rfl, rr⟩, ?_⟩
 conv => whnf
 refine ⟨_, ⟨rfl, rfl, rr⟩, ?_⟩
 conv => whnf
 refine ⟨_, ⟨rfl, rfl, rr⟩, ?_⟩
 conv => whnf
 refine ⟨_, ⟨rfl, rfl, rr⟩, ?_⟩
 conv => whnf
 refine ⟨_, ⟨rfl, rfl, rr⟩, ?_⟩
 conv => whnf
 obtain ⟨x_5, hx_5, h⟩ := bind_some h
 refine ⟨_, ⟨rfl, rfl, (by (conv => whnf); (refine ixP_of hx_5 ?_); (conv => whnf); (exact rr))⟩, ?_⟩
 conv => whnf
 refine ⟨_, ⟨rfl, rfl, rr⟩, ?_⟩
 conv => whnf
 refine ⟨_, (fun _ => rr), ?_⟩
 conv => whnf
 refine Tr.ret ?_
 conv => whnf
 cases h
 rfl
end Go.Proofs.Tryz
