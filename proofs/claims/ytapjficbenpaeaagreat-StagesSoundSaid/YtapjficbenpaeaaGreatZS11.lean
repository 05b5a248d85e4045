/- Contracts of functions, by program (gen.py). No condition. -/
import Derived.Test.YtapjficbenpaeaaGreatZL
import Derived.Test.YtapjficbenpaeaaGreatZM
import Derived.Test.YtapjficbenpaeaaGreatZCB
import Derived.Test.YtapjficbenpaeaaGreatZS10
namespace Go.Proofs.Tryz
open Go Go.Abs Go.Stop
set_option maxRecDepth 8000
set_option linter.unusedVariables false
set_option linter.unusedSimpArgs false
theorem P327 (s_1 : List TRunner) (c_2 : Int) (r_3 : Bool) (h : M327 s_1 c_2 = some r_3) :
    PC prog 102 [(.ls (List.map eTRunner s_1)), (.fn 103 [(.ro [(.i .i64 c_2)])])] (fun rs => rs = [(.b r_3)]) := by
 refine PC.of_tr (cx := ⟨9, none, lay, 0⟩) layOK func102 rfl rfl rfl rfl rfl (by simp [f102]) ?_
 unfold M327 at h
 refine sg ?_
 conv=>whnf
 refine sg ?_
 conv=>whnf
 obtain ⟨r_4, hc5, h⟩ := bS h
 refine PC.ecall (P326 s_1 c_2 r_4 hc5) (fun rs hrs => ?_)
 subst hrs
 conv=>whnf
 refine Tr.ret ?_
 conv=>whnf
 cases h
 rfl
theorem P328 (f_1 : TField) (world_2 : Int) (r_3 : Bool) (h : M328 f_1 world_2 = some r_3) :
    PC prog 70 [(eTField f_1), (.i .i64 world_2)] (fun rs => rs = [(.b r_3)]) := by
 refine PC.of_tr (cx := ⟨10, none, lay, 0⟩) layOK func70 rfl rfl rfl rfl rfl (by simp [f70]) ?_
 unfold M328 at h
 refine sg ?_
 conv=>whnf
 refine sg ?_
 conv=>whnf
 obtain ⟨r_4, hc5, h⟩ := bS h
 refine PC.ecall_lend ?_ ⟨_, _, func102, rfl, rfl⟩
 conv=>whnf
 refine ⟨_, P327 f_1.Runners world_2 r_4 hc5, fun rs hrs => ?_⟩
 subst hrs
 refine ⟨rfl, ?_⟩
 conv=>whnf
 refine Tr.ret ?_
 conv=>whnf
 cases h
 rfl
theorem P329 (n_1 : Int) (r_2 : Bool) (h : M329 n_1 = some r_2) :
    PC prog 105 [(.i .i64 n_1)] (fun rs => rs = [(.b r_2)]) := by
 refine PC.of_tr (cx := ⟨9, none, lay, 0⟩) layOK func105 rfl rfl rfl rfl rfl (by simp [f105]) ?_
 unfold M329 at h
 refine sg ?_
 conv=>whnf
 refine sg ?_
 conv=>whnf
 refine cB h (fun hb3 h => ?_) (fun hb3 h => ?_)
 ·conv=>whnf
  refine Tr.ret ?_
  conv=>whnf
  cases h
  rfl
 conv=>whnf
 refine Tr.ret ?_
 conv=>whnf
 cases h
 rfl
theorem P332 (s_1 : List Int) (r_2 : Int) (h : M332 s_1 = some r_2) :
    PC prog 146 [(.ls (List.map eI s_1)), (.fn 105 [])] (fun rs => rs = [(.i .i64 r_2)]) := by
 refine PC.of_tr (cx := ⟨19, none, lay, 0⟩) layOK func146 rfl rfl rfl rfl rfl (by simp [f146]) ?_
 unfold M332 at h
 refine sg ?_
 conv=>whnf
 refine Tr.seq ?_
 refine sg ?_
 conv=>whnf
 refine lnS_map ?_
 conv=>whnf
 refine Tr.cutQ (α := Unit) (fun s => ([(4, (dI 0))], [])) (fun s => M331 s = some r_2) ?_ ?_
 ·refine Tr.block ?_
  refine Tr.loopM (σ := Int) (fun n s => M330 s_1 M331 n s) r_2 (fun s => ([(0, .d (.ls (List.map eI s_1))), (1, .d (.fn 105 [])), (4, (dI 0)), (7, (dI (((s_1).length : Int)))), (8, (dI s))], [])) (((((s_1).length : Int)) - 0 : Int).toNat + 1) (0) h (fun s => rfl) (Wk.mk2 [] 0 rfl rfl (by decide) rfl trivial ⟨rr, rr, rr, rr, rr, trivial⟩) ?_
  clear h
  rintro n_5 v_4 h
  replace h : M330 s_1 M331 (n_5 + 1) v_4 = some r_2 := h
  rw [M330] at h
  refine sg ?_
  conv=>whnf
  refine Tr.seq ?_
  refine Tr.cond ?_
  conv=>whnf
  refine cB h (fun hb8 h => ?_) (fun hb8 h => ?_)
  ·refine Tr.skip ?_
   conv=>whnf
   refine Tr.seq ?_
   refine Tr.block ?_
   refine sg ?_
   conv=>whnf
   refine sg ?_
   conv=>whnf
   obtain ⟨x_9, hx_9, h⟩ := bS h
   refine ixP_of hx_9 ?_
   conv=>whnf
   obtain ⟨r_10, hc11, h⟩ := bS h
   refine PC.ecall (P329 x_9 r_10 hc11) (fun rs hrs => ?_)
   subst hrs
   conv=>whnf
   refine Tr.cond ?_
   conv=>whnf
   refine cB h (fun hb12 h => ?_) (fun hb12 h => ?_)
   ·refine sg ?_
    conv=>whnf
    refine Tr.ret ?_
    conv=>whnf
    cases h
    rfl
   refine Tr.skip ?_
   conv=>whnf
   refine rg ?_
   conv=>whnf
   refine arS_raw ?_
   conv=>whnf
   refine ⟨((w64 (v_4 + 1))), h, ?_⟩
   exact Wk.mk2 [] 0 rfl rfl (by decide) rfl trivial ⟨rr, rr, rr, rr, rr, trivial⟩
  refine Tr.exit ?_
  conv=>whnf
  refine ⟨(), h, ?_⟩
  exact Wk.mk2 [] 0 rfl rfl (by decide) rfl trivial ⟨rr, trivial⟩
 clear h
 rintro _ h T1 H1 hw
 replace h : M331 () = some r_2 := h
 conv=>whnf
 refine Tr.weak hw ?_
 unfold M331 at h
 refine sg ?_
 conv=>whnf
 refine Tr.ret ?_
 conv=>whnf
 cases h
 rfl
theorem P333 (s_1 : List Int) (r_2 : Bool) (h : M333 s_1 = some r_2) :
    PC prog 104 [(.ls (List.map eI s_1)), (.fn 105 [])] (fun rs => rs = [(.b r_2)]) := by
 refine PC.of_tr (cx := ⟨9, none, lay, 0⟩) layOK func104 rfl rfl rfl rfl rfl (by simp [f104]) ?_
 unfold M333 at h
 refine sg ?_
 conv=>whnf
 refine sg ?_
 conv=>whnf
 obtain ⟨r_3, hc4, h⟩ := bS h
 refine PC.ecall (P332 s_1 r_3 hc4) (fun rs hrs => ?_)
 subst hrs
 conv=>whnf
 refine Tr.ret ?_
 conv=>whnf
 cases h
 rfl
theorem P338 (k_1 : TClocks) (offsets_2 : List Int) (r_3 : Bool) (h : M338 k_1 offsets_2 = some r_3) :
    PC prog 71 [(eTClocks k_1), (.ls (List.map eI offsets_2))] (fun rs => rs = [(.b r_3)]) := by
 refine PC.of_tr (cx := ⟨43, none, lay, 0⟩) layOK func71 rfl rfl rfl rfl rfl (by simp [f71]) ?_
 unfold M338 at h
 refine sg ?_
 conv=>whnf
 refine sg ?_
 conv=>whnf
 refine orB_l ?_
 conv=>whnf
 refine frP_no ?_
 conv=>whnf
 refine eqS_mk (by first | rfl | simp) ?_
 conv=>whnf
 obtain ⟨l_4, hl_4, h⟩ := bS h
 refine apS_of hl_4 (aQ (f := eI) (l := offsets_2) fun _ => rfl) (by first | rfl | simp) (by first | rfl | simp) (fun he => ?_)
 conv=>whnf
 refine rS (es' := List.map .d (List.map eI l_4)) (n' := List.length l_4) (by subst he; simp only [List.map_append, List.map_cons, List.map_nil, List.nil_append]; first | done | rfl) (by subst he; simp <;> omega) ?_
 clear he
 conv=>whnf
 refine Tr.seq ?_
 refine sg ?_
 conv=>whnf
 obtain ⟨r_5, hc6, h⟩ := bS h
 refine PC.ecall_lend ?_ ⟨_, _, func104, rfl, rfl⟩
 conv=>whnf
 refine frE_of (f := eI) (l := l_4) rfl ?_
 conv=>whnf
 refine ⟨_, P333 l_4 r_5 hc6, fun rs hrs => ?_⟩
 subst hrs
 refine ⟨rfl, ?_⟩
 conv=>whnf
 refine Tr.cond ?_
 conv=>whnf
 refine cB h (fun hb7 h => ?_) (fun hb7 h => ?_)
 ·refine sg ?_
  conv=>whnf
  refine Tr.ret ?_
  conv=>whnf
  cases h
  rfl
 refine Tr.skip ?_
 conv=>whnf
 refine Tr.seq ?_
 refine sg ?_
 conv=>whnf
 refine lnS_map ?_
 conv=>whnf
 refine Tr.cutQ (α := Unit) (fun s => ([(4, .d (.b false))], [])) (fun s => M337 s = some r_3) ?_ ?_
 ·refine Tr.block ?_
  refine Tr.loopM (σ := Int) (fun n s => M336 k_1 l_4 M337 n s) r_3 (fun s => ([(4, .d (.b false)), (5, .sl 0 1 0 (List.length l_4)), (16, .d (.ls (List.map (eL eI) k_1.Far))), (17, (dI (((k_1.Far).length : Int)))), (18, (dI s))], [some (.arr 1 (List.map .d (List.map eI l_4)))])) (((((k_1.Far).length : Int)) - 0 : Int).toNat + 1) (0) h (fun s => rfl) (Wk.mk2 [2] 3 rfl rfl (by decide) rfl ⟨daS_d rfl, trivial⟩ ⟨rr, ⟨rfl, (by first | rfl | (simp only [↓hb7, bl]; done) | (simp only [↓hb7, bl]; rfl))⟩, rr, rr, rr, trivial⟩) ?_
  clear h
  rintro n_10 v_9 h
  replace h : M336 k_1 l_4 M337 (n_10 + 1) v_9 = some r_3 := h
  rw [M336] at h
  refine sg ?_
  conv=>whnf
  refine Tr.seq ?_
  refine Tr.cond ?_
  conv=>whnf
  refine cB h (fun hb13 h => ?_) (fun hb13 h => ?_)
  ·refine Tr.skip ?_
   conv=>whnf
   refine Tr.seq ?_
   refine Tr.block ?_
   refine sg ?_
   conv=>whnf
   obtain ⟨x_14, hx_14, h⟩ := bS h
   refine ixP_of hx_14 ?_
   conv=>whnf
   refine sg ?_
   conv=>whnf
   refine lnS_map ?_
   conv=>whnf
   refine Tr.cutQ (α := Unit) (fun s => ([(4, .d (.b false)), (5, .sl 0 1 0 (List.length l_4)), (16, .d (.ls (List.map (eL eI) k_1.Far))), (17, (dI (((k_1.Far).length : Int)))), (18, (dI v_9))], [some (.arr 1 (List.map .d (List.map eI l_4)))])) (fun s => M335 v_9 (M336 k_1 l_4 M337 n_10) s = some r_3) ?_ ?_
   ·refine Tr.block ?_
    refine Tr.loopM (σ := Int) (fun n s => M334 l_4 v_9 x_14 (M335 v_9 (M336 k_1 l_4 M337 n_10)) n s) r_3 (fun s => ([(4, .d (.b false)), (5, .sl 0 1 0 (List.length l_4)), (6, (dI v_9)), (16, .d (.ls (List.map (eL eI) k_1.Far))), (17, (dI (((k_1.Far).length : Int)))), (18, (dI v_9)), (23, .d (.ls (List.map eI x_14))), (24, (dI (((x_14).length : Int)))), (25, (dI s))], [some (.arr 1 (List.map .d (List.map eI l_4)))])) (((((x_14).length : Int)) - 0 : Int).toNat + 1) (0) h (fun s => rfl) (Wk.mk2 [0] 1 rfl rfl (by decide) rfl ⟨daS_d rfl, trivial⟩ ⟨rr, rr, rr, rr, rr, rr, rr, rr, rr, trivial⟩) ?_
    clear h
    rintro n_17 v_16 h
    replace h : M334 l_4 v_9 x_14 (M335 v_9 (M336 k_1 l_4 M337 n_10)) (n_17 + 1) v_16 = some r_3 := h
    rw [M334] at h
    refine sg ?_
    conv=>whnf
    refine Tr.seq ?_
    refine Tr.cond ?_
    conv=>whnf
    refine cB h (fun hb20 h => ?_) (fun hb20 h => ?_)
    ·refine Tr.skip ?_
     conv=>whnf
     refine Tr.seq ?_
     refine Tr.block ?_
     refine sg ?_
     conv=>whnf
     obtain ⟨x_21, hx_21, h⟩ := bS h
     refine ixP_of hx_21 ?_
     conv=>whnf
     refine sd [] [(0,1),(1,1),(2,3),(3,3),(4,1),(5,1),(6,3),(7,3),(8,1),(9,1),(10,1)] ?_
     conv=>whnf
     refine q1 ?_
     conv=>whnf
     refine q1 ?_
     conv=>whnf
     obtain ⟨x_22, hx_22, h⟩ := bS h
     refine q3 (ixS_of hx_22 rfl rr) ?_
     conv=>whnf
     refine q3 (elP_of hx_22 rr) ?_
     conv=>whnf
     refine q1 ?_
     conv=>whnf
     refine q1 ?_
     conv=>whnf
     obtain ⟨x_23, hx_23, h⟩ := bS h
     refine q3 (ixS_of hx_23 rfl rr) ?_
     conv=>whnf
     refine q3 (elP_of hx_23 rr) ?_
     conv=>whnf
     refine q4 ?_
     conv=>whnf
     refine q1 ?_
     conv=>whnf
     refine q1 ?_
     conv=>whnf
     refine Tr.cond ?_
     conv=>whnf
     refine cB h (fun hb24 h => ?_) (fun hb24 h => ?_)
     ·refine sg ?_
      conv=>whnf
      refine Tr.ret ?_
      conv=>whnf
      cases h
      rfl
     refine Tr.skip ?_
     conv=>whnf
     refine rg ?_
     conv=>whnf
     refine arS_raw ?_
     conv=>whnf
     refine ⟨((w64 (v_16 + 1))), h, ?_⟩
     exact Wk.mk2 [0] 1 rfl rfl (by decide) rfl ⟨daS_d rfl, trivial⟩ ⟨rr, rr, rr, rr, rr, rr, rr, rr, rr, trivial⟩
    refine Tr.exit ?_
    conv=>whnf
    refine ⟨(), h, ?_⟩
    exact Wk.mk2 [0] 1 rfl rfl (by decide) rfl ⟨daS_d rfl, trivial⟩ ⟨rr, rr, rr, rr, rr, trivial⟩
   clear h
   rintro _ h T1 H1 hw
   replace h : M335 v_9 (M336 k_1 l_4 M337 n_10) () = some r_3 := h
   conv=>whnf
   refine Tr.weak hw ?_
   unfold M335 at h
   refine rg ?_
   conv=>whnf
   refine arS_raw ?_
   conv=>whnf
   refine ⟨((w64 (v_9 + 1))), h, ?_⟩
   exact Wk.mk2 [0] 1 rfl rfl (by decide) rfl ⟨daS_d rfl, trivial⟩ ⟨rr, rr, rr, rr, rr, trivial⟩
  refine Tr.exit ?_
  conv=>whnf
  refine ⟨(), h, ?_⟩
  exact Wk.mk2 [] 1 rfl rfl (by decide) rfl trivial ⟨rr, trivial⟩
 clear h
 rintro _ h T1 H1 hw
 replace h : M337 () = some r_3 := h
 conv=>whnf
 refine Tr.weak hw ?_
 unfold M337 at h
 refine sg ?_
 conv=>whnf
 refine Tr.ret ?_
 conv=>whnf
 cases h
 rfl
theorem P339 (v_1 : Thistory_view) (runner_2 : Int) (r_3 : List TOutcome) (h : M339 v_1 runner_2 = some r_3) :
    PC prog 72 [(eThistory_view v_1), (.i .i64 runner_2)] (fun rs => rs = [(.ls (List.map eTOutcome r_3))]) := by
 refine PC.of_tr (cx := ⟨17, none, lay, 0⟩) layOK func72 rfl rfl rfl rfl rfl (by simp [f72]) ?_
 unfold M339 at h
 refine sg ?_
 conv=>whnf
 refine sd [] [(0,3),(1,3),(2,3),(3,1),(4,2),(5,2),(6,2),(7,3),(8,3),(9,3),(10,2),(11,2),(12,1)] ?_
 conv=>whnf
 refine q2 ?_
 conv=>whnf
 refine q2 ?_
 conv=>whnf
 refine q2 ?_
 conv=>whnf
 refine q1 ?_
 conv=>whnf
 obtain ⟨x_4, hx_4, h⟩ := bS h
 refine q3 (ixP_of hx_4 rr) ?_
 conv=>whnf
 refine q2 ?_
 conv=>whnf
 refine q2 ?_
 conv=>whnf
 refine q2 ?_
 conv=>whnf
 refine q2 ?_
 conv=>whnf
 refine q2 ?_
 conv=>whnf
 obtain ⟨x_5, hx_5, h⟩ := bS h
 refine q3 (ixP_of hx_5 rr) ?_
 conv=>whnf
 refine q2 ?_
 conv=>whnf
 refine q1 ?_
 conv=>whnf
 refine Tr.ret ?_
 conv=>whnf
 cases h
 rfl
theorem P340 (v_1 : Thistory_view) (runner_2 : Int) (r_3 : TOutcome) (h : M340 v_1 runner_2 = some r_3) :
    PC prog 73 [(eThistory_view v_1), (.i .i64 runner_2)] (fun rs => rs = [(eTOutcome r_3)]) := by
 refine PC.of_tr (cx := ⟨17, none, lay, 0⟩) layOK func73 rfl rfl rfl rfl rfl (by simp [f73]) ?_
 unfold M340 at h
 refine sg ?_
 conv=>whnf
 refine sd [(12,1)] [(0,3),(1,1),(2,1),(3,3),(4,3),(5,3),(6,1),(7,2),(8,2),(9,2),(10,2),(11,2),(12,0)] ?_
 conv=>whnf
 refine q2 ?_
 conv=>whnf
 refine q1 ?_
 conv=>whnf
 obtain ⟨r_4, hc5, h⟩ := bS h
 refine q1 ?_ (fun _ => pe (P339 v_1 runner_2 r_4 hc5) rr)
 conv=>whnf
 refine q2 ?_
 conv=>whnf
 refine q2 ?_
 conv=>whnf
 refine q2 ?_
 conv=>whnf
 refine q1 ?_
 conv=>whnf
 obtain ⟨x_6, hx_6, h⟩ := bS h
 refine q3 (ixP_of hx_6 rr) ?_
 conv=>whnf
 refine q2 ?_
 conv=>whnf
 refine q2 ?_
 conv=>whnf
 obtain ⟨x_7, hx_7, h⟩ := bS h
 refine q3 (ixP_of hx_7 rr) ?_
 conv=>whnf
 refine q2 ?_
 conv=>whnf
 refine ⟨_, _, rr, kp_ok (by repeat (first | exact trivial | refine ⟨trivial, ?_⟩ | refine ⟨rfl, ?_⟩)), ?_⟩
 conv=>whnf
 refine Tr.ret ?_
 conv=>whnf
 cases h
 rfl
theorem P343 (f_1 : TField) (h_2 : THistory) (r_3 : Thistory_view) (r_4 : Int) (h : M343 f_1 h_2 = some (r_3, r_4)) :
    PC prog 38 [(eTField f_1), (eTHistory h_2)] (fun rs => rs = [(eThistory_view r_3), (.i .i64 r_4)]) := by
 refine PC.of_tr (cx := ⟨105, none, lay, 0⟩) layOK func38 rfl rfl rfl rfl rfl (by simp [f38]) ?_
 unfold M343 at h
 refine sg ?_
 conv=>whnf
 refine Tr.seq ?_
 refine sg ?_
 conv=>whnf
 obtain ⟨r_5, hc6, h⟩ := bS h
 refine PC.ecall (P46 f_1 r_5 hc6) (fun rs hrs => ?_)
 subst hrs
 conv=>whnf
 refine Tr.cond ?_
 conv=>whnf
 refine cB h (fun hb7 h => ?_) (fun hb7 h => ?_)
 ·refine sg ?_
  conv=>whnf
  refine orB_l ?_
  conv=>whnf
  refine Tr.ret ?_
  conv=>whnf
  cases h
  rfl
 refine Tr.skip ?_
 conv=>whnf
 refine sg ?_
 conv=>whnf
 refine Tr.seq ?_
 refine Tr.seq ?_
 obtain ⟨v_8, hv9, h⟩ := bS h
 refine Tr.cutQ1 ([(3, .pt 0 0), (4, .pt 1 0), (5, (dI 0)), (60, .d (.b v_8))]) ([some (.var [(dI h_2.World), .d (.ls (List.map eI h_2.Offsets)), .d (.ls (List.map eTChoice h_2.Choices))]), some (.var [.d (.ls (List.map eTSegment f_1.Clocks.Segments)), .d (.ls (List.map (eL eI) f_1.Clocks.Far)), .d (.ls (List.map eTPair f_1.Pairs)), .d (.ls (List.map eTRunner f_1.Runners)), (dI h_2.World), .d (.ls (List.map eI h_2.Offsets)), .d (.ls (List.map eTChoice h_2.Choices))])]) ?_ (fun T1 H1 hw => ?_)
 ·replace h := hv9; clear hv9
  refine rg ?_
  conv=>whnf
  refine cB h (fun hb10 h => ?_) (fun hb10 h => ?_)
  ·conv=>whnf
   cases h
   exact Wk.mk2 [1, 2] 3 rfl rfl (by decide) rfl ⟨rr, rr, trivial⟩ ⟨⟨rfl, (by first | rfl | (simp only [↓hb7, ↓hb10, bl]; done) | (simp only [↓hb7, ↓hb10, bl]; rfl))⟩, ⟨rfl, (by first | rfl | (simp only [↓hb7, ↓hb10, bl]; done) | (simp only [↓hb7, ↓hb10, bl]; rfl))⟩, rr, rr, trivial⟩
  conv=>whnf
  refine lnS_map ?_
  conv=>whnf
  refine cB h (fun hb11 h => ?_) (fun hb11 h => ?_)
  ·conv=>whnf
   cases h
   exact Wk.mk2 [1, 2] 3 rfl rfl (by decide) rfl ⟨rr, rr, trivial⟩ ⟨⟨rfl, (by first | rfl | (simp only [↓hb7, ↓hb10, ↓hb11, bl]; done) | (simp only [↓hb7, ↓hb10, ↓hb11, bl]; rfl))⟩, ⟨rfl, (by first | rfl | (simp only [↓hb7, ↓hb10, ↓hb11, bl]; done) | (simp only [↓hb7, ↓hb10, ↓hb11, bl]; rfl))⟩, rr, rr, trivial⟩
  conv=>whnf
  obtain ⟨r_12, hc13, h⟩ := bS h
  refine PC.ecall (P328 f_1 h_2.World r_12 hc13) (fun rs hrs => ?_)
  subst hrs
  conv=>whnf
  refine cB h (fun hb14 h => ?_) (fun hb14 h => ?_)
  ·conv=>whnf
   cases h
   exact Wk.mk2 [1, 2] 3 rfl rfl (by decide) rfl ⟨rr, rr, trivial⟩ ⟨⟨rfl, (by first | rfl | (simp only [↓hb7, ↓hb10, ↓hb11, ↓hb14, bl]; done) | (simp only [↓hb7, ↓hb10, ↓hb11, ↓hb14, bl]; rfl))⟩, ⟨rfl, (by first | rfl | (simp only [↓hb7, ↓hb10, ↓hb11, ↓hb14, bl]; done) | (simp only [↓hb7, ↓hb10, ↓hb11, ↓hb14, bl]; rfl))⟩, rr, rr, trivial⟩
  conv=>whnf
  refine lnS_map ?_
  conv=>whnf
  refine lnS_map ?_
  conv=>whnf
  refine cB h (fun hb15 h => ?_) (fun hb15 h => ?_)
  ·conv=>whnf
   cases h
   exact Wk.mk2 [1, 2] 3 rfl rfl (by decide) rfl ⟨rr, rr, trivial⟩ ⟨⟨rfl, (by first | rfl | (simp only [↓hb7, ↓hb10, ↓hb11, ↓hb14, ↓hb15, bl]; done) | (simp only [↓hb7, ↓hb10, ↓hb11, ↓hb14, ↓hb15, bl]; rfl))⟩, ⟨rfl, (by first | rfl | (simp only [↓hb7, ↓hb10, ↓hb11, ↓hb14, ↓hb15, bl]; done) | (simp only [↓hb7, ↓hb10, ↓hb11, ↓hb14, ↓hb15, bl]; rfl))⟩, rr, rr, trivial⟩
  conv=>whnf
  refine lnS_map ?_
  conv=>whnf
  refine lnS_map ?_
  conv=>whnf
  refine cB h (fun hb16 h => ?_) (fun hb16 h => ?_)
  ·conv=>whnf
   cases h
   exact Wk.mk2 [1, 2] 3 rfl rfl (by decide) rfl ⟨rr, rr, trivial⟩ ⟨⟨rfl, (by first | rfl | (simp only [↓hb7, ↓hb10, ↓hb11, ↓hb14, ↓hb15, ↓hb16, bl]; done) | (simp only [↓hb7, ↓hb10, ↓hb11, ↓hb14, ↓hb15, ↓hb16, bl]; rfl))⟩, ⟨rfl, (by first | rfl | (simp only [↓hb7, ↓hb10, ↓hb11, ↓hb14, ↓hb15, ↓hb16, bl]; done) | (simp only [↓hb7, ↓hb10, ↓hb11, ↓hb14, ↓hb15, ↓hb16, bl]; rfl))⟩, rr, rr, trivial⟩
  conv=>whnf
  obtain ⟨r_17, hc18, h⟩ := bS h
  refine PC.ecall (P338 f_1.Clocks h_2.Offsets r_17 hc18) (fun rs hrs => ?_)
  subst hrs
  conv=>whnf
  cases h
  exact Wk.mk2 [1, 2] 3 rfl rfl (by decide) rfl ⟨rr, rr, trivial⟩ ⟨⟨rfl, (by first | rfl | (simp only [↓hb7, ↓hb10, ↓hb11, ↓hb14, ↓hb15, ↓hb16, bl]; done) | (simp only [↓hb7, ↓hb10, ↓hb11, ↓hb14, ↓hb15, ↓hb16, bl]; rfl))⟩, ⟨rfl, (by first | rfl | (simp only [↓hb7, ↓hb10, ↓hb11, ↓hb14, ↓hb15, ↓hb16, bl]; done) | (simp only [↓hb7, ↓hb10, ↓hb11, ↓hb14, ↓hb15, ↓hb16, bl]; rfl))⟩, rr, rr, trivial⟩
 clear hv9
 conv=>whnf
 refine Tr.weak hw ?_
 refine Tr.cond ?_
 conv=>whnf
 refine cB h (fun hb19 h => ?_) (fun hb19 h => ?_)
 ·refine sg ?_
  conv=>whnf
  refine Tr.ret ?_
  conv=>whnf
  cases h
  rfl
 refine Tr.skip ?_
 conv=>whnf
 refine Tr.seq ?_
 refine sg ?_
 conv=>whnf
 refine lnS_map ?_
 conv=>whnf
 refine Tr.cutQ (α := Unit) (fun s => ([(4, .pt 0 0), (5, (dI 0))], [some (.var [.d (.ls (List.map eTSegment f_1.Clocks.Segments)), .d (.ls (List.map (eL eI) f_1.Clocks.Far)), .d (.ls (List.map eTPair f_1.Pairs)), .d (.ls (List.map eTRunner f_1.Runners)), (dI h_2.World), .d (.ls (List.map eI h_2.Offsets)), .d (.ls (List.map eTChoice h_2.Choices))])])) (fun s => M342 f_1 h_2 s = some (r_3, r_4)) ?_ ?_
 ·refine Tr.block ?_
  refine Tr.loopM (σ := Int) (fun n s => M341 f_1 h_2 (M342 f_1 h_2) n s) (r_3, r_4) (fun s => ([(4, .pt 0 0), (5, (dI 0)), (63, .d (.ls (List.map eTChoice h_2.Choices))), (64, (dI (((h_2.Choices).length : Int)))), (65, (dI s))], [some (.var [.d (.ls (List.map eTSegment f_1.Clocks.Segments)), .d (.ls (List.map (eL eI) f_1.Clocks.Far)), .d (.ls (List.map eTPair f_1.Pairs)), .d (.ls (List.map eTRunner f_1.Runners)), (dI h_2.World), .d (.ls (List.map eI h_2.Offsets)), .d (.ls (List.map eTChoice h_2.Choices))])])) (((((h_2.Choices).length : Int)) - 0 : Int).toNat + 1) (0) h (fun s => rfl) (Wk.mk2 [1] 2 rfl rfl (by decide) rfl ⟨rr, trivial⟩ ⟨⟨rfl, (by first | rfl | (simp only [↓hb7, ↓hb19, bl]; done) | (simp only [↓hb7, ↓hb19, bl]; rfl))⟩, rr, rr, rr, rr, trivial⟩) ?_
  clear h
  rintro n_22 v_21 h
  replace h : M341 f_1 h_2 (M342 f_1 h_2) (n_22 + 1) v_21 = some (r_3, r_4) := h
  rw [M341] at h
  refine sg ?_
  conv=>whnf
  refine Tr.seq ?_
  refine Tr.cond ?_
  conv=>whnf
  refine cB h (fun hb25 h => ?_) (fun hb25 h => ?_)
  ·refine Tr.skip ?_
   conv=>whnf
   refine Tr.seq ?_
   refine Tr.block ?_
   refine sg ?_
   conv=>whnf
   obtain ⟨x_26, hx_26, h⟩ := bS h
   refine ixP_of hx_26 ?_
   conv=>whnf
   refine Tr.seq ?_
   refine sd [] [(0,4),(1,4),(2,1),(3,1),(4,4),(5,4),(6,3),(7,1),(8,1),(9,2),(10,1),(11,1)] ?_
   conv=>whnf
   refine q2 ?_
   conv=>whnf
   refine q2 ?_
   conv=>whnf
   refine q1 ?_
   conv=>whnf
   refine q1 ?_
   conv=>whnf
   refine cB h (fun hb27 h => ?_) (fun hb27 h => ?_)
   ·conv=>whnf
    refine q1 ?_
    conv=>whnf
    refine Tr.cond ?_
    conv=>whnf
    refine sg ?_
    conv=>whnf
    refine Tr.ret ?_
    conv=>whnf
    cases h
    rfl
   conv=>whnf
   refine q2 ?_
   conv=>whnf
   refine q2 ?_
   conv=>whnf
   refine q2 ?_
   conv=>whnf
   refine q1 ?_
   conv=>whnf
   obtain ⟨r_28, hc29, h⟩ := bS h
   refine q1 ?_ (fun _ => pe (P339 ({ f := f_1, h := h_2 } : Thistory_view) v_21 r_28 hc29) rr)
   conv=>whnf
   refine q3 (lnS_map rr) ?_
   conv=>whnf
   refine q1 ?_
   conv=>whnf
   refine q1 ?_
   conv=>whnf
   refine Tr.cond ?_
   conv=>whnf
   refine cB h (fun hb30 h => ?_) (fun hb30 h => ?_)
   ·refine sg ?_
    conv=>whnf
    refine Tr.ret ?_
    conv=>whnf
    cases h
    rfl
   refine Tr.skip ?_
   conv=>whnf
   refine sg ?_
   conv=>whnf
   obtain ⟨r_31, hc32, h⟩ := bS h
   refine PC.ecall (P340 ({ f := f_1, h := h_2 } : Thistory_view) v_21 r_31 hc32) (fun rs hrs => ?_)
   subst hrs
   conv=>whnf
   refine Tr.seq ?_
   refine sg ?_
   conv=>whnf
   refine Tr.cond ?_
   conv=>whnf
   refine cB h (fun hb33 h => ?_) (fun hb33 h => ?_)
   ·refine rg ?_
    conv=>whnf
    refine sg ?_
    conv=>whnf
    refine cB h (fun hb34 h => ?_) (fun hb34 h => ?_)
    ·conv=>whnf
     refine Tr.cond ?_
     conv=>whnf
     refine sg ?_
     conv=>whnf
     refine Tr.ret ?_
     conv=>whnf
     cases h
     rfl
    conv=>whnf
    refine Tr.cond ?_
    conv=>whnf
    refine cB h (fun hb35 h => ?_) (fun hb35 h => ?_)
    ·refine sg ?_
     conv=>whnf
     refine Tr.ret ?_
     conv=>whnf
     cases h
     rfl
    refine Tr.skip ?_
    conv=>whnf
    refine rg ?_
    conv=>whnf
    refine arS_raw ?_
    conv=>whnf
    refine ⟨((w64 (v_21 + 1))), h, ?_⟩
    exact Wk.mk2 [0] 3 rfl rfl (by decide) rfl ⟨rr, trivial⟩ ⟨rr, rr, rr, rr, rr, trivial⟩
   refine Tr.skip ?_
   conv=>whnf
   refine sg ?_
   conv=>whnf
   refine cB h (fun hb36 h => ?_) (fun hb36 h => ?_)
   ·conv=>whnf
    refine Tr.cond ?_
    conv=>whnf
    refine sg ?_
    conv=>whnf
    refine Tr.ret ?_
    conv=>whnf
    cases h
    rfl
   conv=>whnf
   refine Tr.cond ?_
   conv=>whnf
   refine cB h (fun hb37 h => ?_) (fun hb37 h => ?_)
   ·refine sg ?_
    conv=>whnf
    refine Tr.ret ?_
    conv=>whnf
    cases h
    rfl
   refine Tr.skip ?_
   conv=>whnf
   refine rg ?_
   conv=>whnf
   refine arS_raw ?_
   conv=>whnf
   refine ⟨((w64 (v_21 + 1))), h, ?_⟩
   exact Wk.mk2 [0] 3 rfl rfl (by decide) rfl ⟨rr, trivial⟩ ⟨rr, rr, rr, rr, rr, trivial⟩
  refine Tr.exit ?_
  conv=>whnf
  refine ⟨(), h, ?_⟩
  exact Wk.mk2 [0] 1 rfl rfl (by decide) rfl ⟨rr, trivial⟩ ⟨rr, rr, trivial⟩
 clear h
 rintro _ h T1 H1 hw
 replace h : M342 f_1 h_2 () = some (r_3, r_4) := h
 conv=>whnf
 refine Tr.weak hw ?_
 unfold M342 at h
 refine sg ?_
 conv=>whnf
 refine Tr.ret ?_
 conv=>whnf
 cases h
 rfl
theorem P344 (f_1 : TField) (h_2 : THistory) (r_3 : Int) (h : M344 f_1 h_2 = some r_3) :
    PC prog 12 [(eTField f_1), (eTHistory h_2)] (fun rs => rs = [(.i .i64 r_3)]) := by
 refine PC.of_tr (cx := ⟨12, none, lay, 0⟩) layOK func12 rfl rfl rfl rfl rfl (by simp [f12]) ?_
 unfold M344 at h
 refine sg ?_
 conv=>whnf
 refine sg ?_
 conv=>whnf
 obtain ⟨⟨r_4, r_5⟩, hc6, h⟩ := bS h
 refine PC.ecall (P343 f_1 h_2 r_4 r_5 hc6) (fun rs hrs => ?_)
 subst hrs
 conv=>whnf
 refine sg ?_
 conv=>whnf
 refine Tr.ret ?_
 conv=>whnf
 cases h
 rfl
theorem P345 (f_1 : TField) (h_2 : THistory) (runner_3 : Int) (r_4 : Thistory_view) (r_5 : Int) (h : M345 f_1 h_2 runner_3 = some (r_4, r_5)) :
    PC prog 41 [(eTField f_1), (eTHistory h_2), (.i .i64 runner_3)] (fun rs => rs = [(eThistory_view r_4), (.i .i64 r_5)]) := by
 refine PC.of_tr (cx := ⟨29, none, lay, 0⟩) layOK func41 rfl rfl rfl rfl rfl (by simp [f41]) ?_
 unfold M345 at h
 refine sg ?_
 conv=>whnf
 refine Tr.seq ?_
 refine sg ?_
 conv=>whnf
 obtain ⟨⟨r_6, r_7⟩, hc8, h⟩ := bS h
 refine PC.ecall (P343 f_1 h_2 r_6 r_7 hc8) (fun rs hrs => ?_)
 subst hrs
 conv=>whnf
 refine sg ?_
 conv=>whnf
 refine cB h (fun hb9 h => ?_) (fun hb9 h => ?_)
 ·conv=>whnf
  refine cB h (fun hb10 h => ?_) (fun hb10 h => ?_)
  ·conv=>whnf
   refine Tr.cond ?_
   conv=>whnf
   refine rg ?_
   conv=>whnf
   refine sg ?_
   conv=>whnf
   refine Tr.ret ?_
   conv=>whnf
   cases h
   rfl
  conv=>whnf
  refine lnS_map ?_
  conv=>whnf
  refine Tr.cond ?_
  conv=>whnf
  refine cB h (fun hb11 h => ?_) (fun hb11 h => ?_)
  ·refine rg ?_
   conv=>whnf
   refine sg ?_
   conv=>whnf
   refine Tr.ret ?_
   conv=>whnf
   cases h
   rfl
  refine Tr.skip ?_
  conv=>whnf
  refine sg ?_
  conv=>whnf
  refine Tr.ret ?_
  conv=>whnf
  cases h
  rfl
 conv=>whnf
 refine Tr.cond ?_
 conv=>whnf
 refine Tr.skip ?_
 conv=>whnf
 refine sg ?_
 conv=>whnf
 refine Tr.ret ?_
 conv=>whnf
 cases h
 rfl
theorem P346 (v_1 : Thistory_view) (runner_2 : Int) (r_3 : Int) (r_4 : Bool) (h : M346 v_1 runner_2 = some (r_3, r_4)) :
    PC prog 42 [(eThistory_view v_1), (.i .i64 runner_2)] (fun rs => rs = [(.i .i64 r_3), (.b r_4)]) := by
 refine PC.of_tr (cx := ⟨32, none, lay, 0⟩) layOK func42 rfl rfl rfl rfl rfl (by simp [f42]) ?_
 unfold M346 at h
 refine sg ?_
 conv=>whnf
 refine sg ?_
 conv=>whnf
 obtain ⟨r_5, hc6, h⟩ := bS h
 refine PC.ecall (P340 v_1 runner_2 r_5 hc6) (fun rs hrs => ?_)
 subst hrs
 conv=>whnf
 refine Tr.seq ?_
 refine sg ?_
 conv=>whnf
 refine Tr.cond ?_
 conv=>whnf
 refine cB h (fun hb7 h => ?_) (fun hb7 h => ?_)
 ·refine sg ?_
  conv=>whnf
  refine Tr.ret ?_
  conv=>whnf
  cases h
  rfl
 refine Tr.skip ?_
 conv=>whnf
 refine sg ?_
 conv=>whnf
 obtain ⟨x_8, hx_8, h⟩ := bS h
 refine ixP_of hx_8 ?_
 conv=>whnf
 refine Tr.seq ?_
 refine sg ?_
 conv=>whnf
 refine Tr.cond ?_
 conv=>whnf
 refine cB h (fun hb9 h => ?_) (fun hb9 h => ?_)
 ·refine rg ?_
  conv=>whnf
  obtain ⟨x_10, hx_10, h⟩ := bS h
  refine ixP_of hx_10 ?_
  conv=>whnf
  refine arS_raw ?_
  conv=>whnf
  refine sg ?_
  conv=>whnf
  refine Tr.ret ?_
  conv=>whnf
  cases h
  rfl
 refine Tr.skip ?_
 conv=>whnf
 refine sg ?_
 conv=>whnf
 refine Tr.ret ?_
 conv=>whnf
 cases h
 rfl
end Go.Proofs.Tryz
