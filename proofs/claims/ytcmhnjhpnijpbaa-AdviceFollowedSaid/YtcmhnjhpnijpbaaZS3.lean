/- Contracts of functions, by program (gen.py). No condition. -/
import Derived.Test.YtcmhnjhpnijpbaaZL
import Derived.Test.YtcmhnjhpnijpbaaZM
import Derived.Test.YtcmhnjhpnijpbaaZCB
import Derived.Test.YtcmhnjhpnijpbaaZS2
namespace Go.Proofs.Try
open Go Go.Abs Go.Stop
set_option maxRecDepth 8000
set_option linter.unusedVariables false
set_option linter.unusedSimpArgs false
theorem P65 (f_1 : TField) (runners_2 : List Int) (r_3 : Int) (h : M65 f_1 runners_2 = some r_3) :
    PC prog 42 [(eTField f_1), (.ls (List.map eI runners_2))] (fun rs => rs = [(.i .i64 r_3)]) := by
 refine PC.of_tr (cx := ⟨26, none, lay, 0⟩) layOK func42 rfl rfl rfl rfl rfl (by simp [f42]) ?_
 unfold M65 at h
 refine sg ?_
 conv=>whnf
 refine Tr.seq ?_
 refine sg ?_
 conv=>whnf
 obtain ⟨r_4, hc5, h⟩ := bS h
 refine PC.ecall (P48 f_1 r_4 hc5) (fun rs hrs => ?_)
 subst hrs
 conv=>whnf
 refine Tr.cond ?_
 conv=>whnf
 refine cB h (fun hb6 h => ?_) (fun hb6 h => ?_)
 ·refine sg ?_
  conv=>whnf
  refine Tr.ret ?_
  conv=>whnf
  cases h
  rfl
 refine Tr.skip ?_
 conv=>whnf
 refine Tr.seq ?_
 refine sg ?_
 conv=>whnf
 refine lnS_map ?_
 conv=>whnf
 refine Tr.cutQ (α := Unit) (fun s => ([(4, (dI 0))], [])) (fun s => M64 s = some r_3) ?_ ?_
 ·refine Tr.block ?_
  refine Tr.loopM (σ := Int) (fun n s => M63 f_1 runners_2 M64 n s) r_3 (fun s => ([(2, .pt 0 0), (4, (dI 0)), (10, .d (.ls (List.map eI runners_2))), (11, (dI (((runners_2).length : Int)))), (12, (dI s))], [some (.var [.d (.ls (List.map eTSegment f_1.Clocks.Segments)), .d (.ls (List.map (eL eI) f_1.Clocks.Far)), .d (.ls (List.map eTPair f_1.Pairs)), .d (.ls (List.map eTRunner f_1.Runners))])])) (((((runners_2).length : Int)) - 0 : Int).toNat + 1) (0) h (fun s => rfl) (Wk.mk2 [0] 1 rfl rfl (by decide) rfl ⟨rr, trivial⟩ ⟨rr, rr, rr, rr, rr, trivial⟩) ?_
  clear h
  rintro n_9 v_8 h
  replace h : M63 f_1 runners_2 M64 (n_9 + 1) v_8 = some r_3 := h
  rw [M63] at h
  refine sg ?_
  conv=>whnf
  refine Tr.seq ?_
  refine Tr.cond ?_
  conv=>whnf
  refine cB h (fun hb12 h => ?_) (fun hb12 h => ?_)
  ·refine Tr.skip ?_
   conv=>whnf
   refine Tr.seq ?_
   refine Tr.block ?_
   refine sg ?_
   conv=>whnf
   obtain ⟨x_13, hx_13, h⟩ := bS h
   refine ixP_of hx_13 ?_
   conv=>whnf
   refine sg ?_
   conv=>whnf
   refine cB h (fun hb14 h => ?_) (fun hb14 h => ?_)
   ·conv=>whnf
    refine Tr.cond ?_
    conv=>whnf
    refine sg ?_
    conv=>whnf
    refine Tr.ret ?_
    conv=>whnf
    cases h
    rfl
   conv=>whnf
   refine lnS_map ?_
   conv=>whnf
   refine Tr.cond ?_
   conv=>whnf
   refine cB h (fun hb15 h => ?_) (fun hb15 h => ?_)
   ·refine sg ?_
    conv=>whnf
    refine Tr.ret ?_
    conv=>whnf
    cases h
    rfl
   refine Tr.skip ?_
   conv=>whnf
   refine rg ?_
   conv=>whnf
   refine arS_raw ?_
   conv=>whnf
   refine ⟨((w64 (v_8 + 1))), h, ?_⟩
   exact Wk.mk2 [0] 1 rfl rfl (by decide) rfl ⟨rr, trivial⟩ ⟨rr, rr, rr, rr, rr, trivial⟩
  refine Tr.exit ?_
  conv=>whnf
  refine ⟨(), h, ?_⟩
  exact Wk.mk2 [] 1 rfl rfl (by decide) rfl trivial ⟨rr, trivial⟩
 clear h
 rintro _ h T1 H1 hw
 replace h : M64 () = some r_3 := h
 conv=>whnf
 refine Tr.weak hw ?_
 unfold M64 at h
 refine sg ?_
 conv=>whnf
 refine Tr.ret ?_
 conv=>whnf
 cases h
 rfl
theorem P66 (f_1 : TField) (c_2 : List TSegment) (c_3 : List (List Int)) (c_4 : List TPair) (c_5 : List TRunner) (h : M66 f_1 = some (c_2, c_3, c_4, c_5)) :
    PC prog 67 [(eTField f_1)] (fun rs => rs = [(.fn 85 [(.ro [(.ls (List.map eTSegment c_2)), (.ls (List.map (eL eI) c_3)), (.ls (List.map eTPair c_4)), (.ls (List.map eTRunner c_5))])])]) := by
 refine PC.of_tr (cx := ⟨4, none, lay, 0⟩) layOK func67 rfl rfl rfl rfl rfl (by simp [f67]) ?_
 unfold M66 at h
 refine sg ?_
 conv=>whnf
 refine sg ?_
 conv=>whnf
 refine Tr.ret ?_
 conv=>whnf
 cases h
 rfl
theorem P67 (r_1 : TRunner) (c_2 : Int) (r_3 : Bool) (h : M67 r_1 c_2 = some r_3) :
    PC prog 86 [(eTRunner r_1), (.ro [(.i .i64 c_2)])] (fun rs => rs = [(.b r_3)]) := by
 refine PC.of_tr (cx := ⟨11, none, lay, 0⟩) layOK func86 rfl rfl rfl rfl rfl (by simp [f86]) ?_
 unfold M67 at h
 refine sg ?_
 conv=>whnf
 refine sg ?_
 conv=>whnf
 obtain ⟨x_4, hx_4, h⟩ := bS h
 refine ixP_of hx_4 ?_
 conv=>whnf
 refine lnS_map ?_
 conv=>whnf
 refine Tr.ret ?_
 conv=>whnf
 cases h
 rfl
theorem P70 (s_1 : List TRunner) (c_2 : Int) (r_3 : Int) (h : M70 s_1 c_2 = some r_3) :
    PC prog 95 [(.ls (List.map eTRunner s_1)), (.fn 86 [(.ro [(.i .i64 c_2)])])] (fun rs => rs = [(.i .i64 r_3)]) := by
 refine PC.of_tr (cx := ⟨19, none, lay, 0⟩) layOK func95 rfl rfl rfl rfl rfl (by simp [f95]) ?_
 unfold M70 at h
 refine sg ?_
 conv=>whnf
 refine Tr.seq ?_
 refine sg ?_
 conv=>whnf
 refine lnS_map ?_
 conv=>whnf
 refine Tr.cutQ (α := Unit) (fun s => ([(4, (dI 0))], [])) (fun s => M69 s = some r_3) ?_ ?_
 ·refine Tr.block ?_
  refine Tr.loopM (σ := Int) (fun n s => M68 s_1 c_2 M69 n s) r_3 (fun s => ([(0, .d (.ls (List.map eTRunner s_1))), (1, .d (.fn 86 [(.ro [(.i .i64 c_2)])])), (4, (dI 0)), (7, (dI (((s_1).length : Int)))), (8, (dI s))], [])) (((((s_1).length : Int)) - 0 : Int).toNat + 1) (0) h (fun s => rfl) (Wk.mk2 [] 0 rfl rfl (by decide) rfl trivial ⟨rr, rr, rr, rr, rr, trivial⟩) ?_
  clear h
  rintro n_6 v_5 h
  replace h : M68 s_1 c_2 M69 (n_6 + 1) v_5 = some r_3 := h
  rw [M68] at h
  refine sg ?_
  conv=>whnf
  refine Tr.seq ?_
  refine Tr.cond ?_
  conv=>whnf
  refine cB h (fun hb9 h => ?_) (fun hb9 h => ?_)
  ·refine Tr.skip ?_
   conv=>whnf
   refine Tr.seq ?_
   refine Tr.block ?_
   refine sg ?_
   conv=>whnf
   refine sg ?_
   conv=>whnf
   obtain ⟨x_10, hx_10, h⟩ := bS h
   refine ixP_of hx_10 ?_
   conv=>whnf
   obtain ⟨r_11, hc12, h⟩ := bS h
   refine PC.ecall (P67 x_10 c_2 r_11 hc12) (fun rs hrs => ?_)
   subst hrs
   conv=>whnf
   refine Tr.cond ?_
   conv=>whnf
   refine cB h (fun hb13 h => ?_) (fun hb13 h => ?_)
   ·refine sg ?_
    conv=>whnf
    refine Tr.ret ?_
    conv=>whnf
    cases h
    rfl
   refine Tr.skip ?_
   conv=>whnf
   refine rg ?_
   conv=>whnf
   refine arS_raw ?_
   conv=>whnf
   refine ⟨((w64 (v_5 + 1))), h, ?_⟩
   exact Wk.mk2 [] 0 rfl rfl (by decide) rfl trivial ⟨rr, rr, rr, rr, rr, trivial⟩
  refine Tr.exit ?_
  conv=>whnf
  refine ⟨(), h, ?_⟩
  exact Wk.mk2 [] 0 rfl rfl (by decide) rfl trivial ⟨rr, trivial⟩
 clear h
 rintro _ h T1 H1 hw
 replace h : M69 () = some r_3 := h
 conv=>whnf
 refine Tr.weak hw ?_
 unfold M69 at h
 refine sg ?_
 conv=>whnf
 refine Tr.ret ?_
 conv=>whnf
 cases h
 rfl
theorem P71 (s_1 : List TRunner) (c_2 : Int) (r_3 : Bool) (h : M71 s_1 c_2 = some r_3) :
    PC prog 73 [(.ls (List.map eTRunner s_1)), (.fn 86 [(.ro [(.i .i64 c_2)])])] (fun rs => rs = [(.b r_3)]) := by
 refine PC.of_tr (cx := ⟨9, none, lay, 0⟩) layOK func73 rfl rfl rfl rfl rfl (by simp [f73]) ?_
 unfold M71 at h
 refine sg ?_
 conv=>whnf
 refine sg ?_
 conv=>whnf
 obtain ⟨r_4, hc5, h⟩ := bS h
 refine PC.ecall (P70 s_1 c_2 r_4 hc5) (fun rs hrs => ?_)
 subst hrs
 conv=>whnf
 refine Tr.ret ?_
 conv=>whnf
 cases h
 rfl
theorem P74 (c_1 : List TSegment) (c_2 : List (List Int)) (c_3 : List TPair) (c_4 : List TRunner) (ys : List Int) (h : M74 c_1 c_2 c_3 c_4 = some ys) (xs : YL) (hx : Rem xs (fun a => [(.i .i64 a)]) 0 ys) :
    ItC prog 85 [(.ro [(.ls (List.map eTSegment c_1)), (.ls (List.map (eL eI) c_2)), (.ls (List.map eTPair c_3)), (.ls (List.map eTRunner c_4))])] xs := by
 refine ItC.of_tr (cx := ⟨25, none, lay, 0⟩) (hx := hx) func85 rfl rfl rfl (by simp [f85]) rfl (fun l hx => ?_)
 unfold M74 at h
 refine TrY.seq ?_
 refine TrY.region layOK ?_
 conv=>whnf
 refine lnS_map ?_
 conv=>whnf
 refine arS_raw ?_
 conv=>whnf
 refine TrY.block ?_
 refine TrY.loopM (σ := Int) (fun n s => M72 c_3 c_4 M73 n s) _ (fun s => ([(0, .yl l), (1, .d (.ro [(.ls (List.map eTSegment c_1)), (.ls (List.map (eL eI) c_2)), (.ls (List.map eTPair c_3)), (.ls (List.map eTRunner c_4))])), (8, (dI (w64 ((((c_3).length : Int)) + 1)))), (9, (dI s))], [])) (((w64 ((((c_3).length : Int)) + 1)) - 0 : Int).toNat + 1) (0) h (fun s => rfl) hx (Wk.mk2 [] 0 rfl rfl (by decide) rfl trivial ⟨rr, rr, rr, rr, trivial⟩) ?_
 clear h hx
 rintro n_7 v_6 i_15 ys_16 h hx
 replace h : M72 c_3 c_4 M73 (n_7 + 1) v_6 = some ys_16 := h
 rw [M72] at h
 refine TrY.seq ?_
 refine TrY.region layOK ?_
 conv=>whnf
 refine TrY.seq ?_
 refine TrY.cond ?_
 conv=>whnf
 refine cB h (fun hb10 h => ?_) (fun hb10 h => ?_)
 ·refine TrY.skip ?_
  conv=>whnf
  refine TrY.seq ?_
  refine TrY.block ?_
  refine TrY.seq ?_
  refine TrY.region layOK ?_
  conv=>whnf
  refine TrY.seq ?_
  refine TrY.region layOK ?_
  conv=>whnf
  refine TrY.seq ?_
  refine TrY.region layOK ?_
  conv=>whnf
  obtain ⟨r_11, hc12, h⟩ := bS h
  refine PC.ecall_lend ?_ ⟨_, _, func73, rfl, rfl⟩
  conv=>whnf
  refine ⟨_, P71 c_4 v_6 r_11 hc12, fun rs hrs => ?_⟩
  subst hrs
  refine ⟨rfl, ?_⟩
  conv=>whnf
  refine cB h (fun hb13 h => ?_) (fun hb13 h => ?_)
  ·conv=>whnf
   obtain ⟨l_14, h_14, e_14⟩ := bS h
   clear h
   cases e_14
   have h := h_14
   clear h_14
   refine ylS_of hx rfl (fun gb_14 h1_14 h2_14 => ?_)
   cases gb_14
   ·have hend_14 := h2_14 rfl
    clear h1_14 h2_14 h hx
    conv=>whnf
    refine ⟨rfl, ?_⟩
    conv=>whnf
    refine TrY.cond ?_
    conv=>whnf
    refine TrY.ret ?_
    conv=>whnf
    exact hend_14
   replace hx := h1_14 rfl
   clear h1_14 h2_14
   conv=>whnf
   refine ⟨rfl, ?_⟩
   conv=>whnf
   refine TrY.cond ?_
   conv=>whnf
   refine TrY.skip ?_
   conv=>whnf
   refine TrY.region layOK ?_
   conv=>whnf
   refine arS_raw ?_
   conv=>whnf
   refine ⟨((w64 (v_6 + 1))), _, h, hx, ?_⟩
   exact Wk.mk2 [] 0 rfl rfl (by decide) rfl trivial ⟨rr, rr, rr, rr, trivial⟩
  conv=>whnf
  refine TrY.cond ?_
  conv=>whnf
  refine TrY.skip ?_
  conv=>whnf
  refine TrY.region layOK ?_
  conv=>whnf
  refine arS_raw ?_
  conv=>whnf
  refine ⟨((w64 (v_6 + 1))), _, h, hx, ?_⟩
  exact Wk.mk2 [] 1 rfl rfl (by decide) rfl trivial ⟨rr, rr, rr, rr, trivial⟩
 refine TrY.exit ?_
 conv=>whnf
 unfold M73 at h
 cases h
 exact Rem.done hx
theorem P75 (x_1 : TOutcome) (r_2 : Bool) (h : M75 x_1 = some r_2) :
    PC prog 69 [(eTOutcome x_1)] (fun rs => rs = [(.b r_2)]) := by
 refine PC.of_tr (cx := ⟨5, none, lay, 0⟩) layOK func69 rfl rfl rfl rfl rfl (by simp [f69]) ?_
 unfold M75 at h
 refine sg ?_
 conv=>whnf
 refine sg ?_
 conv=>whnf
 refine Tr.ret ?_
 conv=>whnf
 cases h
 rfl
theorem P78 (s_1 : List TOutcome) (r_2 : Int) (h : M78 s_1 = some r_2) :
    PC prog 87 [(.ls (List.map eTOutcome s_1)), (.fn 69 [])] (fun rs => rs = [(.i .i64 r_2)]) := by
 refine PC.of_tr (cx := ⟨19, none, lay, 0⟩) layOK func87 rfl rfl rfl rfl rfl (by simp [f87]) ?_
 unfold M78 at h
 refine sg ?_
 conv=>whnf
 refine Tr.seq ?_
 refine sg ?_
 conv=>whnf
 refine lnS_map ?_
 conv=>whnf
 refine Tr.cutQ (α := Unit) (fun s => ([(4, (dI 0))], [])) (fun s => M77 s = some r_2) ?_ ?_
 ·refine Tr.block ?_
  refine Tr.loopM (σ := Int) (fun n s => M76 s_1 M77 n s) r_2 (fun s => ([(0, .d (.ls (List.map eTOutcome s_1))), (1, .d (.fn 69 [])), (4, (dI 0)), (7, (dI (((s_1).length : Int)))), (8, (dI s))], [])) (((((s_1).length : Int)) - 0 : Int).toNat + 1) (0) h (fun s => rfl) (Wk.mk2 [] 0 rfl rfl (by decide) rfl trivial ⟨rr, rr, rr, rr, rr, trivial⟩) ?_
  clear h
  rintro n_5 v_4 h
  replace h : M76 s_1 M77 (n_5 + 1) v_4 = some r_2 := h
  rw [M76] at h
  refine sg ?_
  conv=>whnf
  refine Tr.seq ?_
  refine Tr.cond ?_
  conv=>whnf
  refine cB h (fun hb8 h => ?_) (fun hb8 h => ?_)
  ·refine Tr.skip ?_
   conv=>whnf
   refine Tr.seq ?_
   refine Tr.block ?_
   refine sg ?_
   conv=>whnf
   refine sg ?_
   conv=>whnf
   obtain ⟨x_9, hx_9, h⟩ := bS h
   refine ixP_of hx_9 ?_
   conv=>whnf
   obtain ⟨r_10, hc11, h⟩ := bS h
   refine PC.ecall (P75 x_9 r_10 hc11) (fun rs hrs => ?_)
   subst hrs
   conv=>whnf
   refine Tr.cond ?_
   conv=>whnf
   refine cB h (fun hb12 h => ?_) (fun hb12 h => ?_)
   ·refine sg ?_
    conv=>whnf
    refine Tr.ret ?_
    conv=>whnf
    cases h
    rfl
   refine Tr.skip ?_
   conv=>whnf
   refine rg ?_
   conv=>whnf
   refine arS_raw ?_
   conv=>whnf
   refine ⟨((w64 (v_4 + 1))), h, ?_⟩
   exact Wk.mk2 [] 0 rfl rfl (by decide) rfl trivial ⟨rr, rr, rr, rr, rr, trivial⟩
  refine Tr.exit ?_
  conv=>whnf
  refine ⟨(), h, ?_⟩
  exact Wk.mk2 [] 0 rfl rfl (by decide) rfl trivial ⟨rr, trivial⟩
 clear h
 rintro _ h T1 H1 hw
 replace h : M77 () = some r_2 := h
 conv=>whnf
 refine Tr.weak hw ?_
 unfold M77 at h
 refine sg ?_
 conv=>whnf
 refine Tr.ret ?_
 conv=>whnf
 cases h
 rfl
theorem P79 (s_1 : List TOutcome) (r_2 : Bool) (h : M79 s_1 = some r_2) :
    PC prog 68 [(.ls (List.map eTOutcome s_1)), (.fn 69 [])] (fun rs => rs = [(.b r_2)]) := by
 refine PC.of_tr (cx := ⟨9, none, lay, 0⟩) layOK func68 rfl rfl rfl rfl rfl (by simp [f68]) ?_
 unfold M79 at h
 refine sg ?_
 conv=>whnf
 refine sg ?_
 conv=>whnf
 obtain ⟨r_3, hc4, h⟩ := bS h
 refine PC.ecall (P78 s_1 r_3 hc4) (fun rs hrs => ?_)
 subst hrs
 conv=>whnf
 refine Tr.ret ?_
 conv=>whnf
 cases h
 rfl
theorem P80 (h : M80 = some ()) :
    PC prog 70 [] (fun rs => rs = [(.ag [(.fn 88 []), (.fn 89 []), (.fn 90 []), (.fn 91 [])])]) := by
 refine PC.of_tr (cx := ⟨2, none, lay, 0⟩) layOK func70 rfl rfl rfl rfl rfl (by simp [f70]) ?_
 unfold M80 at h
 refine sg ?_
 conv=>whnf
 refine sg ?_
 conv=>whnf
 refine Tr.ret ?_
 conv=>whnf
theorem P81 (n_1 : Int) (m_2 : Int) (r_3 : Bool) (h : M81 n_1 m_2 = some r_3) :
    PC prog 91 [(.i .i64 n_1), (.i .i64 m_2)] (fun rs => rs = [(.b r_3)]) := by
 refine PC.of_tr (cx := ⟨8, none, lay, 0⟩) layOK func91 rfl rfl rfl rfl rfl (by simp [f91]) ?_
 unfold M81 at h
 refine sg ?_
 conv=>whnf
 refine sg ?_
 conv=>whnf
 refine Tr.ret ?_
 conv=>whnf
 cases h
 rfl
theorem P82 (x_1 : TOutcome) (r_2 : Int) (h : M82 x_1 = some r_2) :
    PC prog 89 [(eTOutcome x_1)] (fun rs => rs = [(.i .i64 r_2)]) := by
 refine PC.of_tr (cx := ⟨5, none, lay, 0⟩) layOK func89 rfl rfl rfl rfl rfl (by simp [f89]) ?_
 unfold M82 at h
 refine sg ?_
 conv=>whnf
 refine sg ?_
 conv=>whnf
 refine Tr.ret ?_
 conv=>whnf
 cases h
 rfl
end Go.Proofs.Try
