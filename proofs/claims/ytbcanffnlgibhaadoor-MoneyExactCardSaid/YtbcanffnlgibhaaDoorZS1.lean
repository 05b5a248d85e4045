/- Contracts of functions, by program (gen.py). No condition. -/
import Derived.Test.YtbcanffnlgibhaaDoorZL
import Derived.Test.YtbcanffnlgibhaaDoorZM
import Derived.Test.YtbcanffnlgibhaaDoorZCB
namespace Go.Proofs.Tryd
open Go Go.Abs Go.Stop
set_option maxRecDepth 8000
set_option linter.unusedVariables false
set_option linter.unusedSimpArgs false
theorem P0 (n_1 : Int) (r_2 : Int) (h : M0 n_1 = some r_2) :
    PC prog 16 [(.i .i64 n_1)] (fun rs => rs = [(.i .i64 r_2)]) := by
 refine PC.of_tr (cx := ⟨9, none, lay, 0⟩) layOK func16 rfl rfl rfl rfl rfl (by simp [f16]) ?_
 unfold M0 at h
 refine sg ?_
 conv=>whnf
 refine Tr.seq ?_
 refine sg ?_
 conv=>whnf
 refine cB h (fun hb3 h => ?_) (fun hb3 h => ?_)
 ·conv=>whnf
  refine Tr.cond ?_
  conv=>whnf
  refine sg ?_
  conv=>whnf
  refine Tr.ret ?_
  conv=>whnf
  cases h
  rfl
 conv=>whnf
 refine Tr.cond ?_
 conv=>whnf
 refine cB h (fun hb4 h => ?_) (fun hb4 h => ?_)
 ·refine sg ?_
  conv=>whnf
  refine Tr.ret ?_
  conv=>whnf
  cases h
  rfl
 refine Tr.skip ?_
 conv=>whnf
 refine sg ?_
 conv=>whnf
 refine Tr.ret ?_
 conv=>whnf
 cases h
 rfl
theorem P1 (a_1 : Int) (weights_2 : List Int) (sum_3 : Int) (c_4 : List Int) (c_5 : Int) (c_6 : Int) (h : M1 a_1 weights_2 sum_3 = some (c_4, c_5, c_6)) :
    PC prog 20 [(.i .i64 a_1), (.ls (List.map eI weights_2)), (.i .i64 sum_3)] (fun rs => rs = [(.fn 27 [(.ro [(.ls (List.map eI c_4))]), (.ro [(.i .i64 c_5)]), (.ro [(.i .i64 c_6)])])]) := by
 refine PC.of_tr (cx := ⟨8, none, lay, 0⟩) layOK func20 rfl rfl rfl rfl rfl (by simp [f20]) ?_
 unfold M1 at h
 refine sg ?_
 conv=>whnf
 refine sg ?_
 conv=>whnf
 refine Tr.ret ?_
 conv=>whnf
 cases h
 rfl
theorem P4 (c_1 : List Int) (c_2 : Int) (c_3 : Int) (ys : List Tmoney_part) (h : M4 c_1 c_2 c_3 = some ys) (xs : YL) (hx : Rem xs (fun a => [(eTmoney_part a)]) 0 ys) :
    ItC prog 27 [(.ro [(.ls (List.map eI c_1))]), (.ro [(.i .i64 c_2)]), (.ro [(.i .i64 c_3)])] xs := by
 refine ItC.of_tr (cx := ⟨30, none, lay, 0⟩) (hx := hx) func27 rfl rfl rfl (by simp [f27]) rfl (fun l hx => ?_)
 unfold M4 at h
 refine TrY.seq ?_
 refine TrY.region layOK ?_
 conv=>whnf
 refine lnS_map ?_
 conv=>whnf
 refine TrY.block ?_
 refine TrY.loopM (σ := Int) (fun n s => M2 c_1 c_2 c_3 M3 n s) _ (fun s => ([(0, .yl l), (2, .d (.ro [(.i .i64 c_2)])), (3, .d (.ro [(.i .i64 c_3)])), (7, .d (.ls (List.map eI c_1))), (8, (dI (((c_1).length : Int)))), (9, (dI s))], [])) (((((c_1).length : Int)) - 0 : Int).toNat + 1) (0) h (fun s => rfl) hx (Wk.mk2 [] 0 rfl rfl (by decide) rfl trivial ⟨rr, rr, rr, rr, rr, rr, trivial⟩) ?_
 clear h hx
 rintro n_6 v_5 i_14 ys_15 h hx
 replace h : M2 c_1 c_2 c_3 M3 (n_6 + 1) v_5 = some ys_15 := h
 rw [M2] at h
 refine TrY.seq ?_
 refine TrY.region layOK ?_
 conv=>whnf
 refine TrY.seq ?_
 refine TrY.cond ?_
 conv=>whnf
 refine cB h (fun hb9 h => ?_) (fun hb9 h => ?_)
 ·refine TrY.skip ?_
  conv=>whnf
  refine TrY.seq ?_
  refine TrY.block ?_
  refine TrY.seq ?_
  refine TrY.region layOK ?_
  conv=>whnf
  obtain ⟨x_10, hx_10, h⟩ := bS h
  refine ixP_of hx_10 ?_
  conv=>whnf
  refine TrY.seq ?_
  refine TrY.draw layOK mixed [] [(0, 1), (1, 1), (2, 2), (3, 1), (4, 1), (5, 2), (6, 1), (7, 2), (8, 1), (9, 1), (10, 2), (11, 1), (12, 1)] 13 [(14, 1)] #[true, true, true, true, true, true, true, true, true, true, true, true, true, false, false] (by kernel_rfl) ?_
  conv=>whnf
  refine q1 ?_
  conv=>whnf
  refine q1 ?_
  conv=>whnf
  refine q2 ?_
  conv=>whnf
  refine q1 ?_
  conv=>whnf
  refine q4 ?_
  conv=>whnf
  refine q2 ?_
  conv=>whnf
  obtain ⟨u_11, hu_11, h⟩ := bS h
  refine q1 ?_ (fun _ => neS_mk (nz_ne hu_11) (arS_raw rr))
  conv=>whnf
  refine q2 ?_
  conv=>whnf
  refine q1 ?_
  conv=>whnf
  refine q4 ?_
  conv=>whnf
  refine q2 ?_
  conv=>whnf
  obtain ⟨u_12, hu_12, h⟩ := bS h
  refine q1 ?_ (fun _ => neS_mk (nz_ne hu_12) rr)
  conv=>whnf
  refine q1 ?_
  conv=>whnf
  obtain ⟨l_13, h_13, e_13⟩ := bS h
  clear h
  cases e_13
  have h := h_13
  clear h_13
  refine ylS_of hx rfl (fun gb_13 h1_13 h2_13 => ?_)
  cases gb_13
  ·have hend_13 := h2_13 rfl
   clear h1_13 h2_13 h hx
   conv=>whnf
   refine ⟨rfl, ?_⟩
   conv=>whnf
   refine q1 ?_
   conv=>whnf
   refine TrY.cond ?_
   conv=>whnf
   refine TrY.ret ?_
   conv=>whnf
   exact hend_13
  replace hx := h1_13 rfl
  clear h1_13 h2_13
  conv=>whnf
  refine ⟨rfl, ?_⟩
  conv=>whnf
  refine q1 ?_
  conv=>whnf
  refine TrY.cond ?_
  conv=>whnf
  refine TrY.skip ?_
  conv=>whnf
  refine TrY.region layOK ?_
  conv=>whnf
  refine arS_raw ?_
  conv=>whnf
  refine ⟨((w64 (v_5 + 1))), _, h, hx, ?_⟩
  exact Wk.mk2 [] 0 rfl rfl (by decide) rfl trivial ⟨rr, rr, rr, rr, rr, rr, trivial⟩
 refine TrY.exit ?_
 conv=>whnf
 unfold M3 at h
 cases h
 exact Rem.done hx
theorem P5 (x_1 : Int) (r_2 : Int) (h : M5 x_1 = some r_2) :
    PC prog 29 [(.i .u64 x_1)] (fun rs => rs = [(.i .i64 r_2)]) := by
  unfold M5 at h
  split at h
  · rename_i hx
    cases h
    exact PC.of_calls func29 rfl rfl (fun w => Go.Proofs.Tryd.bits_Len x_1 w hx.1 hx.2)
  · cases h
theorem P6 (x_1 : Int) (r_2 : Bool) (h : M6 x_1 = some r_2) :
    PC prog 49 [(.i .i64 x_1)] (fun rs => rs = [(.b r_2)]) := by
 refine PC.of_tr (cx := ⟨6, none, lay, 0⟩) layOK func49 rfl rfl rfl rfl rfl (by simp [f49]) ?_
 unfold M6 at h
 refine sg ?_
 conv=>whnf
 refine sg ?_
 conv=>whnf
 refine Tr.ret ?_
 conv=>whnf
 cases h
 rfl
theorem P7 (x_1 : Int) (y_2 : Int) (r_3 : Int) (h : M7 x_1 y_2 = some r_3) :
    PC prog 31 [(.i .i64 x_1), (.i .i64 y_2)] (fun rs => rs = [(.i .i64 r_3)]) := by
 refine PC.of_tr (cx := ⟨20, none, lay, 0⟩) layOK func31 rfl rfl rfl rfl rfl (by simp [f31]) ?_
 unfold M7 at h
 refine sg ?_
 conv=>whnf
 refine sg ?_
 conv=>whnf
 obtain ⟨r_4, hc5, h⟩ := bS h
 refine PC.ecall (P6 x_1 r_4 hc5) (fun rs hrs => ?_)
 subst hrs
 conv=>whnf
 refine sg ?_
 conv=>whnf
 obtain ⟨r_6, hc7, h⟩ := bS h
 refine PC.ecall (P6 y_2 r_6 hc7) (fun rs hrs => ?_)
 subst hrs
 conv=>whnf
 refine Tr.seq ?_
 refine sg ?_
 conv=>whnf
 refine Tr.cond ?_
 conv=>whnf
 refine cB h (fun hb8 h => ?_) (fun hb8 h => ?_)
 ·refine Tr.seq ?_
  refine sg ?_
  conv=>whnf
  refine Tr.cond ?_
  conv=>whnf
  refine cB h (fun hb9 h => ?_) (fun hb9 h => ?_)
  ·refine sg ?_
   conv=>whnf
   refine Tr.ret ?_
   conv=>whnf
   cases h
   rfl
  refine Tr.skip ?_
  conv=>whnf
  refine sg ?_
  conv=>whnf
  refine Tr.ret ?_
  conv=>whnf
  cases h
  rfl
 refine Tr.skip ?_
 conv=>whnf
 refine Tr.seq ?_
 refine sg ?_
 conv=>whnf
 refine Tr.cond ?_
 conv=>whnf
 refine cB h (fun hb10 h => ?_) (fun hb10 h => ?_)
 ·refine sg ?_
  conv=>whnf
  refine Tr.ret ?_
  conv=>whnf
  cases h
  rfl
 refine Tr.skip ?_
 conv=>whnf
 refine Tr.seq ?_
 refine sg ?_
 conv=>whnf
 refine Tr.cond ?_
 conv=>whnf
 refine cB h (fun hb11 h => ?_) (fun hb11 h => ?_)
 ·refine sg ?_
  conv=>whnf
  refine Tr.ret ?_
  conv=>whnf
  cases h
  rfl
 refine Tr.skip ?_
 conv=>whnf
 refine Tr.seq ?_
 refine sg ?_
 conv=>whnf
 refine Tr.cond ?_
 conv=>whnf
 refine cB h (fun hb12 h => ?_) (fun hb12 h => ?_)
 ·refine sg ?_
  conv=>whnf
  refine Tr.ret ?_
  conv=>whnf
  cases h
  rfl
 refine Tr.skip ?_
 conv=>whnf
 refine sg ?_
 conv=>whnf
 refine Tr.ret ?_
 conv=>whnf
 cases h
 rfl
theorem P10 (vals_1 : List Int) (r_2 : Int) (h : M10 vals_1 = some r_2) :
    PC prog 30 [(.ls (List.map eI vals_1))] (fun rs => rs = [(.i .i64 r_2)]) := by
 refine PC.of_tr (cx := ⟨18, none, lay, 0⟩) layOK func30 rfl rfl rfl rfl rfl (by simp [f30]) ?_
 unfold M10 at h
 refine sg ?_
 conv=>whnf
 refine sg ?_
 conv=>whnf
 refine Tr.seq ?_
 refine sg ?_
 conv=>whnf
 refine lnS_map ?_
 conv=>whnf
 refine Tr.cutQ (α := Unit) (fun s => ([(2, (dI 0)), (3, (dI 0))], [])) (fun s => M9 s = some r_2) ?_ ?_
 ·refine Tr.block ?_
  refine Tr.loopM (σ := Int) (fun n s => M8 vals_1 M9 n s) r_2 (fun s => ([(2, (dI 0)), (3, (dI 0)), (6, .d (.ls (List.map eI vals_1))), (7, (dI (((vals_1).length : Int)))), (8, (dI s))], [])) (((((vals_1).length : Int)) - 0 : Int).toNat + 1) (0) h (fun s => rfl) (Wk.mk2 [] 0 rfl rfl (by decide) rfl trivial ⟨rr, rr, rr, rr, rr, trivial⟩) ?_
  clear h
  rintro n_5 v_4 h
  replace h : M8 vals_1 M9 (n_5 + 1) v_4 = some r_2 := h
  rw [M8] at h
  refine sg ?_
  conv=>whnf
  refine Tr.seq ?_
  refine Tr.cond ?_
  conv=>whnf
  refine cB h (fun hb8 h => ?_) (fun hb8 h => ?_)
  ·refine Tr.skip ?_
   conv=>whnf
   refine Tr.seq ?_
   refine Tr.block ?_
   refine sg ?_
   conv=>whnf
   obtain ⟨x_9, hx_9, h⟩ := bS h
   refine ixP_of hx_9 ?_
   conv=>whnf
   refine sg ?_
   conv=>whnf
   refine Tr.cond ?_
   conv=>whnf
   refine cB h (fun hb10 h => ?_) (fun hb10 h => ?_)
   ·refine sg ?_
    conv=>whnf
    refine Tr.ret ?_
    conv=>whnf
    cases h
    rfl
   refine Tr.skip ?_
   conv=>whnf
   refine rg ?_
   conv=>whnf
   refine arS_raw ?_
   conv=>whnf
   refine ⟨((w64 (v_4 + 1))), h, ?_⟩
   exact Wk.mk2 [] 0 rfl rfl (by decide) rfl trivial ⟨rr, rr, rr, rr, rr, trivial⟩
  refine Tr.exit ?_
  conv=>whnf
  refine ⟨(), h, ?_⟩
  exact Wk.mk2 [] 0 rfl rfl (by decide) rfl trivial ⟨rr, rr, trivial⟩
 clear h
 rintro _ h T1 H1 hw
 replace h : M9 () = some r_2 := h
 conv=>whnf
 refine Tr.weak hw ?_
 unfold M9 at h
 refine sg ?_
 conv=>whnf
 refine Tr.ret ?_
 conv=>whnf
 cases h
 rfl
theorem P11 (p_1 : Tmoney_part) (q_2 : Tmoney_part) (r_3 : Int) (h : M11 p_1 q_2 = some r_3) :
    PC prog 22 [(eTmoney_part p_1), (eTmoney_part q_2)] (fun rs => rs = [(.i .i64 r_3)]) := by
 refine PC.of_tr (cx := ⟨17, none, lay, 0⟩) layOK func22 rfl rfl rfl rfl rfl (by simp [f22]) ?_
 unfold M11 at h
 refine sg ?_
 conv=>whnf
 refine sd [] [(0,4),(1,4),(2,3),(3,3),(4,1),(5,3),(6,3),(7,4),(8,4),(9,1),(10,1),(11,0),(12,1)] ?_
 conv=>whnf
 refine q2 ?_
 conv=>whnf
 refine q2 ?_
 conv=>whnf
 refine q2 ?_
 conv=>whnf
 refine q2 ?_
 conv=>whnf
 obtain ⟨r_4, hc5, h⟩ := bS h
 refine q1 ?_ (fun _ => pe (P7 q_2.rest p_1.rest r_4 hc5) rr)
 conv=>whnf
 refine q2 ?_
 conv=>whnf
 refine q2 ?_
 conv=>whnf
 refine q2 ?_
 conv=>whnf
 refine q2 ?_
 conv=>whnf
 obtain ⟨r_6, hc7, h⟩ := bS h
 refine q1 ?_ (fun _ => pe (P7 p_1.index q_2.index r_6 hc7) rr)
 conv=>whnf
 refine q1 ?_ (fun _ => orB_r rr)
 conv=>whnf
 obtain ⟨r_8, hc9, h⟩ := bS h
 refine ⟨_, _, (by (conv=>whnf); (refine PC.ecall (P10 ((([r_4, r_6] : List Int))) r_8 hc9) (fun rs hrs => ?_)); (subst hrs); (conv=>whnf); (exact rr)), kp_ok (by repeat (first | exact trivial | refine ⟨trivial, ?_⟩ | refine ⟨rfl, ?_⟩)), ?_⟩
 conv=>whnf
 refine q1 ?_
 conv=>whnf
 refine Tr.ret ?_
 conv=>whnf
 cases h
 rfl
theorem P14 (a_1 : Int) (b_2 : Int) (l_3 : List Tmoney_part) (l_4 : List Tmoney_part) (h : M14 a_1 b_2 l_3 = some l_4) :
    MC prog 39 [.sl 0 3 0 (List.length l_3), (dI a_1), (dI b_2), .d (.fn 22 [])] [.arr 3 (List.map .d (List.map eTmoney_part l_3))] (fun rs Bs => rs = [] ∧ Bs = [.arr 3 (List.map .d (List.map eTmoney_part l_4))]) := by
 refine MC.of_tr (cx := ⟨53, none, lay, 1⟩) layOK func39 rfl rfl rfl rfl rfl (by simp [f39]) ?_
 refine Tr.unW ?_
 unfold M14 at h
 refine sg ?_
 conv=>whnf
 refine arS_raw ?_
 conv=>whnf
 obtain ⟨l_10, hv33, h⟩ := bS h
 refine Tr.cutQ1 ([]) ([some (.arr 3 (List.map .d (List.map eTmoney_part l_10)))]) ?_ (fun T1 H1 hw => ?_)
 ·replace h := hv33; clear hv33
  refine Tr.block ?_
  refine Tr.loopM (σ := Int × List Tmoney_part) (fun n s => M13 a_1 b_2 n s.1 s.2) l_10 (fun s => ([(0, .sl 0 3 0 (List.length s.2)), (1, (dI a_1)), (2, (dI b_2)), (3, .d (.fn 22 [])), (8, (dI s.1))], [some (.arr 3 (List.map .d (List.map eTmoney_part s.2)))])) ((b_2 - (w64 (a_1 + 1)) : Int).toNat + 1) ((w64 (a_1 + 1)), l_3) h (fun s => rfl) (Wk.mk2 [0] 1 rfl rfl (by decide) rfl ⟨daS_d rfl, trivial⟩ ⟨rr, rr, rr, rr, rr, trivial⟩) ?_
  clear h
  rintro n_9 ⟨i_7, l_8⟩ h
  replace h : M13 a_1 b_2 (n_9 + 1) i_7 l_8 = some l_10 := h
  rw [M13] at h
  refine Tr.seq ?_
  refine sg ?_
  conv=>whnf
  refine Tr.cond ?_
  conv=>whnf
  refine cB h (fun hb13 h => ?_) (fun hb13 h => ?_)
  ·refine Tr.skip ?_
   conv=>whnf
   refine Tr.seq ?_
   refine Tr.block ?_
   refine sg ?_
   conv=>whnf
   obtain ⟨l_19, hv32, h⟩ := bS h
   refine Tr.cutQ1 ([(0, .sl 0 3 0 (List.length l_19)), (1, (dI a_1)), (2, (dI b_2)), (3, .d (.fn 22 [])), (8, (dI i_7))]) ([some (.arr 3 (List.map .d (List.map eTmoney_part l_19)))]) ?_ (fun T1 H1 hw => ?_)
   ·replace h := hv32; clear hv32
    refine Tr.block ?_
    refine Tr.loopM (σ := Int × List Tmoney_part) (fun n s => M12 a_1 n s.1 s.2) l_19 (fun s => ([(0, .sl 0 3 0 (List.length s.2)), (1, (dI a_1)), (2, (dI b_2)), (3, .d (.fn 22 [])), (8, (dI i_7)), (9, (dI s.1))], [some (.arr 3 (List.map .d (List.map eTmoney_part s.2)))])) ((i_7 - a_1 : Int).toNat + 1) (i_7, l_8) h (fun s => rfl) (Wk.mk2 [0] 1 rfl rfl (by decide) rfl ⟨daS_d rfl, trivial⟩ ⟨rr, rr, rr, rr, rr, rr, trivial⟩) ?_
    clear h
    rintro n_18 ⟨j_16, l_17⟩ h
    replace h : M12 a_1 (n_18 + 1) j_16 l_17 = some l_19 := h
    rw [M12] at h
    refine Tr.seq ?_
    refine sd [] [(0,1),(1,1),(2,1),(3,1),(4,1),(5,1),(6,1),(7,3),(8,3),(9,1),(10,1),(11,1),(12,3),(13,3),(14,1),(15,1),(16,1)] ?_
    conv=>whnf
    refine q1 ?_
    conv=>whnf
    refine q1 ?_
    conv=>whnf
    refine q1 ?_
    conv=>whnf
    refine q1 ?_
    conv=>whnf
    refine cB h (fun hb22 h => ?_) (fun hb22 h => ?_)
    ·conv=>whnf
     refine q1 ?_
     conv=>whnf
     refine q1 ?_
     conv=>whnf
     refine q1 ?_
     conv=>whnf
     obtain ⟨x_23, hx_23, h⟩ := bS h
     refine q3 (ixS_of hx_23 rfl rr) ?_
     conv=>whnf
     refine q3 (elP_of hx_23 rr) ?_
     conv=>whnf
     refine q1 ?_
     conv=>whnf
     refine q1 ?_
     conv=>whnf
     refine q4 ?_
     conv=>whnf
     obtain ⟨x_24, hx_24, h⟩ := bS h
     refine q3 (ixS_of hx_24 rfl rr) ?_
     conv=>whnf
     refine q3 (elP_of hx_24 rr) ?_
     conv=>whnf
     obtain ⟨r_25, hc26, h⟩ := bS h
     refine q1 ?_ (fun _ => pe (P11 x_23 x_24 r_25 hc26) rr)
     conv=>whnf
     refine q1 ?_
     conv=>whnf
     refine q1 ?_
     conv=>whnf
     refine Tr.cond ?_
     conv=>whnf
     refine cB h (fun hb27 h => ?_) (fun hb27 h => ?_)
     ·refine Tr.skip ?_
      conv=>whnf
      refine Tr.seq ?_
      refine Tr.block ?_
      refine dq [(15,0),(17,0)] [(0,1),(1,1),(2,1),(3,1),(4,1),(5,1),(6,1),(7,1),(8,3),(9,3),(10,1),(11,1),(12,3),(13,3),(14,3),(15,0),(16,3),(17,0)] ?_
      conv=>whnf
      refine q1 ?_
      conv=>whnf
      refine q1 ?_
      conv=>whnf
      refine q1 ?_
      conv=>whnf
      refine q1 ?_
      conv=>whnf
      refine q4 ?_
      conv=>whnf
      refine q1 ?_
      conv=>whnf
      refine q1 ?_
      conv=>whnf
      refine q4 ?_
      conv=>whnf
      obtain ⟨x_28, hx_28, h⟩ := bS h
      refine q3 (ixS_of hx_28 rfl rr) ?_
      conv=>whnf
      refine q3 (elP_of hx_28 rr) ?_
      conv=>whnf
      refine q1 ?_
      conv=>whnf
      refine q1 ?_
      conv=>whnf
      obtain ⟨x_29, hx_29, h⟩ := bS h
      refine q3 (ixS_of hx_29 rfl rr) ?_
      conv=>whnf
      refine q3 (elP_of hx_29 rr) ?_
      conv=>whnf
      obtain ⟨x_30, hx_30, h⟩ := bS h
      refine q3 (ixS_of hx_30 rfl rr) ?_
      conv=>whnf
      refine ⟨_, _, (by (conv=>whnf); (refine elP_of hx_30 ?_); (conv=>whnf); (refine lvS_mk (es' := List.map .d (List.map eTmoney_part (List.set l_17 (Int.toNat j_16) x_28))) (by simp only [Nat.zero_add, List.map_set]; first | done | rfl) ?_); (conv=>whnf); (exact rr)), kp_ok (by repeat (first | exact trivial | refine ⟨trivial, ?_⟩ | refine ⟨rfl, ?_⟩)), ?_⟩
      conv=>whnf
      obtain ⟨x_31, hx_31, h⟩ := bS h
      refine q3 (ixS_of hx_31 (by first | rfl | simp) rr) ?_
      conv=>whnf
      refine ⟨_, _, (by (conv=>whnf); (refine elP_of hx_31 ?_); (conv=>whnf); (refine lvS_mk (es' := List.map .d (List.map eTmoney_part (List.set (List.set l_17 (Int.toNat j_16) x_28) (Int.toNat (w64 (j_16 - 1))) x_29))) (by simp only [Nat.zero_add, List.map_set]; first | done | rfl) ?_); (conv=>whnf); (exact rr)), kp_ok (by repeat (first | exact trivial | refine ⟨trivial, ?_⟩ | refine ⟨rfl, ?_⟩)), ?_⟩
      conv=>whnf
      refine rg ?_
      conv=>whnf
      refine arS_raw ?_
      conv=>whnf
      refine ⟨((w64 (j_16 - 1)), (List.set (List.set l_17 (Int.toNat j_16) x_28) (Int.toNat (w64 (j_16 - 1))) x_29)), h, ?_⟩
      exact Wk.mk2 [0] 1 rfl rfl (by decide) rfl ⟨daS_d rfl, trivial⟩ ⟨⟨rfl, (slEq (by first | rfl | simp))⟩, rr, rr, rr, rr, rr, trivial⟩
     refine Tr.exit ?_
     conv=>whnf
     cases h
     exact Wk.mk2 [0] 1 rfl rfl (by decide) rfl ⟨daS_d rfl, trivial⟩ ⟨rr, rr, rr, rr, rr, trivial⟩
    conv=>whnf
    refine q1 ?_
    conv=>whnf
    refine Tr.cond ?_
    conv=>whnf
    refine Tr.exit ?_
    conv=>whnf
    cases h
    exact Wk.mk2 [0] 1 rfl rfl (by decide) rfl ⟨daS_d rfl, trivial⟩ ⟨rr, rr, rr, rr, rr, trivial⟩
   clear hv32
   conv=>whnf
   refine Tr.weak hw ?_
   refine rg ?_
   conv=>whnf
   refine arS_raw ?_
   conv=>whnf
   refine ⟨((w64 (i_7 + 1)), l_19), h, ?_⟩
   exact Wk.mk2 [0] 1 rfl rfl (by decide) rfl ⟨daS_d rfl, trivial⟩ ⟨rr, rr, rr, rr, rr, trivial⟩
  refine Tr.exit ?_
  conv=>whnf
  cases h
  exact Wk.mk2 [0] 1 rfl rfl (by decide) rfl ⟨daS_d rfl, trivial⟩ trivial
 clear hv33
 conv=>whnf
 refine endW hw ?_
 conv=>whnf
 cases h
 exact endB rfl rfl rfl ⟨⟨_, rfl⟩, trivial⟩
theorem P17 (lo_1 : Int) (hi_2 : Int) (first_3 : Int) (l_4 : List Tmoney_part) (l_5 : List Tmoney_part) (h : M17 lo_1 hi_2 first_3 l_4 = some l_5) :
    MC prog 56 [.sl 0 3 0 (List.length l_4), (dI lo_1), (dI hi_2), (dI first_3), .d (.fn 22 [])] [.arr 3 (List.map .d (List.map eTmoney_part l_4))] (fun rs Bs => rs = [] ∧ Bs = [.arr 3 (List.map .d (List.map eTmoney_part l_5))]) := by
 refine MC.of_tr (cx := ⟨82, none, lay, 1⟩) layOK func56 rfl rfl rfl rfl rfl (by simp [f56]) ?_
 refine Tr.unW ?_
 unfold M17 at h
 refine sg ?_
 conv=>whnf
 refine Tr.cutQ (α := List Tmoney_part) (fun s => ([], [some (.arr 3 (List.map .d (List.map eTmoney_part s)))])) (fun s => M16 s = some l_5) ?_ ?_
 ·refine Tr.block ?_
  refine Tr.loopM (σ := Int × List Tmoney_part) (fun n s => M15 hi_2 first_3 M16 n s.1 s.2) l_5 (fun s => ([(0, .sl 0 3 0 (List.length s.2)), (2, (dI hi_2)), (3, (dI first_3)), (4, .d (.fn 22 [])), (10, (dI s.1))], [some (.arr 3 (List.map .d (List.map eTmoney_part s.2)))])) (List.length l_4 + 1) (lo_1, l_4) h (fun s => rfl) (Wk.mk2 [0] 1 rfl rfl (by decide) rfl ⟨daS_d rfl, trivial⟩ ⟨rr, rr, rr, rr, rr, trivial⟩) ?_
  clear h
  rintro n_10 ⟨root_8, l_9⟩ h
  replace h : M15 hi_2 first_3 M16 (n_10 + 1) root_8 l_9 = some l_5 := h
  rw [M15] at h
  refine Tr.block ?_
  refine sg ?_
  conv=>whnf
  refine arS_raw ?_
  conv=>whnf
  refine arS_raw ?_
  conv=>whnf
  refine Tr.seq ?_
  refine sg ?_
  conv=>whnf
  refine Tr.cond ?_
  conv=>whnf
  refine cB h (fun hb14 h => ?_) (fun hb14 h => ?_)
  ·refine Tr.exit ?_
   conv=>whnf
   refine ⟨(l_9), h, ?_⟩
   exact Wk.mk2 [0] 1 rfl rfl (by decide) rfl ⟨daS_d rfl, trivial⟩ trivial
  refine Tr.skip ?_
  conv=>whnf
  refine Tr.seq ?_
  refine sd [] [(0,1),(1,1),(2,1),(3,1),(4,1),(5,1),(6,1),(7,1),(8,1),(9,1),(10,3),(11,3),(12,1),(13,1),(14,1),(15,1),(16,1),(17,3),(18,3),(19,1),(20,1),(21,1)] ?_
  conv=>whnf
  refine q1 ?_
  conv=>whnf
  refine q4 ?_
  conv=>whnf
  refine q1 ?_
  conv=>whnf
  refine q1 ?_
  conv=>whnf
  refine q1 ?_
  conv=>whnf
  refine cB h (fun hb15 h => ?_) (fun hb15 h => ?_)
  ·conv=>whnf
   refine q1 ?_
   conv=>whnf
   refine q1 ?_
   conv=>whnf
   refine q1 ?_
   conv=>whnf
   refine q1 ?_
   conv=>whnf
   refine q4 ?_
   conv=>whnf
   obtain ⟨x_16, hx_16, h⟩ := bS h
   refine q3 (ixS_of hx_16 rfl rr) ?_
   conv=>whnf
   refine q3 (elP_of hx_16 rr) ?_
   conv=>whnf
   refine q1 ?_
   conv=>whnf
   refine q1 ?_
   conv=>whnf
   refine q1 ?_
   conv=>whnf
   refine q4 ?_
   conv=>whnf
   refine q4 ?_
   conv=>whnf
   obtain ⟨x_17, hx_17, h⟩ := bS h
   refine q3 (ixS_of hx_17 rfl rr) ?_
   conv=>whnf
   refine q3 (elP_of hx_17 rr) ?_
   conv=>whnf
   obtain ⟨r_18, hc19, h⟩ := bS h
   refine q1 ?_ (fun _ => pe (P11 x_16 x_17 r_18 hc19) rr)
   conv=>whnf
   refine q1 ?_
   conv=>whnf
   refine q1 ?_
   conv=>whnf
   refine Tr.cond ?_
   conv=>whnf
   refine cB h (fun hb20 h => ?_) (fun hb20 h => ?_)
   ·refine rg ?_
    conv=>whnf
    refine arS_raw ?_
    conv=>whnf
    refine Tr.seq ?_
    refine sd [] [(0,1),(1,1),(2,1),(3,1),(4,1),(5,3),(6,3),(7,1),(8,1),(9,1),(10,1),(11,3),(12,3),(13,1),(14,1),(15,1)] ?_
    conv=>whnf
    refine q1 ?_
    conv=>whnf
    refine q1 ?_
    conv=>whnf
    refine q1 ?_
    conv=>whnf
    refine q1 ?_
    conv=>whnf
    refine q4 ?_
    conv=>whnf
    obtain ⟨x_21, hx_21, h⟩ := bS h
    refine q3 (ixS_of hx_21 rfl rr) ?_
    conv=>whnf
    refine q3 (elP_of hx_21 rr) ?_
    conv=>whnf
    refine q1 ?_
    conv=>whnf
    refine q1 ?_
    conv=>whnf
    refine q1 ?_
    conv=>whnf
    refine q4 ?_
    conv=>whnf
    obtain ⟨x_22, hx_22, h⟩ := bS h
    refine q3 (ixS_of hx_22 rfl rr) ?_
    conv=>whnf
    refine q3 (elP_of hx_22 rr) ?_
    conv=>whnf
    obtain ⟨r_23, hc24, h⟩ := bS h
    refine q1 ?_ (fun _ => pe (P11 x_21 x_22 r_23 hc24) rr)
    conv=>whnf
    refine q1 ?_
    conv=>whnf
    refine q1 ?_
    conv=>whnf
    refine Tr.cond ?_
    conv=>whnf
    refine cB h (fun hb25 h => ?_) (fun hb25 h => ?_)
    ·refine Tr.ret ?_
     conv=>whnf
     refine endH ?_
     conv=>whnf
     cases h
     exact endB rfl rfl rfl ⟨⟨_, rfl⟩, trivial⟩
    refine Tr.skip ?_
    conv=>whnf
    refine sd [(21,0),(23,0)] [(0,1),(1,1),(2,1),(3,1),(4,1),(5,1),(6,1),(7,1),(8,1),(9,1),(10,1),(11,1),(12,3),(13,3),(14,1),(15,1),(16,1),(17,1),(18,3),(19,3),(20,3),(21,0),(22,3),(23,0)] ?_
    conv=>whnf
    refine q1 ?_
    conv=>whnf
    refine q1 ?_
    conv=>whnf
    refine q1 ?_
    conv=>whnf
    refine q4 ?_
    conv=>whnf
    refine q1 ?_
    conv=>whnf
    refine q1 ?_
    conv=>whnf
    refine q1 ?_
    conv=>whnf
    refine q4 ?_
    conv=>whnf
    refine q1 ?_
    conv=>whnf
    refine q1 ?_
    conv=>whnf
    refine q1 ?_
    conv=>whnf
    refine q4 ?_
    conv=>whnf
    obtain ⟨x_26, hx_26, h⟩ := bS h
    refine q3 (ixS_of hx_26 rfl rr) ?_
    conv=>whnf
    refine q3 (elP_of hx_26 rr) ?_
    conv=>whnf
    refine q1 ?_
    conv=>whnf
    refine q1 ?_
    conv=>whnf
    refine q1 ?_
    conv=>whnf
    refine q4 ?_
    conv=>whnf
    obtain ⟨x_27, hx_27, h⟩ := bS h
    refine q3 (ixS_of hx_27 rfl rr) ?_
    conv=>whnf
    refine q3 (elP_of hx_27 rr) ?_
    conv=>whnf
    obtain ⟨x_28, hx_28, h⟩ := bS h
    refine q3 (ixS_of hx_28 rfl rr) ?_
    conv=>whnf
    refine ⟨_, _, (by (conv=>whnf); (refine elP_of hx_28 ?_); (conv=>whnf); (refine lvS_mk (es' := List.map .d (List.map eTmoney_part (List.set l_9 (Int.toNat (w64 (first_3 + root_8))) x_26))) (by simp only [Nat.zero_add, List.map_set]; first | done | rfl) ?_); (conv=>whnf); (exact rr)), kp_ok (by repeat (first | exact trivial | refine ⟨trivial, ?_⟩ | refine ⟨rfl, ?_⟩)), ?_⟩
    conv=>whnf
    obtain ⟨x_29, hx_29, h⟩ := bS h
    refine q3 (ixS_of hx_29 (by first | rfl | simp) rr) ?_
    conv=>whnf
    refine ⟨_, _, (by (conv=>whnf); (refine elP_of hx_29 ?_); (conv=>whnf); (refine lvS_mk (es' := List.map .d (List.map eTmoney_part (List.set (List.set l_9 (Int.toNat (w64 (first_3 + root_8))) x_26) (Int.toNat (w64 (first_3 + (w64 ((w64 ((w64 (2 * root_8)) + 1)) + 1))))) x_27))) (by simp only [Nat.zero_add, List.map_set]; first | done | rfl) ?_); (conv=>whnf); (exact rr)), kp_ok (by repeat (first | exact trivial | refine ⟨trivial, ?_⟩ | refine ⟨rfl, ?_⟩)), ?_⟩
    conv=>whnf
    refine rg ?_
    conv=>whnf
    refine ⟨((w64 ((w64 ((w64 (2 * root_8)) + 1)) + 1)), (List.set (List.set l_9 (Int.toNat (w64 (first_3 + root_8))) x_26) (Int.toNat (w64 (first_3 + (w64 ((w64 ((w64 (2 * root_8)) + 1)) + 1))))) x_27)), h, ?_⟩
    exact Wk.mk2 [0] 1 rfl rfl (by decide) rfl ⟨daS_d rfl, trivial⟩ ⟨⟨rfl, (slEq (by first | rfl | simp))⟩, rr, rr, rr, rr, trivial⟩
   refine Tr.skip ?_
   conv=>whnf
   refine Tr.seq ?_
   refine sd [] [(0,1),(1,1),(2,1),(3,1),(4,1),(5,3),(6,3),(7,1),(8,1),(9,1),(10,1),(11,3),(12,3),(13,1),(14,1),(15,1)] ?_
   conv=>whnf
   refine q1 ?_
   conv=>whnf
   refine q1 ?_
   conv=>whnf
   refine q1 ?_
   conv=>whnf
   refine q1 ?_
   conv=>whnf
   refine q4 ?_
   conv=>whnf
   obtain ⟨x_30, hx_30, h⟩ := bS h
   refine q3 (ixS_of hx_30 rfl rr) ?_
   conv=>whnf
   refine q3 (elP_of hx_30 rr) ?_
   conv=>whnf
   refine q1 ?_
   conv=>whnf
   refine q1 ?_
   conv=>whnf
   refine q1 ?_
   conv=>whnf
   refine q4 ?_
   conv=>whnf
   obtain ⟨x_31, hx_31, h⟩ := bS h
   refine q3 (ixS_of hx_31 rfl rr) ?_
   conv=>whnf
   refine q3 (elP_of hx_31 rr) ?_
   conv=>whnf
   obtain ⟨r_32, hc33, h⟩ := bS h
   refine q1 ?_ (fun _ => pe (P11 x_30 x_31 r_32 hc33) rr)
   conv=>whnf
   refine q1 ?_
   conv=>whnf
   refine q1 ?_
   conv=>whnf
   refine Tr.cond ?_
   conv=>whnf
   refine cB h (fun hb34 h => ?_) (fun hb34 h => ?_)
   ·refine Tr.ret ?_
    conv=>whnf
    refine endH ?_
    conv=>whnf
    cases h
    exact endB rfl rfl rfl ⟨⟨_, rfl⟩, trivial⟩
   refine Tr.skip ?_
   conv=>whnf
   refine sd [(21,0),(23,0)] [(0,1),(1,1),(2,1),(3,1),(4,1),(5,1),(6,1),(7,1),(8,1),(9,1),(10,1),(11,1),(12,3),(13,3),(14,1),(15,1),(16,1),(17,1),(18,3),(19,3),(20,3),(21,0),(22,3),(23,0)] ?_
   conv=>whnf
   refine q1 ?_
   conv=>whnf
   refine q1 ?_
   conv=>whnf
   refine q1 ?_
   conv=>whnf
   refine q4 ?_
   conv=>whnf
   refine q1 ?_
   conv=>whnf
   refine q1 ?_
   conv=>whnf
   refine q1 ?_
   conv=>whnf
   refine q4 ?_
   conv=>whnf
   refine q1 ?_
   conv=>whnf
   refine q1 ?_
   conv=>whnf
   refine q1 ?_
   conv=>whnf
   refine q4 ?_
   conv=>whnf
   obtain ⟨x_35, hx_35, h⟩ := bS h
   refine q3 (ixS_of hx_35 rfl rr) ?_
   conv=>whnf
   refine q3 (elP_of hx_35 rr) ?_
   conv=>whnf
   refine q1 ?_
   conv=>whnf
   refine q1 ?_
   conv=>whnf
   refine q1 ?_
   conv=>whnf
   refine q4 ?_
   conv=>whnf
   obtain ⟨x_36, hx_36, h⟩ := bS h
   refine q3 (ixS_of hx_36 rfl rr) ?_
   conv=>whnf
   refine q3 (elP_of hx_36 rr) ?_
   conv=>whnf
   obtain ⟨x_37, hx_37, h⟩ := bS h
   refine q3 (ixS_of hx_37 rfl rr) ?_
   conv=>whnf
   refine ⟨_, _, (by (conv=>whnf); (refine elP_of hx_37 ?_); (conv=>whnf); (refine lvS_mk (es' := List.map .d (List.map eTmoney_part (List.set l_9 (Int.toNat (w64 (first_3 + root_8))) x_35))) (by simp only [Nat.zero_add, List.map_set]; first | done | rfl) ?_); (conv=>whnf); (exact rr)), kp_ok (by repeat (first | exact trivial | refine ⟨trivial, ?_⟩ | refine ⟨rfl, ?_⟩)), ?_⟩
   conv=>whnf
   obtain ⟨x_38, hx_38, h⟩ := bS h
   refine q3 (ixS_of hx_38 (by first | rfl | simp) rr) ?_
   conv=>whnf
   refine ⟨_, _, (by (conv=>whnf); (refine elP_of hx_38 ?_); (conv=>whnf); (refine lvS_mk (es' := List.map .d (List.map eTmoney_part (List.set (List.set l_9 (Int.toNat (w64 (first_3 + root_8))) x_35) (Int.toNat (w64 (first_3 + (w64 ((w64 (2 * root_8)) + 1))))) x_36))) (by simp only [Nat.zero_add, List.map_set]; first | done | rfl) ?_); (conv=>whnf); (exact rr)), kp_ok (by repeat (first | exact trivial | refine ⟨trivial, ?_⟩ | refine ⟨rfl, ?_⟩)), ?_⟩
   conv=>whnf
   refine rg ?_
   conv=>whnf
   refine ⟨((w64 ((w64 (2 * root_8)) + 1)), (List.set (List.set l_9 (Int.toNat (w64 (first_3 + root_8))) x_35) (Int.toNat (w64 (first_3 + (w64 ((w64 (2 * root_8)) + 1))))) x_36)), h, ?_⟩
   exact Wk.mk2 [0] 1 rfl rfl (by decide) rfl ⟨daS_d rfl, trivial⟩ ⟨⟨rfl, (slEq (by first | rfl | simp))⟩, rr, rr, rr, rr, trivial⟩
  conv=>whnf
  refine q1 ?_
  conv=>whnf
  refine Tr.cond ?_
  conv=>whnf
  refine Tr.skip ?_
  conv=>whnf
  refine Tr.seq ?_
  refine sd [] [(0,1),(1,1),(2,1),(3,1),(4,1),(5,3),(6,3),(7,1),(8,1),(9,1),(10,1),(11,3),(12,3),(13,1),(14,1),(15,1)] ?_
  conv=>whnf
  refine q1 ?_
  conv=>whnf
  refine q1 ?_
  conv=>whnf
  refine q1 ?_
  conv=>whnf
  refine q1 ?_
  conv=>whnf
  refine q4 ?_
  conv=>whnf
  obtain ⟨x_39, hx_39, h⟩ := bS h
  refine q3 (ixS_of hx_39 rfl rr) ?_
  conv=>whnf
  refine q3 (elP_of hx_39 rr) ?_
  conv=>whnf
  refine q1 ?_
  conv=>whnf
  refine q1 ?_
  conv=>whnf
  refine q1 ?_
  conv=>whnf
  refine q4 ?_
  conv=>whnf
  obtain ⟨x_40, hx_40, h⟩ := bS h
  refine q3 (ixS_of hx_40 rfl rr) ?_
  conv=>whnf
  refine q3 (elP_of hx_40 rr) ?_
  conv=>whnf
  obtain ⟨r_41, hc42, h⟩ := bS h
  refine q1 ?_ (fun _ => pe (P11 x_39 x_40 r_41 hc42) rr)
  conv=>whnf
  refine q1 ?_
  conv=>whnf
  refine q1 ?_
  conv=>whnf
  refine Tr.cond ?_
  conv=>whnf
  refine cB h (fun hb43 h => ?_) (fun hb43 h => ?_)
  ·refine Tr.ret ?_
   conv=>whnf
   refine endH ?_
   conv=>whnf
   cases h
   exact endB rfl rfl rfl ⟨⟨_, rfl⟩, trivial⟩
  refine Tr.skip ?_
  conv=>whnf
  refine sd [(21,0),(23,0)] [(0,1),(1,1),(2,1),(3,1),(4,1),(5,1),(6,1),(7,1),(8,1),(9,1),(10,1),(11,1),(12,3),(13,3),(14,1),(15,1),(16,1),(17,1),(18,3),(19,3),(20,3),(21,0),(22,3),(23,0)] ?_
  conv=>whnf
  refine q1 ?_
  conv=>whnf
  refine q1 ?_
  conv=>whnf
  refine q1 ?_
  conv=>whnf
  refine q4 ?_
  conv=>whnf
  refine q1 ?_
  conv=>whnf
  refine q1 ?_
  conv=>whnf
  refine q1 ?_
  conv=>whnf
  refine q4 ?_
  conv=>whnf
  refine q1 ?_
  conv=>whnf
  refine q1 ?_
  conv=>whnf
  refine q1 ?_
  conv=>whnf
  refine q4 ?_
  conv=>whnf
  obtain ⟨x_44, hx_44, h⟩ := bS h
  refine q3 (ixS_of hx_44 rfl rr) ?_
  conv=>whnf
  refine q3 (elP_of hx_44 rr) ?_
  conv=>whnf
  refine q1 ?_
  conv=>whnf
  refine q1 ?_
  conv=>whnf
  refine q1 ?_
  conv=>whnf
  refine q4 ?_
  conv=>whnf
  obtain ⟨x_45, hx_45, h⟩ := bS h
  refine q3 (ixS_of hx_45 rfl rr) ?_
  conv=>whnf
  refine q3 (elP_of hx_45 rr) ?_
  conv=>whnf
  obtain ⟨x_46, hx_46, h⟩ := bS h
  refine q3 (ixS_of hx_46 rfl rr) ?_
  conv=>whnf
  refine ⟨_, _, (by (conv=>whnf); (refine elP_of hx_46 ?_); (conv=>whnf); (refine lvS_mk (es' := List.map .d (List.map eTmoney_part (List.set l_9 (Int.toNat (w64 (first_3 + root_8))) x_44))) (by simp only [Nat.zero_add, List.map_set]; first | done | rfl) ?_); (conv=>whnf); (exact rr)), kp_ok (by repeat (first | exact trivial | refine ⟨trivial, ?_⟩ | refine ⟨rfl, ?_⟩)), ?_⟩
  conv=>whnf
  obtain ⟨x_47, hx_47, h⟩ := bS h
  refine q3 (ixS_of hx_47 (by first | rfl | simp) rr) ?_
  conv=>whnf
  refine ⟨_, _, (by (conv=>whnf); (refine elP_of hx_47 ?_); (conv=>whnf); (refine lvS_mk (es' := List.map .d (List.map eTmoney_part (List.set (List.set l_9 (Int.toNat (w64 (first_3 + root_8))) x_44) (Int.toNat (w64 (first_3 + (w64 ((w64 (2 * root_8)) + 1))))) x_45))) (by simp only [Nat.zero_add, List.map_set]; first | done | rfl) ?_); (conv=>whnf); (exact rr)), kp_ok (by repeat (first | exact trivial | refine ⟨trivial, ?_⟩ | refine ⟨rfl, ?_⟩)), ?_⟩
  conv=>whnf
  refine rg ?_
  conv=>whnf
  refine ⟨((w64 ((w64 (2 * root_8)) + 1)), (List.set (List.set l_9 (Int.toNat (w64 (first_3 + root_8))) x_44) (Int.toNat (w64 (first_3 + (w64 ((w64 (2 * root_8)) + 1))))) x_45)), h, ?_⟩
  exact Wk.mk2 [0] 1 rfl rfl (by decide) rfl ⟨daS_d rfl, trivial⟩ ⟨⟨rfl, (slEq (by first | rfl | simp))⟩, rr, rr, rr, rr, trivial⟩
 clear h
 rintro l_11 h T1 H1 hw
 replace h : M16 l_11 = some l_5 := h
 conv=>whnf
 unfold M16 at h
 refine endW hw ?_
 conv=>whnf
 cases h
 exact endB rfl rfl rfl ⟨⟨_, rfl⟩, trivial⟩
theorem P20 (a_1 : Int) (b_2 : Int) (l_3 : List Tmoney_part) (l_4 : List Tmoney_part) (h : M20 a_1 b_2 l_3 = some l_4) :
    MC prog 40 [.sl 0 3 0 (List.length l_3), (dI a_1), (dI b_2), .d (.fn 22 [])] [.arr 3 (List.map .d (List.map eTmoney_part l_3))] (fun rs Bs => rs = [] ∧ Bs = [.arr 3 (List.map .d (List.map eTmoney_part l_4))]) := by
 refine MC.of_tr (cx := ⟨60, none, lay, 1⟩) layOK func40 rfl rfl rfl rfl rfl (by simp [f40]) ?_
 refine Tr.unW ?_
 unfold M20 at h
 refine sg ?_
 conv=>whnf
 refine sg ?_
 conv=>whnf
 refine sg ?_
 conv=>whnf
 refine arS_raw ?_
 conv=>whnf
 refine Tr.seq ?_
 refine sg ?_
 conv=>whnf
 refine arS_raw ?_
 conv=>whnf
 refine neS_mk (by decide) ?_
 conv=>whnf
 refine arS_raw ?_
 conv=>whnf
 obtain ⟨l_10, hv17, h⟩ := bS h
 refine Tr.cutQ1 ([(0, .sl 0 3 0 (List.length l_10)), (3, .d (.fn 22 [])), (8, (dI a_1)), (9, (dI 0)), (10, (dI (w64 (b_2 - a_1))))]) ([some (.arr 3 (List.map .d (List.map eTmoney_part l_10)))]) ?_ (fun T1 H1 hw => ?_)
 ·replace h := hv17; clear hv17
  refine Tr.block ?_
  refine Tr.loopM (σ := Int × List Tmoney_part) (fun n s => M18 a_1 b_2 n s.1 s.2) l_10 (fun s => ([(0, .sl 0 3 0 (List.length s.2)), (3, .d (.fn 22 [])), (8, (dI a_1)), (9, (dI 0)), (10, (dI (w64 (b_2 - a_1)))), (11, (dI s.1))], [some (.arr 3 (List.map .d (List.map eTmoney_part s.2)))])) (((w64 (Int.tdiv (w64 ((w64 (b_2 - a_1)) - 1)) 2)) + 1 - 0 : Int).toNat + 1) ((w64 (Int.tdiv (w64 ((w64 (b_2 - a_1)) - 1)) 2)), l_3) h (fun s => rfl) (Wk.mk2 [0] 1 rfl rfl (by decide) rfl ⟨daS_d rfl, trivial⟩ ⟨rr, rr, rr, rr, rr, rr, trivial⟩) ?_
  clear h
  rintro n_9 ⟨i_7, l_8⟩ h
  replace h : M18 a_1 b_2 (n_9 + 1) i_7 l_8 = some l_10 := h
  rw [M18] at h
  refine Tr.seq ?_
  refine sg ?_
  conv=>whnf
  refine Tr.cond ?_
  conv=>whnf
  refine cB h (fun hb13 h => ?_) (fun hb13 h => ?_)
  ·refine Tr.skip ?_
   conv=>whnf
   refine Tr.seq ?_
   refine Tr.block ?_
   refine rg ?_
   conv=>whnf
   obtain ⟨l_14, hc15, h⟩ := bS h
   refine MC.ecall (P17 i_7 ((w64 (b_2 - a_1))) a_1 l_8 l_14 hc15) [0] (by decide) rfl rfl ?_ (fun rs Bs1 hrs => ?_)
   · exact ⟨⟨⟨_, rfl⟩, rfl⟩, trivial⟩
   obtain ⟨rfl, rfl⟩ := hrs
   conv=>whnf
   obtain ⟨_, hl16, h⟩ := bS h
   refine rg ?_
   conv=>whnf
   refine arS_raw ?_
   conv=>whnf
   refine ⟨((w64 (i_7 - 1)), l_14), h, ?_⟩
   exact Wk.mk2 [0] 1 rfl rfl (by decide) rfl ⟨daS_d rfl, trivial⟩ ⟨⟨rfl, (slEq (by first | rfl | simp [lenIs_eq hl16]))⟩, rr, rr, rr, rr, rr, trivial⟩
  refine Tr.exit ?_
  conv=>whnf
  cases h
  exact Wk.mk2 [0] 1 rfl rfl (by decide) rfl ⟨daS_d rfl, trivial⟩ ⟨rr, rr, rr, rr, rr, trivial⟩
 clear hv17
 conv=>whnf
 refine Tr.weak hw ?_
 refine sg ?_
 conv=>whnf
 refine arS_raw ?_
 conv=>whnf
 obtain ⟨l_23, hv34, h⟩ := bS h
 refine Tr.cutQ1 ([]) ([some (.arr 3 (List.map .d (List.map eTmoney_part l_23)))]) ?_ (fun T1 H1 hw => ?_)
 ·replace h := hv34; clear hv34
  refine Tr.block ?_
  refine Tr.loopM (σ := Int × List Tmoney_part) (fun n s => M19 a_1 n s.1 s.2) l_23 (fun s => ([(0, .sl 0 3 0 (List.length s.2)), (3, .d (.fn 22 [])), (8, (dI a_1)), (9, (dI 0)), (12, (dI s.1))], [some (.arr 3 (List.map .d (List.map eTmoney_part s.2)))])) (((w64 ((w64 (b_2 - a_1)) - 1)) + 1 - 0 : Int).toNat + 1) ((w64 ((w64 (b_2 - a_1)) - 1)), l_10) h (fun s => rfl) (Wk.mk2 [0] 1 rfl rfl (by decide) rfl ⟨daS_d rfl, trivial⟩ ⟨rr, rr, rr, rr, rr, trivial⟩) ?_
  clear h
  rintro n_22 ⟨i_20, l_21⟩ h
  replace h : M19 a_1 (n_22 + 1) i_20 l_21 = some l_23 := h
  rw [M19] at h
  refine Tr.seq ?_
  refine sg ?_
  conv=>whnf
  refine Tr.cond ?_
  conv=>whnf
  refine cB h (fun hb26 h => ?_) (fun hb26 h => ?_)
  ·refine Tr.skip ?_
   conv=>whnf
   refine Tr.seq ?_
   refine Tr.block ?_
   refine sd [(17,0),(19,0)] [(0,1),(1,1),(2,1),(3,1),(4,1),(5,1),(6,1),(7,1),(8,1),(9,1),(10,3),(11,3),(12,1),(13,1),(14,3),(15,3),(16,3),(17,0),(18,3),(19,0)] ?_
   conv=>whnf
   refine q1 ?_
   conv=>whnf
   refine q1 ?_
   conv=>whnf
   refine q1 ?_
   conv=>whnf
   refine q1 ?_
   conv=>whnf
   refine q1 ?_
   conv=>whnf
   refine q4 ?_
   conv=>whnf
   refine q1 ?_
   conv=>whnf
   refine q1 ?_
   conv=>whnf
   refine q1 ?_
   conv=>whnf
   refine q4 ?_
   conv=>whnf
   obtain ⟨x_27, hx_27, h⟩ := bS h
   refine q3 (ixS_of hx_27 rfl rr) ?_
   conv=>whnf
   refine q3 (elP_of hx_27 rr) ?_
   conv=>whnf
   refine q1 ?_
   conv=>whnf
   refine q1 ?_
   conv=>whnf
   obtain ⟨x_28, hx_28, h⟩ := bS h
   refine q3 (ixS_of hx_28 rfl rr) ?_
   conv=>whnf
   refine q3 (elP_of hx_28 rr) ?_
   conv=>whnf
   obtain ⟨x_29, hx_29, h⟩ := bS h
   refine q3 (ixS_of hx_29 rfl rr) ?_
   conv=>whnf
   refine ⟨_, _, (by (conv=>whnf); (refine elP_of hx_29 ?_); (conv=>whnf); (refine lvS_mk (es' := List.map .d (List.map eTmoney_part (List.set l_21 (Int.toNat a_1) x_27))) (by simp only [Nat.zero_add, List.map_set]; first | done | rfl) ?_); (conv=>whnf); (exact rr)), kp_ok (by repeat (first | exact trivial | refine ⟨trivial, ?_⟩ | refine ⟨rfl, ?_⟩)), ?_⟩
   conv=>whnf
   obtain ⟨x_30, hx_30, h⟩ := bS h
   refine q3 (ixS_of hx_30 (by first | rfl | simp) rr) ?_
   conv=>whnf
   refine ⟨_, _, (by (conv=>whnf); (refine elP_of hx_30 ?_); (conv=>whnf); (refine lvS_mk (es' := List.map .d (List.map eTmoney_part (List.set (List.set l_21 (Int.toNat a_1) x_27) (Int.toNat (w64 (a_1 + i_20))) x_28))) (by simp only [Nat.zero_add, List.map_set]; first | done | rfl) ?_); (conv=>whnf); (exact rr)), kp_ok (by repeat (first | exact trivial | refine ⟨trivial, ?_⟩ | refine ⟨rfl, ?_⟩)), ?_⟩
   conv=>whnf
   refine rg ?_
   conv=>whnf
   obtain ⟨l_31, hc32, h⟩ := bS h
   refine MC.ecall (P17 0 i_20 a_1 ((List.set (List.set l_21 (Int.toNat a_1) x_27) (Int.toNat (w64 (a_1 + i_20))) x_28)) l_31 hc32) [0] (by decide) (by first | rfl | (simp only [List.length_set]; rfl)) rfl ?_ (fun rs Bs1 hrs => ?_)
   · exact ⟨⟨⟨_, rfl⟩, rfl⟩, trivial⟩
   obtain ⟨rfl, rfl⟩ := hrs
   conv=>whnf
   obtain ⟨_, hl33, h⟩ := bS h
   refine rg ?_
   conv=>whnf
   refine arS_raw ?_
   conv=>whnf
   refine ⟨((w64 (i_20 - 1)), l_31), h, ?_⟩
   exact Wk.mk2 [0] 1 rfl rfl (by decide) rfl ⟨daS_d rfl, trivial⟩ ⟨⟨rfl, (slEq (by first | rfl | simp [lenIs_eq hl33]))⟩, rr, rr, rr, rr, trivial⟩
  refine Tr.exit ?_
  conv=>whnf
  cases h
  exact Wk.mk2 [0] 1 rfl rfl (by decide) rfl ⟨daS_d rfl, trivial⟩ trivial
 clear hv34
 conv=>whnf
 refine endW hw ?_
 conv=>whnf
 cases h
 exact endB rfl rfl rfl ⟨⟨_, rfl⟩, trivial⟩
theorem P21 (data_1 : List Tmoney_part) (a_2 : Int) (b_3 : Int) (v_4 : Int) (r_5 : Int) (r_6 : Int) (b_7 : Int) (h : M21 data_1 a_2 b_3 v_4 = some (r_5, r_6, b_7)) :
    MC prog 67 [.d (.ls (List.map eTmoney_part data_1)), (dI a_2), (dI b_3), .pt 0 0, .d (.fn 22 [])] [.var [(dI v_4)]] (fun rs Bs => rs = [(.i .i64 r_5), (.i .i64 r_6)] ∧ Bs = [.var [(dI b_7)]]) := by
 refine MC.of_tr (cx := ⟨32, none, lay, 1⟩) layOK func67 rfl rfl rfl rfl rfl (by simp [f67]) ?_
 refine Tr.unW ?_
 unfold M21 at h
 refine sg ?_
 conv=>whnf
 refine Tr.seq ?_
 refine sd [] [(0,1),(1,1),(2,1),(3,2),(4,2),(5,1),(6,1),(7,2),(8,2),(9,1),(10,1)] ?_
 conv=>whnf
 refine q1 ?_
 conv=>whnf
 refine q1 ?_
 conv=>whnf
 refine q1 ?_
 conv=>whnf
 obtain ⟨x_8, hx_8, h⟩ := bS h
 refine q3 (ixP_of hx_8 rr) ?_
 conv=>whnf
 refine q2 ?_
 conv=>whnf
 refine q1 ?_
 conv=>whnf
 refine q1 ?_
 conv=>whnf
 obtain ⟨x_9, hx_9, h⟩ := bS h
 refine q3 (ixP_of hx_9 rr) ?_
 conv=>whnf
 refine q2 ?_
 conv=>whnf
 obtain ⟨r_10, hc11, h⟩ := bS h
 refine q1 ?_ (fun _ => pe (P11 x_8 x_9 r_10 hc11) rr)
 conv=>whnf
 refine q1 ?_
 conv=>whnf
 refine Tr.cond ?_
 conv=>whnf
 refine cB h (fun hb12 h => ?_) (fun hb12 h => ?_)
 ·refine sg ?_
  conv=>whnf
  refine arS_raw ?_
  conv=>whnf
  refine sg ?_
  conv=>whnf
  refine Tr.ret ?_
  conv=>whnf
  refine endH ?_
  conv=>whnf
  cases h
  exact endB rfl rfl rfl ⟨rfl, trivial⟩
 refine Tr.skip ?_
 conv=>whnf
 refine sg ?_
 conv=>whnf
 refine Tr.ret ?_
 conv=>whnf
 refine endH ?_
 conv=>whnf
 cases h
 exact endB rfl rfl rfl ⟨rfl, trivial⟩
end Go.Proofs.Tryd
