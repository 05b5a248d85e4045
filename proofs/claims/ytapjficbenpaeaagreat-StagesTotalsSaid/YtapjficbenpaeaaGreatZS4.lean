/- Contracts of functions, by program (gen.py). No condition. -/
import Derived.Test.YtapjficbenpaeaaGreatZL
import Derived.Test.YtapjficbenpaeaaGreatZM
import Derived.Test.YtapjficbenpaeaaGreatZCB
import Derived.Test.YtapjficbenpaeaaGreatZS3
namespace Go.Proofs.Tryz
open Go Go.Abs Go.Stop
set_option maxRecDepth 8000
set_option linter.unusedVariables false
set_option linter.unusedSimpArgs false
theorem P75 (c_1 : List TSpan) (ys : List TSpan) (h : M75 c_1 = some ys) (xs : YL) (hx : Rem xs (fun a => [(eTSpan a)]) 0 ys) :
    ItC prog 162 [(.ro [(.ls (List.map eTSpan c_1))])] xs := by
 refine ItC.of_tr (cx := ⟨16, none, lay, 0⟩) (hx := hx) func162 rfl rfl rfl (by simp [f162]) rfl (fun l hx => ?_)
 unfold M75 at h
 refine TrY.seq ?_
 refine TrY.region layOK ?_
 conv=>whnf
 refine lnS_map ?_
 conv=>whnf
 refine TrY.block ?_
 refine TrY.loopM (σ := Int) (fun n s => M73 c_1 M74 n s) _ (fun s => ([(0, .yl l), (5, .d (.ls (List.map eTSpan c_1))), (6, (dI (((c_1).length : Int)))), (7, (dI s))], [])) (((((c_1).length : Int)) - 0 : Int).toNat + 1) (0) h (fun s => rfl) hx (Wk.mk2 [] 0 rfl rfl (by decide) rfl trivial ⟨rr, rr, rr, rr, trivial⟩) ?_
 clear h hx
 rintro n_4 v_3 i_10 ys_11 h hx
 replace h : M73 c_1 M74 (n_4 + 1) v_3 = some ys_11 := h
 rw [M73] at h
 refine TrY.seq ?_
 refine TrY.region layOK ?_
 conv=>whnf
 refine TrY.seq ?_
 refine TrY.cond ?_
 conv=>whnf
 refine cB h (fun hb7 h => ?_) (fun hb7 h => ?_)
 ·refine TrY.skip ?_
  conv=>whnf
  refine TrY.seq ?_
  refine TrY.block ?_
  refine TrY.seq ?_
  refine TrY.region layOK ?_
  conv=>whnf
  obtain ⟨x_8, hx_8, h⟩ := bS h
  refine ixP_of hx_8 ?_
  conv=>whnf
  refine TrY.seq ?_
  refine TrY.region layOK ?_
  conv=>whnf
  obtain ⟨l_9, h_9, e_9⟩ := bS h
  clear h
  cases e_9
  have h := h_9
  clear h_9
  refine ylS_of hx rfl (fun gb_9 h1_9 h2_9 => ?_)
  cases gb_9
  ·have hend_9 := h2_9 rfl
   clear h1_9 h2_9 h hx
   conv=>whnf
   refine ⟨rfl, ?_⟩
   conv=>whnf
   refine TrY.cond ?_
   conv=>whnf
   refine TrY.ret ?_
   conv=>whnf
   exact hend_9
  replace hx := h1_9 rfl
  clear h1_9 h2_9
  conv=>whnf
  refine ⟨rfl, ?_⟩
  conv=>whnf
  refine TrY.cond ?_
  conv=>whnf
  refine TrY.skip ?_
  conv=>whnf
  refine TrY.region layOK ?_
  conv=>whnf
  refine arS_raw ?_
  conv=>whnf
  refine ⟨((w64 (v_3 + 1))), _, h, hx, ?_⟩
  exact Wk.mk2 [] 0 rfl rfl (by decide) rfl trivial ⟨rr, rr, rr, rr, trivial⟩
 refine TrY.exit ?_
 conv=>whnf
 unfold M74 at h
 cases h
 exact Rem.done hx
theorem P76 (x_1 : Int) (r_2 : Int) (h : M76 x_1 = some r_2) :
    PC prog 81 [(.i .u64 x_1)] (fun rs => rs = [(.i .i64 r_2)]) := by
  unfold M76 at h
  split at h
  · rename_i hx
    cases h
    exact PC.of_calls func81 rfl rfl (fun w => Go.Proofs.Tryz.bits_Len x_1 w hx.1 hx.2)
  · cases h
theorem P77 (a_1 : TSpan) (b_2 : TSpan) (r_3 : Int) (h : M77 a_1 b_2 = some r_3) :
    PC prog 134 [(eTSpan a_1), (eTSpan b_2)] (fun rs => rs = [(.i .i64 r_3)]) := by
 refine PC.of_tr (cx := ⟨17, none, lay, 0⟩) layOK func134 rfl rfl rfl rfl rfl (by simp [f134]) ?_
 unfold M77 at h
 refine sg ?_
 conv=>whnf
 refine sd [] [(0,3),(1,3),(2,4),(3,4),(4,1),(5,3),(6,3),(7,4),(8,4),(9,1),(10,1),(11,0),(12,1)] ?_
 conv=>whnf
 refine q2 ?_
 conv=>whnf
 refine q2 ?_
 conv=>whnf
 refine q2 ?_
 conv=>whnf
 refine q2 ?_
 conv=>whnf
 obtain ⟨r_4, hc5, h⟩ := bS h
 refine q1 ?_ (fun _ => pe (P4 a_1.Lo b_2.Lo r_4 hc5) rr)
 conv=>whnf
 refine q2 ?_
 conv=>whnf
 refine q2 ?_
 conv=>whnf
 refine q2 ?_
 conv=>whnf
 refine q2 ?_
 conv=>whnf
 obtain ⟨r_6, hc7, h⟩ := bS h
 refine q1 ?_ (fun _ => pe (P4 a_1.Hi b_2.Hi r_6 hc7) rr)
 conv=>whnf
 refine q1 ?_ (fun _ => orB_r rr)
 conv=>whnf
 obtain ⟨r_8, hc9, h⟩ := bS h
 refine ⟨_, _, (by (conv=>whnf); (refine PC.ecall (P7 ((([r_4, r_6] : List Int))) r_8 hc9) (fun rs hrs => ?_)); (subst hrs); (conv=>whnf); (exact rr)), kp_ok (by repeat (first | exact trivial | refine ⟨trivial, ?_⟩ | refine ⟨rfl, ?_⟩)), ?_⟩
 conv=>whnf
 refine q1 ?_
 conv=>whnf
 refine Tr.ret ?_
 conv=>whnf
 cases h
 rfl
theorem P80 (a_1 : Int) (b_2 : Int) (l_3 : List TSpan) (l_4 : List TSpan) (h : M80 a_1 b_2 l_3 = some l_4) :
    MC prog 167 [.sl 0 2 0 (List.length l_3), (dI a_1), (dI b_2), .d (.fn 134 [])] [.arr 2 (List.map .d (List.map eTSpan l_3))] (fun rs Bs => rs = [] ∧ Bs = [.arr 2 (List.map .d (List.map eTSpan l_4))]) := by
 refine MC.of_tr (cx := ⟨53, none, lay, 1⟩) layOK func167 rfl rfl rfl rfl rfl (by simp [f167]) ?_
 refine Tr.unW ?_
 unfold M80 at h
 refine sg ?_
 conv=>whnf
 refine arS_raw ?_
 conv=>whnf
 obtain ⟨l_10, hv33, h⟩ := bS h
 refine Tr.cutQ1 ([]) ([some (.arr 2 (List.map .d (List.map eTSpan l_10)))]) ?_ (fun T1 H1 hw => ?_)
 ·replace h := hv33; clear hv33
  refine Tr.block ?_
  refine Tr.loopM (σ := Int × List TSpan) (fun n s => M79 a_1 b_2 n s.1 s.2) l_10 (fun s => ([(0, .sl 0 2 0 (List.length s.2)), (1, (dI a_1)), (2, (dI b_2)), (3, .d (.fn 134 [])), (8, (dI s.1))], [some (.arr 2 (List.map .d (List.map eTSpan s.2)))])) ((b_2 - (w64 (a_1 + 1)) : Int).toNat + 1) ((w64 (a_1 + 1)), l_3) h (fun s => rfl) (Wk.mk2 [0] 1 rfl rfl (by decide) rfl ⟨daS_d rfl, trivial⟩ ⟨rr, rr, rr, rr, rr, trivial⟩) ?_
  clear h
  rintro n_9 ⟨i_7, l_8⟩ h
  replace h : M79 a_1 b_2 (n_9 + 1) i_7 l_8 = some l_10 := h
  rw [M79] at h
  refine Tr.seq ?_
  refine sg ?_
  conv=>whnf
  refine Tr.cond ?_
  conv=>whnf
  refine cB h (fun hb13 h => ?_) (fun hb13 h => ?_)
  ·refine Tr.skip ?_
   conv=>whnf
   refine Tr.seq ?_
   refine Tr.block ?_
   refine sg ?_
   conv=>whnf
   obtain ⟨l_19, hv32, h⟩ := bS h
   refine Tr.cutQ1 ([(0, .sl 0 2 0 (List.length l_19)), (1, (dI a_1)), (2, (dI b_2)), (3, .d (.fn 134 [])), (8, (dI i_7))]) ([some (.arr 2 (List.map .d (List.map eTSpan l_19)))]) ?_ (fun T1 H1 hw => ?_)
   ·replace h := hv32; clear hv32
    refine Tr.block ?_
    refine Tr.loopM (σ := Int × List TSpan) (fun n s => M78 a_1 n s.1 s.2) l_19 (fun s => ([(0, .sl 0 2 0 (List.length s.2)), (1, (dI a_1)), (2, (dI b_2)), (3, .d (.fn 134 [])), (8, (dI i_7)), (9, (dI s.1))], [some (.arr 2 (List.map .d (List.map eTSpan s.2)))])) ((i_7 - a_1 : Int).toNat + 1) (i_7, l_8) h (fun s => rfl) (Wk.mk2 [0] 1 rfl rfl (by decide) rfl ⟨daS_d rfl, trivial⟩ ⟨rr, rr, rr, rr, rr, rr, trivial⟩) ?_
    clear h
    rintro n_18 ⟨j_16, l_17⟩ h
    replace h : M78 a_1 (n_18 + 1) j_16 l_17 = some l_19 := h
    rw [M78] at h
    refine Tr.seq ?_
    refine sd [] [(0,1),(1,1),(2,1),(3,1),(4,1),(5,1),(6,1),(7,3),(8,3),(9,1),(10,1),(11,1),(12,3),(13,3),(14,1),(15,1),(16,1)] ?_
    conv=>whnf
    refine q1 ?_
    conv=>whnf
    refine q1 ?_
    conv=>whnf
    refine q1 ?_
    conv=>whnf
    refine q1 ?_
    conv=>whnf
    refine cB h (fun hb22 h => ?_) (fun hb22 h => ?_)
    ·conv=>whnf
     refine q1 ?_
     conv=>whnf
     refine q1 ?_
     conv=>whnf
     refine q1 ?_
     conv=>whnf
     obtain ⟨x_23, hx_23, h⟩ := bS h
     refine q3 (ixS_of hx_23 rfl rr) ?_
     conv=>whnf
     refine q3 (elP_of hx_23 rr) ?_
     conv=>whnf
     refine q1 ?_
     conv=>whnf
     refine q1 ?_
     conv=>whnf
     refine q4 ?_
     conv=>whnf
     obtain ⟨x_24, hx_24, h⟩ := bS h
     refine q3 (ixS_of hx_24 rfl rr) ?_
     conv=>whnf
     refine q3 (elP_of hx_24 rr) ?_
     conv=>whnf
     obtain ⟨r_25, hc26, h⟩ := bS h
     refine q1 ?_ (fun _ => pe (P77 x_23 x_24 r_25 hc26) rr)
     conv=>whnf
     refine q1 ?_
     conv=>whnf
     refine q1 ?_
     conv=>whnf
     refine Tr.cond ?_
     conv=>whnf
     refine cB h (fun hb27 h => ?_) (fun hb27 h => ?_)
     ·refine Tr.skip ?_
      conv=>whnf
      refine Tr.seq ?_
      refine Tr.block ?_
      refine dq [(15,0),(17,0)] [(0,1),(1,1),(2,1),(3,1),(4,1),(5,1),(6,1),(7,1),(8,3),(9,3),(10,1),(11,1),(12,3),(13,3),(14,3),(15,0),(16,3),(17,0)] ?_
      conv=>whnf
      refine q1 ?_
      conv=>whnf
      refine q1 ?_
      conv=>whnf
      refine q1 ?_
      conv=>whnf
      refine q1 ?_
      conv=>whnf
      refine q4 ?_
      conv=>whnf
      refine q1 ?_
      conv=>whnf
      refine q1 ?_
      conv=>whnf
      refine q4 ?_
      conv=>whnf
      obtain ⟨x_28, hx_28, h⟩ := bS h
      refine q3 (ixS_of hx_28 rfl rr) ?_
      conv=>whnf
      refine q3 (elP_of hx_28 rr) ?_
      conv=>whnf
      refine q1 ?_
      conv=>whnf
      refine q1 ?_
      conv=>whnf
      obtain ⟨x_29, hx_29, h⟩ := bS h
      refine q3 (ixS_of hx_29 rfl rr) ?_
      conv=>whnf
      refine q3 (elP_of hx_29 rr) ?_
      conv=>whnf
      obtain ⟨x_30, hx_30, h⟩ := bS h
      refine q3 (ixS_of hx_30 rfl rr) ?_
      conv=>whnf
      refine ⟨_, _, (by (conv=>whnf); (refine elP_of hx_30 ?_); (conv=>whnf); (refine lvS_mk (es' := List.map .d (List.map eTSpan (List.set l_17 (Int.toNat j_16) x_28))) (by simp only [Nat.zero_add, List.map_set]; first | done | rfl) ?_); (conv=>whnf); (exact rr)), kp_ok (by repeat (first | exact trivial | refine ⟨trivial, ?_⟩ | refine ⟨rfl, ?_⟩)), ?_⟩
      conv=>whnf
      obtain ⟨x_31, hx_31, h⟩ := bS h
      refine q3 (ixS_of hx_31 (by first | rfl | simp) rr) ?_
      conv=>whnf
      refine ⟨_, _, (by (conv=>whnf); (refine elP_of hx_31 ?_); (conv=>whnf); (refine lvS_mk (es' := List.map .d (List.map eTSpan (List.set (List.set l_17 (Int.toNat j_16) x_28) (Int.toNat (w64 (j_16 - 1))) x_29))) (by simp only [Nat.zero_add, List.map_set]; first | done | rfl) ?_); (conv=>whnf); (exact rr)), kp_ok (by repeat (first | exact trivial | refine ⟨trivial, ?_⟩ | refine ⟨rfl, ?_⟩)), ?_⟩
      conv=>whnf
      refine rg ?_
      conv=>whnf
      refine arS_raw ?_
      conv=>whnf
      refine ⟨((w64 (j_16 - 1)), (List.set (List.set l_17 (Int.toNat j_16) x_28) (Int.toNat (w64 (j_16 - 1))) x_29)), h, ?_⟩
      exact Wk.mk2 [0] 1 rfl rfl (by decide) rfl ⟨daS_d rfl, trivial⟩ ⟨⟨rfl, (slEq (by first | rfl | simp))⟩, rr, rr, rr, rr, rr, trivial⟩
     refine Tr.exit ?_
     conv=>whnf
     cases h
     exact Wk.mk2 [0] 1 rfl rfl (by decide) rfl ⟨daS_d rfl, trivial⟩ ⟨rr, rr, rr, rr, rr, trivial⟩
    conv=>whnf
    refine q1 ?_
    conv=>whnf
    refine Tr.cond ?_
    conv=>whnf
    refine Tr.exit ?_
    conv=>whnf
    cases h
    exact Wk.mk2 [0] 1 rfl rfl (by decide) rfl ⟨daS_d rfl, trivial⟩ ⟨rr, rr, rr, rr, rr, trivial⟩
   clear hv32
   conv=>whnf
   refine Tr.weak hw ?_
   refine rg ?_
   conv=>whnf
   refine arS_raw ?_
   conv=>whnf
   refine ⟨((w64 (i_7 + 1)), l_19), h, ?_⟩
   exact Wk.mk2 [0] 1 rfl rfl (by decide) rfl ⟨daS_d rfl, trivial⟩ ⟨rr, rr, rr, rr, rr, trivial⟩
  refine Tr.exit ?_
  conv=>whnf
  cases h
  exact Wk.mk2 [0] 1 rfl rfl (by decide) rfl ⟨daS_d rfl, trivial⟩ trivial
 clear hv33
 conv=>whnf
 refine endW hw ?_
 conv=>whnf
 cases h
 exact endB rfl rfl rfl ⟨⟨_, rfl⟩, trivial⟩
theorem P83 (lo_1 : Int) (hi_2 : Int) (first_3 : Int) (l_4 : List TSpan) (l_5 : List TSpan) (h : M83 lo_1 hi_2 first_3 l_4 = some l_5) :
    MC prog 175 [.sl 0 2 0 (List.length l_4), (dI lo_1), (dI hi_2), (dI first_3), .d (.fn 134 [])] [.arr 2 (List.map .d (List.map eTSpan l_4))] (fun rs Bs => rs = [] ∧ Bs = [.arr 2 (List.map .d (List.map eTSpan l_5))]) := by
 refine MC.of_tr (cx := ⟨82, none, lay, 1⟩) layOK func175 rfl rfl rfl rfl rfl (by simp [f175]) ?_
 refine Tr.unW ?_
 unfold M83 at h
 refine sg ?_
 conv=>whnf
 refine Tr.cutQ (α := List TSpan) (fun s => ([], [some (.arr 2 (List.map .d (List.map eTSpan s)))])) (fun s => M82 s = some l_5) ?_ ?_
 ·refine Tr.block ?_
  refine Tr.loopM (σ := Int × List TSpan) (fun n s => M81 hi_2 first_3 M82 n s.1 s.2) l_5 (fun s => ([(0, .sl 0 2 0 (List.length s.2)), (2, (dI hi_2)), (3, (dI first_3)), (4, .d (.fn 134 [])), (10, (dI s.1))], [some (.arr 2 (List.map .d (List.map eTSpan s.2)))])) (List.length l_4 + 1) (lo_1, l_4) h (fun s => rfl) (Wk.mk2 [0] 1 rfl rfl (by decide) rfl ⟨daS_d rfl, trivial⟩ ⟨rr, rr, rr, rr, rr, trivial⟩) ?_
  clear h
  rintro n_10 ⟨root_8, l_9⟩ h
  replace h : M81 hi_2 first_3 M82 (n_10 + 1) root_8 l_9 = some l_5 := h
  rw [M81] at h
  refine Tr.block ?_
  refine sg ?_
  conv=>whnf
  refine arS_raw ?_
  conv=>whnf
  refine arS_raw ?_
  conv=>whnf
  refine Tr.seq ?_
  refine sg ?_
  conv=>whnf
  refine Tr.cond ?_
  conv=>whnf
  refine cB h (fun hb14 h => ?_) (fun hb14 h => ?_)
  ·refine Tr.exit ?_
   conv=>whnf
   refine ⟨(l_9), h, ?_⟩
   exact Wk.mk2 [0] 1 rfl rfl (by decide) rfl ⟨daS_d rfl, trivial⟩ trivial
  refine Tr.skip ?_
  conv=>whnf
  refine Tr.seq ?_
  refine sd [] [(0,1),(1,1),(2,1),(3,1),(4,1),(5,1),(6,1),(7,1),(8,1),(9,1),(10,3),(11,3),(12,1),(13,1),(14,1),(15,1),(16,1),(17,3),(18,3),(19,1),(20,1),(21,1)] ?_
  conv=>whnf
  refine q1 ?_
  conv=>whnf
  refine q4 ?_
  conv=>whnf
  refine q1 ?_
  conv=>whnf
  refine q1 ?_
  conv=>whnf
  refine q1 ?_
  conv=>whnf
  refine cB h (fun hb15 h => ?_) (fun hb15 h => ?_)
  ·conv=>whnf
   refine q1 ?_
   conv=>whnf
   refine q1 ?_
   conv=>whnf
   refine q1 ?_
   conv=>whnf
   refine q1 ?_
   conv=>whnf
   refine q4 ?_
   conv=>whnf
   obtain ⟨x_16, hx_16, h⟩ := bS h
   refine q3 (ixS_of hx_16 rfl rr) ?_
   conv=>whnf
   refine q3 (elP_of hx_16 rr) ?_
   conv=>whnf
   refine q1 ?_
   conv=>whnf
   refine q1 ?_
   conv=>whnf
   refine q1 ?_
   conv=>whnf
   refine q4 ?_
   conv=>whnf
   refine q4 ?_
   conv=>whnf
   obtain ⟨x_17, hx_17, h⟩ := bS h
   refine q3 (ixS_of hx_17 rfl rr) ?_
   conv=>whnf
   refine q3 (elP_of hx_17 rr) ?_
   conv=>whnf
   obtain ⟨r_18, hc19, h⟩ := bS h
   refine q1 ?_ (fun _ => pe (P77 x_16 x_17 r_18 hc19) rr)
   conv=>whnf
   refine q1 ?_
   conv=>whnf
   refine q1 ?_
   conv=>whnf
   refine Tr.cond ?_
   conv=>whnf
   refine cB h (fun hb20 h => ?_) (fun hb20 h => ?_)
   ·refine rg ?_
    conv=>whnf
    refine arS_raw ?_
    conv=>whnf
    refine Tr.seq ?_
    refine sd [] [(0,1),(1,1),(2,1),(3,1),(4,1),(5,3),(6,3),(7,1),(8,1),(9,1),(10,1),(11,3),(12,3),(13,1),(14,1),(15,1)] ?_
    conv=>whnf
    refine q1 ?_
    conv=>whnf
    refine q1 ?_
    conv=>whnf
    refine q1 ?_
    conv=>whnf
    refine q1 ?_
    conv=>whnf
    refine q4 ?_
    conv=>whnf
    obtain ⟨x_21, hx_21, h⟩ := bS h
    refine q3 (ixS_of hx_21 rfl rr) ?_
    conv=>whnf
    refine q3 (elP_of hx_21 rr) ?_
    conv=>whnf
    refine q1 ?_
    conv=>whnf
    refine q1 ?_
    conv=>whnf
    refine q1 ?_
    conv=>whnf
    refine q4 ?_
    conv=>whnf
    obtain ⟨x_22, hx_22, h⟩ := bS h
    refine q3 (ixS_of hx_22 rfl rr) ?_
    conv=>whnf
    refine q3 (elP_of hx_22 rr) ?_
    conv=>whnf
    obtain ⟨r_23, hc24, h⟩ := bS h
    refine q1 ?_ (fun _ => pe (P77 x_21 x_22 r_23 hc24) rr)
    conv=>whnf
    refine q1 ?_
    conv=>whnf
    refine q1 ?_
    conv=>whnf
    refine Tr.cond ?_
    conv=>whnf
    refine cB h (fun hb25 h => ?_) (fun hb25 h => ?_)
    ·refine Tr.ret ?_
     conv=>whnf
     refine endH ?_
     conv=>whnf
     cases h
     exact endB rfl rfl rfl ⟨⟨_, rfl⟩, trivial⟩
    refine Tr.skip ?_
    conv=>whnf
    refine sd [(21,0),(23,0)] [(0,1),(1,1),(2,1),(3,1),(4,1),(5,1),(6,1),(7,1),(8,1),(9,1),(10,1),(11,1),(12,3),(13,3),(14,1),(15,1),(16,1),(17,1),(18,3),(19,3),(20,3),(21,0),(22,3),(23,0)] ?_
    conv=>whnf
    refine q1 ?_
    conv=>whnf
    refine q1 ?_
    conv=>whnf
    refine q1 ?_
    conv=>whnf
    refine q4 ?_
    conv=>whnf
    refine q1 ?_
    conv=>whnf
    refine q1 ?_
    conv=>whnf
    refine q1 ?_
    conv=>whnf
    refine q4 ?_
    conv=>whnf
    refine q1 ?_
    conv=>whnf
    refine q1 ?_
    conv=>whnf
    refine q1 ?_
    conv=>whnf
    refine q4 ?_
    conv=>whnf
    obtain ⟨x_26, hx_26, h⟩ := bS h
    refine q3 (ixS_of hx_26 rfl rr) ?_
    conv=>whnf
    refine q3 (elP_of hx_26 rr) ?_
    conv=>whnf
    refine q1 ?_
    conv=>whnf
    refine q1 ?_
    conv=>whnf
    refine q1 ?_
    conv=>whnf
    refine q4 ?_
    conv=>whnf
    obtain ⟨x_27, hx_27, h⟩ := bS h
    refine q3 (ixS_of hx_27 rfl rr) ?_
    conv=>whnf
    refine q3 (elP_of hx_27 rr) ?_
    conv=>whnf
    obtain ⟨x_28, hx_28, h⟩ := bS h
    refine q3 (ixS_of hx_28 rfl rr) ?_
    conv=>whnf
    refine ⟨_, _, (by (conv=>whnf); (refine elP_of hx_28 ?_); (conv=>whnf); (refine lvS_mk (es' := List.map .d (List.map eTSpan (List.set l_9 (Int.toNat (w64 (first_3 + root_8))) x_26))) (by simp only [Nat.zero_add, List.map_set]; first | done | rfl) ?_); (conv=>whnf); (exact rr)), kp_ok (by repeat (first | exact trivial | refine ⟨trivial, ?_⟩ | refine ⟨rfl, ?_⟩)), ?_⟩
    conv=>whnf
    obtain ⟨x_29, hx_29, h⟩ := bS h
    refine q3 (ixS_of hx_29 (by first | rfl | simp) rr) ?_
    conv=>whnf
    refine ⟨_, _, (by (conv=>whnf); (refine elP_of hx_29 ?_); (conv=>whnf); (refine lvS_mk (es' := List.map .d (List.map eTSpan (List.set (List.set l_9 (Int.toNat (w64 (first_3 + root_8))) x_26) (Int.toNat (w64 (first_3 + (w64 ((w64 ((w64 (2 * root_8)) + 1)) + 1))))) x_27))) (by simp only [Nat.zero_add, List.map_set]; first | done | rfl) ?_); (conv=>whnf); (exact rr)), kp_ok (by repeat (first | exact trivial | refine ⟨trivial, ?_⟩ | refine ⟨rfl, ?_⟩)), ?_⟩
    conv=>whnf
    refine rg ?_
    conv=>whnf
    refine ⟨((w64 ((w64 ((w64 (2 * root_8)) + 1)) + 1)), (List.set (List.set l_9 (Int.toNat (w64 (first_3 + root_8))) x_26) (Int.toNat (w64 (first_3 + (w64 ((w64 ((w64 (2 * root_8)) + 1)) + 1))))) x_27)), h, ?_⟩
    exact Wk.mk2 [0] 1 rfl rfl (by decide) rfl ⟨daS_d rfl, trivial⟩ ⟨⟨rfl, (slEq (by first | rfl | simp))⟩, rr, rr, rr, rr, trivial⟩
   refine Tr.skip ?_
   conv=>whnf
   refine Tr.seq ?_
   refine sd [] [(0,1),(1,1),(2,1),(3,1),(4,1),(5,3),(6,3),(7,1),(8,1),(9,1),(10,1),(11,3),(12,3),(13,1),(14,1),(15,1)] ?_
   conv=>whnf
   refine q1 ?_
   conv=>whnf
   refine q1 ?_
   conv=>whnf
   refine q1 ?_
   conv=>whnf
   refine q1 ?_
   conv=>whnf
   refine q4 ?_
   conv=>whnf
   obtain ⟨x_30, hx_30, h⟩ := bS h
   refine q3 (ixS_of hx_30 rfl rr) ?_
   conv=>whnf
   refine q3 (elP_of hx_30 rr) ?_
   conv=>whnf
   refine q1 ?_
   conv=>whnf
   refine q1 ?_
   conv=>whnf
   refine q1 ?_
   conv=>whnf
   refine q4 ?_
   conv=>whnf
   obtain ⟨x_31, hx_31, h⟩ := bS h
   refine q3 (ixS_of hx_31 rfl rr) ?_
   conv=>whnf
   refine q3 (elP_of hx_31 rr) ?_
   conv=>whnf
   obtain ⟨r_32, hc33, h⟩ := bS h
   refine q1 ?_ (fun _ => pe (P77 x_30 x_31 r_32 hc33) rr)
   conv=>whnf
   refine q1 ?_
   conv=>whnf
   refine q1 ?_
   conv=>whnf
   refine Tr.cond ?_
   conv=>whnf
   refine cB h (fun hb34 h => ?_) (fun hb34 h => ?_)
   ·refine Tr.ret ?_
    conv=>whnf
    refine endH ?_
    conv=>whnf
    cases h
    exact endB rfl rfl rfl ⟨⟨_, rfl⟩, trivial⟩
   refine Tr.skip ?_
   conv=>whnf
   refine sd [(21,0),(23,0)] [(0,1),(1,1),(2,1),(3,1),(4,1),(5,1),(6,1),(7,1),(8,1),(9,1),(10,1),(11,1),(12,3),(13,3),(14,1),(15,1),(16,1),(17,1),(18,3),(19,3),(20,3),(21,0),(22,3),(23,0)] ?_
   conv=>whnf
   refine q1 ?_
   conv=>whnf
   refine q1 ?_
   conv=>whnf
   refine q1 ?_
   conv=>whnf
   refine q4 ?_
   conv=>whnf
   refine q1 ?_
   conv=>whnf
   refine q1 ?_
   conv=>whnf
   refine q1 ?_
   conv=>whnf
   refine q4 ?_
   conv=>whnf
   refine q1 ?_
   conv=>whnf
   refine q1 ?_
   conv=>whnf
   refine q1 ?_
   conv=>whnf
   refine q4 ?_
   conv=>whnf
   obtain ⟨x_35, hx_35, h⟩ := bS h
   refine q3 (ixS_of hx_35 rfl rr) ?_
   conv=>whnf
   refine q3 (elP_of hx_35 rr) ?_
   conv=>whnf
   refine q1 ?_
   conv=>whnf
   refine q1 ?_
   conv=>whnf
   refine q1 ?_
   conv=>whnf
   refine q4 ?_
   conv=>whnf
   obtain ⟨x_36, hx_36, h⟩ := bS h
   refine q3 (ixS_of hx_36 rfl rr) ?_
   conv=>whnf
   refine q3 (elP_of hx_36 rr) ?_
   conv=>whnf
   obtain ⟨x_37, hx_37, h⟩ := bS h
   refine q3 (ixS_of hx_37 rfl rr) ?_
   conv=>whnf
   refine ⟨_, _, (by (conv=>whnf); (refine elP_of hx_37 ?_); (conv=>whnf); (refine lvS_mk (es' := List.map .d (List.map eTSpan (List.set l_9 (Int.toNat (w64 (first_3 + root_8))) x_35))) (by simp only [Nat.zero_add, List.map_set]; first | done | rfl) ?_); (conv=>whnf); (exact rr)), kp_ok (by repeat (first | exact trivial | refine ⟨trivial, ?_⟩ | refine ⟨rfl, ?_⟩)), ?_⟩
   conv=>whnf
   obtain ⟨x_38, hx_38, h⟩ := bS h
   refine q3 (ixS_of hx_38 (by first | rfl | simp) rr) ?_
   conv=>whnf
   refine ⟨_, _, (by (conv=>whnf); (refine elP_of hx_38 ?_); (conv=>whnf); (refine lvS_mk (es' := List.map .d (List.map eTSpan (List.set (List.set l_9 (Int.toNat (w64 (first_3 + root_8))) x_35) (Int.toNat (w64 (first_3 + (w64 ((w64 (2 * root_8)) + 1))))) x_36))) (by simp only [Nat.zero_add, List.map_set]; first | done | rfl) ?_); (conv=>whnf); (exact rr)), kp_ok (by repeat (first | exact trivial | refine ⟨trivial, ?_⟩ | refine ⟨rfl, ?_⟩)), ?_⟩
   conv=>whnf
   refine rg ?_
   conv=>whnf
   refine ⟨((w64 ((w64 (2 * root_8)) + 1)), (List.set (List.set l_9 (Int.toNat (w64 (first_3 + root_8))) x_35) (Int.toNat (w64 (first_3 + (w64 ((w64 (2 * root_8)) + 1))))) x_36)), h, ?_⟩
   exact Wk.mk2 [0] 1 rfl rfl (by decide) rfl ⟨daS_d rfl, trivial⟩ ⟨⟨rfl, (slEq (by first | rfl | simp))⟩, rr, rr, rr, rr, trivial⟩
  conv=>whnf
  refine q1 ?_
  conv=>whnf
  refine Tr.cond ?_
  conv=>whnf
  refine Tr.skip ?_
  conv=>whnf
  refine Tr.seq ?_
  refine sd [] [(0,1),(1,1),(2,1),(3,1),(4,1),(5,3),(6,3),(7,1),(8,1),(9,1),(10,1),(11,3),(12,3),(13,1),(14,1),(15,1)] ?_
  conv=>whnf
  refine q1 ?_
  conv=>whnf
  refine q1 ?_
  conv=>whnf
  refine q1 ?_
  conv=>whnf
  refine q1 ?_
  conv=>whnf
  refine q4 ?_
  conv=>whnf
  obtain ⟨x_39, hx_39, h⟩ := bS h
  refine q3 (ixS_of hx_39 rfl rr) ?_
  conv=>whnf
  refine q3 (elP_of hx_39 rr) ?_
  conv=>whnf
  refine q1 ?_
  conv=>whnf
  refine q1 ?_
  conv=>whnf
  refine q1 ?_
  conv=>whnf
  refine q4 ?_
  conv=>whnf
  obtain ⟨x_40, hx_40, h⟩ := bS h
  refine q3 (ixS_of hx_40 rfl rr) ?_
  conv=>whnf
  refine q3 (elP_of hx_40 rr) ?_
  conv=>whnf
  obtain ⟨r_41, hc42, h⟩ := bS h
  refine q1 ?_ (fun _ => pe (P77 x_39 x_40 r_41 hc42) rr)
  conv=>whnf
  refine q1 ?_
  conv=>whnf
  refine q1 ?_
  conv=>whnf
  refine Tr.cond ?_
  conv=>whnf
  refine cB h (fun hb43 h => ?_) (fun hb43 h => ?_)
  ·refine Tr.ret ?_
   conv=>whnf
   refine endH ?_
   conv=>whnf
   cases h
   exact endB rfl rfl rfl ⟨⟨_, rfl⟩, trivial⟩
  refine Tr.skip ?_
  conv=>whnf
  refine sd [(21,0),(23,0)] [(0,1),(1,1),(2,1),(3,1),(4,1),(5,1),(6,1),(7,1),(8,1),(9,1),(10,1),(11,1),(12,3),(13,3),(14,1),(15,1),(16,1),(17,1),(18,3),(19,3),(20,3),(21,0),(22,3),(23,0)] ?_
  conv=>whnf
  refine q1 ?_
  conv=>whnf
  refine q1 ?_
  conv=>whnf
  refine q1 ?_
  conv=>whnf
  refine q4 ?_
  conv=>whnf
  refine q1 ?_
  conv=>whnf
  refine q1 ?_
  conv=>whnf
  refine q1 ?_
  conv=>whnf
  refine q4 ?_
  conv=>whnf
  refine q1 ?_
  conv=>whnf
  refine q1 ?_
  conv=>whnf
  refine q1 ?_
  conv=>whnf
  refine q4 ?_
  conv=>whnf
  obtain ⟨x_44, hx_44, h⟩ := bS h
  refine q3 (ixS_of hx_44 rfl rr) ?_
  conv=>whnf
  refine q3 (elP_of hx_44 rr) ?_
  conv=>whnf
  refine q1 ?_
  conv=>whnf
  refine q1 ?_
  conv=>whnf
  refine q1 ?_
  conv=>whnf
  refine q4 ?_
  conv=>whnf
  obtain ⟨x_45, hx_45, h⟩ := bS h
  refine q3 (ixS_of hx_45 rfl rr) ?_
  conv=>whnf
  refine q3 (elP_of hx_45 rr) ?_
  conv=>whnf
  obtain ⟨x_46, hx_46, h⟩ := bS h
  refine q3 (ixS_of hx_46 rfl rr) ?_
  conv=>whnf
  refine ⟨_, _, (by (conv=>whnf); (refine elP_of hx_46 ?_); (conv=>whnf); (refine lvS_mk (es' := List.map .d (List.map eTSpan (List.set l_9 (Int.toNat (w64 (first_3 + root_8))) x_44))) (by simp only [Nat.zero_add, List.map_set]; first | done | rfl) ?_); (conv=>whnf); (exact rr)), kp_ok (by repeat (first | exact trivial | refine ⟨trivial, ?_⟩ | refine ⟨rfl, ?_⟩)), ?_⟩
  conv=>whnf
  obtain ⟨x_47, hx_47, h⟩ := bS h
  refine q3 (ixS_of hx_47 (by first | rfl | simp) rr) ?_
  conv=>whnf
  refine ⟨_, _, (by (conv=>whnf); (refine elP_of hx_47 ?_); (conv=>whnf); (refine lvS_mk (es' := List.map .d (List.map eTSpan (List.set (List.set l_9 (Int.toNat (w64 (first_3 + root_8))) x_44) (Int.toNat (w64 (first_3 + (w64 ((w64 (2 * root_8)) + 1))))) x_45))) (by simp only [Nat.zero_add, List.map_set]; first | done | rfl) ?_); (conv=>whnf); (exact rr)), kp_ok (by repeat (first | exact trivial | refine ⟨trivial, ?_⟩ | refine ⟨rfl, ?_⟩)), ?_⟩
  conv=>whnf
  refine rg ?_
  conv=>whnf
  refine ⟨((w64 ((w64 (2 * root_8)) + 1)), (List.set (List.set l_9 (Int.toNat (w64 (first_3 + root_8))) x_44) (Int.toNat (w64 (first_3 + (w64 ((w64 (2 * root_8)) + 1))))) x_45)), h, ?_⟩
  exact Wk.mk2 [0] 1 rfl rfl (by decide) rfl ⟨daS_d rfl, trivial⟩ ⟨⟨rfl, (slEq (by first | rfl | simp))⟩, rr, rr, rr, rr, trivial⟩
 clear h
 rintro l_11 h T1 H1 hw
 replace h : M82 l_11 = some l_5 := h
 conv=>whnf
 unfold M82 at h
 refine endW hw ?_
 conv=>whnf
 cases h
 exact endB rfl rfl rfl ⟨⟨_, rfl⟩, trivial⟩
theorem P86 (a_1 : Int) (b_2 : Int) (l_3 : List TSpan) (l_4 : List TSpan) (h : M86 a_1 b_2 l_3 = some l_4) :
    MC prog 168 [.sl 0 2 0 (List.length l_3), (dI a_1), (dI b_2), .d (.fn 134 [])] [.arr 2 (List.map .d (List.map eTSpan l_3))] (fun rs Bs => rs = [] ∧ Bs = [.arr 2 (List.map .d (List.map eTSpan l_4))]) := by
 refine MC.of_tr (cx := ⟨60, none, lay, 1⟩) layOK func168 rfl rfl rfl rfl rfl (by simp [f168]) ?_
 refine Tr.unW ?_
 unfold M86 at h
 refine sg ?_
 conv=>whnf
 refine sg ?_
 conv=>whnf
 refine sg ?_
 conv=>whnf
 refine arS_raw ?_
 conv=>whnf
 refine Tr.seq ?_
 refine sg ?_
 conv=>whnf
 refine arS_raw ?_
 conv=>whnf
 refine neS_mk (by decide) ?_
 conv=>whnf
 refine arS_raw ?_
 conv=>whnf
 obtain ⟨l_10, hv17, h⟩ := bS h
 refine Tr.cutQ1 ([(0, .sl 0 2 0 (List.length l_10)), (3, .d (.fn 134 [])), (8, (dI a_1)), (9, (dI 0)), (10, (dI (w64 (b_2 - a_1))))]) ([some (.arr 2 (List.map .d (List.map eTSpan l_10)))]) ?_ (fun T1 H1 hw => ?_)
 ·replace h := hv17; clear hv17
  refine Tr.block ?_
  refine Tr.loopM (σ := Int × List TSpan) (fun n s => M84 a_1 b_2 n s.1 s.2) l_10 (fun s => ([(0, .sl 0 2 0 (List.length s.2)), (3, .d (.fn 134 [])), (8, (dI a_1)), (9, (dI 0)), (10, (dI (w64 (b_2 - a_1)))), (11, (dI s.1))], [some (.arr 2 (List.map .d (List.map eTSpan s.2)))])) (((w64 (Int.tdiv (w64 ((w64 (b_2 - a_1)) - 1)) 2)) + 1 - 0 : Int).toNat + 1) ((w64 (Int.tdiv (w64 ((w64 (b_2 - a_1)) - 1)) 2)), l_3) h (fun s => rfl) (Wk.mk2 [0] 1 rfl rfl (by decide) rfl ⟨daS_d rfl, trivial⟩ ⟨rr, rr, rr, rr, rr, rr, trivial⟩) ?_
  clear h
  rintro n_9 ⟨i_7, l_8⟩ h
  replace h : M84 a_1 b_2 (n_9 + 1) i_7 l_8 = some l_10 := h
  rw [M84] at h
  refine Tr.seq ?_
  refine sg ?_
  conv=>whnf
  refine Tr.cond ?_
  conv=>whnf
  refine cB h (fun hb13 h => ?_) (fun hb13 h => ?_)
  ·refine Tr.skip ?_
   conv=>whnf
   refine Tr.seq ?_
   refine Tr.block ?_
   refine rg ?_
   conv=>whnf
   obtain ⟨l_14, hc15, h⟩ := bS h
   refine MC.ecall (P83 i_7 ((w64 (b_2 - a_1))) a_1 l_8 l_14 hc15) [0] (by decide) rfl rfl ?_ (fun rs Bs1 hrs => ?_)
   · exact ⟨⟨⟨_, rfl⟩, rfl⟩, trivial⟩
   obtain ⟨rfl, rfl⟩ := hrs
   conv=>whnf
   obtain ⟨_, hl16, h⟩ := bS h
   refine rg ?_
   conv=>whnf
   refine arS_raw ?_
   conv=>whnf
   refine ⟨((w64 (i_7 - 1)), l_14), h, ?_⟩
   exact Wk.mk2 [0] 1 rfl rfl (by decide) rfl ⟨daS_d rfl, trivial⟩ ⟨⟨rfl, (slEq (by first | rfl | simp [lenIs_eq hl16]))⟩, rr, rr, rr, rr, rr, trivial⟩
  refine Tr.exit ?_
  conv=>whnf
  cases h
  exact Wk.mk2 [0] 1 rfl rfl (by decide) rfl ⟨daS_d rfl, trivial⟩ ⟨rr, rr, rr, rr, rr, trivial⟩
 clear hv17
 conv=>whnf
 refine Tr.weak hw ?_
 refine sg ?_
 conv=>whnf
 refine arS_raw ?_
 conv=>whnf
 obtain ⟨l_23, hv34, h⟩ := bS h
 refine Tr.cutQ1 ([]) ([some (.arr 2 (List.map .d (List.map eTSpan l_23)))]) ?_ (fun T1 H1 hw => ?_)
 ·replace h := hv34; clear hv34
  refine Tr.block ?_
  refine Tr.loopM (σ := Int × List TSpan) (fun n s => M85 a_1 n s.1 s.2) l_23 (fun s => ([(0, .sl 0 2 0 (List.length s.2)), (3, .d (.fn 134 [])), (8, (dI a_1)), (9, (dI 0)), (12, (dI s.1))], [some (.arr 2 (List.map .d (List.map eTSpan s.2)))])) (((w64 ((w64 (b_2 - a_1)) - 1)) + 1 - 0 : Int).toNat + 1) ((w64 ((w64 (b_2 - a_1)) - 1)), l_10) h (fun s => rfl) (Wk.mk2 [0] 1 rfl rfl (by decide) rfl ⟨daS_d rfl, trivial⟩ ⟨rr, rr, rr, rr, rr, trivial⟩) ?_
  clear h
  rintro n_22 ⟨i_20, l_21⟩ h
  replace h : M85 a_1 (n_22 + 1) i_20 l_21 = some l_23 := h
  rw [M85] at h
  refine Tr.seq ?_
  refine sg ?_
  conv=>whnf
  refine Tr.cond ?_
  conv=>whnf
  refine cB h (fun hb26 h => ?_) (fun hb26 h => ?_)
  ·refine Tr.skip ?_
   conv=>whnf
   refine Tr.seq ?_
   refine Tr.block ?_
   refine sd [(17,0),(19,0)] [(0,1),(1,1),(2,1),(3,1),(4,1),(5,1),(6,1),(7,1),(8,1),(9,1),(10,3),(11,3),(12,1),(13,1),(14,3),(15,3),(16,3),(17,0),(18,3),(19,0)] ?_
   conv=>whnf
   refine q1 ?_
   conv=>whnf
   refine q1 ?_
   conv=>whnf
   refine q1 ?_
   conv=>whnf
   refine q1 ?_
   conv=>whnf
   refine q1 ?_
   conv=>whnf
   refine q4 ?_
   conv=>whnf
   refine q1 ?_
   conv=>whnf
   refine q1 ?_
   conv=>whnf
   refine q1 ?_
   conv=>whnf
   refine q4 ?_
   conv=>whnf
   obtain ⟨x_27, hx_27, h⟩ := bS h
   refine q3 (ixS_of hx_27 rfl rr) ?_
   conv=>whnf
   refine q3 (elP_of hx_27 rr) ?_
   conv=>whnf
   refine q1 ?_
   conv=>whnf
   refine q1 ?_
   conv=>whnf
   obtain ⟨x_28, hx_28, h⟩ := bS h
   refine q3 (ixS_of hx_28 rfl rr) ?_
   conv=>whnf
   refine q3 (elP_of hx_28 rr) ?_
   conv=>whnf
   obtain ⟨x_29, hx_29, h⟩ := bS h
   refine q3 (ixS_of hx_29 rfl rr) ?_
   conv=>whnf
   refine ⟨_, _, (by (conv=>whnf); (refine elP_of hx_29 ?_); (conv=>whnf); (refine lvS_mk (es' := List.map .d (List.map eTSpan (List.set l_21 (Int.toNat a_1) x_27))) (by simp only [Nat.zero_add, List.map_set]; first | done | rfl) ?_); (conv=>whnf); (exact rr)), kp_ok (by repeat (first | exact trivial | refine ⟨trivial, ?_⟩ | refine ⟨rfl, ?_⟩)), ?_⟩
   conv=>whnf
   obtain ⟨x_30, hx_30, h⟩ := bS h
   refine q3 (ixS_of hx_30 (by first | rfl | simp) rr) ?_
   conv=>whnf
   refine ⟨_, _, (by (conv=>whnf); (refine elP_of hx_30 ?_); (conv=>whnf); (refine lvS_mk (es' := List.map .d (List.map eTSpan (List.set (List.set l_21 (Int.toNat a_1) x_27) (Int.toNat (w64 (a_1 + i_20))) x_28))) (by simp only [Nat.zero_add, List.map_set]; first | done | rfl) ?_); (conv=>whnf); (exact rr)), kp_ok (by repeat (first | exact trivial | refine ⟨trivial, ?_⟩ | refine ⟨rfl, ?_⟩)), ?_⟩
   conv=>whnf
   refine rg ?_
   conv=>whnf
   obtain ⟨l_31, hc32, h⟩ := bS h
   refine MC.ecall (P83 0 i_20 a_1 ((List.set (List.set l_21 (Int.toNat a_1) x_27) (Int.toNat (w64 (a_1 + i_20))) x_28)) l_31 hc32) [0] (by decide) (by first | rfl | (simp only [List.length_set]; rfl)) rfl ?_ (fun rs Bs1 hrs => ?_)
   · exact ⟨⟨⟨_, rfl⟩, rfl⟩, trivial⟩
   obtain ⟨rfl, rfl⟩ := hrs
   conv=>whnf
   obtain ⟨_, hl33, h⟩ := bS h
   refine rg ?_
   conv=>whnf
   refine arS_raw ?_
   conv=>whnf
   refine ⟨((w64 (i_20 - 1)), l_31), h, ?_⟩
   exact Wk.mk2 [0] 1 rfl rfl (by decide) rfl ⟨daS_d rfl, trivial⟩ ⟨⟨rfl, (slEq (by first | rfl | simp [lenIs_eq hl33]))⟩, rr, rr, rr, rr, trivial⟩
  refine Tr.exit ?_
  conv=>whnf
  cases h
  exact Wk.mk2 [0] 1 rfl rfl (by decide) rfl ⟨daS_d rfl, trivial⟩ trivial
 clear hv34
 conv=>whnf
 refine endW hw ?_
 conv=>whnf
 cases h
 exact endB rfl rfl rfl ⟨⟨_, rfl⟩, trivial⟩
theorem P87 (data_1 : List TSpan) (a_2 : Int) (b_3 : Int) (v_4 : Int) (r_5 : Int) (r_6 : Int) (b_7 : Int) (h : M87 data_1 a_2 b_3 v_4 = some (r_5, r_6, b_7)) :
    MC prog 178 [.d (.ls (List.map eTSpan data_1)), (dI a_2), (dI b_3), .pt 0 0, .d (.fn 134 [])] [.var [(dI v_4)]] (fun rs Bs => rs = [(.i .i64 r_5), (.i .i64 r_6)] ∧ Bs = [.var [(dI b_7)]]) := by
 refine MC.of_tr (cx := ⟨32, none, lay, 1⟩) layOK func178 rfl rfl rfl rfl rfl (by simp [f178]) ?_
 refine Tr.unW ?_
 unfold M87 at h
 refine sg ?_
 conv=>whnf
 refine Tr.seq ?_
 refine sd [] [(0,1),(1,1),(2,1),(3,2),(4,2),(5,1),(6,1),(7,2),(8,2),(9,1),(10,1)] ?_
 conv=>whnf
 refine q1 ?_
 conv=>whnf
 refine q1 ?_
 conv=>whnf
 refine q1 ?_
 conv=>whnf
 obtain ⟨x_8, hx_8, h⟩ := bS h
 refine q3 (ixP_of hx_8 rr) ?_
 conv=>whnf
 refine q2 ?_
 conv=>whnf
 refine q1 ?_
 conv=>whnf
 refine q1 ?_
 conv=>whnf
 obtain ⟨x_9, hx_9, h⟩ := bS h
 refine q3 (ixP_of hx_9 rr) ?_
 conv=>whnf
 refine q2 ?_
 conv=>whnf
 obtain ⟨r_10, hc11, h⟩ := bS h
 refine q1 ?_ (fun _ => pe (P77 x_8 x_9 r_10 hc11) rr)
 conv=>whnf
 refine q1 ?_
 conv=>whnf
 refine Tr.cond ?_
 conv=>whnf
 refine cB h (fun hb12 h => ?_) (fun hb12 h => ?_)
 ·refine sg ?_
  conv=>whnf
  refine arS_raw ?_
  conv=>whnf
  refine sg ?_
  conv=>whnf
  refine Tr.ret ?_
  conv=>whnf
  refine endH ?_
  conv=>whnf
  cases h
  exact endB rfl rfl rfl ⟨rfl, trivial⟩
 refine Tr.skip ?_
 conv=>whnf
 refine sg ?_
 conv=>whnf
 refine Tr.ret ?_
 conv=>whnf
 refine endH ?_
 conv=>whnf
 cases h
 exact endB rfl rfl rfl ⟨rfl, trivial⟩
theorem P88 (data_1 : List TSpan) (a_2 : Int) (b_3 : Int) (c_4 : Int) (v_5 : Int) (r_6 : Int) (b_7 : Int) (h : M88 data_1 a_2 b_3 c_4 v_5 = some (r_6, b_7)) :
    MC prog 177 [.d (.ls (List.map eTSpan data_1)), (dI a_2), (dI b_3), (dI c_4), .pt 0 0, .d (.fn 134 [])] [.var [(dI v_5)]] (fun rs Bs => rs = [(.i .i64 r_6)] ∧ Bs = [.var [(dI b_7)]]) := by
 refine MC.of_tr (cx := ⟨41, none, lay, 1⟩) layOK func177 rfl rfl rfl rfl rfl (by simp [f177]) ?_
 refine Tr.unW ?_
 unfold M88 at h
 refine sg ?_
 conv=>whnf
 refine sg ?_
 conv=>whnf
 obtain ⟨⟨r_8, r_9, b_10⟩, hc11, h⟩ := bS h
 refine MC.ecall (P87 data_1 a_2 b_3 v_5 r_8 r_9 b_10 hc11) [0] (by decide) rfl rfl ?_ (fun rs Bs1 hrs => ?_)
 · exact ⟨⟨rfl, rfl⟩, trivial⟩
 obtain ⟨rfl, rfl⟩ := hrs
 conv=>whnf
 refine sg ?_
 conv=>whnf
 obtain ⟨⟨r_12, r_13, b_14⟩, hc15, h⟩ := bS h
 refine MC.ecall (P87 data_1 r_9 c_4 b_10 r_12 r_13 b_14 hc15) [0] (by decide) rfl rfl ?_ (fun rs Bs1 hrs => ?_)
 · exact ⟨⟨rfl, rfl⟩, trivial⟩
 obtain ⟨rfl, rfl⟩ := hrs
 conv=>whnf
 refine sg ?_
 conv=>whnf
 obtain ⟨⟨r_16, r_17, b_18⟩, hc19, h⟩ := bS h
 refine MC.ecall (P87 data_1 r_8 r_12 b_14 r_16 r_17 b_18 hc19) [0] (by decide) rfl rfl ?_ (fun rs Bs1 hrs => ?_)
 · exact ⟨⟨rfl, rfl⟩, trivial⟩
 obtain ⟨rfl, rfl⟩ := hrs
 conv=>whnf
 refine sg ?_
 conv=>whnf
 refine Tr.ret ?_
 conv=>whnf
 refine endH ?_
 conv=>whnf
 cases h
 exact endB rfl rfl rfl ⟨rfl, trivial⟩
theorem P89 (data_1 : List TSpan) (a_2 : Int) (v_3 : Int) (r_4 : Int) (b_5 : Int) (h : M89 data_1 a_2 v_3 = some (r_4, b_5)) :
    MC prog 176 [.d (.ls (List.map eTSpan data_1)), (dI a_2), .pt 0 0, .d (.fn 134 [])] [.var [(dI v_3)]] (fun rs Bs => rs = [(.i .i64 r_4)] ∧ Bs = [.var [(dI b_5)]]) := by
 refine MC.of_tr (cx := ⟨18, none, lay, 1⟩) layOK func176 rfl rfl rfl rfl rfl (by simp [f176]) ?_
 refine Tr.unW ?_
 unfold M89 at h
 refine sg ?_
 conv=>whnf
 refine sg ?_
 conv=>whnf
 refine arS_raw ?_
 conv=>whnf
 refine arS_raw ?_
 conv=>whnf
 obtain ⟨⟨r_6, b_7⟩, hc8, h⟩ := bS h
 refine MC.ecall (P88 data_1 ((w64 (a_2 - 1))) a_2 ((w64 (a_2 + 1))) v_3 r_6 b_7 hc8) [0] (by decide) rfl rfl ?_ (fun rs Bs1 hrs => ?_)
 · exact ⟨⟨rfl, rfl⟩, trivial⟩
 obtain ⟨rfl, rfl⟩ := hrs
 conv=>whnf
 refine Tr.ret ?_
 conv=>whnf
 refine endH ?_
 conv=>whnf
 cases h
 exact endB rfl rfl rfl ⟨rfl, trivial⟩
theorem P90 (data_1 : List TSpan) (a_2 : Int) (b_3 : Int) (r_4 : Int) (r_5 : Int) (h : M90 data_1 a_2 b_3 = some (r_4, r_5)) :
    PC prog 170 [(.ls (List.map eTSpan data_1)), (.i .i64 a_2), (.i .i64 b_3), (.fn 134 [])] (fun rs => rs = [(.i .i64 r_4), (.i .i64 r_5)]) := by
 refine PC.of_tr (cx := ⟨63, none, lay, 0⟩) layOK func170 rfl rfl rfl rfl rfl (by simp [f170]) ?_
 unfold M90 at h
 refine sg ?_
 conv=>whnf
 refine sg ?_
 conv=>whnf
 refine arS_raw ?_
 conv=>whnf
 refine sg ?_
 conv=>whnf
 refine sg ?_
 conv=>whnf
 refine neS_mk (by decide) ?_
 conv=>whnf
 refine arS_raw ?_
 conv=>whnf
 refine arS_raw ?_
 conv=>whnf
 refine arS_raw ?_
 conv=>whnf
 refine sg ?_
 conv=>whnf
 refine neS_mk (by decide) ?_
 conv=>whnf
 refine arS_raw ?_
 conv=>whnf
 refine arS_raw ?_
 conv=>whnf
 refine arS_raw ?_
 conv=>whnf
 refine sg ?_
 conv=>whnf
 refine neS_mk (by decide) ?_
 conv=>whnf
 refine arS_raw ?_
 conv=>whnf
 refine arS_raw ?_
 conv=>whnf
 refine arS_raw ?_
 conv=>whnf
 refine Tr.seq ?_
 refine sg ?_
 conv=>whnf
 refine Tr.cond ?_
 conv=>whnf
 refine cB h (fun hb6 h => ?_) (fun hb6 h => ?_)
 ·refine Tr.seq ?_
  refine sg ?_
  conv=>whnf
  refine Tr.cond ?_
  conv=>whnf
  refine cB h (fun hb7 h => ?_) (fun hb7 h => ?_)
  ·refine sg ?_
   conv=>whnf
   obtain ⟨⟨r_8, b_9⟩, hc10, h⟩ := bS h
   refine MC.ecall (P89 data_1 ((w64 (a_2 + (w64 ((w64 (Int.tdiv (w64 (b_3 - a_2)) 4)) * 1))))) 0 r_8 b_9 hc10) [0] (by decide) rfl rfl ?_ (fun rs Bs1 hrs => ?_)
   · exact ⟨⟨rfl, rfl⟩, trivial⟩
   obtain ⟨rfl, rfl⟩ := hrs
   conv=>whnf
   refine sg ?_
   conv=>whnf
   obtain ⟨⟨r_11, b_12⟩, hc13, h⟩ := bS h
   refine MC.ecall (P89 data_1 ((w64 (a_2 + (w64 ((w64 (Int.tdiv (w64 (b_3 - a_2)) 4)) * 2))))) b_9 r_11 b_12 hc13) [0] (by decide) rfl rfl ?_ (fun rs Bs1 hrs => ?_)
   · exact ⟨⟨rfl, rfl⟩, trivial⟩
   obtain ⟨rfl, rfl⟩ := hrs
   conv=>whnf
   refine rg ?_
   conv=>whnf
   obtain ⟨⟨r_14, b_15⟩, hc16, h⟩ := bS h
   refine MC.ecall (P89 data_1 ((w64 (a_2 + (w64 ((w64 (Int.tdiv (w64 (b_3 - a_2)) 4)) * 3))))) b_12 r_14 b_15 hc16) [0] (by decide) rfl rfl ?_ (fun rs Bs1 hrs => ?_)
   · exact ⟨⟨rfl, rfl⟩, trivial⟩
   obtain ⟨rfl, rfl⟩ := hrs
   conv=>whnf
   refine rg ?_
   conv=>whnf
   obtain ⟨⟨r_17, b_18⟩, hc19, h⟩ := bS h
   refine MC.ecall (P88 data_1 r_8 r_11 r_14 b_15 r_17 b_18 hc19) [0] (by decide) rfl rfl ?_ (fun rs Bs1 hrs => ?_)
   · exact ⟨⟨rfl, rfl⟩, trivial⟩
   obtain ⟨rfl, rfl⟩ := hrs
   conv=>whnf
   refine sg ?_
   conv=>whnf
   refine Tr.block ?_
   refine sg ?_
   conv=>whnf
   refine Tr.cond ?_
   conv=>whnf
   refine cB h (fun hb20 h => ?_) (fun hb20 h => ?_)
   ·refine sg ?_
    conv=>whnf
    refine Tr.ret ?_
    conv=>whnf
    cases h
    rfl
   refine sg ?_
   conv=>whnf
   refine Tr.cond ?_
   conv=>whnf
   refine cB h (fun hb21 h => ?_) (fun hb21 h => ?_)
   ·refine sg ?_
    conv=>whnf
    refine Tr.ret ?_
    conv=>whnf
    cases h
    rfl
   refine sg ?_
   conv=>whnf
   refine Tr.ret ?_
   conv=>whnf
   cases h
   rfl
  refine Tr.skip ?_
  conv=>whnf
  refine rg ?_
  conv=>whnf
  obtain ⟨⟨r_22, b_23⟩, hc24, h⟩ := bS h
  refine MC.ecall (P88 data_1 ((w64 (a_2 + (w64 ((w64 (Int.tdiv (w64 (b_3 - a_2)) 4)) * 1))))) ((w64 (a_2 + (w64 ((w64 (Int.tdiv (w64 (b_3 - a_2)) 4)) * 2))))) ((w64 (a_2 + (w64 ((w64 (Int.tdiv (w64 (b_3 - a_2)) 4)) * 3))))) 0 r_22 b_23 hc24) [0] (by decide) rfl rfl ?_ (fun rs Bs1 hrs => ?_)
  · exact ⟨⟨rfl, rfl⟩, trivial⟩
  obtain ⟨rfl, rfl⟩ := hrs
  conv=>whnf
  refine sg ?_
  conv=>whnf
  refine Tr.block ?_
  refine sg ?_
  conv=>whnf
  refine Tr.cond ?_
  conv=>whnf
  refine cB h (fun hb25 h => ?_) (fun hb25 h => ?_)
  ·refine sg ?_
   conv=>whnf
   refine Tr.ret ?_
   conv=>whnf
   cases h
   rfl
  refine sg ?_
  conv=>whnf
  refine Tr.cond ?_
  conv=>whnf
  refine cB h (fun hb26 h => ?_) (fun hb26 h => ?_)
  ·refine sg ?_
   conv=>whnf
   refine Tr.ret ?_
   conv=>whnf
   cases h
   rfl
  refine sg ?_
  conv=>whnf
  refine Tr.ret ?_
  conv=>whnf
  cases h
  rfl
 refine Tr.skip ?_
 conv=>whnf
 refine sg ?_
 conv=>whnf
 refine Tr.block ?_
 refine sg ?_
 conv=>whnf
 refine Tr.cond ?_
 conv=>whnf
 refine sg ?_
 conv=>whnf
 refine Tr.ret ?_
 conv=>whnf
 cases h
 rfl
theorem P92 (a_1 : Int) (b_2 : Int) (l_3 : List TSpan) (l_4 : List TSpan) (h : M92 a_1 b_2 l_3 = some l_4) :
    MC prog 171 [.sl 0 2 0 (List.length l_3), (dI a_1), (dI b_2), .d (.fn 134 [])] [.arr 2 (List.map .d (List.map eTSpan l_3))] (fun rs Bs => rs = [] ∧ Bs = [.arr 2 (List.map .d (List.map eTSpan l_4))]) := by
 refine MC.of_tr (cx := ⟨34, none, lay, 1⟩) layOK func171 rfl rfl rfl rfl rfl (by simp [f171]) ?_
 refine Tr.unW ?_
 unfold M92 at h
 refine sg ?_
 conv=>whnf
 refine sg ?_
 conv=>whnf
 refine arS_raw ?_
 conv=>whnf
 obtain ⟨l_12, hv20, h⟩ := bS h
 refine Tr.cutQ1 ([]) ([some (.arr 2 (List.map .d (List.map eTSpan l_12)))]) ?_ (fun T1 H1 hw => ?_)
 ·replace h := hv20; clear hv20
  refine Tr.block ?_
  refine Tr.loopM (σ := Int × Int × List TSpan) (fun n s => M91 n s.1 s.2.1 s.2.2) l_12 (fun s => ([(0, .sl 0 2 0 (List.length s.2.2)), (8, (dI s.1)), (9, (dI s.2.1))], [some (.arr 2 (List.map .d (List.map eTSpan s.2.2)))])) (((w64 (b_2 - 1)) - a_1 : Int).toNat + 1) (a_1, (w64 (b_2 - 1)), l_3) h (fun s => rfl) (Wk.mk2 [0] 1 rfl rfl (by decide) rfl ⟨daS_d rfl, trivial⟩ ⟨rr, rr, rr, trivial⟩) ?_
  clear h
  rintro n_11 ⟨i_8, j_9, l_10⟩ h
  replace h : M91 (n_11 + 1) i_8 j_9 l_10 = some l_12 := h
  rw [M91] at h
  refine Tr.seq ?_
  refine sg ?_
  conv=>whnf
  refine Tr.cond ?_
  conv=>whnf
  refine cB h (fun hb15 h => ?_) (fun hb15 h => ?_)
  ·refine Tr.skip ?_
   conv=>whnf
   refine Tr.block ?_
   refine sd [(13,0),(15,0)] [(0,1),(1,1),(2,1),(3,1),(4,1),(5,1),(6,3),(7,3),(8,1),(9,1),(10,3),(11,3),(12,3),(13,0),(14,3),(15,0)] ?_
   conv=>whnf
   refine q1 ?_
   conv=>whnf
   refine q1 ?_
   conv=>whnf
   refine q1 ?_
   conv=>whnf
   refine q1 ?_
   conv=>whnf
   refine q1 ?_
   conv=>whnf
   refine q1 ?_
   conv=>whnf
   obtain ⟨x_16, hx_16, h⟩ := bS h
   refine q3 (ixS_of hx_16 rfl rr) ?_
   conv=>whnf
   refine q3 (elP_of hx_16 rr) ?_
   conv=>whnf
   refine q1 ?_
   conv=>whnf
   refine q1 ?_
   conv=>whnf
   obtain ⟨x_17, hx_17, h⟩ := bS h
   refine q3 (ixS_of hx_17 rfl rr) ?_
   conv=>whnf
   refine q3 (elP_of hx_17 rr) ?_
   conv=>whnf
   obtain ⟨x_18, hx_18, h⟩ := bS h
   refine q3 (ixS_of hx_18 rfl rr) ?_
   conv=>whnf
   refine ⟨_, _, (by (conv=>whnf); (refine elP_of hx_18 ?_); (conv=>whnf); (refine lvS_mk (es' := List.map .d (List.map eTSpan (List.set l_10 (Int.toNat i_8) x_16))) (by simp only [Nat.zero_add, List.map_set]; first | done | rfl) ?_); (conv=>whnf); (exact rr)), kp_ok (by repeat (first | exact trivial | refine ⟨trivial, ?_⟩ | refine ⟨rfl, ?_⟩)), ?_⟩
   conv=>whnf
   obtain ⟨x_19, hx_19, h⟩ := bS h
   refine q3 (ixS_of hx_19 (by first | rfl | simp) rr) ?_
   conv=>whnf
   refine ⟨_, _, (by (conv=>whnf); (refine elP_of hx_19 ?_); (conv=>whnf); (refine lvS_mk (es' := List.map .d (List.map eTSpan (List.set (List.set l_10 (Int.toNat i_8) x_16) (Int.toNat j_9) x_17))) (by simp only [Nat.zero_add, List.map_set]; first | done | rfl) ?_); (conv=>whnf); (exact rr)), kp_ok (by repeat (first | exact trivial | refine ⟨trivial, ?_⟩ | refine ⟨rfl, ?_⟩)), ?_⟩
   conv=>whnf
   refine sg ?_
   conv=>whnf
   refine arS_raw ?_
   conv=>whnf
   refine rg ?_
   conv=>whnf
   refine arS_raw ?_
   conv=>whnf
   refine ⟨((w64 (i_8 + 1)), (w64 (j_9 - 1)), (List.set (List.set l_10 (Int.toNat i_8) x_16) (Int.toNat j_9) x_17)), h, ?_⟩
   exact Wk.mk2 [0] 1 rfl rfl (by decide) rfl ⟨daS_d rfl, trivial⟩ ⟨⟨rfl, (slEq (by first | rfl | simp))⟩, rr, rr, trivial⟩
  refine Tr.exit ?_
  conv=>whnf
  cases h
  exact Wk.mk2 [0] 1 rfl rfl (by decide) rfl ⟨daS_d rfl, trivial⟩ trivial
 clear hv20
 conv=>whnf
 refine endW hw ?_
 conv=>whnf
 cases h
 exact endB rfl rfl rfl ⟨⟨_, rfl⟩, trivial⟩
theorem P100 (a_1 : Int) (b_2 : Int) (l_3 : List TSpan) (r_4 : Bool) (l_5 : List TSpan) (h : M100 a_1 b_2 l_3 = some (r_4, l_5)) :
    MC prog 172 [.sl 0 2 0 (List.length l_3), (dI a_1), (dI b_2), .d (.fn 134 [])] [.arr 2 (List.map .d (List.map eTSpan l_3))] (fun rs Bs => rs = [(.b r_4)] ∧ Bs = [.arr 2 (List.map .d (List.map eTSpan l_5))]) := by
 refine MC.of_tr (cx := ⟨141, none, lay, 1⟩) layOK func172 rfl rfl rfl rfl rfl (by simp [f172]) ?_
 refine Tr.unW ?_
 unfold M100 at h
 refine sg ?_
 conv=>whnf
 refine sg ?_
 conv=>whnf
 refine arS_raw ?_
 conv=>whnf
 refine Tr.seq ?_
 refine sg ?_
 conv=>whnf
 refine Tr.cutQ (α := List TSpan) (fun s => ([(8, .d (.b false))], [some (.arr 2 (List.map .d (List.map eTSpan s)))])) (fun s => M99 s = some (r_4, l_5)) ?_ ?_
 ·refine Tr.block ?_
  refine Tr.loopM (σ := Int × Int × List TSpan) (fun n s => M98 a_1 b_2 M99 n s.1 s.2.1 s.2.2) (r_4, l_5) (fun s => ([(0, .sl 0 2 0 (List.length s.2.2)), (1, (dI a_1)), (2, (dI b_2)), (3, .d (.fn 134 [])), (8, .d (.b false)), (9, (dI s.1)), (10, (dI s.2.1))], [some (.arr 2 (List.map .d (List.map eTSpan s.2.2)))])) ((5 - 0 : Int).toNat + 1) ((w64 (a_1 + 1)), 0, l_3) h (fun s => rfl) (Wk.mk2 [0] 1 rfl rfl (by decide) rfl ⟨daS_d rfl, trivial⟩ ⟨rr, rr, rr, rr, rr, rr, rr, trivial⟩) ?_
  clear h
  rintro n_12 ⟨i_9, j_10, l_11⟩ h
  replace h : M98 a_1 b_2 M99 (n_12 + 1) i_9 j_10 l_11 = some (r_4, l_5) := h
  rw [M98] at h
  refine Tr.seq ?_
  refine sg ?_
  conv=>whnf
  refine Tr.cond ?_
  conv=>whnf
  refine cB h (fun hb16 h => ?_) (fun hb16 h => ?_)
  ·refine Tr.skip ?_
   conv=>whnf
   refine Tr.seq ?_
   refine Tr.cutQ (α := Int × List TSpan) (fun s => ([(0, .sl 0 2 0 (List.length s.2)), (1, (dI a_1)), (2, (dI b_2)), (3, .d (.fn 134 [])), (8, .d (.b false)), (9, (dI s.1)), (10, (dI j_10))], [some (.arr 2 (List.map .d (List.map eTSpan s.2)))])) (fun s => M93 j_10 (M98 a_1 b_2 M99 n_12) s.1 s.2 = some (r_4, l_5)) ?_ ?_
   ·refine Tr.block ?_
    refine Tr.seq ?_
    obtain ⟨i_22, hv31, h⟩ := bS h
    refine Tr.cutQ1 ([(0, .sl 0 2 0 (List.length l_11)), (1, (dI a_1)), (2, (dI b_2)), (3, .d (.fn 134 [])), (8, .d (.b false)), (9, (dI i_22)), (10, (dI j_10))]) ([some (.arr 2 (List.map .d (List.map eTSpan l_11)))]) ?_ (fun T1 H1 hw => ?_)
    ·replace h := hv31; clear hv31
     refine Tr.block ?_
     refine Tr.loopM (σ := Int) (fun n s => M94 b_2 l_11 n s) i_22 (fun s => ([(0, .sl 0 2 0 (List.length l_11)), (1, (dI a_1)), (2, (dI b_2)), (3, .d (.fn 134 [])), (8, .d (.b false)), (9, (dI s)), (10, (dI j_10))], [some (.arr 2 (List.map .d (List.map eTSpan l_11)))])) ((b_2 - i_9 : Int).toNat + 1) (i_9) h (fun s => rfl) (Wk.mk2 [0] 1 rfl rfl (by decide) rfl ⟨daS_d rfl, trivial⟩ ⟨rr, rr, rr, rr, rr, rr, rr, trivial⟩) ?_
     clear h
     rintro n_21 i_20 h
     replace h : M94 b_2 l_11 (n_21 + 1) i_20 = some i_22 := h
     rw [M94] at h
     refine Tr.seq ?_
     refine sd [] [(0,1),(1,1),(2,1),(3,1),(4,1),(5,1),(6,1),(7,3),(8,3),(9,1),(10,1),(11,1),(12,3),(13,3),(14,1),(15,1),(16,1),(17,1)] ?_
     conv=>whnf
     refine q1 ?_
     conv=>whnf
     refine q1 ?_
     conv=>whnf
     refine q1 ?_
     conv=>whnf
     refine q1 ?_
     conv=>whnf
     refine cB h (fun hb25 h => ?_) (fun hb25 h => ?_)
     ·conv=>whnf
      refine q1 ?_
      conv=>whnf
      refine q1 ?_
      conv=>whnf
      refine q1 ?_
      conv=>whnf
      obtain ⟨x_26, hx_26, h⟩ := bS h
      refine q3 (ixS_of hx_26 rfl rr) ?_
      conv=>whnf
      refine q3 (elP_of hx_26 rr) ?_
      conv=>whnf
      refine q1 ?_
      conv=>whnf
      refine q1 ?_
      conv=>whnf
      refine q4 ?_
      conv=>whnf
      obtain ⟨x_27, hx_27, h⟩ := bS h
      refine q3 (ixS_of hx_27 rfl rr) ?_
      conv=>whnf
      refine q3 (elP_of hx_27 rr) ?_
      conv=>whnf
      obtain ⟨r_28, hc29, h⟩ := bS h
      refine q1 ?_ (fun _ => pe (P77 x_26 x_27 r_28 hc29) rr)
      conv=>whnf
      refine q1 ?_
      conv=>whnf
      refine q1 ?_
      conv=>whnf
      refine q1 ?_
      conv=>whnf
      refine Tr.cond ?_
      conv=>whnf
      refine cB h (fun hb30 h => ?_) (fun hb30 h => ?_)
      ·refine Tr.skip ?_
       conv=>whnf
       refine Tr.block ?_
       refine rg ?_
       conv=>whnf
       refine arS_raw ?_
       conv=>whnf
       refine ⟨((w64 (i_20 + 1))), h, ?_⟩
       exact Wk.mk2 [0] 1 rfl rfl (by decide) rfl ⟨daS_d rfl, trivial⟩ ⟨rr, rr, rr, rr, rr, rr, rr, trivial⟩
      refine Tr.exit ?_
      conv=>whnf
      cases h
      exact Wk.mk2 [0] 1 rfl rfl (by decide) rfl ⟨daS_d rfl, trivial⟩ ⟨rr, rr, rr, rr, rr, rr, rr, trivial⟩
     conv=>whnf
     refine q1 ?_
     conv=>whnf
     refine Tr.cond ?_
     conv=>whnf
     refine Tr.exit ?_
     conv=>whnf
     cases h
     exact Wk.mk2 [0] 1 rfl rfl (by decide) rfl ⟨daS_d rfl, trivial⟩ ⟨rr, rr, rr, rr, rr, rr, rr, trivial⟩
    clear hv31
    conv=>whnf
    refine Tr.weak hw ?_
    refine Tr.seq ?_
    refine sg ?_
    conv=>whnf
    refine Tr.cond ?_
    conv=>whnf
    refine cB h (fun hb32 h => ?_) (fun hb32 h => ?_)
    ·refine sg ?_
     conv=>whnf
     refine Tr.ret ?_
     conv=>whnf
     refine endH ?_
     conv=>whnf
     cases h
     exact endB rfl rfl rfl ⟨⟨_, rfl⟩, trivial⟩
    refine Tr.skip ?_
    conv=>whnf
    refine Tr.seq ?_
    refine sg ?_
    conv=>whnf
    refine arS_raw ?_
    conv=>whnf
    refine Tr.cond ?_
    conv=>whnf
    refine cB h (fun hb33 h => ?_) (fun hb33 h => ?_)
    ·refine sg ?_
     conv=>whnf
     refine Tr.ret ?_
     conv=>whnf
     refine endH ?_
     conv=>whnf
     cases h
     exact endB rfl rfl rfl ⟨⟨_, rfl⟩, trivial⟩
    refine Tr.skip ?_
    conv=>whnf
    refine sd [(15,0),(17,0)] [(0,1),(1,1),(2,1),(3,1),(4,1),(5,1),(6,1),(7,1),(8,3),(9,3),(10,1),(11,1),(12,3),(13,3),(14,3),(15,0),(16,3),(17,0)] ?_
    conv=>whnf
    refine q1 ?_
    conv=>whnf
    refine q1 ?_
    conv=>whnf
    refine q1 ?_
    conv=>whnf
    refine q1 ?_
    conv=>whnf
    refine q4 ?_
    conv=>whnf
    refine q1 ?_
    conv=>whnf
    refine q1 ?_
    conv=>whnf
    refine q4 ?_
    conv=>whnf
    obtain ⟨x_34, hx_34, h⟩ := bS h
    refine q3 (ixS_of hx_34 rfl rr) ?_
    conv=>whnf
    refine q3 (elP_of hx_34 rr) ?_
    conv=>whnf
    refine q1 ?_
    conv=>whnf
    refine q1 ?_
    conv=>whnf
    obtain ⟨x_35, hx_35, h⟩ := bS h
    refine q3 (ixS_of hx_35 rfl rr) ?_
    conv=>whnf
    refine q3 (elP_of hx_35 rr) ?_
    conv=>whnf
    obtain ⟨x_36, hx_36, h⟩ := bS h
    refine q3 (ixS_of hx_36 rfl rr) ?_
    conv=>whnf
    refine ⟨_, _, (by (conv=>whnf); (refine elP_of hx_36 ?_); (conv=>whnf); (refine lvS_mk (es' := List.map .d (List.map eTSpan (List.set l_11 (Int.toNat i_22) x_34))) (by simp only [Nat.zero_add, List.map_set]; first | done | rfl) ?_); (conv=>whnf); (exact rr)), kp_ok (by repeat (first | exact trivial | refine ⟨trivial, ?_⟩ | refine ⟨rfl, ?_⟩)), ?_⟩
    conv=>whnf
    obtain ⟨x_37, hx_37, h⟩ := bS h
    refine q3 (ixS_of hx_37 (by first | rfl | simp) rr) ?_
    conv=>whnf
    refine ⟨_, _, (by (conv=>whnf); (refine elP_of hx_37 ?_); (conv=>whnf); (refine lvS_mk (es' := List.map .d (List.map eTSpan (List.set (List.set l_11 (Int.toNat i_22) x_34) (Int.toNat (w64 (i_22 - 1))) x_35))) (by simp only [Nat.zero_add, List.map_set]; first | done | rfl) ?_); (conv=>whnf); (exact rr)), kp_ok (by repeat (first | exact trivial | refine ⟨trivial, ?_⟩ | refine ⟨rfl, ?_⟩)), ?_⟩
    conv=>whnf
    refine Tr.seq ?_
    refine sg ?_
    conv=>whnf
    refine arS_raw ?_
    conv=>whnf
    refine Tr.cond ?_
    conv=>whnf
    refine cB h (fun hb38 h => ?_) (fun hb38 h => ?_)
    ·refine sg ?_
     conv=>whnf
     refine arS_raw ?_
     conv=>whnf
     obtain ⟨l_44, hv57, h⟩ := bS h
     refine Tr.cutQ1 ([(0, .sl 0 2 0 (List.length l_44)), (1, (dI a_1)), (2, (dI b_2)), (3, .d (.fn 134 [])), (8, .d (.b false)), (9, (dI i_22)), (10, (dI j_10))]) ([some (.arr 2 (List.map .d (List.map eTSpan l_44)))]) ?_ (fun T1 H1 hw => ?_)
     ·replace h := hv57; clear hv57
      refine Tr.block ?_
      refine Tr.loopM (σ := Int × List TSpan) (fun n s => M95 n s.1 s.2) l_44 (fun s => ([(0, .sl 0 2 0 (List.length s.2)), (1, (dI a_1)), (2, (dI b_2)), (3, .d (.fn 134 [])), (8, .d (.b false)), (9, (dI i_22)), (10, (dI j_10)), (11, (dI s.1))], [some (.arr 2 (List.map .d (List.map eTSpan s.2)))])) (((w64 (i_22 - 1)) + 1 - 1 : Int).toNat + 1) ((w64 (i_22 - 1)), (List.set (List.set l_11 (Int.toNat i_22) x_34) (Int.toNat (w64 (i_22 - 1))) x_35)) h (fun s => rfl) (Wk.mk2 [0] 1 rfl rfl (by decide) rfl ⟨daS_d rfl, trivial⟩ ⟨⟨rfl, (slEq (by first | rfl | simp))⟩, rr, rr, rr, rr, rr, rr, rr, trivial⟩) ?_
      clear h
      rintro n_43 ⟨j_41, l_42⟩ h
      replace h : M95 (n_43 + 1) j_41 l_42 = some l_44 := h
      rw [M95] at h
      refine Tr.seq ?_
      refine sg ?_
      conv=>whnf
      refine Tr.cond ?_
      conv=>whnf
      refine cB h (fun hb47 h => ?_) (fun hb47 h => ?_)
      ·refine Tr.skip ?_
       conv=>whnf
       refine Tr.seq ?_
       refine Tr.block ?_
       refine Tr.seq ?_
       refine sd [] [(0,1),(1,1),(2,1),(3,3),(4,3),(5,1),(6,1),(7,1),(8,3),(9,3),(10,1),(11,1),(12,1)] ?_
       conv=>whnf
       refine q1 ?_
       conv=>whnf
       refine q1 ?_
       conv=>whnf
       refine q1 ?_
       conv=>whnf
       obtain ⟨x_48, hx_48, h⟩ := bS h
       refine q3 (ixS_of hx_48 rfl rr) ?_
       conv=>whnf
       refine q3 (elP_of hx_48 rr) ?_
       conv=>whnf
       refine q1 ?_
       conv=>whnf
       refine q1 ?_
       conv=>whnf
       refine q4 ?_
       conv=>whnf
       obtain ⟨x_49, hx_49, h⟩ := bS h
       refine q3 (ixS_of hx_49 rfl rr) ?_
       conv=>whnf
       refine q3 (elP_of hx_49 rr) ?_
       conv=>whnf
       obtain ⟨r_50, hc51, h⟩ := bS h
       refine q1 ?_ (fun _ => pe (P77 x_48 x_49 r_50 hc51) rr)
       conv=>whnf
       refine q1 ?_
       conv=>whnf
       refine q1 ?_
       conv=>whnf
       refine Tr.cond ?_
       conv=>whnf
       refine cB h (fun hb52 h => ?_) (fun hb52 h => ?_)
       ·refine Tr.exit ?_
        conv=>whnf
        cases h
        exact Wk.mk2 [0] 1 rfl rfl (by decide) rfl ⟨daS_d rfl, trivial⟩ ⟨rr, rr, rr, rr, rr, rr, rr, trivial⟩
       refine Tr.skip ?_
       conv=>whnf
       refine dq [(15,0),(17,0)] [(0,1),(1,1),(2,1),(3,1),(4,1),(5,1),(6,1),(7,1),(8,3),(9,3),(10,1),(11,1),(12,3),(13,3),(14,3),(15,0),(16,3),(17,0)] ?_
       conv=>whnf
       refine q1 ?_
       conv=>whnf
       refine q1 ?_
       conv=>whnf
       refine q1 ?_
       conv=>whnf
       refine q1 ?_
       conv=>whnf
       refine q4 ?_
       conv=>whnf
       refine q1 ?_
       conv=>whnf
       refine q1 ?_
       conv=>whnf
       refine q4 ?_
       conv=>whnf
       obtain ⟨x_53, hx_53, h⟩ := bS h
       refine q3 (ixS_of hx_53 rfl rr) ?_
       conv=>whnf
       refine q3 (elP_of hx_53 rr) ?_
       conv=>whnf
       refine q1 ?_
       conv=>whnf
       refine q1 ?_
       conv=>whnf
       obtain ⟨x_54, hx_54, h⟩ := bS h
       refine q3 (ixS_of hx_54 rfl rr) ?_
       conv=>whnf
       refine q3 (elP_of hx_54 rr) ?_
       conv=>whnf
       obtain ⟨x_55, hx_55, h⟩ := bS h
       refine q3 (ixS_of hx_55 rfl rr) ?_
       conv=>whnf
       refine ⟨_, _, (by (conv=>whnf); (refine elP_of hx_55 ?_); (conv=>whnf); (refine lvS_mk (es' := List.map .d (List.map eTSpan (List.set l_42 (Int.toNat j_41) x_53))) (by simp only [Nat.zero_add, List.map_set]; first | done | rfl) ?_); (conv=>whnf); (exact rr)), kp_ok (by repeat (first | exact trivial | refine ⟨trivial, ?_⟩ | refine ⟨rfl, ?_⟩)), ?_⟩
       conv=>whnf
       obtain ⟨x_56, hx_56, h⟩ := bS h
       refine q3 (ixS_of hx_56 (by first | rfl | simp) rr) ?_
       conv=>whnf
       refine ⟨_, _, (by (conv=>whnf); (refine elP_of hx_56 ?_); (conv=>whnf); (refine lvS_mk (es' := List.map .d (List.map eTSpan (List.set (List.set l_42 (Int.toNat j_41) x_53) (Int.toNat (w64 (j_41 - 1))) x_54))) (by simp only [Nat.zero_add, List.map_set]; first | done | rfl) ?_); (conv=>whnf); (exact rr)), kp_ok (by repeat (first | exact trivial | refine ⟨trivial, ?_⟩ | refine ⟨rfl, ?_⟩)), ?_⟩
       conv=>whnf
       refine rg ?_
       conv=>whnf
       refine arS_raw ?_
       conv=>whnf
       refine ⟨((w64 (j_41 - 1)), (List.set (List.set l_42 (Int.toNat j_41) x_53) (Int.toNat (w64 (j_41 - 1))) x_54)), h, ?_⟩
       exact Wk.mk2 [0] 1 rfl rfl (by decide) rfl ⟨daS_d rfl, trivial⟩ ⟨⟨rfl, (slEq (by first | rfl | simp))⟩, rr, rr, rr, rr, rr, rr, rr, trivial⟩
      refine Tr.exit ?_
      conv=>whnf
      cases h
      exact Wk.mk2 [0] 1 rfl rfl (by decide) rfl ⟨daS_d rfl, trivial⟩ ⟨rr, rr, rr, rr, rr, rr, rr, trivial⟩
     clear hv57
     conv=>whnf
     refine Tr.weak hw ?_
     refine sg ?_
     conv=>whnf
     refine arS_raw ?_
     conv=>whnf
     refine Tr.cond ?_
     conv=>whnf
     refine cB h (fun hb58 h => ?_) (fun hb58 h => ?_)
     ·refine sg ?_
      conv=>whnf
      refine arS_raw ?_
      conv=>whnf
      obtain ⟨l_64, hv77, h⟩ := bS h
      refine Tr.cutQ1 ([(0, .sl 0 2 0 (List.length l_64)), (1, (dI a_1)), (2, (dI b_2)), (3, .d (.fn 134 [])), (8, .d (.b false)), (9, (dI i_22)), (10, (dI j_10))]) ([some (.arr 2 (List.map .d (List.map eTSpan l_64)))]) ?_ (fun T1 H1 hw => ?_)
      ·replace h := hv77; clear hv77
       refine Tr.block ?_
       refine Tr.loopM (σ := Int × List TSpan) (fun n s => M96 b_2 n s.1 s.2) l_64 (fun s => ([(0, .sl 0 2 0 (List.length s.2)), (1, (dI a_1)), (2, (dI b_2)), (3, .d (.fn 134 [])), (8, .d (.b false)), (9, (dI i_22)), (10, (dI j_10)), (12, (dI s.1))], [some (.arr 2 (List.map .d (List.map eTSpan s.2)))])) ((b_2 - (w64 (i_22 + 1)) : Int).toNat + 1) ((w64 (i_22 + 1)), l_44) h (fun s => rfl) (Wk.mk2 [0] 1 rfl rfl (by decide) rfl ⟨daS_d rfl, trivial⟩ ⟨rr, rr, rr, rr, rr, rr, rr, rr, trivial⟩) ?_
       clear h
       rintro n_63 ⟨j_61, l_62⟩ h
       replace h : M96 b_2 (n_63 + 1) j_61 l_62 = some l_64 := h
       rw [M96] at h
       refine Tr.seq ?_
       refine sg ?_
       conv=>whnf
       refine Tr.cond ?_
       conv=>whnf
       refine cB h (fun hb67 h => ?_) (fun hb67 h => ?_)
       ·refine Tr.skip ?_
        conv=>whnf
        refine Tr.seq ?_
        refine Tr.block ?_
        refine Tr.seq ?_
        refine sd [] [(0,1),(1,1),(2,1),(3,3),(4,3),(5,1),(6,1),(7,1),(8,3),(9,3),(10,1),(11,1),(12,1)] ?_
        conv=>whnf
        refine q1 ?_
        conv=>whnf
        refine q1 ?_
        conv=>whnf
        refine q1 ?_
        conv=>whnf
        obtain ⟨x_68, hx_68, h⟩ := bS h
        refine q3 (ixS_of hx_68 rfl rr) ?_
        conv=>whnf
        refine q3 (elP_of hx_68 rr) ?_
        conv=>whnf
        refine q1 ?_
        conv=>whnf
        refine q1 ?_
        conv=>whnf
        refine q4 ?_
        conv=>whnf
        obtain ⟨x_69, hx_69, h⟩ := bS h
        refine q3 (ixS_of hx_69 rfl rr) ?_
        conv=>whnf
        refine q3 (elP_of hx_69 rr) ?_
        conv=>whnf
        obtain ⟨r_70, hc71, h⟩ := bS h
        refine q1 ?_ (fun _ => pe (P77 x_68 x_69 r_70 hc71) rr)
        conv=>whnf
        refine q1 ?_
        conv=>whnf
        refine q1 ?_
        conv=>whnf
        refine Tr.cond ?_
        conv=>whnf
        refine cB h (fun hb72 h => ?_) (fun hb72 h => ?_)
        ·refine Tr.exit ?_
         conv=>whnf
         cases h
         exact Wk.mk2 [0] 1 rfl rfl (by decide) rfl ⟨daS_d rfl, trivial⟩ ⟨rr, rr, rr, rr, rr, rr, rr, trivial⟩
        refine Tr.skip ?_
        conv=>whnf
        refine dq [(15,0),(17,0)] [(0,1),(1,1),(2,1),(3,1),(4,1),(5,1),(6,1),(7,1),(8,3),(9,3),(10,1),(11,1),(12,3),(13,3),(14,3),(15,0),(16,3),(17,0)] ?_
        conv=>whnf
        refine q1 ?_
        conv=>whnf
        refine q1 ?_
        conv=>whnf
        refine q1 ?_
        conv=>whnf
        refine q1 ?_
        conv=>whnf
        refine q4 ?_
        conv=>whnf
        refine q1 ?_
        conv=>whnf
        refine q1 ?_
        conv=>whnf
        refine q4 ?_
        conv=>whnf
        obtain ⟨x_73, hx_73, h⟩ := bS h
        refine q3 (ixS_of hx_73 rfl rr) ?_
        conv=>whnf
        refine q3 (elP_of hx_73 rr) ?_
        conv=>whnf
        refine q1 ?_
        conv=>whnf
        refine q1 ?_
        conv=>whnf
        obtain ⟨x_74, hx_74, h⟩ := bS h
        refine q3 (ixS_of hx_74 rfl rr) ?_
        conv=>whnf
        refine q3 (elP_of hx_74 rr) ?_
        conv=>whnf
        obtain ⟨x_75, hx_75, h⟩ := bS h
        refine q3 (ixS_of hx_75 rfl rr) ?_
        conv=>whnf
        refine ⟨_, _, (by (conv=>whnf); (refine elP_of hx_75 ?_); (conv=>whnf); (refine lvS_mk (es' := List.map .d (List.map eTSpan (List.set l_62 (Int.toNat j_61) x_73))) (by simp only [Nat.zero_add, List.map_set]; first | done | rfl) ?_); (conv=>whnf); (exact rr)), kp_ok (by repeat (first | exact trivial | refine ⟨trivial, ?_⟩ | refine ⟨rfl, ?_⟩)), ?_⟩
        conv=>whnf
        obtain ⟨x_76, hx_76, h⟩ := bS h
        refine q3 (ixS_of hx_76 (by first | rfl | simp) rr) ?_
        conv=>whnf
        refine ⟨_, _, (by (conv=>whnf); (refine elP_of hx_76 ?_); (conv=>whnf); (refine lvS_mk (es' := List.map .d (List.map eTSpan (List.set (List.set l_62 (Int.toNat j_61) x_73) (Int.toNat (w64 (j_61 - 1))) x_74))) (by simp only [Nat.zero_add, List.map_set]; first | done | rfl) ?_); (conv=>whnf); (exact rr)), kp_ok (by repeat (first | exact trivial | refine ⟨trivial, ?_⟩ | refine ⟨rfl, ?_⟩)), ?_⟩
        conv=>whnf
        refine rg ?_
        conv=>whnf
        refine arS_raw ?_
        conv=>whnf
        refine ⟨((w64 (j_61 + 1)), (List.set (List.set l_62 (Int.toNat j_61) x_73) (Int.toNat (w64 (j_61 - 1))) x_74)), h, ?_⟩
        exact Wk.mk2 [0] 1 rfl rfl (by decide) rfl ⟨daS_d rfl, trivial⟩ ⟨⟨rfl, (slEq (by first | rfl | simp))⟩, rr, rr, rr, rr, rr, rr, rr, trivial⟩
       refine Tr.exit ?_
       conv=>whnf
       cases h
       exact Wk.mk2 [0] 1 rfl rfl (by decide) rfl ⟨daS_d rfl, trivial⟩ ⟨rr, rr, rr, rr, rr, rr, rr, trivial⟩
      clear hv77
      conv=>whnf
      refine ⟨(i_22, l_64), h, ?_⟩
      refine Wk.trans (F := 1) hw ?_
      exact Wk.mk2 [0] 1 rfl rfl (by decide) rfl ⟨daS_d rfl, trivial⟩ ⟨rr, rr, rr, rr, rr, rr, rr, trivial⟩
     refine Tr.skip ?_
     conv=>whnf
     refine ⟨(i_22, l_44), h, ?_⟩
     exact Wk.mk2 [0] 1 rfl rfl (by decide) rfl ⟨daS_d rfl, trivial⟩ ⟨rr, rr, rr, rr, rr, rr, rr, trivial⟩
    refine Tr.skip ?_
    conv=>whnf
    refine sg ?_
    conv=>whnf
    refine arS_raw ?_
    conv=>whnf
    refine Tr.cond ?_
    conv=>whnf
    refine cB h (fun hb78 h => ?_) (fun hb78 h => ?_)
    ·refine sg ?_
     conv=>whnf
     refine arS_raw ?_
     conv=>whnf
     obtain ⟨l_84, hv97, h⟩ := bS h
     refine Tr.cutQ1 ([(0, .sl 0 2 0 (List.length l_84)), (1, (dI a_1)), (2, (dI b_2)), (3, .d (.fn 134 [])), (8, .d (.b false)), (9, (dI i_22)), (10, (dI j_10))]) ([some (.arr 2 (List.map .d (List.map eTSpan l_84)))]) ?_ (fun T1 H1 hw => ?_)
     ·replace h := hv97; clear hv97
      refine Tr.block ?_
      refine Tr.loopM (σ := Int × List TSpan) (fun n s => M97 b_2 n s.1 s.2) l_84 (fun s => ([(0, .sl 0 2 0 (List.length s.2)), (1, (dI a_1)), (2, (dI b_2)), (3, .d (.fn 134 [])), (8, .d (.b false)), (9, (dI i_22)), (10, (dI j_10)), (12, (dI s.1))], [some (.arr 2 (List.map .d (List.map eTSpan s.2)))])) ((b_2 - (w64 (i_22 + 1)) : Int).toNat + 1) ((w64 (i_22 + 1)), (List.set (List.set l_11 (Int.toNat i_22) x_34) (Int.toNat (w64 (i_22 - 1))) x_35)) h (fun s => rfl) (Wk.mk2 [0] 1 rfl rfl (by decide) rfl ⟨daS_d rfl, trivial⟩ ⟨⟨rfl, (slEq (by first | rfl | simp))⟩, rr, rr, rr, rr, rr, rr, rr, trivial⟩) ?_
      clear h
      rintro n_83 ⟨j_81, l_82⟩ h
      replace h : M97 b_2 (n_83 + 1) j_81 l_82 = some l_84 := h
      rw [M97] at h
      refine Tr.seq ?_
      refine sg ?_
      conv=>whnf
      refine Tr.cond ?_
      conv=>whnf
      refine cB h (fun hb87 h => ?_) (fun hb87 h => ?_)
      ·refine Tr.skip ?_
       conv=>whnf
       refine Tr.seq ?_
       refine Tr.block ?_
       refine Tr.seq ?_
       refine sd [] [(0,1),(1,1),(2,1),(3,3),(4,3),(5,1),(6,1),(7,1),(8,3),(9,3),(10,1),(11,1),(12,1)] ?_
       conv=>whnf
       refine q1 ?_
       conv=>whnf
       refine q1 ?_
       conv=>whnf
       refine q1 ?_
       conv=>whnf
       obtain ⟨x_88, hx_88, h⟩ := bS h
       refine q3 (ixS_of hx_88 rfl rr) ?_
       conv=>whnf
       refine q3 (elP_of hx_88 rr) ?_
       conv=>whnf
       refine q1 ?_
       conv=>whnf
       refine q1 ?_
       conv=>whnf
       refine q4 ?_
       conv=>whnf
       obtain ⟨x_89, hx_89, h⟩ := bS h
       refine q3 (ixS_of hx_89 rfl rr) ?_
       conv=>whnf
       refine q3 (elP_of hx_89 rr) ?_
       conv=>whnf
       obtain ⟨r_90, hc91, h⟩ := bS h
       refine q1 ?_ (fun _ => pe (P77 x_88 x_89 r_90 hc91) rr)
       conv=>whnf
       refine q1 ?_
       conv=>whnf
       refine q1 ?_
       conv=>whnf
       refine Tr.cond ?_
       conv=>whnf
       refine cB h (fun hb92 h => ?_) (fun hb92 h => ?_)
       ·refine Tr.exit ?_
        conv=>whnf
        cases h
        exact Wk.mk2 [0] 1 rfl rfl (by decide) rfl ⟨daS_d rfl, trivial⟩ ⟨rr, rr, rr, rr, rr, rr, rr, trivial⟩
       refine Tr.skip ?_
       conv=>whnf
       refine dq [(15,0),(17,0)] [(0,1),(1,1),(2,1),(3,1),(4,1),(5,1),(6,1),(7,1),(8,3),(9,3),(10,1),(11,1),(12,3),(13,3),(14,3),(15,0),(16,3),(17,0)] ?_
       conv=>whnf
       refine q1 ?_
       conv=>whnf
       refine q1 ?_
       conv=>whnf
       refine q1 ?_
       conv=>whnf
       refine q1 ?_
       conv=>whnf
       refine q4 ?_
       conv=>whnf
       refine q1 ?_
       conv=>whnf
       refine q1 ?_
       conv=>whnf
       refine q4 ?_
       conv=>whnf
       obtain ⟨x_93, hx_93, h⟩ := bS h
       refine q3 (ixS_of hx_93 rfl rr) ?_
       conv=>whnf
       refine q3 (elP_of hx_93 rr) ?_
       conv=>whnf
       refine q1 ?_
       conv=>whnf
       refine q1 ?_
       conv=>whnf
       obtain ⟨x_94, hx_94, h⟩ := bS h
       refine q3 (ixS_of hx_94 rfl rr) ?_
       conv=>whnf
       refine q3 (elP_of hx_94 rr) ?_
       conv=>whnf
       obtain ⟨x_95, hx_95, h⟩ := bS h
       refine q3 (ixS_of hx_95 rfl rr) ?_
       conv=>whnf
       refine ⟨_, _, (by (conv=>whnf); (refine elP_of hx_95 ?_); (conv=>whnf); (refine lvS_mk (es' := List.map .d (List.map eTSpan (List.set l_82 (Int.toNat j_81) x_93))) (by simp only [Nat.zero_add, List.map_set]; first | done | rfl) ?_); (conv=>whnf); (exact rr)), kp_ok (by repeat (first | exact trivial | refine ⟨trivial, ?_⟩ | refine ⟨rfl, ?_⟩)), ?_⟩
       conv=>whnf
       obtain ⟨x_96, hx_96, h⟩ := bS h
       refine q3 (ixS_of hx_96 (by first | rfl | simp) rr) ?_
       conv=>whnf
       refine ⟨_, _, (by (conv=>whnf); (refine elP_of hx_96 ?_); (conv=>whnf); (refine lvS_mk (es' := List.map .d (List.map eTSpan (List.set (List.set l_82 (Int.toNat j_81) x_93) (Int.toNat (w64 (j_81 - 1))) x_94))) (by simp only [Nat.zero_add, List.map_set]; first | done | rfl) ?_); (conv=>whnf); (exact rr)), kp_ok (by repeat (first | exact trivial | refine ⟨trivial, ?_⟩ | refine ⟨rfl, ?_⟩)), ?_⟩
       conv=>whnf
       refine rg ?_
       conv=>whnf
       refine arS_raw ?_
       conv=>whnf
       refine ⟨((w64 (j_81 + 1)), (List.set (List.set l_82 (Int.toNat j_81) x_93) (Int.toNat (w64 (j_81 - 1))) x_94)), h, ?_⟩
       exact Wk.mk2 [0] 1 rfl rfl (by decide) rfl ⟨daS_d rfl, trivial⟩ ⟨⟨rfl, (slEq (by first | rfl | simp))⟩, rr, rr, rr, rr, rr, rr, rr, trivial⟩
      refine Tr.exit ?_
      conv=>whnf
      cases h
      exact Wk.mk2 [0] 1 rfl rfl (by decide) rfl ⟨daS_d rfl, trivial⟩ ⟨rr, rr, rr, rr, rr, rr, rr, trivial⟩
     clear hv97
     conv=>whnf
     refine ⟨(i_22, l_84), h, ?_⟩
     refine Wk.trans (F := 1) hw ?_
     exact Wk.mk2 [0] 1 rfl rfl (by decide) rfl ⟨daS_d rfl, trivial⟩ ⟨rr, rr, rr, rr, rr, rr, rr, trivial⟩
    refine Tr.skip ?_
    conv=>whnf
    refine ⟨(i_22, (List.set (List.set l_11 (Int.toNat i_22) x_34) (Int.toNat (w64 (i_22 - 1))) x_35)), h, ?_⟩
    exact Wk.mk2 [0] 1 rfl rfl (by decide) rfl ⟨daS_d rfl, trivial⟩ ⟨⟨rfl, (slEq (by first | rfl | simp))⟩, rr, rr, rr, rr, rr, rr, trivial⟩
   clear h
   rintro ⟨i_17, l_18⟩ h T1 H1 hw
   replace h : M93 j_10 (M98 a_1 b_2 M99 n_12) i_17 l_18 = some (r_4, l_5) := h
   conv=>whnf
   refine Tr.weak hw ?_
   unfold M93 at h
   refine rg ?_
   conv=>whnf
   refine arS_raw ?_
   conv=>whnf
   refine ⟨(i_17, (w64 (j_10 + 1)), l_18), h, ?_⟩
   exact Wk.mk2 [0] 1 rfl rfl (by decide) rfl ⟨daS_d rfl, trivial⟩ ⟨rr, rr, rr, rr, rr, rr, rr, trivial⟩
  refine Tr.exit ?_
  conv=>whnf
  refine ⟨(l_11), h, ?_⟩
  exact Wk.mk2 [0] 1 rfl rfl (by decide) rfl ⟨daS_d rfl, trivial⟩ ⟨rr, trivial⟩
 clear h
 rintro l_13 h T1 H1 hw
 replace h : M99 l_13 = some (r_4, l_5) := h
 conv=>whnf
 refine Tr.weak hw ?_
 unfold M99 at h
 refine sg ?_
 conv=>whnf
 refine Tr.ret ?_
 conv=>whnf
 refine endH ?_
 conv=>whnf
 cases h
 exact endB rfl rfl rfl ⟨⟨_, rfl⟩, trivial⟩
end Go.Proofs.Tryz
