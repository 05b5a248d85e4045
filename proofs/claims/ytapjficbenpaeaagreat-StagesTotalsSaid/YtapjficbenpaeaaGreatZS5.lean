/- Contracts of functions, by program (gen.py). No condition. -/
import Derived.Test.YtapjficbenpaeaaGreatZL
import Derived.Test.YtapjficbenpaeaaGreatZM
import Derived.Test.YtapjficbenpaeaaGreatZCB
import Derived.Test.YtapjficbenpaeaaGreatZS4
namespace Go.Proofs.Tryz
open Go Go.Abs Go.Stop
set_option maxRecDepth 8000
set_option linter.unusedVariables false
set_option linter.unusedSimpArgs false
theorem P104 (a_1 : Int) (b_2 : Int) (pivot_3 : Int) (l_4 : List TSpan) (r_5 : Int) (l_6 : List TSpan) (h : M104 a_1 b_2 pivot_3 l_4 = some (r_5, l_6)) :
    MC prog 173 [.sl 0 2 0 (List.length l_4), (dI a_1), (dI b_2), (dI pivot_3), .d (.fn 134 [])] [.arr 2 (List.map .d (List.map eTSpan l_4))] (fun rs Bs => rs = [(.i .i64 r_5)] ∧ Bs = [.arr 2 (List.map .d (List.map eTSpan l_6))]) := by
 refine MC.of_tr (cx := ⟨90, none, lay, 1⟩) layOK func173 rfl rfl rfl rfl rfl (by simp [f173]) ?_
 refine Tr.unW ?_
 unfold M104 at h
 refine sg ?_
 conv=>whnf
 refine sd [(13,0),(15,0)] [(0,1),(1,1),(2,1),(3,1),(4,1),(5,1),(6,3),(7,3),(8,1),(9,1),(10,3),(11,3),(12,3),(13,0),(14,3),(15,0)] ?_
 conv=>whnf
 refine q1 ?_
 conv=>whnf
 refine q1 ?_
 conv=>whnf
 refine q1 ?_
 conv=>whnf
 refine q1 ?_
 conv=>whnf
 refine q1 ?_
 conv=>whnf
 refine q1 ?_
 conv=>whnf
 obtain ⟨x_7, hx_7, h⟩ := bS h
 refine q3 (ixS_of hx_7 rfl rr) ?_
 conv=>whnf
 refine q3 (elP_of hx_7 rr) ?_
 conv=>whnf
 refine q1 ?_
 conv=>whnf
 refine q1 ?_
 conv=>whnf
 obtain ⟨x_8, hx_8, h⟩ := bS h
 refine q3 (ixS_of hx_8 rfl rr) ?_
 conv=>whnf
 refine q3 (elP_of hx_8 rr) ?_
 conv=>whnf
 obtain ⟨x_9, hx_9, h⟩ := bS h
 refine q3 (ixS_of hx_9 rfl rr) ?_
 conv=>whnf
 refine ⟨_, _, (by (conv=>whnf); (refine elP_of hx_9 ?_); (conv=>whnf); (refine lvS_mk (es' := List.map .d (List.map eTSpan (List.set l_4 (Int.toNat a_1) x_7))) (by simp only [Nat.zero_add, List.map_set]; first | done | rfl) ?_); (conv=>whnf); (exact rr)), kp_ok (by repeat (first | exact trivial | refine ⟨trivial, ?_⟩ | refine ⟨rfl, ?_⟩)), ?_⟩
 conv=>whnf
 obtain ⟨x_10, hx_10, h⟩ := bS h
 refine q3 (ixS_of hx_10 (by first | rfl | simp) rr) ?_
 conv=>whnf
 refine ⟨_, _, (by (conv=>whnf); (refine elP_of hx_10 ?_); (conv=>whnf); (refine lvS_mk (es' := List.map .d (List.map eTSpan (List.set (List.set l_4 (Int.toNat a_1) x_7) (Int.toNat pivot_3) x_8))) (by simp only [Nat.zero_add, List.map_set]; first | done | rfl) ?_); (conv=>whnf); (exact rr)), kp_ok (by repeat (first | exact trivial | refine ⟨trivial, ?_⟩ | refine ⟨rfl, ?_⟩)), ?_⟩
 conv=>whnf
 refine sg ?_
 conv=>whnf
 refine arS_raw ?_
 conv=>whnf
 refine arS_raw ?_
 conv=>whnf
 refine Tr.seq ?_
 obtain ⟨⟨i_18, l_19⟩, hv53, h⟩ := bS h
 refine Tr.cutQ1 ([(10, (dI 0)), (11, (dI i_18))]) ([some (.arr 2 (List.map .d (List.map eTSpan l_19)))]) ?_ (fun T1 H1 hw => ?_)
 ·replace h := hv53; clear hv53
  refine Tr.block ?_
  refine Tr.loopM (σ := Int × Int × List TSpan) (fun n s => M103 a_1 n s.1 s.2.1 s.2.2) (i_18, l_19) (fun s => ([(0, .sl 0 2 0 (List.length s.2.2)), (1, (dI a_1)), (4, .d (.fn 134 [])), (10, (dI 0)), (11, (dI s.1)), (12, (dI s.2.1))], [some (.arr 2 (List.map .d (List.map eTSpan s.2.2)))])) (List.length ((List.set (List.set l_4 (Int.toNat a_1) x_7) (Int.toNat pivot_3) x_8)) + 1) ((w64 (a_1 + 1)), (w64 (b_2 - 1)), (List.set (List.set l_4 (Int.toNat a_1) x_7) (Int.toNat pivot_3) x_8)) h (fun s => rfl) (Wk.mk2 [0] 1 rfl rfl (by decide) rfl ⟨daS_d rfl, trivial⟩ ⟨⟨rfl, (slEq (by first | rfl | simp))⟩, rr, rr, rr, rr, rr, trivial⟩) ?_
  clear h
  rintro n_17 ⟨i_14, j_15, l_16⟩ h
  replace h : M103 a_1 (n_17 + 1) i_14 j_15 l_16 = some (i_18, l_19) := h
  rw [M103] at h
  refine Tr.block ?_
  refine Tr.seq ?_
  obtain ⟨i_25, hv34, h⟩ := bS h
  refine Tr.cutQ1 ([(0, .sl 0 2 0 (List.length l_16)), (1, (dI a_1)), (4, .d (.fn 134 [])), (10, (dI 0)), (11, (dI i_25)), (12, (dI j_15))]) ([some (.arr 2 (List.map .d (List.map eTSpan l_16)))]) ?_ (fun T1 H1 hw => ?_)
  ·replace h := hv34; clear hv34
   refine Tr.block ?_
   refine Tr.loopM (σ := Int) (fun n s => M101 a_1 j_15 l_16 n s) i_25 (fun s => ([(0, .sl 0 2 0 (List.length l_16)), (1, (dI a_1)), (4, .d (.fn 134 [])), (10, (dI 0)), (11, (dI s)), (12, (dI j_15))], [some (.arr 2 (List.map .d (List.map eTSpan l_16)))])) ((j_15 + 1 - i_14 : Int).toNat + 1) (i_14) h (fun s => rfl) (Wk.mk2 [0] 1 rfl rfl (by decide) rfl ⟨daS_d rfl, trivial⟩ ⟨rr, rr, rr, rr, rr, rr, trivial⟩) ?_
   clear h
   rintro n_24 i_23 h
   replace h : M101 a_1 j_15 l_16 (n_24 + 1) i_23 = some i_25 := h
   rw [M101] at h
   refine Tr.seq ?_
   refine sd [] [(0,1),(1,1),(2,1),(3,1),(4,1),(5,1),(6,1),(7,3),(8,3),(9,1),(10,1),(11,3),(12,3),(13,1),(14,1),(15,1),(16,1)] ?_
   conv=>whnf
   refine q1 ?_
   conv=>whnf
   refine q1 ?_
   conv=>whnf
   refine q1 ?_
   conv=>whnf
   refine q1 ?_
   conv=>whnf
   refine cB h (fun hb28 h => ?_) (fun hb28 h => ?_)
   ·conv=>whnf
    refine q1 ?_
    conv=>whnf
    refine q1 ?_
    conv=>whnf
    refine q1 ?_
    conv=>whnf
    obtain ⟨x_29, hx_29, h⟩ := bS h
    refine q3 (ixS_of hx_29 rfl rr) ?_
    conv=>whnf
    refine q3 (elP_of hx_29 rr) ?_
    conv=>whnf
    refine q1 ?_
    conv=>whnf
    refine q1 ?_
    conv=>whnf
    obtain ⟨x_30, hx_30, h⟩ := bS h
    refine q3 (ixS_of hx_30 rfl rr) ?_
    conv=>whnf
    refine q3 (elP_of hx_30 rr) ?_
    conv=>whnf
    obtain ⟨r_31, hc32, h⟩ := bS h
    refine q1 ?_ (fun _ => pe (P77 x_29 x_30 r_31 hc32) rr)
    conv=>whnf
    refine q1 ?_
    conv=>whnf
    refine q1 ?_
    conv=>whnf
    refine q1 ?_
    conv=>whnf
    refine Tr.cond ?_
    conv=>whnf
    refine cB h (fun hb33 h => ?_) (fun hb33 h => ?_)
    ·refine Tr.skip ?_
     conv=>whnf
     refine Tr.block ?_
     refine rg ?_
     conv=>whnf
     refine arS_raw ?_
     conv=>whnf
     refine ⟨((w64 (i_23 + 1))), h, ?_⟩
     exact Wk.mk2 [0] 1 rfl rfl (by decide) rfl ⟨daS_d rfl, trivial⟩ ⟨rr, rr, rr, rr, rr, rr, trivial⟩
    refine Tr.exit ?_
    conv=>whnf
    cases h
    exact Wk.mk2 [0] 1 rfl rfl (by decide) rfl ⟨daS_d rfl, trivial⟩ ⟨rr, rr, rr, rr, rr, rr, trivial⟩
   conv=>whnf
   refine q1 ?_
   conv=>whnf
   refine Tr.cond ?_
   conv=>whnf
   refine Tr.exit ?_
   conv=>whnf
   cases h
   exact Wk.mk2 [0] 1 rfl rfl (by decide) rfl ⟨daS_d rfl, trivial⟩ ⟨rr, rr, rr, rr, rr, rr, trivial⟩
  clear hv34
  conv=>whnf
  refine Tr.weak hw ?_
  refine Tr.seq ?_
  obtain ⟨j_38, hv47, h⟩ := bS h
  refine Tr.cutQ1 ([(0, .sl 0 2 0 (List.length l_16)), (1, (dI a_1)), (4, .d (.fn 134 [])), (10, (dI 0)), (11, (dI i_25)), (12, (dI j_38))]) ([some (.arr 2 (List.map .d (List.map eTSpan l_16)))]) ?_ (fun T1 H1 hw => ?_)
  ·replace h := hv47; clear hv47
   refine Tr.block ?_
   refine Tr.loopM (σ := Int) (fun n s => M102 a_1 l_16 i_25 n s) j_38 (fun s => ([(0, .sl 0 2 0 (List.length l_16)), (1, (dI a_1)), (4, .d (.fn 134 [])), (10, (dI 0)), (11, (dI i_25)), (12, (dI s))], [some (.arr 2 (List.map .d (List.map eTSpan l_16)))])) ((j_15 + 1 - i_25 : Int).toNat + 1) (j_15) h (fun s => rfl) (Wk.mk2 [0] 1 rfl rfl (by decide) rfl ⟨daS_d rfl, trivial⟩ ⟨rr, rr, rr, rr, rr, rr, trivial⟩) ?_
   clear h
   rintro n_37 j_36 h
   replace h : M102 a_1 l_16 i_25 (n_37 + 1) j_36 = some j_38 := h
   rw [M102] at h
   refine Tr.seq ?_
   refine sd [] [(0,1),(1,1),(2,1),(3,1),(4,1),(5,1),(6,1),(7,3),(8,3),(9,1),(10,1),(11,3),(12,3),(13,1),(14,1),(15,1)] ?_
   conv=>whnf
   refine q1 ?_
   conv=>whnf
   refine q1 ?_
   conv=>whnf
   refine q1 ?_
   conv=>whnf
   refine q1 ?_
   conv=>whnf
   refine cB h (fun hb41 h => ?_) (fun hb41 h => ?_)
   ·conv=>whnf
    refine q1 ?_
    conv=>whnf
    refine q1 ?_
    conv=>whnf
    refine q1 ?_
    conv=>whnf
    obtain ⟨x_42, hx_42, h⟩ := bS h
    refine q3 (ixS_of hx_42 rfl rr) ?_
    conv=>whnf
    refine q3 (elP_of hx_42 rr) ?_
    conv=>whnf
    refine q1 ?_
    conv=>whnf
    refine q1 ?_
    conv=>whnf
    obtain ⟨x_43, hx_43, h⟩ := bS h
    refine q3 (ixS_of hx_43 rfl rr) ?_
    conv=>whnf
    refine q3 (elP_of hx_43 rr) ?_
    conv=>whnf
    obtain ⟨r_44, hc45, h⟩ := bS h
    refine q1 ?_ (fun _ => pe (P77 x_42 x_43 r_44 hc45) rr)
    conv=>whnf
    refine q1 ?_
    conv=>whnf
    refine q1 ?_
    conv=>whnf
    refine Tr.cond ?_
    conv=>whnf
    refine cB h (fun hb46 h => ?_) (fun hb46 h => ?_)
    ·refine Tr.skip ?_
     conv=>whnf
     refine Tr.block ?_
     refine rg ?_
     conv=>whnf
     refine arS_raw ?_
     conv=>whnf
     refine ⟨((w64 (j_36 - 1))), h, ?_⟩
     exact Wk.mk2 [0] 1 rfl rfl (by decide) rfl ⟨daS_d rfl, trivial⟩ ⟨rr, rr, rr, rr, rr, rr, trivial⟩
    refine Tr.exit ?_
    conv=>whnf
    cases h
    exact Wk.mk2 [0] 1 rfl rfl (by decide) rfl ⟨daS_d rfl, trivial⟩ ⟨rr, rr, rr, rr, rr, rr, trivial⟩
   conv=>whnf
   refine q1 ?_
   conv=>whnf
   refine Tr.cond ?_
   conv=>whnf
   refine Tr.exit ?_
   conv=>whnf
   cases h
   exact Wk.mk2 [0] 1 rfl rfl (by decide) rfl ⟨daS_d rfl, trivial⟩ ⟨rr, rr, rr, rr, rr, rr, trivial⟩
  clear hv47
  conv=>whnf
  refine Tr.weak hw ?_
  refine Tr.seq ?_
  refine sg ?_
  conv=>whnf
  refine Tr.cond ?_
  conv=>whnf
  refine cB h (fun hb48 h => ?_) (fun hb48 h => ?_)
  ·refine Tr.exit ?_
   conv=>whnf
   cases h
   exact Wk.mk2 [0] 1 rfl rfl (by decide) rfl ⟨daS_d rfl, trivial⟩ ⟨rr, rr, trivial⟩
  refine Tr.skip ?_
  conv=>whnf
  refine sd [(13,0),(15,0)] [(0,1),(1,1),(2,1),(3,1),(4,1),(5,1),(6,3),(7,3),(8,1),(9,1),(10,3),(11,3),(12,3),(13,0),(14,3),(15,0)] ?_
  conv=>whnf
  refine q1 ?_
  conv=>whnf
  refine q1 ?_
  conv=>whnf
  refine q1 ?_
  conv=>whnf
  refine q1 ?_
  conv=>whnf
  refine q1 ?_
  conv=>whnf
  refine q1 ?_
  conv=>whnf
  obtain ⟨x_49, hx_49, h⟩ := bS h
  refine q3 (ixS_of hx_49 rfl rr) ?_
  conv=>whnf
  refine q3 (elP_of hx_49 rr) ?_
  conv=>whnf
  refine q1 ?_
  conv=>whnf
  refine q1 ?_
  conv=>whnf
  obtain ⟨x_50, hx_50, h⟩ := bS h
  refine q3 (ixS_of hx_50 rfl rr) ?_
  conv=>whnf
  refine q3 (elP_of hx_50 rr) ?_
  conv=>whnf
  obtain ⟨x_51, hx_51, h⟩ := bS h
  refine q3 (ixS_of hx_51 rfl rr) ?_
  conv=>whnf
  refine ⟨_, _, (by (conv=>whnf); (refine elP_of hx_51 ?_); (conv=>whnf); (refine lvS_mk (es' := List.map .d (List.map eTSpan (List.set l_16 (Int.toNat i_25) x_49))) (by simp only [Nat.zero_add, List.map_set]; first | done | rfl) ?_); (conv=>whnf); (exact rr)), kp_ok (by repeat (first | exact trivial | refine ⟨trivial, ?_⟩ | refine ⟨rfl, ?_⟩)), ?_⟩
  conv=>whnf
  obtain ⟨x_52, hx_52, h⟩ := bS h
  refine q3 (ixS_of hx_52 (by first | rfl | simp) rr) ?_
  conv=>whnf
  refine ⟨_, _, (by (conv=>whnf); (refine elP_of hx_52 ?_); (conv=>whnf); (refine lvS_mk (es' := List.map .d (List.map eTSpan (List.set (List.set l_16 (Int.toNat i_25) x_49) (Int.toNat j_38) x_50))) (by simp only [Nat.zero_add, List.map_set]; first | done | rfl) ?_); (conv=>whnf); (exact rr)), kp_ok (by repeat (first | exact trivial | refine ⟨trivial, ?_⟩ | refine ⟨rfl, ?_⟩)), ?_⟩
  conv=>whnf
  refine sg ?_
  conv=>whnf
  refine arS_raw ?_
  conv=>whnf
  refine rg ?_
  conv=>whnf
  refine arS_raw ?_
  conv=>whnf
  refine ⟨((w64 (i_25 + 1)), (w64 (j_38 - 1)), (List.set (List.set l_16 (Int.toNat i_25) x_49) (Int.toNat j_38) x_50)), h, ?_⟩
  exact Wk.mk2 [0] 1 rfl rfl (by decide) rfl ⟨daS_d rfl, trivial⟩ ⟨⟨rfl, (slEq (by first | rfl | simp))⟩, rr, rr, rr, rr, rr, trivial⟩
 clear hv53
 conv=>whnf
 refine Tr.weak hw ?_
 refine sg ?_
 conv=>whnf
 refine Tr.ret ?_
 conv=>whnf
 refine endH ?_
 conv=>whnf
 cases h
 exact endB rfl rfl rfl ⟨⟨_, rfl⟩, trivial⟩
theorem P110 (a_1 : Int) (b_2 : Int) (pivot_3 : Int) (l_4 : List TSpan) (r_5 : Int) (r_6 : Bool) (l_7 : List TSpan) (h : M110 a_1 b_2 pivot_3 l_4 = some (r_5, r_6, l_7)) :
    MC prog 174 [.sl 0 2 0 (List.length l_4), (dI a_1), (dI b_2), (dI pivot_3), .d (.fn 134 [])] [.arr 2 (List.map .d (List.map eTSpan l_4))] (fun rs Bs => rs = [(.i .i64 r_5), (.b r_6)] ∧ Bs = [.arr 2 (List.map .d (List.map eTSpan l_7))]) := by
 refine MC.of_tr (cx := ⟨178, none, lay, 1⟩) layOK func174 rfl rfl rfl rfl rfl (by simp [f174]) ?_
 refine Tr.unW ?_
 unfold M110 at h
 refine sg ?_
 conv=>whnf
 refine sd [(13,0),(15,0)] [(0,1),(1,1),(2,1),(3,1),(4,1),(5,1),(6,3),(7,3),(8,1),(9,1),(10,3),(11,3),(12,3),(13,0),(14,3),(15,0)] ?_
 conv=>whnf
 refine q1 ?_
 conv=>whnf
 refine q1 ?_
 conv=>whnf
 refine q1 ?_
 conv=>whnf
 refine q1 ?_
 conv=>whnf
 refine q1 ?_
 conv=>whnf
 refine q1 ?_
 conv=>whnf
 obtain ⟨x_8, hx_8, h⟩ := bS h
 refine q3 (ixS_of hx_8 rfl rr) ?_
 conv=>whnf
 refine q3 (elP_of hx_8 rr) ?_
 conv=>whnf
 refine q1 ?_
 conv=>whnf
 refine q1 ?_
 conv=>whnf
 obtain ⟨x_9, hx_9, h⟩ := bS h
 refine q3 (ixS_of hx_9 rfl rr) ?_
 conv=>whnf
 refine q3 (elP_of hx_9 rr) ?_
 conv=>whnf
 obtain ⟨x_10, hx_10, h⟩ := bS h
 refine q3 (ixS_of hx_10 rfl rr) ?_
 conv=>whnf
 refine ⟨_, _, (by (conv=>whnf); (refine elP_of hx_10 ?_); (conv=>whnf); (refine lvS_mk (es' := List.map .d (List.map eTSpan (List.set l_4 (Int.toNat a_1) x_8))) (by simp only [Nat.zero_add, List.map_set]; first | done | rfl) ?_); (conv=>whnf); (exact rr)), kp_ok (by repeat (first | exact trivial | refine ⟨trivial, ?_⟩ | refine ⟨rfl, ?_⟩)), ?_⟩
 conv=>whnf
 obtain ⟨x_11, hx_11, h⟩ := bS h
 refine q3 (ixS_of hx_11 (by first | rfl | simp) rr) ?_
 conv=>whnf
 refine ⟨_, _, (by (conv=>whnf); (refine elP_of hx_11 ?_); (conv=>whnf); (refine lvS_mk (es' := List.map .d (List.map eTSpan (List.set (List.set l_4 (Int.toNat a_1) x_8) (Int.toNat pivot_3) x_9))) (by simp only [Nat.zero_add, List.map_set]; first | done | rfl) ?_); (conv=>whnf); (exact rr)), kp_ok (by repeat (first | exact trivial | refine ⟨trivial, ?_⟩ | refine ⟨rfl, ?_⟩)), ?_⟩
 conv=>whnf
 refine sg ?_
 conv=>whnf
 refine arS_raw ?_
 conv=>whnf
 refine arS_raw ?_
 conv=>whnf
 refine Tr.seq ?_
 obtain ⟨i_15, hv24, h⟩ := bS h
 refine Tr.cutQ1 ([(0, .sl 0 2 0 (List.length (List.set (List.set l_4 (Int.toNat a_1) x_8) (Int.toNat pivot_3) x_9))), (1, (dI a_1)), (4, .d (.fn 134 [])), (10, (dI 0)), (11, .d (.b false)), (12, (dI i_15)), (13, (dI (w64 (b_2 - 1))))]) ([some (.arr 2 (List.map .d (List.map eTSpan (List.set (List.set l_4 (Int.toNat a_1) x_8) (Int.toNat pivot_3) x_9))))]) ?_ (fun T1 H1 hw => ?_)
 ·replace h := hv24; clear hv24
  refine Tr.block ?_
  refine Tr.loopM (σ := Int) (fun n s => M105 a_1 b_2 pivot_3 l_4 x_8 x_9 n s) i_15 (fun s => ([(0, .sl 0 2 0 (List.length (List.set (List.set l_4 (Int.toNat a_1) x_8) (Int.toNat pivot_3) x_9))), (1, (dI a_1)), (4, .d (.fn 134 [])), (10, (dI 0)), (11, .d (.b false)), (12, (dI s)), (13, (dI (w64 (b_2 - 1))))], [some (.arr 2 (List.map .d (List.map eTSpan (List.set (List.set l_4 (Int.toNat a_1) x_8) (Int.toNat pivot_3) x_9))))])) (((w64 (b_2 - 1)) + 1 - (w64 (a_1 + 1)) : Int).toNat + 1) ((w64 (a_1 + 1))) h (fun s => rfl) (Wk.mk2 [0] 1 rfl rfl (by decide) rfl ⟨daS_d rfl, trivial⟩ ⟨⟨rfl, (slEq (by first | rfl | simp))⟩, rr, rr, rr, rr, rr, rr, trivial⟩) ?_
  clear h
  rintro n_14 i_13 h
  replace h : M105 a_1 b_2 pivot_3 l_4 x_8 x_9 (n_14 + 1) i_13 = some i_15 := h
  rw [M105] at h
  refine Tr.seq ?_
  refine sd [] [(0,1),(1,1),(2,1),(3,1),(4,1),(5,1),(6,1),(7,3),(8,3),(9,1),(10,1),(11,3),(12,3),(13,1),(14,1),(15,1)] ?_
  conv=>whnf
  refine q1 ?_
  conv=>whnf
  refine q1 ?_
  conv=>whnf
  refine q1 ?_
  conv=>whnf
  refine q1 ?_
  conv=>whnf
  refine cB h (fun hb18 h => ?_) (fun hb18 h => ?_)
  ·conv=>whnf
   refine q1 ?_
   conv=>whnf
   refine q1 ?_
   conv=>whnf
   refine q1 ?_
   conv=>whnf
   obtain ⟨x_19, hx_19, h⟩ := bS h
   refine q3 (ixS_of hx_19 rfl rr) ?_
   conv=>whnf
   refine q3 (elP_of hx_19 rr) ?_
   conv=>whnf
   refine q1 ?_
   conv=>whnf
   refine q1 ?_
   conv=>whnf
   obtain ⟨x_20, hx_20, h⟩ := bS h
   refine q3 (ixS_of hx_20 rfl rr) ?_
   conv=>whnf
   refine q3 (elP_of hx_20 rr) ?_
   conv=>whnf
   obtain ⟨r_21, hc22, h⟩ := bS h
   refine q1 ?_ (fun _ => pe (P77 x_19 x_20 r_21 hc22) rr)
   conv=>whnf
   refine q1 ?_
   conv=>whnf
   refine q1 ?_
   conv=>whnf
   refine Tr.cond ?_
   conv=>whnf
   refine cB h (fun hb23 h => ?_) (fun hb23 h => ?_)
   ·refine Tr.skip ?_
    conv=>whnf
    refine Tr.block ?_
    refine rg ?_
    conv=>whnf
    refine arS_raw ?_
    conv=>whnf
    refine ⟨((w64 (i_13 + 1))), h, ?_⟩
    exact Wk.mk2 [0] 1 rfl rfl (by decide) rfl ⟨daS_d rfl, trivial⟩ ⟨rr, rr, rr, rr, rr, rr, rr, trivial⟩
   refine Tr.exit ?_
   conv=>whnf
   cases h
   exact Wk.mk2 [0] 1 rfl rfl (by decide) rfl ⟨daS_d rfl, trivial⟩ ⟨rr, rr, rr, rr, rr, rr, rr, trivial⟩
  conv=>whnf
  refine q1 ?_
  conv=>whnf
  refine Tr.cond ?_
  conv=>whnf
  refine Tr.exit ?_
  conv=>whnf
  cases h
  exact Wk.mk2 [0] 1 rfl rfl (by decide) rfl ⟨daS_d rfl, trivial⟩ ⟨rr, rr, rr, rr, rr, rr, rr, trivial⟩
 clear hv24
 conv=>whnf
 refine Tr.weak hw ?_
 refine Tr.seq ?_
 obtain ⟨j_28, hv37, h⟩ := bS h
 refine Tr.cutQ1 ([(0, .sl 0 2 0 (List.length (List.set (List.set l_4 (Int.toNat a_1) x_8) (Int.toNat pivot_3) x_9))), (1, (dI a_1)), (4, .d (.fn 134 [])), (10, (dI 0)), (11, .d (.b false)), (12, (dI i_15)), (13, (dI j_28))]) ([some (.arr 2 (List.map .d (List.map eTSpan (List.set (List.set l_4 (Int.toNat a_1) x_8) (Int.toNat pivot_3) x_9))))]) ?_ (fun T1 H1 hw => ?_)
 ·replace h := hv37; clear hv37
  refine Tr.block ?_
  refine Tr.loopM (σ := Int) (fun n s => M106 a_1 pivot_3 l_4 x_8 x_9 i_15 n s) j_28 (fun s => ([(0, .sl 0 2 0 (List.length (List.set (List.set l_4 (Int.toNat a_1) x_8) (Int.toNat pivot_3) x_9))), (1, (dI a_1)), (4, .d (.fn 134 [])), (10, (dI 0)), (11, .d (.b false)), (12, (dI i_15)), (13, (dI s))], [some (.arr 2 (List.map .d (List.map eTSpan (List.set (List.set l_4 (Int.toNat a_1) x_8) (Int.toNat pivot_3) x_9))))])) (((w64 (b_2 - 1)) + 1 - i_15 : Int).toNat + 1) ((w64 (b_2 - 1))) h (fun s => rfl) (Wk.mk2 [0] 1 rfl rfl (by decide) rfl ⟨daS_d rfl, trivial⟩ ⟨rr, rr, rr, rr, rr, rr, rr, trivial⟩) ?_
  clear h
  rintro n_27 j_26 h
  replace h : M106 a_1 pivot_3 l_4 x_8 x_9 i_15 (n_27 + 1) j_26 = some j_28 := h
  rw [M106] at h
  refine Tr.seq ?_
  refine sd [] [(0,1),(1,1),(2,1),(3,1),(4,1),(5,1),(6,1),(7,3),(8,3),(9,1),(10,1),(11,3),(12,3),(13,1),(14,1),(15,1),(16,1)] ?_
  conv=>whnf
  refine q1 ?_
  conv=>whnf
  refine q1 ?_
  conv=>whnf
  refine q1 ?_
  conv=>whnf
  refine q1 ?_
  conv=>whnf
  refine cB h (fun hb31 h => ?_) (fun hb31 h => ?_)
  ·conv=>whnf
   refine q1 ?_
   conv=>whnf
   refine q1 ?_
   conv=>whnf
   refine q1 ?_
   conv=>whnf
   obtain ⟨x_32, hx_32, h⟩ := bS h
   refine q3 (ixS_of hx_32 rfl rr) ?_
   conv=>whnf
   refine q3 (elP_of hx_32 rr) ?_
   conv=>whnf
   refine q1 ?_
   conv=>whnf
   refine q1 ?_
   conv=>whnf
   obtain ⟨x_33, hx_33, h⟩ := bS h
   refine q3 (ixS_of hx_33 rfl rr) ?_
   conv=>whnf
   refine q3 (elP_of hx_33 rr) ?_
   conv=>whnf
   obtain ⟨r_34, hc35, h⟩ := bS h
   refine q1 ?_ (fun _ => pe (P77 x_32 x_33 r_34 hc35) rr)
   conv=>whnf
   refine q1 ?_
   conv=>whnf
   refine q1 ?_
   conv=>whnf
   refine q1 ?_
   conv=>whnf
   refine Tr.cond ?_
   conv=>whnf
   refine cB h (fun hb36 h => ?_) (fun hb36 h => ?_)
   ·refine Tr.skip ?_
    conv=>whnf
    refine Tr.block ?_
    refine rg ?_
    conv=>whnf
    refine arS_raw ?_
    conv=>whnf
    refine ⟨((w64 (j_26 - 1))), h, ?_⟩
    exact Wk.mk2 [0] 1 rfl rfl (by decide) rfl ⟨daS_d rfl, trivial⟩ ⟨rr, rr, rr, rr, rr, rr, rr, trivial⟩
   refine Tr.exit ?_
   conv=>whnf
   cases h
   exact Wk.mk2 [0] 1 rfl rfl (by decide) rfl ⟨daS_d rfl, trivial⟩ ⟨rr, rr, rr, rr, rr, rr, rr, trivial⟩
  conv=>whnf
  refine q1 ?_
  conv=>whnf
  refine Tr.cond ?_
  conv=>whnf
  refine Tr.exit ?_
  conv=>whnf
  cases h
  exact Wk.mk2 [0] 1 rfl rfl (by decide) rfl ⟨daS_d rfl, trivial⟩ ⟨rr, rr, rr, rr, rr, rr, rr, trivial⟩
 clear hv37
 conv=>whnf
 refine Tr.weak hw ?_
 refine Tr.seq ?_
 refine sg ?_
 conv=>whnf
 refine Tr.cond ?_
 conv=>whnf
 refine cB h (fun hb38 h => ?_) (fun hb38 h => ?_)
 ·refine sd [(13,0),(15,0)] [(0,1),(1,1),(2,1),(3,1),(4,1),(5,1),(6,3),(7,3),(8,1),(9,1),(10,3),(11,3),(12,3),(13,0),(14,3),(15,0)] ?_
  conv=>whnf
  refine q1 ?_
  conv=>whnf
  refine q1 ?_
  conv=>whnf
  refine q1 ?_
  conv=>whnf
  refine q1 ?_
  conv=>whnf
  refine q1 ?_
  conv=>whnf
  refine q1 ?_
  conv=>whnf
  obtain ⟨x_39, hx_39, h⟩ := bS h
  refine q3 (ixS_of hx_39 rfl rr) ?_
  conv=>whnf
  refine q3 (elP_of hx_39 rr) ?_
  conv=>whnf
  refine q1 ?_
  conv=>whnf
  refine q1 ?_
  conv=>whnf
  obtain ⟨x_40, hx_40, h⟩ := bS h
  refine q3 (ixS_of hx_40 rfl rr) ?_
  conv=>whnf
  refine q3 (elP_of hx_40 rr) ?_
  conv=>whnf
  obtain ⟨x_41, hx_41, h⟩ := bS h
  refine q3 (ixS_of hx_41 rfl rr) ?_
  conv=>whnf
  refine ⟨_, _, (by (conv=>whnf); (refine elP_of hx_41 ?_); (conv=>whnf); (refine lvS_mk (es' := List.map .d (List.map eTSpan (List.set (List.set (List.set l_4 (Int.toNat a_1) x_8) (Int.toNat pivot_3) x_9) (Int.toNat j_28) x_39))) (by simp only [Nat.zero_add, List.map_set]; first | done | rfl) ?_); (conv=>whnf); (exact rr)), kp_ok (by repeat (first | exact trivial | refine ⟨trivial, ?_⟩ | refine ⟨rfl, ?_⟩)), ?_⟩
  conv=>whnf
  obtain ⟨x_42, hx_42, h⟩ := bS h
  refine q3 (ixS_of hx_42 (by first | rfl | simp) rr) ?_
  conv=>whnf
  refine ⟨_, _, (by (conv=>whnf); (refine elP_of hx_42 ?_); (conv=>whnf); (refine lvS_mk (es' := List.map .d (List.map eTSpan (List.set (List.set (List.set (List.set l_4 (Int.toNat a_1) x_8) (Int.toNat pivot_3) x_9) (Int.toNat j_28) x_39) (Int.toNat a_1) x_40))) (by simp only [Nat.zero_add, List.map_set]; first | done | rfl) ?_); (conv=>whnf); (exact rr)), kp_ok (by repeat (first | exact trivial | refine ⟨trivial, ?_⟩ | refine ⟨rfl, ?_⟩)), ?_⟩
  conv=>whnf
  refine sg ?_
  conv=>whnf
  refine Tr.ret ?_
  conv=>whnf
  refine endH ?_
  conv=>whnf
  cases h
  exact endB rfl rfl rfl ⟨⟨_, rfl⟩, trivial⟩
 refine Tr.skip ?_
 conv=>whnf
 refine sd [(13,0),(15,0)] [(0,1),(1,1),(2,1),(3,1),(4,1),(5,1),(6,3),(7,3),(8,1),(9,1),(10,3),(11,3),(12,3),(13,0),(14,3),(15,0)] ?_
 conv=>whnf
 refine q1 ?_
 conv=>whnf
 refine q1 ?_
 conv=>whnf
 refine q1 ?_
 conv=>whnf
 refine q1 ?_
 conv=>whnf
 refine q1 ?_
 conv=>whnf
 refine q1 ?_
 conv=>whnf
 obtain ⟨x_43, hx_43, h⟩ := bS h
 refine q3 (ixS_of hx_43 rfl rr) ?_
 conv=>whnf
 refine q3 (elP_of hx_43 rr) ?_
 conv=>whnf
 refine q1 ?_
 conv=>whnf
 refine q1 ?_
 conv=>whnf
 obtain ⟨x_44, hx_44, h⟩ := bS h
 refine q3 (ixS_of hx_44 rfl rr) ?_
 conv=>whnf
 refine q3 (elP_of hx_44 rr) ?_
 conv=>whnf
 obtain ⟨x_45, hx_45, h⟩ := bS h
 refine q3 (ixS_of hx_45 rfl rr) ?_
 conv=>whnf
 refine ⟨_, _, (by (conv=>whnf); (refine elP_of hx_45 ?_); (conv=>whnf); (refine lvS_mk (es' := List.map .d (List.map eTSpan (List.set (List.set (List.set l_4 (Int.toNat a_1) x_8) (Int.toNat pivot_3) x_9) (Int.toNat i_15) x_43))) (by simp only [Nat.zero_add, List.map_set]; first | done | rfl) ?_); (conv=>whnf); (exact rr)), kp_ok (by repeat (first | exact trivial | refine ⟨trivial, ?_⟩ | refine ⟨rfl, ?_⟩)), ?_⟩
 conv=>whnf
 obtain ⟨x_46, hx_46, h⟩ := bS h
 refine q3 (ixS_of hx_46 (by first | rfl | simp) rr) ?_
 conv=>whnf
 refine ⟨_, _, (by (conv=>whnf); (refine elP_of hx_46 ?_); (conv=>whnf); (refine lvS_mk (es' := List.map .d (List.map eTSpan (List.set (List.set (List.set (List.set l_4 (Int.toNat a_1) x_8) (Int.toNat pivot_3) x_9) (Int.toNat i_15) x_43) (Int.toNat j_28) x_44))) (by simp only [Nat.zero_add, List.map_set]; first | done | rfl) ?_); (conv=>whnf); (exact rr)), kp_ok (by repeat (first | exact trivial | refine ⟨trivial, ?_⟩ | refine ⟨rfl, ?_⟩)), ?_⟩
 conv=>whnf
 refine sg ?_
 conv=>whnf
 refine arS_raw ?_
 conv=>whnf
 refine sg ?_
 conv=>whnf
 refine arS_raw ?_
 conv=>whnf
 refine Tr.seq ?_
 obtain ⟨⟨j_54, l_55⟩, hv89, h⟩ := bS h
 refine Tr.cutQ1 ([(0, .sl 0 2 0 (List.length l_55)), (1, (dI a_1)), (10, (dI 0)), (11, .d (.b false)), (13, (dI j_54))]) ([some (.arr 2 (List.map .d (List.map eTSpan l_55)))]) ?_ (fun T1 H1 hw => ?_)
 ·replace h := hv89; clear hv89
  refine Tr.block ?_
  refine Tr.loopM (σ := Int × Int × List TSpan) (fun n s => M109 a_1 n s.1 s.2.1 s.2.2) (j_54, l_55) (fun s => ([(0, .sl 0 2 0 (List.length s.2.2)), (1, (dI a_1)), (4, .d (.fn 134 [])), (10, (dI 0)), (11, .d (.b false)), (12, (dI s.1)), (13, (dI s.2.1))], [some (.arr 2 (List.map .d (List.map eTSpan s.2.2)))])) (List.length ((List.set (List.set (List.set (List.set l_4 (Int.toNat a_1) x_8) (Int.toNat pivot_3) x_9) (Int.toNat i_15) x_43) (Int.toNat j_28) x_44)) + 1) ((w64 (i_15 + 1)), (w64 (j_28 - 1)), (List.set (List.set (List.set (List.set l_4 (Int.toNat a_1) x_8) (Int.toNat pivot_3) x_9) (Int.toNat i_15) x_43) (Int.toNat j_28) x_44)) h (fun s => rfl) (Wk.mk2 [0] 1 rfl rfl (by decide) rfl ⟨daS_d rfl, trivial⟩ ⟨⟨rfl, (slEq (by first | rfl | simp))⟩, rr, rr, rr, rr, rr, rr, trivial⟩) ?_
  clear h
  rintro n_53 ⟨i_50, j_51, l_52⟩ h
  replace h : M109 a_1 (n_53 + 1) i_50 j_51 l_52 = some (j_54, l_55) := h
  rw [M109] at h
  refine Tr.block ?_
  refine Tr.seq ?_
  obtain ⟨i_61, hv70, h⟩ := bS h
  refine Tr.cutQ1 ([(0, .sl 0 2 0 (List.length l_52)), (1, (dI a_1)), (4, .d (.fn 134 [])), (10, (dI 0)), (11, .d (.b false)), (12, (dI i_61)), (13, (dI j_51))]) ([some (.arr 2 (List.map .d (List.map eTSpan l_52)))]) ?_ (fun T1 H1 hw => ?_)
  ·replace h := hv70; clear hv70
   refine Tr.block ?_
   refine Tr.loopM (σ := Int) (fun n s => M107 a_1 j_51 l_52 n s) i_61 (fun s => ([(0, .sl 0 2 0 (List.length l_52)), (1, (dI a_1)), (4, .d (.fn 134 [])), (10, (dI 0)), (11, .d (.b false)), (12, (dI s)), (13, (dI j_51))], [some (.arr 2 (List.map .d (List.map eTSpan l_52)))])) ((j_51 + 1 - i_50 : Int).toNat + 1) (i_50) h (fun s => rfl) (Wk.mk2 [0] 1 rfl rfl (by decide) rfl ⟨daS_d rfl, trivial⟩ ⟨rr, rr, rr, rr, rr, rr, rr, trivial⟩) ?_
   clear h
   rintro n_60 i_59 h
   replace h : M107 a_1 j_51 l_52 (n_60 + 1) i_59 = some i_61 := h
   rw [M107] at h
   refine Tr.seq ?_
   refine sd [] [(0,1),(1,1),(2,1),(3,1),(4,1),(5,1),(6,1),(7,3),(8,3),(9,1),(10,1),(11,3),(12,3),(13,1),(14,1),(15,1)] ?_
   conv=>whnf
   refine q1 ?_
   conv=>whnf
   refine q1 ?_
   conv=>whnf
   refine q1 ?_
   conv=>whnf
   refine q1 ?_
   conv=>whnf
   refine cB h (fun hb64 h => ?_) (fun hb64 h => ?_)
   ·conv=>whnf
    refine q1 ?_
    conv=>whnf
    refine q1 ?_
    conv=>whnf
    refine q1 ?_
    conv=>whnf
    obtain ⟨x_65, hx_65, h⟩ := bS h
    refine q3 (ixS_of hx_65 rfl rr) ?_
    conv=>whnf
    refine q3 (elP_of hx_65 rr) ?_
    conv=>whnf
    refine q1 ?_
    conv=>whnf
    refine q1 ?_
    conv=>whnf
    obtain ⟨x_66, hx_66, h⟩ := bS h
    refine q3 (ixS_of hx_66 rfl rr) ?_
    conv=>whnf
    refine q3 (elP_of hx_66 rr) ?_
    conv=>whnf
    obtain ⟨r_67, hc68, h⟩ := bS h
    refine q1 ?_ (fun _ => pe (P77 x_65 x_66 r_67 hc68) rr)
    conv=>whnf
    refine q1 ?_
    conv=>whnf
    refine q1 ?_
    conv=>whnf
    refine Tr.cond ?_
    conv=>whnf
    refine cB h (fun hb69 h => ?_) (fun hb69 h => ?_)
    ·refine Tr.skip ?_
     conv=>whnf
     refine Tr.block ?_
     refine rg ?_
     conv=>whnf
     refine arS_raw ?_
     conv=>whnf
     refine ⟨((w64 (i_59 + 1))), h, ?_⟩
     exact Wk.mk2 [0] 1 rfl rfl (by decide) rfl ⟨daS_d rfl, trivial⟩ ⟨rr, rr, rr, rr, rr, rr, rr, trivial⟩
    refine Tr.exit ?_
    conv=>whnf
    cases h
    exact Wk.mk2 [0] 1 rfl rfl (by decide) rfl ⟨daS_d rfl, trivial⟩ ⟨rr, rr, rr, rr, rr, rr, rr, trivial⟩
   conv=>whnf
   refine q1 ?_
   conv=>whnf
   refine Tr.cond ?_
   conv=>whnf
   refine Tr.exit ?_
   conv=>whnf
   cases h
   exact Wk.mk2 [0] 1 rfl rfl (by decide) rfl ⟨daS_d rfl, trivial⟩ ⟨rr, rr, rr, rr, rr, rr, rr, trivial⟩
  clear hv70
  conv=>whnf
  refine Tr.weak hw ?_
  refine Tr.seq ?_
  obtain ⟨j_74, hv83, h⟩ := bS h
  refine Tr.cutQ1 ([(0, .sl 0 2 0 (List.length l_52)), (1, (dI a_1)), (4, .d (.fn 134 [])), (10, (dI 0)), (11, .d (.b false)), (12, (dI i_61)), (13, (dI j_74))]) ([some (.arr 2 (List.map .d (List.map eTSpan l_52)))]) ?_ (fun T1 H1 hw => ?_)
  ·replace h := hv83; clear hv83
   refine Tr.block ?_
   refine Tr.loopM (σ := Int) (fun n s => M108 a_1 l_52 i_61 n s) j_74 (fun s => ([(0, .sl 0 2 0 (List.length l_52)), (1, (dI a_1)), (4, .d (.fn 134 [])), (10, (dI 0)), (11, .d (.b false)), (12, (dI i_61)), (13, (dI s))], [some (.arr 2 (List.map .d (List.map eTSpan l_52)))])) ((j_51 + 1 - i_61 : Int).toNat + 1) (j_51) h (fun s => rfl) (Wk.mk2 [0] 1 rfl rfl (by decide) rfl ⟨daS_d rfl, trivial⟩ ⟨rr, rr, rr, rr, rr, rr, rr, trivial⟩) ?_
   clear h
   rintro n_73 j_72 h
   replace h : M108 a_1 l_52 i_61 (n_73 + 1) j_72 = some j_74 := h
   rw [M108] at h
   refine Tr.seq ?_
   refine sd [] [(0,1),(1,1),(2,1),(3,1),(4,1),(5,1),(6,1),(7,3),(8,3),(9,1),(10,1),(11,3),(12,3),(13,1),(14,1),(15,1),(16,1)] ?_
   conv=>whnf
   refine q1 ?_
   conv=>whnf
   refine q1 ?_
   conv=>whnf
   refine q1 ?_
   conv=>whnf
   refine q1 ?_
   conv=>whnf
   refine cB h (fun hb77 h => ?_) (fun hb77 h => ?_)
   ·conv=>whnf
    refine q1 ?_
    conv=>whnf
    refine q1 ?_
    conv=>whnf
    refine q1 ?_
    conv=>whnf
    obtain ⟨x_78, hx_78, h⟩ := bS h
    refine q3 (ixS_of hx_78 rfl rr) ?_
    conv=>whnf
    refine q3 (elP_of hx_78 rr) ?_
    conv=>whnf
    refine q1 ?_
    conv=>whnf
    refine q1 ?_
    conv=>whnf
    obtain ⟨x_79, hx_79, h⟩ := bS h
    refine q3 (ixS_of hx_79 rfl rr) ?_
    conv=>whnf
    refine q3 (elP_of hx_79 rr) ?_
    conv=>whnf
    obtain ⟨r_80, hc81, h⟩ := bS h
    refine q1 ?_ (fun _ => pe (P77 x_78 x_79 r_80 hc81) rr)
    conv=>whnf
    refine q1 ?_
    conv=>whnf
    refine q1 ?_
    conv=>whnf
    refine q1 ?_
    conv=>whnf
    refine Tr.cond ?_
    conv=>whnf
    refine cB h (fun hb82 h => ?_) (fun hb82 h => ?_)
    ·refine Tr.skip ?_
     conv=>whnf
     refine Tr.block ?_
     refine rg ?_
     conv=>whnf
     refine arS_raw ?_
     conv=>whnf
     refine ⟨((w64 (j_72 - 1))), h, ?_⟩
     exact Wk.mk2 [0] 1 rfl rfl (by decide) rfl ⟨daS_d rfl, trivial⟩ ⟨rr, rr, rr, rr, rr, rr, rr, trivial⟩
    refine Tr.exit ?_
    conv=>whnf
    cases h
    exact Wk.mk2 [0] 1 rfl rfl (by decide) rfl ⟨daS_d rfl, trivial⟩ ⟨rr, rr, rr, rr, rr, rr, rr, trivial⟩
   conv=>whnf
   refine q1 ?_
   conv=>whnf
   refine Tr.cond ?_
   conv=>whnf
   refine Tr.exit ?_
   conv=>whnf
   cases h
   exact Wk.mk2 [0] 1 rfl rfl (by decide) rfl ⟨daS_d rfl, trivial⟩ ⟨rr, rr, rr, rr, rr, rr, rr, trivial⟩
  clear hv83
  conv=>whnf
  refine Tr.weak hw ?_
  refine Tr.seq ?_
  refine sg ?_
  conv=>whnf
  refine Tr.cond ?_
  conv=>whnf
  refine cB h (fun hb84 h => ?_) (fun hb84 h => ?_)
  ·refine Tr.exit ?_
   conv=>whnf
   cases h
   exact Wk.mk2 [0] 1 rfl rfl (by decide) rfl ⟨daS_d rfl, trivial⟩ ⟨rr, rr, rr, rr, rr, trivial⟩
  refine Tr.skip ?_
  conv=>whnf
  refine sd [(13,0),(15,0)] [(0,1),(1,1),(2,1),(3,1),(4,1),(5,1),(6,3),(7,3),(8,1),(9,1),(10,3),(11,3),(12,3),(13,0),(14,3),(15,0)] ?_
  conv=>whnf
  refine q1 ?_
  conv=>whnf
  refine q1 ?_
  conv=>whnf
  refine q1 ?_
  conv=>whnf
  refine q1 ?_
  conv=>whnf
  refine q1 ?_
  conv=>whnf
  refine q1 ?_
  conv=>whnf
  obtain ⟨x_85, hx_85, h⟩ := bS h
  refine q3 (ixS_of hx_85 rfl rr) ?_
  conv=>whnf
  refine q3 (elP_of hx_85 rr) ?_
  conv=>whnf
  refine q1 ?_
  conv=>whnf
  refine q1 ?_
  conv=>whnf
  obtain ⟨x_86, hx_86, h⟩ := bS h
  refine q3 (ixS_of hx_86 rfl rr) ?_
  conv=>whnf
  refine q3 (elP_of hx_86 rr) ?_
  conv=>whnf
  obtain ⟨x_87, hx_87, h⟩ := bS h
  refine q3 (ixS_of hx_87 rfl rr) ?_
  conv=>whnf
  refine ⟨_, _, (by (conv=>whnf); (refine elP_of hx_87 ?_); (conv=>whnf); (refine lvS_mk (es' := List.map .d (List.map eTSpan (List.set l_52 (Int.toNat i_61) x_85))) (by simp only [Nat.zero_add, List.map_set]; first | done | rfl) ?_); (conv=>whnf); (exact rr)), kp_ok (by repeat (first | exact trivial | refine ⟨trivial, ?_⟩ | refine ⟨rfl, ?_⟩)), ?_⟩
  conv=>whnf
  obtain ⟨x_88, hx_88, h⟩ := bS h
  refine q3 (ixS_of hx_88 (by first | rfl | simp) rr) ?_
  conv=>whnf
  refine ⟨_, _, (by (conv=>whnf); (refine elP_of hx_88 ?_); (conv=>whnf); (refine lvS_mk (es' := List.map .d (List.map eTSpan (List.set (List.set l_52 (Int.toNat i_61) x_85) (Int.toNat j_74) x_86))) (by simp only [Nat.zero_add, List.map_set]; first | done | rfl) ?_); (conv=>whnf); (exact rr)), kp_ok (by repeat (first | exact trivial | refine ⟨trivial, ?_⟩ | refine ⟨rfl, ?_⟩)), ?_⟩
  conv=>whnf
  refine sg ?_
  conv=>whnf
  refine arS_raw ?_
  conv=>whnf
  refine rg ?_
  conv=>whnf
  refine arS_raw ?_
  conv=>whnf
  refine ⟨((w64 (i_61 + 1)), (w64 (j_74 - 1)), (List.set (List.set l_52 (Int.toNat i_61) x_85) (Int.toNat j_74) x_86)), h, ?_⟩
  exact Wk.mk2 [0] 1 rfl rfl (by decide) rfl ⟨daS_d rfl, trivial⟩ ⟨⟨rfl, (slEq (by first | rfl | simp))⟩, rr, rr, rr, rr, rr, rr, trivial⟩
 clear hv89
 conv=>whnf
 refine Tr.weak hw ?_
 refine sd [(13,0),(15,0)] [(0,1),(1,1),(2,1),(3,1),(4,1),(5,1),(6,3),(7,3),(8,1),(9,1),(10,3),(11,3),(12,3),(13,0),(14,3),(15,0)] ?_
 conv=>whnf
 refine q1 ?_
 conv=>whnf
 refine q1 ?_
 conv=>whnf
 refine q1 ?_
 conv=>whnf
 refine q1 ?_
 conv=>whnf
 refine q1 ?_
 conv=>whnf
 refine q1 ?_
 conv=>whnf
 obtain ⟨x_90, hx_90, h⟩ := bS h
 refine q3 (ixS_of hx_90 rfl rr) ?_
 conv=>whnf
 refine q3 (elP_of hx_90 rr) ?_
 conv=>whnf
 refine q1 ?_
 conv=>whnf
 refine q1 ?_
 conv=>whnf
 obtain ⟨x_91, hx_91, h⟩ := bS h
 refine q3 (ixS_of hx_91 rfl rr) ?_
 conv=>whnf
 refine q3 (elP_of hx_91 rr) ?_
 conv=>whnf
 obtain ⟨x_92, hx_92, h⟩ := bS h
 refine q3 (ixS_of hx_92 rfl rr) ?_
 conv=>whnf
 refine ⟨_, _, (by (conv=>whnf); (refine elP_of hx_92 ?_); (conv=>whnf); (refine lvS_mk (es' := List.map .d (List.map eTSpan (List.set l_55 (Int.toNat j_54) x_90))) (by simp only [Nat.zero_add, List.map_set]; first | done | rfl) ?_); (conv=>whnf); (exact rr)), kp_ok (by repeat (first | exact trivial | refine ⟨trivial, ?_⟩ | refine ⟨rfl, ?_⟩)), ?_⟩
 conv=>whnf
 obtain ⟨x_93, hx_93, h⟩ := bS h
 refine q3 (ixS_of hx_93 (by first | rfl | simp) rr) ?_
 conv=>whnf
 refine ⟨_, _, (by (conv=>whnf); (refine elP_of hx_93 ?_); (conv=>whnf); (refine lvS_mk (es' := List.map .d (List.map eTSpan (List.set (List.set l_55 (Int.toNat j_54) x_90) (Int.toNat a_1) x_91))) (by simp only [Nat.zero_add, List.map_set]; first | done | rfl) ?_); (conv=>whnf); (exact rr)), kp_ok (by repeat (first | exact trivial | refine ⟨trivial, ?_⟩ | refine ⟨rfl, ?_⟩)), ?_⟩
 conv=>whnf
 refine sg ?_
 conv=>whnf
 refine Tr.ret ?_
 conv=>whnf
 refine endH ?_
 conv=>whnf
 cases h
 exact endB rfl rfl rfl ⟨⟨_, rfl⟩, trivial⟩
theorem P111 (length_1 : Int) (r_2 : Int) (h : M111 length_1 = some r_2) :
    PC prog 156 [(.i .i64 length_1)] (fun rs => rs = [(.i .u64 r_2)]) := by
 refine PC.of_tr (cx := ⟨7, none, lay, 0⟩) layOK func156 rfl rfl rfl rfl rfl (by simp [f156]) ?_
 unfold M111 at h
 refine sg ?_
 conv=>whnf
 refine sg ?_
 conv=>whnf
 refine arS_raw ?_
 conv=>whnf
 obtain ⟨r_3, hc4, h⟩ := bS h
 refine PC.ecall (P76 (IntKind.wrap .u64 length_1) r_3 hc4) (fun rs hrs => ?_)
 subst hrs
 conv=>whnf
 obtain ⟨u_5, hu_5, h⟩ := bS h
 refine nnS_mk (nn_ge hu_5) ?_
 conv=>whnf
 refine Tr.ret ?_
 conv=>whnf
 cases h
 rfl
theorem P112 (v_1 : Int) (r_2 : Int) (b_3 : Int) (h : M112 v_1 = some (r_2, b_3)) :
    MC prog 157 [.pt 0 0] [.var [.d (.i .u64 v_1)]] (fun rs Bs => rs = [(.i .u64 r_2)] ∧ Bs = [.var [.d (.i .u64 b_3)]]) := by
 refine MC.of_tr (cx := ⟨33, none, lay, 1⟩) layOK func157 rfl rfl rfl rfl rfl (by simp [f157]) ?_
 refine Tr.unW ?_
 unfold M112 at h
 refine sg ?_
 conv=>whnf
 refine sd [(9,0)] [(0,1),(1,3),(2,3),(3,1),(4,3),(5,3),(6,1),(7,1),(8,3),(9,0)] ?_
 conv=>whnf
 refine q1 ?_
 conv=>whnf
 refine q2 ?_
 conv=>whnf
 refine q2 ?_
 conv=>whnf
 refine q1 ?_
 conv=>whnf
 refine q2 ?_
 conv=>whnf
 refine q2 ?_
 conv=>whnf
 refine q1 ?_ (fun _ => nnS_mk (by decide) rr)
 conv=>whnf
 refine q1 ?_
 conv=>whnf
 refine q2 ?_
 conv=>whnf
 refine ⟨_, _, rr, kp_ok (by repeat (first | exact trivial | refine ⟨trivial, ?_⟩ | refine ⟨rfl, ?_⟩)), ?_⟩
 conv=>whnf
 refine sd [(9,0)] [(0,1),(1,3),(2,3),(3,1),(4,3),(5,3),(6,1),(7,1),(8,3),(9,0)] ?_
 conv=>whnf
 refine q1 ?_
 conv=>whnf
 refine q2 ?_
 conv=>whnf
 refine q2 ?_
 conv=>whnf
 refine q1 ?_
 conv=>whnf
 refine q2 ?_
 conv=>whnf
 refine q2 ?_
 conv=>whnf
 refine q1 ?_ (fun _ => nnS_mk (by decide) rr)
 conv=>whnf
 refine q1 ?_
 conv=>whnf
 refine q2 ?_
 conv=>whnf
 refine ⟨_, _, rr, kp_ok (by repeat (first | exact trivial | refine ⟨trivial, ?_⟩ | refine ⟨rfl, ?_⟩)), ?_⟩
 conv=>whnf
 refine sd [(9,0)] [(0,1),(1,3),(2,3),(3,1),(4,3),(5,3),(6,1),(7,1),(8,3),(9,0)] ?_
 conv=>whnf
 refine q1 ?_
 conv=>whnf
 refine q2 ?_
 conv=>whnf
 refine q2 ?_
 conv=>whnf
 refine q1 ?_
 conv=>whnf
 refine q2 ?_
 conv=>whnf
 refine q2 ?_
 conv=>whnf
 refine q1 ?_ (fun _ => nnS_mk (by decide) rr)
 conv=>whnf
 refine q1 ?_
 conv=>whnf
 refine q2 ?_
 conv=>whnf
 refine ⟨_, _, rr, kp_ok (by repeat (first | exact trivial | refine ⟨trivial, ?_⟩ | refine ⟨rfl, ?_⟩)), ?_⟩
 conv=>whnf
 refine sg ?_
 conv=>whnf
 refine Tr.ret ?_
 conv=>whnf
 refine endH ?_
 conv=>whnf
 cases h
 exact endB rfl rfl rfl ⟨rfl, trivial⟩
theorem P114 (a_1 : Int) (b_2 : Int) (l_3 : List TSpan) (l_4 : List TSpan) (h : M114 a_1 b_2 l_3 = some l_4) :
    MC prog 169 [.sl 0 2 0 (List.length l_3), (dI a_1), (dI b_2), .d (.fn 134 [])] [.arr 2 (List.map .d (List.map eTSpan l_3))] (fun rs Bs => rs = [] ∧ Bs = [.arr 2 (List.map .d (List.map eTSpan l_4))]) := by
 refine MC.of_tr (cx := ⟨67, none, lay, 1⟩) layOK func169 rfl rfl rfl rfl rfl (by simp [f169]) ?_
 refine Tr.unW ?_
 unfold M114 at h
 refine sg ?_
 conv=>whnf
 refine arS_raw ?_
 conv=>whnf
 refine sg ?_
 conv=>whnf
 refine Tr.cond ?_
 conv=>whnf
 refine cB h (fun hb5 h => ?_) (fun hb5 h => ?_)
 ·refine sg ?_
  conv=>whnf
  refine arS_raw ?_
  conv=>whnf
  refine sg ?_
  conv=>whnf
  obtain ⟨r_6, hc7, h⟩ := bS h
  refine PC.ecall (P111 ((w64 (b_2 - a_1))) r_6 hc7) (fun rs hrs => ?_)
  subst hrs
  conv=>whnf
  refine sg ?_
  conv=>whnf
  refine neS_mk (by decide) ?_
  conv=>whnf
  refine arS_raw ?_
  conv=>whnf
  refine arS_raw ?_
  conv=>whnf
  refine arS_raw ?_
  conv=>whnf
  refine arS_raw ?_
  conv=>whnf
  obtain ⟨l_15, hv31, h⟩ := bS h
  refine Tr.cutQ1 ([]) ([some (.arr 2 (List.map .d (List.map eTSpan l_15)))]) ?_ (fun T1 H1 hw => ?_)
  ·replace h := hv31; clear hv31
   refine Tr.block ?_
   refine Tr.loopM (σ := Int × List TSpan × Int) (fun n s => M113 a_1 b_2 r_6 n s.1 s.2.1 s.2.2) l_15 (fun s => ([(0, .sl 0 2 0 (List.length s.2.1)), (1, (dI a_1)), (8, (dI (w64 (b_2 - a_1)))), (9, .pt 1 0), (10, .d (.i .u64 r_6)), (11, (dI s.1))], [some (.arr 2 (List.map .d (List.map eTSpan s.2.1))), some (.var [.d (.i .u64 s.2.2)])])) (((w64 ((w64 (a_1 + (w64 ((w64 (Int.tdiv (w64 (b_2 - a_1)) 4)) * 2)))) + 1)) + 1 - (w64 ((w64 (a_1 + (w64 ((w64 (Int.tdiv (w64 (b_2 - a_1)) 4)) * 2)))) - 1)) : Int).toNat + 1) ((w64 ((w64 (a_1 + (w64 ((w64 (Int.tdiv (w64 (b_2 - a_1)) 4)) * 2)))) - 1)), l_3, (IntKind.wrap .u64 (w64 (b_2 - a_1)))) h (fun s => rfl) (Wk.mk2 [0, 1] 2 rfl rfl (by decide) rfl ⟨daS_d rfl, rr, trivial⟩ ⟨rr, rr, rr, rr, rr, rr, trivial⟩) ?_
   clear h
   rintro n_14 ⟨idx_11, l_12, v_13⟩ h
   replace h : M113 a_1 b_2 r_6 (n_14 + 1) idx_11 l_12 v_13 = some l_15 := h
   rw [M113] at h
   refine Tr.seq ?_
   refine sg ?_
   conv=>whnf
   refine neS_mk (by decide) ?_
   conv=>whnf
   refine arS_raw ?_
   conv=>whnf
   refine arS_raw ?_
   conv=>whnf
   refine arS_raw ?_
   conv=>whnf
   refine arS_raw ?_
   conv=>whnf
   refine Tr.cond ?_
   conv=>whnf
   refine cB h (fun hb18 h => ?_) (fun hb18 h => ?_)
   ·refine Tr.skip ?_
    conv=>whnf
    refine Tr.seq ?_
    refine Tr.block ?_
    refine sg ?_
    conv=>whnf
    obtain ⟨⟨r_19, b_20⟩, hc21, h⟩ := bS h
    refine MC.ecall (P112 v_13 r_19 b_20 hc21) [1] (by decide) rfl rfl ?_ (fun rs Bs1 hrs => ?_)
    · exact ⟨⟨rfl, rfl⟩, trivial⟩
    obtain ⟨rfl, rfl⟩ := hrs
    conv=>whnf
    refine arS_raw ?_
    conv=>whnf
    refine arS_raw ?_
    conv=>whnf
    refine Tr.seq ?_
    refine sg ?_
    conv=>whnf
    refine Tr.cond ?_
    conv=>whnf
    refine cB h (fun hb22 h => ?_) (fun hb22 h => ?_)
    ·refine rg ?_
     conv=>whnf
     refine arS_raw ?_
     conv=>whnf
     refine dq [(17,0),(19,0)] [(0,1),(1,1),(2,1),(3,1),(4,1),(5,1),(6,1),(7,1),(8,1),(9,1),(10,3),(11,3),(12,1),(13,1),(14,3),(15,3),(16,3),(17,0),(18,3),(19,0)] ?_
     conv=>whnf
     refine q1 ?_
     conv=>whnf
     refine q1 ?_
     conv=>whnf
     refine q1 ?_
     conv=>whnf
     refine q1 ?_
     conv=>whnf
     refine q1 ?_
     conv=>whnf
     refine q4 ?_
     conv=>whnf
     refine q1 ?_
     conv=>whnf
     refine q1 ?_
     conv=>whnf
     refine q1 ?_
     conv=>whnf
     refine q4 ?_
     conv=>whnf
     obtain ⟨x_23, hx_23, h⟩ := bS h
     refine q3 (ixS_of hx_23 rfl rr) ?_
     conv=>whnf
     refine q3 (elP_of hx_23 rr) ?_
     conv=>whnf
     refine q1 ?_
     conv=>whnf
     refine q1 ?_
     conv=>whnf
     obtain ⟨x_24, hx_24, h⟩ := bS h
     refine q3 (ixS_of hx_24 rfl rr) ?_
     conv=>whnf
     refine q3 (elP_of hx_24 rr) ?_
     conv=>whnf
     obtain ⟨x_25, hx_25, h⟩ := bS h
     refine q3 (ixS_of hx_25 rfl rr) ?_
     conv=>whnf
     refine ⟨_, _, (by (conv=>whnf); (refine elP_of hx_25 ?_); (conv=>whnf); (refine lvS_mk (es' := List.map .d (List.map eTSpan (List.set l_12 (Int.toNat idx_11) x_23))) (by simp only [Nat.zero_add, List.map_set]; first | done | rfl) ?_); (conv=>whnf); (exact rr)), kp_ok (by repeat (first | exact trivial | refine ⟨trivial, ?_⟩ | refine ⟨rfl, ?_⟩)), ?_⟩
     conv=>whnf
     obtain ⟨x_26, hx_26, h⟩ := bS h
     refine q3 (ixS_of hx_26 (by first | rfl | simp) rr) ?_
     conv=>whnf
     refine ⟨_, _, (by (conv=>whnf); (refine elP_of hx_26 ?_); (conv=>whnf); (refine lvS_mk (es' := List.map .d (List.map eTSpan (List.set (List.set l_12 (Int.toNat idx_11) x_23) (Int.toNat (w64 (a_1 + (w64 ((w64 (bitK .u64 (BitVec.ofInt 64 r_19 &&& BitVec.ofInt 64 (IntKind.wrap .u64 (r_6 - 1))))) - (w64 (b_2 - a_1))))))) x_24))) (by simp only [Nat.zero_add, List.map_set]; first | done | rfl) ?_); (conv=>whnf); (exact rr)), kp_ok (by repeat (first | exact trivial | refine ⟨trivial, ?_⟩ | refine ⟨rfl, ?_⟩)), ?_⟩
     conv=>whnf
     refine rg ?_
     conv=>whnf
     refine arS_raw ?_
     conv=>whnf
     refine ⟨((w64 (idx_11 + 1)), (List.set (List.set l_12 (Int.toNat idx_11) x_23) (Int.toNat (w64 (a_1 + (w64 ((w64 (bitK .u64 (BitVec.ofInt 64 r_19 &&& BitVec.ofInt 64 (IntKind.wrap .u64 (r_6 - 1))))) - (w64 (b_2 - a_1))))))) x_24), b_20), h, ?_⟩
     exact Wk.mk2 [0, 1] 2 rfl rfl (by decide) rfl ⟨daS_d rfl, rr, trivial⟩ ⟨⟨rfl, (slEq (by first | rfl | simp))⟩, rr, rr, rr, rr, rr, trivial⟩
    refine Tr.skip ?_
    conv=>whnf
    refine dq [(17,0),(19,0)] [(0,1),(1,1),(2,1),(3,1),(4,1),(5,1),(6,1),(7,1),(8,1),(9,1),(10,3),(11,3),(12,1),(13,1),(14,3),(15,3),(16,3),(17,0),(18,3),(19,0)] ?_
    conv=>whnf
    refine q1 ?_
    conv=>whnf
    refine q1 ?_
    conv=>whnf
    refine q1 ?_
    conv=>whnf
    refine q1 ?_
    conv=>whnf
    refine q1 ?_
    conv=>whnf
    refine q4 ?_
    conv=>whnf
    refine q1 ?_
    conv=>whnf
    refine q1 ?_
    conv=>whnf
    refine q1 ?_
    conv=>whnf
    refine q4 ?_
    conv=>whnf
    obtain ⟨x_27, hx_27, h⟩ := bS h
    refine q3 (ixS_of hx_27 rfl rr) ?_
    conv=>whnf
    refine q3 (elP_of hx_27 rr) ?_
    conv=>whnf
    refine q1 ?_
    conv=>whnf
    refine q1 ?_
    conv=>whnf
    obtain ⟨x_28, hx_28, h⟩ := bS h
    refine q3 (ixS_of hx_28 rfl rr) ?_
    conv=>whnf
    refine q3 (elP_of hx_28 rr) ?_
    conv=>whnf
    obtain ⟨x_29, hx_29, h⟩ := bS h
    refine q3 (ixS_of hx_29 rfl rr) ?_
    conv=>whnf
    refine ⟨_, _, (by (conv=>whnf); (refine elP_of hx_29 ?_); (conv=>whnf); (refine lvS_mk (es' := List.map .d (List.map eTSpan (List.set l_12 (Int.toNat idx_11) x_27))) (by simp only [Nat.zero_add, List.map_set]; first | done | rfl) ?_); (conv=>whnf); (exact rr)), kp_ok (by repeat (first | exact trivial | refine ⟨trivial, ?_⟩ | refine ⟨rfl, ?_⟩)), ?_⟩
    conv=>whnf
    obtain ⟨x_30, hx_30, h⟩ := bS h
    refine q3 (ixS_of hx_30 (by first | rfl | simp) rr) ?_
    conv=>whnf
    refine ⟨_, _, (by (conv=>whnf); (refine elP_of hx_30 ?_); (conv=>whnf); (refine lvS_mk (es' := List.map .d (List.map eTSpan (List.set (List.set l_12 (Int.toNat idx_11) x_27) (Int.toNat (w64 (a_1 + (w64 (bitK .u64 (BitVec.ofInt 64 r_19 &&& BitVec.ofInt 64 (IntKind.wrap .u64 (r_6 - 1)))))))) x_28))) (by simp only [Nat.zero_add, List.map_set]; first | done | rfl) ?_); (conv=>whnf); (exact rr)), kp_ok (by repeat (first | exact trivial | refine ⟨trivial, ?_⟩ | refine ⟨rfl, ?_⟩)), ?_⟩
    conv=>whnf
    refine rg ?_
    conv=>whnf
    refine arS_raw ?_
    conv=>whnf
    refine ⟨((w64 (idx_11 + 1)), (List.set (List.set l_12 (Int.toNat idx_11) x_27) (Int.toNat (w64 (a_1 + (w64 (bitK .u64 (BitVec.ofInt 64 r_19 &&& BitVec.ofInt 64 (IntKind.wrap .u64 (r_6 - 1)))))))) x_28), b_20), h, ?_⟩
    exact Wk.mk2 [0, 1] 2 rfl rfl (by decide) rfl ⟨daS_d rfl, rr, trivial⟩ ⟨⟨rfl, (slEq (by first | rfl | simp))⟩, rr, rr, rr, rr, rr, trivial⟩
   refine Tr.exit ?_
   conv=>whnf
   cases h
   exact Wk.mk2 [0] 2 rfl rfl (by decide) rfl ⟨daS_d rfl, trivial⟩ trivial
  clear hv31
  conv=>whnf
  refine endW hw ?_
  conv=>whnf
  cases h
  exact endB rfl rfl rfl ⟨⟨_, rfl⟩, trivial⟩
 refine Tr.skip ?_
 conv=>whnf
 refine endH ?_
 conv=>whnf
 cases h
 exact endB rfl rfl rfl ⟨⟨_, rfl⟩, trivial⟩
theorem P117 (rc_9046 : Int → Int → Int → (List TSpan) → Option (List TSpan)) (ih_9046 : ∀ (a_1 : Int) (b_2 : Int) (limit_3 : Int) (l_4 : List TSpan) (l_5 : List TSpan), rc_9046 a_1 b_2 limit_3 l_4 = some l_5 → MC prog 166 [.sl 0 2 0 (List.length l_4), (dI a_1), (dI b_2), (dI limit_3), .d (.fn 134 [])] [.arr 2 (List.map .d (List.map eTSpan l_4))] (fun rs Bs => rs = [] ∧ Bs = [.arr 2 (List.map .d (List.map eTSpan l_5))])) (a_1 : Int) (b_2 : Int) (limit_3 : Int) (l_4 : List TSpan) (l_5 : List TSpan) (h : M117 rc_9046 a_1 b_2 limit_3 l_4 = some l_5) :
    MC prog 166 [.sl 0 2 0 (List.length l_4), (dI a_1), (dI b_2), (dI limit_3), .d (.fn 134 [])] [.arr 2 (List.map .d (List.map eTSpan l_4))] (fun rs Bs => rs = [] ∧ Bs = [.arr 2 (List.map .d (List.map eTSpan l_5))]) := by
 refine MC.of_tr (cx := ⟨148, none, lay, 1⟩) layOK func166 rfl rfl rfl rfl rfl (by simp [f166]) ?_
 refine Tr.unW ?_
 unfold M117 at h
 refine sg ?_
 conv=>whnf
 refine sg ?_
 conv=>whnf
 refine Tr.block ?_
 refine Tr.loopM (σ := Int × Int × Int × Bool × Bool × List TSpan) (fun n s => M116 rc_9046 n s.1 s.2.1 s.2.2.1 s.2.2.2.1 s.2.2.2.2.1 s.2.2.2.2.2) l_5 (fun s => ([(0, .sl 0 2 0 (List.length s.2.2.2.2.2)), (1, (dI s.1)), (2, (dI s.2.1)), (3, (dI s.2.2.1)), (4, .d (.fn 134 [])), (10, .d (.b s.2.2.2.1)), (11, .d (.b s.2.2.2.2.1))], [some (.arr 2 (List.map .d (List.map eTSpan s.2.2.2.2.2)))])) (List.length l_4 + 1) (a_1, b_2, limit_3, true, true, l_4) h (fun s => rfl) (Wk.mk2 [0] 1 rfl rfl (by decide) rfl ⟨daS_d rfl, trivial⟩ ⟨rr, rr, rr, rr, rr, rr, rr, trivial⟩) ?_
 clear h
 rintro n_23 ⟨a_17, b_18, limit_19, wasBalanced_20, wasPartitioned_21, l_22⟩ h
 replace h : M116 rc_9046 (n_23 + 1) a_17 b_18 limit_19 wasBalanced_20 wasPartitioned_21 l_22 = some l_5 := h
 rw [M116] at h
 refine Tr.block ?_
 refine sg ?_
 conv=>whnf
 refine arS_raw ?_
 conv=>whnf
 refine Tr.seq ?_
 refine sg ?_
 conv=>whnf
 refine Tr.cond ?_
 conv=>whnf
 refine cB h (fun hb26 h => ?_) (fun hb26 h => ?_)
 ·refine sg ?_
  conv=>whnf
  obtain ⟨l_27, hc28, h⟩ := bS h
  refine MC.ecall (P80 a_17 b_18 l_22 l_27 hc28) [0] (by decide) rfl rfl ?_ (fun rs Bs1 hrs => ?_)
  · exact ⟨⟨⟨_, rfl⟩, rfl⟩, trivial⟩
  obtain ⟨rfl, rfl⟩ := hrs
  conv=>whnf
  obtain ⟨_, hl29, h⟩ := bS h
  refine Tr.ret ?_
  conv=>whnf
  refine endH ?_
  conv=>whnf
  cases h
  exact endB rfl rfl rfl ⟨⟨_, rfl⟩, trivial⟩
 refine Tr.skip ?_
 conv=>whnf
 refine Tr.seq ?_
 refine sg ?_
 conv=>whnf
 refine Tr.cond ?_
 conv=>whnf
 refine cB h (fun hb30 h => ?_) (fun hb30 h => ?_)
 ·refine sg ?_
  conv=>whnf
  obtain ⟨l_31, hc32, h⟩ := bS h
  refine MC.ecall (P86 a_17 b_18 l_22 l_31 hc32) [0] (by decide) rfl rfl ?_ (fun rs Bs1 hrs => ?_)
  · exact ⟨⟨⟨_, rfl⟩, rfl⟩, trivial⟩
  obtain ⟨rfl, rfl⟩ := hrs
  conv=>whnf
  obtain ⟨_, hl33, h⟩ := bS h
  refine Tr.ret ?_
  conv=>whnf
  refine endH ?_
  conv=>whnf
  cases h
  exact endB rfl rfl rfl ⟨⟨_, rfl⟩, trivial⟩
 refine Tr.skip ?_
 conv=>whnf
 refine Tr.seq ?_
 refine sg ?_
 conv=>whnf
 obtain ⟨⟨limit_34, l_35⟩, hv36, h⟩ := bS h
 refine Tr.cutQ1 ([(0, .sl 0 2 0 (List.length l_35)), (1, (dI a_17)), (2, (dI b_18)), (3, (dI limit_34)), (4, .d (.fn 134 [])), (10, .d (.b wasBalanced_20)), (11, .d (.b wasPartitioned_21)), (12, (dI (w64 (b_18 - a_17))))]) ([some (.arr 2 (List.map .d (List.map eTSpan l_35)))]) ?_ (fun T1 H1 hw => ?_)
 ·replace h := hv36; clear hv36
  refine Tr.cond ?_
  conv=>whnf
  refine cB h (fun hb37 h => ?_) (fun hb37 h => ?_)
  ·refine sg ?_
   conv=>whnf
   obtain ⟨l_38, hc39, h⟩ := bS h
   refine MC.ecall (P114 a_17 b_18 l_22 l_38 hc39) [0] (by decide) rfl rfl ?_ (fun rs Bs1 hrs => ?_)
   · exact ⟨⟨⟨_, rfl⟩, rfl⟩, trivial⟩
   obtain ⟨rfl, rfl⟩ := hrs
   conv=>whnf
   obtain ⟨_, hl40, h⟩ := bS h
   refine rg ?_
   conv=>whnf
   refine arS_raw ?_
   conv=>whnf
   cases h
   exact Wk.mk2 [0] 1 rfl rfl (by decide) rfl ⟨daS_d rfl, trivial⟩ ⟨⟨rfl, (slEq (by first | rfl | simp [lenIs_eq hl40]))⟩, rr, rr, rr, rr, rr, rr, rr, trivial⟩
  refine Tr.skip ?_
  conv=>whnf
  cases h
  exact Wk.mk2 [0] 1 rfl rfl (by decide) rfl ⟨daS_d rfl, trivial⟩ ⟨rr, rr, rr, rr, rr, rr, rr, rr, trivial⟩
 clear hv36
 conv=>whnf
 refine Tr.weak hw ?_
 refine sg ?_
 conv=>whnf
 obtain ⟨⟨r_41, r_42⟩, hc43, h⟩ := bS h
 refine PC.ecall_lend ?_ ⟨_, _, func170, rfl, rfl⟩
 conv=>whnf
 refine frE_of (f := eTSpan) (l := l_35) rfl ?_
 conv=>whnf
 refine ⟨_, P90 l_35 a_17 b_18 r_41 r_42 hc43, fun rs hrs => ?_⟩
 subst hrs
 refine ⟨rfl, ?_⟩
 conv=>whnf
 refine Tr.seq ?_
 refine sg ?_
 conv=>whnf
 obtain ⟨⟨pivot_44, hint_45, l_46⟩, hv47, h⟩ := bS h
 refine Tr.cutQ1 ([(0, .sl 0 2 0 (List.length l_46)), (1, (dI a_17)), (2, (dI b_18)), (3, (dI limit_34)), (4, .d (.fn 134 [])), (10, .d (.b wasBalanced_20)), (11, .d (.b wasPartitioned_21)), (12, (dI (w64 (b_18 - a_17)))), (13, (dI pivot_44)), (14, (dI hint_45))]) ([some (.arr 2 (List.map .d (List.map eTSpan l_46)))]) ?_ (fun T1 H1 hw => ?_)
 ·replace h := hv47; clear hv47
  refine Tr.cond ?_
  conv=>whnf
  refine cB h (fun hb48 h => ?_) (fun hb48 h => ?_)
  ·refine sg ?_
   conv=>whnf
   obtain ⟨l_49, hc50, h⟩ := bS h
   refine MC.ecall (P92 a_17 b_18 l_35 l_49 hc50) [0] (by decide) rfl rfl ?_ (fun rs Bs1 hrs => ?_)
   · exact ⟨⟨⟨_, rfl⟩, rfl⟩, trivial⟩
   obtain ⟨rfl, rfl⟩ := hrs
   conv=>whnf
   obtain ⟨_, hl51, h⟩ := bS h
   refine sg ?_
   conv=>whnf
   refine arS_raw ?_
   conv=>whnf
   refine arS_raw ?_
   conv=>whnf
   refine arS_raw ?_
   conv=>whnf
   refine rg ?_
   conv=>whnf
   cases h
   exact Wk.mk2 [0] 1 rfl rfl (by decide) rfl ⟨daS_d rfl, trivial⟩ ⟨⟨rfl, (slEq (by first | rfl | simp [lenIs_eq hl51]))⟩, rr, rr, rr, rr, rr, rr, rr, rr, rr, trivial⟩
  refine Tr.skip ?_
  conv=>whnf
  cases h
  exact Wk.mk2 [0] 1 rfl rfl (by decide) rfl ⟨daS_d rfl, trivial⟩ ⟨rr, rr, rr, rr, rr, rr, rr, rr, rr, rr, trivial⟩
 clear hv47
 conv=>whnf
 refine Tr.weak hw ?_
 refine Tr.seq ?_
 refine Tr.seq ?_
 refine Tr.cutQ1 ([(0, .sl 0 2 0 (List.length l_46)), (1, (dI a_17)), (2, (dI b_18)), (3, (dI limit_34)), (4, .d (.fn 134 [])), (10, .d (.b wasBalanced_20)), (11, .d (.b wasPartitioned_21)), (12, (dI (w64 (b_18 - a_17)))), (13, (dI pivot_44)), (75, .d (.b (wasBalanced_20 && (wasPartitioned_21 && (hint_45 == 1)))))]) ([some (.arr 2 (List.map .d (List.map eTSpan l_46)))]) ?_ (fun T1 H1 hw => ?_)
 ·refine rg ?_
  conv=>whnf
  refine condS_mk (fun hb53 => ?_) (fun hb53 => ?_)
  ·conv=>whnf
   refine condS_mk (fun hb54 => ?_) (fun hb54 => ?_)
   ·conv=>whnf
    exact Wk.mk2 [0] 1 rfl rfl (by decide) rfl ⟨daS_d rfl, trivial⟩ ⟨rr, rr, rr, rr, rr, rr, rr, rr, rr, ⟨rfl, (by first | rfl | (simp only [↓hb26, ↓hb30, ↓hb53, ↓hb54, bl]; done) | (simp only [↓hb26, ↓hb30, ↓hb53, ↓hb54, bl]; rfl))⟩, trivial⟩
   conv=>whnf
   exact Wk.mk2 [0] 1 rfl rfl (by decide) rfl ⟨daS_d rfl, trivial⟩ ⟨rr, rr, rr, rr, rr, rr, rr, rr, rr, ⟨rfl, (by first | rfl | (simp only [↓hb26, ↓hb30, ↓hb53, ↓hb54, bl]; done) | (simp only [↓hb26, ↓hb30, ↓hb53, ↓hb54, bl]; rfl))⟩, trivial⟩
  conv=>whnf
  exact Wk.mk2 [0] 1 rfl rfl (by decide) rfl ⟨daS_d rfl, trivial⟩ ⟨rr, rr, rr, rr, rr, rr, rr, rr, rr, ⟨rfl, (by first | rfl | (simp only [↓hb26, ↓hb30, ↓hb53, bl]; done) | (simp only [↓hb26, ↓hb30, ↓hb53, bl]; rfl))⟩, trivial⟩
 conv=>whnf
 refine Tr.weak hw ?_
 refine Tr.cutQ (α := List TSpan) (fun s => ([(0, .sl 0 2 0 (List.length s)), (1, (dI a_17)), (2, (dI b_18)), (3, (dI limit_34)), (4, .d (.fn 134 [])), (10, .d (.b wasBalanced_20)), (11, .d (.b wasPartitioned_21)), (12, (dI (w64 (b_18 - a_17)))), (13, (dI pivot_44))], [some (.arr 2 (List.map .d (List.map eTSpan s)))])) (fun s => M115 a_17 b_18 wasBalanced_20 wasPartitioned_21 (M116 rc_9046 n_23) limit_34 pivot_44 rc_9046 s = some l_5) ?_ ?_
 ·refine Tr.cond ?_
  conv=>whnf
  refine cB h (fun hb80 h => ?_) (fun hb80 h => ?_)
  ·refine sg ?_
   conv=>whnf
   obtain ⟨⟨r_81, l_82⟩, hc83, h⟩ := bS h
   refine MC.ecall (P100 a_17 b_18 l_46 r_81 l_82 hc83) [0] (by decide) rfl rfl ?_ (fun rs Bs1 hrs => ?_)
   · exact ⟨⟨⟨_, rfl⟩, rfl⟩, trivial⟩
   obtain ⟨rfl, rfl⟩ := hrs
   conv=>whnf
   obtain ⟨_, hl84, h⟩ := bS h
   refine Tr.cond ?_
   conv=>whnf
   refine cB h (fun hb85 h => ?_) (fun hb85 h => ?_)
   ·refine Tr.ret ?_
    conv=>whnf
    refine endH ?_
    conv=>whnf
    cases h
    exact endB rfl rfl rfl ⟨⟨_, rfl⟩, trivial⟩
   refine Tr.skip ?_
   conv=>whnf
   refine ⟨(l_82), h, ?_⟩
   exact Wk.mk2 [0] 1 rfl rfl (by decide) rfl ⟨daS_d rfl, trivial⟩ ⟨⟨rfl, (slEq (by first | rfl | simp [lenIs_eq hl84]))⟩, rr, rr, rr, rr, rr, rr, rr, rr, trivial⟩
  refine Tr.skip ?_
  conv=>whnf
  refine ⟨(l_46), h, ?_⟩
  exact Wk.mk2 [0] 1 rfl rfl (by decide) rfl ⟨daS_d rfl, trivial⟩ ⟨rr, rr, rr, rr, rr, rr, rr, rr, rr, trivial⟩
 clear h
 rintro l_55 h T1 H1 hw
 replace h : M115 a_17 b_18 wasBalanced_20 wasPartitioned_21 (M116 rc_9046 n_23) limit_34 pivot_44 rc_9046 l_55 = some l_5 := h
 conv=>whnf
 refine Tr.weak hw ?_
 unfold M115 at h
 refine Tr.seq ?_
 refine Tr.seq ?_
 obtain ⟨v_56, hv57, h⟩ := bS h
 refine Tr.cutQ1 ([(0, .sl 0 2 0 (List.length l_55)), (1, (dI a_17)), (2, (dI b_18)), (3, (dI limit_34)), (4, .d (.fn 134 [])), (10, .d (.b wasBalanced_20)), (11, .d (.b wasPartitioned_21)), (12, (dI (w64 (b_18 - a_17)))), (13, (dI pivot_44)), (97, .d (.b v_56))]) ([some (.arr 2 (List.map .d (List.map eTSpan l_55)))]) ?_ (fun T1 H1 hw => ?_)
 ·replace h := hv57; clear hv57
  refine dq [] [(0,1),(1,1),(2,1),(3,1),(4,1),(5,1),(6,1),(7,3),(8,3),(9,1),(10,1),(11,3),(12,3),(13,1),(14,1),(15,1),(16,1)] ?_
  conv=>whnf
  refine q1 ?_
  conv=>whnf
  refine q1 ?_
  conv=>whnf
  refine q1 ?_
  conv=>whnf
  refine cB h (fun hb58 h => ?_) (fun hb58 h => ?_)
  ·conv=>whnf
   refine q1 ?_
   conv=>whnf
   refine q1 ?_
   conv=>whnf
   refine q1 ?_
   conv=>whnf
   refine q4 ?_
   conv=>whnf
   obtain ⟨x_59, hx_59, h⟩ := bS h
   refine q3 (ixS_of hx_59 rfl rr) ?_
   conv=>whnf
   refine q3 (elP_of hx_59 rr) ?_
   conv=>whnf
   refine q1 ?_
   conv=>whnf
   refine q1 ?_
   conv=>whnf
   obtain ⟨x_60, hx_60, h⟩ := bS h
   refine q3 (ixS_of hx_60 rfl rr) ?_
   conv=>whnf
   refine q3 (elP_of hx_60 rr) ?_
   conv=>whnf
   obtain ⟨r_61, hc62, h⟩ := bS h
   refine q1 ?_ (fun _ => pe (P77 x_59 x_60 r_61 hc62) rr)
   conv=>whnf
   refine q1 ?_
   conv=>whnf
   refine q1 ?_
   conv=>whnf
   refine q1 ?_
   conv=>whnf
   cases h
   exact Wk.mk2 [0] 1 rfl rfl (by decide) rfl ⟨daS_d rfl, trivial⟩ ⟨rr, rr, rr, rr, rr, rr, rr, rr, rr, rr, trivial⟩
  conv=>whnf
  refine q1 ?_
  conv=>whnf
  cases h
  exact Wk.mk2 [0] 1 rfl rfl (by decide) rfl ⟨daS_d rfl, trivial⟩ ⟨rr, rr, rr, rr, rr, rr, rr, rr, rr, rr, trivial⟩
 clear hv57
 conv=>whnf
 refine Tr.weak hw ?_
 refine Tr.cond ?_
 conv=>whnf
 refine cB h (fun hb63 h => ?_) (fun hb63 h => ?_)
 ·refine sg ?_
  conv=>whnf
  obtain ⟨⟨r_64, l_65⟩, hc66, h⟩ := bS h
  refine MC.ecall (P104 a_17 b_18 pivot_44 l_55 r_64 l_65 hc66) [0] (by decide) rfl rfl ?_ (fun rs Bs1 hrs => ?_)
  · exact ⟨⟨⟨_, rfl⟩, rfl⟩, trivial⟩
  obtain ⟨rfl, rfl⟩ := hrs
  conv=>whnf
  obtain ⟨_, hl67, h⟩ := bS h
  refine sg ?_
  conv=>whnf
  refine Tr.exit ?_
  conv=>whnf
  refine ⟨(r_64, b_18, limit_34, wasBalanced_20, wasPartitioned_21, l_65), h, ?_⟩
  exact Wk.mk2 [0] 1 rfl rfl (by decide) rfl ⟨daS_d rfl, trivial⟩ ⟨⟨rfl, (slEq (by first | rfl | simp [lenIs_eq hl67]))⟩, rr, rr, rr, rr, rr, rr, trivial⟩
 refine Tr.skip ?_
 conv=>whnf
 refine sg ?_
 conv=>whnf
 obtain ⟨⟨r_68, r_69, l_70⟩, hc71, h⟩ := bS h
 refine MC.ecall (P110 a_17 b_18 pivot_44 l_55 r_68 r_69 l_70 hc71) [0] (by decide) rfl rfl ?_ (fun rs Bs1 hrs => ?_)
 · exact ⟨⟨⟨_, rfl⟩, rfl⟩, trivial⟩
 obtain ⟨rfl, rfl⟩ := hrs
 conv=>whnf
 obtain ⟨_, hl72, h⟩ := bS h
 refine sg ?_
 conv=>whnf
 refine sg ?_
 conv=>whnf
 refine arS_raw ?_
 conv=>whnf
 refine arS_raw ?_
 conv=>whnf
 refine sg ?_
 conv=>whnf
 refine neS_mk (by decide) ?_
 conv=>whnf
 refine arS_raw ?_
 conv=>whnf
 refine sg ?_
 conv=>whnf
 refine Tr.cond ?_
 conv=>whnf
 refine cB h (fun hb73 h => ?_) (fun hb73 h => ?_)
 ·refine sg ?_
  conv=>whnf
  refine sg ?_
  conv=>whnf
  obtain ⟨l_74, hc75, h⟩ := bS h
  refine MC.ecall (ih_9046 a_17 r_68 limit_34 l_70 l_74 hc75) [0] (by decide) (by first | rfl | (simp only [List.length_set, lenIs_eq hl72]; rfl)) rfl ?_ (fun rs Bs1 hrs => ?_)
  · exact ⟨⟨⟨_, rfl⟩, rfl⟩, trivial⟩
  obtain ⟨rfl, rfl⟩ := hrs
  conv=>whnf
  obtain ⟨_, hl76, h⟩ := bS h
  refine rg ?_
  conv=>whnf
  refine arS_raw ?_
  conv=>whnf
  refine ⟨((w64 (r_68 + 1)), b_18, limit_34, (decide ((w64 (r_68 - a_17)) ≥ (w64 (Int.tdiv (w64 (b_18 - a_17)) 8)))), r_69, l_74), h, ?_⟩
  exact Wk.mk2 [0] 1 rfl rfl (by decide) rfl ⟨daS_d rfl, trivial⟩ ⟨⟨rfl, (slEq (by first | rfl | simp [lenIs_eq hl72, lenIs_eq hl76]))⟩, rr, rr, rr, rr, rr, rr, trivial⟩
 refine sg ?_
 conv=>whnf
 refine sg ?_
 conv=>whnf
 refine arS_raw ?_
 conv=>whnf
 obtain ⟨l_77, hc78, h⟩ := bS h
 refine MC.ecall (ih_9046 ((w64 (r_68 + 1))) b_18 limit_34 l_70 l_77 hc78) [0] (by decide) (by first | rfl | (simp only [List.length_set, lenIs_eq hl72]; rfl)) rfl ?_ (fun rs Bs1 hrs => ?_)
 · exact ⟨⟨⟨_, rfl⟩, rfl⟩, trivial⟩
 obtain ⟨rfl, rfl⟩ := hrs
 conv=>whnf
 obtain ⟨_, hl79, h⟩ := bS h
 refine rg ?_
 conv=>whnf
 refine ⟨(a_17, r_68, limit_34, (decide ((w64 (b_18 - r_68)) ≥ (w64 (Int.tdiv (w64 (b_18 - a_17)) 8)))), r_69, l_77), h, ?_⟩
 exact Wk.mk2 [0] 1 rfl rfl (by decide) rfl ⟨daS_d rfl, trivial⟩ ⟨⟨rfl, (slEq (by first | rfl | simp [lenIs_eq hl72, lenIs_eq hl79]))⟩, rr, rr, rr, rr, rr, rr, trivial⟩
theorem P118 (n : Nat) : ∀ (a_1 : Int) (b_2 : Int) (limit_3 : Int) (l_4 : List TSpan) (l_5 : List TSpan), M118 n a_1 b_2 limit_3 l_4 = some l_5 → MC prog 166 [.sl 0 2 0 (List.length l_4), (dI a_1), (dI b_2), (dI limit_3), .d (.fn 134 [])] [.arr 2 (List.map .d (List.map eTSpan l_4))] (fun rs Bs => rs = [] ∧ Bs = [.arr 2 (List.map .d (List.map eTSpan l_5))]) := by
  induction n with
  | zero =>
    intros
    rename_i h
    cases h
  | succ n ih => exact P117 (M118 n) ih
theorem P119 (l_1 : List TSpan) (l_2 : List TSpan) (h : M119 l_1 = some l_2) :
    MC prog 161 [.sl 0 2 0 (List.length l_1), .d (.fn 134 [])] [.arr 2 (List.map .d (List.map eTSpan l_1))] (fun rs Bs => rs = [] ∧ Bs = [.arr 2 (List.map .d (List.map eTSpan l_2))]) := by
 refine MC.of_tr (cx := ⟨14, none, lay, 1⟩) layOK func161 rfl rfl rfl rfl rfl (by simp [f161]) ?_
 refine Tr.unW ?_
 unfold M119 at h
 refine sg ?_
 conv=>whnf
 refine lnS_mk rfl ?_
 conv=>whnf
 refine rg ?_
 conv=>whnf
 refine arS_raw ?_
 conv=>whnf
 obtain ⟨r_3, hc4, h⟩ := bS h
 refine PC.ecall (P76 ((IntKind.wrap .u64 (((l_1).length : Int)))) r_3 hc4) (fun rs hrs => ?_)
 subst hrs
 conv=>whnf
 obtain ⟨l_5, hc6, h⟩ := bS h
 refine MC.ecall (P118 (List.length l_1 + 1) 0 ((((l_1).length : Int))) r_3 l_1 l_5 hc6) [0] (by decide) rfl rfl ?_ (fun rs Bs1 hrs => ?_)
 · exact ⟨⟨⟨_, rfl⟩, rfl⟩, trivial⟩
 obtain ⟨rfl, rfl⟩ := hrs
 conv=>whnf
 obtain ⟨_, hl7, h⟩ := bS h
 refine endH ?_
 conv=>whnf
 cases h
 exact endB rfl rfl rfl ⟨⟨_, rfl⟩, trivial⟩
theorem P121 (c_1 : List TSpan) (r_2 : List TSpan) (h : M121 c_1 = some r_2) :
    PC prog 132 [(.fn 162 [(.ro [(.ls (List.map eTSpan c_1))])]), (.fn 134 [])] (fun rs => rs = [(.ls (List.map eTSpan r_2))]) := by
 refine PC.of_tr (cx := ⟨12, none, lay, 0⟩) layOK func132 rfl rfl rfl rfl rfl (by simp [f132]) ?_
 unfold M121 at h
 refine sg ?_
 conv=>whnf
 refine sg ?_
 conv=>whnf
 refine ECall.of_tr (cx := ⟨5, none, lay, 0⟩) layOK func160 rfl rfl rfl rfl rfl (by simp [f160]) ?_
 refine sg ?_
 conv=>whnf
 refine sg ?_
 conv=>whnf
 refine ECall.of_tr (cx := ⟨13, none, lay, 0⟩) layOK func165 rfl rfl rfl rfl rfl (by simp [f165]) ?_
 refine sg ?_
 conv=>whnf
 refine Tr.seq ?_
 refine sg ?_
 conv=>whnf
 obtain ⟨l_3, hl4, h⟩ := bS h
 obtain ⟨l_10, hv14, h⟩ := bS h
 refine Tr.block ?_
 refine Tr.rangeM layOK rfl (ge := fun a => [(eTSpan a)]) rfl (P75 c_1 l_3 hl4) (fun _ => rfl) rfl (fun s => [some (.var [.sl 1 2 0 (List.length s)]), some (.arr 2 (List.map .d (List.map eTSpan s)))]) M120 ((([] : List TSpan))) l_10 hv14 (Wk.mk2 [0, 1] 1 rfl rfl (by decide) rfl ⟨⟨rfl, (by first | rfl | simp)⟩, rfl, trivial⟩ trivial) ?_ ?_
 ·clear h hv14
  rintro li y_5 l_7 s_8 ha h
  replace h : M120 y_5 l_7 = some s_8 := h
  unfold M120 at h
  dsimp only at h
  conv=>whnf
  refine Tr.block ?_
  refine rg ?_
  conv=>whnf
  refine orB_r ?_
  conv=>whnf
  refine frP_no ?_
  conv=>whnf
  refine eqS_mk (by first | rfl | simp) ?_
  conv=>whnf
  obtain ⟨l_9, hl_9, h⟩ := bS h
  refine apS_of hl_9 (aQ (f := eTSpan) (l := (([y_5] : List TSpan))) fun _ => rfl) (by first | rfl | simp) (by first | rfl | simp) (fun he => ?_)
  conv=>whnf
  refine rS (es' := List.map .d (List.map eTSpan l_9)) (n' := List.length l_9) (by subst he; simp only [List.map_append, List.map_cons, List.map_nil, List.nil_append]; first | done | rfl) (by subst he; simp <;> omega) ?_
  clear he
  conv=>whnf
  refine orB_l ?_
  conv=>whnf
  cases h
  exact Wk.mk2 [0, 3] 4 rfl rfl (by decide) rfl ⟨⟨rfl, (by first | rfl | simp)⟩, daS_d rfl, trivial⟩ trivial
 clear hv14
 conv=>whnf
 refine sg ?_
 conv=>whnf
 refine Tr.ret ?_
 conv=>whnf
 refine Tr.ret ?_
 conv=>whnf
 refine sg ?_
 conv=>whnf
 obtain ⟨l_11, hc12, h⟩ := bS h
 refine MC.ecall (P119 l_10 l_11 hc12) [1] (by decide) rfl rfl ?_ (fun rs Bs1 hrs => ?_)
 · exact ⟨⟨⟨_, rfl⟩, rfl⟩, trivial⟩
 obtain ⟨rfl, rfl⟩ := hrs
 conv=>whnf
 obtain ⟨_, hl13, h⟩ := bS h
 refine sg ?_
 conv=>whnf
 refine Tr.ret ?_
 conv=>whnf
 refine frE_of (f := eTSpan) (l := l_11) (by first | rfl | simp [lenIs_eq hl13]) ?_
 conv=>whnf
 cases h
 rfl
theorem P122 (a_1 : TSpan) (b_2 : TSpan) (r_3 : Bool) (h : M122 a_1 b_2 = some r_3) :
    PC prog 137 [(eTSpan a_1), (eTSpan b_2)] (fun rs => rs = [(.b r_3)]) := by
 refine PC.of_tr (cx := ⟨16, none, lay, 0⟩) layOK func137 rfl rfl rfl rfl rfl (by simp [f137]) ?_
 unfold M122 at h
 refine sg ?_
 conv=>whnf
 refine sg ?_
 conv=>whnf
 refine cB h (fun hb4 h => ?_) (fun hb4 h => ?_)
 ·conv=>whnf
  refine Tr.ret ?_
  conv=>whnf
  cases h
  rfl
 conv=>whnf
 refine arS_raw ?_
 conv=>whnf
 refine Tr.ret ?_
 conv=>whnf
 cases h
 rfl
theorem P123 (a_1 : TSpan) (b_2 : TSpan) (r_3 : TSpan) (h : M123 a_1 b_2 = some r_3) :
    PC prog 139 [(eTSpan a_1), (eTSpan b_2)] (fun rs => rs = [(eTSpan r_3)]) := by
 refine PC.of_tr (cx := ⟨13, none, lay, 0⟩) layOK func139 rfl rfl rfl rfl rfl (by simp [f139]) ?_
 unfold M123 at h
 refine sg ?_
 conv=>whnf
 refine sg ?_
 conv=>whnf
 refine Tr.ret ?_
 conv=>whnf
 cases h
 rfl
theorem P125 (l_1 : List TSpan) (r_2 : List TSpan) (h : M125 l_1 = some r_2) :
    PC prog 138 [(.ls (List.map eTSpan l_1)), (.fn 137 []), (.fn 139 [])] (fun rs => rs = [(.ls (List.map eTSpan r_2))]) := by
 refine PC.of_tr (cx := ⟨46, none, lay, 0⟩) layOK func138 rfl rfl rfl rfl rfl (by simp [f138]) ?_
 unfold M125 at h
 refine sg ?_
 conv=>whnf
 refine Tr.seq ?_
 refine sg ?_
 conv=>whnf
 refine lnS_map ?_
 conv=>whnf
 obtain ⟨l_8, hv25, h⟩ := bS h
 refine Tr.cutQ1 ([(6, .sl 0 2 0 (List.length l_8))]) ([some (.arr 2 (List.map .d (List.map eTSpan l_8)))]) ?_ (fun T1 H1 hw => ?_)
 ·replace h := hv25; clear hv25
  refine Tr.block ?_
  refine Tr.loopM (σ := Int × List TSpan) (fun n s => M124 l_1 n s.1 s.2) l_8 (fun s => ([(1, .d (.fn 137 [])), (2, .d (.fn 139 [])), (6, .sl 0 2 0 (List.length s.2)), (10, .d (.ls (List.map eTSpan l_1))), (11, (dI (((l_1).length : Int)))), (12, (dI s.1))], [some (.arr 2 (List.map .d (List.map eTSpan s.2)))])) (((((l_1).length : Int)) - 0 : Int).toNat + 1) (0, (([] : List TSpan))) h (fun s => rfl) (Wk.mk2 [0] 0 rfl rfl (by decide) rfl ⟨rfl, trivial⟩ ⟨rr, rr, ⟨rfl, (by first | rfl | simp)⟩, rr, rr, rr, trivial⟩) ?_
  clear h
  rintro n_7 ⟨v_5, l_6⟩ h
  replace h : M124 l_1 (n_7 + 1) v_5 l_6 = some l_8 := h
  rw [M124] at h
  refine sg ?_
  conv=>whnf
  refine Tr.seq ?_
  refine Tr.cond ?_
  conv=>whnf
  refine cB h (fun hb11 h => ?_) (fun hb11 h => ?_)
  ·refine Tr.skip ?_
   conv=>whnf
   refine Tr.seq ?_
   refine Tr.block ?_
   refine sg ?_
   conv=>whnf
   obtain ⟨x_12, hx_12, h⟩ := bS h
   refine ixP_of hx_12 ?_
   conv=>whnf
   refine sg ?_
   conv=>whnf
   refine lnS_mk rfl ?_
   conv=>whnf
   refine arS_raw ?_
   conv=>whnf
   refine Tr.seq ?_
   obtain ⟨v_13, hv14, h⟩ := bS h
   refine Tr.cutQ1 ([(1, .d (.fn 137 [])), (2, .d (.fn 139 [])), (6, .sl 0 2 0 (List.length l_6)), (8, .pt 1 0), (9, (dI (w64 ((((l_6).length : Int)) - 1)))), (10, .d (.ls (List.map eTSpan l_1))), (11, (dI (((l_1).length : Int)))), (12, (dI v_5)), (29, .d (.b v_13))]) ([some (.arr 2 (List.map .d (List.map eTSpan l_6))), some (.var [(dI x_12.Lo), (dI x_12.Hi)])]) ?_ (fun T1 H1 hw => ?_)
   ·replace h := hv14; clear hv14
    refine dq [] [(0,1),(1,1),(2,1),(3,1),(4,1),(5,1),(6,3),(7,3),(8,4),(9,1),(10,1)] ?_
    conv=>whnf
    refine q1 ?_
    conv=>whnf
    refine q1 ?_
    conv=>whnf
    refine q1 ?_
    conv=>whnf
    refine cB h (fun hb15 h => ?_) (fun hb15 h => ?_)
    ·conv=>whnf
     refine q1 ?_
     conv=>whnf
     refine q1 ?_
     conv=>whnf
     refine q1 ?_
     conv=>whnf
     obtain ⟨x_16, hx_16, h⟩ := bS h
     refine q3 (ixS_of hx_16 rfl rr) ?_
     conv=>whnf
     refine q3 (elP_of hx_16 rr) ?_
     conv=>whnf
     refine q2 ?_
     conv=>whnf
     obtain ⟨r_17, hc18, h⟩ := bS h
     refine q1 ?_ (fun _ => pe (P122 x_16 x_12 r_17 hc18) rr)
     conv=>whnf
     refine q1 ?_
     conv=>whnf
     cases h
     exact Wk.mk2 [0, 1] 2 rfl rfl (by decide) rfl ⟨daS_d rfl, rr, trivial⟩ ⟨rr, rr, rr, rr, rr, rr, rr, rr, rr, trivial⟩
    conv=>whnf
    refine q1 ?_
    conv=>whnf
    cases h
    exact Wk.mk2 [0, 1] 2 rfl rfl (by decide) rfl ⟨daS_d rfl, rr, trivial⟩ ⟨rr, rr, rr, rr, rr, rr, rr, rr, rr, trivial⟩
   clear hv14
   conv=>whnf
   refine Tr.weak hw ?_
   refine Tr.cond ?_
   conv=>whnf
   refine cB h (fun hb19 h => ?_) (fun hb19 h => ?_)
   ·refine dq [(10,0)] [(0,1),(1,1),(2,1),(3,1),(4,1),(5,3),(6,3),(7,4),(8,1),(9,3),(10,0)] ?_
    conv=>whnf
    refine q1 ?_
    conv=>whnf
    refine q1 ?_
    conv=>whnf
    refine q1 ?_
    conv=>whnf
    refine q1 ?_
    conv=>whnf
    refine q1 ?_
    conv=>whnf
    obtain ⟨x_20, hx_20, h⟩ := bS h
    refine q3 (ixS_of hx_20 rfl rr) ?_
    conv=>whnf
    refine q3 (elP_of hx_20 rr) ?_
    conv=>whnf
    refine q2 ?_
    conv=>whnf
    obtain ⟨r_21, hc22, h⟩ := bS h
    refine q1 ?_ (fun _ => pe (P123 x_20 x_12 r_21 hc22) rr)
    conv=>whnf
    obtain ⟨x_23, hx_23, h⟩ := bS h
    refine q3 (ixS_of hx_23 rfl rr) ?_
    conv=>whnf
    refine ⟨_, _, (by (conv=>whnf); (refine elP_of hx_23 ?_); (conv=>whnf); (refine lvS_mk (es' := List.map .d (List.map eTSpan (List.set l_6 (Int.toNat (w64 ((((l_6).length : Int)) - 1))) r_21))) (by simp only [Nat.zero_add, List.map_set]; first | done | rfl) ?_); (conv=>whnf); (exact rr)), kp_ok (by repeat (first | exact trivial | refine ⟨trivial, ?_⟩ | refine ⟨rfl, ?_⟩)), ?_⟩
    conv=>whnf
    refine rg ?_
    conv=>whnf
    refine arS_raw ?_
    conv=>whnf
    refine ⟨((w64 (v_5 + 1)), (List.set l_6 (Int.toNat (w64 ((((l_6).length : Int)) - 1))) r_21)), h, ?_⟩
    exact Wk.mk2 [0] 2 rfl rfl (by decide) rfl ⟨daS_d rfl, trivial⟩ ⟨rr, rr, ⟨rfl, (slEq (by first | rfl | simp))⟩, rr, rr, rr, trivial⟩
   refine rg ?_
   conv=>whnf
   refine orB_r ?_
   conv=>whnf
   refine frP_no ?_
   conv=>whnf
   refine eqS_mk (by first | rfl | simp) ?_
   conv=>whnf
   obtain ⟨l_24, hl_24, h⟩ := bS h
   refine apS_of hl_24 (aQ (f := eTSpan) (l := (([x_12] : List TSpan))) fun _ => rfl) (by first | rfl | simp) (by first | rfl | simp) (fun he => ?_)
   conv=>whnf
   refine rS (es' := List.map .d (List.map eTSpan l_24)) (n' := List.length l_24) (by subst he; simp only [List.map_append, List.map_cons, List.map_nil, List.nil_append]; first | done | rfl) (by subst he; simp <;> omega) ?_
   clear he
   conv=>whnf
   refine rg ?_
   conv=>whnf
   refine arS_raw ?_
   conv=>whnf
   refine ⟨((w64 (v_5 + 1)), l_24), h, ?_⟩
   exact Wk.mk2 [2] 3 rfl rfl (by decide) rfl ⟨daS_d rfl, trivial⟩ ⟨rr, rr, ⟨rfl, (by first | rfl | (simp only [↓hb11, ↓hb19, bl]; done) | (simp only [↓hb11, ↓hb19, bl]; rfl))⟩, rr, rr, rr, trivial⟩
  refine Tr.exit ?_
  conv=>whnf
  cases h
  exact Wk.mk2 [0] 1 rfl rfl (by decide) rfl ⟨daS_d rfl, trivial⟩ ⟨rr, trivial⟩
 clear hv25
 conv=>whnf
 refine Tr.weak hw ?_
 refine sg ?_
 conv=>whnf
 refine Tr.ret ?_
 conv=>whnf
 refine frE_of (f := eTSpan) (l := l_8) rfl ?_
 conv=>whnf
 cases h
 rfl
theorem P126 (l_1 : List TSpan) (r_2 : List TSpan) (h : M126 l_1 = some r_2) :
    PC prog 93 [(.ls (List.map eTSpan l_1))] (fun rs => rs = [(.ls (List.map eTSpan r_2))]) := by
 refine PC.of_tr (cx := ⟨10, none, lay, 0⟩) layOK func93 rfl rfl rfl rfl rfl (by simp [f93]) ?_
 unfold M126 at h
 refine sg ?_
 conv=>whnf
 refine sg ?_
 conv=>whnf
 obtain ⟨c_3, hc4, h⟩ := bS h
 refine PC.ecall (P72 l_1 c_3 hc4) (fun rs hrs => ?_)
 subst hrs
 conv=>whnf
 obtain ⟨r_5, hc6, h⟩ := bS h
 refine PC.ecall (P121 c_3 r_5 hc6) (fun rs hrs => ?_)
 subst hrs
 conv=>whnf
 refine sg ?_
 conv=>whnf
 refine sg ?_
 conv=>whnf
 obtain ⟨r_7, hc8, h⟩ := bS h
 refine PC.ecall (P125 r_5 r_7 hc8) (fun rs hrs => ?_)
 subst hrs
 conv=>whnf
 refine Tr.ret ?_
 conv=>whnf
 cases h
 rfl
end Go.Proofs.Tryz
