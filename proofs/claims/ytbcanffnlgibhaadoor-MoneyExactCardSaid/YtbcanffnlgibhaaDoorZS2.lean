/- Contracts of functions, by program (gen.py). No condition. -/
import Derived.Test.YtbcanffnlgibhaaDoorZL
import Derived.Test.YtbcanffnlgibhaaDoorZM
import Derived.Test.YtbcanffnlgibhaaDoorZCB
import Derived.Test.YtbcanffnlgibhaaDoorZS1
namespace Go.Proofs.Tryd
open Go Go.Abs Go.Stop
set_option maxRecDepth 8000
set_option linter.unusedVariables false
set_option linter.unusedSimpArgs false
theorem P22 (data_1 : List Tmoney_part) (a_2 : Int) (b_3 : Int) (c_4 : Int) (v_5 : Int) (r_6 : Int) (b_7 : Int) (h : M22 data_1 a_2 b_3 c_4 v_5 = some (r_6, b_7)) :
    MC prog 60 [.d (.ls (List.map eTmoney_part data_1)), (dI a_2), (dI b_3), (dI c_4), .pt 0 0, .d (.fn 22 [])] [.var [(dI v_5)]] (fun rs Bs => rs = [(.i .i64 r_6)] ∧ Bs = [.var [(dI b_7)]]) := by
 refine MC.of_tr (cx := ⟨41, none, lay, 1⟩) layOK func60 rfl rfl rfl rfl rfl (by simp [f60]) ?_
 refine Tr.unW ?_
 unfold M22 at h
 refine sg ?_
 conv=>whnf
 refine sg ?_
 conv=>whnf
 obtain ⟨⟨r_8, r_9, b_10⟩, hc11, h⟩ := bS h
 refine MC.ecall (P21 data_1 a_2 b_3 v_5 r_8 r_9 b_10 hc11) [0] (by decide) rfl rfl ?_ (fun rs Bs1 hrs => ?_)
 · exact ⟨⟨rfl, rfl⟩, trivial⟩
 obtain ⟨rfl, rfl⟩ := hrs
 conv=>whnf
 refine sg ?_
 conv=>whnf
 obtain ⟨⟨r_12, r_13, b_14⟩, hc15, h⟩ := bS h
 refine MC.ecall (P21 data_1 r_9 c_4 b_10 r_12 r_13 b_14 hc15) [0] (by decide) rfl rfl ?_ (fun rs Bs1 hrs => ?_)
 · exact ⟨⟨rfl, rfl⟩, trivial⟩
 obtain ⟨rfl, rfl⟩ := hrs
 conv=>whnf
 refine sg ?_
 conv=>whnf
 obtain ⟨⟨r_16, r_17, b_18⟩, hc19, h⟩ := bS h
 refine MC.ecall (P21 data_1 r_8 r_12 b_14 r_16 r_17 b_18 hc19) [0] (by decide) rfl rfl ?_ (fun rs Bs1 hrs => ?_)
 · exact ⟨⟨rfl, rfl⟩, trivial⟩
 obtain ⟨rfl, rfl⟩ := hrs
 conv=>whnf
 refine sg ?_
 conv=>whnf
 refine Tr.ret ?_
 conv=>whnf
 refine endH ?_
 conv=>whnf
 cases h
 exact endB rfl rfl rfl ⟨rfl, trivial⟩
theorem P23 (data_1 : List Tmoney_part) (a_2 : Int) (v_3 : Int) (r_4 : Int) (b_5 : Int) (h : M23 data_1 a_2 v_3 = some (r_4, b_5)) :
    MC prog 59 [.d (.ls (List.map eTmoney_part data_1)), (dI a_2), .pt 0 0, .d (.fn 22 [])] [.var [(dI v_3)]] (fun rs Bs => rs = [(.i .i64 r_4)] ∧ Bs = [.var [(dI b_5)]]) := by
 refine MC.of_tr (cx := ⟨18, none, lay, 1⟩) layOK func59 rfl rfl rfl rfl rfl (by simp [f59]) ?_
 refine Tr.unW ?_
 unfold M23 at h
 refine sg ?_
 conv=>whnf
 refine sg ?_
 conv=>whnf
 refine arS_raw ?_
 conv=>whnf
 refine arS_raw ?_
 conv=>whnf
 obtain ⟨⟨r_6, b_7⟩, hc8, h⟩ := bS h
 refine MC.ecall (P22 data_1 ((w64 (a_2 - 1))) a_2 ((w64 (a_2 + 1))) v_3 r_6 b_7 hc8) [0] (by decide) rfl rfl ?_ (fun rs Bs1 hrs => ?_)
 · exact ⟨⟨rfl, rfl⟩, trivial⟩
 obtain ⟨rfl, rfl⟩ := hrs
 conv=>whnf
 refine Tr.ret ?_
 conv=>whnf
 refine endH ?_
 conv=>whnf
 cases h
 exact endB rfl rfl rfl ⟨rfl, trivial⟩
theorem P24 (data_1 : List Tmoney_part) (a_2 : Int) (b_3 : Int) (r_4 : Int) (r_5 : Int) (h : M24 data_1 a_2 b_3 = some (r_4, r_5)) :
    PC prog 42 [(.ls (List.map eTmoney_part data_1)), (.i .i64 a_2), (.i .i64 b_3), (.fn 22 [])] (fun rs => rs = [(.i .i64 r_4), (.i .i64 r_5)]) := by
 refine PC.of_tr (cx := ⟨63, none, lay, 0⟩) layOK func42 rfl rfl rfl rfl rfl (by simp [f42]) ?_
 unfold M24 at h
 refine sg ?_
 conv=>whnf
 refine sg ?_
 conv=>whnf
 refine arS_raw ?_
 conv=>whnf
 refine sg ?_
 conv=>whnf
 refine sg ?_
 conv=>whnf
 refine neS_mk (by decide) ?_
 conv=>whnf
 refine arS_raw ?_
 conv=>whnf
 refine arS_raw ?_
 conv=>whnf
 refine arS_raw ?_
 conv=>whnf
 refine sg ?_
 conv=>whnf
 refine neS_mk (by decide) ?_
 conv=>whnf
 refine arS_raw ?_
 conv=>whnf
 refine arS_raw ?_
 conv=>whnf
 refine arS_raw ?_
 conv=>whnf
 refine sg ?_
 conv=>whnf
 refine neS_mk (by decide) ?_
 conv=>whnf
 refine arS_raw ?_
 conv=>whnf
 refine arS_raw ?_
 conv=>whnf
 refine arS_raw ?_
 conv=>whnf
 refine Tr.seq ?_
 refine sg ?_
 conv=>whnf
 refine Tr.cond ?_
 conv=>whnf
 refine cB h (fun hb6 h => ?_) (fun hb6 h => ?_)
 ·refine Tr.seq ?_
  refine sg ?_
  conv=>whnf
  refine Tr.cond ?_
  conv=>whnf
  refine cB h (fun hb7 h => ?_) (fun hb7 h => ?_)
  ·refine sg ?_
   conv=>whnf
   obtain ⟨⟨r_8, b_9⟩, hc10, h⟩ := bS h
   refine MC.ecall (P23 data_1 ((w64 (a_2 + (w64 ((w64 (Int.tdiv (w64 (b_3 - a_2)) 4)) * 1))))) 0 r_8 b_9 hc10) [0] (by decide) rfl rfl ?_ (fun rs Bs1 hrs => ?_)
   · exact ⟨⟨rfl, rfl⟩, trivial⟩
   obtain ⟨rfl, rfl⟩ := hrs
   conv=>whnf
   refine sg ?_
   conv=>whnf
   obtain ⟨⟨r_11, b_12⟩, hc13, h⟩ := bS h
   refine MC.ecall (P23 data_1 ((w64 (a_2 + (w64 ((w64 (Int.tdiv (w64 (b_3 - a_2)) 4)) * 2))))) b_9 r_11 b_12 hc13) [0] (by decide) rfl rfl ?_ (fun rs Bs1 hrs => ?_)
   · exact ⟨⟨rfl, rfl⟩, trivial⟩
   obtain ⟨rfl, rfl⟩ := hrs
   conv=>whnf
   refine rg ?_
   conv=>whnf
   obtain ⟨⟨r_14, b_15⟩, hc16, h⟩ := bS h
   refine MC.ecall (P23 data_1 ((w64 (a_2 + (w64 ((w64 (Int.tdiv (w64 (b_3 - a_2)) 4)) * 3))))) b_12 r_14 b_15 hc16) [0] (by decide) rfl rfl ?_ (fun rs Bs1 hrs => ?_)
   · exact ⟨⟨rfl, rfl⟩, trivial⟩
   obtain ⟨rfl, rfl⟩ := hrs
   conv=>whnf
   refine rg ?_
   conv=>whnf
   obtain ⟨⟨r_17, b_18⟩, hc19, h⟩ := bS h
   refine MC.ecall (P22 data_1 r_8 r_11 r_14 b_15 r_17 b_18 hc19) [0] (by decide) rfl rfl ?_ (fun rs Bs1 hrs => ?_)
   · exact ⟨⟨rfl, rfl⟩, trivial⟩
   obtain ⟨rfl, rfl⟩ := hrs
   conv=>whnf
   refine sg ?_
   conv=>whnf
   refine Tr.block ?_
   refine sg ?_
   conv=>whnf
   refine Tr.cond ?_
   conv=>whnf
   refine cB h (fun hb20 h => ?_) (fun hb20 h => ?_)
   ·refine sg ?_
    conv=>whnf
    refine Tr.ret ?_
    conv=>whnf
    cases h
    rfl
   refine sg ?_
   conv=>whnf
   refine Tr.cond ?_
   conv=>whnf
   refine cB h (fun hb21 h => ?_) (fun hb21 h => ?_)
   ·refine sg ?_
    conv=>whnf
    refine Tr.ret ?_
    conv=>whnf
    cases h
    rfl
   refine sg ?_
   conv=>whnf
   refine Tr.ret ?_
   conv=>whnf
   cases h
   rfl
  refine Tr.skip ?_
  conv=>whnf
  refine rg ?_
  conv=>whnf
  obtain ⟨⟨r_22, b_23⟩, hc24, h⟩ := bS h
  refine MC.ecall (P22 data_1 ((w64 (a_2 + (w64 ((w64 (Int.tdiv (w64 (b_3 - a_2)) 4)) * 1))))) ((w64 (a_2 + (w64 ((w64 (Int.tdiv (w64 (b_3 - a_2)) 4)) * 2))))) ((w64 (a_2 + (w64 ((w64 (Int.tdiv (w64 (b_3 - a_2)) 4)) * 3))))) 0 r_22 b_23 hc24) [0] (by decide) rfl rfl ?_ (fun rs Bs1 hrs => ?_)
  · exact ⟨⟨rfl, rfl⟩, trivial⟩
  obtain ⟨rfl, rfl⟩ := hrs
  conv=>whnf
  refine sg ?_
  conv=>whnf
  refine Tr.block ?_
  refine sg ?_
  conv=>whnf
  refine Tr.cond ?_
  conv=>whnf
  refine cB h (fun hb25 h => ?_) (fun hb25 h => ?_)
  ·refine sg ?_
   conv=>whnf
   refine Tr.ret ?_
   conv=>whnf
   cases h
   rfl
  refine sg ?_
  conv=>whnf
  refine Tr.cond ?_
  conv=>whnf
  refine cB h (fun hb26 h => ?_) (fun hb26 h => ?_)
  ·refine sg ?_
   conv=>whnf
   refine Tr.ret ?_
   conv=>whnf
   cases h
   rfl
  refine sg ?_
  conv=>whnf
  refine Tr.ret ?_
  conv=>whnf
  cases h
  rfl
 refine Tr.skip ?_
 conv=>whnf
 refine sg ?_
 conv=>whnf
 refine Tr.block ?_
 refine sg ?_
 conv=>whnf
 refine Tr.cond ?_
 conv=>whnf
 refine sg ?_
 conv=>whnf
 refine Tr.ret ?_
 conv=>whnf
 cases h
 rfl
theorem P26 (a_1 : Int) (b_2 : Int) (l_3 : List Tmoney_part) (l_4 : List Tmoney_part) (h : M26 a_1 b_2 l_3 = some l_4) :
    MC prog 43 [.sl 0 3 0 (List.length l_3), (dI a_1), (dI b_2), .d (.fn 22 [])] [.arr 3 (List.map .d (List.map eTmoney_part l_3))] (fun rs Bs => rs = [] ∧ Bs = [.arr 3 (List.map .d (List.map eTmoney_part l_4))]) := by
 refine MC.of_tr (cx := ⟨34, none, lay, 1⟩) layOK func43 rfl rfl rfl rfl rfl (by simp [f43]) ?_
 refine Tr.unW ?_
 unfold M26 at h
 refine sg ?_
 conv=>whnf
 refine sg ?_
 conv=>whnf
 refine arS_raw ?_
 conv=>whnf
 obtain ⟨l_12, hv20, h⟩ := bS h
 refine Tr.cutQ1 ([]) ([some (.arr 3 (List.map .d (List.map eTmoney_part l_12)))]) ?_ (fun T1 H1 hw => ?_)
 ·replace h := hv20; clear hv20
  refine Tr.block ?_
  refine Tr.loopM (σ := Int × Int × List Tmoney_part) (fun n s => M25 n s.1 s.2.1 s.2.2) l_12 (fun s => ([(0, .sl 0 3 0 (List.length s.2.2)), (8, (dI s.1)), (9, (dI s.2.1))], [some (.arr 3 (List.map .d (List.map eTmoney_part s.2.2)))])) (((w64 (b_2 - 1)) - a_1 : Int).toNat + 1) (a_1, (w64 (b_2 - 1)), l_3) h (fun s => rfl) (Wk.mk2 [0] 1 rfl rfl (by decide) rfl ⟨daS_d rfl, trivial⟩ ⟨rr, rr, rr, trivial⟩) ?_
  clear h
  rintro n_11 ⟨i_8, j_9, l_10⟩ h
  replace h : M25 (n_11 + 1) i_8 j_9 l_10 = some l_12 := h
  rw [M25] at h
  refine Tr.seq ?_
  refine sg ?_
  conv=>whnf
  refine Tr.cond ?_
  conv=>whnf
  refine cB h (fun hb15 h => ?_) (fun hb15 h => ?_)
  ·refine Tr.skip ?_
   conv=>whnf
   refine Tr.block ?_
   refine sd [(13,0),(15,0)] [(0,1),(1,1),(2,1),(3,1),(4,1),(5,1),(6,3),(7,3),(8,1),(9,1),(10,3),(11,3),(12,3),(13,0),(14,3),(15,0)] ?_
   conv=>whnf
   refine q1 ?_
   conv=>whnf
   refine q1 ?_
   conv=>whnf
   refine q1 ?_
   conv=>whnf
   refine q1 ?_
   conv=>whnf
   refine q1 ?_
   conv=>whnf
   refine q1 ?_
   conv=>whnf
   obtain ⟨x_16, hx_16, h⟩ := bS h
   refine q3 (ixS_of hx_16 rfl rr) ?_
   conv=>whnf
   refine q3 (elP_of hx_16 rr) ?_
   conv=>whnf
   refine q1 ?_
   conv=>whnf
   refine q1 ?_
   conv=>whnf
   obtain ⟨x_17, hx_17, h⟩ := bS h
   refine q3 (ixS_of hx_17 rfl rr) ?_
   conv=>whnf
   refine q3 (elP_of hx_17 rr) ?_
   conv=>whnf
   obtain ⟨x_18, hx_18, h⟩ := bS h
   refine q3 (ixS_of hx_18 rfl rr) ?_
   conv=>whnf
   refine ⟨_, _, (by (conv=>whnf); (refine elP_of hx_18 ?_); (conv=>whnf); (refine lvS_mk (es' := List.map .d (List.map eTmoney_part (List.set l_10 (Int.toNat i_8) x_16))) (by simp only [Nat.zero_add, List.map_set]; first | done | rfl) ?_); (conv=>whnf); (exact rr)), kp_ok (by repeat (first | exact trivial | refine ⟨trivial, ?_⟩ | refine ⟨rfl, ?_⟩)), ?_⟩
   conv=>whnf
   obtain ⟨x_19, hx_19, h⟩ := bS h
   refine q3 (ixS_of hx_19 (by first | rfl | simp) rr) ?_
   conv=>whnf
   refine ⟨_, _, (by (conv=>whnf); (refine elP_of hx_19 ?_); (conv=>whnf); (refine lvS_mk (es' := List.map .d (List.map eTmoney_part (List.set (List.set l_10 (Int.toNat i_8) x_16) (Int.toNat j_9) x_17))) (by simp only [Nat.zero_add, List.map_set]; first | done | rfl) ?_); (conv=>whnf); (exact rr)), kp_ok (by repeat (first | exact trivial | refine ⟨trivial, ?_⟩ | refine ⟨rfl, ?_⟩)), ?_⟩
   conv=>whnf
   refine sg ?_
   conv=>whnf
   refine arS_raw ?_
   conv=>whnf
   refine rg ?_
   conv=>whnf
   refine arS_raw ?_
   conv=>whnf
   refine ⟨((w64 (i_8 + 1)), (w64 (j_9 - 1)), (List.set (List.set l_10 (Int.toNat i_8) x_16) (Int.toNat j_9) x_17)), h, ?_⟩
   exact Wk.mk2 [0] 1 rfl rfl (by decide) rfl ⟨daS_d rfl, trivial⟩ ⟨⟨rfl, (slEq (by first | rfl | simp))⟩, rr, rr, trivial⟩
  refine Tr.exit ?_
  conv=>whnf
  cases h
  exact Wk.mk2 [0] 1 rfl rfl (by decide) rfl ⟨daS_d rfl, trivial⟩ trivial
 clear hv20
 conv=>whnf
 refine endW hw ?_
 conv=>whnf
 cases h
 exact endB rfl rfl rfl ⟨⟨_, rfl⟩, trivial⟩
theorem P34 (a_1 : Int) (b_2 : Int) (l_3 : List Tmoney_part) (r_4 : Bool) (l_5 : List Tmoney_part) (h : M34 a_1 b_2 l_3 = some (r_4, l_5)) :
    MC prog 44 [.sl 0 3 0 (List.length l_3), (dI a_1), (dI b_2), .d (.fn 22 [])] [.arr 3 (List.map .d (List.map eTmoney_part l_3))] (fun rs Bs => rs = [(.b r_4)] ∧ Bs = [.arr 3 (List.map .d (List.map eTmoney_part l_5))]) := by
 refine MC.of_tr (cx := ⟨141, none, lay, 1⟩) layOK func44 rfl rfl rfl rfl rfl (by simp [f44]) ?_
 refine Tr.unW ?_
 unfold M34 at h
 refine sg ?_
 conv=>whnf
 refine sg ?_
 conv=>whnf
 refine arS_raw ?_
 conv=>whnf
 refine Tr.seq ?_
 refine sg ?_
 conv=>whnf
 refine Tr.cutQ (α := List Tmoney_part) (fun s => ([(8, .d (.b false))], [some (.arr 3 (List.map .d (List.map eTmoney_part s)))])) (fun s => M33 s = some (r_4, l_5)) ?_ ?_
 ·refine Tr.block ?_
  refine Tr.loopM (σ := Int × Int × List Tmoney_part) (fun n s => M32 a_1 b_2 M33 n s.1 s.2.1 s.2.2) (r_4, l_5) (fun s => ([(0, .sl 0 3 0 (List.length s.2.2)), (1, (dI a_1)), (2, (dI b_2)), (3, .d (.fn 22 [])), (8, .d (.b false)), (9, (dI s.1)), (10, (dI s.2.1))], [some (.arr 3 (List.map .d (List.map eTmoney_part s.2.2)))])) ((5 - 0 : Int).toNat + 1) ((w64 (a_1 + 1)), 0, l_3) h (fun s => rfl) (Wk.mk2 [0] 1 rfl rfl (by decide) rfl ⟨daS_d rfl, trivial⟩ ⟨rr, rr, rr, rr, rr, rr, rr, trivial⟩) ?_
  clear h
  rintro n_12 ⟨i_9, j_10, l_11⟩ h
  replace h : M32 a_1 b_2 M33 (n_12 + 1) i_9 j_10 l_11 = some (r_4, l_5) := h
  rw [M32] at h
  refine Tr.seq ?_
  refine sg ?_
  conv=>whnf
  refine Tr.cond ?_
  conv=>whnf
  refine cB h (fun hb16 h => ?_) (fun hb16 h => ?_)
  ·refine Tr.skip ?_
   conv=>whnf
   refine Tr.seq ?_
   refine Tr.cutQ (α := Int × List Tmoney_part) (fun s => ([(0, .sl 0 3 0 (List.length s.2)), (1, (dI a_1)), (2, (dI b_2)), (3, .d (.fn 22 [])), (8, .d (.b false)), (9, (dI s.1)), (10, (dI j_10))], [some (.arr 3 (List.map .d (List.map eTmoney_part s.2)))])) (fun s => M27 j_10 (M32 a_1 b_2 M33 n_12) s.1 s.2 = some (r_4, l_5)) ?_ ?_
   ·refine Tr.block ?_
    refine Tr.seq ?_
    obtain ⟨i_22, hv31, h⟩ := bS h
    refine Tr.cutQ1 ([(0, .sl 0 3 0 (List.length l_11)), (1, (dI a_1)), (2, (dI b_2)), (3, .d (.fn 22 [])), (8, .d (.b false)), (9, (dI i_22)), (10, (dI j_10))]) ([some (.arr 3 (List.map .d (List.map eTmoney_part l_11)))]) ?_ (fun T1 H1 hw => ?_)
    ·replace h := hv31; clear hv31
     refine Tr.block ?_
     refine Tr.loopM (σ := Int) (fun n s => M28 b_2 l_11 n s) i_22 (fun s => ([(0, .sl 0 3 0 (List.length l_11)), (1, (dI a_1)), (2, (dI b_2)), (3, .d (.fn 22 [])), (8, .d (.b false)), (9, (dI s)), (10, (dI j_10))], [some (.arr 3 (List.map .d (List.map eTmoney_part l_11)))])) ((b_2 - i_9 : Int).toNat + 1) (i_9) h (fun s => rfl) (Wk.mk2 [0] 1 rfl rfl (by decide) rfl ⟨daS_d rfl, trivial⟩ ⟨rr, rr, rr, rr, rr, rr, rr, trivial⟩) ?_
     clear h
     rintro n_21 i_20 h
     replace h : M28 b_2 l_11 (n_21 + 1) i_20 = some i_22 := h
     rw [M28] at h
     refine Tr.seq ?_
     refine sd [] [(0,1),(1,1),(2,1),(3,1),(4,1),(5,1),(6,1),(7,3),(8,3),(9,1),(10,1),(11,1),(12,3),(13,3),(14,1),(15,1),(16,1),(17,1)] ?_
     conv=>whnf
     refine q1 ?_
     conv=>whnf
     refine q1 ?_
     conv=>whnf
     refine q1 ?_
     conv=>whnf
     refine q1 ?_
     conv=>whnf
     refine cB h (fun hb25 h => ?_) (fun hb25 h => ?_)
     ·conv=>whnf
      refine q1 ?_
      conv=>whnf
      refine q1 ?_
      conv=>whnf
      refine q1 ?_
      conv=>whnf
      obtain ⟨x_26, hx_26, h⟩ := bS h
      refine q3 (ixS_of hx_26 rfl rr) ?_
      conv=>whnf
      refine q3 (elP_of hx_26 rr) ?_
      conv=>whnf
      refine q1 ?_
      conv=>whnf
      refine q1 ?_
      conv=>whnf
      refine q4 ?_
      conv=>whnf
      obtain ⟨x_27, hx_27, h⟩ := bS h
      refine q3 (ixS_of hx_27 rfl rr) ?_
      conv=>whnf
      refine q3 (elP_of hx_27 rr) ?_
      conv=>whnf
      obtain ⟨r_28, hc29, h⟩ := bS h
      refine q1 ?_ (fun _ => pe (P11 x_26 x_27 r_28 hc29) rr)
      conv=>whnf
      refine q1 ?_
      conv=>whnf
      refine q1 ?_
      conv=>whnf
      refine q1 ?_
      conv=>whnf
      refine Tr.cond ?_
      conv=>whnf
      refine cB h (fun hb30 h => ?_) (fun hb30 h => ?_)
      ·refine Tr.skip ?_
       conv=>whnf
       refine Tr.block ?_
       refine rg ?_
       conv=>whnf
       refine arS_raw ?_
       conv=>whnf
       refine ⟨((w64 (i_20 + 1))), h, ?_⟩
       exact Wk.mk2 [0] 1 rfl rfl (by decide) rfl ⟨daS_d rfl, trivial⟩ ⟨rr, rr, rr, rr, rr, rr, rr, trivial⟩
      refine Tr.exit ?_
      conv=>whnf
      cases h
      exact Wk.mk2 [0] 1 rfl rfl (by decide) rfl ⟨daS_d rfl, trivial⟩ ⟨rr, rr, rr, rr, rr, rr, rr, trivial⟩
     conv=>whnf
     refine q1 ?_
     conv=>whnf
     refine Tr.cond ?_
     conv=>whnf
     refine Tr.exit ?_
     conv=>whnf
     cases h
     exact Wk.mk2 [0] 1 rfl rfl (by decide) rfl ⟨daS_d rfl, trivial⟩ ⟨rr, rr, rr, rr, rr, rr, rr, trivial⟩
    clear hv31
    conv=>whnf
    refine Tr.weak hw ?_
    refine Tr.seq ?_
    refine sg ?_
    conv=>whnf
    refine Tr.cond ?_
    conv=>whnf
    refine cB h (fun hb32 h => ?_) (fun hb32 h => ?_)
    ·refine sg ?_
     conv=>whnf
     refine Tr.ret ?_
     conv=>whnf
     refine endH ?_
     conv=>whnf
     cases h
     exact endB rfl rfl rfl ⟨⟨_, rfl⟩, trivial⟩
    refine Tr.skip ?_
    conv=>whnf
    refine Tr.seq ?_
    refine sg ?_
    conv=>whnf
    refine arS_raw ?_
    conv=>whnf
    refine Tr.cond ?_
    conv=>whnf
    refine cB h (fun hb33 h => ?_) (fun hb33 h => ?_)
    ·refine sg ?_
     conv=>whnf
     refine Tr.ret ?_
     conv=>whnf
     refine endH ?_
     conv=>whnf
     cases h
     exact endB rfl rfl rfl ⟨⟨_, rfl⟩, trivial⟩
    refine Tr.skip ?_
    conv=>whnf
    refine sd [(15,0),(17,0)] [(0,1),(1,1),(2,1),(3,1),(4,1),(5,1),(6,1),(7,1),(8,3),(9,3),(10,1),(11,1),(12,3),(13,3),(14,3),(15,0),(16,3),(17,0)] ?_
    conv=>whnf
    refine q1 ?_
    conv=>whnf
    refine q1 ?_
    conv=>whnf
    refine q1 ?_
    conv=>whnf
    refine q1 ?_
    conv=>whnf
    refine q4 ?_
    conv=>whnf
    refine q1 ?_
    conv=>whnf
    refine q1 ?_
    conv=>whnf
    refine q4 ?_
    conv=>whnf
    obtain ⟨x_34, hx_34, h⟩ := bS h
    refine q3 (ixS_of hx_34 rfl rr) ?_
    conv=>whnf
    refine q3 (elP_of hx_34 rr) ?_
    conv=>whnf
    refine q1 ?_
    conv=>whnf
    refine q1 ?_
    conv=>whnf
    obtain ⟨x_35, hx_35, h⟩ := bS h
    refine q3 (ixS_of hx_35 rfl rr) ?_
    conv=>whnf
    refine q3 (elP_of hx_35 rr) ?_
    conv=>whnf
    obtain ⟨x_36, hx_36, h⟩ := bS h
    refine q3 (ixS_of hx_36 rfl rr) ?_
    conv=>whnf
    refine ⟨_, _, (by (conv=>whnf); (refine elP_of hx_36 ?_); (conv=>whnf); (refine lvS_mk (es' := List.map .d (List.map eTmoney_part (List.set l_11 (Int.toNat i_22) x_34))) (by simp only [Nat.zero_add, List.map_set]; first | done | rfl) ?_); (conv=>whnf); (exact rr)), kp_ok (by repeat (first | exact trivial | refine ⟨trivial, ?_⟩ | refine ⟨rfl, ?_⟩)), ?_⟩
    conv=>whnf
    obtain ⟨x_37, hx_37, h⟩ := bS h
    refine q3 (ixS_of hx_37 (by first | rfl | simp) rr) ?_
    conv=>whnf
    refine ⟨_, _, (by (conv=>whnf); (refine elP_of hx_37 ?_); (conv=>whnf); (refine lvS_mk (es' := List.map .d (List.map eTmoney_part (List.set (List.set l_11 (Int.toNat i_22) x_34) (Int.toNat (w64 (i_22 - 1))) x_35))) (by simp only [Nat.zero_add, List.map_set]; first | done | rfl) ?_); (conv=>whnf); (exact rr)), kp_ok (by repeat (first | exact trivial | refine ⟨trivial, ?_⟩ | refine ⟨rfl, ?_⟩)), ?_⟩
    conv=>whnf
    refine Tr.seq ?_
    refine sg ?_
    conv=>whnf
    refine arS_raw ?_
    conv=>whnf
    refine Tr.cond ?_
    conv=>whnf
    refine cB h (fun hb38 h => ?_) (fun hb38 h => ?_)
    ·refine sg ?_
     conv=>whnf
     refine arS_raw ?_
     conv=>whnf
     obtain ⟨l_44, hv57, h⟩ := bS h
     refine Tr.cutQ1 ([(0, .sl 0 3 0 (List.length l_44)), (1, (dI a_1)), (2, (dI b_2)), (3, .d (.fn 22 [])), (8, .d (.b false)), (9, (dI i_22)), (10, (dI j_10))]) ([some (.arr 3 (List.map .d (List.map eTmoney_part l_44)))]) ?_ (fun T1 H1 hw => ?_)
     ·replace h := hv57; clear hv57
      refine Tr.block ?_
      refine Tr.loopM (σ := Int × List Tmoney_part) (fun n s => M29 n s.1 s.2) l_44 (fun s => ([(0, .sl 0 3 0 (List.length s.2)), (1, (dI a_1)), (2, (dI b_2)), (3, .d (.fn 22 [])), (8, .d (.b false)), (9, (dI i_22)), (10, (dI j_10)), (11, (dI s.1))], [some (.arr 3 (List.map .d (List.map eTmoney_part s.2)))])) (((w64 (i_22 - 1)) + 1 - 1 : Int).toNat + 1) ((w64 (i_22 - 1)), (List.set (List.set l_11 (Int.toNat i_22) x_34) (Int.toNat (w64 (i_22 - 1))) x_35)) h (fun s => rfl) (Wk.mk2 [0] 1 rfl rfl (by decide) rfl ⟨daS_d rfl, trivial⟩ ⟨⟨rfl, (slEq (by first | rfl | simp))⟩, rr, rr, rr, rr, rr, rr, rr, trivial⟩) ?_
      clear h
      rintro n_43 ⟨j_41, l_42⟩ h
      replace h : M29 (n_43 + 1) j_41 l_42 = some l_44 := h
      rw [M29] at h
      refine Tr.seq ?_
      refine sg ?_
      conv=>whnf
      refine Tr.cond ?_
      conv=>whnf
      refine cB h (fun hb47 h => ?_) (fun hb47 h => ?_)
      ·refine Tr.skip ?_
       conv=>whnf
       refine Tr.seq ?_
       refine Tr.block ?_
       refine Tr.seq ?_
       refine sd [] [(0,1),(1,1),(2,1),(3,3),(4,3),(5,1),(6,1),(7,1),(8,3),(9,3),(10,1),(11,1),(12,1)] ?_
       conv=>whnf
       refine q1 ?_
       conv=>whnf
       refine q1 ?_
       conv=>whnf
       refine q1 ?_
       conv=>whnf
       obtain ⟨x_48, hx_48, h⟩ := bS h
       refine q3 (ixS_of hx_48 rfl rr) ?_
       conv=>whnf
       refine q3 (elP_of hx_48 rr) ?_
       conv=>whnf
       refine q1 ?_
       conv=>whnf
       refine q1 ?_
       conv=>whnf
       refine q4 ?_
       conv=>whnf
       obtain ⟨x_49, hx_49, h⟩ := bS h
       refine q3 (ixS_of hx_49 rfl rr) ?_
       conv=>whnf
       refine q3 (elP_of hx_49 rr) ?_
       conv=>whnf
       obtain ⟨r_50, hc51, h⟩ := bS h
       refine q1 ?_ (fun _ => pe (P11 x_48 x_49 r_50 hc51) rr)
       conv=>whnf
       refine q1 ?_
       conv=>whnf
       refine q1 ?_
       conv=>whnf
       refine Tr.cond ?_
       conv=>whnf
       refine cB h (fun hb52 h => ?_) (fun hb52 h => ?_)
       ·refine Tr.exit ?_
        conv=>whnf
        cases h
        exact Wk.mk2 [0] 1 rfl rfl (by decide) rfl ⟨daS_d rfl, trivial⟩ ⟨rr, rr, rr, rr, rr, rr, rr, trivial⟩
       refine Tr.skip ?_
       conv=>whnf
       refine dq [(15,0),(17,0)] [(0,1),(1,1),(2,1),(3,1),(4,1),(5,1),(6,1),(7,1),(8,3),(9,3),(10,1),(11,1),(12,3),(13,3),(14,3),(15,0),(16,3),(17,0)] ?_
       conv=>whnf
       refine q1 ?_
       conv=>whnf
       refine q1 ?_
       conv=>whnf
       refine q1 ?_
       conv=>whnf
       refine q1 ?_
       conv=>whnf
       refine q4 ?_
       conv=>whnf
       refine q1 ?_
       conv=>whnf
       refine q1 ?_
       conv=>whnf
       refine q4 ?_
       conv=>whnf
       obtain ⟨x_53, hx_53, h⟩ := bS h
       refine q3 (ixS_of hx_53 rfl rr) ?_
       conv=>whnf
       refine q3 (elP_of hx_53 rr) ?_
       conv=>whnf
       refine q1 ?_
       conv=>whnf
       refine q1 ?_
       conv=>whnf
       obtain ⟨x_54, hx_54, h⟩ := bS h
       refine q3 (ixS_of hx_54 rfl rr) ?_
       conv=>whnf
       refine q3 (elP_of hx_54 rr) ?_
       conv=>whnf
       obtain ⟨x_55, hx_55, h⟩ := bS h
       refine q3 (ixS_of hx_55 rfl rr) ?_
       conv=>whnf
       refine ⟨_, _, (by (conv=>whnf); (refine elP_of hx_55 ?_); (conv=>whnf); (refine lvS_mk (es' := List.map .d (List.map eTmoney_part (List.set l_42 (Int.toNat j_41) x_53))) (by simp only [Nat.zero_add, List.map_set]; first | done | rfl) ?_); (conv=>whnf); (exact rr)), kp_ok (by repeat (first | exact trivial | refine ⟨trivial, ?_⟩ | refine ⟨rfl, ?_⟩)), ?_⟩
       conv=>whnf
       obtain ⟨x_56, hx_56, h⟩ := bS h
       refine q3 (ixS_of hx_56 (by first | rfl | simp) rr) ?_
       conv=>whnf
       refine ⟨_, _, (by (conv=>whnf); (refine elP_of hx_56 ?_); (conv=>whnf); (refine lvS_mk (es' := List.map .d (List.map eTmoney_part (List.set (List.set l_42 (Int.toNat j_41) x_53) (Int.toNat (w64 (j_41 - 1))) x_54))) (by simp only [Nat.zero_add, List.map_set]; first | done | rfl) ?_); (conv=>whnf); (exact rr)), kp_ok (by repeat (first | exact trivial | refine ⟨trivial, ?_⟩ | refine ⟨rfl, ?_⟩)), ?_⟩
       conv=>whnf
       refine rg ?_
       conv=>whnf
       refine arS_raw ?_
       conv=>whnf
       refine ⟨((w64 (j_41 - 1)), (List.set (List.set l_42 (Int.toNat j_41) x_53) (Int.toNat (w64 (j_41 - 1))) x_54)), h, ?_⟩
       exact Wk.mk2 [0] 1 rfl rfl (by decide) rfl ⟨daS_d rfl, trivial⟩ ⟨⟨rfl, (slEq (by first | rfl | simp))⟩, rr, rr, rr, rr, rr, rr, rr, trivial⟩
      refine Tr.exit ?_
      conv=>whnf
      cases h
      exact Wk.mk2 [0] 1 rfl rfl (by decide) rfl ⟨daS_d rfl, trivial⟩ ⟨rr, rr, rr, rr, rr, rr, rr, trivial⟩
     clear hv57
     conv=>whnf
     refine Tr.weak hw ?_
     refine sg ?_
     conv=>whnf
     refine arS_raw ?_
     conv=>whnf
     refine Tr.cond ?_
     conv=>whnf
     refine cB h (fun hb58 h => ?_) (fun hb58 h => ?_)
     ·refine sg ?_
      conv=>whnf
      refine arS_raw ?_
      conv=>whnf
      obtain ⟨l_64, hv77, h⟩ := bS h
      refine Tr.cutQ1 ([(0, .sl 0 3 0 (List.length l_64)), (1, (dI a_1)), (2, (dI b_2)), (3, .d (.fn 22 [])), (8, .d (.b false)), (9, (dI i_22)), (10, (dI j_10))]) ([some (.arr 3 (List.map .d (List.map eTmoney_part l_64)))]) ?_ (fun T1 H1 hw => ?_)
      ·replace h := hv77; clear hv77
       refine Tr.block ?_
       refine Tr.loopM (σ := Int × List Tmoney_part) (fun n s => M30 b_2 n s.1 s.2) l_64 (fun s => ([(0, .sl 0 3 0 (List.length s.2)), (1, (dI a_1)), (2, (dI b_2)), (3, .d (.fn 22 [])), (8, .d (.b false)), (9, (dI i_22)), (10, (dI j_10)), (12, (dI s.1))], [some (.arr 3 (List.map .d (List.map eTmoney_part s.2)))])) ((b_2 - (w64 (i_22 + 1)) : Int).toNat + 1) ((w64 (i_22 + 1)), l_44) h (fun s => rfl) (Wk.mk2 [0] 1 rfl rfl (by decide) rfl ⟨daS_d rfl, trivial⟩ ⟨rr, rr, rr, rr, rr, rr, rr, rr, trivial⟩) ?_
       clear h
       rintro n_63 ⟨j_61, l_62⟩ h
       replace h : M30 b_2 (n_63 + 1) j_61 l_62 = some l_64 := h
       rw [M30] at h
       refine Tr.seq ?_
       refine sg ?_
       conv=>whnf
       refine Tr.cond ?_
       conv=>whnf
       refine cB h (fun hb67 h => ?_) (fun hb67 h => ?_)
       ·refine Tr.skip ?_
        conv=>whnf
        refine Tr.seq ?_
        refine Tr.block ?_
        refine Tr.seq ?_
        refine sd [] [(0,1),(1,1),(2,1),(3,3),(4,3),(5,1),(6,1),(7,1),(8,3),(9,3),(10,1),(11,1),(12,1)] ?_
        conv=>whnf
        refine q1 ?_
        conv=>whnf
        refine q1 ?_
        conv=>whnf
        refine q1 ?_
        conv=>whnf
        obtain ⟨x_68, hx_68, h⟩ := bS h
        refine q3 (ixS_of hx_68 rfl rr) ?_
        conv=>whnf
        refine q3 (elP_of hx_68 rr) ?_
        conv=>whnf
        refine q1 ?_
        conv=>whnf
        refine q1 ?_
        conv=>whnf
        refine q4 ?_
        conv=>whnf
        obtain ⟨x_69, hx_69, h⟩ := bS h
        refine q3 (ixS_of hx_69 rfl rr) ?_
        conv=>whnf
        refine q3 (elP_of hx_69 rr) ?_
        conv=>whnf
        obtain ⟨r_70, hc71, h⟩ := bS h
        refine q1 ?_ (fun _ => pe (P11 x_68 x_69 r_70 hc71) rr)
        conv=>whnf
        refine q1 ?_
        conv=>whnf
        refine q1 ?_
        conv=>whnf
        refine Tr.cond ?_
        conv=>whnf
        refine cB h (fun hb72 h => ?_) (fun hb72 h => ?_)
        ·refine Tr.exit ?_
         conv=>whnf
         cases h
         exact Wk.mk2 [0] 1 rfl rfl (by decide) rfl ⟨daS_d rfl, trivial⟩ ⟨rr, rr, rr, rr, rr, rr, rr, trivial⟩
        refine Tr.skip ?_
        conv=>whnf
        refine dq [(15,0),(17,0)] [(0,1),(1,1),(2,1),(3,1),(4,1),(5,1),(6,1),(7,1),(8,3),(9,3),(10,1),(11,1),(12,3),(13,3),(14,3),(15,0),(16,3),(17,0)] ?_
        conv=>whnf
        refine q1 ?_
        conv=>whnf
        refine q1 ?_
        conv=>whnf
        refine q1 ?_
        conv=>whnf
        refine q1 ?_
        conv=>whnf
        refine q4 ?_
        conv=>whnf
        refine q1 ?_
        conv=>whnf
        refine q1 ?_
        conv=>whnf
        refine q4 ?_
        conv=>whnf
        obtain ⟨x_73, hx_73, h⟩ := bS h
        refine q3 (ixS_of hx_73 rfl rr) ?_
        conv=>whnf
        refine q3 (elP_of hx_73 rr) ?_
        conv=>whnf
        refine q1 ?_
        conv=>whnf
        refine q1 ?_
        conv=>whnf
        obtain ⟨x_74, hx_74, h⟩ := bS h
        refine q3 (ixS_of hx_74 rfl rr) ?_
        conv=>whnf
        refine q3 (elP_of hx_74 rr) ?_
        conv=>whnf
        obtain ⟨x_75, hx_75, h⟩ := bS h
        refine q3 (ixS_of hx_75 rfl rr) ?_
        conv=>whnf
        refine ⟨_, _, (by (conv=>whnf); (refine elP_of hx_75 ?_); (conv=>whnf); (refine lvS_mk (es' := List.map .d (List.map eTmoney_part (List.set l_62 (Int.toNat j_61) x_73))) (by simp only [Nat.zero_add, List.map_set]; first | done | rfl) ?_); (conv=>whnf); (exact rr)), kp_ok (by repeat (first | exact trivial | refine ⟨trivial, ?_⟩ | refine ⟨rfl, ?_⟩)), ?_⟩
        conv=>whnf
        obtain ⟨x_76, hx_76, h⟩ := bS h
        refine q3 (ixS_of hx_76 (by first | rfl | simp) rr) ?_
        conv=>whnf
        refine ⟨_, _, (by (conv=>whnf); (refine elP_of hx_76 ?_); (conv=>whnf); (refine lvS_mk (es' := List.map .d (List.map eTmoney_part (List.set (List.set l_62 (Int.toNat j_61) x_73) (Int.toNat (w64 (j_61 - 1))) x_74))) (by simp only [Nat.zero_add, List.map_set]; first | done | rfl) ?_); (conv=>whnf); (exact rr)), kp_ok (by repeat (first | exact trivial | refine ⟨trivial, ?_⟩ | refine ⟨rfl, ?_⟩)), ?_⟩
        conv=>whnf
        refine rg ?_
        conv=>whnf
        refine arS_raw ?_
        conv=>whnf
        refine ⟨((w64 (j_61 + 1)), (List.set (List.set l_62 (Int.toNat j_61) x_73) (Int.toNat (w64 (j_61 - 1))) x_74)), h, ?_⟩
        exact Wk.mk2 [0] 1 rfl rfl (by decide) rfl ⟨daS_d rfl, trivial⟩ ⟨⟨rfl, (slEq (by first | rfl | simp))⟩, rr, rr, rr, rr, rr, rr, rr, trivial⟩
       refine Tr.exit ?_
       conv=>whnf
       cases h
       exact Wk.mk2 [0] 1 rfl rfl (by decide) rfl ⟨daS_d rfl, trivial⟩ ⟨rr, rr, rr, rr, rr, rr, rr, trivial⟩
      clear hv77
      conv=>whnf
      refine ⟨(i_22, l_64), h, ?_⟩
      refine Wk.trans (F := 1) hw ?_
      exact Wk.mk2 [0] 1 rfl rfl (by decide) rfl ⟨daS_d rfl, trivial⟩ ⟨rr, rr, rr, rr, rr, rr, rr, trivial⟩
     refine Tr.skip ?_
     conv=>whnf
     refine ⟨(i_22, l_44), h, ?_⟩
     exact Wk.mk2 [0] 1 rfl rfl (by decide) rfl ⟨daS_d rfl, trivial⟩ ⟨rr, rr, rr, rr, rr, rr, rr, trivial⟩
    refine Tr.skip ?_
    conv=>whnf
    refine sg ?_
    conv=>whnf
    refine arS_raw ?_
    conv=>whnf
    refine Tr.cond ?_
    conv=>whnf
    refine cB h (fun hb78 h => ?_) (fun hb78 h => ?_)
    ·refine sg ?_
     conv=>whnf
     refine arS_raw ?_
     conv=>whnf
     obtain ⟨l_84, hv97, h⟩ := bS h
     refine Tr.cutQ1 ([(0, .sl 0 3 0 (List.length l_84)), (1, (dI a_1)), (2, (dI b_2)), (3, .d (.fn 22 [])), (8, .d (.b false)), (9, (dI i_22)), (10, (dI j_10))]) ([some (.arr 3 (List.map .d (List.map eTmoney_part l_84)))]) ?_ (fun T1 H1 hw => ?_)
     ·replace h := hv97; clear hv97
      refine Tr.block ?_
      refine Tr.loopM (σ := Int × List Tmoney_part) (fun n s => M31 b_2 n s.1 s.2) l_84 (fun s => ([(0, .sl 0 3 0 (List.length s.2)), (1, (dI a_1)), (2, (dI b_2)), (3, .d (.fn 22 [])), (8, .d (.b false)), (9, (dI i_22)), (10, (dI j_10)), (12, (dI s.1))], [some (.arr 3 (List.map .d (List.map eTmoney_part s.2)))])) ((b_2 - (w64 (i_22 + 1)) : Int).toNat + 1) ((w64 (i_22 + 1)), (List.set (List.set l_11 (Int.toNat i_22) x_34) (Int.toNat (w64 (i_22 - 1))) x_35)) h (fun s => rfl) (Wk.mk2 [0] 1 rfl rfl (by decide) rfl ⟨daS_d rfl, trivial⟩ ⟨⟨rfl, (slEq (by first | rfl | simp))⟩, rr, rr, rr, rr, rr, rr, rr, trivial⟩) ?_
      clear h
      rintro n_83 ⟨j_81, l_82⟩ h
      replace h : M31 b_2 (n_83 + 1) j_81 l_82 = some l_84 := h
      rw [M31] at h
      refine Tr.seq ?_
      refine sg ?_
      conv=>whnf
      refine Tr.cond ?_
      conv=>whnf
      refine cB h (fun hb87 h => ?_) (fun hb87 h => ?_)
      ·refine Tr.skip ?_
       conv=>whnf
       refine Tr.seq ?_
       refine Tr.block ?_
       refine Tr.seq ?_
       refine sd [] [(0,1),(1,1),(2,1),(3,3),(4,3),(5,1),(6,1),(7,1),(8,3),(9,3),(10,1),(11,1),(12,1)] ?_
       conv=>whnf
       refine q1 ?_
       conv=>whnf
       refine q1 ?_
       conv=>whnf
       refine q1 ?_
       conv=>whnf
       obtain ⟨x_88, hx_88, h⟩ := bS h
       refine q3 (ixS_of hx_88 rfl rr) ?_
       conv=>whnf
       refine q3 (elP_of hx_88 rr) ?_
       conv=>whnf
       refine q1 ?_
       conv=>whnf
       refine q1 ?_
       conv=>whnf
       refine q4 ?_
       conv=>whnf
       obtain ⟨x_89, hx_89, h⟩ := bS h
       refine q3 (ixS_of hx_89 rfl rr) ?_
       conv=>whnf
       refine q3 (elP_of hx_89 rr) ?_
       conv=>whnf
       obtain ⟨r_90, hc91, h⟩ := bS h
       refine q1 ?_ (fun _ => pe (P11 x_88 x_89 r_90 hc91) rr)
       conv=>whnf
       refine q1 ?_
       conv=>whnf
       refine q1 ?_
       conv=>whnf
       refine Tr.cond ?_
       conv=>whnf
       refine cB h (fun hb92 h => ?_) (fun hb92 h => ?_)
       ·refine Tr.exit ?_
        conv=>whnf
        cases h
        exact Wk.mk2 [0] 1 rfl rfl (by decide) rfl ⟨daS_d rfl, trivial⟩ ⟨rr, rr, rr, rr, rr, rr, rr, trivial⟩
       refine Tr.skip ?_
       conv=>whnf
       refine dq [(15,0),(17,0)] [(0,1),(1,1),(2,1),(3,1),(4,1),(5,1),(6,1),(7,1),(8,3),(9,3),(10,1),(11,1),(12,3),(13,3),(14,3),(15,0),(16,3),(17,0)] ?_
       conv=>whnf
       refine q1 ?_
       conv=>whnf
       refine q1 ?_
       conv=>whnf
       refine q1 ?_
       conv=>whnf
       refine q1 ?_
       conv=>whnf
       refine q4 ?_
       conv=>whnf
       refine q1 ?_
       conv=>whnf
       refine q1 ?_
       conv=>whnf
       refine q4 ?_
       conv=>whnf
       obtain ⟨x_93, hx_93, h⟩ := bS h
       refine q3 (ixS_of hx_93 rfl rr) ?_
       conv=>whnf
       refine q3 (elP_of hx_93 rr) ?_
       conv=>whnf
       refine q1 ?_
       conv=>whnf
       refine q1 ?_
       conv=>whnf
       obtain ⟨x_94, hx_94, h⟩ := bS h
       refine q3 (ixS_of hx_94 rfl rr) ?_
       conv=>whnf
       refine q3 (elP_of hx_94 rr) ?_
       conv=>whnf
       obtain ⟨x_95, hx_95, h⟩ := bS h
       refine q3 (ixS_of hx_95 rfl rr) ?_
       conv=>whnf
       refine ⟨_, _, (by (conv=>whnf); (refine elP_of hx_95 ?_); (conv=>whnf); (refine lvS_mk (es' := List.map .d (List.map eTmoney_part (List.set l_82 (Int.toNat j_81) x_93))) (by simp only [Nat.zero_add, List.map_set]; first | done | rfl) ?_); (conv=>whnf); (exact rr)), kp_ok (by repeat (first | exact trivial | refine ⟨trivial, ?_⟩ | refine ⟨rfl, ?_⟩)), ?_⟩
       conv=>whnf
       obtain ⟨x_96, hx_96, h⟩ := bS h
       refine q3 (ixS_of hx_96 (by first | rfl | simp) rr) ?_
       conv=>whnf
       refine ⟨_, _, (by (conv=>whnf); (refine elP_of hx_96 ?_); (conv=>whnf); (refine lvS_mk (es' := List.map .d (List.map eTmoney_part (List.set (List.set l_82 (Int.toNat j_81) x_93) (Int.toNat (w64 (j_81 - 1))) x_94))) (by simp only [Nat.zero_add, List.map_set]; first | done | rfl) ?_); (conv=>whnf); (exact rr)), kp_ok (by repeat (first | exact trivial | refine ⟨trivial, ?_⟩ | refine ⟨rfl, ?_⟩)), ?_⟩
       conv=>whnf
       refine rg ?_
       conv=>whnf
       refine arS_raw ?_
       conv=>whnf
       refine ⟨((w64 (j_81 + 1)), (List.set (List.set l_82 (Int.toNat j_81) x_93) (Int.toNat (w64 (j_81 - 1))) x_94)), h, ?_⟩
       exact Wk.mk2 [0] 1 rfl rfl (by decide) rfl ⟨daS_d rfl, trivial⟩ ⟨⟨rfl, (slEq (by first | rfl | simp))⟩, rr, rr, rr, rr, rr, rr, rr, trivial⟩
      refine Tr.exit ?_
      conv=>whnf
      cases h
      exact Wk.mk2 [0] 1 rfl rfl (by decide) rfl ⟨daS_d rfl, trivial⟩ ⟨rr, rr, rr, rr, rr, rr, rr, trivial⟩
     clear hv97
     conv=>whnf
     refine ⟨(i_22, l_84), h, ?_⟩
     refine Wk.trans (F := 1) hw ?_
     exact Wk.mk2 [0] 1 rfl rfl (by decide) rfl ⟨daS_d rfl, trivial⟩ ⟨rr, rr, rr, rr, rr, rr, rr, trivial⟩
    refine Tr.skip ?_
    conv=>whnf
    refine ⟨(i_22, (List.set (List.set l_11 (Int.toNat i_22) x_34) (Int.toNat (w64 (i_22 - 1))) x_35)), h, ?_⟩
    exact Wk.mk2 [0] 1 rfl rfl (by decide) rfl ⟨daS_d rfl, trivial⟩ ⟨⟨rfl, (slEq (by first | rfl | simp))⟩, rr, rr, rr, rr, rr, rr, trivial⟩
   clear h
   rintro ⟨i_17, l_18⟩ h T1 H1 hw
   replace h : M27 j_10 (M32 a_1 b_2 M33 n_12) i_17 l_18 = some (r_4, l_5) := h
   conv=>whnf
   refine Tr.weak hw ?_
   unfold M27 at h
   refine rg ?_
   conv=>whnf
   refine arS_raw ?_
   conv=>whnf
   refine ⟨(i_17, (w64 (j_10 + 1)), l_18), h, ?_⟩
   exact Wk.mk2 [0] 1 rfl rfl (by decide) rfl ⟨daS_d rfl, trivial⟩ ⟨rr, rr, rr, rr, rr, rr, rr, trivial⟩
  refine Tr.exit ?_
  conv=>whnf
  refine ⟨(l_11), h, ?_⟩
  exact Wk.mk2 [0] 1 rfl rfl (by decide) rfl ⟨daS_d rfl, trivial⟩ ⟨rr, trivial⟩
 clear h
 rintro l_13 h T1 H1 hw
 replace h : M33 l_13 = some (r_4, l_5) := h
 conv=>whnf
 refine Tr.weak hw ?_
 unfold M33 at h
 refine sg ?_
 conv=>whnf
 refine Tr.ret ?_
 conv=>whnf
 refine endH ?_
 conv=>whnf
 cases h
 exact endB rfl rfl rfl ⟨⟨_, rfl⟩, trivial⟩
theorem P38 (a_1 : Int) (b_2 : Int) (pivot_3 : Int) (l_4 : List Tmoney_part) (r_5 : Int) (l_6 : List Tmoney_part) (h : M38 a_1 b_2 pivot_3 l_4 = some (r_5, l_6)) :
    MC prog 45 [.sl 0 3 0 (List.length l_4), (dI a_1), (dI b_2), (dI pivot_3), .d (.fn 22 [])] [.arr 3 (List.map .d (List.map eTmoney_part l_4))] (fun rs Bs => rs = [(.i .i64 r_5)] ∧ Bs = [.arr 3 (List.map .d (List.map eTmoney_part l_6))]) := by
 refine MC.of_tr (cx := ⟨90, none, lay, 1⟩) layOK func45 rfl rfl rfl rfl rfl (by simp [f45]) ?_
 refine Tr.unW ?_
 unfold M38 at h
 refine sg ?_
 conv=>whnf
 refine sd [(13,0),(15,0)] [(0,1),(1,1),(2,1),(3,1),(4,1),(5,1),(6,3),(7,3),(8,1),(9,1),(10,3),(11,3),(12,3),(13,0),(14,3),(15,0)] ?_
 conv=>whnf
 refine q1 ?_
 conv=>whnf
 refine q1 ?_
 conv=>whnf
 refine q1 ?_
 conv=>whnf
 refine q1 ?_
 conv=>whnf
 refine q1 ?_
 conv=>whnf
 refine q1 ?_
 conv=>whnf
 obtain ⟨x_7, hx_7, h⟩ := bS h
 refine q3 (ixS_of hx_7 rfl rr) ?_
 conv=>whnf
 refine q3 (elP_of hx_7 rr) ?_
 conv=>whnf
 refine q1 ?_
 conv=>whnf
 refine q1 ?_
 conv=>whnf
 obtain ⟨x_8, hx_8, h⟩ := bS h
 refine q3 (ixS_of hx_8 rfl rr) ?_
 conv=>whnf
 refine q3 (elP_of hx_8 rr) ?_
 conv=>whnf
 obtain ⟨x_9, hx_9, h⟩ := bS h
 refine q3 (ixS_of hx_9 rfl rr) ?_
 conv=>whnf
 refine ⟨_, _, (by (conv=>whnf); (refine elP_of hx_9 ?_); (conv=>whnf); (refine lvS_mk (es' := List.map .d (List.map eTmoney_part (List.set l_4 (Int.toNat a_1) x_7))) (by simp only [Nat.zero_add, List.map_set]; first | done | rfl) ?_); (conv=>whnf); (exact rr)), kp_ok (by repeat (first | exact trivial | refine ⟨trivial, ?_⟩ | refine ⟨rfl, ?_⟩)), ?_⟩
 conv=>whnf
 obtain ⟨x_10, hx_10, h⟩ := bS h
 refine q3 (ixS_of hx_10 (by first | rfl | simp) rr) ?_
 conv=>whnf
 refine ⟨_, _, (by (conv=>whnf); (refine elP_of hx_10 ?_); (conv=>whnf); (refine lvS_mk (es' := List.map .d (List.map eTmoney_part (List.set (List.set l_4 (Int.toNat a_1) x_7) (Int.toNat pivot_3) x_8))) (by simp only [Nat.zero_add, List.map_set]; first | done | rfl) ?_); (conv=>whnf); (exact rr)), kp_ok (by repeat (first | exact trivial | refine ⟨trivial, ?_⟩ | refine ⟨rfl, ?_⟩)), ?_⟩
 conv=>whnf
 refine sg ?_
 conv=>whnf
 refine arS_raw ?_
 conv=>whnf
 refine arS_raw ?_
 conv=>whnf
 refine Tr.seq ?_
 obtain ⟨⟨i_18, l_19⟩, hv53, h⟩ := bS h
 refine Tr.cutQ1 ([(10, (dI 0)), (11, (dI i_18))]) ([some (.arr 3 (List.map .d (List.map eTmoney_part l_19)))]) ?_ (fun T1 H1 hw => ?_)
 ·replace h := hv53; clear hv53
  refine Tr.block ?_
  refine Tr.loopM (σ := Int × Int × List Tmoney_part) (fun n s => M37 a_1 n s.1 s.2.1 s.2.2) (i_18, l_19) (fun s => ([(0, .sl 0 3 0 (List.length s.2.2)), (1, (dI a_1)), (4, .d (.fn 22 [])), (10, (dI 0)), (11, (dI s.1)), (12, (dI s.2.1))], [some (.arr 3 (List.map .d (List.map eTmoney_part s.2.2)))])) (List.length ((List.set (List.set l_4 (Int.toNat a_1) x_7) (Int.toNat pivot_3) x_8)) + 1) ((w64 (a_1 + 1)), (w64 (b_2 - 1)), (List.set (List.set l_4 (Int.toNat a_1) x_7) (Int.toNat pivot_3) x_8)) h (fun s => rfl) (Wk.mk2 [0] 1 rfl rfl (by decide) rfl ⟨daS_d rfl, trivial⟩ ⟨⟨rfl, (slEq (by first | rfl | simp))⟩, rr, rr, rr, rr, rr, trivial⟩) ?_
  clear h
  rintro n_17 ⟨i_14, j_15, l_16⟩ h
  replace h : M37 a_1 (n_17 + 1) i_14 j_15 l_16 = some (i_18, l_19) := h
  rw [M37] at h
  refine Tr.block ?_
  refine Tr.seq ?_
  obtain ⟨i_25, hv34, h⟩ := bS h
  refine Tr.cutQ1 ([(0, .sl 0 3 0 (List.length l_16)), (1, (dI a_1)), (4, .d (.fn 22 [])), (10, (dI 0)), (11, (dI i_25)), (12, (dI j_15))]) ([some (.arr 3 (List.map .d (List.map eTmoney_part l_16)))]) ?_ (fun T1 H1 hw => ?_)
  ·replace h := hv34; clear hv34
   refine Tr.block ?_
   refine Tr.loopM (σ := Int) (fun n s => M35 a_1 j_15 l_16 n s) i_25 (fun s => ([(0, .sl 0 3 0 (List.length l_16)), (1, (dI a_1)), (4, .d (.fn 22 [])), (10, (dI 0)), (11, (dI s)), (12, (dI j_15))], [some (.arr 3 (List.map .d (List.map eTmoney_part l_16)))])) ((j_15 + 1 - i_14 : Int).toNat + 1) (i_14) h (fun s => rfl) (Wk.mk2 [0] 1 rfl rfl (by decide) rfl ⟨daS_d rfl, trivial⟩ ⟨rr, rr, rr, rr, rr, rr, trivial⟩) ?_
   clear h
   rintro n_24 i_23 h
   replace h : M35 a_1 j_15 l_16 (n_24 + 1) i_23 = some i_25 := h
   rw [M35] at h
   refine Tr.seq ?_
   refine sd [] [(0,1),(1,1),(2,1),(3,1),(4,1),(5,1),(6,1),(7,3),(8,3),(9,1),(10,1),(11,3),(12,3),(13,1),(14,1),(15,1),(16,1)] ?_
   conv=>whnf
   refine q1 ?_
   conv=>whnf
   refine q1 ?_
   conv=>whnf
   refine q1 ?_
   conv=>whnf
   refine q1 ?_
   conv=>whnf
   refine cB h (fun hb28 h => ?_) (fun hb28 h => ?_)
   ·conv=>whnf
    refine q1 ?_
    conv=>whnf
    refine q1 ?_
    conv=>whnf
    refine q1 ?_
    conv=>whnf
    obtain ⟨x_29, hx_29, h⟩ := bS h
    refine q3 (ixS_of hx_29 rfl rr) ?_
    conv=>whnf
    refine q3 (elP_of hx_29 rr) ?_
    conv=>whnf
    refine q1 ?_
    conv=>whnf
    refine q1 ?_
    conv=>whnf
    obtain ⟨x_30, hx_30, h⟩ := bS h
    refine q3 (ixS_of hx_30 rfl rr) ?_
    conv=>whnf
    refine q3 (elP_of hx_30 rr) ?_
    conv=>whnf
    obtain ⟨r_31, hc32, h⟩ := bS h
    refine q1 ?_ (fun _ => pe (P11 x_29 x_30 r_31 hc32) rr)
    conv=>whnf
    refine q1 ?_
    conv=>whnf
    refine q1 ?_
    conv=>whnf
    refine q1 ?_
    conv=>whnf
    refine Tr.cond ?_
    conv=>whnf
    refine cB h (fun hb33 h => ?_) (fun hb33 h => ?_)
    ·refine Tr.skip ?_
     conv=>whnf
     refine Tr.block ?_
     refine rg ?_
     conv=>whnf
     refine arS_raw ?_
     conv=>whnf
     refine ⟨((w64 (i_23 + 1))), h, ?_⟩
     exact Wk.mk2 [0] 1 rfl rfl (by decide) rfl ⟨daS_d rfl, trivial⟩ ⟨rr, rr, rr, rr, rr, rr, trivial⟩
    refine Tr.exit ?_
    conv=>whnf
    cases h
    exact Wk.mk2 [0] 1 rfl rfl (by decide) rfl ⟨daS_d rfl, trivial⟩ ⟨rr, rr, rr, rr, rr, rr, trivial⟩
   conv=>whnf
   refine q1 ?_
   conv=>whnf
   refine Tr.cond ?_
   conv=>whnf
   refine Tr.exit ?_
   conv=>whnf
   cases h
   exact Wk.mk2 [0] 1 rfl rfl (by decide) rfl ⟨daS_d rfl, trivial⟩ ⟨rr, rr, rr, rr, rr, rr, trivial⟩
  clear hv34
  conv=>whnf
  refine Tr.weak hw ?_
  refine Tr.seq ?_
  obtain ⟨j_38, hv47, h⟩ := bS h
  refine Tr.cutQ1 ([(0, .sl 0 3 0 (List.length l_16)), (1, (dI a_1)), (4, .d (.fn 22 [])), (10, (dI 0)), (11, (dI i_25)), (12, (dI j_38))]) ([some (.arr 3 (List.map .d (List.map eTmoney_part l_16)))]) ?_ (fun T1 H1 hw => ?_)
  ·replace h := hv47; clear hv47
   refine Tr.block ?_
   refine Tr.loopM (σ := Int) (fun n s => M36 a_1 l_16 i_25 n s) j_38 (fun s => ([(0, .sl 0 3 0 (List.length l_16)), (1, (dI a_1)), (4, .d (.fn 22 [])), (10, (dI 0)), (11, (dI i_25)), (12, (dI s))], [some (.arr 3 (List.map .d (List.map eTmoney_part l_16)))])) ((j_15 + 1 - i_25 : Int).toNat + 1) (j_15) h (fun s => rfl) (Wk.mk2 [0] 1 rfl rfl (by decide) rfl ⟨daS_d rfl, trivial⟩ ⟨rr, rr, rr, rr, rr, rr, trivial⟩) ?_
   clear h
   rintro n_37 j_36 h
   replace h : M36 a_1 l_16 i_25 (n_37 + 1) j_36 = some j_38 := h
   rw [M36] at h
   refine Tr.seq ?_
   refine sd [] [(0,1),(1,1),(2,1),(3,1),(4,1),(5,1),(6,1),(7,3),(8,3),(9,1),(10,1),(11,3),(12,3),(13,1),(14,1),(15,1)] ?_
   conv=>whnf
   refine q1 ?_
   conv=>whnf
   refine q1 ?_
   conv=>whnf
   refine q1 ?_
   conv=>whnf
   refine q1 ?_
   conv=>whnf
   refine cB h (fun hb41 h => ?_) (fun hb41 h => ?_)
   ·conv=>whnf
    refine q1 ?_
    conv=>whnf
    refine q1 ?_
    conv=>whnf
    refine q1 ?_
    conv=>whnf
    obtain ⟨x_42, hx_42, h⟩ := bS h
    refine q3 (ixS_of hx_42 rfl rr) ?_
    conv=>whnf
    refine q3 (elP_of hx_42 rr) ?_
    conv=>whnf
    refine q1 ?_
    conv=>whnf
    refine q1 ?_
    conv=>whnf
    obtain ⟨x_43, hx_43, h⟩ := bS h
    refine q3 (ixS_of hx_43 rfl rr) ?_
    conv=>whnf
    refine q3 (elP_of hx_43 rr) ?_
    conv=>whnf
    obtain ⟨r_44, hc45, h⟩ := bS h
    refine q1 ?_ (fun _ => pe (P11 x_42 x_43 r_44 hc45) rr)
    conv=>whnf
    refine q1 ?_
    conv=>whnf
    refine q1 ?_
    conv=>whnf
    refine Tr.cond ?_
    conv=>whnf
    refine cB h (fun hb46 h => ?_) (fun hb46 h => ?_)
    ·refine Tr.skip ?_
     conv=>whnf
     refine Tr.block ?_
     refine rg ?_
     conv=>whnf
     refine arS_raw ?_
     conv=>whnf
     refine ⟨((w64 (j_36 - 1))), h, ?_⟩
     exact Wk.mk2 [0] 1 rfl rfl (by decide) rfl ⟨daS_d rfl, trivial⟩ ⟨rr, rr, rr, rr, rr, rr, trivial⟩
    refine Tr.exit ?_
    conv=>whnf
    cases h
    exact Wk.mk2 [0] 1 rfl rfl (by decide) rfl ⟨daS_d rfl, trivial⟩ ⟨rr, rr, rr, rr, rr, rr, trivial⟩
   conv=>whnf
   refine q1 ?_
   conv=>whnf
   refine Tr.cond ?_
   conv=>whnf
   refine Tr.exit ?_
   conv=>whnf
   cases h
   exact Wk.mk2 [0] 1 rfl rfl (by decide) rfl ⟨daS_d rfl, trivial⟩ ⟨rr, rr, rr, rr, rr, rr, trivial⟩
  clear hv47
  conv=>whnf
  refine Tr.weak hw ?_
  refine Tr.seq ?_
  refine sg ?_
  conv=>whnf
  refine Tr.cond ?_
  conv=>whnf
  refine cB h (fun hb48 h => ?_) (fun hb48 h => ?_)
  ·refine Tr.exit ?_
   conv=>whnf
   cases h
   exact Wk.mk2 [0] 1 rfl rfl (by decide) rfl ⟨daS_d rfl, trivial⟩ ⟨rr, rr, trivial⟩
  refine Tr.skip ?_
  conv=>whnf
  refine sd [(13,0),(15,0)] [(0,1),(1,1),(2,1),(3,1),(4,1),(5,1),(6,3),(7,3),(8,1),(9,1),(10,3),(11,3),(12,3),(13,0),(14,3),(15,0)] ?_
  conv=>whnf
  refine q1 ?_
  conv=>whnf
  refine q1 ?_
  conv=>whnf
  refine q1 ?_
  conv=>whnf
  refine q1 ?_
  conv=>whnf
  refine q1 ?_
  conv=>whnf
  refine q1 ?_
  conv=>whnf
  obtain ⟨x_49, hx_49, h⟩ := bS h
  refine q3 (ixS_of hx_49 rfl rr) ?_
  conv=>whnf
  refine q3 (elP_of hx_49 rr) ?_
  conv=>whnf
  refine q1 ?_
  conv=>whnf
  refine q1 ?_
  conv=>whnf
  obtain ⟨x_50, hx_50, h⟩ := bS h
  refine q3 (ixS_of hx_50 rfl rr) ?_
  conv=>whnf
  refine q3 (elP_of hx_50 rr) ?_
  conv=>whnf
  obtain ⟨x_51, hx_51, h⟩ := bS h
  refine q3 (ixS_of hx_51 rfl rr) ?_
  conv=>whnf
  refine ⟨_, _, (by (conv=>whnf); (refine elP_of hx_51 ?_); (conv=>whnf); (refine lvS_mk (es' := List.map .d (List.map eTmoney_part (List.set l_16 (Int.toNat i_25) x_49))) (by simp only [Nat.zero_add, List.map_set]; first | done | rfl) ?_); (conv=>whnf); (exact rr)), kp_ok (by repeat (first | exact trivial | refine ⟨trivial, ?_⟩ | refine ⟨rfl, ?_⟩)), ?_⟩
  conv=>whnf
  obtain ⟨x_52, hx_52, h⟩ := bS h
  refine q3 (ixS_of hx_52 (by first | rfl | simp) rr) ?_
  conv=>whnf
  refine ⟨_, _, (by (conv=>whnf); (refine elP_of hx_52 ?_); (conv=>whnf); (refine lvS_mk (es' := List.map .d (List.map eTmoney_part (List.set (List.set l_16 (Int.toNat i_25) x_49) (Int.toNat j_38) x_50))) (by simp only [Nat.zero_add, List.map_set]; first | done | rfl) ?_); (conv=>whnf); (exact rr)), kp_ok (by repeat (first | exact trivial | refine ⟨trivial, ?_⟩ | refine ⟨rfl, ?_⟩)), ?_⟩
  conv=>whnf
  refine sg ?_
  conv=>whnf
  refine arS_raw ?_
  conv=>whnf
  refine rg ?_
  conv=>whnf
  refine arS_raw ?_
  conv=>whnf
  refine ⟨((w64 (i_25 + 1)), (w64 (j_38 - 1)), (List.set (List.set l_16 (Int.toNat i_25) x_49) (Int.toNat j_38) x_50)), h, ?_⟩
  exact Wk.mk2 [0] 1 rfl rfl (by decide) rfl ⟨daS_d rfl, trivial⟩ ⟨⟨rfl, (slEq (by first | rfl | simp))⟩, rr, rr, rr, rr, rr, trivial⟩
 clear hv53
 conv=>whnf
 refine Tr.weak hw ?_
 refine sg ?_
 conv=>whnf
 refine Tr.ret ?_
 conv=>whnf
 refine endH ?_
 conv=>whnf
 cases h
 exact endB rfl rfl rfl ⟨⟨_, rfl⟩, trivial⟩
theorem P44 (a_1 : Int) (b_2 : Int) (pivot_3 : Int) (l_4 : List Tmoney_part) (r_5 : Int) (r_6 : Bool) (l_7 : List Tmoney_part) (h : M44 a_1 b_2 pivot_3 l_4 = some (r_5, r_6, l_7)) :
    MC prog 46 [.sl 0 3 0 (List.length l_4), (dI a_1), (dI b_2), (dI pivot_3), .d (.fn 22 [])] [.arr 3 (List.map .d (List.map eTmoney_part l_4))] (fun rs Bs => rs = [(.i .i64 r_5), (.b r_6)] ∧ Bs = [.arr 3 (List.map .d (List.map eTmoney_part l_7))]) := by
 refine MC.of_tr (cx := ⟨178, none, lay, 1⟩) layOK func46 rfl rfl rfl rfl rfl (by simp [f46]) ?_
 refine Tr.unW ?_
 unfold M44 at h
 refine sg ?_
 conv=>whnf
 refine sd [(13,0),(15,0)] [(0,1),(1,1),(2,1),(3,1),(4,1),(5,1),(6,3),(7,3),(8,1),(9,1),(10,3),(11,3),(12,3),(13,0),(14,3),(15,0)] ?_
 conv=>whnf
 refine q1 ?_
 conv=>whnf
 refine q1 ?_
 conv=>whnf
 refine q1 ?_
 conv=>whnf
 refine q1 ?_
 conv=>whnf
 refine q1 ?_
 conv=>whnf
 refine q1 ?_
 conv=>whnf
 obtain ⟨x_8, hx_8, h⟩ := bS h
 refine q3 (ixS_of hx_8 rfl rr) ?_
 conv=>whnf
 refine q3 (elP_of hx_8 rr) ?_
 conv=>whnf
 refine q1 ?_
 conv=>whnf
 refine q1 ?_
 conv=>whnf
 obtain ⟨x_9, hx_9, h⟩ := bS h
 refine q3 (ixS_of hx_9 rfl rr) ?_
 conv=>whnf
 refine q3 (elP_of hx_9 rr) ?_
 conv=>whnf
 obtain ⟨x_10, hx_10, h⟩ := bS h
 refine q3 (ixS_of hx_10 rfl rr) ?_
 conv=>whnf
 refine ⟨_, _, (by (conv=>whnf); (refine elP_of hx_10 ?_); (conv=>whnf); (refine lvS_mk (es' := List.map .d (List.map eTmoney_part (List.set l_4 (Int.toNat a_1) x_8))) (by simp only [Nat.zero_add, List.map_set]; first | done | rfl) ?_); (conv=>whnf); (exact rr)), kp_ok (by repeat (first | exact trivial | refine ⟨trivial, ?_⟩ | refine ⟨rfl, ?_⟩)), ?_⟩
 conv=>whnf
 obtain ⟨x_11, hx_11, h⟩ := bS h
 refine q3 (ixS_of hx_11 (by first | rfl | simp) rr) ?_
 conv=>whnf
 refine ⟨_, _, (by (conv=>whnf); (refine elP_of hx_11 ?_); (conv=>whnf); (refine lvS_mk (es' := List.map .d (List.map eTmoney_part (List.set (List.set l_4 (Int.toNat a_1) x_8) (Int.toNat pivot_3) x_9))) (by simp only [Nat.zero_add, List.map_set]; first | done | rfl) ?_); (conv=>whnf); (exact rr)), kp_ok (by repeat (first | exact trivial | refine ⟨trivial, ?_⟩ | refine ⟨rfl, ?_⟩)), ?_⟩
 conv=>whnf
 refine sg ?_
 conv=>whnf
 refine arS_raw ?_
 conv=>whnf
 refine arS_raw ?_
 conv=>whnf
 refine Tr.seq ?_
 obtain ⟨i_15, hv24, h⟩ := bS h
 refine Tr.cutQ1 ([(0, .sl 0 3 0 (List.length (List.set (List.set l_4 (Int.toNat a_1) x_8) (Int.toNat pivot_3) x_9))), (1, (dI a_1)), (4, .d (.fn 22 [])), (10, (dI 0)), (11, .d (.b false)), (12, (dI i_15)), (13, (dI (w64 (b_2 - 1))))]) ([some (.arr 3 (List.map .d (List.map eTmoney_part (List.set (List.set l_4 (Int.toNat a_1) x_8) (Int.toNat pivot_3) x_9))))]) ?_ (fun T1 H1 hw => ?_)
 ·replace h := hv24; clear hv24
  refine Tr.block ?_
  refine Tr.loopM (σ := Int) (fun n s => M39 a_1 b_2 pivot_3 l_4 x_8 x_9 n s) i_15 (fun s => ([(0, .sl 0 3 0 (List.length (List.set (List.set l_4 (Int.toNat a_1) x_8) (Int.toNat pivot_3) x_9))), (1, (dI a_1)), (4, .d (.fn 22 [])), (10, (dI 0)), (11, .d (.b false)), (12, (dI s)), (13, (dI (w64 (b_2 - 1))))], [some (.arr 3 (List.map .d (List.map eTmoney_part (List.set (List.set l_4 (Int.toNat a_1) x_8) (Int.toNat pivot_3) x_9))))])) (((w64 (b_2 - 1)) + 1 - (w64 (a_1 + 1)) : Int).toNat + 1) ((w64 (a_1 + 1))) h (fun s => rfl) (Wk.mk2 [0] 1 rfl rfl (by decide) rfl ⟨daS_d rfl, trivial⟩ ⟨⟨rfl, (slEq (by first | rfl | simp))⟩, rr, rr, rr, rr, rr, rr, trivial⟩) ?_
  clear h
  rintro n_14 i_13 h
  replace h : M39 a_1 b_2 pivot_3 l_4 x_8 x_9 (n_14 + 1) i_13 = some i_15 := h
  rw [M39] at h
  refine Tr.seq ?_
  refine sd [] [(0,1),(1,1),(2,1),(3,1),(4,1),(5,1),(6,1),(7,3),(8,3),(9,1),(10,1),(11,3),(12,3),(13,1),(14,1),(15,1)] ?_
  conv=>whnf
  refine q1 ?_
  conv=>whnf
  refine q1 ?_
  conv=>whnf
  refine q1 ?_
  conv=>whnf
  refine q1 ?_
  conv=>whnf
  refine cB h (fun hb18 h => ?_) (fun hb18 h => ?_)
  ·conv=>whnf
   refine q1 ?_
   conv=>whnf
   refine q1 ?_
   conv=>whnf
   refine q1 ?_
   conv=>whnf
   obtain ⟨x_19, hx_19, h⟩ := bS h
   refine q3 (ixS_of hx_19 rfl rr) ?_
   conv=>whnf
   refine q3 (elP_of hx_19 rr) ?_
   conv=>whnf
   refine q1 ?_
   conv=>whnf
   refine q1 ?_
   conv=>whnf
   obtain ⟨x_20, hx_20, h⟩ := bS h
   refine q3 (ixS_of hx_20 rfl rr) ?_
   conv=>whnf
   refine q3 (elP_of hx_20 rr) ?_
   conv=>whnf
   obtain ⟨r_21, hc22, h⟩ := bS h
   refine q1 ?_ (fun _ => pe (P11 x_19 x_20 r_21 hc22) rr)
   conv=>whnf
   refine q1 ?_
   conv=>whnf
   refine q1 ?_
   conv=>whnf
   refine Tr.cond ?_
   conv=>whnf
   refine cB h (fun hb23 h => ?_) (fun hb23 h => ?_)
   ·refine Tr.skip ?_
    conv=>whnf
    refine Tr.block ?_
    refine rg ?_
    conv=>whnf
    refine arS_raw ?_
    conv=>whnf
    refine ⟨((w64 (i_13 + 1))), h, ?_⟩
    exact Wk.mk2 [0] 1 rfl rfl (by decide) rfl ⟨daS_d rfl, trivial⟩ ⟨rr, rr, rr, rr, rr, rr, rr, trivial⟩
   refine Tr.exit ?_
   conv=>whnf
   cases h
   exact Wk.mk2 [0] 1 rfl rfl (by decide) rfl ⟨daS_d rfl, trivial⟩ ⟨rr, rr, rr, rr, rr, rr, rr, trivial⟩
  conv=>whnf
  refine q1 ?_
  conv=>whnf
  refine Tr.cond ?_
  conv=>whnf
  refine Tr.exit ?_
  conv=>whnf
  cases h
  exact Wk.mk2 [0] 1 rfl rfl (by decide) rfl ⟨daS_d rfl, trivial⟩ ⟨rr, rr, rr, rr, rr, rr, rr, trivial⟩
 clear hv24
 conv=>whnf
 refine Tr.weak hw ?_
 refine Tr.seq ?_
 obtain ⟨j_28, hv37, h⟩ := bS h
 refine Tr.cutQ1 ([(0, .sl 0 3 0 (List.length (List.set (List.set l_4 (Int.toNat a_1) x_8) (Int.toNat pivot_3) x_9))), (1, (dI a_1)), (4, .d (.fn 22 [])), (10, (dI 0)), (11, .d (.b false)), (12, (dI i_15)), (13, (dI j_28))]) ([some (.arr 3 (List.map .d (List.map eTmoney_part (List.set (List.set l_4 (Int.toNat a_1) x_8) (Int.toNat pivot_3) x_9))))]) ?_ (fun T1 H1 hw => ?_)
 ·replace h := hv37; clear hv37
  refine Tr.block ?_
  refine Tr.loopM (σ := Int) (fun n s => M40 a_1 pivot_3 l_4 x_8 x_9 i_15 n s) j_28 (fun s => ([(0, .sl 0 3 0 (List.length (List.set (List.set l_4 (Int.toNat a_1) x_8) (Int.toNat pivot_3) x_9))), (1, (dI a_1)), (4, .d (.fn 22 [])), (10, (dI 0)), (11, .d (.b false)), (12, (dI i_15)), (13, (dI s))], [some (.arr 3 (List.map .d (List.map eTmoney_part (List.set (List.set l_4 (Int.toNat a_1) x_8) (Int.toNat pivot_3) x_9))))])) (((w64 (b_2 - 1)) + 1 - i_15 : Int).toNat + 1) ((w64 (b_2 - 1))) h (fun s => rfl) (Wk.mk2 [0] 1 rfl rfl (by decide) rfl ⟨daS_d rfl, trivial⟩ ⟨rr, rr, rr, rr, rr, rr, rr, trivial⟩) ?_
  clear h
  rintro n_27 j_26 h
  replace h : M40 a_1 pivot_3 l_4 x_8 x_9 i_15 (n_27 + 1) j_26 = some j_28 := h
  rw [M40] at h
  refine Tr.seq ?_
  refine sd [] [(0,1),(1,1),(2,1),(3,1),(4,1),(5,1),(6,1),(7,3),(8,3),(9,1),(10,1),(11,3),(12,3),(13,1),(14,1),(15,1),(16,1)] ?_
  conv=>whnf
  refine q1 ?_
  conv=>whnf
  refine q1 ?_
  conv=>whnf
  refine q1 ?_
  conv=>whnf
  refine q1 ?_
  conv=>whnf
  refine cB h (fun hb31 h => ?_) (fun hb31 h => ?_)
  ·conv=>whnf
   refine q1 ?_
   conv=>whnf
   refine q1 ?_
   conv=>whnf
   refine q1 ?_
   conv=>whnf
   obtain ⟨x_32, hx_32, h⟩ := bS h
   refine q3 (ixS_of hx_32 rfl rr) ?_
   conv=>whnf
   refine q3 (elP_of hx_32 rr) ?_
   conv=>whnf
   refine q1 ?_
   conv=>whnf
   refine q1 ?_
   conv=>whnf
   obtain ⟨x_33, hx_33, h⟩ := bS h
   refine q3 (ixS_of hx_33 rfl rr) ?_
   conv=>whnf
   refine q3 (elP_of hx_33 rr) ?_
   conv=>whnf
   obtain ⟨r_34, hc35, h⟩ := bS h
   refine q1 ?_ (fun _ => pe (P11 x_32 x_33 r_34 hc35) rr)
   conv=>whnf
   refine q1 ?_
   conv=>whnf
   refine q1 ?_
   conv=>whnf
   refine q1 ?_
   conv=>whnf
   refine Tr.cond ?_
   conv=>whnf
   refine cB h (fun hb36 h => ?_) (fun hb36 h => ?_)
   ·refine Tr.skip ?_
    conv=>whnf
    refine Tr.block ?_
    refine rg ?_
    conv=>whnf
    refine arS_raw ?_
    conv=>whnf
    refine ⟨((w64 (j_26 - 1))), h, ?_⟩
    exact Wk.mk2 [0] 1 rfl rfl (by decide) rfl ⟨daS_d rfl, trivial⟩ ⟨rr, rr, rr, rr, rr, rr, rr, trivial⟩
   refine Tr.exit ?_
   conv=>whnf
   cases h
   exact Wk.mk2 [0] 1 rfl rfl (by decide) rfl ⟨daS_d rfl, trivial⟩ ⟨rr, rr, rr, rr, rr, rr, rr, trivial⟩
  conv=>whnf
  refine q1 ?_
  conv=>whnf
  refine Tr.cond ?_
  conv=>whnf
  refine Tr.exit ?_
  conv=>whnf
  cases h
  exact Wk.mk2 [0] 1 rfl rfl (by decide) rfl ⟨daS_d rfl, trivial⟩ ⟨rr, rr, rr, rr, rr, rr, rr, trivial⟩
 clear hv37
 conv=>whnf
 refine Tr.weak hw ?_
 refine Tr.seq ?_
 refine sg ?_
 conv=>whnf
 refine Tr.cond ?_
 conv=>whnf
 refine cB h (fun hb38 h => ?_) (fun hb38 h => ?_)
 ·refine sd [(13,0),(15,0)] [(0,1),(1,1),(2,1),(3,1),(4,1),(5,1),(6,3),(7,3),(8,1),(9,1),(10,3),(11,3),(12,3),(13,0),(14,3),(15,0)] ?_
  conv=>whnf
  refine q1 ?_
  conv=>whnf
  refine q1 ?_
  conv=>whnf
  refine q1 ?_
  conv=>whnf
  refine q1 ?_
  conv=>whnf
  refine q1 ?_
  conv=>whnf
  refine q1 ?_
  conv=>whnf
  obtain ⟨x_39, hx_39, h⟩ := bS h
  refine q3 (ixS_of hx_39 rfl rr) ?_
  conv=>whnf
  refine q3 (elP_of hx_39 rr) ?_
  conv=>whnf
  refine q1 ?_
  conv=>whnf
  refine q1 ?_
  conv=>whnf
  obtain ⟨x_40, hx_40, h⟩ := bS h
  refine q3 (ixS_of hx_40 rfl rr) ?_
  conv=>whnf
  refine q3 (elP_of hx_40 rr) ?_
  conv=>whnf
  obtain ⟨x_41, hx_41, h⟩ := bS h
  refine q3 (ixS_of hx_41 rfl rr) ?_
  conv=>whnf
  refine ⟨_, _, (by (conv=>whnf); (refine elP_of hx_41 ?_); (conv=>whnf); (refine lvS_mk (es' := List.map .d (List.map eTmoney_part (List.set (List.set (List.set l_4 (Int.toNat a_1) x_8) (Int.toNat pivot_3) x_9) (Int.toNat j_28) x_39))) (by simp only [Nat.zero_add, List.map_set]; first | done | rfl) ?_); (conv=>whnf); (exact rr)), kp_ok (by repeat (first | exact trivial | refine ⟨trivial, ?_⟩ | refine ⟨rfl, ?_⟩)), ?_⟩
  conv=>whnf
  obtain ⟨x_42, hx_42, h⟩ := bS h
  refine q3 (ixS_of hx_42 (by first | rfl | simp) rr) ?_
  conv=>whnf
  refine ⟨_, _, (by (conv=>whnf); (refine elP_of hx_42 ?_); (conv=>whnf); (refine lvS_mk (es' := List.map .d (List.map eTmoney_part (List.set (List.set (List.set (List.set l_4 (Int.toNat a_1) x_8) (Int.toNat pivot_3) x_9) (Int.toNat j_28) x_39) (Int.toNat a_1) x_40))) (by simp only [Nat.zero_add, List.map_set]; first | done | rfl) ?_); (conv=>whnf); (exact rr)), kp_ok (by repeat (first | exact trivial | refine ⟨trivial, ?_⟩ | refine ⟨rfl, ?_⟩)), ?_⟩
  conv=>whnf
  refine sg ?_
  conv=>whnf
  refine Tr.ret ?_
  conv=>whnf
  refine endH ?_
  conv=>whnf
  cases h
  exact endB rfl rfl rfl ⟨⟨_, rfl⟩, trivial⟩
 refine Tr.skip ?_
 conv=>whnf
 refine sd [(13,0),(15,0)] [(0,1),(1,1),(2,1),(3,1),(4,1),(5,1),(6,3),(7,3),(8,1),(9,1),(10,3),(11,3),(12,3),(13,0),(14,3),(15,0)] ?_
 conv=>whnf
 refine q1 ?_
 conv=>whnf
 refine q1 ?_
 conv=>whnf
 refine q1 ?_
 conv=>whnf
 refine q1 ?_
 conv=>whnf
 refine q1 ?_
 conv=>whnf
 refine q1 ?_
 conv=>whnf
 obtain ⟨x_43, hx_43, h⟩ := bS h
 refine q3 (ixS_of hx_43 rfl rr) ?_
 conv=>whnf
 refine q3 (elP_of hx_43 rr) ?_
 conv=>whnf
 refine q1 ?_
 conv=>whnf
 refine q1 ?_
 conv=>whnf
 obtain ⟨x_44, hx_44, h⟩ := bS h
 refine q3 (ixS_of hx_44 rfl rr) ?_
 conv=>whnf
 refine q3 (elP_of hx_44 rr) ?_
 conv=>whnf
 obtain ⟨x_45, hx_45, h⟩ := bS h
 refine q3 (ixS_of hx_45 rfl rr) ?_
 conv=>whnf
 refine ⟨_, _, (by (conv=>whnf); (refine elP_of hx_45 ?_); (conv=>whnf); (refine lvS_mk (es' := List.map .d (List.map eTmoney_part (List.set (List.set (List.set l_4 (Int.toNat a_1) x_8) (Int.toNat pivot_3) x_9) (Int.toNat i_15) x_43))) (by simp only [Nat.zero_add, List.map_set]; first | done | rfl) ?_); (conv=>whnf); (exact rr)), kp_ok (by repeat (first | exact trivial | refine ⟨trivial, ?_⟩ | refine ⟨rfl, ?_⟩)), ?_⟩
 conv=>whnf
 obtain ⟨x_46, hx_46, h⟩ := bS h
 refine q3 (ixS_of hx_46 (by first | rfl | simp) rr) ?_
 conv=>whnf
 refine ⟨_, _, (by (conv=>whnf); (refine elP_of hx_46 ?_); (conv=>whnf); (refine lvS_mk (es' := List.map .d (List.map eTmoney_part (List.set (List.set (List.set (List.set l_4 (Int.toNat a_1) x_8) (Int.toNat pivot_3) x_9) (Int.toNat i_15) x_43) (Int.toNat j_28) x_44))) (by simp only [Nat.zero_add, List.map_set]; first | done | rfl) ?_); (conv=>whnf); (exact rr)), kp_ok (by repeat (first | exact trivial | refine ⟨trivial, ?_⟩ | refine ⟨rfl, ?_⟩)), ?_⟩
 conv=>whnf
 refine sg ?_
 conv=>whnf
 refine arS_raw ?_
 conv=>whnf
 refine sg ?_
 conv=>whnf
 refine arS_raw ?_
 conv=>whnf
 refine Tr.seq ?_
 obtain ⟨⟨j_54, l_55⟩, hv89, h⟩ := bS h
 refine Tr.cutQ1 ([(0, .sl 0 3 0 (List.length l_55)), (1, (dI a_1)), (10, (dI 0)), (11, .d (.b false)), (13, (dI j_54))]) ([some (.arr 3 (List.map .d (List.map eTmoney_part l_55)))]) ?_ (fun T1 H1 hw => ?_)
 ·replace h := hv89; clear hv89
  refine Tr.block ?_
  refine Tr.loopM (σ := Int × Int × List Tmoney_part) (fun n s => M43 a_1 n s.1 s.2.1 s.2.2) (j_54, l_55) (fun s => ([(0, .sl 0 3 0 (List.length s.2.2)), (1, (dI a_1)), (4, .d (.fn 22 [])), (10, (dI 0)), (11, .d (.b false)), (12, (dI s.1)), (13, (dI s.2.1))], [some (.arr 3 (List.map .d (List.map eTmoney_part s.2.2)))])) (List.length ((List.set (List.set (List.set (List.set l_4 (Int.toNat a_1) x_8) (Int.toNat pivot_3) x_9) (Int.toNat i_15) x_43) (Int.toNat j_28) x_44)) + 1) ((w64 (i_15 + 1)), (w64 (j_28 - 1)), (List.set (List.set (List.set (List.set l_4 (Int.toNat a_1) x_8) (Int.toNat pivot_3) x_9) (Int.toNat i_15) x_43) (Int.toNat j_28) x_44)) h (fun s => rfl) (Wk.mk2 [0] 1 rfl rfl (by decide) rfl ⟨daS_d rfl, trivial⟩ ⟨⟨rfl, (slEq (by first | rfl | simp))⟩, rr, rr, rr, rr, rr, rr, trivial⟩) ?_
  clear h
  rintro n_53 ⟨i_50, j_51, l_52⟩ h
  replace h : M43 a_1 (n_53 + 1) i_50 j_51 l_52 = some (j_54, l_55) := h
  rw [M43] at h
  refine Tr.block ?_
  refine Tr.seq ?_
  obtain ⟨i_61, hv70, h⟩ := bS h
  refine Tr.cutQ1 ([(0, .sl 0 3 0 (List.length l_52)), (1, (dI a_1)), (4, .d (.fn 22 [])), (10, (dI 0)), (11, .d (.b false)), (12, (dI i_61)), (13, (dI j_51))]) ([some (.arr 3 (List.map .d (List.map eTmoney_part l_52)))]) ?_ (fun T1 H1 hw => ?_)
  ·replace h := hv70; clear hv70
   refine Tr.block ?_
   refine Tr.loopM (σ := Int) (fun n s => M41 a_1 j_51 l_52 n s) i_61 (fun s => ([(0, .sl 0 3 0 (List.length l_52)), (1, (dI a_1)), (4, .d (.fn 22 [])), (10, (dI 0)), (11, .d (.b false)), (12, (dI s)), (13, (dI j_51))], [some (.arr 3 (List.map .d (List.map eTmoney_part l_52)))])) ((j_51 + 1 - i_50 : Int).toNat + 1) (i_50) h (fun s => rfl) (Wk.mk2 [0] 1 rfl rfl (by decide) rfl ⟨daS_d rfl, trivial⟩ ⟨rr, rr, rr, rr, rr, rr, rr, trivial⟩) ?_
   clear h
   rintro n_60 i_59 h
   replace h : M41 a_1 j_51 l_52 (n_60 + 1) i_59 = some i_61 := h
   rw [M41] at h
   refine Tr.seq ?_
   refine sd [] [(0,1),(1,1),(2,1),(3,1),(4,1),(5,1),(6,1),(7,3),(8,3),(9,1),(10,1),(11,3),(12,3),(13,1),(14,1),(15,1)] ?_
   conv=>whnf
   refine q1 ?_
   conv=>whnf
   refine q1 ?_
   conv=>whnf
   refine q1 ?_
   conv=>whnf
   refine q1 ?_
   conv=>whnf
   refine cB h (fun hb64 h => ?_) (fun hb64 h => ?_)
   ·conv=>whnf
    refine q1 ?_
    conv=>whnf
    refine q1 ?_
    conv=>whnf
    refine q1 ?_
    conv=>whnf
    obtain ⟨x_65, hx_65, h⟩ := bS h
    refine q3 (ixS_of hx_65 rfl rr) ?_
    conv=>whnf
    refine q3 (elP_of hx_65 rr) ?_
    conv=>whnf
    refine q1 ?_
    conv=>whnf
    refine q1 ?_
    conv=>whnf
    obtain ⟨x_66, hx_66, h⟩ := bS h
    refine q3 (ixS_of hx_66 rfl rr) ?_
    conv=>whnf
    refine q3 (elP_of hx_66 rr) ?_
    conv=>whnf
    obtain ⟨r_67, hc68, h⟩ := bS h
    refine q1 ?_ (fun _ => pe (P11 x_65 x_66 r_67 hc68) rr)
    conv=>whnf
    refine q1 ?_
    conv=>whnf
    refine q1 ?_
    conv=>whnf
    refine Tr.cond ?_
    conv=>whnf
    refine cB h (fun hb69 h => ?_) (fun hb69 h => ?_)
    ·refine Tr.skip ?_
     conv=>whnf
     refine Tr.block ?_
     refine rg ?_
     conv=>whnf
     refine arS_raw ?_
     conv=>whnf
     refine ⟨((w64 (i_59 + 1))), h, ?_⟩
     exact Wk.mk2 [0] 1 rfl rfl (by decide) rfl ⟨daS_d rfl, trivial⟩ ⟨rr, rr, rr, rr, rr, rr, rr, trivial⟩
    refine Tr.exit ?_
    conv=>whnf
    cases h
    exact Wk.mk2 [0] 1 rfl rfl (by decide) rfl ⟨daS_d rfl, trivial⟩ ⟨rr, rr, rr, rr, rr, rr, rr, trivial⟩
   conv=>whnf
   refine q1 ?_
   conv=>whnf
   refine Tr.cond ?_
   conv=>whnf
   refine Tr.exit ?_
   conv=>whnf
   cases h
   exact Wk.mk2 [0] 1 rfl rfl (by decide) rfl ⟨daS_d rfl, trivial⟩ ⟨rr, rr, rr, rr, rr, rr, rr, trivial⟩
  clear hv70
  conv=>whnf
  refine Tr.weak hw ?_
  refine Tr.seq ?_
  obtain ⟨j_74, hv83, h⟩ := bS h
  refine Tr.cutQ1 ([(0, .sl 0 3 0 (List.length l_52)), (1, (dI a_1)), (4, .d (.fn 22 [])), (10, (dI 0)), (11, .d (.b false)), (12, (dI i_61)), (13, (dI j_74))]) ([some (.arr 3 (List.map .d (List.map eTmoney_part l_52)))]) ?_ (fun T1 H1 hw => ?_)
  ·replace h := hv83; clear hv83
   refine Tr.block ?_
   refine Tr.loopM (σ := Int) (fun n s => M42 a_1 l_52 i_61 n s) j_74 (fun s => ([(0, .sl 0 3 0 (List.length l_52)), (1, (dI a_1)), (4, .d (.fn 22 [])), (10, (dI 0)), (11, .d (.b false)), (12, (dI i_61)), (13, (dI s))], [some (.arr 3 (List.map .d (List.map eTmoney_part l_52)))])) ((j_51 + 1 - i_61 : Int).toNat + 1) (j_51) h (fun s => rfl) (Wk.mk2 [0] 1 rfl rfl (by decide) rfl ⟨daS_d rfl, trivial⟩ ⟨rr, rr, rr, rr, rr, rr, rr, trivial⟩) ?_
   clear h
   rintro n_73 j_72 h
   replace h : M42 a_1 l_52 i_61 (n_73 + 1) j_72 = some j_74 := h
   rw [M42] at h
   refine Tr.seq ?_
   refine sd [] [(0,1),(1,1),(2,1),(3,1),(4,1),(5,1),(6,1),(7,3),(8,3),(9,1),(10,1),(11,3),(12,3),(13,1),(14,1),(15,1),(16,1)] ?_
   conv=>whnf
   refine q1 ?_
   conv=>whnf
   refine q1 ?_
   conv=>whnf
   refine q1 ?_
   conv=>whnf
   refine q1 ?_
   conv=>whnf
   refine cB h (fun hb77 h => ?_) (fun hb77 h => ?_)
   ·conv=>whnf
    refine q1 ?_
    conv=>whnf
    refine q1 ?_
    conv=>whnf
    refine q1 ?_
    conv=>whnf
    obtain ⟨x_78, hx_78, h⟩ := bS h
    refine q3 (ixS_of hx_78 rfl rr) ?_
    conv=>whnf
    refine q3 (elP_of hx_78 rr) ?_
    conv=>whnf
    refine q1 ?_
    conv=>whnf
    refine q1 ?_
    conv=>whnf
    obtain ⟨x_79, hx_79, h⟩ := bS h
    refine q3 (ixS_of hx_79 rfl rr) ?_
    conv=>whnf
    refine q3 (elP_of hx_79 rr) ?_
    conv=>whnf
    obtain ⟨r_80, hc81, h⟩ := bS h
    refine q1 ?_ (fun _ => pe (P11 x_78 x_79 r_80 hc81) rr)
    conv=>whnf
    refine q1 ?_
    conv=>whnf
    refine q1 ?_
    conv=>whnf
    refine q1 ?_
    conv=>whnf
    refine Tr.cond ?_
    conv=>whnf
    refine cB h (fun hb82 h => ?_) (fun hb82 h => ?_)
    ·refine Tr.skip ?_
     conv=>whnf
     refine Tr.block ?_
     refine rg ?_
     conv=>whnf
     refine arS_raw ?_
     conv=>whnf
     refine ⟨((w64 (j_72 - 1))), h, ?_⟩
     exact Wk.mk2 [0] 1 rfl rfl (by decide) rfl ⟨daS_d rfl, trivial⟩ ⟨rr, rr, rr, rr, rr, rr, rr, trivial⟩
    refine Tr.exit ?_
    conv=>whnf
    cases h
    exact Wk.mk2 [0] 1 rfl rfl (by decide) rfl ⟨daS_d rfl, trivial⟩ ⟨rr, rr, rr, rr, rr, rr, rr, trivial⟩
   conv=>whnf
   refine q1 ?_
   conv=>whnf
   refine Tr.cond ?_
   conv=>whnf
   refine Tr.exit ?_
   conv=>whnf
   cases h
   exact Wk.mk2 [0] 1 rfl rfl (by decide) rfl ⟨daS_d rfl, trivial⟩ ⟨rr, rr, rr, rr, rr, rr, rr, trivial⟩
  clear hv83
  conv=>whnf
  refine Tr.weak hw ?_
  refine Tr.seq ?_
  refine sg ?_
  conv=>whnf
  refine Tr.cond ?_
  conv=>whnf
  refine cB h (fun hb84 h => ?_) (fun hb84 h => ?_)
  ·refine Tr.exit ?_
   conv=>whnf
   cases h
   exact Wk.mk2 [0] 1 rfl rfl (by decide) rfl ⟨daS_d rfl, trivial⟩ ⟨rr, rr, rr, rr, rr, trivial⟩
  refine Tr.skip ?_
  conv=>whnf
  refine sd [(13,0),(15,0)] [(0,1),(1,1),(2,1),(3,1),(4,1),(5,1),(6,3),(7,3),(8,1),(9,1),(10,3),(11,3),(12,3),(13,0),(14,3),(15,0)] ?_
  conv=>whnf
  refine q1 ?_
  conv=>whnf
  refine q1 ?_
  conv=>whnf
  refine q1 ?_
  conv=>whnf
  refine q1 ?_
  conv=>whnf
  refine q1 ?_
  conv=>whnf
  refine q1 ?_
  conv=>whnf
  obtain ⟨x_85, hx_85, h⟩ := bS h
  refine q3 (ixS_of hx_85 rfl rr) ?_
  conv=>whnf
  refine q3 (elP_of hx_85 rr) ?_
  conv=>whnf
  refine q1 ?_
  conv=>whnf
  refine q1 ?_
  conv=>whnf
  obtain ⟨x_86, hx_86, h⟩ := bS h
  refine q3 (ixS_of hx_86 rfl rr) ?_
  conv=>whnf
  refine q3 (elP_of hx_86 rr) ?_
  conv=>whnf
  obtain ⟨x_87, hx_87, h⟩ := bS h
  refine q3 (ixS_of hx_87 rfl rr) ?_
  conv=>whnf
  refine ⟨_, _, (by (conv=>whnf); (refine elP_of hx_87 ?_); (conv=>whnf); (refine lvS_mk (es' := List.map .d (List.map eTmoney_part (List.set l_52 (Int.toNat i_61) x_85))) (by simp only [Nat.zero_add, List.map_set]; first | done | rfl) ?_); (conv=>whnf); (exact rr)), kp_ok (by repeat (first | exact trivial | refine ⟨trivial, ?_⟩ | refine ⟨rfl, ?_⟩)), ?_⟩
  conv=>whnf
  obtain ⟨x_88, hx_88, h⟩ := bS h
  refine q3 (ixS_of hx_88 (by first | rfl | simp) rr) ?_
  conv=>whnf
  refine ⟨_, _, (by (conv=>whnf); (refine elP_of hx_88 ?_); (conv=>whnf); (refine lvS_mk (es' := List.map .d (List.map eTmoney_part (List.set (List.set l_52 (Int.toNat i_61) x_85) (Int.toNat j_74) x_86))) (by simp only [Nat.zero_add, List.map_set]; first | done | rfl) ?_); (conv=>whnf); (exact rr)), kp_ok (by repeat (first | exact trivial | refine ⟨trivial, ?_⟩ | refine ⟨rfl, ?_⟩)), ?_⟩
  conv=>whnf
  refine sg ?_
  conv=>whnf
  refine arS_raw ?_
  conv=>whnf
  refine rg ?_
  conv=>whnf
  refine arS_raw ?_
  conv=>whnf
  refine ⟨((w64 (i_61 + 1)), (w64 (j_74 - 1)), (List.set (List.set l_52 (Int.toNat i_61) x_85) (Int.toNat j_74) x_86)), h, ?_⟩
  exact Wk.mk2 [0] 1 rfl rfl (by decide) rfl ⟨daS_d rfl, trivial⟩ ⟨⟨rfl, (slEq (by first | rfl | simp))⟩, rr, rr, rr, rr, rr, rr, trivial⟩
 clear hv89
 conv=>whnf
 refine Tr.weak hw ?_
 refine sd [(13,0),(15,0)] [(0,1),(1,1),(2,1),(3,1),(4,1),(5,1),(6,3),(7,3),(8,1),(9,1),(10,3),(11,3),(12,3),(13,0),(14,3),(15,0)] ?_
 conv=>whnf
 refine q1 ?_
 conv=>whnf
 refine q1 ?_
 conv=>whnf
 refine q1 ?_
 conv=>whnf
 refine q1 ?_
 conv=>whnf
 refine q1 ?_
 conv=>whnf
 refine q1 ?_
 conv=>whnf
 obtain ⟨x_90, hx_90, h⟩ := bS h
 refine q3 (ixS_of hx_90 rfl rr) ?_
 conv=>whnf
 refine q3 (elP_of hx_90 rr) ?_
 conv=>whnf
 refine q1 ?_
 conv=>whnf
 refine q1 ?_
 conv=>whnf
 obtain ⟨x_91, hx_91, h⟩ := bS h
 refine q3 (ixS_of hx_91 rfl rr) ?_
 conv=>whnf
 refine q3 (elP_of hx_91 rr) ?_
 conv=>whnf
 obtain ⟨x_92, hx_92, h⟩ := bS h
 refine q3 (ixS_of hx_92 rfl rr) ?_
 conv=>whnf
 refine ⟨_, _, (by (conv=>whnf); (refine elP_of hx_92 ?_); (conv=>whnf); (refine lvS_mk (es' := List.map .d (List.map eTmoney_part (List.set l_55 (Int.toNat j_54) x_90))) (by simp only [Nat.zero_add, List.map_set]; first | done | rfl) ?_); (conv=>whnf); (exact rr)), kp_ok (by repeat (first | exact trivial | refine ⟨trivial, ?_⟩ | refine ⟨rfl, ?_⟩)), ?_⟩
 conv=>whnf
 obtain ⟨x_93, hx_93, h⟩ := bS h
 refine q3 (ixS_of hx_93 (by first | rfl | simp) rr) ?_
 conv=>whnf
 refine ⟨_, _, (by (conv=>whnf); (refine elP_of hx_93 ?_); (conv=>whnf); (refine lvS_mk (es' := List.map .d (List.map eTmoney_part (List.set (List.set l_55 (Int.toNat j_54) x_90) (Int.toNat a_1) x_91))) (by simp only [Nat.zero_add, List.map_set]; first | done | rfl) ?_); (conv=>whnf); (exact rr)), kp_ok (by repeat (first | exact trivial | refine ⟨trivial, ?_⟩ | refine ⟨rfl, ?_⟩)), ?_⟩
 conv=>whnf
 refine sg ?_
 conv=>whnf
 refine Tr.ret ?_
 conv=>whnf
 refine endH ?_
 conv=>whnf
 cases h
 exact endB rfl rfl rfl ⟨⟨_, rfl⟩, trivial⟩
theorem P45 (length_1 : Int) (r_2 : Int) (h : M45 length_1 = some r_2) :
    PC prog 57 [(.i .i64 length_1)] (fun rs => rs = [(.i .u64 r_2)]) := by
 refine PC.of_tr (cx := ⟨7, none, lay, 0⟩) layOK func57 rfl rfl rfl rfl rfl (by simp [f57]) ?_
 unfold M45 at h
 refine sg ?_
 conv=>whnf
 refine sg ?_
 conv=>whnf
 refine arS_raw ?_
 conv=>whnf
 obtain ⟨r_3, hc4, h⟩ := bS h
 refine PC.ecall (P5 (IntKind.wrap .u64 length_1) r_3 hc4) (fun rs hrs => ?_)
 subst hrs
 conv=>whnf
 obtain ⟨u_5, hu_5, h⟩ := bS h
 refine nnS_mk (nn_ge hu_5) ?_
 conv=>whnf
 refine Tr.ret ?_
 conv=>whnf
 cases h
 rfl
theorem P46 (v_1 : Int) (r_2 : Int) (b_3 : Int) (h : M46 v_1 = some (r_2, b_3)) :
    MC prog 58 [.pt 0 0] [.var [.d (.i .u64 v_1)]] (fun rs Bs => rs = [(.i .u64 r_2)] ∧ Bs = [.var [.d (.i .u64 b_3)]]) := by
 refine MC.of_tr (cx := ⟨33, none, lay, 1⟩) layOK func58 rfl rfl rfl rfl rfl (by simp [f58]) ?_
 refine Tr.unW ?_
 unfold M46 at h
 refine sg ?_
 conv=>whnf
 refine sd [(9,0)] [(0,1),(1,3),(2,3),(3,1),(4,3),(5,3),(6,1),(7,1),(8,3),(9,0)] ?_
 conv=>whnf
 refine q1 ?_
 conv=>whnf
 refine q2 ?_
 conv=>whnf
 refine q2 ?_
 conv=>whnf
 refine q1 ?_
 conv=>whnf
 refine q2 ?_
 conv=>whnf
 refine q2 ?_
 conv=>whnf
 refine q1 ?_ (fun _ => nnS_mk (by decide) rr)
 conv=>whnf
 refine q1 ?_
 conv=>whnf
 refine q2 ?_
 conv=>whnf
 refine ⟨_, _, rr, kp_ok (by repeat (first | exact trivial | refine ⟨trivial, ?_⟩ | refine ⟨rfl, ?_⟩)), ?_⟩
 conv=>whnf
 refine sd [(9,0)] [(0,1),(1,3),(2,3),(3,1),(4,3),(5,3),(6,1),(7,1),(8,3),(9,0)] ?_
 conv=>whnf
 refine q1 ?_
 conv=>whnf
 refine q2 ?_
 conv=>whnf
 refine q2 ?_
 conv=>whnf
 refine q1 ?_
 conv=>whnf
 refine q2 ?_
 conv=>whnf
 refine q2 ?_
 conv=>whnf
 refine q1 ?_ (fun _ => nnS_mk (by decide) rr)
 conv=>whnf
 refine q1 ?_
 conv=>whnf
 refine q2 ?_
 conv=>whnf
 refine ⟨_, _, rr, kp_ok (by repeat (first | exact trivial | refine ⟨trivial, ?_⟩ | refine ⟨rfl, ?_⟩)), ?_⟩
 conv=>whnf
 refine sd [(9,0)] [(0,1),(1,3),(2,3),(3,1),(4,3),(5,3),(6,1),(7,1),(8,3),(9,0)] ?_
 conv=>whnf
 refine q1 ?_
 conv=>whnf
 refine q2 ?_
 conv=>whnf
 refine q2 ?_
 conv=>whnf
 refine q1 ?_
 conv=>whnf
 refine q2 ?_
 conv=>whnf
 refine q2 ?_
 conv=>whnf
 refine q1 ?_ (fun _ => nnS_mk (by decide) rr)
 conv=>whnf
 refine q1 ?_
 conv=>whnf
 refine q2 ?_
 conv=>whnf
 refine ⟨_, _, rr, kp_ok (by repeat (first | exact trivial | refine ⟨trivial, ?_⟩ | refine ⟨rfl, ?_⟩)), ?_⟩
 conv=>whnf
 refine sg ?_
 conv=>whnf
 refine Tr.ret ?_
 conv=>whnf
 refine endH ?_
 conv=>whnf
 cases h
 exact endB rfl rfl rfl ⟨rfl, trivial⟩
theorem P48 (a_1 : Int) (b_2 : Int) (l_3 : List Tmoney_part) (l_4 : List Tmoney_part) (h : M48 a_1 b_2 l_3 = some l_4) :
    MC prog 41 [.sl 0 3 0 (List.length l_3), (dI a_1), (dI b_2), .d (.fn 22 [])] [.arr 3 (List.map .d (List.map eTmoney_part l_3))] (fun rs Bs => rs = [] ∧ Bs = [.arr 3 (List.map .d (List.map eTmoney_part l_4))]) := by
 refine MC.of_tr (cx := ⟨67, none, lay, 1⟩) layOK func41 rfl rfl rfl rfl rfl (by simp [f41]) ?_
 refine Tr.unW ?_
 unfold M48 at h
 refine sg ?_
 conv=>whnf
 refine arS_raw ?_
 conv=>whnf
 refine sg ?_
 conv=>whnf
 refine Tr.cond ?_
 conv=>whnf
 refine cB h (fun hb5 h => ?_) (fun hb5 h => ?_)
 ·refine sg ?_
  conv=>whnf
  refine arS_raw ?_
  conv=>whnf
  refine sg ?_
  conv=>whnf
  obtain ⟨r_6, hc7, h⟩ := bS h
  refine PC.ecall (P45 ((w64 (b_2 - a_1))) r_6 hc7) (fun rs hrs => ?_)
  subst hrs
  conv=>whnf
  refine sg ?_
  conv=>whnf
  refine neS_mk (by decide) ?_
  conv=>whnf
  refine arS_raw ?_
  conv=>whnf
  refine arS_raw ?_
  conv=>whnf
  refine arS_raw ?_
  conv=>whnf
  refine arS_raw ?_
  conv=>whnf
  obtain ⟨l_15, hv31, h⟩ := bS h
  refine Tr.cutQ1 ([]) ([some (.arr 3 (List.map .d (List.map eTmoney_part l_15)))]) ?_ (fun T1 H1 hw => ?_)
  ·replace h := hv31; clear hv31
   refine Tr.block ?_
   refine Tr.loopM (σ := Int × List Tmoney_part × Int) (fun n s => M47 a_1 b_2 r_6 n s.1 s.2.1 s.2.2) l_15 (fun s => ([(0, .sl 0 3 0 (List.length s.2.1)), (1, (dI a_1)), (8, (dI (w64 (b_2 - a_1)))), (9, .pt 1 0), (10, .d (.i .u64 r_6)), (11, (dI s.1))], [some (.arr 3 (List.map .d (List.map eTmoney_part s.2.1))), some (.var [.d (.i .u64 s.2.2)])])) (((w64 ((w64 (a_1 + (w64 ((w64 (Int.tdiv (w64 (b_2 - a_1)) 4)) * 2)))) + 1)) + 1 - (w64 ((w64 (a_1 + (w64 ((w64 (Int.tdiv (w64 (b_2 - a_1)) 4)) * 2)))) - 1)) : Int).toNat + 1) ((w64 ((w64 (a_1 + (w64 ((w64 (Int.tdiv (w64 (b_2 - a_1)) 4)) * 2)))) - 1)), l_3, (IntKind.wrap .u64 (w64 (b_2 - a_1)))) h (fun s => rfl) (Wk.mk2 [0, 1] 2 rfl rfl (by decide) rfl ⟨daS_d rfl, rr, trivial⟩ ⟨rr, rr, rr, rr, rr, rr, trivial⟩) ?_
   clear h
   rintro n_14 ⟨idx_11, l_12, v_13⟩ h
   replace h : M47 a_1 b_2 r_6 (n_14 + 1) idx_11 l_12 v_13 = some l_15 := h
   rw [M47] at h
   refine Tr.seq ?_
   refine sg ?_
   conv=>whnf
   refine neS_mk (by decide) ?_
   conv=>whnf
   refine arS_raw ?_
   conv=>whnf
   refine arS_raw ?_
   conv=>whnf
   refine arS_raw ?_
   conv=>whnf
   refine arS_raw ?_
   conv=>whnf
   refine Tr.cond ?_
   conv=>whnf
   refine cB h (fun hb18 h => ?_) (fun hb18 h => ?_)
   ·refine Tr.skip ?_
    conv=>whnf
    refine Tr.seq ?_
    refine Tr.block ?_
    refine sg ?_
    conv=>whnf
    obtain ⟨⟨r_19, b_20⟩, hc21, h⟩ := bS h
    refine MC.ecall (P46 v_13 r_19 b_20 hc21) [1] (by decide) rfl rfl ?_ (fun rs Bs1 hrs => ?_)
    · exact ⟨⟨rfl, rfl⟩, trivial⟩
    obtain ⟨rfl, rfl⟩ := hrs
    conv=>whnf
    refine arS_raw ?_
    conv=>whnf
    refine arS_raw ?_
    conv=>whnf
    refine Tr.seq ?_
    refine sg ?_
    conv=>whnf
    refine Tr.cond ?_
    conv=>whnf
    refine cB h (fun hb22 h => ?_) (fun hb22 h => ?_)
    ·refine rg ?_
     conv=>whnf
     refine arS_raw ?_
     conv=>whnf
     refine dq [(17,0),(19,0)] [(0,1),(1,1),(2,1),(3,1),(4,1),(5,1),(6,1),(7,1),(8,1),(9,1),(10,3),(11,3),(12,1),(13,1),(14,3),(15,3),(16,3),(17,0),(18,3),(19,0)] ?_
     conv=>whnf
     refine q1 ?_
     conv=>whnf
     refine q1 ?_
     conv=>whnf
     refine q1 ?_
     conv=>whnf
     refine q1 ?_
     conv=>whnf
     refine q1 ?_
     conv=>whnf
     refine q4 ?_
     conv=>whnf
     refine q1 ?_
     conv=>whnf
     refine q1 ?_
     conv=>whnf
     refine q1 ?_
     conv=>whnf
     refine q4 ?_
     conv=>whnf
     obtain ⟨x_23, hx_23, h⟩ := bS h
     refine q3 (ixS_of hx_23 rfl rr) ?_
     conv=>whnf
     refine q3 (elP_of hx_23 rr) ?_
     conv=>whnf
     refine q1 ?_
     conv=>whnf
     refine q1 ?_
     conv=>whnf
     obtain ⟨x_24, hx_24, h⟩ := bS h
     refine q3 (ixS_of hx_24 rfl rr) ?_
     conv=>whnf
     refine q3 (elP_of hx_24 rr) ?_
     conv=>whnf
     obtain ⟨x_25, hx_25, h⟩ := bS h
     refine q3 (ixS_of hx_25 rfl rr) ?_
     conv=>whnf
     refine ⟨_, _, (by (conv=>whnf); (refine elP_of hx_25 ?_); (conv=>whnf); (refine lvS_mk (es' := List.map .d (List.map eTmoney_part (List.set l_12 (Int.toNat idx_11) x_23))) (by simp only [Nat.zero_add, List.map_set]; first | done | rfl) ?_); (conv=>whnf); (exact rr)), kp_ok (by repeat (first | exact trivial | refine ⟨trivial, ?_⟩ | refine ⟨rfl, ?_⟩)), ?_⟩
     conv=>whnf
     obtain ⟨x_26, hx_26, h⟩ := bS h
     refine q3 (ixS_of hx_26 (by first | rfl | simp) rr) ?_
     conv=>whnf
     refine ⟨_, _, (by (conv=>whnf); (refine elP_of hx_26 ?_); (conv=>whnf); (refine lvS_mk (es' := List.map .d (List.map eTmoney_part (List.set (List.set l_12 (Int.toNat idx_11) x_23) (Int.toNat (w64 (a_1 + (w64 ((w64 (bitK .u64 (BitVec.ofInt 64 r_19 &&& BitVec.ofInt 64 (IntKind.wrap .u64 (r_6 - 1))))) - (w64 (b_2 - a_1))))))) x_24))) (by simp only [Nat.zero_add, List.map_set]; first | done | rfl) ?_); (conv=>whnf); (exact rr)), kp_ok (by repeat (first | exact trivial | refine ⟨trivial, ?_⟩ | refine ⟨rfl, ?_⟩)), ?_⟩
     conv=>whnf
     refine rg ?_
     conv=>whnf
     refine arS_raw ?_
     conv=>whnf
     refine ⟨((w64 (idx_11 + 1)), (List.set (List.set l_12 (Int.toNat idx_11) x_23) (Int.toNat (w64 (a_1 + (w64 ((w64 (bitK .u64 (BitVec.ofInt 64 r_19 &&& BitVec.ofInt 64 (IntKind.wrap .u64 (r_6 - 1))))) - (w64 (b_2 - a_1))))))) x_24), b_20), h, ?_⟩
     exact Wk.mk2 [0, 1] 2 rfl rfl (by decide) rfl ⟨daS_d rfl, rr, trivial⟩ ⟨⟨rfl, (slEq (by first | rfl | simp))⟩, rr, rr, rr, rr, rr, trivial⟩
    refine Tr.skip ?_
    conv=>whnf
    refine dq [(17,0),(19,0)] [(0,1),(1,1),(2,1),(3,1),(4,1),(5,1),(6,1),(7,1),(8,1),(9,1),(10,3),(11,3),(12,1),(13,1),(14,3),(15,3),(16,3),(17,0),(18,3),(19,0)] ?_
    conv=>whnf
    refine q1 ?_
    conv=>whnf
    refine q1 ?_
    conv=>whnf
    refine q1 ?_
    conv=>whnf
    refine q1 ?_
    conv=>whnf
    refine q1 ?_
    conv=>whnf
    refine q4 ?_
    conv=>whnf
    refine q1 ?_
    conv=>whnf
    refine q1 ?_
    conv=>whnf
    refine q1 ?_
    conv=>whnf
    refine q4 ?_
    conv=>whnf
    obtain ⟨x_27, hx_27, h⟩ := bS h
    refine q3 (ixS_of hx_27 rfl rr) ?_
    conv=>whnf
    refine q3 (elP_of hx_27 rr) ?_
    conv=>whnf
    refine q1 ?_
    conv=>whnf
    refine q1 ?_
    conv=>whnf
    obtain ⟨x_28, hx_28, h⟩ := bS h
    refine q3 (ixS_of hx_28 rfl rr) ?_
    conv=>whnf
    refine q3 (elP_of hx_28 rr) ?_
    conv=>whnf
    obtain ⟨x_29, hx_29, h⟩ := bS h
    refine q3 (ixS_of hx_29 rfl rr) ?_
    conv=>whnf
    refine ⟨_, _, (by (conv=>whnf); (refine elP_of hx_29 ?_); (conv=>whnf); (refine lvS_mk (es' := List.map .d (List.map eTmoney_part (List.set l_12 (Int.toNat idx_11) x_27))) (by simp only [Nat.zero_add, List.map_set]; first | done | rfl) ?_); (conv=>whnf); (exact rr)), kp_ok (by repeat (first | exact trivial | refine ⟨trivial, ?_⟩ | refine ⟨rfl, ?_⟩)), ?_⟩
    conv=>whnf
    obtain ⟨x_30, hx_30, h⟩ := bS h
    refine q3 (ixS_of hx_30 (by first | rfl | simp) rr) ?_
    conv=>whnf
    refine ⟨_, _, (by (conv=>whnf); (refine elP_of hx_30 ?_); (conv=>whnf); (refine lvS_mk (es' := List.map .d (List.map eTmoney_part (List.set (List.set l_12 (Int.toNat idx_11) x_27) (Int.toNat (w64 (a_1 + (w64 (bitK .u64 (BitVec.ofInt 64 r_19 &&& BitVec.ofInt 64 (IntKind.wrap .u64 (r_6 - 1)))))))) x_28))) (by simp only [Nat.zero_add, List.map_set]; first | done | rfl) ?_); (conv=>whnf); (exact rr)), kp_ok (by repeat (first | exact trivial | refine ⟨trivial, ?_⟩ | refine ⟨rfl, ?_⟩)), ?_⟩
    conv=>whnf
    refine rg ?_
    conv=>whnf
    refine arS_raw ?_
    conv=>whnf
    refine ⟨((w64 (idx_11 + 1)), (List.set (List.set l_12 (Int.toNat idx_11) x_27) (Int.toNat (w64 (a_1 + (w64 (bitK .u64 (BitVec.ofInt 64 r_19 &&& BitVec.ofInt 64 (IntKind.wrap .u64 (r_6 - 1)))))))) x_28), b_20), h, ?_⟩
    exact Wk.mk2 [0, 1] 2 rfl rfl (by decide) rfl ⟨daS_d rfl, rr, trivial⟩ ⟨⟨rfl, (slEq (by first | rfl | simp))⟩, rr, rr, rr, rr, rr, trivial⟩
   refine Tr.exit ?_
   conv=>whnf
   cases h
   exact Wk.mk2 [0] 2 rfl rfl (by decide) rfl ⟨daS_d rfl, trivial⟩ trivial
  clear hv31
  conv=>whnf
  refine endW hw ?_
  conv=>whnf
  cases h
  exact endB rfl rfl rfl ⟨⟨_, rfl⟩, trivial⟩
 refine Tr.skip ?_
 conv=>whnf
 refine endH ?_
 conv=>whnf
 cases h
 exact endB rfl rfl rfl ⟨⟨_, rfl⟩, trivial⟩
theorem P51 (rc_9007 : Int → Int → Int → (List Tmoney_part) → Option (List Tmoney_part)) (ih_9007 : ∀ (a_1 : Int) (b_2 : Int) (limit_3 : Int) (l_4 : List Tmoney_part) (l_5 : List Tmoney_part), rc_9007 a_1 b_2 limit_3 l_4 = some l_5 → MC prog 28 [.sl 0 3 0 (List.length l_4), (dI a_1), (dI b_2), (dI limit_3), .d (.fn 22 [])] [.arr 3 (List.map .d (List.map eTmoney_part l_4))] (fun rs Bs => rs = [] ∧ Bs = [.arr 3 (List.map .d (List.map eTmoney_part l_5))])) (a_1 : Int) (b_2 : Int) (limit_3 : Int) (l_4 : List Tmoney_part) (l_5 : List Tmoney_part) (h : M51 rc_9007 a_1 b_2 limit_3 l_4 = some l_5) :
    MC prog 28 [.sl 0 3 0 (List.length l_4), (dI a_1), (dI b_2), (dI limit_3), .d (.fn 22 [])] [.arr 3 (List.map .d (List.map eTmoney_part l_4))] (fun rs Bs => rs = [] ∧ Bs = [.arr 3 (List.map .d (List.map eTmoney_part l_5))]) := by
 refine MC.of_tr (cx := ⟨148, none, lay, 1⟩) layOK func28 rfl rfl rfl rfl rfl (by simp [f28]) ?_
 refine Tr.unW ?_
 unfold M51 at h
 refine sg ?_
 conv=>whnf
 refine sg ?_
 conv=>whnf
 refine Tr.block ?_
 refine Tr.loopM (σ := Int × Int × Int × Bool × Bool × List Tmoney_part) (fun n s => M50 rc_9007 n s.1 s.2.1 s.2.2.1 s.2.2.2.1 s.2.2.2.2.1 s.2.2.2.2.2) l_5 (fun s => ([(0, .sl 0 3 0 (List.length s.2.2.2.2.2)), (1, (dI s.1)), (2, (dI s.2.1)), (3, (dI s.2.2.1)), (4, .d (.fn 22 [])), (10, .d (.b s.2.2.2.1)), (11, .d (.b s.2.2.2.2.1))], [some (.arr 3 (List.map .d (List.map eTmoney_part s.2.2.2.2.2)))])) (List.length l_4 + 1) (a_1, b_2, limit_3, true, true, l_4) h (fun s => rfl) (Wk.mk2 [0] 1 rfl rfl (by decide) rfl ⟨daS_d rfl, trivial⟩ ⟨rr, rr, rr, rr, rr, rr, rr, trivial⟩) ?_
 clear h
 rintro n_23 ⟨a_17, b_18, limit_19, wasBalanced_20, wasPartitioned_21, l_22⟩ h
 replace h : M50 rc_9007 (n_23 + 1) a_17 b_18 limit_19 wasBalanced_20 wasPartitioned_21 l_22 = some l_5 := h
 rw [M50] at h
 refine Tr.block ?_
 refine sg ?_
 conv=>whnf
 refine arS_raw ?_
 conv=>whnf
 refine Tr.seq ?_
 refine sg ?_
 conv=>whnf
 refine Tr.cond ?_
 conv=>whnf
 refine cB h (fun hb26 h => ?_) (fun hb26 h => ?_)
 ·refine sg ?_
  conv=>whnf
  obtain ⟨l_27, hc28, h⟩ := bS h
  refine MC.ecall (P14 a_17 b_18 l_22 l_27 hc28) [0] (by decide) rfl rfl ?_ (fun rs Bs1 hrs => ?_)
  · exact ⟨⟨⟨_, rfl⟩, rfl⟩, trivial⟩
  obtain ⟨rfl, rfl⟩ := hrs
  conv=>whnf
  obtain ⟨_, hl29, h⟩ := bS h
  refine Tr.ret ?_
  conv=>whnf
  refine endH ?_
  conv=>whnf
  cases h
  exact endB rfl rfl rfl ⟨⟨_, rfl⟩, trivial⟩
 refine Tr.skip ?_
 conv=>whnf
 refine Tr.seq ?_
 refine sg ?_
 conv=>whnf
 refine Tr.cond ?_
 conv=>whnf
 refine cB h (fun hb30 h => ?_) (fun hb30 h => ?_)
 ·refine sg ?_
  conv=>whnf
  obtain ⟨l_31, hc32, h⟩ := bS h
  refine MC.ecall (P20 a_17 b_18 l_22 l_31 hc32) [0] (by decide) rfl rfl ?_ (fun rs Bs1 hrs => ?_)
  · exact ⟨⟨⟨_, rfl⟩, rfl⟩, trivial⟩
  obtain ⟨rfl, rfl⟩ := hrs
  conv=>whnf
  obtain ⟨_, hl33, h⟩ := bS h
  refine Tr.ret ?_
  conv=>whnf
  refine endH ?_
  conv=>whnf
  cases h
  exact endB rfl rfl rfl ⟨⟨_, rfl⟩, trivial⟩
 refine Tr.skip ?_
 conv=>whnf
 refine Tr.seq ?_
 refine sg ?_
 conv=>whnf
 obtain ⟨⟨limit_34, l_35⟩, hv36, h⟩ := bS h
 refine Tr.cutQ1 ([(0, .sl 0 3 0 (List.length l_35)), (1, (dI a_17)), (2, (dI b_18)), (3, (dI limit_34)), (4, .d (.fn 22 [])), (10, .d (.b wasBalanced_20)), (11, .d (.b wasPartitioned_21)), (12, (dI (w64 (b_18 - a_17))))]) ([some (.arr 3 (List.map .d (List.map eTmoney_part l_35)))]) ?_ (fun T1 H1 hw => ?_)
 ·replace h := hv36; clear hv36
  refine Tr.cond ?_
  conv=>whnf
  refine cB h (fun hb37 h => ?_) (fun hb37 h => ?_)
  ·refine sg ?_
   conv=>whnf
   obtain ⟨l_38, hc39, h⟩ := bS h
   refine MC.ecall (P48 a_17 b_18 l_22 l_38 hc39) [0] (by decide) rfl rfl ?_ (fun rs Bs1 hrs => ?_)
   · exact ⟨⟨⟨_, rfl⟩, rfl⟩, trivial⟩
   obtain ⟨rfl, rfl⟩ := hrs
   conv=>whnf
   obtain ⟨_, hl40, h⟩ := bS h
   refine rg ?_
   conv=>whnf
   refine arS_raw ?_
   conv=>whnf
   cases h
   exact Wk.mk2 [0] 1 rfl rfl (by decide) rfl ⟨daS_d rfl, trivial⟩ ⟨⟨rfl, (slEq (by first | rfl | simp [lenIs_eq hl40]))⟩, rr, rr, rr, rr, rr, rr, rr, trivial⟩
  refine Tr.skip ?_
  conv=>whnf
  cases h
  exact Wk.mk2 [0] 1 rfl rfl (by decide) rfl ⟨daS_d rfl, trivial⟩ ⟨rr, rr, rr, rr, rr, rr, rr, rr, trivial⟩
 clear hv36
 conv=>whnf
 refine Tr.weak hw ?_
 refine sg ?_
 conv=>whnf
 obtain ⟨⟨r_41, r_42⟩, hc43, h⟩ := bS h
 refine PC.ecall_lend ?_ ⟨_, _, func42, rfl, rfl⟩
 conv=>whnf
 refine frE_of (f := eTmoney_part) (l := l_35) rfl ?_
 conv=>whnf
 refine ⟨_, P24 l_35 a_17 b_18 r_41 r_42 hc43, fun rs hrs => ?_⟩
 subst hrs
 refine ⟨rfl, ?_⟩
 conv=>whnf
 refine Tr.seq ?_
 refine sg ?_
 conv=>whnf
 obtain ⟨⟨pivot_44, hint_45, l_46⟩, hv47, h⟩ := bS h
 refine Tr.cutQ1 ([(0, .sl 0 3 0 (List.length l_46)), (1, (dI a_17)), (2, (dI b_18)), (3, (dI limit_34)), (4, .d (.fn 22 [])), (10, .d (.b wasBalanced_20)), (11, .d (.b wasPartitioned_21)), (12, (dI (w64 (b_18 - a_17)))), (13, (dI pivot_44)), (14, (dI hint_45))]) ([some (.arr 3 (List.map .d (List.map eTmoney_part l_46)))]) ?_ (fun T1 H1 hw => ?_)
 ·replace h := hv47; clear hv47
  refine Tr.cond ?_
  conv=>whnf
  refine cB h (fun hb48 h => ?_) (fun hb48 h => ?_)
  ·refine sg ?_
   conv=>whnf
   obtain ⟨l_49, hc50, h⟩ := bS h
   refine MC.ecall (P26 a_17 b_18 l_35 l_49 hc50) [0] (by decide) rfl rfl ?_ (fun rs Bs1 hrs => ?_)
   · exact ⟨⟨⟨_, rfl⟩, rfl⟩, trivial⟩
   obtain ⟨rfl, rfl⟩ := hrs
   conv=>whnf
   obtain ⟨_, hl51, h⟩ := bS h
   refine sg ?_
   conv=>whnf
   refine arS_raw ?_
   conv=>whnf
   refine arS_raw ?_
   conv=>whnf
   refine arS_raw ?_
   conv=>whnf
   refine rg ?_
   conv=>whnf
   cases h
   exact Wk.mk2 [0] 1 rfl rfl (by decide) rfl ⟨daS_d rfl, trivial⟩ ⟨⟨rfl, (slEq (by first | rfl | simp [lenIs_eq hl51]))⟩, rr, rr, rr, rr, rr, rr, rr, rr, rr, trivial⟩
  refine Tr.skip ?_
  conv=>whnf
  cases h
  exact Wk.mk2 [0] 1 rfl rfl (by decide) rfl ⟨daS_d rfl, trivial⟩ ⟨rr, rr, rr, rr, rr, rr, rr, rr, rr, rr, trivial⟩
 clear hv47
 conv=>whnf
 refine Tr.weak hw ?_
 refine Tr.seq ?_
 refine Tr.seq ?_
 refine Tr.cutQ1 ([(0, .sl 0 3 0 (List.length l_46)), (1, (dI a_17)), (2, (dI b_18)), (3, (dI limit_34)), (4, .d (.fn 22 [])), (10, .d (.b wasBalanced_20)), (11, .d (.b wasPartitioned_21)), (12, (dI (w64 (b_18 - a_17)))), (13, (dI pivot_44)), (75, .d (.b (wasBalanced_20 && (wasPartitioned_21 && (hint_45 == 1)))))]) ([some (.arr 3 (List.map .d (List.map eTmoney_part l_46)))]) ?_ (fun T1 H1 hw => ?_)
 ·refine rg ?_
  conv=>whnf
  refine condS_mk (fun hb53 => ?_) (fun hb53 => ?_)
  ·conv=>whnf
   refine condS_mk (fun hb54 => ?_) (fun hb54 => ?_)
   ·conv=>whnf
    exact Wk.mk2 [0] 1 rfl rfl (by decide) rfl ⟨daS_d rfl, trivial⟩ ⟨rr, rr, rr, rr, rr, rr, rr, rr, rr, ⟨rfl, (by first | rfl | (simp only [↓hb26, ↓hb30, ↓hb53, ↓hb54, bl]; done) | (simp only [↓hb26, ↓hb30, ↓hb53, ↓hb54, bl]; rfl))⟩, trivial⟩
   conv=>whnf
   exact Wk.mk2 [0] 1 rfl rfl (by decide) rfl ⟨daS_d rfl, trivial⟩ ⟨rr, rr, rr, rr, rr, rr, rr, rr, rr, ⟨rfl, (by first | rfl | (simp only [↓hb26, ↓hb30, ↓hb53, ↓hb54, bl]; done) | (simp only [↓hb26, ↓hb30, ↓hb53, ↓hb54, bl]; rfl))⟩, trivial⟩
  conv=>whnf
  exact Wk.mk2 [0] 1 rfl rfl (by decide) rfl ⟨daS_d rfl, trivial⟩ ⟨rr, rr, rr, rr, rr, rr, rr, rr, rr, ⟨rfl, (by first | rfl | (simp only [↓hb26, ↓hb30, ↓hb53, bl]; done) | (simp only [↓hb26, ↓hb30, ↓hb53, bl]; rfl))⟩, trivial⟩
 conv=>whnf
 refine Tr.weak hw ?_
 refine Tr.cutQ (α := List Tmoney_part) (fun s => ([(0, .sl 0 3 0 (List.length s)), (1, (dI a_17)), (2, (dI b_18)), (3, (dI limit_34)), (4, .d (.fn 22 [])), (10, .d (.b wasBalanced_20)), (11, .d (.b wasPartitioned_21)), (12, (dI (w64 (b_18 - a_17)))), (13, (dI pivot_44))], [some (.arr 3 (List.map .d (List.map eTmoney_part s)))])) (fun s => M49 a_17 b_18 wasBalanced_20 wasPartitioned_21 (M50 rc_9007 n_23) limit_34 pivot_44 rc_9007 s = some l_5) ?_ ?_
 ·refine Tr.cond ?_
  conv=>whnf
  refine cB h (fun hb80 h => ?_) (fun hb80 h => ?_)
  ·refine sg ?_
   conv=>whnf
   obtain ⟨⟨r_81, l_82⟩, hc83, h⟩ := bS h
   refine MC.ecall (P34 a_17 b_18 l_46 r_81 l_82 hc83) [0] (by decide) rfl rfl ?_ (fun rs Bs1 hrs => ?_)
   · exact ⟨⟨⟨_, rfl⟩, rfl⟩, trivial⟩
   obtain ⟨rfl, rfl⟩ := hrs
   conv=>whnf
   obtain ⟨_, hl84, h⟩ := bS h
   refine Tr.cond ?_
   conv=>whnf
   refine cB h (fun hb85 h => ?_) (fun hb85 h => ?_)
   ·refine Tr.ret ?_
    conv=>whnf
    refine endH ?_
    conv=>whnf
    cases h
    exact endB rfl rfl rfl ⟨⟨_, rfl⟩, trivial⟩
   refine Tr.skip ?_
   conv=>whnf
   refine ⟨(l_82), h, ?_⟩
   exact Wk.mk2 [0] 1 rfl rfl (by decide) rfl ⟨daS_d rfl, trivial⟩ ⟨⟨rfl, (slEq (by first | rfl | simp [lenIs_eq hl84]))⟩, rr, rr, rr, rr, rr, rr, rr, rr, trivial⟩
  refine Tr.skip ?_
  conv=>whnf
  refine ⟨(l_46), h, ?_⟩
  exact Wk.mk2 [0] 1 rfl rfl (by decide) rfl ⟨daS_d rfl, trivial⟩ ⟨rr, rr, rr, rr, rr, rr, rr, rr, rr, trivial⟩
 clear h
 rintro l_55 h T1 H1 hw
 replace h : M49 a_17 b_18 wasBalanced_20 wasPartitioned_21 (M50 rc_9007 n_23) limit_34 pivot_44 rc_9007 l_55 = some l_5 := h
 conv=>whnf
 refine Tr.weak hw ?_
 unfold M49 at h
 refine Tr.seq ?_
 refine Tr.seq ?_
 obtain ⟨v_56, hv57, h⟩ := bS h
 refine Tr.cutQ1 ([(0, .sl 0 3 0 (List.length l_55)), (1, (dI a_17)), (2, (dI b_18)), (3, (dI limit_34)), (4, .d (.fn 22 [])), (10, .d (.b wasBalanced_20)), (11, .d (.b wasPartitioned_21)), (12, (dI (w64 (b_18 - a_17)))), (13, (dI pivot_44)), (97, .d (.b v_56))]) ([some (.arr 3 (List.map .d (List.map eTmoney_part l_55)))]) ?_ (fun T1 H1 hw => ?_)
 ·replace h := hv57; clear hv57
  refine dq [] [(0,1),(1,1),(2,1),(3,1),(4,1),(5,1),(6,1),(7,3),(8,3),(9,1),(10,1),(11,3),(12,3),(13,1),(14,1),(15,1),(16,1)] ?_
  conv=>whnf
  refine q1 ?_
  conv=>whnf
  refine q1 ?_
  conv=>whnf
  refine q1 ?_
  conv=>whnf
  refine cB h (fun hb58 h => ?_) (fun hb58 h => ?_)
  ·conv=>whnf
   refine q1 ?_
   conv=>whnf
   refine q1 ?_
   conv=>whnf
   refine q1 ?_
   conv=>whnf
   refine q4 ?_
   conv=>whnf
   obtain ⟨x_59, hx_59, h⟩ := bS h
   refine q3 (ixS_of hx_59 rfl rr) ?_
   conv=>whnf
   refine q3 (elP_of hx_59 rr) ?_
   conv=>whnf
   refine q1 ?_
   conv=>whnf
   refine q1 ?_
   conv=>whnf
   obtain ⟨x_60, hx_60, h⟩ := bS h
   refine q3 (ixS_of hx_60 rfl rr) ?_
   conv=>whnf
   refine q3 (elP_of hx_60 rr) ?_
   conv=>whnf
   obtain ⟨r_61, hc62, h⟩ := bS h
   refine q1 ?_ (fun _ => pe (P11 x_59 x_60 r_61 hc62) rr)
   conv=>whnf
   refine q1 ?_
   conv=>whnf
   refine q1 ?_
   conv=>whnf
   refine q1 ?_
   conv=>whnf
   cases h
   exact Wk.mk2 [0] 1 rfl rfl (by decide) rfl ⟨daS_d rfl, trivial⟩ ⟨rr, rr, rr, rr, rr, rr, rr, rr, rr, rr, trivial⟩
  conv=>whnf
  refine q1 ?_
  conv=>whnf
  cases h
  exact Wk.mk2 [0] 1 rfl rfl (by decide) rfl ⟨daS_d rfl, trivial⟩ ⟨rr, rr, rr, rr, rr, rr, rr, rr, rr, rr, trivial⟩
 clear hv57
 conv=>whnf
 refine Tr.weak hw ?_
 refine Tr.cond ?_
 conv=>whnf
 refine cB h (fun hb63 h => ?_) (fun hb63 h => ?_)
 ·refine sg ?_
  conv=>whnf
  obtain ⟨⟨r_64, l_65⟩, hc66, h⟩ := bS h
  refine MC.ecall (P38 a_17 b_18 pivot_44 l_55 r_64 l_65 hc66) [0] (by decide) rfl rfl ?_ (fun rs Bs1 hrs => ?_)
  · exact ⟨⟨⟨_, rfl⟩, rfl⟩, trivial⟩
  obtain ⟨rfl, rfl⟩ := hrs
  conv=>whnf
  obtain ⟨_, hl67, h⟩ := bS h
  refine sg ?_
  conv=>whnf
  refine Tr.exit ?_
  conv=>whnf
  refine ⟨(r_64, b_18, limit_34, wasBalanced_20, wasPartitioned_21, l_65), h, ?_⟩
  exact Wk.mk2 [0] 1 rfl rfl (by decide) rfl ⟨daS_d rfl, trivial⟩ ⟨⟨rfl, (slEq (by first | rfl | simp [lenIs_eq hl67]))⟩, rr, rr, rr, rr, rr, rr, trivial⟩
 refine Tr.skip ?_
 conv=>whnf
 refine sg ?_
 conv=>whnf
 obtain ⟨⟨r_68, r_69, l_70⟩, hc71, h⟩ := bS h
 refine MC.ecall (P44 a_17 b_18 pivot_44 l_55 r_68 r_69 l_70 hc71) [0] (by decide) rfl rfl ?_ (fun rs Bs1 hrs => ?_)
 · exact ⟨⟨⟨_, rfl⟩, rfl⟩, trivial⟩
 obtain ⟨rfl, rfl⟩ := hrs
 conv=>whnf
 obtain ⟨_, hl72, h⟩ := bS h
 refine sg ?_
 conv=>whnf
 refine sg ?_
 conv=>whnf
 refine arS_raw ?_
 conv=>whnf
 refine arS_raw ?_
 conv=>whnf
 refine sg ?_
 conv=>whnf
 refine neS_mk (by decide) ?_
 conv=>whnf
 refine arS_raw ?_
 conv=>whnf
 refine sg ?_
 conv=>whnf
 refine Tr.cond ?_
 conv=>whnf
 refine cB h (fun hb73 h => ?_) (fun hb73 h => ?_)
 ·refine sg ?_
  conv=>whnf
  refine sg ?_
  conv=>whnf
  obtain ⟨l_74, hc75, h⟩ := bS h
  refine MC.ecall (ih_9007 a_17 r_68 limit_34 l_70 l_74 hc75) [0] (by decide) (by first | rfl | (simp only [List.length_set, lenIs_eq hl72]; rfl)) rfl ?_ (fun rs Bs1 hrs => ?_)
  · exact ⟨⟨⟨_, rfl⟩, rfl⟩, trivial⟩
  obtain ⟨rfl, rfl⟩ := hrs
  conv=>whnf
  obtain ⟨_, hl76, h⟩ := bS h
  refine rg ?_
  conv=>whnf
  refine arS_raw ?_
  conv=>whnf
  refine ⟨((w64 (r_68 + 1)), b_18, limit_34, (decide ((w64 (r_68 - a_17)) ≥ (w64 (Int.tdiv (w64 (b_18 - a_17)) 8)))), r_69, l_74), h, ?_⟩
  exact Wk.mk2 [0] 1 rfl rfl (by decide) rfl ⟨daS_d rfl, trivial⟩ ⟨⟨rfl, (slEq (by first | rfl | simp [lenIs_eq hl72, lenIs_eq hl76]))⟩, rr, rr, rr, rr, rr, rr, trivial⟩
 refine sg ?_
 conv=>whnf
 refine sg ?_
 conv=>whnf
 refine arS_raw ?_
 conv=>whnf
 obtain ⟨l_77, hc78, h⟩ := bS h
 refine MC.ecall (ih_9007 ((w64 (r_68 + 1))) b_18 limit_34 l_70 l_77 hc78) [0] (by decide) (by first | rfl | (simp only [List.length_set, lenIs_eq hl72]; rfl)) rfl ?_ (fun rs Bs1 hrs => ?_)
 · exact ⟨⟨⟨_, rfl⟩, rfl⟩, trivial⟩
 obtain ⟨rfl, rfl⟩ := hrs
 conv=>whnf
 obtain ⟨_, hl79, h⟩ := bS h
 refine rg ?_
 conv=>whnf
 refine ⟨(a_17, r_68, limit_34, (decide ((w64 (b_18 - r_68)) ≥ (w64 (Int.tdiv (w64 (b_18 - a_17)) 8)))), r_69, l_77), h, ?_⟩
 exact Wk.mk2 [0] 1 rfl rfl (by decide) rfl ⟨daS_d rfl, trivial⟩ ⟨⟨rfl, (slEq (by first | rfl | simp [lenIs_eq hl72, lenIs_eq hl79]))⟩, rr, rr, rr, rr, rr, rr, trivial⟩
theorem P52 (n : Nat) : ∀ (a_1 : Int) (b_2 : Int) (limit_3 : Int) (l_4 : List Tmoney_part) (l_5 : List Tmoney_part), M52 n a_1 b_2 limit_3 l_4 = some l_5 → MC prog 28 [.sl 0 3 0 (List.length l_4), (dI a_1), (dI b_2), (dI limit_3), .d (.fn 22 [])] [.arr 3 (List.map .d (List.map eTmoney_part l_4))] (fun rs Bs => rs = [] ∧ Bs = [.arr 3 (List.map .d (List.map eTmoney_part l_5))]) := by
  induction n with
  | zero =>
    intros
    rename_i h
    cases h
  | succ n ih => exact P51 (M52 n) ih
theorem P53 (l_1 : List Tmoney_part) (l_2 : List Tmoney_part) (h : M53 l_1 = some l_2) :
    MC prog 21 [.sl 0 3 0 (List.length l_1), .d (.fn 22 [])] [.arr 3 (List.map .d (List.map eTmoney_part l_1))] (fun rs Bs => rs = [] ∧ Bs = [.arr 3 (List.map .d (List.map eTmoney_part l_2))]) := by
 refine MC.of_tr (cx := ⟨14, none, lay, 1⟩) layOK func21 rfl rfl rfl rfl rfl (by simp [f21]) ?_
 refine Tr.unW ?_
 unfold M53 at h
 refine sg ?_
 conv=>whnf
 refine lnS_mk rfl ?_
 conv=>whnf
 refine rg ?_
 conv=>whnf
 refine arS_raw ?_
 conv=>whnf
 obtain ⟨r_3, hc4, h⟩ := bS h
 refine PC.ecall (P5 ((IntKind.wrap .u64 (((l_1).length : Int)))) r_3 hc4) (fun rs hrs => ?_)
 subst hrs
 conv=>whnf
 obtain ⟨l_5, hc6, h⟩ := bS h
 refine MC.ecall (P52 (List.length l_1 + 1) 0 ((((l_1).length : Int))) r_3 l_1 l_5 hc6) [0] (by decide) rfl rfl ?_ (fun rs Bs1 hrs => ?_)
 · exact ⟨⟨⟨_, rfl⟩, rfl⟩, trivial⟩
 obtain ⟨rfl, rfl⟩ := hrs
 conv=>whnf
 obtain ⟨_, hl7, h⟩ := bS h
 refine endH ?_
 conv=>whnf
 cases h
 exact endB rfl rfl rfl ⟨⟨_, rfl⟩, trivial⟩
end Go.Proofs.Tryd
