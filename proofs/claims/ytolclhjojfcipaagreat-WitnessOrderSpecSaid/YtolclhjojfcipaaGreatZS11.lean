/- Contracts of functions, by program (gen.py). No condition. -/
import Derived.Test.YtolclhjojfcipaaGreatZL
import Derived.Test.YtolclhjojfcipaaGreatZM
import Derived.Test.YtolclhjojfcipaaGreatZS10
namespace Go.Proofs.Tryz
open Go Go.Abs Go.Stop
set_option maxRecDepth 8000
set_option linter.unusedVariables false
set_option linter.unusedSimpArgs false
theorem P254 (c_1 : List Int) (ys : List Int) (h : M254 c_1 = some ys) (xs : YL) (hx : Rem xs (fun a => [(.i .i64 a)]) 0 ys) :
    ItC prog 78 [(.ro [(.ls (List.map eI c_1))])] xs := by
 refine ItC.of_tr (cx := ⟨16, none, lay, 0⟩) (hx := hx) func78 rfl rfl rfl (by simp [f78]) rfl (fun l hx => ?_)
 unfold M254 at h
 refine TrY.seq ?_
 refine TrY.region layOK ?_
 conv => whnf
 refine lnS_map ?_
 conv => whnf
 refine TrY.block ?_
 refine TrY.loopM (σ := Int) (fun n s => M252 c_1 M253 n s) _ (fun s => ([(0, .yl l), (5, .d (.ls (List.map eI c_1))), (6, (dI (((c_1).length : Int)))), (7, (dI s))], [])) (((((c_1).length : Int)) - 0 : Int).toNat + 1) (0) h (fun s => rfl) hx (Wk.mk2 [] 0 rfl rfl (by decide) rfl trivial ⟨rr, rr, rr, rr, trivial⟩) ?_
 clear h hx
 rintro n_4 v_3 i_10 ys_11 h hx
 replace h : M252 c_1 M253 (n_4 + 1) v_3 = some ys_11 := h
 rw [M252] at h
 refine TrY.seq ?_
 refine TrY.region layOK ?_
 conv => whnf
 refine TrY.seq ?_
 refine TrY.cond ?_
 conv => whnf
 refine cB h (fun hb7 h => ?_) (fun hb7 h => ?_)
 ·refine TrY.skip ?_
  conv => whnf
  refine TrY.seq ?_
  refine TrY.block ?_
  refine TrY.seq ?_
  refine TrY.region layOK ?_
  conv => whnf
  obtain ⟨x_8, hx_8, h⟩ := bS h
  refine ixP_of hx_8 ?_
  conv => whnf
  refine TrY.seq ?_
  refine TrY.region layOK ?_
  conv => whnf
  obtain ⟨l_9, h_9, e_9⟩ := bS h
  clear h
  cases e_9
  have h := h_9
  clear h_9
  refine ylS_of hx rfl (fun gb_9 h1_9 h2_9 => ?_)
  cases gb_9
  ·have hend_9 := h2_9 rfl
   clear h1_9 h2_9 h hx
   conv => whnf
   refine ⟨rfl, ?_⟩
   conv => whnf
   refine TrY.cond ?_
   conv => whnf
   refine TrY.ret ?_
   conv => whnf
   exact hend_9
  replace hx := h1_9 rfl
  clear h1_9 h2_9
  conv => whnf
  refine ⟨rfl, ?_⟩
  conv => whnf
  refine TrY.cond ?_
  conv => whnf
  refine TrY.skip ?_
  conv => whnf
  refine TrY.region layOK ?_
  conv => whnf
  refine arS_raw ?_
  conv => whnf
  refine ⟨((w64 (v_3 + 1))), _, h, hx, ?_⟩
  exact Wk.mk2 [] 0 rfl rfl (by decide) rfl trivial ⟨rr, rr, rr, rr, trivial⟩
 refine TrY.exit ?_
 conv => whnf
 unfold M253 at h
 cases h
 exact Rem.done hx
theorem P255 (x_1 : Int) (r_2 : Int) (h : M255 x_1 = some r_2) :
    PC prog 121 [(.i .u64 x_1)] (fun rs => rs = [(.i .i64 r_2)]) := by
  unfold M255 at h
  split at h
  · rename_i hx
    cases h
    exact PC.of_calls func121 rfl rfl (fun w => Go.Proofs.Tryz.bits_Len x_1 w hx.1 hx.2)
  · cases h
theorem P256 (x_1 : Int) (y_2 : Int) (r_3 : Bool) (h : M256 x_1 y_2 = some r_3) :
    PC prog 140 [(.i .i64 x_1), (.i .i64 y_2)] (fun rs => rs = [(.b r_3)]) := by
 refine PC.of_tr (cx := ⟨17, none, lay, 0⟩) layOK func140 rfl rfl rfl rfl rfl (by simp [f140]) ?_
 unfold M256 at h
 refine Tr.seq ?_
 refine rg ?_
 conv => whnf
 refine Tr.seq ?_
 refine rg ?_
 conv => whnf
 obtain ⟨r_4, hc5, h⟩ := bS h
 refine PC.ecall (P3 x_1 r_4 hc5) (fun rs hrs => ?_)
 subst hrs
 conv => whnf
 refine cB h (fun hb6 h => ?_) (fun hb6 h => ?_)
 ·conv => whnf
  obtain ⟨r_7, hc8, h⟩ := bS h
  refine PC.ecall (P3 y_2 r_7 hc8) (fun rs hrs => ?_)
  subst hrs
  conv => whnf
  refine cB h (fun hb9 h => ?_) (fun hb9 h => ?_)
  ·conv => whnf
   refine Tr.ret ?_
   conv => whnf
   cases h
   rfl
  conv => whnf
  refine Tr.ret ?_
  conv => whnf
  cases h
  rfl
 conv => whnf
 refine Tr.ret ?_
 conv => whnf
 cases h
 rfl
theorem P259 (a_1 : Int) (b_2 : Int) (l_3 : List Int) (l_4 : List Int) (h : M259 a_1 b_2 l_3 = some l_4) :
    MC prog 134 [.sl 0 1 0 (List.length l_3), (dI a_1), (dI b_2)] [.arr 1 (List.map .d (List.map eI l_3))] (fun rs Bs => rs = [] ∧ Bs = [.arr 1 (List.map .d (List.map eI l_4))]) := by
 refine MC.of_tr (cx := ⟨49, none, lay, 1⟩) layOK func134 rfl rfl rfl rfl rfl (by simp [f134]) ?_
 refine Tr.unW ?_
 unfold M259 at h
 refine Tr.seq ?_
 refine rg ?_
 conv => whnf
 refine arS_raw ?_
 conv => whnf
 obtain ⟨l_10, hv33, h⟩ := bS h
 refine Tr.cutQ1 ([]) ([some (.arr 1 (List.map .d (List.map eI l_10)))]) ?_ (fun T1 H1 hw => ?_)
 ·replace h := hv33; clear hv33
  refine Tr.block ?_
  refine Tr.loopM (σ := Int × List Int) (fun n s => M258 a_1 b_2 n s.1 s.2) l_10 (fun s => ([(0, .sl 0 1 0 (List.length s.2)), (1, (dI a_1)), (2, (dI b_2)), (6, (dI s.1))], [some (.arr 1 (List.map .d (List.map eI s.2)))])) ((b_2 - (w64 (a_1 + 1)) : Int).toNat + 1) ((w64 (a_1 + 1)), l_3) h (fun s => rfl) (Wk.mk2 [0] 1 rfl rfl (by decide) rfl ⟨daS_d rfl, trivial⟩ ⟨rr, rr, rr, rr, trivial⟩) ?_
  clear h
  rintro n_9 ⟨i_7, l_8⟩ h
  replace h : M258 a_1 b_2 (n_9 + 1) i_7 l_8 = some l_10 := h
  rw [M258] at h
  refine Tr.seq ?_
  refine Tr.seq ?_
  refine rg ?_
  conv => whnf
  refine Tr.cond ?_
  conv => whnf
  refine cB h (fun hb13 h => ?_) (fun hb13 h => ?_)
  ·refine Tr.skip ?_
   conv => whnf
   refine Tr.seq ?_
   refine Tr.block ?_
   refine Tr.seq ?_
   refine rg ?_
   conv => whnf
   obtain ⟨l_19, hv32, h⟩ := bS h
   refine Tr.cutQ1 ([(0, .sl 0 1 0 (List.length l_19)), (1, (dI a_1)), (2, (dI b_2)), (6, (dI i_7))]) ([some (.arr 1 (List.map .d (List.map eI l_19)))]) ?_ (fun T1 H1 hw => ?_)
   ·replace h := hv32; clear hv32
    refine Tr.block ?_
    refine Tr.loopM (σ := Int × List Int) (fun n s => M257 a_1 n s.1 s.2) l_19 (fun s => ([(0, .sl 0 1 0 (List.length s.2)), (1, (dI a_1)), (2, (dI b_2)), (6, (dI i_7)), (7, (dI s.1))], [some (.arr 1 (List.map .d (List.map eI s.2)))])) ((i_7 - a_1 : Int).toNat + 1) (i_7, l_8) h (fun s => rfl) (Wk.mk2 [0] 1 rfl rfl (by decide) rfl ⟨daS_d rfl, trivial⟩ ⟨rr, rr, rr, rr, rr, trivial⟩) ?_
    clear h
    rintro n_18 ⟨j_16, l_17⟩ h
    replace h : M257 a_1 (n_18 + 1) j_16 l_17 = some l_19 := h
    rw [M257] at h
    refine Tr.seq ?_
    refine Tr.seq ?_
    refine Tr.draw (DrawP.seqQ layOK mixed [] [(0, 1), (1, 1), (2, 1), (3, 1), (4, 1), (5, 1), (6, 3), (7, 3), (8, 1), (9, 1), (10, 1), (11, 3), (12, 3), (13, 1), (14, 1)] (by kernel_rfl) ?_)
    conv => whnf
    refine ⟨_, (fun _ => rr), ?_⟩
    conv => whnf
    refine ⟨_, (fun _ => rr), ?_⟩
    conv => whnf
    refine ⟨_, (fun _ => rr), ?_⟩
    conv => whnf
    refine ⟨_, (fun _ => rr), ?_⟩
    conv => whnf
    refine cB h (fun hb22 h => ?_) (fun hb22 h => ?_)
    ·conv => whnf
     refine ⟨_, (fun _ => rr), ?_⟩
     conv => whnf
     refine ⟨_, (fun _ => rr), ?_⟩
     conv => whnf
     obtain ⟨x_23, hx_23, h⟩ := bS h
     refine ⟨_, ⟨rfl, rfl, (by (conv => whnf); (refine ixS_of hx_23 rfl ?_); (conv => whnf); (exact rr))⟩, ?_⟩
     conv => whnf
     refine ⟨_, ⟨rfl, rfl, (by (conv => whnf); (refine elP_of hx_23 ?_); (conv => whnf); (exact rr))⟩, ?_⟩
     conv => whnf
     refine ⟨_, (fun _ => rr), ?_⟩
     conv => whnf
     refine ⟨_, (fun _ => rr), ?_⟩
     conv => whnf
     refine ⟨_, (fun _ => by (conv => whnf); (refine arS_raw ?_); (conv => whnf); (exact rr)), ?_⟩
     conv => whnf
     obtain ⟨x_24, hx_24, h⟩ := bS h
     refine ⟨_, ⟨rfl, rfl, (by (conv => whnf); (refine ixS_of hx_24 rfl ?_); (conv => whnf); (exact rr))⟩, ?_⟩
     conv => whnf
     refine ⟨_, ⟨rfl, rfl, (by (conv => whnf); (refine elP_of hx_24 ?_); (conv => whnf); (exact rr))⟩, ?_⟩
     conv => whnf
     obtain ⟨r_25, hc26, h⟩ := bS h
     refine ⟨_, (fun _ => by (conv => whnf); (refine PC.ecall (P256 x_23 x_24 r_25 hc26) (fun rs hrs => ?_)); (subst hrs); (conv => whnf); (exact rr)), ?_⟩
     conv => whnf
     refine ⟨_, (fun _ => rr), ?_⟩
     conv => whnf
     refine Tr.cond ?_
     conv => whnf
     refine cB h (fun hb27 h => ?_) (fun hb27 h => ?_)
     ·refine Tr.skip ?_
      conv => whnf
      refine Tr.seq ?_
      refine Tr.block ?_
      refine Tr.draw (DrawP.seqQ layOK mixed [(15, 0), (17, 0)] [(0, 1), (1, 1), (2, 1), (3, 1), (4, 1), (5, 1), (6, 1), (7, 1), (8, 3), (9, 3), (10, 1), (11, 1), (12, 3), (13, 3), (14, 3), (15, 0), (16, 3), (17, 0)] (by kernel_rfl) ?_)
      conv => whnf
      refine ⟨_, (fun _ => rr), ?_⟩
      conv => whnf
      refine ⟨_, (fun _ => rr), ?_⟩
      conv => whnf
      refine ⟨_, (fun _ => rr), ?_⟩
      conv => whnf
      refine ⟨_, (fun _ => rr), ?_⟩
      conv => whnf
      refine ⟨_, (fun _ => by (conv => whnf); (refine arS_raw ?_); (conv => whnf); (exact rr)), ?_⟩
      conv => whnf
      refine ⟨_, (fun _ => rr), ?_⟩
      conv => whnf
      refine ⟨_, (fun _ => rr), ?_⟩
      conv => whnf
      refine ⟨_, (fun _ => by (conv => whnf); (refine arS_raw ?_); (conv => whnf); (exact rr)), ?_⟩
      conv => whnf
      obtain ⟨x_28, hx_28, h⟩ := bS h
      refine ⟨_, ⟨rfl, rfl, (by (conv => whnf); (refine ixS_of hx_28 rfl ?_); (conv => whnf); (exact rr))⟩, ?_⟩
      conv => whnf
      refine ⟨_, ⟨rfl, rfl, (by (conv => whnf); (refine elP_of hx_28 ?_); (conv => whnf); (exact rr))⟩, ?_⟩
      conv => whnf
      refine ⟨_, (fun _ => rr), ?_⟩
      conv => whnf
      refine ⟨_, (fun _ => rr), ?_⟩
      conv => whnf
      obtain ⟨x_29, hx_29, h⟩ := bS h
      refine ⟨_, ⟨rfl, rfl, (by (conv => whnf); (refine ixS_of hx_29 rfl ?_); (conv => whnf); (exact rr))⟩, ?_⟩
      conv => whnf
      refine ⟨_, ⟨rfl, rfl, (by (conv => whnf); (refine elP_of hx_29 ?_); (conv => whnf); (exact rr))⟩, ?_⟩
      conv => whnf
      obtain ⟨x_30, hx_30, h⟩ := bS h
      refine ⟨_, ⟨rfl, rfl, (by (conv => whnf); (refine ixS_of hx_30 rfl ?_); (conv => whnf); (exact rr))⟩, ?_⟩
      conv => whnf
      refine ⟨_, _, (by (conv => whnf); (refine elP_of hx_30 ?_); (conv => whnf); (refine lvS_mk (es' := List.map .d (List.map eI (List.set l_17 (Int.toNat j_16) x_28))) (by simp only [Nat.zero_add, List.map_set]; first | done | rfl) ?_); (conv => whnf); (exact rr)), kp_ok (by repeat (first | exact trivial | refine ⟨trivial, ?_⟩ | refine ⟨rfl, ?_⟩)), ?_⟩
      conv => whnf
      obtain ⟨x_31, hx_31, h⟩ := bS h
      refine ⟨_, ⟨rfl, rfl, (by (conv => whnf); (refine ixS_of hx_31 (by first | rfl | simp) ?_); (conv => whnf); (exact rr))⟩, ?_⟩
      conv => whnf
      refine ⟨_, _, (by (conv => whnf); (refine elP_of hx_31 ?_); (conv => whnf); (refine lvS_mk (es' := List.map .d (List.map eI (List.set (List.set l_17 (Int.toNat j_16) x_28) (Int.toNat (w64 (j_16 - 1))) x_29))) (by simp only [Nat.zero_add, List.map_set]; first | done | rfl) ?_); (conv => whnf); (exact rr)), kp_ok (by repeat (first | exact trivial | refine ⟨trivial, ?_⟩ | refine ⟨rfl, ?_⟩)), ?_⟩
      conv => whnf
      refine rg ?_
      conv => whnf
      refine arS_raw ?_
      conv => whnf
      refine ⟨((w64 (j_16 - 1)), (List.set (List.set l_17 (Int.toNat j_16) x_28) (Int.toNat (w64 (j_16 - 1))) x_29)), h, ?_⟩
      exact Wk.mk2 [0] 1 rfl rfl (by decide) rfl ⟨daS_d rfl, trivial⟩ ⟨⟨rfl, (slEq (by first | rfl | simp))⟩, rr, rr, rr, rr, trivial⟩
     refine Tr.exit ?_
     conv => whnf
     cases h
     exact Wk.mk2 [0] 1 rfl rfl (by decide) rfl ⟨daS_d rfl, trivial⟩ ⟨rr, rr, rr, rr, trivial⟩
    conv => whnf
    refine ⟨_, (fun _ => rr), ?_⟩
    conv => whnf
    refine Tr.cond ?_
    conv => whnf
    refine Tr.exit ?_
    conv => whnf
    cases h
    exact Wk.mk2 [0] 1 rfl rfl (by decide) rfl ⟨daS_d rfl, trivial⟩ ⟨rr, rr, rr, rr, trivial⟩
   clear hv32
   conv => whnf
   refine Tr.weak hw ?_
   refine rg ?_
   conv => whnf
   refine arS_raw ?_
   conv => whnf
   refine ⟨((w64 (i_7 + 1)), l_19), h, ?_⟩
   exact Wk.mk2 [0] 1 rfl rfl (by decide) rfl ⟨daS_d rfl, trivial⟩ ⟨rr, rr, rr, rr, trivial⟩
  refine Tr.exit ?_
  conv => whnf
  cases h
  exact Wk.mk2 [0] 1 rfl rfl (by decide) rfl ⟨daS_d rfl, trivial⟩ trivial
 clear hv33
 conv => whnf
 refine endW hw ?_
 conv => whnf
 cases h
 exact endB rfl rfl rfl ⟨⟨_, rfl⟩, trivial⟩
theorem P261 (a_1 : Int) (b_2 : Int) (limit_3 : Int) (l_4 : List Int) (l_5 : List Int) (h : M261 a_1 b_2 limit_3 l_4 = some l_5) :
    MC prog 120 [.sl 0 1 0 (List.length l_4), (dI a_1), (dI b_2), (dI limit_3)] [.arr 1 (List.map .d (List.map eI l_4))] (fun rs Bs => rs = [] ∧ Bs = [.arr 1 (List.map .d (List.map eI l_5))]) := by
 refine MC.of_tr (cx := ⟨134, none, lay, 1⟩) layOK func120 rfl rfl rfl rfl rfl (by simp [f120]) ?_
 refine Tr.unW ?_
 unfold M261 at h
 refine Tr.seq ?_
 refine rg ?_
 conv => whnf
 refine Tr.seq ?_
 refine rg ?_
 conv => whnf
 refine Tr.block ?_
 refine Tr.loopM (σ := Unit) (fun n s => M260 a_1 b_2 limit_3 l_4 n) l_5 (fun s => ([(0, .sl 0 1 0 (List.length l_4)), (1, (dI a_1)), (2, (dI b_2)), (3, (dI limit_3)), (8, .d (.b true)), (9, .d (.b true))], [some (.arr 1 (List.map .d (List.map eI l_4)))])) ((12 + 1 - (w64 (b_2 - a_1)) : Int).toNat + 1) () h (fun s => rfl) (Wk.mk2 [0] 1 rfl rfl (by decide) rfl ⟨daS_d rfl, trivial⟩ ⟨rr, rr, rr, rr, rr, rr, trivial⟩) ?_
 clear h
 rintro n_6 _ h
 replace h : M260 a_1 b_2 limit_3 l_4 (n_6 + 1) = some l_5 := h
 rw [M260] at h
 refine Tr.block ?_
 refine Tr.seq ?_
 refine rg ?_
 conv => whnf
 refine arS_raw ?_
 conv => whnf
 refine Tr.seq ?_
 refine Tr.seq ?_
 refine rg ?_
 conv => whnf
 refine Tr.cond ?_
 conv => whnf
 refine cB h (fun hb9 h => ?_) (fun hb9 h => ?_)
 ·refine Tr.seq ?_
  refine rg ?_
  conv => whnf
  obtain ⟨l_10, hc11, h⟩ := bS h
  refine MC.ecall (P259 a_1 b_2 l_4 l_10 hc11) [0] (by decide) rfl rfl ?_ (fun rs Bs1 hrs => ?_)
  · exact ⟨⟨⟨_, rfl⟩, rfl⟩, trivial⟩
  obtain ⟨rfl, rfl⟩ := hrs
  conv => whnf
  obtain ⟨_, hl12, h⟩ := bS h
  refine Tr.ret ?_
  conv => whnf
  refine endH ?_
  conv => whnf
  cases h
  exact endB rfl rfl rfl ⟨⟨_, rfl⟩, trivial⟩
 refine Tr.skip ?_
 conv => whnf
 refine Tr.seq ?_
 refine Tr.seq ?_
 refine rg ?_
 conv => whnf
 refine Tr.cond ?_
 conv => whnf
 refine cB h (fun hb13 h => ?_) (fun hb13 h => ?_)
 ·refine Tr.seq ?_
  refine rg ?_
  conv => whnf
  cases h
 refine Tr.skip ?_
 conv => whnf
 refine Tr.seq ?_
 refine Tr.seq ?_
 refine rg ?_
 conv => whnf
 refine Tr.cond ?_
 conv => whnf
 refine Tr.skip ?_
 conv => whnf
 refine Tr.seq ?_
 refine rg ?_
 conv => whnf
 cases h
theorem P262 (l_1 : List Int) (l_2 : List Int) (h : M262 l_1 = some l_2) :
    MC prog 77 [.sl 0 1 0 (List.length l_1)] [.arr 1 (List.map .d (List.map eI l_1))] (fun rs Bs => rs = [] ∧ Bs = [.arr 1 (List.map .d (List.map eI l_2))]) := by
 refine MC.of_tr (cx := ⟨11, none, lay, 1⟩) layOK func77 rfl rfl rfl rfl rfl (by simp [f77]) ?_
 refine Tr.unW ?_
 unfold M262 at h
 refine Tr.seq ?_
 refine rg ?_
 conv => whnf
 refine lnS_mk rfl ?_
 conv => whnf
 refine rg ?_
 conv => whnf
 refine arS_raw ?_
 conv => whnf
 obtain ⟨r_3, hc4, h⟩ := bS h
 refine PC.ecall (P255 ((IntKind.wrap .u64 (((l_1).length : Int)))) r_3 hc4) (fun rs hrs => ?_)
 subst hrs
 conv => whnf
 obtain ⟨l_5, hc6, h⟩ := bS h
 refine MC.ecall (P261 0 ((((l_1).length : Int))) r_3 l_1 l_5 hc6) [0] (by decide) rfl rfl ?_ (fun rs Bs1 hrs => ?_)
 · exact ⟨⟨⟨_, rfl⟩, rfl⟩, trivial⟩
 obtain ⟨rfl, rfl⟩ := hrs
 conv => whnf
 obtain ⟨_, hl7, h⟩ := bS h
 refine endH ?_
 conv => whnf
 cases h
 exact endB rfl rfl rfl ⟨⟨_, rfl⟩, trivial⟩
theorem P264 (c_1 : List Int) (r_2 : List Int) (h : M264 c_1 = some r_2) :
    PC prog 41 [(.fn 78 [(.ro [(.ls (List.map eI c_1))])])] (fun rs => rs = [(.ls (List.map eI r_2))]) := by
 refine PC.of_tr (cx := ⟨9, none, lay, 0⟩) layOK func41 rfl rfl rfl rfl rfl (by simp [f41]) ?_
 unfold M264 at h
 refine Tr.seq ?_
 refine rg ?_
 conv => whnf
 refine Tr.seq ?_
 refine rg ?_
 conv => whnf
 refine ECall.of_tr (cx := ⟨5, none, lay, 0⟩) layOK func76 rfl rfl rfl rfl rfl (by simp [f76]) ?_
 refine Tr.seq ?_
 refine rg ?_
 conv => whnf
 refine Tr.seq ?_
 refine rg ?_
 conv => whnf
 refine ECall.of_tr (cx := ⟨13, none, lay, 0⟩) layOK func119 rfl rfl rfl rfl rfl (by simp [f119]) ?_
 refine Tr.seq ?_
 refine rg ?_
 conv => whnf
 refine Tr.seq ?_
 refine Tr.seq ?_
 refine rg ?_
 conv => whnf
 obtain ⟨l_3, hl4, h⟩ := bS h
 obtain ⟨l_10, hv14, h⟩ := bS h
 refine Tr.block ?_
 refine Tr.rangeM layOK rfl (ge := fun a => [(.i .i64 a)]) rfl (P254 c_1 l_3 hl4) (fun _ => rfl) rfl (fun s => [some (.var [.sl 1 1 0 (List.length s)]), some (.arr 1 (List.map .d (List.map eI s)))]) M263 ((([] : List Int))) l_10 hv14 (Wk.mk2 [0, 1] 1 rfl rfl (by decide) rfl ⟨⟨rfl, (by first | rfl | simp)⟩, rfl, trivial⟩ trivial) ?_ ?_
 ·clear h hv14
  rintro li y_5 l_7 s_8 ha h
  replace h : M263 y_5 l_7 = some s_8 := h
  unfold M263 at h
  dsimp only at h
  conv => whnf
  refine Tr.block ?_
  refine rg ?_
  conv => whnf
  refine orB_r ?_
  conv => whnf
  refine frP_no ?_
  conv => whnf
  refine eqS_mk (by first | rfl | simp) ?_
  conv => whnf
  obtain ⟨l_9, hl_9, h⟩ := bS h
  refine apS_of hl_9 (aQ (f := eI) (l := (([y_5] : List Int))) fun _ => rfl) (by first | rfl | simp) (by first | rfl | simp) (fun he => ?_)
  conv => whnf
  refine rS (es' := List.map .d (List.map eI l_9)) (n' := List.length l_9) (by subst he; simp only [List.map_append, List.map_cons, List.map_nil, List.nil_append]; first | done | rfl) (by subst he; simp <;> omega) ?_
  clear he
  conv => whnf
  refine orB_l ?_
  conv => whnf
  cases h
  exact Wk.mk2 [0, 2] 3 rfl rfl (by decide) rfl ⟨⟨rfl, (by first | rfl | simp)⟩, daS_d rfl, trivial⟩ trivial
 clear hv14
 conv => whnf
 refine Tr.seq ?_
 refine rg ?_
 conv => whnf
 refine Tr.ret ?_
 conv => whnf
 refine Tr.ret ?_
 conv => whnf
 refine Tr.seq ?_
 refine rg ?_
 conv => whnf
 obtain ⟨l_11, hc12, h⟩ := bS h
 refine MC.ecall (P262 l_10 l_11 hc12) [1] (by decide) rfl rfl ?_ (fun rs Bs1 hrs => ?_)
 · exact ⟨⟨⟨_, rfl⟩, rfl⟩, trivial⟩
 obtain ⟨rfl, rfl⟩ := hrs
 conv => whnf
 obtain ⟨_, hl13, h⟩ := bS h
 refine Tr.seq ?_
 refine rg ?_
 conv => whnf
 refine Tr.ret ?_
 conv => whnf
 refine frE_of (f := eI) (l := l_11) (by first | rfl | simp [lenIs_eq hl13]) ?_
 conv => whnf
 cases h
 rfl
theorem P267 (s_1 : List Int) (s_2 : List Int) (r_3 : Bool) (h : M267 s_1 s_2 = some r_3) :
    PC prog 40 [(.ls (List.map eI s_1)), (.ls (List.map eI s_2))] (fun rs => rs = [(.b r_3)]) := by
 refine PC.of_tr (cx := ⟨26, none, lay, 0⟩) layOK func40 rfl rfl rfl rfl rfl (by simp [f40]) ?_
 unfold M267 at h
 refine Tr.seq ?_
 refine rg ?_
 conv => whnf
 refine Tr.seq ?_
 refine Tr.seq ?_
 refine rg ?_
 conv => whnf
 refine lnS_map ?_
 conv => whnf
 refine lnS_map ?_
 conv => whnf
 refine Tr.cond ?_
 conv => whnf
 refine cB h (fun hb4 h => ?_) (fun hb4 h => ?_)
 ·refine Tr.seq ?_
  refine rg ?_
  conv => whnf
  refine Tr.ret ?_
  conv => whnf
  cases h
  rfl
 refine Tr.skip ?_
 conv => whnf
 refine Tr.seq ?_
 refine Tr.seq ?_
 refine rg ?_
 conv => whnf
 refine lnS_map ?_
 conv => whnf
 refine Tr.cutQ (α := Unit) (fun s => ([(4, .d (.b false))], [])) (fun s => M266 s = some r_3) ?_ ?_
 ·refine Tr.block ?_
  refine Tr.loopM (σ := Int) (fun n s => M265 s_1 s_2 M266 n s) r_3 (fun s => ([(0, .d (.ls (List.map eI s_1))), (1, .d (.ls (List.map eI s_2))), (4, .d (.b false)), (12, (dI (((s_1).length : Int)))), (13, (dI s))], [])) (((((s_1).length : Int)) - 0 : Int).toNat + 1) (0) h (fun s => rfl) (Wk.mk2 [] 0 rfl rfl (by decide) rfl trivial ⟨rr, rr, rr, rr, rr, trivial⟩) ?_
  clear h
  rintro n_7 v_6 h
  replace h : M265 s_1 s_2 M266 (n_7 + 1) v_6 = some r_3 := h
  rw [M265] at h
  refine Tr.seq ?_
  refine rg ?_
  conv => whnf
  refine Tr.seq ?_
  refine Tr.cond ?_
  conv => whnf
  refine cB h (fun hb10 h => ?_) (fun hb10 h => ?_)
  ·refine Tr.skip ?_
   conv => whnf
   refine Tr.seq ?_
   refine Tr.block ?_
   refine Tr.seq ?_
   refine rg ?_
   conv => whnf
   refine Tr.seq ?_
   refine Tr.draw (DrawP.seqQ layOK mixed [] [(0, 1), (1, 1), (2, 2), (3, 2), (4, 1), (5, 1), (6, 2), (7, 2), (8, 1)] (by kernel_rfl) ?_)
   conv => whnf
   refine ⟨_, (fun _ => rr), ?_⟩
   conv => whnf
   refine ⟨_, (fun _ => rr), ?_⟩
   conv => whnf
   obtain ⟨x_11, hx_11, h⟩ := bS h
   refine ⟨_, ⟨rfl, rfl, (by (conv => whnf); (refine ixP_of hx_11 ?_); (conv => whnf); (exact rr))⟩, ?_⟩
   conv => whnf
   refine ⟨_, ⟨rfl, rfl, rr⟩, ?_⟩
   conv => whnf
   refine ⟨_, (fun _ => rr), ?_⟩
   conv => whnf
   refine ⟨_, (fun _ => rr), ?_⟩
   conv => whnf
   obtain ⟨x_12, hx_12, h⟩ := bS h
   refine ⟨_, ⟨rfl, rfl, (by (conv => whnf); (refine ixP_of hx_12 ?_); (conv => whnf); (exact rr))⟩, ?_⟩
   conv => whnf
   refine ⟨_, ⟨rfl, rfl, rr⟩, ?_⟩
   conv => whnf
   refine ⟨_, (fun _ => rr), ?_⟩
   conv => whnf
   refine Tr.cond ?_
   conv => whnf
   refine cB h (fun hb13 h => ?_) (fun hb13 h => ?_)
   ·refine Tr.seq ?_
    refine rg ?_
    conv => whnf
    refine Tr.ret ?_
    conv => whnf
    cases h
    rfl
   refine Tr.skip ?_
   conv => whnf
   refine rg ?_
   conv => whnf
   refine arS_raw ?_
   conv => whnf
   refine ⟨((w64 (v_6 + 1))), h, ?_⟩
   exact Wk.mk2 [] 0 rfl rfl (by decide) rfl trivial ⟨rr, rr, rr, rr, rr, trivial⟩
  refine Tr.exit ?_
  conv => whnf
  refine ⟨(), h, ?_⟩
  exact Wk.mk2 [] 0 rfl rfl (by decide) rfl trivial ⟨rr, trivial⟩
 clear h
 rintro _ h T1 H1 hw
 replace h : M266 () = some r_3 := h
 conv => whnf
 refine Tr.weak hw ?_
 unfold M266 at h
 refine Tr.seq ?_
 refine rg ?_
 conv => whnf
 refine Tr.ret ?_
 conv => whnf
 cases h
 rfl
theorem P270 (f_1 : TField) (h_2 : THistory) (l_3 : List Int) (r_4 : Int) (h : M270 f_1 h_2 l_3 = some r_4) :
    PC prog 16 [(eTField f_1), (eTHistory h_2), (.ls (List.map eI l_3))] (fun rs => rs = [(.i .i64 r_4)]) := by
 refine PC.of_tr (cx := ⟨54, none, lay, 0⟩) layOK func16 rfl rfl rfl rfl rfl (by simp [f16]) ?_
 unfold M270 at h
 refine Tr.seq ?_
 refine rg ?_
 conv => whnf
 refine Tr.seq ?_
 refine Tr.seq ?_
 refine rg ?_
 conv => whnf
 obtain ⟨r_5, hc6, h⟩ := bS h
 refine PC.ecall (P46 f_1 r_5 hc6) (fun rs hrs => ?_)
 subst hrs
 conv => whnf
 refine Tr.cond ?_
 conv => whnf
 refine cB h (fun hb7 h => ?_) (fun hb7 h => ?_)
 ·refine Tr.seq ?_
  refine rg ?_
  conv => whnf
  refine Tr.ret ?_
  conv => whnf
  cases h
  rfl
 refine Tr.skip ?_
 conv => whnf
 refine Tr.seq ?_
 refine Tr.seq ?_
 refine rg ?_
 conv => whnf
 obtain ⟨r_8, hc9, h⟩ := bS h
 refine PC.ecall (P239 f_1 h_2 r_8 hc9) (fun rs hrs => ?_)
 subst hrs
 conv => whnf
 refine Tr.cond ?_
 conv => whnf
 refine cB h (fun hb10 h => ?_) (fun hb10 h => ?_)
 ·refine Tr.seq ?_
  refine rg ?_
  conv => whnf
  refine Tr.ret ?_
  conv => whnf
  cases h
  rfl
 refine Tr.skip ?_
 conv => whnf
 refine Tr.seq ?_
 refine rg ?_
 conv => whnf
 obtain ⟨⟨r_11, r_12⟩, hc13, h⟩ := bS h
 refine PC.ecall (P250 f_1 h_2 r_11 r_12 hc13) (fun rs hrs => ?_)
 subst hrs
 conv => whnf
 refine Tr.seq ?_
 refine Tr.seq ?_
 refine rg ?_
 conv => whnf
 refine Tr.cond ?_
 conv => whnf
 refine cB h (fun hb14 h => ?_) (fun hb14 h => ?_)
 ·refine Tr.seq ?_
  refine rg ?_
  conv => whnf
  refine Tr.ret ?_
  conv => whnf
  cases h
  rfl
 refine Tr.skip ?_
 conv => whnf
 refine Tr.seq ?_
 refine Tr.seq ?_
 refine rg ?_
 conv => whnf
 obtain ⟨c_15, hc16, h⟩ := bS h
 refine PC.ecall (P251 l_3 c_15 hc16) (fun rs hrs => ?_)
 subst hrs
 conv => whnf
 obtain ⟨r_17, hc18, h⟩ := bS h
 refine PC.ecall (P264 c_15 r_17 hc18) (fun rs hrs => ?_)
 subst hrs
 conv => whnf
 obtain ⟨c_19, hc20, h⟩ := bS h
 refine PC.ecall (P251 r_11 c_19 hc20) (fun rs hrs => ?_)
 subst hrs
 conv => whnf
 obtain ⟨r_21, hc22, h⟩ := bS h
 refine PC.ecall (P264 c_19 r_21 hc22) (fun rs hrs => ?_)
 subst hrs
 conv => whnf
 obtain ⟨r_23, hc24, h⟩ := bS h
 refine PC.ecall (P267 r_17 r_21 r_23 hc24) (fun rs hrs => ?_)
 subst hrs
 conv => whnf
 refine Tr.cond ?_
 conv => whnf
 refine cB h (fun hb25 h => ?_) (fun hb25 h => ?_)
 ·refine Tr.seq ?_
  refine rg ?_
  conv => whnf
  refine Tr.ret ?_
  conv => whnf
  cases h
  rfl
 refine Tr.skip ?_
 conv => whnf
 refine Tr.seq ?_
 refine rg ?_
 conv => whnf
 refine Tr.seq ?_
 refine Tr.seq ?_
 refine rg ?_
 conv => whnf
 refine lnS_map ?_
 conv => whnf
 refine Tr.cutQ (α := Unit) (fun s => ([(6, (dI r_12))], [])) (fun s => M269 s = some r_4) ?_ ?_
 ·refine Tr.block ?_
  refine Tr.loopM (σ := Int × Int) (fun n s => M268 f_1 h_2 l_3 M269 n s.1 s.2) r_4 (fun s => ([(3, .pt 0 0), (4, .pt 1 0), (6, (dI r_12)), (8, (dI s.1)), (36, .d (.ls (List.map eI l_3))), (37, (dI (((l_3).length : Int)))), (38, (dI s.2))], [some (.var [.d (.ls (List.map eTSegment f_1.Clocks.Segments)), .d (.ls (List.map (eL eI) f_1.Clocks.Far)), .d (.ls (List.map eTPair f_1.Pairs)), .d (.ls (List.map eTRunner f_1.Runners))]), some (.var [(dI h_2.World), .d (.ls (List.map eI h_2.Offsets)), .d (.ls (List.map eTChoice h_2.Choices))])])) (((((l_3).length : Int)) - 0 : Int).toNat + 1) (0, 0) h (fun s => rfl) (Wk.mk2 [0, 1] 2 rfl rfl (by decide) rfl ⟨rr, rr, trivial⟩ ⟨rr, rr, rr, rr, rr, rr, rr, trivial⟩) ?_
  clear h
  rintro n_30 ⟨last_28, v_29⟩ h
  replace h : M268 f_1 h_2 l_3 M269 (n_30 + 1) last_28 v_29 = some r_4 := h
  rw [M268] at h
  refine Tr.seq ?_
  refine rg ?_
  conv => whnf
  refine Tr.seq ?_
  refine Tr.cond ?_
  conv => whnf
  refine cB h (fun hb33 h => ?_) (fun hb33 h => ?_)
  ·refine Tr.skip ?_
   conv => whnf
   refine Tr.seq ?_
   refine Tr.block ?_
   refine Tr.seq ?_
   refine rg ?_
   conv => whnf
   obtain ⟨x_34, hx_34, h⟩ := bS h
   refine ixP_of hx_34 ?_
   conv => whnf
   refine Tr.seq ?_
   refine rg ?_
   conv => whnf
   obtain ⟨⟨r_35, r_36⟩, hc37, h⟩ := bS h
   refine PC.ecall (P219 f_1 h_2 x_34 r_35 r_36 hc37) (fun rs hrs => ?_)
   subst hrs
   conv => whnf
   refine Tr.seq ?_
   refine Tr.seq ?_
   refine rg ?_
   conv => whnf
   refine Tr.cond ?_
   conv => whnf
   refine cB h (fun hb38 h => ?_) (fun hb38 h => ?_)
   ·refine Tr.seq ?_
    refine rg ?_
    conv => whnf
    refine Tr.ret ?_
    conv => whnf
    cases h
    rfl
   refine Tr.skip ?_
   conv => whnf
   refine rg ?_
   conv => whnf
   refine rg ?_
   conv => whnf
   refine arS_raw ?_
   conv => whnf
   refine ⟨(r_35, (w64 (v_29 + 1))), h, ?_⟩
   exact Wk.mk2 [0, 1] 2 rfl rfl (by decide) rfl ⟨rr, rr, trivial⟩ ⟨rr, rr, rr, rr, rr, rr, rr, trivial⟩
  refine Tr.exit ?_
  conv => whnf
  refine ⟨(), h, ?_⟩
  exact Wk.mk2 [] 2 rfl rfl (by decide) rfl trivial ⟨rr, trivial⟩
 clear h
 rintro _ h T1 H1 hw
 replace h : M269 () = some r_4 := h
 conv => whnf
 refine Tr.weak hw ?_
 unfold M269 at h
 refine Tr.seq ?_
 refine rg ?_
 conv => whnf
 refine Tr.ret ?_
 conv => whnf
 cases h
 rfl
theorem P271 (r_1 : Bool) (h : M271 = some r_1) :
    PC prog 9 [] (fun rs => rs = [(.b r_1)]) := by
 refine PC.of_tr (cx := ⟨108, none, lay, 0⟩) layOK func9 rfl rfl rfl rfl rfl (by simp [f9]) ?_
 unfold M271 at h
 refine Tr.seq ?_
 refine rg ?_
 conv => whnf
 refine Tr.seq ?_
 refine rg ?_
 conv => whnf
 obtain ⟨r_2, hc3, h⟩ := bS h
 refine PC.ecall (P0 r_2 hc3) (fun rs hrs => ?_)
 subst hrs
 conv => whnf
 refine Tr.seq ?_
 refine rg ?_
 conv => whnf
 refine Tr.seq ?_
 refine rg ?_
 conv => whnf
 refine Tr.seq ?_
 refine rg ?_
 conv => whnf
 obtain ⟨r_4, hc5, h⟩ := bS h
 refine PC.ecall (P1 10 11 r_4 hc5) (fun rs hrs => ?_)
 subst hrs
 conv => whnf
 obtain ⟨r_6, hc7, h⟩ := bS h
 refine PC.ecall (P1 12 11 r_6 hc7) (fun rs hrs => ?_)
 subst hrs
 conv => whnf
 refine Tr.seq ?_
 refine rg ?_
 conv => whnf
 obtain ⟨⟨r_8, r_9⟩, hc10, h⟩ := bS h
 refine PC.ecall (P127 r_2 0 r_8 r_9 hc10) (fun rs hrs => ?_)
 subst hrs
 conv => whnf
 refine Tr.seq ?_
 refine rg ?_
 conv => whnf
 obtain ⟨r_11, hc12, h⟩ := bS h
 refine PC.ecall (P0 r_11 hc12) (fun rs hrs => ?_)
 subst hrs
 conv => whnf
 refine Tr.seq ?_
 refine rg ?_
 conv => whnf
 refine szS_mk (szq_map fun _ => rfl) ?_
 conv => whnf
 obtain ⟨l_13, hl_13, h⟩ := bS h
 refine slS_to hl_13 (by simp) rfl (fun he => ?_)
 conv => whnf
 refine lsS_mk (es' := List.map eTRunner l_13) (by subst he; simp [List.map_take, List.map_drop]) ?_
 clear he
 conv => whnf
 refine Tr.seq ?_
 refine rg ?_
 conv => whnf
 obtain ⟨⟨r_14, r_15⟩, hc16, h⟩ := bS h
 refine PC.ecall (P127 ({ Clocks := r_11.Clocks, Pairs := r_11.Pairs, Runners := l_13 } : TField) 0 r_14 r_15 hc16) (fun rs hrs => ?_)
 subst hrs
 conv => whnf
 refine Tr.seq ?_
 refine rg ?_
 conv => whnf
 obtain ⟨⟨r_17, r_18⟩, hc19, h⟩ := bS h
 refine PC.ecall (P127 r_2 (-1) r_17 r_18 hc19) (fun rs hrs => ?_)
 subst hrs
 conv => whnf
 refine Tr.seq ?_
 refine rg ?_
 conv => whnf
 refine Tr.seq ?_
 refine rg ?_
 conv => whnf
 refine Tr.seq ?_
 obtain ⟨v_20, hv21, h⟩ := bS h
 refine Tr.cutQ1 ([(0, .d (.b v_20))]) ([]) ?_ (fun T1 H1 hw => ?_)
 ·replace h := hv21; clear hv21
  refine Tr.draw (DrawP.seqQ layOK mixed [] [(0, 1), (1, 1), (2, 1), (3, 3), (4, 4), (5, 6), (6, 1), (7, 1), (8, 1), (9, 1), (10, 3), (11, 4), (12, 5), (13, 1), (14, 1), (15, 1), (16, 1), (17, 3), (18, 10), (19, 5), (20, 1), (21, 1), (22, 1), (23, 1), (24, 1), (25, 1), (26, 1), (27, 1), (28, 1), (29, 1), (30, 1), (31, 1), (32, 3), (33, 4), (34, 1), (35, 1), (36, 1), (37, 1), (38, 3), (39, 10), (40, 1), (41, 1), (42, 1), (43, 1), (44, 3), (45, 1), (46, 1), (47, 1), (48, 0), (49, 1), (50, 1), (51, 1), (52, 3), (53, 1), (54, 1), (55, 1), (56, 0), (57, 1), (58, 1), (59, 1), (60, 3), (61, 1), (62, 1), (63, 0), (64, 1), (65, 1), (66, 1)] (by kernel_rfl) ?_)
  conv => whnf
  refine ⟨_, (fun _ => rr), ?_⟩
  conv => whnf
  refine ⟨_, (fun _ => rr), ?_⟩
  conv => whnf
  refine ⟨_, (fun _ => rr), ?_⟩
  conv => whnf
  refine cB h (fun hb22 h => ?_) (fun hb22 h => ?_)
  ·conv => whnf
   refine ⟨_, ⟨rfl, rfl, rr⟩, ?_⟩
   conv => whnf
   refine ⟨_, ⟨rfl, rfl, rr⟩, ?_⟩
   conv => whnf
   refine ⟨_, ⟨rfl, rfl, rr⟩, ?_⟩
   conv => whnf
   obtain ⟨r_23, hc24, h⟩ := bS h
   refine ⟨_, (fun _ => by (conv => whnf); (refine PC.ecall (P186 r_2 ({ Bib := 3, Kind := 2, Lo := 1, Hi := 2, Out := false } : TRank) r_8 r_23 hc24) (fun rs hrs => ?_)); (subst hrs); (conv => whnf); (exact rr)), ?_⟩
   conv => whnf
   refine ⟨_, (fun _ => rr), ?_⟩
   conv => whnf
   refine ⟨_, (fun _ => rr), ?_⟩
   conv => whnf
   refine ⟨_, (fun _ => rr), ?_⟩
   conv => whnf
   refine cB h (fun hb25 h => ?_) (fun hb25 h => ?_)
   ·conv => whnf
    refine ⟨_, ⟨rfl, rfl, rr⟩, ?_⟩
    conv => whnf
    refine ⟨_, ⟨rfl, rfl, rr⟩, ?_⟩
    conv => whnf
    refine ⟨_, ⟨rfl, rfl, rr⟩, ?_⟩
    conv => whnf
    obtain ⟨r_26, hc27, h⟩ := bS h
    refine ⟨_, (fun _ => by (conv => whnf); (refine PC.ecall (P220 r_2 ({ Bib := 3, Kind := 2, Lo := 1, Hi := 2, Out := false } : TRank) ({ Bib := 3, A := r_4, B := r_6 } : TProof) r_26 hc27) (fun rs hrs => ?_)); (subst hrs); (conv => whnf); (exact rr)), ?_⟩
    conv => whnf
    refine ⟨_, (fun _ => rr), ?_⟩
    conv => whnf
    refine ⟨_, (fun _ => rr), ?_⟩
    conv => whnf
    refine ⟨_, (fun _ => rr), ?_⟩
    conv => whnf
    refine cB h (fun hb28 h => ?_) (fun hb28 h => ?_)
    ·conv => whnf
     refine ⟨_, ⟨rfl, rfl, rr⟩, ?_⟩
     conv => whnf
     refine ⟨_, ⟨rfl, rfl, rr⟩, ?_⟩
     conv => whnf
     refine ⟨_, ⟨rfl, rfl, rr⟩, ?_⟩
     conv => whnf
     obtain ⟨r_29, hc30, h⟩ := bS h
     refine ⟨_, (fun _ => by (conv => whnf); (refine PC.ecall (P220 r_2 ({ Bib := 3, Kind := 2, Lo := 1, Hi := 1, Out := false } : TRank) ({ Bib := 3, A := r_4, B := r_6 } : TProof) r_29 hc30) (fun rs hrs => ?_)); (subst hrs); (conv => whnf); (exact rr)), ?_⟩
     conv => whnf
     refine ⟨_, (fun _ => rr), ?_⟩
     conv => whnf
     refine ⟨_, (fun _ => rr), ?_⟩
     conv => whnf
     refine ⟨_, (fun _ => rr), ?_⟩
     conv => whnf
     refine cB h (fun hb31 h => ?_) (fun hb31 h => ?_)
     ·conv => whnf
      refine ⟨_, (fun _ => rr), ?_⟩
      conv => whnf
      refine ⟨_, (fun _ => rr), ?_⟩
      conv => whnf
      refine ⟨_, (fun _ => rr), ?_⟩
      conv => whnf
      refine ⟨_, (fun _ => rr), ?_⟩
      conv => whnf
      refine cB h (fun hb32 h => ?_) (fun hb32 h => ?_)
      ·conv => whnf
       refine ⟨_, (fun _ => rr), ?_⟩
       conv => whnf
       refine ⟨_, (fun _ => rr), ?_⟩
       conv => whnf
       refine ⟨_, (fun _ => rr), ?_⟩
       conv => whnf
       refine ⟨_, (fun _ => rr), ?_⟩
       conv => whnf
       refine cB h (fun hb33 h => ?_) (fun hb33 h => ?_)
       ·conv => whnf
        refine ⟨_, ⟨rfl, rfl, rr⟩, ?_⟩
        conv => whnf
        refine ⟨_, ⟨rfl, rfl, rr⟩, ?_⟩
        conv => whnf
        obtain ⟨r_34, hc35, h⟩ := bS h
        refine ⟨_, (fun _ => by (conv => whnf); (refine PC.ecall (P238 r_2 ({ Bib := 3, Kind := 2, Lo := 1, Hi := 2, Out := false } : TRank) r_34 hc35) (fun rs hrs => ?_)); (subst hrs); (conv => whnf); (exact rr)), ?_⟩
        conv => whnf
        refine ⟨_, (fun _ => rr), ?_⟩
        conv => whnf
        refine ⟨_, (fun _ => rr), ?_⟩
        conv => whnf
        refine ⟨_, (fun _ => rr), ?_⟩
        conv => whnf
        refine cB h (fun hb36 h => ?_) (fun hb36 h => ?_)
        ·conv => whnf
         refine ⟨_, ⟨rfl, rfl, rr⟩, ?_⟩
         conv => whnf
         refine ⟨_, ⟨rfl, rfl, rr⟩, ?_⟩
         conv => whnf
         obtain ⟨r_37, hc38, h⟩ := bS h
         refine ⟨_, (fun _ => by (conv => whnf); (refine PC.ecall (P238 r_2 ({ Bib := 3, Kind := 2, Lo := 1, Hi := 1, Out := false } : TRank) r_37 hc38) (fun rs hrs => ?_)); (subst hrs); (conv => whnf); (exact rr)), ?_⟩
         conv => whnf
         refine ⟨_, (fun _ => rr), ?_⟩
         conv => whnf
         refine ⟨_, (fun _ => rr), ?_⟩
         conv => whnf
         refine ⟨_, (fun _ => rr), ?_⟩
         conv => whnf
         refine cB h (fun hb39 h => ?_) (fun hb39 h => ?_)
         ·conv => whnf
          refine ⟨_, ⟨rfl, rfl, rr⟩, ?_⟩
          conv => whnf
          refine ⟨_, (fun _ => rr), ?_⟩
          conv => whnf
          obtain ⟨r_40, hc41, h⟩ := bS h
          refine ⟨_, (fun _ => by (conv => whnf); (refine PC.ecall (P1 11 11 r_40 hc41) (fun rs hrs => ?_)); (subst hrs); (conv => whnf); (exact rr)), ?_⟩
          conv => whnf
          refine ⟨_, (fun _ => by (conv => whnf); (refine orB_r ?_); (conv => whnf); (exact rr)), ?_⟩
          conv => whnf
          obtain ⟨r_42, hc43, h⟩ := bS h
          refine ⟨_, _, (by (conv => whnf); (refine PC.ecall (P270 r_2 r_40 ((([1, 0] : List Int))) r_42 hc43) (fun rs hrs => ?_)); (subst hrs); (conv => whnf); (exact rr)), kp_ok (by repeat (first | exact trivial | refine ⟨trivial, ?_⟩ | refine ⟨rfl, ?_⟩)), ?_⟩
          conv => whnf
          refine ⟨_, (fun _ => rr), ?_⟩
          conv => whnf
          refine ⟨_, (fun _ => rr), ?_⟩
          conv => whnf
          refine ⟨_, (fun _ => rr), ?_⟩
          conv => whnf
          refine cB h (fun hb44 h => ?_) (fun hb44 h => ?_)
          ·conv => whnf
           refine ⟨_, ⟨rfl, rfl, rr⟩, ?_⟩
           conv => whnf
           refine ⟨_, (fun _ => rr), ?_⟩
           conv => whnf
           obtain ⟨r_45, hc46, h⟩ := bS h
           refine ⟨_, (fun _ => by (conv => whnf); (refine PC.ecall (P1 10 11 r_45 hc46) (fun rs hrs => ?_)); (subst hrs); (conv => whnf); (exact rr)), ?_⟩
           conv => whnf
           refine ⟨_, (fun _ => by (conv => whnf); (refine orB_r ?_); (conv => whnf); (exact rr)), ?_⟩
           conv => whnf
           obtain ⟨r_47, hc48, h⟩ := bS h
           refine ⟨_, _, (by (conv => whnf); (refine PC.ecall (P270 r_2 r_45 ((([1, 0] : List Int))) r_47 hc48) (fun rs hrs => ?_)); (subst hrs); (conv => whnf); (exact rr)), kp_ok (by repeat (first | exact trivial | refine ⟨trivial, ?_⟩ | refine ⟨rfl, ?_⟩)), ?_⟩
           conv => whnf
           refine ⟨_, (fun _ => rr), ?_⟩
           conv => whnf
           refine ⟨_, (fun _ => rr), ?_⟩
           conv => whnf
           refine ⟨_, (fun _ => rr), ?_⟩
           conv => whnf
           refine cB h (fun hb49 h => ?_) (fun hb49 h => ?_)
           ·conv => whnf
            refine ⟨_, ⟨rfl, rfl, rr⟩, ?_⟩
            conv => whnf
            refine ⟨_, (fun _ => rr), ?_⟩
            conv => whnf
            obtain ⟨r_50, hc51, h⟩ := bS h
            refine ⟨_, (fun _ => by (conv => whnf); (refine PC.ecall (P1 10 11 r_50 hc51) (fun rs hrs => ?_)); (subst hrs); (conv => whnf); (exact rr)), ?_⟩
            conv => whnf
            obtain ⟨r_52, hc53, h⟩ := bS h
            refine ⟨_, _, (by (conv => whnf); (refine PC.ecall_lend ?_ ⟨_, _, func16, rfl, rfl⟩); (conv => whnf); (refine ⟨_, P270 r_2 r_50 ((([] : List Int))) r_52 hc53, fun rs hrs => ?_⟩); (subst hrs); (refine ⟨rfl, ?_⟩); (conv => whnf); (exact rr)), kp_ok (by repeat (first | exact trivial | refine ⟨trivial, ?_⟩ | refine ⟨rfl, ?_⟩)), ?_⟩
            conv => whnf
            refine ⟨_, (fun _ => rr), ?_⟩
            conv => whnf
            refine ⟨_, (fun _ => rr), ?_⟩
            conv => whnf
            refine ⟨_, (fun _ => rr), ?_⟩
            conv => whnf
            cases h
            exact Wk.mk2 [] 8 rfl rfl (by decide) rfl trivial ⟨rr, trivial⟩
           conv => whnf
           refine ⟨_, (fun _ => rr), ?_⟩
           conv => whnf
           refine ⟨_, (fun _ => rr), ?_⟩
           conv => whnf
           cases h
           exact Wk.mk2 [] 8 rfl rfl (by decide) rfl trivial ⟨rr, trivial⟩
          conv => whnf
          refine ⟨_, (fun _ => rr), ?_⟩
          conv => whnf
          refine ⟨_, (fun _ => rr), ?_⟩
          conv => whnf
          refine ⟨_, (fun _ => rr), ?_⟩
          conv => whnf
          refine ⟨_, (fun _ => rr), ?_⟩
          conv => whnf
          cases h
          exact Wk.mk2 [] 8 rfl rfl (by decide) rfl trivial ⟨rr, trivial⟩
         conv => whnf
         refine ⟨_, (fun _ => rr), ?_⟩
         conv => whnf
         refine ⟨_, (fun _ => rr), ?_⟩
         conv => whnf
         refine ⟨_, (fun _ => rr), ?_⟩
         conv => whnf
         refine ⟨_, (fun _ => rr), ?_⟩
         conv => whnf
         refine ⟨_, (fun _ => rr), ?_⟩
         conv => whnf
         refine ⟨_, (fun _ => rr), ?_⟩
         conv => whnf
         cases h
         exact Wk.mk2 [] 8 rfl rfl (by decide) rfl trivial ⟨rr, trivial⟩
        conv => whnf
        refine ⟨_, (fun _ => rr), ?_⟩
        conv => whnf
        refine ⟨_, (fun _ => rr), ?_⟩
        conv => whnf
        refine ⟨_, (fun _ => rr), ?_⟩
        conv => whnf
        refine ⟨_, (fun _ => rr), ?_⟩
        conv => whnf
        refine ⟨_, (fun _ => rr), ?_⟩
        conv => whnf
        refine ⟨_, (fun _ => rr), ?_⟩
        conv => whnf
        refine ⟨_, (fun _ => rr), ?_⟩
        conv => whnf
        refine ⟨_, (fun _ => rr), ?_⟩
        conv => whnf
        cases h
        exact Wk.mk2 [] 8 rfl rfl (by decide) rfl trivial ⟨rr, trivial⟩
       conv => whnf
       refine ⟨_, (fun _ => rr), ?_⟩
       conv => whnf
       refine ⟨_, (fun _ => rr), ?_⟩
       conv => whnf
       refine ⟨_, (fun _ => rr), ?_⟩
       conv => whnf
       refine ⟨_, (fun _ => rr), ?_⟩
       conv => whnf
       refine ⟨_, (fun _ => rr), ?_⟩
       conv => whnf
       refine ⟨_, (fun _ => rr), ?_⟩
       conv => whnf
       refine ⟨_, (fun _ => rr), ?_⟩
       conv => whnf
       refine ⟨_, (fun _ => rr), ?_⟩
       conv => whnf
       refine ⟨_, (fun _ => rr), ?_⟩
       conv => whnf
       refine ⟨_, (fun _ => rr), ?_⟩
       conv => whnf
       cases h
       exact Wk.mk2 [] 8 rfl rfl (by decide) rfl trivial ⟨rr, trivial⟩
      conv => whnf
      refine ⟨_, (fun _ => rr), ?_⟩
      conv => whnf
      refine ⟨_, (fun _ => rr), ?_⟩
      conv => whnf
      refine ⟨_, (fun _ => rr), ?_⟩
      conv => whnf
      refine ⟨_, (fun _ => rr), ?_⟩
      conv => whnf
      refine ⟨_, (fun _ => rr), ?_⟩
      conv => whnf
      refine ⟨_, (fun _ => rr), ?_⟩
      conv => whnf
      refine ⟨_, (fun _ => rr), ?_⟩
      conv => whnf
      refine ⟨_, (fun _ => rr), ?_⟩
      conv => whnf
      refine ⟨_, (fun _ => rr), ?_⟩
      conv => whnf
      refine ⟨_, (fun _ => rr), ?_⟩
      conv => whnf
      refine ⟨_, (fun _ => rr), ?_⟩
      conv => whnf
      refine ⟨_, (fun _ => rr), ?_⟩
      conv => whnf
      cases h
      exact Wk.mk2 [] 8 rfl rfl (by decide) rfl trivial ⟨rr, trivial⟩
     conv => whnf
     refine ⟨_, (fun _ => rr), ?_⟩
     conv => whnf
     refine ⟨_, (fun _ => rr), ?_⟩
     conv => whnf
     refine ⟨_, (fun _ => rr), ?_⟩
     conv => whnf
     refine ⟨_, (fun _ => rr), ?_⟩
     conv => whnf
     refine ⟨_, (fun _ => rr), ?_⟩
     conv => whnf
     refine ⟨_, (fun _ => rr), ?_⟩
     conv => whnf
     refine ⟨_, (fun _ => rr), ?_⟩
     conv => whnf
     refine ⟨_, (fun _ => rr), ?_⟩
     conv => whnf
     refine ⟨_, (fun _ => rr), ?_⟩
     conv => whnf
     refine ⟨_, (fun _ => rr), ?_⟩
     conv => whnf
     refine ⟨_, (fun _ => rr), ?_⟩
     conv => whnf
     refine ⟨_, (fun _ => rr), ?_⟩
     conv => whnf
     refine ⟨_, (fun _ => rr), ?_⟩
     conv => whnf
     refine ⟨_, (fun _ => rr), ?_⟩
     conv => whnf
     cases h
     exact Wk.mk2 [] 8 rfl rfl (by decide) rfl trivial ⟨rr, trivial⟩
    conv => whnf
    refine ⟨_, (fun _ => rr), ?_⟩
    conv => whnf
    refine ⟨_, (fun _ => rr), ?_⟩
    conv => whnf
    refine ⟨_, (fun _ => rr), ?_⟩
    conv => whnf
    refine ⟨_, (fun _ => rr), ?_⟩
    conv => whnf
    refine ⟨_, (fun _ => rr), ?_⟩
    conv => whnf
    refine ⟨_, (fun _ => rr), ?_⟩
    conv => whnf
    refine ⟨_, (fun _ => rr), ?_⟩
    conv => whnf
    refine ⟨_, (fun _ => rr), ?_⟩
    conv => whnf
    refine ⟨_, (fun _ => rr), ?_⟩
    conv => whnf
    refine ⟨_, (fun _ => rr), ?_⟩
    conv => whnf
    refine ⟨_, (fun _ => rr), ?_⟩
    conv => whnf
    refine ⟨_, (fun _ => rr), ?_⟩
    conv => whnf
    refine ⟨_, (fun _ => rr), ?_⟩
    conv => whnf
    refine ⟨_, (fun _ => rr), ?_⟩
    conv => whnf
    refine ⟨_, (fun _ => rr), ?_⟩
    conv => whnf
    refine ⟨_, (fun _ => rr), ?_⟩
    conv => whnf
    cases h
    exact Wk.mk2 [] 8 rfl rfl (by decide) rfl trivial ⟨rr, trivial⟩
   conv => whnf
   refine ⟨_, (fun _ => rr), ?_⟩
   conv => whnf
   refine ⟨_, (fun _ => rr), ?_⟩
   conv => whnf
   refine ⟨_, (fun _ => rr), ?_⟩
   conv => whnf
   refine ⟨_, (fun _ => rr), ?_⟩
   conv => whnf
   refine ⟨_, (fun _ => rr), ?_⟩
   conv => whnf
   refine ⟨_, (fun _ => rr), ?_⟩
   conv => whnf
   refine ⟨_, (fun _ => rr), ?_⟩
   conv => whnf
   refine ⟨_, (fun _ => rr), ?_⟩
   conv => whnf
   refine ⟨_, (fun _ => rr), ?_⟩
   conv => whnf
   refine ⟨_, (fun _ => rr), ?_⟩
   conv => whnf
   refine ⟨_, (fun _ => rr), ?_⟩
   conv => whnf
   refine ⟨_, (fun _ => rr), ?_⟩
   conv => whnf
   refine ⟨_, (fun _ => rr), ?_⟩
   conv => whnf
   refine ⟨_, (fun _ => rr), ?_⟩
   conv => whnf
   refine ⟨_, (fun _ => rr), ?_⟩
   conv => whnf
   refine ⟨_, (fun _ => rr), ?_⟩
   conv => whnf
   refine ⟨_, (fun _ => rr), ?_⟩
   conv => whnf
   refine ⟨_, (fun _ => rr), ?_⟩
   conv => whnf
   cases h
   exact Wk.mk2 [] 8 rfl rfl (by decide) rfl trivial ⟨rr, trivial⟩
  conv => whnf
  refine ⟨_, (fun _ => rr), ?_⟩
  conv => whnf
  refine ⟨_, (fun _ => rr), ?_⟩
  conv => whnf
  refine ⟨_, (fun _ => rr), ?_⟩
  conv => whnf
  refine ⟨_, (fun _ => rr), ?_⟩
  conv => whnf
  refine ⟨_, (fun _ => rr), ?_⟩
  conv => whnf
  refine ⟨_, (fun _ => rr), ?_⟩
  conv => whnf
  refine ⟨_, (fun _ => rr), ?_⟩
  conv => whnf
  refine ⟨_, (fun _ => rr), ?_⟩
  conv => whnf
  refine ⟨_, (fun _ => rr), ?_⟩
  conv => whnf
  refine ⟨_, (fun _ => rr), ?_⟩
  conv => whnf
  refine ⟨_, (fun _ => rr), ?_⟩
  conv => whnf
  refine ⟨_, (fun _ => rr), ?_⟩
  conv => whnf
  refine ⟨_, (fun _ => rr), ?_⟩
  conv => whnf
  refine ⟨_, (fun _ => rr), ?_⟩
  conv => whnf
  refine ⟨_, (fun _ => rr), ?_⟩
  conv => whnf
  refine ⟨_, (fun _ => rr), ?_⟩
  conv => whnf
  refine ⟨_, (fun _ => rr), ?_⟩
  conv => whnf
  refine ⟨_, (fun _ => rr), ?_⟩
  conv => whnf
  refine ⟨_, (fun _ => rr), ?_⟩
  conv => whnf
  refine ⟨_, (fun _ => rr), ?_⟩
  conv => whnf
  cases h
  exact Wk.mk2 [] 8 rfl rfl (by decide) rfl trivial ⟨rr, trivial⟩
 clear hv21
 conv => whnf
 refine Tr.weak hw ?_
 refine Tr.ret ?_
 conv => whnf
 cases h
 rfl
theorem P274 (k_1 : TClocks) (r_2 : Bool) (h : M274 k_1 = some r_2) :
    PC prog 29 [(eTClocks k_1)] (fun rs => rs = [(.b r_2)]) := by
 refine PC.of_tr (cx := ⟨28, none, lay, 0⟩) layOK func29 rfl rfl rfl rfl rfl (by simp [f29]) ?_
 unfold M274 at h
 refine Tr.seq ?_
 refine rg ?_
 conv => whnf
 refine Tr.seq ?_
 refine Tr.seq ?_
 refine rg ?_
 conv => whnf
 refine lnS_map ?_
 conv => whnf
 refine cB h (fun hb3 h => ?_) (fun hb3 h => ?_)
 ·conv => whnf
  refine Tr.cond ?_
  conv => whnf
  refine Tr.seq ?_
  refine rg ?_
  conv => whnf
  refine Tr.ret ?_
  conv => whnf
  cases h
  rfl
 conv => whnf
 refine lnS_map ?_
 conv => whnf
 refine Tr.cond ?_
 conv => whnf
 refine cB h (fun hb4 h => ?_) (fun hb4 h => ?_)
 ·refine Tr.seq ?_
  refine rg ?_
  conv => whnf
  refine Tr.ret ?_
  conv => whnf
  cases h
  rfl
 refine Tr.skip ?_
 conv => whnf
 refine Tr.seq ?_
 refine Tr.seq ?_
 refine rg ?_
 conv => whnf
 refine Tr.cutQ (α := Unit) (fun s => ([(2, .d (.b false))], [])) (fun s => M273 s = some r_2) ?_ ?_
 ·refine Tr.block ?_
  refine Tr.loopM (σ := Int) (fun n s => M272 k_1 M273 n s) r_2 (fun s => ([(1, .pt 0 0), (2, .d (.b false)), (3, (dI s))], [some (.var [.d (.ls (List.map eTSegment k_1.Segments)), .d (.ls (List.map (eL eI) k_1.Far))])])) (((((k_1.Far).length : Int)) - 0 : Int).toNat + 1) (0) h (fun s => rfl) (Wk.mk2 [0] 1 rfl rfl (by decide) rfl ⟨rr, trivial⟩ ⟨rr, rr, rr, trivial⟩) ?_
  clear h
  rintro n_7 i_6 h
  replace h : M272 k_1 M273 (n_7 + 1) i_6 = some r_2 := h
  rw [M272] at h
  refine Tr.seq ?_
  refine Tr.seq ?_
  refine rg ?_
  conv => whnf
  refine lnS_map ?_
  conv => whnf
  refine Tr.cond ?_
  conv => whnf
  refine cB h (fun hb10 h => ?_) (fun hb10 h => ?_)
  ·refine Tr.skip ?_
   conv => whnf
   refine Tr.seq ?_
   refine Tr.block ?_
   refine Tr.seq ?_
   refine rg ?_
   conv => whnf
   obtain ⟨x_11, hx_11, h⟩ := bS h
   refine ixP_of hx_11 ?_
   conv => whnf
   refine lnS_map ?_
   conv => whnf
   refine Tr.cond ?_
   conv => whnf
   refine cB h (fun hb12 h => ?_) (fun hb12 h => ?_)
   ·refine Tr.seq ?_
    refine rg ?_
    conv => whnf
    refine Tr.ret ?_
    conv => whnf
    cases h
    rfl
   refine Tr.skip ?_
   conv => whnf
   refine rg ?_
   conv => whnf
   refine arS_raw ?_
   conv => whnf
   refine ⟨((w64 (i_6 + 1))), h, ?_⟩
   exact Wk.mk2 [0] 1 rfl rfl (by decide) rfl ⟨rr, trivial⟩ ⟨rr, rr, rr, trivial⟩
  refine Tr.exit ?_
  conv => whnf
  refine ⟨(), h, ?_⟩
  exact Wk.mk2 [] 1 rfl rfl (by decide) rfl trivial ⟨rr, trivial⟩
 clear h
 rintro _ h T1 H1 hw
 replace h : M273 () = some r_2 := h
 conv => whnf
 refine Tr.weak hw ?_
 unfold M273 at h
 refine Tr.seq ?_
 refine rg ?_
 conv => whnf
 refine Tr.ret ?_
 conv => whnf
 cases h
 rfl
theorem P278 (f_1 : TField) (r_2 : Bool) (h : M278 f_1 = some r_2) :
    PC prog 10 [(eTField f_1)] (fun rs => rs = [(.b r_2)]) := by
 refine PC.of_tr (cx := ⟨62, none, lay, 0⟩) layOK func10 rfl rfl rfl rfl rfl (by simp [f10]) ?_
 unfold M278 at h
 refine Tr.seq ?_
 refine rg ?_
 conv => whnf
 refine Tr.seq ?_
 refine rg ?_
 conv => whnf
 refine Tr.seq ?_
 refine Tr.seq ?_
 refine rg ?_
 conv => whnf
 refine lnS_map ?_
 conv => whnf
 refine cB h (fun hb3 h => ?_) (fun hb3 h => ?_)
 ·conv => whnf
  refine Tr.cond ?_
  conv => whnf
  refine Tr.seq ?_
  refine rg ?_
  conv => whnf
  refine Tr.ret ?_
  conv => whnf
  cases h
  rfl
 conv => whnf
 refine lnS_map ?_
 conv => whnf
 refine cB h (fun hb4 h => ?_) (fun hb4 h => ?_)
 ·conv => whnf
  refine Tr.cond ?_
  conv => whnf
  refine Tr.seq ?_
  refine rg ?_
  conv => whnf
  refine Tr.ret ?_
  conv => whnf
  cases h
  rfl
 conv => whnf
 obtain ⟨r_5, hc6, h⟩ := bS h
 refine PC.ecall (P274 f_1.Clocks r_5 hc6) (fun rs hrs => ?_)
 subst hrs
 conv => whnf
 refine Tr.cond ?_
 conv => whnf
 refine cB h (fun hb7 h => ?_) (fun hb7 h => ?_)
 ·refine Tr.seq ?_
  refine rg ?_
  conv => whnf
  refine Tr.ret ?_
  conv => whnf
  cases h
  rfl
 refine Tr.skip ?_
 conv => whnf
 refine Tr.seq ?_
 refine Tr.seq ?_
 refine rg ?_
 conv => whnf
 refine Tr.cutQ (α := Int) (fun s => ([(2, .d (.b false)), (3, (dI s))], [])) (fun s => M277 s = some r_2) ?_ ?_
 ·refine Tr.block ?_
  refine Tr.loopM (σ := Int × Int) (fun n s => M276 f_1 M277 n s.1 s.2) r_2 (fun s => ([(1, .pt 0 0), (2, .d (.b false)), (3, (dI s.1)), (4, (dI s.2))], [some (.var [.d (.ls (List.map eTSegment f_1.Clocks.Segments)), .d (.ls (List.map (eL eI) f_1.Clocks.Far)), .d (.ls (List.map eTPair f_1.Pairs)), .d (.ls (List.map eTRunner f_1.Runners))])])) (((((f_1.Runners).length : Int)) - 0 : Int).toNat + 1) (0, 0) h (fun s => rfl) (Wk.mk2 [0] 1 rfl rfl (by decide) rfl ⟨rr, trivial⟩ ⟨rr, rr, rr, rr, trivial⟩) ?_
  clear h
  rintro n_12 ⟨n_10, i_11⟩ h
  replace h : M276 f_1 M277 (n_12 + 1) n_10 i_11 = some r_2 := h
  rw [M276] at h
  refine Tr.seq ?_
  refine Tr.seq ?_
  refine rg ?_
  conv => whnf
  refine lnS_map ?_
  conv => whnf
  refine Tr.cond ?_
  conv => whnf
  refine cB h (fun hb16 h => ?_) (fun hb16 h => ?_)
  ·refine Tr.skip ?_
   conv => whnf
   refine Tr.seq ?_
   refine Tr.block ?_
   refine Tr.seq ?_
   refine rg ?_
   conv => whnf
   obtain ⟨x_17, hx_17, h⟩ := bS h
   refine ixP_of hx_17 ?_
   conv => whnf
   refine Tr.seq ?_
   refine Tr.seq ?_
   refine rg ?_
   conv => whnf
   refine lnS_map ?_
   conv => whnf
   refine cB h (fun hb18 h => ?_) (fun hb18 h => ?_)
   ·conv => whnf
    refine Tr.cond ?_
    conv => whnf
    refine Tr.seq ?_
    refine rg ?_
    conv => whnf
    refine Tr.ret ?_
    conv => whnf
    cases h
    rfl
   conv => whnf
   refine lnS_map ?_
   conv => whnf
   refine Tr.cond ?_
   conv => whnf
   refine cB h (fun hb19 h => ?_) (fun hb19 h => ?_)
   ·refine Tr.seq ?_
    refine rg ?_
    conv => whnf
    refine Tr.ret ?_
    conv => whnf
    cases h
    rfl
   refine Tr.skip ?_
   conv => whnf
   refine Tr.seq ?_
   refine rg ?_
   conv => whnf
   obtain ⟨n_25, hv30, h⟩ := bS h
   refine Tr.cutQ1 ([(1, .pt 0 0), (2, .d (.b false)), (3, (dI n_25)), (4, (dI i_11))]) ([some (.var [.d (.ls (List.map eTSegment f_1.Clocks.Segments)), .d (.ls (List.map (eL eI) f_1.Clocks.Far)), .d (.ls (List.map eTPair f_1.Pairs)), .d (.ls (List.map eTRunner f_1.Runners))])]) ?_ (fun T1 H1 hw => ?_)
   ·replace h := hv30; clear hv30
    refine Tr.block ?_
    refine Tr.loopM (σ := Int × Int) (fun n s => M275 x_17 n s.1 s.2) n_25 (fun s => ([(1, .pt 0 0), (2, .d (.b false)), (3, (dI s.1)), (4, (dI i_11)), (5, .pt 1 0), (6, (dI s.2))], [some (.var [.d (.ls (List.map eTSegment f_1.Clocks.Segments)), .d (.ls (List.map (eL eI) f_1.Clocks.Far)), .d (.ls (List.map eTPair f_1.Pairs)), .d (.ls (List.map eTRunner f_1.Runners))]), some (.var [(dI x_17.Bib), .d (.ls (List.map eI x_17.Keys)), .d (.ls (List.map (eL eTOutcome) x_17.Worlds))])])) (((((x_17.Worlds).length : Int)) - 0 : Int).toNat + 1) (n_10, 0) h (fun s => rfl) (Wk.mk2 [0, 1] 2 rfl rfl (by decide) rfl ⟨rr, rr, trivial⟩ ⟨rr, rr, rr, rr, rr, rr, trivial⟩) ?_
    clear h
    rintro n_24 ⟨n_22, w_23⟩ h
    replace h : M275 x_17 (n_24 + 1) n_22 w_23 = some n_25 := h
    rw [M275] at h
    refine Tr.seq ?_
    refine Tr.seq ?_
    refine rg ?_
    conv => whnf
    refine lnS_map ?_
    conv => whnf
    refine Tr.cond ?_
    conv => whnf
    refine cB h (fun hb28 h => ?_) (fun hb28 h => ?_)
    ·refine Tr.skip ?_
     conv => whnf
     refine Tr.seq ?_
     refine Tr.block ?_
     refine rg ?_
     conv => whnf
     obtain ⟨x_29, hx_29, h⟩ := bS h
     refine ixP_of hx_29 ?_
     conv => whnf
     refine lnS_map ?_
     conv => whnf
     refine arS_raw ?_
     conv => whnf
     refine rg ?_
     conv => whnf
     refine arS_raw ?_
     conv => whnf
     refine ⟨((w64 (n_22 + (((x_29).length : Int)))), (w64 (w_23 + 1))), h, ?_⟩
     exact Wk.mk2 [0, 1] 2 rfl rfl (by decide) rfl ⟨rr, rr, trivial⟩ ⟨rr, rr, rr, rr, rr, rr, trivial⟩
    refine Tr.exit ?_
    conv => whnf
    cases h
    exact Wk.mk2 [0] 2 rfl rfl (by decide) rfl ⟨rr, trivial⟩ ⟨rr, rr, rr, rr, trivial⟩
   clear hv30
   conv => whnf
   refine Tr.weak hw ?_
   refine rg ?_
   conv => whnf
   refine arS_raw ?_
   conv => whnf
   refine ⟨(n_25, (w64 (i_11 + 1))), h, ?_⟩
   exact Wk.mk2 [0] 1 rfl rfl (by decide) rfl ⟨rr, trivial⟩ ⟨rr, rr, rr, rr, trivial⟩
  refine Tr.exit ?_
  conv => whnf
  refine ⟨(n_10), h, ?_⟩
  exact Wk.mk2 [] 1 rfl rfl (by decide) rfl trivial ⟨rr, rr, trivial⟩
 clear h
 rintro n_13 h T1 H1 hw
 replace h : M277 n_13 = some r_2 := h
 conv => whnf
 refine Tr.weak hw ?_
 unfold M277 at h
 refine Tr.seq ?_
 refine rg ?_
 conv => whnf
 refine Tr.ret ?_
 conv => whnf
 cases h
 rfl
end Go.Proofs.Tryz
