/- Contracts of functions, by program (gen.py). No condition. -/
import Derived.Test.YtkefiomhjjoekaaZL
import Derived.Test.YtkefiomhjjoekaaZM
import Derived.Test.YtkefiomhjjoekaaZCB
import Derived.Test.YtkefiomhjjoekaaZS3
namespace Go.Proofs.Try
open Go Go.Abs Go.Stop
set_option maxRecDepth 8000
set_option linter.unusedVariables false
set_option linter.unusedSimpArgs false
theorem P77 (f_1 : TField) (h_2 : THistory) (runner_3 : Int) (r_4 : Int) (r_5 : Int) (h : M77 f_1 h_2 runner_3 = some (r_4, r_5)) :
    PC prog 25 [(eTField f_1), (eTHistory h_2), (.i .i64 runner_3)] (fun rs => rs = [(.i .i64 r_4), (.i .i64 r_5)]) := by
 refine PC.of_tr (cx := ⟨52, none, lay, 0⟩) layOK func25 rfl rfl rfl rfl rfl (by simp [f25]) ?_
 unfold M77 at h
 refine sg ?_
 conv=>whnf
 refine sg ?_
 conv=>whnf
 obtain ⟨⟨r_6, r_7⟩, hc8, h⟩ := bS h
 refine PC.ecall (P68 f_1 h_2 runner_3 r_6 r_7 hc8) (fun rs hrs => ?_)
 subst hrs
 conv=>whnf
 refine Tr.seq ?_
 refine sg ?_
 conv=>whnf
 refine Tr.cond ?_
 conv=>whnf
 refine cB h (fun hb9 h => ?_) (fun hb9 h => ?_)
 ·refine sg ?_
  conv=>whnf
  refine Tr.ret ?_
  conv=>whnf
  cases h
  rfl
 refine Tr.skip ?_
 conv=>whnf
 refine sg ?_
 conv=>whnf
 obtain ⟨⟨r_10, r_11⟩, hc12, h⟩ := bS h
 refine PC.ecall (P69 r_6 runner_3 r_10 r_11 hc12) (fun rs hrs => ?_)
 subst hrs
 conv=>whnf
 refine Tr.seq ?_
 refine sg ?_
 conv=>whnf
 refine Tr.cond ?_
 conv=>whnf
 refine cB h (fun hb13 h => ?_) (fun hb13 h => ?_)
 ·refine sg ?_
  conv=>whnf
  refine Tr.ret ?_
  conv=>whnf
  cases h
  rfl
 refine Tr.skip ?_
 conv=>whnf
 refine sg ?_
 conv=>whnf
 refine Tr.seq ?_
 refine sg ?_
 conv=>whnf
 obtain ⟨r_14, hc15, h⟩ := bS h
 refine PC.ecall (P71 r_6 r_14 hc15) (fun rs hrs => ?_)
 subst hrs
 conv=>whnf
 refine lnS_map ?_
 conv=>whnf
 obtain ⟨n_21, hv29, h⟩ := bS h
 refine Tr.cutQ1 ([(6, (dI n_21)), (7, (dI r_7))]) ([]) ?_ (fun T1 H1 hw => ?_)
 ·replace h := hv29; clear hv29
  refine Tr.block ?_
  refine Tr.loopM (σ := Int × Int) (fun n s => M76 runner_3 r_6 r_10 r_14 n s.1 s.2) n_21 (fun s => ([(6, (dI s.1)), (7, (dI r_7)), (8, .pt 0 0), (11, .pt 1 0), (36, .d (.ls (List.map eThistory_pair_int_int r_14))), (37, (dI (((r_14).length : Int)))), (38, (dI s.2))], [some (.var [.d (.ls (List.map eTSegment r_6.f.Clocks.Segments)), .d (.ls (List.map (eL eI) r_6.f.Clocks.Far)), .d (.ls (List.map eTPair r_6.f.Pairs)), .d (.ls (List.map eTRunner r_6.f.Runners)), (dI r_6.h.World), .d (.ls (List.map eI r_6.h.Offsets)), .d (.ls (List.map eTChoice r_6.h.Choices))]), some (.var [(dI runner_3), (dI r_10)])])) (((((r_14).length : Int)) - 0 : Int).toNat + 1) (0, 0) h (fun s => rfl) (Wk.mk2 [2, 3] 4 rfl rfl (by decide) rfl ⟨rr, rr, trivial⟩ ⟨rr, rr, ⟨rfl, (by first | rfl | (simp only [↓hb9, ↓hb13, bl]; done) | (simp only [↓hb9, ↓hb13, bl]; rfl))⟩, ⟨rfl, (by first | rfl | (simp only [↓hb9, ↓hb13, bl]; done) | (simp only [↓hb9, ↓hb13, bl]; rfl))⟩, rr, rr, rr, trivial⟩) ?_
  clear h
  rintro n_20 ⟨n_18, v_19⟩ h
  replace h : M76 runner_3 r_6 r_10 r_14 (n_20 + 1) n_18 v_19 = some n_21 := h
  rw [M76] at h
  refine sg ?_
  conv=>whnf
  refine Tr.seq ?_
  refine Tr.cond ?_
  conv=>whnf
  refine cB h (fun hb24 h => ?_) (fun hb24 h => ?_)
  ·refine Tr.skip ?_
   conv=>whnf
   refine Tr.seq ?_
   refine Tr.block ?_
   refine sg ?_
   conv=>whnf
   obtain ⟨x_25, hx_25, h⟩ := bS h
   refine ixP_of hx_25 ?_
   conv=>whnf
   refine sg ?_
   conv=>whnf
   obtain ⟨r_26, hc27, h⟩ := bS h
   refine PC.ecall (P75 r_6 x_25 ({ first := runner_3, second := r_10 } : Thistory_pair_int_int) r_26 hc27) (fun rs hrs => ?_)
   subst hrs
   conv=>whnf
   refine Tr.cond ?_
   conv=>whnf
   refine cB h (fun hb28 h => ?_) (fun hb28 h => ?_)
   ·refine rg ?_
    conv=>whnf
    refine arS_raw ?_
    conv=>whnf
    refine rg ?_
    conv=>whnf
    refine arS_raw ?_
    conv=>whnf
    refine ⟨((w64 (n_18 + 1)), (w64 (v_19 + 1))), h, ?_⟩
    exact Wk.mk2 [0, 1] 3 rfl rfl (by decide) rfl ⟨rr, rr, trivial⟩ ⟨rr, rr, rr, rr, rr, rr, rr, trivial⟩
   refine Tr.skip ?_
   conv=>whnf
   refine rg ?_
   conv=>whnf
   refine arS_raw ?_
   conv=>whnf
   refine ⟨(n_18, (w64 (v_19 + 1))), h, ?_⟩
   exact Wk.mk2 [0, 1] 3 rfl rfl (by decide) rfl ⟨rr, rr, trivial⟩ ⟨rr, rr, rr, rr, rr, rr, rr, trivial⟩
  refine Tr.exit ?_
  conv=>whnf
  cases h
  exact Wk.mk2 [] 2 rfl rfl (by decide) rfl trivial ⟨rr, rr, trivial⟩
 clear hv29
 conv=>whnf
 refine Tr.weak hw ?_
 refine sg ?_
 conv=>whnf
 refine arS_raw ?_
 conv=>whnf
 refine Tr.ret ?_
 conv=>whnf
 cases h
 rfl
theorem P80 (a_1 : Int) (b_2 : Int) (c_3 : Thistory_view) (l_4 : List Thistory_pair_int_int) (l_5 : List Thistory_pair_int_int) (h : M80 a_1 b_2 c_3 l_4 = some l_5) :
    MC prog 95 [.sl 0 2 0 (List.length l_4), (dI a_1), (dI b_2), .d (.fm 37 [(eThistory_view c_3)])] [.arr 2 (List.map .d (List.map eThistory_pair_int_int l_4))] (fun rs Bs => rs = [] ∧ Bs = [.arr 2 (List.map .d (List.map eThistory_pair_int_int l_5))]) := by
 refine MC.of_tr (cx := ⟨53, none, lay, 1⟩) layOK func95 rfl rfl rfl rfl rfl (by simp [f95]) ?_
 refine Tr.unW ?_
 unfold M80 at h
 refine sg ?_
 conv=>whnf
 refine arS_raw ?_
 conv=>whnf
 obtain ⟨l_11, hv34, h⟩ := bS h
 refine Tr.cutQ1 ([]) ([some (.arr 2 (List.map .d (List.map eThistory_pair_int_int l_11)))]) ?_ (fun T1 H1 hw => ?_)
 ·replace h := hv34; clear hv34
  refine Tr.block ?_
  refine Tr.loopM (σ := Int × List Thistory_pair_int_int) (fun n s => M79 a_1 b_2 c_3 n s.1 s.2) l_11 (fun s => ([(0, .sl 0 2 0 (List.length s.2)), (1, (dI a_1)), (2, (dI b_2)), (3, .d (.fm 37 [(eThistory_view c_3)])), (8, (dI s.1))], [some (.arr 2 (List.map .d (List.map eThistory_pair_int_int s.2)))])) ((b_2 - (w64 (a_1 + 1)) : Int).toNat + 1) ((w64 (a_1 + 1)), l_4) h (fun s => rfl) (Wk.mk2 [0] 1 rfl rfl (by decide) rfl ⟨daS_d rfl, trivial⟩ ⟨rr, rr, rr, rr, rr, trivial⟩) ?_
  clear h
  rintro n_10 ⟨i_8, l_9⟩ h
  replace h : M79 a_1 b_2 c_3 (n_10 + 1) i_8 l_9 = some l_11 := h
  rw [M79] at h
  refine Tr.seq ?_
  refine sg ?_
  conv=>whnf
  refine Tr.cond ?_
  conv=>whnf
  refine cB h (fun hb14 h => ?_) (fun hb14 h => ?_)
  ·refine Tr.skip ?_
   conv=>whnf
   refine Tr.seq ?_
   refine Tr.block ?_
   refine sg ?_
   conv=>whnf
   obtain ⟨l_20, hv33, h⟩ := bS h
   refine Tr.cutQ1 ([(0, .sl 0 2 0 (List.length l_20)), (1, (dI a_1)), (2, (dI b_2)), (3, .d (.fm 37 [(eThistory_view c_3)])), (8, (dI i_8))]) ([some (.arr 2 (List.map .d (List.map eThistory_pair_int_int l_20)))]) ?_ (fun T1 H1 hw => ?_)
   ·replace h := hv33; clear hv33
    refine Tr.block ?_
    refine Tr.loopM (σ := Int × List Thistory_pair_int_int) (fun n s => M78 a_1 c_3 n s.1 s.2) l_20 (fun s => ([(0, .sl 0 2 0 (List.length s.2)), (1, (dI a_1)), (2, (dI b_2)), (3, .d (.fm 37 [(eThistory_view c_3)])), (8, (dI i_8)), (9, (dI s.1))], [some (.arr 2 (List.map .d (List.map eThistory_pair_int_int s.2)))])) ((i_8 - a_1 : Int).toNat + 1) (i_8, l_9) h (fun s => rfl) (Wk.mk2 [0] 1 rfl rfl (by decide) rfl ⟨daS_d rfl, trivial⟩ ⟨rr, rr, rr, rr, rr, rr, trivial⟩) ?_
    clear h
    rintro n_19 ⟨j_17, l_18⟩ h
    replace h : M78 a_1 c_3 (n_19 + 1) j_17 l_18 = some l_20 := h
    rw [M78] at h
    refine Tr.seq ?_
    refine sd [] [(0,1),(1,1),(2,1),(3,1),(4,1),(5,1),(6,1),(7,3),(8,3),(9,1),(10,1),(11,1),(12,3),(13,3),(14,1),(15,1),(16,1)] ?_
    conv=>whnf
    refine q1 ?_
    conv=>whnf
    refine q1 ?_
    conv=>whnf
    refine q1 ?_
    conv=>whnf
    refine q1 ?_
    conv=>whnf
    refine cB h (fun hb23 h => ?_) (fun hb23 h => ?_)
    ·conv=>whnf
     refine q1 ?_
     conv=>whnf
     refine q1 ?_
     conv=>whnf
     refine q1 ?_
     conv=>whnf
     obtain ⟨x_24, hx_24, h⟩ := bS h
     refine q3 (ixS_of hx_24 rfl rr) ?_
     conv=>whnf
     refine q3 (elP_of hx_24 rr) ?_
     conv=>whnf
     refine q1 ?_
     conv=>whnf
     refine q1 ?_
     conv=>whnf
     refine q4 ?_
     conv=>whnf
     obtain ⟨x_25, hx_25, h⟩ := bS h
     refine q3 (ixS_of hx_25 rfl rr) ?_
     conv=>whnf
     refine q3 (elP_of hx_25 rr) ?_
     conv=>whnf
     obtain ⟨r_26, hc27, h⟩ := bS h
     refine q1 ?_ (fun _ => pe (P75 c_3 x_24 x_25 r_26 hc27) rr)
     conv=>whnf
     refine q1 ?_
     conv=>whnf
     refine q1 ?_
     conv=>whnf
     refine Tr.cond ?_
     conv=>whnf
     refine cB h (fun hb28 h => ?_) (fun hb28 h => ?_)
     ·refine Tr.skip ?_
      conv=>whnf
      refine Tr.seq ?_
      refine Tr.block ?_
      refine dq [(15,0),(17,0)] [(0,1),(1,1),(2,1),(3,1),(4,1),(5,1),(6,1),(7,1),(8,3),(9,3),(10,1),(11,1),(12,3),(13,3),(14,3),(15,0),(16,3),(17,0)] ?_
      conv=>whnf
      refine q1 ?_
      conv=>whnf
      refine q1 ?_
      conv=>whnf
      refine q1 ?_
      conv=>whnf
      refine q1 ?_
      conv=>whnf
      refine q4 ?_
      conv=>whnf
      refine q1 ?_
      conv=>whnf
      refine q1 ?_
      conv=>whnf
      refine q4 ?_
      conv=>whnf
      obtain ⟨x_29, hx_29, h⟩ := bS h
      refine q3 (ixS_of hx_29 rfl rr) ?_
      conv=>whnf
      refine q3 (elP_of hx_29 rr) ?_
      conv=>whnf
      refine q1 ?_
      conv=>whnf
      refine q1 ?_
      conv=>whnf
      obtain ⟨x_30, hx_30, h⟩ := bS h
      refine q3 (ixS_of hx_30 rfl rr) ?_
      conv=>whnf
      refine q3 (elP_of hx_30 rr) ?_
      conv=>whnf
      obtain ⟨x_31, hx_31, h⟩ := bS h
      refine q3 (ixS_of hx_31 rfl rr) ?_
      conv=>whnf
      refine ⟨_, _, (by (conv=>whnf); (refine elP_of hx_31 ?_); (conv=>whnf); (refine lvS_mk (es' := List.map .d (List.map eThistory_pair_int_int (List.set l_18 (Int.toNat j_17) x_29))) (by simp only [Nat.zero_add, List.map_set]; first | done | rfl) ?_); (conv=>whnf); (exact rr)), kp_ok (by repeat (first | exact trivial | refine ⟨trivial, ?_⟩ | refine ⟨rfl, ?_⟩)), ?_⟩
      conv=>whnf
      obtain ⟨x_32, hx_32, h⟩ := bS h
      refine q3 (ixS_of hx_32 (by first | rfl | simp) rr) ?_
      conv=>whnf
      refine ⟨_, _, (by (conv=>whnf); (refine elP_of hx_32 ?_); (conv=>whnf); (refine lvS_mk (es' := List.map .d (List.map eThistory_pair_int_int (List.set (List.set l_18 (Int.toNat j_17) x_29) (Int.toNat (w64 (j_17 - 1))) x_30))) (by simp only [Nat.zero_add, List.map_set]; first | done | rfl) ?_); (conv=>whnf); (exact rr)), kp_ok (by repeat (first | exact trivial | refine ⟨trivial, ?_⟩ | refine ⟨rfl, ?_⟩)), ?_⟩
      conv=>whnf
      refine rg ?_
      conv=>whnf
      refine arS_raw ?_
      conv=>whnf
      refine ⟨((w64 (j_17 - 1)), (List.set (List.set l_18 (Int.toNat j_17) x_29) (Int.toNat (w64 (j_17 - 1))) x_30)), h, ?_⟩
      exact Wk.mk2 [0] 1 rfl rfl (by decide) rfl ⟨daS_d rfl, trivial⟩ ⟨⟨rfl, (slEq (by first | rfl | simp))⟩, rr, rr, rr, rr, rr, trivial⟩
     refine Tr.exit ?_
     conv=>whnf
     cases h
     exact Wk.mk2 [0] 1 rfl rfl (by decide) rfl ⟨daS_d rfl, trivial⟩ ⟨rr, rr, rr, rr, rr, trivial⟩
    conv=>whnf
    refine q1 ?_
    conv=>whnf
    refine Tr.cond ?_
    conv=>whnf
    refine Tr.exit ?_
    conv=>whnf
    cases h
    exact Wk.mk2 [0] 1 rfl rfl (by decide) rfl ⟨daS_d rfl, trivial⟩ ⟨rr, rr, rr, rr, rr, trivial⟩
   clear hv33
   conv=>whnf
   refine Tr.weak hw ?_
   refine rg ?_
   conv=>whnf
   refine arS_raw ?_
   conv=>whnf
   refine ⟨((w64 (i_8 + 1)), l_20), h, ?_⟩
   exact Wk.mk2 [0] 1 rfl rfl (by decide) rfl ⟨daS_d rfl, trivial⟩ ⟨rr, rr, rr, rr, rr, trivial⟩
  refine Tr.exit ?_
  conv=>whnf
  cases h
  exact Wk.mk2 [0] 1 rfl rfl (by decide) rfl ⟨daS_d rfl, trivial⟩ trivial
 clear hv34
 conv=>whnf
 refine endW hw ?_
 conv=>whnf
 cases h
 exact endB rfl rfl rfl ⟨⟨_, rfl⟩, trivial⟩
theorem P84 (n_1 : Int) (c_2 : Thistory_view) (l_3 : List Thistory_pair_int_int) (l_4 : List Thistory_pair_int_int) (h : M84 n_1 c_2 l_3 = some l_4) :
    MC prog 63 [.sl 0 2 0 (List.length l_3), (dI n_1), .d (.fm 37 [(eThistory_view c_2)])] [.arr 2 (List.map .d (List.map eThistory_pair_int_int l_3))] (fun rs Bs => rs = [] ∧ Bs = [.arr 2 (List.map .d (List.map eThistory_pair_int_int l_4))]) := by
 refine MC.of_tr (cx := ⟨63, none, lay, 1⟩) layOK func63 rfl rfl rfl rfl rfl (by simp [f63]) ?_
 refine Tr.unW ?_
 unfold M84 at h
 refine sg ?_
 conv=>whnf
 refine sg ?_
 conv=>whnf
 refine Tr.seq ?_
 obtain ⟨⟨a_12, l_13⟩, hv20, h⟩ := bS h
 refine Tr.cutQ1 ([(0, .sl 0 2 0 (List.length l_13)), (1, (dI n_1)), (2, .d (.fm 37 [(eThistory_view c_2)])), (6, (dI 20)), (7, (dI a_12))]) ([some (.arr 2 (List.map .d (List.map eThistory_pair_int_int l_13)))]) ?_ (fun T1 H1 hw => ?_)
 ·replace h := hv20; clear hv20
  refine Tr.block ?_
  refine Tr.loopM (σ := Int × Int × List Thistory_pair_int_int) (fun n s => M81 n_1 c_2 n s.1 s.2.1 s.2.2) (a_12, l_13) (fun s => ([(0, .sl 0 2 0 (List.length s.2.2)), (1, (dI n_1)), (2, .d (.fm 37 [(eThistory_view c_2)])), (6, (dI 20)), (7, (dI s.1)), (8, (dI s.2.1))], [some (.arr 2 (List.map .d (List.map eThistory_pair_int_int s.2.2)))])) ((n_1 + 1 - 20 : Int).toNat + 1) (0, 20, l_3) h (fun s => rfl) (Wk.mk2 [0] 1 rfl rfl (by decide) rfl ⟨daS_d rfl, trivial⟩ ⟨rr, rr, rr, rr, rr, rr, trivial⟩) ?_
  clear h
  rintro n_11 ⟨a_8, b_9, l_10⟩ h
  replace h : M81 n_1 c_2 (n_11 + 1) a_8 b_9 l_10 = some (a_12, l_13) := h
  rw [M81] at h
  refine Tr.seq ?_
  refine sg ?_
  conv=>whnf
  refine Tr.cond ?_
  conv=>whnf
  refine cB h (fun hb16 h => ?_) (fun hb16 h => ?_)
  ·refine Tr.skip ?_
   conv=>whnf
   refine Tr.block ?_
   refine sg ?_
   conv=>whnf
   obtain ⟨l_17, hc18, h⟩ := bS h
   refine MC.ecall (P80 a_8 b_9 c_2 l_10 l_17 hc18) [0] (by decide) rfl rfl ?_ (fun rs Bs1 hrs => ?_)
   · exact ⟨⟨⟨_, rfl⟩, rfl⟩, trivial⟩
   obtain ⟨rfl, rfl⟩ := hrs
   conv=>whnf
   obtain ⟨_, hl19, h⟩ := bS h
   refine sg ?_
   conv=>whnf
   refine rg ?_
   conv=>whnf
   refine arS_raw ?_
   conv=>whnf
   refine ⟨(b_9, (w64 (b_9 + 20)), l_17), h, ?_⟩
   exact Wk.mk2 [0] 1 rfl rfl (by decide) rfl ⟨daS_d rfl, trivial⟩ ⟨⟨rfl, (slEq (by first | rfl | simp [lenIs_eq hl19]))⟩, rr, rr, rr, rr, rr, trivial⟩
  refine Tr.exit ?_
  conv=>whnf
  cases h
  exact Wk.mk2 [0] 1 rfl rfl (by decide) rfl ⟨daS_d rfl, trivial⟩ ⟨rr, rr, rr, rr, rr, trivial⟩
 clear hv20
 conv=>whnf
 refine Tr.weak hw ?_
 refine sg ?_
 conv=>whnf
 obtain ⟨l_21, hc22, h⟩ := bS h
 refine MC.ecall (P80 a_12 n_1 c_2 l_13 l_21 hc22) [0] (by decide) rfl rfl ?_ (fun rs Bs1 hrs => ?_)
 · exact ⟨⟨⟨_, rfl⟩, rfl⟩, trivial⟩
 obtain ⟨rfl, rfl⟩ := hrs
 conv=>whnf
 obtain ⟨_, hl23, h⟩ := bS h
 obtain ⟨_, hv33, h⟩ := bS h
 refine Tr.cutQ1 ([]) ([some (.arr 2 (List.map .d (List.map eThistory_pair_int_int l_21)))]) ?_ (fun T1 H1 hw => ?_)
 ·replace h := hv33; clear hv33
  refine Tr.block ?_
  refine Tr.loopM (σ := Unit) (fun n s => M83 n_1 n) () (fun s => ([(0, .sl 0 2 0 (List.length l_21)), (1, (dI n_1)), (2, .d (.fm 37 [(eThistory_view c_2)])), (6, (dI 20))], [some (.arr 2 (List.map .d (List.map eThistory_pair_int_int l_21)))])) ((n_1 - 20 : Int).toNat + 1) () h (fun s => rfl) (Wk.mk2 [0] 1 rfl rfl (by decide) rfl ⟨daS_d rfl, trivial⟩ ⟨⟨rfl, (slEq (by first | rfl | simp [lenIs_eq hl23]))⟩, rr, rr, rr, trivial⟩) ?_
  clear h
  rintro n_24 _ h
  replace h : M83 n_1 (n_24 + 1) = some () := h
  rw [M83] at h
  refine Tr.seq ?_
  refine sg ?_
  conv=>whnf
  refine Tr.cond ?_
  conv=>whnf
  refine cB h (fun hb27 h => ?_) (fun hb27 h => ?_)
  ·refine Tr.skip ?_
   conv=>whnf
   refine Tr.block ?_
   refine sg ?_
   conv=>whnf
   refine arS_raw ?_
   conv=>whnf
   refine Tr.seq ?_
   obtain ⟨_, hv32, h⟩ := bS h
   refine Tr.cutQ1 ([(0, .sl 0 2 0 (List.length l_21)), (1, (dI n_1)), (2, .d (.fm 37 [(eThistory_view c_2)])), (6, (dI 20)), (7, (dI 0))]) ([some (.arr 2 (List.map .d (List.map eThistory_pair_int_int l_21)))]) ?_ (fun T1 H1 hw => ?_)
   ·replace h := hv32; clear hv32
    refine Tr.block ?_
    refine Tr.loopM (σ := Unit) (fun n s => M82 n_1 n) () (fun s => ([(0, .sl 0 2 0 (List.length l_21)), (1, (dI n_1)), (2, .d (.fm 37 [(eThistory_view c_2)])), (6, (dI 20)), (7, (dI 0)), (8, (dI 40))], [some (.arr 2 (List.map .d (List.map eThistory_pair_int_int l_21)))])) ((n_1 + 1 - 40 : Int).toNat + 1) () h (fun s => rfl) (Wk.mk2 [0] 1 rfl rfl (by decide) rfl ⟨daS_d rfl, trivial⟩ ⟨rr, rr, rr, rr, rr, rr, trivial⟩) ?_
    clear h
    rintro n_28 _ h
    replace h : M82 n_1 (n_28 + 1) = some () := h
    rw [M82] at h
    refine Tr.seq ?_
    refine sg ?_
    conv=>whnf
    refine Tr.cond ?_
    conv=>whnf
    refine cB h (fun hb31 h => ?_) (fun hb31 h => ?_)
    ·refine Tr.skip ?_
     conv=>whnf
     refine Tr.block ?_
     refine sg ?_
     conv=>whnf
     refine arS_raw ?_
     conv=>whnf
     cases h
    refine Tr.exit ?_
    conv=>whnf
    exact Wk.mk2 [0] 1 rfl rfl (by decide) rfl ⟨daS_d rfl, trivial⟩ ⟨rr, rr, rr, rr, rr, trivial⟩
   clear hv32
   conv=>whnf
   refine Tr.weak hw ?_
   refine Tr.seq ?_
   refine sg ?_
   conv=>whnf
   refine arS_raw ?_
   conv=>whnf
   refine sg ?_
   conv=>whnf
   refine Tr.cond ?_
   conv=>whnf
   refine condS_kt hb27 ?_
   refine rg ?_
   conv=>whnf
   cases h
  refine Tr.exit ?_
  conv=>whnf
  exact Wk.mk2 [0] 1 rfl rfl (by decide) rfl ⟨daS_d rfl, trivial⟩ trivial
 clear hv33
 conv=>whnf
 refine endW hw ?_
 conv=>whnf
 cases h
 exact endB rfl rfl rfl ⟨⟨_, rfl⟩, trivial⟩
theorem P85 (c_1 : Thistory_view) (l_2 : List Thistory_pair_int_int) (l_3 : List Thistory_pair_int_int) (h : M85 c_1 l_2 = some l_3) :
    MC prog 36 [.sl 0 2 0 (List.length l_2), .d (.fm 37 [(eThistory_view c_1)])] [.arr 2 (List.map .d (List.map eThistory_pair_int_int l_2))] (fun rs Bs => rs = [] ∧ Bs = [.arr 2 (List.map .d (List.map eThistory_pair_int_int l_3))]) := by
 refine MC.of_tr (cx := ⟨9, none, lay, 1⟩) layOK func36 rfl rfl rfl rfl rfl (by simp [f36]) ?_
 refine Tr.unW ?_
 unfold M85 at h
 refine rg ?_
 conv=>whnf
 refine lnS_mk rfl ?_
 conv=>whnf
 obtain ⟨l_4, hc5, h⟩ := bS h
 refine MC.ecall (P84 ((((l_2).length : Int))) c_1 l_2 l_4 hc5) [0] (by decide) rfl rfl ?_ (fun rs Bs1 hrs => ?_)
 · exact ⟨⟨⟨_, rfl⟩, rfl⟩, trivial⟩
 obtain ⟨rfl, rfl⟩ := hrs
 conv=>whnf
 obtain ⟨_, hl6, h⟩ := bS h
 refine endH ?_
 conv=>whnf
 cases h
 exact endB rfl rfl rfl ⟨⟨_, rfl⟩, trivial⟩
theorem P88 (f_1 : TField) (h_2 : THistory) (r_3 : List Int) (r_4 : Int) (h : M88 f_1 h_2 = some (r_3, r_4)) :
    PC prog 15 [(eTField f_1), (eTHistory h_2)] (fun rs => rs = [(.ls (List.map eI r_3)), (.i .i64 r_4)]) := by
 refine PC.of_tr (cx := ⟨38, none, lay, 0⟩) layOK func15 rfl rfl rfl rfl rfl (by simp [f15]) ?_
 unfold M88 at h
 refine sg ?_
 conv=>whnf
 refine sg ?_
 conv=>whnf
 obtain ⟨⟨r_5, r_6⟩, hc7, h⟩ := bS h
 refine PC.ecall (P67 f_1 h_2 r_5 r_6 hc7) (fun rs hrs => ?_)
 subst hrs
 conv=>whnf
 refine Tr.seq ?_
 refine sg ?_
 conv=>whnf
 refine Tr.cond ?_
 conv=>whnf
 refine cB h (fun hb8 h => ?_) (fun hb8 h => ?_)
 ·refine sg ?_
  conv=>whnf
  refine Tr.ret ?_
  conv=>whnf
  cases h
  rfl
 refine Tr.skip ?_
 conv=>whnf
 refine sg ?_
 conv=>whnf
 refine ECall.of_tr (cx := ⟨28, none, lay, 3⟩) layOK func35 rfl rfl rfl rfl rfl (by simp [f35]) ?_
 refine sg ?_
 conv=>whnf
 refine Tr.seq ?_
 refine sg ?_
 conv=>whnf
 refine lnS_map ?_
 conv=>whnf
 obtain ⟨l_14, hv23, h⟩ := bS h
 refine Tr.cutQ1 ([(2, .sl 3 2 0 (List.length l_14))]) ([some (.var [.d (.ls (List.map eTSegment f_1.Clocks.Segments)), .d (.ls (List.map (eL eI) f_1.Clocks.Far)), .d (.ls (List.map eTPair f_1.Pairs)), .d (.ls (List.map eTRunner f_1.Runners))]), some (.var [(dI h_2.World), .d (.ls (List.map eI h_2.Offsets)), .d (.ls (List.map eTChoice h_2.Choices))]), some (.var [.d (.ls (List.map eTSegment r_5.f.Clocks.Segments)), .d (.ls (List.map (eL eI) r_5.f.Clocks.Far)), .d (.ls (List.map eTPair r_5.f.Pairs)), .d (.ls (List.map eTRunner r_5.f.Runners)), (dI r_5.h.World), .d (.ls (List.map eI r_5.h.Offsets)), .d (.ls (List.map eTChoice r_5.h.Choices))]), some (.arr 2 (List.map .d (List.map eThistory_pair_int_int l_14)))]) ?_ (fun T1 H1 hw => ?_)
 ·replace h := hv23; clear hv23
  refine Tr.block ?_
  refine Tr.loopM (σ := Int × List Thistory_pair_int_int) (fun n s => M86 r_5 n s.1 s.2) l_14 (fun s => ([(1, .pt 3 0), (2, .sl 4 2 0 (List.length s.2)), (9, (dI (((r_5.f.Runners).length : Int)))), (10, (dI s.1))], [some (.var [.d (.ls (List.map eTSegment f_1.Clocks.Segments)), .d (.ls (List.map (eL eI) f_1.Clocks.Far)), .d (.ls (List.map eTPair f_1.Pairs)), .d (.ls (List.map eTRunner f_1.Runners))]), some (.var [(dI h_2.World), .d (.ls (List.map eI h_2.Offsets)), .d (.ls (List.map eTChoice h_2.Choices))]), some (.var [.d (.ls (List.map eTSegment r_5.f.Clocks.Segments)), .d (.ls (List.map (eL eI) r_5.f.Clocks.Far)), .d (.ls (List.map eTPair r_5.f.Pairs)), .d (.ls (List.map eTRunner r_5.f.Runners)), (dI r_5.h.World), .d (.ls (List.map eI r_5.h.Offsets)), .d (.ls (List.map eTChoice r_5.h.Choices))]), some (.var [.d (.ls (List.map eTSegment r_5.f.Clocks.Segments)), .d (.ls (List.map (eL eI) r_5.f.Clocks.Far)), .d (.ls (List.map eTPair r_5.f.Pairs)), .d (.ls (List.map eTRunner r_5.f.Runners)), (dI r_5.h.World), .d (.ls (List.map eI r_5.h.Offsets)), .d (.ls (List.map eTChoice r_5.h.Choices))]), some (.arr 2 (List.map .d (List.map eThistory_pair_int_int s.2)))])) (((((r_5.f.Runners).length : Int)) - 0 : Int).toNat + 1) (0, (([] : List Thistory_pair_int_int))) h (fun s => rfl) (Wk.mk2 [0, 1, 2, 3, 4] 4 rfl rfl (by decide) rfl ⟨rr, rr, rr, rr, rfl, trivial⟩ ⟨rr, ⟨rfl, (by first | rfl | (simp only [↓hb8, bl]; done) | (simp only [↓hb8, bl]; rfl))⟩, rr, rr, trivial⟩) ?_
  clear h
  rintro n_13 ⟨v_11, l_12⟩ h
  replace h : M86 r_5 (n_13 + 1) v_11 l_12 = some l_14 := h
  rw [M86] at h
  refine sg ?_
  conv=>whnf
  refine Tr.seq ?_
  refine Tr.cond ?_
  conv=>whnf
  refine cB h (fun hb17 h => ?_) (fun hb17 h => ?_)
  ·refine Tr.skip ?_
   conv=>whnf
   refine Tr.seq ?_
   refine Tr.block ?_
   refine sg ?_
   conv=>whnf
   refine sg ?_
   conv=>whnf
   obtain ⟨⟨r_18, r_19⟩, hc20, h⟩ := bS h
   refine PC.ecall (P69 r_5 v_11 r_18 r_19 hc20) (fun rs hrs => ?_)
   subst hrs
   conv=>whnf
   refine sg ?_
   conv=>whnf
   refine Tr.cond ?_
   conv=>whnf
   refine cB h (fun hb21 h => ?_) (fun hb21 h => ?_)
   ·refine rg ?_
    conv=>whnf
    refine orB_r ?_
    conv=>whnf
    refine frP_no ?_
    conv=>whnf
    refine eqS_mk (by first | rfl | simp) ?_
    conv=>whnf
    obtain ⟨l_22, hl_22, h⟩ := bS h
    refine apS_of hl_22 (aQ (f := eThistory_pair_int_int) (l := (([({ first := v_11, second := r_18 } : Thistory_pair_int_int)] : List Thistory_pair_int_int))) fun _ => rfl) (by first | rfl | simp) (by first | rfl | simp) (fun he => ?_)
    conv=>whnf
    refine rS (es' := List.map .d (List.map eThistory_pair_int_int l_22)) (n' := List.length l_22) (by subst he; simp only [List.map_append, List.map_cons, List.map_nil, List.nil_append]; first | done | rfl) (by subst he; simp <;> omega) ?_
    clear he
    conv=>whnf
    refine rg ?_
    conv=>whnf
    refine arS_raw ?_
    conv=>whnf
    refine ⟨((w64 (v_11 + 1)), l_22), h, ?_⟩
    exact Wk.mk2 [0, 1, 2, 3, 5] 6 rfl rfl (by decide) rfl ⟨rr, rr, rr, rr, daS_d rfl, trivial⟩ ⟨rr, ⟨rfl, (by first | rfl | (simp only [↓hb8, ↓hb17, ↓hb21, bl]; done) | (simp only [↓hb8, ↓hb17, ↓hb21, bl]; rfl))⟩, rr, rr, trivial⟩
   refine Tr.skip ?_
   conv=>whnf
   refine rg ?_
   conv=>whnf
   refine arS_raw ?_
   conv=>whnf
   refine ⟨((w64 (v_11 + 1)), l_12), h, ?_⟩
   exact Wk.mk2 [0, 1, 2, 3, 4] 5 rfl rfl (by decide) rfl ⟨rr, rr, rr, rr, daS_d rfl, trivial⟩ ⟨rr, rr, rr, rr, trivial⟩
  refine Tr.exit ?_
  conv=>whnf
  cases h
  exact Wk.mk2 [0, 1, 2, 4] 5 rfl rfl (by decide) rfl ⟨rr, rr, rr, daS_d rfl, trivial⟩ ⟨⟨rfl, (by first | rfl | (simp only [↓hb8, ↓hb17, bl]; done) | (simp only [↓hb8, ↓hb17, bl]; rfl))⟩, trivial⟩
 clear hv23
 conv=>whnf
 refine Tr.weak hw ?_
 refine sg ?_
 conv=>whnf
 refine Tr.ret ?_
 conv=>whnf
 refine sg ?_
 conv=>whnf
 obtain ⟨l_24, hc25, h⟩ := bS h
 refine MC.ecall (P85 r_5 l_14 l_24 hc25) [3] (by decide) rfl rfl ?_ (fun rs Bs1 hrs => ?_)
 · exact ⟨⟨⟨_, rfl⟩, rfl⟩, trivial⟩
 obtain ⟨rfl, rfl⟩ := hrs
 conv=>whnf
 obtain ⟨_, hl26, h⟩ := bS h
 refine Tr.seq ?_
 refine sg ?_
 conv=>whnf
 refine lnS_mk (m := List.length l_24) (by first | rfl | simp [lenIs_eq hl26]) ?_
 conv=>whnf
 obtain ⟨l_32, hv38, h⟩ := bS h
 refine Tr.cutQ1 ([(4, .sl 0 1 0 (List.length l_32)), (5, (dI r_6))]) ([some (.arr 1 (List.map .d (List.map eI l_32)))]) ?_ (fun T1 H1 hw => ?_)
 ·replace h := hv38; clear hv38
  refine Tr.block ?_
  refine Tr.loopM (σ := Int × List Int) (fun n s => M87 l_24 n s.1 s.2) l_32 (fun s => ([(4, .sl 0 1 0 (List.length s.2)), (5, (dI r_6)), (25, .sl 1 2 0 (List.length l_24)), (26, (dI (((l_24).length : Int)))), (27, (dI s.1))], [some (.arr 1 (List.map .d (List.map eI s.2))), some (.arr 2 (List.map .d (List.map eThistory_pair_int_int l_24)))])) (((((l_24).length : Int)) - 0 : Int).toNat + 1) (0, (([] : List Int))) h (fun s => rfl) (Wk.mk2 [4, 3] 4 rfl rfl (by decide) rfl ⟨rfl, daS_d rfl, trivial⟩ ⟨⟨rfl, (by first | rfl | (simp only [↓hb8, bl]; done) | (simp only [↓hb8, bl]; rfl))⟩, rr, ⟨rfl, (slEq (by first | rfl | simp [lenIs_eq hl26]))⟩, rr, rr, trivial⟩) ?_
  clear h
  rintro n_31 ⟨v_29, l_30⟩ h
  replace h : M87 l_24 (n_31 + 1) v_29 l_30 = some l_32 := h
  rw [M87] at h
  refine sg ?_
  conv=>whnf
  refine Tr.seq ?_
  refine Tr.cond ?_
  conv=>whnf
  refine cB h (fun hb35 h => ?_) (fun hb35 h => ?_)
  ·refine Tr.skip ?_
   conv=>whnf
   refine Tr.seq ?_
   refine Tr.block ?_
   refine sg ?_
   conv=>whnf
   obtain ⟨x_36, hx_36, h⟩ := bS h
   refine ixS_of hx_36 rfl ?_
   conv=>whnf
   refine elP_of hx_36 ?_
   conv=>whnf
   refine rg ?_
   conv=>whnf
   refine orB_r ?_
   conv=>whnf
   refine frP_no ?_
   conv=>whnf
   refine eqS_mk (by first | rfl | simp) ?_
   conv=>whnf
   obtain ⟨l_37, hl_37, h⟩ := bS h
   refine apS_of hl_37 (aQ (f := eI) (l := (([x_36.first] : List Int))) fun _ => rfl) (by first | rfl | simp) (by first | rfl | simp) (fun he => ?_)
   conv=>whnf
   refine rS (es' := List.map .d (List.map eI l_37)) (n' := List.length l_37) (by subst he; simp only [List.map_append, List.map_cons, List.map_nil, List.nil_append]; first | done | rfl) (by subst he; simp <;> omega) ?_
   clear he
   conv=>whnf
   refine rg ?_
   conv=>whnf
   refine arS_raw ?_
   conv=>whnf
   refine ⟨((w64 (v_29 + 1)), l_37), h, ?_⟩
   exact Wk.mk2 [3, 1] 4 rfl rfl (by decide) rfl ⟨daS_d rfl, daS_d rfl, trivial⟩ ⟨⟨rfl, (by first | rfl | (simp only [↓hb8, ↓hb35, bl]; done) | (simp only [↓hb8, ↓hb35, bl]; rfl))⟩, rr, rr, rr, rr, trivial⟩
  refine Tr.exit ?_
  conv=>whnf
  cases h
  exact Wk.mk2 [0] 2 rfl rfl (by decide) rfl ⟨daS_d rfl, trivial⟩ ⟨rr, rr, trivial⟩
 clear hv38
 conv=>whnf
 refine Tr.weak hw ?_
 refine sg ?_
 conv=>whnf
 refine Tr.ret ?_
 conv=>whnf
 refine frE_of (f := eI) (l := l_32) rfl ?_
 conv=>whnf
 cases h
 rfl
theorem P91 (f_1 : TField) (most_2 : Int) (r_3 : Int) (r_4 : Int) (h : M91 f_1 most_2 = some (r_3, r_4)) :
    PC prog 17 [(eTField f_1), (.i .i64 most_2)] (fun rs => rs = [(.i .i64 r_3), (.i .i64 r_4)]) := by
 refine PC.of_tr (cx := ⟨56, none, lay, 0⟩) layOK func17 rfl rfl rfl rfl rfl (by simp [f17]) ?_
 unfold M91 at h
 refine sg ?_
 conv=>whnf
 refine Tr.seq ?_
 refine Tr.block ?_
 refine sg ?_
 conv=>whnf
 obtain ⟨r_5, hc6, h⟩ := bS h
 refine PC.ecall (P46 f_1 r_5 hc6) (fun rs hrs => ?_)
 subst hrs
 conv=>whnf
 refine Tr.cond ?_
 conv=>whnf
 refine cB h (fun hb7 h => ?_) (fun hb7 h => ?_)
 ·refine sg ?_
  conv=>whnf
  refine Tr.ret ?_
  conv=>whnf
  cases h
  rfl
 refine sg ?_
 conv=>whnf
 refine cB h (fun hb8 h => ?_) (fun hb8 h => ?_)
 ·conv=>whnf
  refine Tr.cond ?_
  conv=>whnf
  refine sg ?_
  conv=>whnf
  refine Tr.ret ?_
  conv=>whnf
  cases h
  rfl
 conv=>whnf
 refine Tr.cond ?_
 conv=>whnf
 refine cB h (fun hb9 h => ?_) (fun hb9 h => ?_)
 ·refine sg ?_
  conv=>whnf
  refine Tr.ret ?_
  conv=>whnf
  cases h
  rfl
 refine Tr.skip ?_
 conv=>whnf
 refine Tr.seq ?_
 refine sg ?_
 conv=>whnf
 refine lnS_map ?_
 conv=>whnf
 refine arS_raw ?_
 conv=>whnf
 obtain ⟨n_15, hv31, h⟩ := bS h
 refine Tr.cutQ1 ([(4, (dI n_15)), (5, (dI 0))]) ([]) ?_ (fun T1 H1 hw => ?_)
 ·replace h := hv31; clear hv31
  refine Tr.block ?_
  refine Tr.loopM (σ := Int × Int) (fun n s => M90 f_1 most_2 n s.1 s.2) n_15 (fun s => ([(1, (dI most_2)), (2, .pt 0 0), (4, (dI s.1)), (5, (dI 0)), (23, (dI (w64 ((((f_1.Pairs).length : Int)) + 1)))), (24, (dI s.2))], [some (.var [.d (.ls (List.map eTSegment f_1.Clocks.Segments)), .d (.ls (List.map (eL eI) f_1.Clocks.Far)), .d (.ls (List.map eTPair f_1.Pairs)), .d (.ls (List.map eTRunner f_1.Runners))])])) (((w64 ((((f_1.Pairs).length : Int)) + 1)) - 0 : Int).toNat + 1) (0, 0) h (fun s => rfl) (Wk.mk2 [0] 1 rfl rfl (by decide) rfl ⟨rr, trivial⟩ ⟨rr, rr, rr, rr, rr, rr, trivial⟩) ?_
  clear h
  rintro n_14 ⟨n_12, v_13⟩ h
  replace h : M90 f_1 most_2 (n_14 + 1) n_12 v_13 = some n_15 := h
  rw [M90] at h
  refine sg ?_
  conv=>whnf
  refine Tr.seq ?_
  refine Tr.cond ?_
  conv=>whnf
  refine cB h (fun hb18 h => ?_) (fun hb18 h => ?_)
  ·refine Tr.skip ?_
   conv=>whnf
   refine Tr.seq ?_
   refine Tr.block ?_
   refine sg ?_
   conv=>whnf
   refine sg ?_
   conv=>whnf
   refine Tr.seq ?_
   refine sg ?_
   conv=>whnf
   refine lnS_map ?_
   conv=>whnf
   obtain ⟨many_24, hv30, h⟩ := bS h
   refine Tr.cutQ1 ([(1, (dI most_2)), (2, .pt 0 0), (4, (dI n_12)), (5, (dI 0)), (7, (dI many_24)), (23, (dI (w64 ((((f_1.Pairs).length : Int)) + 1)))), (24, (dI v_13))]) ([some (.var [.d (.ls (List.map eTSegment f_1.Clocks.Segments)), .d (.ls (List.map (eL eI) f_1.Clocks.Far)), .d (.ls (List.map eTPair f_1.Pairs)), .d (.ls (List.map eTRunner f_1.Runners))])]) ?_ (fun T1 H1 hw => ?_)
   ·replace h := hv30; clear hv30
    refine Tr.block ?_
    refine Tr.loopM (σ := Int × Int) (fun n s => M89 f_1 most_2 v_13 n s.1 s.2) many_24 (fun s => ([(1, (dI most_2)), (2, .pt 0 0), (4, (dI n_12)), (5, (dI 0)), (6, (dI v_13)), (7, (dI s.1)), (23, (dI (w64 ((((f_1.Pairs).length : Int)) + 1)))), (24, (dI v_13)), (29, (dI (((f_1.Runners).length : Int)))), (30, (dI s.2))], [some (.var [.d (.ls (List.map eTSegment f_1.Clocks.Segments)), .d (.ls (List.map (eL eI) f_1.Clocks.Far)), .d (.ls (List.map eTPair f_1.Pairs)), .d (.ls (List.map eTRunner f_1.Runners))])])) (((((f_1.Runners).length : Int)) - 0 : Int).toNat + 1) (1, 0) h (fun s => rfl) (Wk.mk2 [0] 1 rfl rfl (by decide) rfl ⟨rr, trivial⟩ ⟨rr, rr, rr, rr, rr, rr, rr, rr, rr, rr, trivial⟩) ?_
    clear h
    rintro n_23 ⟨many_21, v_22⟩ h
    replace h : M89 f_1 most_2 v_13 (n_23 + 1) many_21 v_22 = some many_24 := h
    rw [M89] at h
    refine sg ?_
    conv=>whnf
    refine Tr.seq ?_
    refine Tr.cond ?_
    conv=>whnf
    refine cB h (fun hb27 h => ?_) (fun hb27 h => ?_)
    ·refine Tr.skip ?_
     conv=>whnf
     refine Tr.seq ?_
     refine Tr.block ?_
     refine sg ?_
     conv=>whnf
     refine rg ?_
     conv=>whnf
     obtain ⟨x_28, hx_28, h⟩ := bS h
     refine ixP_of hx_28 ?_
     conv=>whnf
     obtain ⟨x_29, hx_29, h⟩ := bS h
     refine ixP_of hx_29 ?_
     conv=>whnf
     refine lnS_map ?_
     conv=>whnf
     refine arS_raw ?_
     conv=>whnf
     refine arS_raw ?_
     conv=>whnf
     refine rg ?_
     conv=>whnf
     refine arS_raw ?_
     conv=>whnf
     refine ⟨((minG (w64 (many_21 * (((x_29).length : Int)))) (w64 (most_2 + 1))), (w64 (v_22 + 1))), h, ?_⟩
     exact Wk.mk2 [0] 1 rfl rfl (by decide) rfl ⟨rr, trivial⟩ ⟨rr, rr, rr, rr, rr, rr, rr, rr, rr, rr, trivial⟩
    refine Tr.exit ?_
    conv=>whnf
    cases h
    exact Wk.mk2 [0] 1 rfl rfl (by decide) rfl ⟨rr, trivial⟩ ⟨rr, rr, rr, rr, rr, rr, rr, trivial⟩
   clear hv30
   conv=>whnf
   refine Tr.weak hw ?_
   refine rg ?_
   conv=>whnf
   refine arS_raw ?_
   conv=>whnf
   refine rg ?_
   conv=>whnf
   refine arS_raw ?_
   conv=>whnf
   refine ⟨((minG (w64 (n_12 + many_24)) most_2), (w64 (v_13 + 1))), h, ?_⟩
   exact Wk.mk2 [0] 1 rfl rfl (by decide) rfl ⟨rr, trivial⟩ ⟨rr, rr, rr, rr, rr, rr, trivial⟩
  refine Tr.exit ?_
  conv=>whnf
  cases h
  exact Wk.mk2 [] 1 rfl rfl (by decide) rfl trivial ⟨rr, rr, trivial⟩
 clear hv31
 conv=>whnf
 refine Tr.weak hw ?_
 refine sg ?_
 conv=>whnf
 refine Tr.ret ?_
 conv=>whnf
 cases h
 rfl
theorem P92 (f_1 : TField) (h_2 : THistory) (r_3 : Int) (h : M92 f_1 h_2 = some r_3) :
    PC prog 13 [(eTField f_1), (eTHistory h_2)] (fun rs => rs = [(.i .i64 r_3)]) := by
 refine PC.of_tr (cx := ⟨12, none, lay, 0⟩) layOK func13 rfl rfl rfl rfl rfl (by simp [f13]) ?_
 unfold M92 at h
 refine sg ?_
 conv=>whnf
 refine sg ?_
 conv=>whnf
 obtain ⟨⟨r_4, r_5⟩, hc6, h⟩ := bS h
 refine PC.ecall (P67 f_1 h_2 r_4 r_5 hc6) (fun rs hrs => ?_)
 subst hrs
 conv=>whnf
 refine sg ?_
 conv=>whnf
 refine Tr.ret ?_
 conv=>whnf
 cases h
 rfl
theorem P93 (r_1 : Bool) (h : M93 = some r_1) :
    PC prog 11 [] (fun rs => rs = [(.b r_1)]) := by
 refine PC.of_tr (cx := ⟨127, none, lay, 0⟩) layOK func11 rfl rfl rfl rfl rfl (by simp [f11]) ?_
 unfold M93 at h
 refine sg ?_
 conv=>whnf
 refine sg ?_
 conv=>whnf
 obtain ⟨r_2, hc3, h⟩ := bS h
 refine PC.ecall (P1 r_2 hc3) (fun rs hrs => ?_)
 subst hrs
 conv=>whnf
 refine sg ?_
 conv=>whnf
 refine orB_r ?_
 conv=>whnf
 refine orB_l ?_
 conv=>whnf
 refine sg ?_
 conv=>whnf
 obtain ⟨n_4, hn_4, h⟩ := bS h
 refine msS_of hn_4 rfl ?_
 conv=>whnf
 refine rS (es' := List.map .d (List.map eTChoice (List.replicate n_4 ({ Outcome := 0, X := 0 } : TChoice)))) (n' := List.length ((List.replicate n_4 ({ Outcome := 0, X := 0 } : TChoice)) : List TChoice)) (by simp only [List.map_replicate]; first | done | rfl) (by simp) ?_
 conv=>whnf
 refine orB_l ?_
 conv=>whnf
 refine sg ?_
 conv=>whnf
 obtain ⟨⟨r_5, r_6⟩, hc7, h⟩ := bS h
 refine PC.ecall_lend ?_ ⟨_, _, func25, rfl, rfl⟩
 conv=>whnf
 refine ⟨_, P77 r_2 (({ World := 0, Offsets := (([] : List Int)), Choices := (([({ Outcome := 1, X := 12 } : TChoice), ({ Outcome := 1, X := 12 } : TChoice)] : List TChoice)) } : THistory)) 0 r_5 r_6 hc7, fun rs hrs => ?_⟩
 subst hrs
 refine ⟨rfl, ?_⟩
 conv=>whnf
 refine sg ?_
 conv=>whnf
 obtain ⟨⟨r_8, r_9⟩, hc10, h⟩ := bS h
 refine PC.ecall_lend ?_ ⟨_, _, func25, rfl, rfl⟩
 conv=>whnf
 refine ⟨_, P77 r_2 (({ World := 0, Offsets := (([] : List Int)), Choices := (([({ Outcome := 1, X := 12 } : TChoice), ({ Outcome := 1, X := 12 } : TChoice)] : List TChoice)) } : THistory)) 1 r_8 r_9 hc10, fun rs hrs => ?_⟩
 subst hrs
 refine ⟨rfl, ?_⟩
 conv=>whnf
 refine sg ?_
 conv=>whnf
 obtain ⟨⟨r_11, r_12⟩, hc13, h⟩ := bS h
 refine PC.ecall_frz ?_ ⟨_, _, func15, rfl, rfl⟩
 conv=>whnf
 refine frE_of (f := eTChoice) (l := (List.replicate n_4 ({ Outcome := 0, X := 0 } : TChoice))) rfl ?_
 conv=>whnf
 refine ⟨_, P88 r_2 (({ World := 0, Offsets := (([] : List Int)), Choices := (List.replicate n_4 ({ Outcome := 0, X := 0 } : TChoice)) } : THistory)) r_11 r_12 hc13, fun rs hrs => ?_⟩
 subst hrs
 conv=>whnf
 refine sg ?_
 conv=>whnf
 obtain ⟨⟨r_14, r_15⟩, hc16, h⟩ := bS h
 refine PC.ecall (P91 r_2 100 r_14 r_15 hc16) (fun rs hrs => ?_)
 subst hrs
 conv=>whnf
 refine sg ?_
 conv=>whnf
 obtain ⟨⟨r_17, r_18⟩, hc19, h⟩ := bS h
 refine PC.ecall (P91 r_2 0 r_17 r_18 hc19) (fun rs hrs => ?_)
 subst hrs
 conv=>whnf
 refine sg ?_
 conv=>whnf
 obtain ⟨⟨r_20, r_21⟩, hc22, h⟩ := bS h
 refine PC.ecall (P91 r_2 (-1) r_20 r_21 hc22) (fun rs hrs => ?_)
 subst hrs
 conv=>whnf
 refine sg ?_
 conv=>whnf
 obtain ⟨⟨r_23, r_24⟩, hc25, h⟩ := bS h
 refine PC.ecall_lend ?_ ⟨_, _, func25, rfl, rfl⟩
 conv=>whnf
 refine ⟨_, P77 r_2 (({ World := 0, Offsets := (([] : List Int)), Choices := (([({ Outcome := 1, X := 12 } : TChoice), ({ Outcome := 1, X := 12 } : TChoice)] : List TChoice)) } : THistory)) (-1) r_23 r_24 hc25, fun rs hrs => ?_⟩
 subst hrs
 refine ⟨rfl, ?_⟩
 conv=>whnf
 refine Tr.seq ?_
 refine Tr.seq ?_
 refine Tr.cutQ1 ([(0, .d (.b false)), (1, .pt 0 0), (2, .pt 1 0), (4, (dI r_5)), (6, (dI r_8)), (8, .d (.ls (List.map eI r_11))), (10, (dI r_14)), (12, (dI r_17)), (89, .d (.b ((r_6 != 0) || ((r_9 != 0) || ((r_12 != 0) || ((r_15 != 0) || ((r_18 != 0) || ((r_21 != 1) || (r_24 != 250)))))))))]) ([some (.var [.d (.ls (List.map eTSegment r_2.Clocks.Segments)), .d (.ls (List.map (eL eI) r_2.Clocks.Far)), .d (.ls (List.map eTPair r_2.Pairs)), .d (.ls (List.map eTRunner r_2.Runners))]), some (.var [(dI 0), .nsl, .d (.ls (List.map eTChoice (([({ Outcome := 1, X := 12 } : TChoice), ({ Outcome := 1, X := 12 } : TChoice)] : List TChoice))))])]) ?_ (fun T1 H1 hw => ?_)
 ·refine rg ?_
  conv=>whnf
  refine condS_mk (fun hb27 => ?_) (fun hb27 => ?_)
  ·conv=>whnf
   exact Wk.mk2 [0, 1] 4 rfl rfl (by decide) rfl ⟨rr, rr, trivial⟩ ⟨rr, rr, rr, rr, rr, rr, rr, rr, ⟨rfl, (by first | rfl | (simp only [↓hb27, bl]; done) | (simp only [↓hb27, bl]; rfl))⟩, trivial⟩
  conv=>whnf
  refine condS_mk (fun hb28 => ?_) (fun hb28 => ?_)
  ·conv=>whnf
   exact Wk.mk2 [0, 1] 4 rfl rfl (by decide) rfl ⟨rr, rr, trivial⟩ ⟨rr, rr, rr, rr, rr, rr, rr, rr, ⟨rfl, (by first | rfl | (simp only [↓hb27, ↓hb28, bl]; done) | (simp only [↓hb27, ↓hb28, bl]; rfl))⟩, trivial⟩
  conv=>whnf
  refine condS_mk (fun hb29 => ?_) (fun hb29 => ?_)
  ·conv=>whnf
   exact Wk.mk2 [0, 1] 4 rfl rfl (by decide) rfl ⟨rr, rr, trivial⟩ ⟨rr, rr, rr, rr, rr, rr, rr, rr, ⟨rfl, (by first | rfl | (simp only [↓hb27, ↓hb28, ↓hb29, bl]; done) | (simp only [↓hb27, ↓hb28, ↓hb29, bl]; rfl))⟩, trivial⟩
  conv=>whnf
  refine condS_mk (fun hb30 => ?_) (fun hb30 => ?_)
  ·conv=>whnf
   exact Wk.mk2 [0, 1] 4 rfl rfl (by decide) rfl ⟨rr, rr, trivial⟩ ⟨rr, rr, rr, rr, rr, rr, rr, rr, ⟨rfl, (by first | rfl | (simp only [↓hb27, ↓hb28, ↓hb29, ↓hb30, bl]; done) | (simp only [↓hb27, ↓hb28, ↓hb29, ↓hb30, bl]; rfl))⟩, trivial⟩
  conv=>whnf
  refine condS_mk (fun hb31 => ?_) (fun hb31 => ?_)
  ·conv=>whnf
   exact Wk.mk2 [0, 1] 4 rfl rfl (by decide) rfl ⟨rr, rr, trivial⟩ ⟨rr, rr, rr, rr, rr, rr, rr, rr, ⟨rfl, (by first | rfl | (simp only [↓hb27, ↓hb28, ↓hb29, ↓hb30, ↓hb31, bl]; done) | (simp only [↓hb27, ↓hb28, ↓hb29, ↓hb30, ↓hb31, bl]; rfl))⟩, trivial⟩
  conv=>whnf
  refine condS_mk (fun hb32 => ?_) (fun hb32 => ?_)
  ·conv=>whnf
   exact Wk.mk2 [0, 1] 4 rfl rfl (by decide) rfl ⟨rr, rr, trivial⟩ ⟨rr, rr, rr, rr, rr, rr, rr, rr, ⟨rfl, (by first | rfl | (simp only [↓hb27, ↓hb28, ↓hb29, ↓hb30, ↓hb31, ↓hb32, bl]; done) | (simp only [↓hb27, ↓hb28, ↓hb29, ↓hb30, ↓hb31, ↓hb32, bl]; rfl))⟩, trivial⟩
  conv=>whnf
  exact Wk.mk2 [0, 1] 4 rfl rfl (by decide) rfl ⟨rr, rr, trivial⟩ ⟨rr, rr, rr, rr, rr, rr, rr, rr, ⟨rfl, (by first | rfl | (simp only [↓hb27, ↓hb28, ↓hb29, ↓hb30, ↓hb31, ↓hb32, bl]; done) | (simp only [↓hb27, ↓hb28, ↓hb29, ↓hb30, ↓hb31, ↓hb32, bl]; rfl))⟩, trivial⟩
 conv=>whnf
 refine Tr.weak hw ?_
 refine Tr.cond ?_
 conv=>whnf
 refine cB h (fun hb33 h => ?_) (fun hb33 h => ?_)
 ·refine sg ?_
  conv=>whnf
  refine Tr.ret ?_
  conv=>whnf
  cases h
  rfl
 refine Tr.skip ?_
 conv=>whnf
 refine Tr.seq ?_
 obtain ⟨v_34, hv35, h⟩ := bS h
 refine Tr.cutQ1 ([(0, .d (.b v_34))]) ([]) ?_ (fun T1 H1 hw => ?_)
 ·replace h := hv35; clear hv35
  refine rg ?_
  conv=>whnf
  refine cB h (fun hb36 h => ?_) (fun hb36 h => ?_)
  ·conv=>whnf
   refine cB h (fun hb37 h => ?_) (fun hb37 h => ?_)
   ·conv=>whnf
    refine lnS_map ?_
    conv=>whnf
    refine cB h (fun hb38 h => ?_) (fun hb38 h => ?_)
    ·conv=>whnf
     refine cB h (fun hb39 h => ?_) (fun hb39 h => ?_)
     ·conv=>whnf
      refine cB h (fun hb40 h => ?_) (fun hb40 h => ?_)
      ·conv=>whnf
       obtain ⟨r_41, hc42, h⟩ := bS h
       refine PC.ecall_lend ?_ ⟨_, _, func13, rfl, rfl⟩
       conv=>whnf
       refine ⟨_, P92 r_2 (({ World := 0, Offsets := (([] : List Int)), Choices := (([({ Outcome := 1, X := 12 } : TChoice), ({ Outcome := 1, X := 12 } : TChoice)] : List TChoice)) } : THistory)) r_41 hc42, fun rs hrs => ?_⟩
       subst hrs
       refine ⟨rfl, ?_⟩
       conv=>whnf
       refine cB h (fun hb43 h => ?_) (fun hb43 h => ?_)
       ·conv=>whnf
        obtain ⟨r_44, hc45, h⟩ := bS h
        refine PC.ecall_lend ?_ ⟨_, _, func13, rfl, rfl⟩
        conv=>whnf
        refine ⟨_, P92 r_2 (({ World := 0, Offsets := (([] : List Int)), Choices := (([] : List TChoice)) } : THistory)) r_44 hc45, fun rs hrs => ?_⟩
        subst hrs
        refine ⟨rfl, ?_⟩
        conv=>whnf
        refine cB h (fun hb46 h => ?_) (fun hb46 h => ?_)
        ·conv=>whnf
         obtain ⟨r_47, hc48, h⟩ := bS h
         refine PC.ecall_lend ?_ ⟨_, _, func13, rfl, rfl⟩
         conv=>whnf
         refine ⟨_, P92 (({ Clocks := ({ Segments := (([] : List TSegment)), Far := (([] : List (List Int))) } : TClocks), Pairs := (([] : List TPair)), Runners := (([] : List TRunner)) } : TField)) (({ World := 0, Offsets := (([] : List Int)), Choices := (([] : List TChoice)) } : THistory)) r_47 hc48, fun rs hrs => ?_⟩
         subst hrs
         refine ⟨rfl, ?_⟩
         conv=>whnf
         cases h
         exact Wk.mk2 [] 2 rfl rfl (by decide) rfl trivial ⟨rr, trivial⟩
        conv=>whnf
        cases h
        exact Wk.mk2 [] 2 rfl rfl (by decide) rfl trivial ⟨rr, trivial⟩
       conv=>whnf
       cases h
       exact Wk.mk2 [] 2 rfl rfl (by decide) rfl trivial ⟨rr, trivial⟩
      conv=>whnf
      cases h
      exact Wk.mk2 [] 2 rfl rfl (by decide) rfl trivial ⟨rr, trivial⟩
     conv=>whnf
     cases h
     exact Wk.mk2 [] 2 rfl rfl (by decide) rfl trivial ⟨rr, trivial⟩
    conv=>whnf
    cases h
    exact Wk.mk2 [] 2 rfl rfl (by decide) rfl trivial ⟨rr, trivial⟩
   conv=>whnf
   cases h
   exact Wk.mk2 [] 2 rfl rfl (by decide) rfl trivial ⟨rr, trivial⟩
  conv=>whnf
  cases h
  exact Wk.mk2 [] 2 rfl rfl (by decide) rfl trivial ⟨rr, trivial⟩
 clear hv35
 conv=>whnf
 refine Tr.weak hw ?_
 refine Tr.ret ?_
 conv=>whnf
 cases h
 rfl
theorem P96 (k_1 : TClocks) (r_2 : Bool) (h : M96 k_1 = some r_2) :
    PC prog 43 [(eTClocks k_1)] (fun rs => rs = [(.b r_2)]) := by
 refine PC.of_tr (cx := ⟨28, none, lay, 0⟩) layOK func43 rfl rfl rfl rfl rfl (by simp [f43]) ?_
 unfold M96 at h
 refine sg ?_
 conv=>whnf
 refine Tr.seq ?_
 refine sg ?_
 conv=>whnf
 refine lnS_map ?_
 conv=>whnf
 refine cB h (fun hb3 h => ?_) (fun hb3 h => ?_)
 ·conv=>whnf
  refine Tr.cond ?_
  conv=>whnf
  refine sg ?_
  conv=>whnf
  refine Tr.ret ?_
  conv=>whnf
  cases h
  rfl
 conv=>whnf
 refine lnS_map ?_
 conv=>whnf
 refine Tr.cond ?_
 conv=>whnf
 refine cB h (fun hb4 h => ?_) (fun hb4 h => ?_)
 ·refine sg ?_
  conv=>whnf
  refine Tr.ret ?_
  conv=>whnf
  cases h
  rfl
 refine Tr.skip ?_
 conv=>whnf
 refine Tr.seq ?_
 refine sg ?_
 conv=>whnf
 refine Tr.cutQ (α := Unit) (fun s => ([(2, .d (.b false))], [])) (fun s => M95 s = some r_2) ?_ ?_
 ·refine Tr.block ?_
  refine Tr.loopM (σ := Int) (fun n s => M94 k_1 M95 n s) r_2 (fun s => ([(1, .pt 0 0), (2, .d (.b false)), (3, (dI s))], [some (.var [.d (.ls (List.map eTSegment k_1.Segments)), .d (.ls (List.map (eL eI) k_1.Far))])])) (((((k_1.Far).length : Int)) - 0 : Int).toNat + 1) (0) h (fun s => rfl) (Wk.mk2 [0] 1 rfl rfl (by decide) rfl ⟨rr, trivial⟩ ⟨rr, rr, rr, trivial⟩) ?_
  clear h
  rintro n_7 i_6 h
  replace h : M94 k_1 M95 (n_7 + 1) i_6 = some r_2 := h
  rw [M94] at h
  refine Tr.seq ?_
  refine sg ?_
  conv=>whnf
  refine lnS_map ?_
  conv=>whnf
  refine Tr.cond ?_
  conv=>whnf
  refine cB h (fun hb10 h => ?_) (fun hb10 h => ?_)
  ·refine Tr.skip ?_
   conv=>whnf
   refine Tr.seq ?_
   refine Tr.block ?_
   refine sg ?_
   conv=>whnf
   obtain ⟨x_11, hx_11, h⟩ := bS h
   refine ixP_of hx_11 ?_
   conv=>whnf
   refine lnS_map ?_
   conv=>whnf
   refine Tr.cond ?_
   conv=>whnf
   refine cB h (fun hb12 h => ?_) (fun hb12 h => ?_)
   ·refine sg ?_
    conv=>whnf
    refine Tr.ret ?_
    conv=>whnf
    cases h
    rfl
   refine Tr.skip ?_
   conv=>whnf
   refine rg ?_
   conv=>whnf
   refine arS_raw ?_
   conv=>whnf
   refine ⟨((w64 (i_6 + 1))), h, ?_⟩
   exact Wk.mk2 [0] 1 rfl rfl (by decide) rfl ⟨rr, trivial⟩ ⟨rr, rr, rr, trivial⟩
  refine Tr.exit ?_
  conv=>whnf
  refine ⟨(), h, ?_⟩
  exact Wk.mk2 [] 1 rfl rfl (by decide) rfl trivial ⟨rr, trivial⟩
 clear h
 rintro _ h T1 H1 hw
 replace h : M95 () = some r_2 := h
 conv=>whnf
 refine Tr.weak hw ?_
 unfold M95 at h
 refine sg ?_
 conv=>whnf
 refine Tr.ret ?_
 conv=>whnf
 cases h
 rfl
theorem P100 (f_1 : TField) (r_2 : Bool) (h : M100 f_1 = some r_2) :
    PC prog 22 [(eTField f_1)] (fun rs => rs = [(.b r_2)]) := by
 refine PC.of_tr (cx := ⟨62, none, lay, 0⟩) layOK func22 rfl rfl rfl rfl rfl (by simp [f22]) ?_
 unfold M100 at h
 refine sg ?_
 conv=>whnf
 refine sg ?_
 conv=>whnf
 refine Tr.seq ?_
 refine sg ?_
 conv=>whnf
 refine lnS_map ?_
 conv=>whnf
 refine cB h (fun hb3 h => ?_) (fun hb3 h => ?_)
 ·conv=>whnf
  refine Tr.cond ?_
  conv=>whnf
  refine sg ?_
  conv=>whnf
  refine Tr.ret ?_
  conv=>whnf
  cases h
  rfl
 conv=>whnf
 refine lnS_map ?_
 conv=>whnf
 refine cB h (fun hb4 h => ?_) (fun hb4 h => ?_)
 ·conv=>whnf
  refine Tr.cond ?_
  conv=>whnf
  refine sg ?_
  conv=>whnf
  refine Tr.ret ?_
  conv=>whnf
  cases h
  rfl
 conv=>whnf
 obtain ⟨r_5, hc6, h⟩ := bS h
 refine PC.ecall (P96 f_1.Clocks r_5 hc6) (fun rs hrs => ?_)
 subst hrs
 conv=>whnf
 refine Tr.cond ?_
 conv=>whnf
 refine cB h (fun hb7 h => ?_) (fun hb7 h => ?_)
 ·refine sg ?_
  conv=>whnf
  refine Tr.ret ?_
  conv=>whnf
  cases h
  rfl
 refine Tr.skip ?_
 conv=>whnf
 refine Tr.seq ?_
 refine sg ?_
 conv=>whnf
 refine Tr.cutQ (α := Int) (fun s => ([(2, .d (.b false)), (3, (dI s))], [])) (fun s => M99 s = some r_2) ?_ ?_
 ·refine Tr.block ?_
  refine Tr.loopM (σ := Int × Int) (fun n s => M98 f_1 M99 n s.1 s.2) r_2 (fun s => ([(1, .pt 0 0), (2, .d (.b false)), (3, (dI s.1)), (4, (dI s.2))], [some (.var [.d (.ls (List.map eTSegment f_1.Clocks.Segments)), .d (.ls (List.map (eL eI) f_1.Clocks.Far)), .d (.ls (List.map eTPair f_1.Pairs)), .d (.ls (List.map eTRunner f_1.Runners))])])) (((((f_1.Runners).length : Int)) - 0 : Int).toNat + 1) (0, 0) h (fun s => rfl) (Wk.mk2 [0] 1 rfl rfl (by decide) rfl ⟨rr, trivial⟩ ⟨rr, rr, rr, rr, trivial⟩) ?_
  clear h
  rintro n_12 ⟨n_10, i_11⟩ h
  replace h : M98 f_1 M99 (n_12 + 1) n_10 i_11 = some r_2 := h
  rw [M98] at h
  refine Tr.seq ?_
  refine sg ?_
  conv=>whnf
  refine lnS_map ?_
  conv=>whnf
  refine Tr.cond ?_
  conv=>whnf
  refine cB h (fun hb16 h => ?_) (fun hb16 h => ?_)
  ·refine Tr.skip ?_
   conv=>whnf
   refine Tr.seq ?_
   refine Tr.block ?_
   refine sg ?_
   conv=>whnf
   obtain ⟨x_17, hx_17, h⟩ := bS h
   refine ixP_of hx_17 ?_
   conv=>whnf
   refine Tr.seq ?_
   refine sg ?_
   conv=>whnf
   refine lnS_map ?_
   conv=>whnf
   refine cB h (fun hb18 h => ?_) (fun hb18 h => ?_)
   ·conv=>whnf
    refine Tr.cond ?_
    conv=>whnf
    refine sg ?_
    conv=>whnf
    refine Tr.ret ?_
    conv=>whnf
    cases h
    rfl
   conv=>whnf
   refine lnS_map ?_
   conv=>whnf
   refine Tr.cond ?_
   conv=>whnf
   refine cB h (fun hb19 h => ?_) (fun hb19 h => ?_)
   ·refine sg ?_
    conv=>whnf
    refine Tr.ret ?_
    conv=>whnf
    cases h
    rfl
   refine Tr.skip ?_
   conv=>whnf
   refine sg ?_
   conv=>whnf
   obtain ⟨n_25, hv30, h⟩ := bS h
   refine Tr.cutQ1 ([(1, .pt 0 0), (2, .d (.b false)), (3, (dI n_25)), (4, (dI i_11))]) ([some (.var [.d (.ls (List.map eTSegment f_1.Clocks.Segments)), .d (.ls (List.map (eL eI) f_1.Clocks.Far)), .d (.ls (List.map eTPair f_1.Pairs)), .d (.ls (List.map eTRunner f_1.Runners))])]) ?_ (fun T1 H1 hw => ?_)
   ·replace h := hv30; clear hv30
    refine Tr.block ?_
    refine Tr.loopM (σ := Int × Int) (fun n s => M97 x_17 n s.1 s.2) n_25 (fun s => ([(1, .pt 0 0), (2, .d (.b false)), (3, (dI s.1)), (4, (dI i_11)), (5, .pt 1 0), (6, (dI s.2))], [some (.var [.d (.ls (List.map eTSegment f_1.Clocks.Segments)), .d (.ls (List.map (eL eI) f_1.Clocks.Far)), .d (.ls (List.map eTPair f_1.Pairs)), .d (.ls (List.map eTRunner f_1.Runners))]), some (.var [(dI x_17.Bib), .d (.ls (List.map eI x_17.Keys)), .d (.ls (List.map (eL eTOutcome) x_17.Worlds))])])) (((((x_17.Worlds).length : Int)) - 0 : Int).toNat + 1) (n_10, 0) h (fun s => rfl) (Wk.mk2 [0, 1] 2 rfl rfl (by decide) rfl ⟨rr, rr, trivial⟩ ⟨rr, rr, rr, rr, rr, rr, trivial⟩) ?_
    clear h
    rintro n_24 ⟨n_22, w_23⟩ h
    replace h : M97 x_17 (n_24 + 1) n_22 w_23 = some n_25 := h
    rw [M97] at h
    refine Tr.seq ?_
    refine sg ?_
    conv=>whnf
    refine lnS_map ?_
    conv=>whnf
    refine Tr.cond ?_
    conv=>whnf
    refine cB h (fun hb28 h => ?_) (fun hb28 h => ?_)
    ·refine Tr.skip ?_
     conv=>whnf
     refine Tr.seq ?_
     refine Tr.block ?_
     refine rg ?_
     conv=>whnf
     obtain ⟨x_29, hx_29, h⟩ := bS h
     refine ixP_of hx_29 ?_
     conv=>whnf
     refine lnS_map ?_
     conv=>whnf
     refine arS_raw ?_
     conv=>whnf
     refine rg ?_
     conv=>whnf
     refine arS_raw ?_
     conv=>whnf
     refine ⟨((w64 (n_22 + (((x_29).length : Int)))), (w64 (w_23 + 1))), h, ?_⟩
     exact Wk.mk2 [0, 1] 2 rfl rfl (by decide) rfl ⟨rr, rr, trivial⟩ ⟨rr, rr, rr, rr, rr, rr, trivial⟩
    refine Tr.exit ?_
    conv=>whnf
    cases h
    exact Wk.mk2 [0] 2 rfl rfl (by decide) rfl ⟨rr, trivial⟩ ⟨rr, rr, rr, rr, trivial⟩
   clear hv30
   conv=>whnf
   refine Tr.weak hw ?_
   refine rg ?_
   conv=>whnf
   refine arS_raw ?_
   conv=>whnf
   refine ⟨(n_25, (w64 (i_11 + 1))), h, ?_⟩
   exact Wk.mk2 [0] 1 rfl rfl (by decide) rfl ⟨rr, trivial⟩ ⟨rr, rr, rr, rr, trivial⟩
  refine Tr.exit ?_
  conv=>whnf
  refine ⟨(n_10), h, ?_⟩
  exact Wk.mk2 [] 1 rfl rfl (by decide) rfl trivial ⟨rr, rr, trivial⟩
 clear h
 rintro n_13 h T1 H1 hw
 replace h : M99 n_13 = some r_2 := h
 conv=>whnf
 refine Tr.weak hw ?_
 unfold M99 at h
 refine sg ?_
 conv=>whnf
 refine Tr.ret ?_
 conv=>whnf
 cases h
 rfl
theorem P101 (h_1 : THistory) (r_2 : Bool) (h : M101 h_1 = some r_2) :
    PC prog 31 [(eTHistory h_1)] (fun rs => rs = [(.b r_2)]) := by
 refine PC.of_tr (cx := ⟨13, none, lay, 0⟩) layOK func31 rfl rfl rfl rfl rfl (by simp [f31]) ?_
 unfold M101 at h
 refine sg ?_
 conv=>whnf
 refine sg ?_
 conv=>whnf
 refine lnS_map ?_
 conv=>whnf
 refine cB h (fun hb3 h => ?_) (fun hb3 h => ?_)
 ·conv=>whnf
  refine lnS_map ?_
  conv=>whnf
  refine Tr.ret ?_
  conv=>whnf
  cases h
  rfl
 conv=>whnf
 refine Tr.ret ?_
 conv=>whnf
 cases h
 rfl
theorem P102 (f_1 : TField) (h_2 : THistory) (r_3 : Bool) (h : M102 f_1 h_2 = some r_3) :
    PC prog 12 [(eTField f_1), (eTHistory h_2)] (fun rs => rs = [(.b r_3)]) := by
 refine PC.of_tr (cx := ⟨11, none, lay, 0⟩) layOK func12 rfl rfl rfl rfl rfl (by simp [f12]) ?_
 unfold M102 at h
 refine sg ?_
 conv=>whnf
 refine sg ?_
 conv=>whnf
 obtain ⟨r_4, hc5, h⟩ := bS h
 refine PC.ecall (P100 f_1 r_4 hc5) (fun rs hrs => ?_)
 subst hrs
 conv=>whnf
 refine cB h (fun hb6 h => ?_) (fun hb6 h => ?_)
 ·conv=>whnf
  obtain ⟨r_7, hc8, h⟩ := bS h
  refine PC.ecall (P101 h_2 r_7 hc8) (fun rs hrs => ?_)
  subst hrs
  conv=>whnf
  refine Tr.ret ?_
  conv=>whnf
  cases h
  rfl
 conv=>whnf
 refine Tr.ret ?_
 conv=>whnf
 cases h
 rfl
end Go.Proofs.Try
