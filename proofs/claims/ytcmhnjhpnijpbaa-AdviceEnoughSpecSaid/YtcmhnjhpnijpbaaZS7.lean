/- Contracts of functions, by program (gen.py). No condition. -/
import Derived.Test.YtcmhnjhpnijpbaaZL
import Derived.Test.YtcmhnjhpnijpbaaZM
import Derived.Test.YtcmhnjhpnijpbaaZCB
import Derived.Test.YtcmhnjhpnijpbaaZS6
namespace Go.Proofs.Try
open Go Go.Abs Go.Stop
set_option maxRecDepth 8000
set_option linter.unusedVariables false
set_option linter.unusedSimpArgs false
theorem P180 (x_1 : TOutcome) (l_2 : List TSpan) (r_3 : Bool) (h : M180 x_1 l_2 = some r_3) :
    PC prog 66 [(eTOutcome x_1), (.ls (List.map eTSpan l_2))] (fun rs => rs = [(.b r_3)]) := by
 refine PC.of_tr (cx := ⟨45, none, lay, 0⟩) layOK func66 rfl rfl rfl rfl rfl (by simp [f66]) ?_
 unfold M180 at h
 refine sg ?_
 conv=>whnf
 refine sg ?_
 conv=>whnf
 refine Tr.seq ?_
 refine sg ?_
 conv=>whnf
 refine Tr.cutQ (α := Unit) (fun s => ([(4, .d (.b false))], [])) (fun s => M179 s = some r_3) ?_ ?_
 ·refine Tr.block ?_
  refine Tr.loopM (σ := Int × Int) (fun n s => M178 x_1 l_2 M179 n s.1 s.2) r_3 (fun s => ([(1, .d (.ls (List.map eTSpan l_2))), (2, .pt 0 0), (4, .d (.b false)), (5, (dI s.1)), (6, (dI s.2))], [some (.var [.d (.b x_1.Out), (dI x_1.Seg), (dI x_1.Lo), (dI x_1.Hi)])])) (((((l_2).length : Int)) - 0 : Int).toNat + 1) (x_1.Lo, 0) h (fun s => rfl) (Wk.mk2 [0] 1 rfl rfl (by decide) rfl ⟨rr, trivial⟩ ⟨rr, rr, rr, rr, rr, trivial⟩) ?_
  clear h
  rintro n_8 ⟨at_6, i_7⟩ h
  replace h : M178 x_1 l_2 M179 (n_8 + 1) at_6 i_7 = some r_3 := h
  rw [M178] at h
  refine Tr.seq ?_
  refine sg ?_
  conv=>whnf
  refine lnS_map ?_
  conv=>whnf
  refine Tr.cond ?_
  conv=>whnf
  refine cB h (fun hb11 h => ?_) (fun hb11 h => ?_)
  ·refine Tr.skip ?_
   conv=>whnf
   refine Tr.seq ?_
   refine Tr.block ?_
   refine Tr.seq ?_
   obtain ⟨v_12, hv13, h⟩ := bS h
   refine Tr.cutQ1 ([(1, .d (.ls (List.map eTSpan l_2))), (2, .pt 0 0), (4, .d (.b false)), (5, (dI at_6)), (6, (dI i_7)), (30, .d (.b v_12))]) ([some (.var [.d (.b x_1.Out), (dI x_1.Seg), (dI x_1.Lo), (dI x_1.Hi)])]) ?_ (fun T1 H1 hw => ?_)
   ·replace h := hv13; clear hv13
    refine rg ?_
    conv=>whnf
    obtain ⟨x_14, hx_14, h⟩ := bS h
    refine ixP_of hx_14 ?_
    conv=>whnf
    refine cB h (fun hb15 h => ?_) (fun hb15 h => ?_)
    ·conv=>whnf
     obtain ⟨x_16, hx_16, h⟩ := bS h
     refine ixP_of hx_16 ?_
     conv=>whnf
     cases h
     exact Wk.mk2 [0] 1 rfl rfl (by decide) rfl ⟨rr, trivial⟩ ⟨rr, rr, rr, rr, rr, rr, trivial⟩
    conv=>whnf
    cases h
    exact Wk.mk2 [0] 1 rfl rfl (by decide) rfl ⟨rr, trivial⟩ ⟨rr, rr, rr, rr, rr, rr, trivial⟩
   clear hv13
   conv=>whnf
   refine Tr.weak hw ?_
   refine Tr.cond ?_
   conv=>whnf
   refine cB h (fun hb17 h => ?_) (fun hb17 h => ?_)
   ·refine Tr.seq ?_
    refine sd [] [(0,1),(1,1),(2,2),(3,2),(4,2),(5,3),(6,3),(7,1)] ?_
    conv=>whnf
    refine q1 ?_
    conv=>whnf
    refine q1 ?_
    conv=>whnf
    obtain ⟨x_18, hx_18, h⟩ := bS h
    refine q3 (ixP_of hx_18 rr) ?_
    conv=>whnf
    refine q2 ?_
    conv=>whnf
    refine q2 ?_
    conv=>whnf
    refine q2 ?_
    conv=>whnf
    refine q2 ?_
    conv=>whnf
    refine q1 ?_
    conv=>whnf
    refine Tr.cond ?_
    conv=>whnf
    refine cB h (fun hb19 h => ?_) (fun hb19 h => ?_)
    ·refine sg ?_
     conv=>whnf
     refine Tr.ret ?_
     conv=>whnf
     cases h
     rfl
    refine Tr.skip ?_
    conv=>whnf
    refine rg ?_
    conv=>whnf
    obtain ⟨x_20, hx_20, h⟩ := bS h
    refine ixP_of hx_20 ?_
    conv=>whnf
    refine arS_raw ?_
    conv=>whnf
    refine rg ?_
    conv=>whnf
    refine arS_raw ?_
    conv=>whnf
    refine ⟨((w64 (x_20.Hi + 1)), (w64 (i_7 + 1))), h, ?_⟩
    exact Wk.mk2 [0] 1 rfl rfl (by decide) rfl ⟨rr, trivial⟩ ⟨rr, rr, rr, rr, rr, trivial⟩
   refine Tr.skip ?_
   conv=>whnf
   refine rg ?_
   conv=>whnf
   refine arS_raw ?_
   conv=>whnf
   refine ⟨(at_6, (w64 (i_7 + 1))), h, ?_⟩
   exact Wk.mk2 [0] 1 rfl rfl (by decide) rfl ⟨rr, trivial⟩ ⟨rr, rr, rr, rr, rr, trivial⟩
  refine Tr.exit ?_
  conv=>whnf
  refine ⟨(), h, ?_⟩
  exact Wk.mk2 [] 1 rfl rfl (by decide) rfl trivial ⟨rr, trivial⟩
 clear h
 rintro _ h T1 H1 hw
 replace h : M179 () = some r_3 := h
 conv=>whnf
 refine Tr.weak hw ?_
 unfold M179 at h
 refine sg ?_
 conv=>whnf
 refine Tr.ret ?_
 conv=>whnf
 cases h
 rfl
theorem P187 (f_1 : TField) (x_2 : TLook) (r_3 : Bool) (h : M187 f_1 x_2 = some r_3) :
    PC prog 41 [(eTField f_1), (eTLook x_2)] (fun rs => rs = [(.b r_3)]) := by
 refine PC.of_tr (cx := ⟨115, none, lay, 0⟩) layOK func41 rfl rfl rfl rfl rfl (by simp [f41]) ?_
 unfold M187 at h
 refine sg ?_
 conv=>whnf
 refine Tr.seq ?_
 refine Tr.seq ?_
 refine Tr.cutQ1 ([(2, .pt 0 0), (3, .pt 1 0), (4, .d (.b false)), (31, .d (.b ((decide (x_2.Runner < 0)) || ((decide (x_2.Runner ≥ (((f_1.Runners).length : Int)))) || ((decide ((((x_2.Answers).length : Int)) < 1)) || (decide ((((x_2.Answers).length : Int)) > 4)))))))]) ([some (.var [.d (.ls (List.map eTSegment f_1.Clocks.Segments)), .d (.ls (List.map (eL eI) f_1.Clocks.Far)), .d (.ls (List.map eTPair f_1.Pairs)), .d (.ls (List.map eTRunner f_1.Runners))]), some (.var [(dI x_2.Runner), .d (.ls (List.map eTSpan x_2.Answers))])]) ?_ (fun T1 H1 hw => ?_)
 ·refine rg ?_
  conv=>whnf
  refine condS_mk (fun hb5 => ?_) (fun hb5 => ?_)
  ·conv=>whnf
   exact Wk.mk2 [0, 1] 2 rfl rfl (by decide) rfl ⟨rr, rr, trivial⟩ ⟨rr, rr, rr, ⟨rfl, (by first | rfl | (simp only [↓hb5, bl, List.length_set]; done) | (simp only [↓hb5, bl, List.length_set]; rfl))⟩, trivial⟩
  conv=>whnf
  refine lnS_map ?_
  conv=>whnf
  refine condS_mk (fun hb6 => ?_) (fun hb6 => ?_)
  ·conv=>whnf
   exact Wk.mk2 [0, 1] 2 rfl rfl (by decide) rfl ⟨rr, rr, trivial⟩ ⟨rr, rr, rr, ⟨rfl, (by first | rfl | (simp only [↓hb5, ↓hb6, bl, List.length_set]; done) | (simp only [↓hb5, ↓hb6, bl, List.length_set]; rfl))⟩, trivial⟩
  conv=>whnf
  refine lnS_map ?_
  conv=>whnf
  refine condS_mk (fun hb7 => ?_) (fun hb7 => ?_)
  ·conv=>whnf
   exact Wk.mk2 [0, 1] 2 rfl rfl (by decide) rfl ⟨rr, rr, trivial⟩ ⟨rr, rr, rr, ⟨rfl, (by first | rfl | (simp only [↓hb5, ↓hb6, ↓hb7, bl, List.length_set]; done) | (simp only [↓hb5, ↓hb6, ↓hb7, bl, List.length_set]; rfl))⟩, trivial⟩
  conv=>whnf
  refine lnS_map ?_
  conv=>whnf
  exact Wk.mk2 [0, 1] 2 rfl rfl (by decide) rfl ⟨rr, rr, trivial⟩ ⟨rr, rr, rr, ⟨rfl, (by first | rfl | (simp only [↓hb5, ↓hb6, ↓hb7, bl, List.length_set]; done) | (simp only [↓hb5, ↓hb6, ↓hb7, bl, List.length_set]; rfl))⟩, trivial⟩
 conv=>whnf
 refine Tr.weak hw ?_
 refine Tr.cond ?_
 conv=>whnf
 refine cB h (fun hb8 h => ?_) (fun hb8 h => ?_)
 ·refine sg ?_
  conv=>whnf
  refine Tr.ret ?_
  conv=>whnf
  cases h
  rfl
 refine Tr.skip ?_
 conv=>whnf
 refine Tr.seq ?_
 refine sg ?_
 conv=>whnf
 refine Tr.cutQ (α := Unit) (fun s => ([(2, .pt 0 0), (3, .pt 1 0), (4, .d (.b false))], [some (.var [.d (.ls (List.map eTSegment f_1.Clocks.Segments)), .d (.ls (List.map (eL eI) f_1.Clocks.Far)), .d (.ls (List.map eTPair f_1.Pairs)), .d (.ls (List.map eTRunner f_1.Runners))]), some (.var [(dI x_2.Runner), .d (.ls (List.map eTSpan x_2.Answers))])])) (fun s => M186 f_1 x_2 s = some r_3) ?_ ?_
 ·refine Tr.block ?_
  refine Tr.loopM (σ := Int) (fun n s => M181 x_2 (M186 f_1 x_2) n s) r_3 (fun s => ([(2, .pt 0 0), (3, .pt 1 0), (4, .d (.b false)), (5, (dI s))], [some (.var [.d (.ls (List.map eTSegment f_1.Clocks.Segments)), .d (.ls (List.map (eL eI) f_1.Clocks.Far)), .d (.ls (List.map eTPair f_1.Pairs)), .d (.ls (List.map eTRunner f_1.Runners))]), some (.var [(dI x_2.Runner), .d (.ls (List.map eTSpan x_2.Answers))])])) (((((x_2.Answers).length : Int)) - 0 : Int).toNat + 1) (0) h (fun s => rfl) (Wk.mk2 [0, 1] 2 rfl rfl (by decide) rfl ⟨rr, rr, trivial⟩ ⟨rr, rr, rr, rr, trivial⟩) ?_
  clear h
  rintro n_11 i_10 h
  replace h : M181 x_2 (M186 f_1 x_2) (n_11 + 1) i_10 = some r_3 := h
  rw [M181] at h
  refine Tr.seq ?_
  refine sg ?_
  conv=>whnf
  refine lnS_map ?_
  conv=>whnf
  refine Tr.cond ?_
  conv=>whnf
  refine cB h (fun hb14 h => ?_) (fun hb14 h => ?_)
  ·refine Tr.skip ?_
   conv=>whnf
   refine Tr.seq ?_
   refine Tr.block ?_
   refine sd [] [(0,4),(1,4),(2,1),(3,2),(4,2),(5,2),(6,4),(7,4),(8,1),(9,2),(10,2),(11,2),(12,1),(13,1),(14,1),(15,1),(16,1),(17,4),(18,4),(19,1),(20,2),(21,2),(22,2),(23,4),(24,4),(25,1),(26,1),(27,2),(28,2),(29,2),(30,1),(31,1),(32,1)] ?_
   conv=>whnf
   refine q2 ?_
   conv=>whnf
   refine q2 ?_
   conv=>whnf
   refine q1 ?_
   conv=>whnf
   obtain ⟨x_15, hx_15, h⟩ := bS h
   refine q3 (ixP_of hx_15 rr) ?_
   conv=>whnf
   refine q2 ?_
   conv=>whnf
   refine q2 ?_
   conv=>whnf
   refine q2 ?_
   conv=>whnf
   refine q2 ?_
   conv=>whnf
   refine q1 ?_
   conv=>whnf
   obtain ⟨x_16, hx_16, h⟩ := bS h
   refine q3 (ixP_of hx_16 rr) ?_
   conv=>whnf
   refine q2 ?_
   conv=>whnf
   refine q2 ?_
   conv=>whnf
   refine q1 ?_
   conv=>whnf
   refine q1 ?_
   conv=>whnf
   refine cB h (fun hb17 h => ?_) (fun hb17 h => ?_)
   ·conv=>whnf
    refine q1 ?_
    conv=>whnf
    refine Tr.cond ?_
    conv=>whnf
    refine sg ?_
    conv=>whnf
    refine Tr.ret ?_
    conv=>whnf
    cases h
    rfl
   conv=>whnf
   refine q1 ?_
   conv=>whnf
   refine q1 ?_
   conv=>whnf
   refine q1 ?_
   conv=>whnf
   refine cB h (fun hb18 h => ?_) (fun hb18 h => ?_)
   ·conv=>whnf
    refine q2 ?_
    conv=>whnf
    refine q2 ?_
    conv=>whnf
    refine q1 ?_
    conv=>whnf
    obtain ⟨x_19, hx_19, h⟩ := bS h
    refine q3 (ixP_of hx_19 rr) ?_
    conv=>whnf
    refine q2 ?_
    conv=>whnf
    refine q2 ?_
    conv=>whnf
    refine q2 ?_
    conv=>whnf
    refine q2 ?_
    conv=>whnf
    refine q1 ?_
    conv=>whnf
    refine q4 ?_
    conv=>whnf
    obtain ⟨x_20, hx_20, h⟩ := bS h
    refine q3 (ixP_of hx_20 rr) ?_
    conv=>whnf
    refine q2 ?_
    conv=>whnf
    refine q2 ?_
    conv=>whnf
    refine q1 ?_
    conv=>whnf
    refine q1 ?_
    conv=>whnf
    refine q1 ?_
    conv=>whnf
    refine Tr.cond ?_
    conv=>whnf
    refine cB h (fun hb21 h => ?_) (fun hb21 h => ?_)
    ·refine sg ?_
     conv=>whnf
     refine Tr.ret ?_
     conv=>whnf
     cases h
     rfl
    refine Tr.skip ?_
    conv=>whnf
    refine rg ?_
    conv=>whnf
    refine arS_raw ?_
    conv=>whnf
    refine ⟨((w64 (i_10 + 1))), h, ?_⟩
    exact Wk.mk2 [0, 1] 2 rfl rfl (by decide) rfl ⟨rr, rr, trivial⟩ ⟨rr, rr, rr, rr, trivial⟩
   conv=>whnf
   refine q1 ?_
   conv=>whnf
   refine q1 ?_
   conv=>whnf
   refine Tr.cond ?_
   conv=>whnf
   refine Tr.skip ?_
   conv=>whnf
   refine rg ?_
   conv=>whnf
   refine arS_raw ?_
   conv=>whnf
   refine ⟨((w64 (i_10 + 1))), h, ?_⟩
   exact Wk.mk2 [0, 1] 2 rfl rfl (by decide) rfl ⟨rr, rr, trivial⟩ ⟨rr, rr, rr, rr, trivial⟩
  refine Tr.exit ?_
  conv=>whnf
  refine ⟨(), h, ?_⟩
  exact Wk.mk2 [0, 1] 2 rfl rfl (by decide) rfl ⟨rr, rr, trivial⟩ ⟨rr, rr, rr, trivial⟩
 clear h
 rintro _ h T1 H1 hw
 replace h : M186 f_1 x_2 () = some r_3 := h
 conv=>whnf
 refine Tr.weak hw ?_
 unfold M186 at h
 refine sg ?_
 conv=>whnf
 obtain ⟨x_22, hx_22, h⟩ := bS h
 refine ixP_of hx_22 ?_
 conv=>whnf
 refine Tr.seq ?_
 refine sg ?_
 conv=>whnf
 refine Tr.cutQ (α := Unit) (fun s => ([(4, .d (.b false))], [])) (fun s => M185 s = some r_3) ?_ ?_
 ·refine Tr.block ?_
  refine Tr.loopM (σ := Int) (fun n s => M184 x_2 x_22 M185 n s) r_3 (fun s => ([(3, .pt 0 0), (4, .d (.b false)), (6, .d (.ls (List.map (eL eTOutcome) x_22.Worlds))), (7, (dI s))], [some (.var [(dI x_2.Runner), .d (.ls (List.map eTSpan x_2.Answers))])])) (((((x_22.Worlds).length : Int)) - 0 : Int).toNat + 1) (0) h (fun s => rfl) (Wk.mk2 [1] 2 rfl rfl (by decide) rfl ⟨rr, trivial⟩ ⟨⟨rfl, (by first | rfl | (simp only [↓hb8, bl, List.length_set]; done) | (simp only [↓hb8, bl, List.length_set]; rfl))⟩, rr, rr, rr, trivial⟩) ?_
  clear h
  rintro n_25 w_24 h
  replace h : M184 x_2 x_22 M185 (n_25 + 1) w_24 = some r_3 := h
  rw [M184] at h
  refine Tr.seq ?_
  refine sg ?_
  conv=>whnf
  refine lnS_map ?_
  conv=>whnf
  refine Tr.cond ?_
  conv=>whnf
  refine cB h (fun hb28 h => ?_) (fun hb28 h => ?_)
  ·refine Tr.skip ?_
   conv=>whnf
   refine Tr.seq ?_
   refine Tr.block ?_
   refine sg ?_
   conv=>whnf
   refine Tr.cutQ (α := Unit) (fun s => ([(3, .pt 0 0), (4, .d (.b false)), (6, .d (.ls (List.map (eL eTOutcome) x_22.Worlds))), (7, (dI w_24))], [some (.var [(dI x_2.Runner), .d (.ls (List.map eTSpan x_2.Answers))])])) (fun s => M183 w_24 (M184 x_2 x_22 M185 n_25) s = some r_3) ?_ ?_
   ·refine Tr.block ?_
    refine Tr.loopM (σ := Int) (fun n s => M182 x_2 x_22 w_24 (M183 w_24 (M184 x_2 x_22 M185 n_25)) n s) r_3 (fun s => ([(3, .pt 0 0), (4, .d (.b false)), (6, .d (.ls (List.map (eL eTOutcome) x_22.Worlds))), (7, (dI w_24)), (8, (dI s))], [some (.var [(dI x_2.Runner), .d (.ls (List.map eTSpan x_2.Answers))])])) ((((((Option.getD (idx x_22.Worlds w_24) default)).length : Int)) - 0 : Int).toNat + 1) (0) h (fun s => rfl) (Wk.mk2 [0] 1 rfl rfl (by decide) rfl ⟨rr, trivial⟩ ⟨rr, rr, rr, rr, rr, trivial⟩) ?_
    clear h
    rintro n_31 i_30 h
    replace h : M182 x_2 x_22 w_24 (M183 w_24 (M184 x_2 x_22 M185 n_25)) (n_31 + 1) i_30 = some r_3 := h
    rw [M182] at h
    refine Tr.seq ?_
    refine sg ?_
    conv=>whnf
    obtain ⟨x_34, hx_34, h⟩ := bS h
    refine ixP_of hx_34 ?_
    conv=>whnf
    refine lnS_map ?_
    conv=>whnf
    refine Tr.cond ?_
    conv=>whnf
    refine cB h (fun hb35 h => ?_) (fun hb35 h => ?_)
    ·refine Tr.skip ?_
     conv=>whnf
     refine Tr.seq ?_
     refine Tr.block ?_
     refine sd [] [(0,1),(1,1),(2,2),(3,2),(4,1),(5,2),(6,2),(7,2),(8,1),(9,1),(10,1),(11,2),(12,2),(13,1),(14,2),(15,2),(16,3),(17,3),(18,1),(19,1),(20,1)] ?_
     conv=>whnf
     refine q1 ?_
     conv=>whnf
     refine q1 ?_
     conv=>whnf
     obtain ⟨x_36, hx_36, h⟩ := bS h
     refine q3 (ixP_of hx_36 rr) ?_
     conv=>whnf
     refine q2 ?_
     conv=>whnf
     refine q1 ?_
     conv=>whnf
     obtain ⟨x_37, hx_37, h⟩ := bS h
     refine q3 (ixP_of hx_37 rr) ?_
     conv=>whnf
     refine q2 ?_
     conv=>whnf
     refine q2 ?_
     conv=>whnf
     refine q1 ?_
     conv=>whnf
     refine cB h (fun hb38 h => ?_) (fun hb38 h => ?_)
     ·conv=>whnf
      refine q1 ?_
      conv=>whnf
      refine Tr.cond ?_
      conv=>whnf
      refine sg ?_
      conv=>whnf
      refine Tr.ret ?_
      conv=>whnf
      cases h
      rfl
     conv=>whnf
     refine q1 ?_
     conv=>whnf
     refine q1 ?_
     conv=>whnf
     obtain ⟨x_39, hx_39, h⟩ := bS h
     refine q3 (ixP_of hx_39 rr) ?_
     conv=>whnf
     refine q2 ?_
     conv=>whnf
     refine q1 ?_
     conv=>whnf
     obtain ⟨x_40, hx_40, h⟩ := bS h
     refine q3 (ixP_of hx_40 rr) ?_
     conv=>whnf
     refine q2 ?_
     conv=>whnf
     refine q2 ?_
     conv=>whnf
     refine q2 ?_
     conv=>whnf
     obtain ⟨r_41, hc42, h⟩ := bS h
     refine q1 ?_ (fun _ => pe (P180 x_40 x_2.Answers r_41 hc42) rr)
     conv=>whnf
     refine q1 ?_
     conv=>whnf
     refine q1 ?_
     conv=>whnf
     refine Tr.cond ?_
     conv=>whnf
     refine cB h (fun hb43 h => ?_) (fun hb43 h => ?_)
     ·refine sg ?_
      conv=>whnf
      refine Tr.ret ?_
      conv=>whnf
      cases h
      rfl
     refine Tr.skip ?_
     conv=>whnf
     refine rg ?_
     conv=>whnf
     refine arS_raw ?_
     conv=>whnf
     refine ⟨((w64 (i_30 + 1))), h, ?_⟩
     exact Wk.mk2 [0] 1 rfl rfl (by decide) rfl ⟨rr, trivial⟩ ⟨rr, rr, rr, rr, rr, trivial⟩
    refine Tr.exit ?_
    conv=>whnf
    refine ⟨(), h, ?_⟩
    exact Wk.mk2 [0] 1 rfl rfl (by decide) rfl ⟨rr, trivial⟩ ⟨rr, rr, rr, rr, trivial⟩
   clear h
   rintro _ h T1 H1 hw
   replace h : M183 w_24 (M184 x_2 x_22 M185 n_25) () = some r_3 := h
   conv=>whnf
   refine Tr.weak hw ?_
   unfold M183 at h
   refine rg ?_
   conv=>whnf
   refine arS_raw ?_
   conv=>whnf
   refine ⟨((w64 (w_24 + 1))), h, ?_⟩
   exact Wk.mk2 [0] 1 rfl rfl (by decide) rfl ⟨rr, trivial⟩ ⟨rr, rr, rr, rr, trivial⟩
  refine Tr.exit ?_
  conv=>whnf
  refine ⟨(), h, ?_⟩
  exact Wk.mk2 [] 1 rfl rfl (by decide) rfl trivial ⟨rr, trivial⟩
 clear h
 rintro _ h T1 H1 hw
 replace h : M185 () = some r_3 := h
 conv=>whnf
 refine Tr.weak hw ?_
 unfold M185 at h
 refine sg ?_
 conv=>whnf
 refine Tr.ret ?_
 conv=>whnf
 cases h
 rfl
theorem P190 (q_1 : TQuestion) (r_2 : Int) (h : M190 q_1 = some r_2) :
    PC prog 21 [(eTQuestion q_1)] (fun rs => rs = [(.i .i64 r_2)]) := by
 refine PC.of_tr (cx := ⟨44, none, lay, 0⟩) layOK func21 rfl rfl rfl rfl rfl (by simp [f21]) ?_
 unfold M190 at h
 refine sg ?_
 conv=>whnf
 refine Tr.seq ?_
 refine Tr.seq ?_
 obtain ⟨v_3, hv4, h⟩ := bS h
 refine Tr.cutQ1 ([(1, .pt 0 0), (2, (dI 0)), (27, .d (.b v_3))]) ([some (.var [.d (.ls (List.map eTSegment q_1.Field.Clocks.Segments)), .d (.ls (List.map (eL eI) q_1.Field.Clocks.Far)), .d (.ls (List.map eTPair q_1.Field.Pairs)), .d (.ls (List.map eTRunner q_1.Field.Runners)), (dI q_1.Runner), .d (.ls (List.map eTLook q_1.Looks))])]) ?_ (fun T1 H1 hw => ?_)
 ·replace h := hv4; clear hv4
  refine rg ?_
  conv=>whnf
  obtain ⟨r_5, hc6, h⟩ := bS h
  refine PC.ecall (P177 q_1.Field r_5 hc6) (fun rs hrs => ?_)
  subst hrs
  conv=>whnf
  refine cB h (fun hb7 h => ?_) (fun hb7 h => ?_)
  ·conv=>whnf
   cases h
   exact Wk.mk2 [0] 1 rfl rfl (by decide) rfl ⟨rr, trivial⟩ ⟨rr, rr, rr, trivial⟩
  conv=>whnf
  refine cB h (fun hb8 h => ?_) (fun hb8 h => ?_)
  ·conv=>whnf
   cases h
   exact Wk.mk2 [0] 1 rfl rfl (by decide) rfl ⟨rr, trivial⟩ ⟨rr, rr, rr, trivial⟩
  conv=>whnf
  refine lnS_map ?_
  conv=>whnf
  refine cB h (fun hb9 h => ?_) (fun hb9 h => ?_)
  ·conv=>whnf
   cases h
   exact Wk.mk2 [0] 1 rfl rfl (by decide) rfl ⟨rr, trivial⟩ ⟨rr, rr, rr, trivial⟩
  conv=>whnf
  refine lnS_map ?_
  conv=>whnf
  cases h
  exact Wk.mk2 [0] 1 rfl rfl (by decide) rfl ⟨rr, trivial⟩ ⟨rr, rr, rr, trivial⟩
 clear hv4
 conv=>whnf
 refine Tr.weak hw ?_
 refine Tr.cond ?_
 conv=>whnf
 refine cB h (fun hb10 h => ?_) (fun hb10 h => ?_)
 ·refine sg ?_
  conv=>whnf
  refine Tr.ret ?_
  conv=>whnf
  cases h
  rfl
 refine Tr.skip ?_
 conv=>whnf
 refine Tr.seq ?_
 refine sg ?_
 conv=>whnf
 refine Tr.cutQ (α := Unit) (fun s => ([(2, (dI 0))], [])) (fun s => M189 s = some r_2) ?_ ?_
 ·refine Tr.block ?_
  refine Tr.loopM (σ := Int) (fun n s => M188 q_1 M189 n s) r_2 (fun s => ([(1, .pt 0 0), (2, (dI 0)), (3, (dI s))], [some (.var [.d (.ls (List.map eTSegment q_1.Field.Clocks.Segments)), .d (.ls (List.map (eL eI) q_1.Field.Clocks.Far)), .d (.ls (List.map eTPair q_1.Field.Pairs)), .d (.ls (List.map eTRunner q_1.Field.Runners)), (dI q_1.Runner), .d (.ls (List.map eTLook q_1.Looks))])])) (((((q_1.Looks).length : Int)) - 0 : Int).toNat + 1) (0) h (fun s => rfl) (Wk.mk2 [0] 1 rfl rfl (by decide) rfl ⟨rr, trivial⟩ ⟨rr, rr, rr, trivial⟩) ?_
  clear h
  rintro n_13 i_12 h
  replace h : M188 q_1 M189 (n_13 + 1) i_12 = some r_2 := h
  rw [M188] at h
  refine Tr.seq ?_
  refine sg ?_
  conv=>whnf
  refine lnS_map ?_
  conv=>whnf
  refine Tr.cond ?_
  conv=>whnf
  refine cB h (fun hb16 h => ?_) (fun hb16 h => ?_)
  ·refine Tr.skip ?_
   conv=>whnf
   refine Tr.seq ?_
   refine Tr.block ?_
   refine sd [] [(0,3),(1,3),(2,3),(3,3),(4,1),(5,2),(6,2),(7,1),(8,1)] ?_
   conv=>whnf
   refine q2 ?_
   conv=>whnf
   refine q2 ?_
   conv=>whnf
   refine q2 ?_
   conv=>whnf
   refine q2 ?_
   conv=>whnf
   refine q1 ?_
   conv=>whnf
   obtain ⟨x_17, hx_17, h⟩ := bS h
   refine q3 (ixP_of hx_17 rr) ?_
   conv=>whnf
   refine q2 ?_
   conv=>whnf
   obtain ⟨r_18, hc19, h⟩ := bS h
   refine q1 ?_ (fun _ => pe (P187 q_1.Field x_17 r_18 hc19) rr)
   conv=>whnf
   refine q1 ?_
   conv=>whnf
   refine Tr.cond ?_
   conv=>whnf
   refine cB h (fun hb20 h => ?_) (fun hb20 h => ?_)
   ·refine sg ?_
    conv=>whnf
    refine Tr.ret ?_
    conv=>whnf
    cases h
    rfl
   refine Tr.skip ?_
   conv=>whnf
   refine rg ?_
   conv=>whnf
   refine arS_raw ?_
   conv=>whnf
   refine ⟨((w64 (i_12 + 1))), h, ?_⟩
   exact Wk.mk2 [0] 1 rfl rfl (by decide) rfl ⟨rr, trivial⟩ ⟨rr, rr, rr, trivial⟩
  refine Tr.exit ?_
  conv=>whnf
  refine ⟨(), h, ?_⟩
  exact Wk.mk2 [] 1 rfl rfl (by decide) rfl trivial ⟨rr, trivial⟩
 clear h
 rintro _ h T1 H1 hw
 replace h : M189 () = some r_2 := h
 conv=>whnf
 refine Tr.weak hw ?_
 unfold M189 at h
 refine sg ?_
 conv=>whnf
 refine Tr.ret ?_
 conv=>whnf
 cases h
 rfl
theorem P191 (f_1 : TField) (runner_2 : Int) (r_3 : Int) (h : M191 f_1 runner_2 = some r_3) :
    PC prog 102 [(eTField f_1), (.i .i64 runner_2)] (fun rs => rs = [(.i .i64 r_3)]) := by
 refine PC.of_tr (cx := ⟨19, none, lay, 0⟩) layOK func102 rfl rfl rfl rfl rfl (by simp [f102]) ?_
 unfold M191 at h
 refine sg ?_
 conv=>whnf
 refine sg ?_
 conv=>whnf
 obtain ⟨r_4, hc5, h⟩ := bS h
 refine PC.ecall (P177 f_1 r_4 hc5) (fun rs hrs => ?_)
 subst hrs
 conv=>whnf
 refine Tr.seq ?_
 refine sg ?_
 conv=>whnf
 refine Tr.cond ?_
 conv=>whnf
 refine cB h (fun hb6 h => ?_) (fun hb6 h => ?_)
 ·refine sg ?_
  conv=>whnf
  refine Tr.ret ?_
  conv=>whnf
  cases h
  rfl
 refine Tr.skip ?_
 conv=>whnf
 refine Tr.seq ?_
 refine sg ?_
 conv=>whnf
 refine cB h (fun hb7 h => ?_) (fun hb7 h => ?_)
 ·conv=>whnf
  refine Tr.cond ?_
  conv=>whnf
  refine sg ?_
  conv=>whnf
  refine Tr.ret ?_
  conv=>whnf
  cases h
  rfl
 conv=>whnf
 refine lnS_map ?_
 conv=>whnf
 refine Tr.cond ?_
 conv=>whnf
 refine cB h (fun hb8 h => ?_) (fun hb8 h => ?_)
 ·refine sg ?_
  conv=>whnf
  refine Tr.ret ?_
  conv=>whnf
  cases h
  rfl
 refine Tr.skip ?_
 conv=>whnf
 refine sg ?_
 conv=>whnf
 refine Tr.ret ?_
 conv=>whnf
 cases h
 rfl
theorem P194 (f_1 : TField) (world_2 : Int) (r_3 : Bool) (h : M194 f_1 world_2 = some r_3) :
    PC prog 103 [(eTField f_1), (.i .i64 world_2)] (fun rs => rs = [(.b r_3)]) := by
 refine PC.of_tr (cx := ⟨44, none, lay, 0⟩) layOK func103 rfl rfl rfl rfl rfl (by simp [f103]) ?_
 unfold M194 at h
 refine sg ?_
 conv=>whnf
 refine Tr.seq ?_
 refine sg ?_
 conv=>whnf
 refine cB h (fun hb4 h => ?_) (fun hb4 h => ?_)
 ·conv=>whnf
  refine Tr.cond ?_
  conv=>whnf
  refine sg ?_
  conv=>whnf
  refine Tr.ret ?_
  conv=>whnf
  cases h
  rfl
 conv=>whnf
 refine lnS_map ?_
 conv=>whnf
 refine Tr.cond ?_
 conv=>whnf
 refine cB h (fun hb5 h => ?_) (fun hb5 h => ?_)
 ·refine sg ?_
  conv=>whnf
  refine Tr.ret ?_
  conv=>whnf
  cases h
  rfl
 refine Tr.skip ?_
 conv=>whnf
 refine Tr.seq ?_
 refine sg ?_
 conv=>whnf
 refine Tr.cutQ (α := Unit) (fun s => ([(4, .d (.b false))], [])) (fun s => M193 s = some r_3) ?_ ?_
 ·refine Tr.block ?_
  refine Tr.loopM (σ := Int) (fun n s => M192 f_1 world_2 M193 n s) r_3 (fun s => ([(1, (dI world_2)), (2, .pt 0 0), (4, .d (.b false)), (5, (dI s))], [some (.var [.d (.ls (List.map eTSegment f_1.Clocks.Segments)), .d (.ls (List.map (eL eI) f_1.Clocks.Far)), .d (.ls (List.map eTPair f_1.Pairs)), .d (.ls (List.map eTRunner f_1.Runners))])])) (((((f_1.Runners).length : Int)) - 0 : Int).toNat + 1) (0) h (fun s => rfl) (Wk.mk2 [0] 1 rfl rfl (by decide) rfl ⟨rr, trivial⟩ ⟨rr, rr, rr, rr, trivial⟩) ?_
  clear h
  rintro n_8 i_7 h
  replace h : M192 f_1 world_2 M193 (n_8 + 1) i_7 = some r_3 := h
  rw [M192] at h
  refine Tr.seq ?_
  refine sg ?_
  conv=>whnf
  refine lnS_map ?_
  conv=>whnf
  refine Tr.cond ?_
  conv=>whnf
  refine cB h (fun hb11 h => ?_) (fun hb11 h => ?_)
  ·refine Tr.skip ?_
   conv=>whnf
   refine Tr.seq ?_
   refine Tr.block ?_
   refine sg ?_
   conv=>whnf
   obtain ⟨x_12, hx_12, h⟩ := bS h
   refine ixP_of hx_12 ?_
   conv=>whnf
   refine lnS_map ?_
   conv=>whnf
   refine cB h (fun hb13 h => ?_) (fun hb13 h => ?_)
   ·conv=>whnf
    refine Tr.cond ?_
    conv=>whnf
    refine sg ?_
    conv=>whnf
    refine Tr.ret ?_
    conv=>whnf
    cases h
    rfl
   conv=>whnf
   obtain ⟨x_14, hx_14, h⟩ := bS h
   refine ixP_of hx_14 ?_
   conv=>whnf
   obtain ⟨x_15, hx_15, h⟩ := bS h
   refine ixP_of hx_15 ?_
   conv=>whnf
   refine lnS_map ?_
   conv=>whnf
   refine Tr.cond ?_
   conv=>whnf
   refine cB h (fun hb16 h => ?_) (fun hb16 h => ?_)
   ·refine sg ?_
    conv=>whnf
    refine Tr.ret ?_
    conv=>whnf
    cases h
    rfl
   refine Tr.skip ?_
   conv=>whnf
   refine rg ?_
   conv=>whnf
   refine arS_raw ?_
   conv=>whnf
   refine ⟨((w64 (i_7 + 1))), h, ?_⟩
   exact Wk.mk2 [0] 1 rfl rfl (by decide) rfl ⟨rr, trivial⟩ ⟨rr, rr, rr, rr, trivial⟩
  refine Tr.exit ?_
  conv=>whnf
  refine ⟨(), h, ?_⟩
  exact Wk.mk2 [] 1 rfl rfl (by decide) rfl trivial ⟨rr, trivial⟩
 clear h
 rintro _ h T1 H1 hw
 replace h : M193 () = some r_3 := h
 conv=>whnf
 refine Tr.weak hw ?_
 unfold M193 at h
 refine sg ?_
 conv=>whnf
 refine Tr.ret ?_
 conv=>whnf
 cases h
 rfl
theorem P197 (a_1 : List Int) (b_2 : List Int) (r_3 : Bool) (h : M197 a_1 b_2 = some r_3) :
    PC prog 116 [(.ls (List.map eI a_1)), (.ls (List.map eI b_2))] (fun rs => rs = [(.b r_3)]) := by
 refine PC.of_tr (cx := ⟨41, none, lay, 0⟩) layOK func116 rfl rfl rfl rfl rfl (by simp [f116]) ?_
 unfold M197 at h
 refine sg ?_
 conv=>whnf
 refine Tr.seq ?_
 refine sg ?_
 conv=>whnf
 refine Tr.cutQ (α := Unit) (fun s => ([(0, .d (.ls (List.map eI a_1))), (1, .d (.ls (List.map eI b_2))), (4, .d (.b false))], [])) (fun s => M196 a_1 b_2 s = some r_3) ?_ ?_
 ·refine Tr.block ?_
  refine Tr.loopM (σ := Int) (fun n s => M195 a_1 b_2 (M196 a_1 b_2) n s) r_3 (fun s => ([(0, .d (.ls (List.map eI a_1))), (1, .d (.ls (List.map eI b_2))), (4, .d (.b false)), (5, (dI s))], [])) (((((a_1).length : Int)) - 0 : Int).toNat + 1) (0) h (fun s => rfl) (Wk.mk2 [] 0 rfl rfl (by decide) rfl trivial ⟨rr, rr, rr, rr, trivial⟩) ?_
  clear h
  rintro n_6 i_5 h
  replace h : M195 a_1 b_2 (M196 a_1 b_2) (n_6 + 1) i_5 = some r_3 := h
  rw [M195] at h
  refine Tr.seq ?_
  refine sg ?_
  conv=>whnf
  refine lnS_map ?_
  conv=>whnf
  refine cB h (fun hb9 h => ?_) (fun hb9 h => ?_)
  ·conv=>whnf
   refine lnS_map ?_
   conv=>whnf
   refine Tr.cond ?_
   conv=>whnf
   refine cB h (fun hb10 h => ?_) (fun hb10 h => ?_)
   ·refine Tr.skip ?_
    conv=>whnf
    refine Tr.seq ?_
    refine Tr.block ?_
    refine sd [] [(0,1),(1,1),(2,2),(3,2),(4,1),(5,1),(6,2),(7,2),(8,1)] ?_
    conv=>whnf
    refine q1 ?_
    conv=>whnf
    refine q1 ?_
    conv=>whnf
    obtain ⟨x_11, hx_11, h⟩ := bS h
    refine q3 (ixP_of hx_11 rr) ?_
    conv=>whnf
    refine q2 ?_
    conv=>whnf
    refine q1 ?_
    conv=>whnf
    refine q1 ?_
    conv=>whnf
    obtain ⟨x_12, hx_12, h⟩ := bS h
    refine q3 (ixP_of hx_12 rr) ?_
    conv=>whnf
    refine q2 ?_
    conv=>whnf
    refine q1 ?_
    conv=>whnf
    refine Tr.cond ?_
    conv=>whnf
    refine cB h (fun hb13 h => ?_) (fun hb13 h => ?_)
    ·refine sd [] [(0,1),(1,1),(2,2),(3,2),(4,1),(5,1),(6,2),(7,2),(8,1),(9,1)] ?_
     conv=>whnf
     refine q1 ?_
     conv=>whnf
     refine q1 ?_
     conv=>whnf
     obtain ⟨x_14, hx_14, h⟩ := bS h
     refine q3 (ixP_of hx_14 rr) ?_
     conv=>whnf
     refine q2 ?_
     conv=>whnf
     refine q1 ?_
     conv=>whnf
     refine q1 ?_
     conv=>whnf
     obtain ⟨x_15, hx_15, h⟩ := bS h
     refine q3 (ixP_of hx_15 rr) ?_
     conv=>whnf
     refine q2 ?_
     conv=>whnf
     refine q1 ?_
     conv=>whnf
     refine q1 ?_
     conv=>whnf
     refine Tr.ret ?_
     conv=>whnf
     cases h
     rfl
    refine Tr.skip ?_
    conv=>whnf
    refine rg ?_
    conv=>whnf
    refine arS_raw ?_
    conv=>whnf
    refine ⟨((w64 (i_5 + 1))), h, ?_⟩
    exact Wk.mk2 [] 0 rfl rfl (by decide) rfl trivial ⟨rr, rr, rr, rr, trivial⟩
   refine Tr.exit ?_
   conv=>whnf
   refine ⟨(), h, ?_⟩
   exact Wk.mk2 [] 0 rfl rfl (by decide) rfl trivial ⟨rr, rr, rr, trivial⟩
  conv=>whnf
  refine Tr.cond ?_
  conv=>whnf
  refine Tr.exit ?_
  conv=>whnf
  refine ⟨(), h, ?_⟩
  exact Wk.mk2 [] 0 rfl rfl (by decide) rfl trivial ⟨rr, rr, rr, trivial⟩
 clear h
 rintro _ h T1 H1 hw
 replace h : M196 a_1 b_2 () = some r_3 := h
 conv=>whnf
 refine Tr.weak hw ?_
 unfold M196 at h
 refine sg ?_
 conv=>whnf
 refine lnS_map ?_
 conv=>whnf
 refine lnS_map ?_
 conv=>whnf
 refine Tr.ret ?_
 conv=>whnf
 cases h
 rfl
theorem P198 (f_1 : TField) (x_2 : TOutcome) (runner_3 : Int) (y_4 : TOutcome) (rival_5 : Int) (r_6 : Bool) (h : M198 f_1 x_2 runner_3 y_4 rival_5 = some r_6) :
    PC prog 113 [(eTField f_1), (eTOutcome x_2), (.i .i64 runner_3), (eTOutcome y_4), (.i .i64 rival_5)] (fun rs => rs = [(.b r_6)]) := by
 refine PC.of_tr (cx := ⟨55, none, lay, 0⟩) layOK func113 rfl rfl rfl rfl rfl (by simp [f113]) ?_
 unfold M198 at h
 refine sg ?_
 conv=>whnf
 refine Tr.seq ?_
 refine sg ?_
 conv=>whnf
 refine Tr.cond ?_
 conv=>whnf
 refine cB h (fun hb7 h => ?_) (fun hb7 h => ?_)
 ·refine sg ?_
  conv=>whnf
  refine Tr.ret ?_
  conv=>whnf
  cases h
  rfl
 refine Tr.skip ?_
 conv=>whnf
 refine sd [] [(0,5),(1,5),(2,3),(3,3),(4,3),(5,4),(6,4),(7,1),(8,2),(9,2),(10,5),(11,5),(12,1),(13,2),(14,2),(15,1),(16,4),(17,4),(18,1),(19,1)] ?_
 conv=>whnf
 refine q2 ?_
 conv=>whnf
 refine q2 ?_
 conv=>whnf
 refine q2 ?_
 conv=>whnf
 refine q2 ?_
 conv=>whnf
 refine q2 ?_
 conv=>whnf
 refine q2 ?_
 conv=>whnf
 refine q2 ?_
 conv=>whnf
 refine q4 ?_
 conv=>whnf
 obtain ⟨x_8, hx_8, h⟩ := bS h
 refine q3 (ixP_of hx_8 rr) ?_
 conv=>whnf
 refine q2 ?_
 conv=>whnf
 refine q2 ?_
 conv=>whnf
 refine q2 ?_
 conv=>whnf
 refine q4 ?_
 conv=>whnf
 obtain ⟨x_9, hx_9, h⟩ := bS h
 refine q3 (ixP_of hx_9 rr) ?_
 conv=>whnf
 refine q2 ?_
 conv=>whnf
 refine q4 ?_
 conv=>whnf
 refine q2 ?_
 conv=>whnf
 refine q2 ?_
 conv=>whnf
 refine q4 ?_
 conv=>whnf
 refine q1 ?_
 conv=>whnf
 refine sd [] [(0,1),(1,1),(2,1),(3,1),(4,1),(5,1),(6,3),(7,3),(8,1),(9,2),(10,2),(11,2),(12,3),(13,3),(14,1),(15,2),(16,2),(17,2),(18,1),(19,1),(20,1),(21,1),(22,1)] ?_
 conv=>whnf
 refine q1 ?_
 conv=>whnf
 refine q1 ?_
 conv=>whnf
 refine q1 ?_
 conv=>whnf
 refine cB h (fun hb10 h => ?_) (fun hb10 h => ?_)
 ·conv=>whnf
  refine q1 ?_
  conv=>whnf
  refine q1 ?_
  conv=>whnf
  refine Tr.ret ?_
  conv=>whnf
  cases h
  rfl
 conv=>whnf
 refine q1 ?_
 conv=>whnf
 refine q1 ?_
 conv=>whnf
 refine q1 ?_
 conv=>whnf
 refine cB h (fun hb11 h => ?_) (fun hb11 h => ?_)
 ·conv=>whnf
  refine q2 ?_
  conv=>whnf
  refine q2 ?_
  conv=>whnf
  refine q1 ?_
  conv=>whnf
  obtain ⟨x_12, hx_12, h⟩ := bS h
  refine q3 (ixP_of hx_12 rr) ?_
  conv=>whnf
  refine q2 ?_
  conv=>whnf
  refine q2 ?_
  conv=>whnf
  refine q2 ?_
  conv=>whnf
  refine q2 ?_
  conv=>whnf
  refine q1 ?_
  conv=>whnf
  obtain ⟨x_13, hx_13, h⟩ := bS h
  refine q3 (ixP_of hx_13 rr) ?_
  conv=>whnf
  refine q2 ?_
  conv=>whnf
  refine q2 ?_
  conv=>whnf
  obtain ⟨r_14, hc15, h⟩ := bS h
  refine q1 ?_ (fun _ => pe (P197 x_12.Keys x_13.Keys r_14 hc15) rr)
  conv=>whnf
  refine q1 ?_
  conv=>whnf
  refine q1 ?_
  conv=>whnf
  refine q1 ?_
  conv=>whnf
  refine q1 ?_
  conv=>whnf
  refine Tr.ret ?_
  conv=>whnf
  cases h
  rfl
 conv=>whnf
 refine q1 ?_
 conv=>whnf
 refine q1 ?_
 conv=>whnf
 refine q1 ?_
 conv=>whnf
 refine Tr.ret ?_
 conv=>whnf
 cases h
 rfl
theorem P201 (f_1 : TField) (world_2 : Int) (x_3 : TOutcome) (runner_4 : Int) (rival_5 : Int) (r_6 : Bool) (h : M201 f_1 world_2 x_3 runner_4 rival_5 = some r_6) :
    PC prog 108 [(eTField f_1), (.i .i64 world_2), (eTOutcome x_3), (.i .i64 runner_4), (.i .i64 rival_5)] (fun rs => rs = [(.b r_6)]) := by
 refine PC.of_tr (cx := ⟨37, none, lay, 0⟩) layOK func108 rfl rfl rfl rfl rfl (by simp [f108]) ?_
 unfold M201 at h
 refine sg ?_
 conv=>whnf
 refine sg ?_
 conv=>whnf
 obtain ⟨x_7, hx_7, h⟩ := bS h
 refine ixP_of hx_7 ?_
 conv=>whnf
 obtain ⟨x_8, hx_8, h⟩ := bS h
 refine ixP_of hx_8 ?_
 conv=>whnf
 refine Tr.seq ?_
 refine sg ?_
 conv=>whnf
 refine Tr.cutQ (α := Unit) (fun s => ([(10, .d (.b false))], [])) (fun s => M200 s = some r_6) ?_ ?_
 ·refine Tr.block ?_
  refine Tr.loopM (σ := Int) (fun n s => M199 f_1 x_3 runner_4 rival_5 x_8 M200 n s) r_6 (fun s => ([(3, (dI runner_4)), (4, (dI rival_5)), (5, .pt 0 0), (7, .pt 1 0), (10, .d (.b false)), (11, .d (.ls (List.map eTOutcome x_8))), (12, (dI s))], [some (.var [.d (.ls (List.map eTSegment f_1.Clocks.Segments)), .d (.ls (List.map (eL eI) f_1.Clocks.Far)), .d (.ls (List.map eTPair f_1.Pairs)), .d (.ls (List.map eTRunner f_1.Runners))]), some (.var [.d (.b x_3.Out), (dI x_3.Seg), (dI x_3.Lo), (dI x_3.Hi)])])) (((((x_8).length : Int)) - 0 : Int).toNat + 1) (0) h (fun s => rfl) (Wk.mk2 [0, 1] 2 rfl rfl (by decide) rfl ⟨rr, rr, trivial⟩ ⟨rr, rr, rr, rr, rr, rr, rr, trivial⟩) ?_
  clear h
  rintro n_11 i_10 h
  replace h : M199 f_1 x_3 runner_4 rival_5 x_8 M200 (n_11 + 1) i_10 = some r_6 := h
  rw [M199] at h
  refine Tr.seq ?_
  refine sg ?_
  conv=>whnf
  refine lnS_map ?_
  conv=>whnf
  refine Tr.cond ?_
  conv=>whnf
  refine cB h (fun hb14 h => ?_) (fun hb14 h => ?_)
  ·refine Tr.skip ?_
   conv=>whnf
   refine Tr.seq ?_
   refine Tr.block ?_
   refine sd [] [(0,3),(1,4),(2,1),(3,1),(4,1),(5,2),(6,2),(7,1),(8,1)] ?_
   conv=>whnf
   refine q2 ?_
   conv=>whnf
   refine q2 ?_
   conv=>whnf
   refine q1 ?_
   conv=>whnf
   refine q1 ?_
   conv=>whnf
   refine q1 ?_
   conv=>whnf
   obtain ⟨x_15, hx_15, h⟩ := bS h
   refine q3 (ixP_of hx_15 rr) ?_
   conv=>whnf
   refine q2 ?_
   conv=>whnf
   refine q1 ?_
   conv=>whnf
   obtain ⟨r_16, hc17, h⟩ := bS h
   refine q1 ?_ (fun _ => pe (P198 f_1 x_3 runner_4 x_15 rival_5 r_16 hc17) rr)
   conv=>whnf
   refine Tr.cond ?_
   conv=>whnf
   refine cB h (fun hb18 h => ?_) (fun hb18 h => ?_)
   ·refine sg ?_
    conv=>whnf
    refine Tr.ret ?_
    conv=>whnf
    cases h
    rfl
   refine Tr.skip ?_
   conv=>whnf
   refine rg ?_
   conv=>whnf
   refine arS_raw ?_
   conv=>whnf
   refine ⟨((w64 (i_10 + 1))), h, ?_⟩
   exact Wk.mk2 [0, 1] 2 rfl rfl (by decide) rfl ⟨rr, rr, trivial⟩ ⟨rr, rr, rr, rr, rr, rr, rr, trivial⟩
  refine Tr.exit ?_
  conv=>whnf
  refine ⟨(), h, ?_⟩
  exact Wk.mk2 [] 2 rfl rfl (by decide) rfl trivial ⟨rr, trivial⟩
 clear h
 rintro _ h T1 H1 hw
 replace h : M200 () = some r_6 := h
 conv=>whnf
 refine Tr.weak hw ?_
 unfold M200 at h
 refine sg ?_
 conv=>whnf
 refine Tr.ret ?_
 conv=>whnf
 cases h
 rfl
theorem P202 (f_1 : TField) (x_2 : TOutcome) (runner_3 : Int) (y_4 : TOutcome) (rival_5 : Int) (r_6 : Bool) (h : M202 f_1 x_2 runner_3 y_4 rival_5 = some r_6) :
    PC prog 114 [(eTField f_1), (eTOutcome x_2), (.i .i64 runner_3), (eTOutcome y_4), (.i .i64 rival_5)] (fun rs => rs = [(.b r_6)]) := by
 refine PC.of_tr (cx := ⟨54, none, lay, 0⟩) layOK func114 rfl rfl rfl rfl rfl (by simp [f114]) ?_
 unfold M202 at h
 refine sg ?_
 conv=>whnf
 refine Tr.seq ?_
 refine sg ?_
 conv=>whnf
 refine Tr.cond ?_
 conv=>whnf
 refine cB h (fun hb7 h => ?_) (fun hb7 h => ?_)
 ·refine sg ?_
  conv=>whnf
  refine Tr.ret ?_
  conv=>whnf
  cases h
  rfl
 refine Tr.skip ?_
 conv=>whnf
 refine sd [] [(0,5),(1,5),(2,3),(3,3),(4,3),(5,5),(6,5),(7,1),(8,2),(9,2),(10,4),(11,4),(12,1),(13,2),(14,2),(15,1),(16,4),(17,4),(18,1),(19,1)] ?_
 conv=>whnf
 refine q2 ?_
 conv=>whnf
 refine q2 ?_
 conv=>whnf
 refine q2 ?_
 conv=>whnf
 refine q2 ?_
 conv=>whnf
 refine q2 ?_
 conv=>whnf
 refine q2 ?_
 conv=>whnf
 refine q2 ?_
 conv=>whnf
 refine q4 ?_
 conv=>whnf
 obtain ⟨x_8, hx_8, h⟩ := bS h
 refine q3 (ixP_of hx_8 rr) ?_
 conv=>whnf
 refine q2 ?_
 conv=>whnf
 refine q2 ?_
 conv=>whnf
 refine q2 ?_
 conv=>whnf
 refine q4 ?_
 conv=>whnf
 obtain ⟨x_9, hx_9, h⟩ := bS h
 refine q3 (ixP_of hx_9 rr) ?_
 conv=>whnf
 refine q2 ?_
 conv=>whnf
 refine q4 ?_
 conv=>whnf
 refine q2 ?_
 conv=>whnf
 refine q2 ?_
 conv=>whnf
 refine q4 ?_
 conv=>whnf
 refine q1 ?_
 conv=>whnf
 refine sd [] [(0,1),(1,1),(2,1),(3,1),(4,1),(5,1),(6,3),(7,3),(8,1),(9,2),(10,2),(11,2),(12,3),(13,3),(14,1),(15,2),(16,2),(17,2),(18,1),(19,1),(20,1),(21,1)] ?_
 conv=>whnf
 refine q1 ?_
 conv=>whnf
 refine q1 ?_
 conv=>whnf
 refine q1 ?_
 conv=>whnf
 refine cB h (fun hb10 h => ?_) (fun hb10 h => ?_)
 ·conv=>whnf
  refine q1 ?_
  conv=>whnf
  refine q1 ?_
  conv=>whnf
  refine Tr.ret ?_
  conv=>whnf
  cases h
  rfl
 conv=>whnf
 refine q1 ?_
 conv=>whnf
 refine q1 ?_
 conv=>whnf
 refine q1 ?_
 conv=>whnf
 refine cB h (fun hb11 h => ?_) (fun hb11 h => ?_)
 ·conv=>whnf
  refine q2 ?_
  conv=>whnf
  refine q2 ?_
  conv=>whnf
  refine q1 ?_
  conv=>whnf
  obtain ⟨x_12, hx_12, h⟩ := bS h
  refine q3 (ixP_of hx_12 rr) ?_
  conv=>whnf
  refine q2 ?_
  conv=>whnf
  refine q2 ?_
  conv=>whnf
  refine q2 ?_
  conv=>whnf
  refine q2 ?_
  conv=>whnf
  refine q1 ?_
  conv=>whnf
  obtain ⟨x_13, hx_13, h⟩ := bS h
  refine q3 (ixP_of hx_13 rr) ?_
  conv=>whnf
  refine q2 ?_
  conv=>whnf
  refine q2 ?_
  conv=>whnf
  obtain ⟨r_14, hc15, h⟩ := bS h
  refine q1 ?_ (fun _ => pe (P197 x_12.Keys x_13.Keys r_14 hc15) rr)
  conv=>whnf
  refine q1 ?_
  conv=>whnf
  refine q1 ?_
  conv=>whnf
  refine q1 ?_
  conv=>whnf
  refine Tr.ret ?_
  conv=>whnf
  cases h
  rfl
 conv=>whnf
 refine q1 ?_
 conv=>whnf
 refine q1 ?_
 conv=>whnf
 refine q1 ?_
 conv=>whnf
 refine Tr.ret ?_
 conv=>whnf
 cases h
 rfl
theorem P205 (f_1 : TField) (world_2 : Int) (x_3 : TOutcome) (runner_4 : Int) (rival_5 : Int) (r_6 : Bool) (h : M205 f_1 world_2 x_3 runner_4 rival_5 = some r_6) :
    PC prog 109 [(eTField f_1), (.i .i64 world_2), (eTOutcome x_3), (.i .i64 runner_4), (.i .i64 rival_5)] (fun rs => rs = [(.b r_6)]) := by
 refine PC.of_tr (cx := ⟨37, none, lay, 0⟩) layOK func109 rfl rfl rfl rfl rfl (by simp [f109]) ?_
 unfold M205 at h
 refine sg ?_
 conv=>whnf
 refine sg ?_
 conv=>whnf
 obtain ⟨x_7, hx_7, h⟩ := bS h
 refine ixP_of hx_7 ?_
 conv=>whnf
 obtain ⟨x_8, hx_8, h⟩ := bS h
 refine ixP_of hx_8 ?_
 conv=>whnf
 refine Tr.seq ?_
 refine sg ?_
 conv=>whnf
 refine Tr.cutQ (α := Unit) (fun s => ([(10, .d (.b false))], [])) (fun s => M204 s = some r_6) ?_ ?_
 ·refine Tr.block ?_
  refine Tr.loopM (σ := Int) (fun n s => M203 f_1 x_3 runner_4 rival_5 x_8 M204 n s) r_6 (fun s => ([(3, (dI runner_4)), (4, (dI rival_5)), (5, .pt 0 0), (7, .pt 1 0), (10, .d (.b false)), (11, .d (.ls (List.map eTOutcome x_8))), (12, (dI s))], [some (.var [.d (.ls (List.map eTSegment f_1.Clocks.Segments)), .d (.ls (List.map (eL eI) f_1.Clocks.Far)), .d (.ls (List.map eTPair f_1.Pairs)), .d (.ls (List.map eTRunner f_1.Runners))]), some (.var [.d (.b x_3.Out), (dI x_3.Seg), (dI x_3.Lo), (dI x_3.Hi)])])) (((((x_8).length : Int)) - 0 : Int).toNat + 1) (0) h (fun s => rfl) (Wk.mk2 [0, 1] 2 rfl rfl (by decide) rfl ⟨rr, rr, trivial⟩ ⟨rr, rr, rr, rr, rr, rr, rr, trivial⟩) ?_
  clear h
  rintro n_11 i_10 h
  replace h : M203 f_1 x_3 runner_4 rival_5 x_8 M204 (n_11 + 1) i_10 = some r_6 := h
  rw [M203] at h
  refine Tr.seq ?_
  refine sg ?_
  conv=>whnf
  refine lnS_map ?_
  conv=>whnf
  refine Tr.cond ?_
  conv=>whnf
  refine cB h (fun hb14 h => ?_) (fun hb14 h => ?_)
  ·refine Tr.skip ?_
   conv=>whnf
   refine Tr.seq ?_
   refine Tr.block ?_
   refine sd [] [(0,3),(1,4),(2,1),(3,1),(4,1),(5,2),(6,2),(7,1),(8,1)] ?_
   conv=>whnf
   refine q2 ?_
   conv=>whnf
   refine q2 ?_
   conv=>whnf
   refine q1 ?_
   conv=>whnf
   refine q1 ?_
   conv=>whnf
   refine q1 ?_
   conv=>whnf
   obtain ⟨x_15, hx_15, h⟩ := bS h
   refine q3 (ixP_of hx_15 rr) ?_
   conv=>whnf
   refine q2 ?_
   conv=>whnf
   refine q1 ?_
   conv=>whnf
   obtain ⟨r_16, hc17, h⟩ := bS h
   refine q1 ?_ (fun _ => pe (P202 f_1 x_3 runner_4 x_15 rival_5 r_16 hc17) rr)
   conv=>whnf
   refine Tr.cond ?_
   conv=>whnf
   refine cB h (fun hb18 h => ?_) (fun hb18 h => ?_)
   ·refine sg ?_
    conv=>whnf
    refine Tr.ret ?_
    conv=>whnf
    cases h
    rfl
   refine Tr.skip ?_
   conv=>whnf
   refine rg ?_
   conv=>whnf
   refine arS_raw ?_
   conv=>whnf
   refine ⟨((w64 (i_10 + 1))), h, ?_⟩
   exact Wk.mk2 [0, 1] 2 rfl rfl (by decide) rfl ⟨rr, rr, trivial⟩ ⟨rr, rr, rr, rr, rr, rr, rr, trivial⟩
  refine Tr.exit ?_
  conv=>whnf
  refine ⟨(), h, ?_⟩
  exact Wk.mk2 [] 2 rfl rfl (by decide) rfl trivial ⟨rr, trivial⟩
 clear h
 rintro _ h T1 H1 hw
 replace h : M204 () = some r_6 := h
 conv=>whnf
 refine Tr.weak hw ?_
 unfold M204 at h
 refine sg ?_
 conv=>whnf
 refine Tr.ret ?_
 conv=>whnf
 cases h
 rfl
theorem P207 (f_1 : TField) (world_2 : Int) (x_3 : TOutcome) (runner_4 : Int) (r_5 : Int) (r_6 : Int) (h : M207 f_1 world_2 x_3 runner_4 = some (r_5, r_6)) :
    PC prog 104 [(eTField f_1), (.i .i64 world_2), (eTOutcome x_3), (.i .i64 runner_4)] (fun rs => rs = [(.i .i64 r_5), (.i .i64 r_6)]) := by
 refine PC.of_tr (cx := ⟨42, none, lay, 0⟩) layOK func104 rfl rfl rfl rfl rfl (by simp [f104]) ?_
 unfold M207 at h
 refine sg ?_
 conv=>whnf
 refine sg ?_
 conv=>whnf
 refine sg ?_
 conv=>whnf
 refine Tr.seq ?_
 refine sg ?_
 conv=>whnf
 obtain ⟨⟨best_14, worst_15⟩, hv32, h⟩ := bS h
 refine Tr.cutQ1 ([(8, (dI 0)), (9, (dI 0)), (10, (dI best_14)), (11, (dI worst_15))]) ([]) ?_ (fun T1 H1 hw => ?_)
 ·replace h := hv32; clear hv32
  refine Tr.block ?_
  refine Tr.loopM (σ := Int × Int × Int) (fun n s => M206 f_1 world_2 x_3 runner_4 n s.1 s.2.1 s.2.2) (best_14, worst_15) (fun s => ([(1, (dI world_2)), (3, (dI runner_4)), (4, .pt 0 0), (6, .pt 1 0), (8, (dI 0)), (9, (dI 0)), (10, (dI s.1)), (11, (dI s.2.1)), (12, (dI s.2.2))], [some (.var [.d (.ls (List.map eTSegment f_1.Clocks.Segments)), .d (.ls (List.map (eL eI) f_1.Clocks.Far)), .d (.ls (List.map eTPair f_1.Pairs)), .d (.ls (List.map eTRunner f_1.Runners))]), some (.var [.d (.b x_3.Out), (dI x_3.Seg), (dI x_3.Lo), (dI x_3.Hi)])])) (((((f_1.Runners).length : Int)) - 0 : Int).toNat + 1) (1, 1, 0) h (fun s => rfl) (Wk.mk2 [0, 1] 2 rfl rfl (by decide) rfl ⟨rr, rr, trivial⟩ ⟨rr, rr, rr, rr, rr, rr, rr, rr, rr, trivial⟩) ?_
  clear h
  rintro n_13 ⟨best_10, worst_11, i_12⟩ h
  replace h : M206 f_1 world_2 x_3 runner_4 (n_13 + 1) best_10 worst_11 i_12 = some (best_14, worst_15) := h
  rw [M206] at h
  refine Tr.seq ?_
  refine sg ?_
  conv=>whnf
  refine lnS_map ?_
  conv=>whnf
  refine Tr.cond ?_
  conv=>whnf
  refine cB h (fun hb18 h => ?_) (fun hb18 h => ?_)
  ·refine Tr.skip ?_
   conv=>whnf
   refine Tr.seq ?_
   obtain ⟨⟨best_19, worst_20⟩, hv21, h⟩ := bS h
   refine Tr.cutQ1 ([(1, (dI world_2)), (3, (dI runner_4)), (4, .pt 0 0), (6, .pt 1 0), (8, (dI 0)), (9, (dI 0)), (10, (dI best_19)), (11, (dI worst_20)), (12, (dI i_12))]) ([some (.var [.d (.ls (List.map eTSegment f_1.Clocks.Segments)), .d (.ls (List.map (eL eI) f_1.Clocks.Far)), .d (.ls (List.map eTPair f_1.Pairs)), .d (.ls (List.map eTRunner f_1.Runners))]), some (.var [.d (.b x_3.Out), (dI x_3.Seg), (dI x_3.Lo), (dI x_3.Hi)])]) ?_ (fun T1 H1 hw => ?_)
   ·replace h := hv21; clear hv21
    refine Tr.block ?_
    refine Tr.seq ?_
    refine sg ?_
    conv=>whnf
    refine Tr.cond ?_
    conv=>whnf
    refine cB h (fun hb22 h => ?_) (fun hb22 h => ?_)
    ·refine Tr.exit ?_
     conv=>whnf
     cases h
     exact Wk.mk2 [0, 1] 2 rfl rfl (by decide) rfl ⟨rr, rr, trivial⟩ ⟨rr, rr, rr, rr, rr, rr, rr, rr, rr, trivial⟩
    refine Tr.skip ?_
    conv=>whnf
    refine Tr.seq ?_
    refine sg ?_
    conv=>whnf
    obtain ⟨r_23, hc24, h⟩ := bS h
    refine PC.ecall (P201 f_1 world_2 x_3 runner_4 i_12 r_23 hc24) (fun rs hrs => ?_)
    subst hrs
    conv=>whnf
    refine Tr.cond ?_
    conv=>whnf
    refine cB h (fun hb25 h => ?_) (fun hb25 h => ?_)
    ·refine rg ?_
     conv=>whnf
     refine arS_raw ?_
     conv=>whnf
     refine sg ?_
     conv=>whnf
     obtain ⟨r_26, hc27, h⟩ := bS h
     refine PC.ecall (P205 f_1 world_2 x_3 runner_4 i_12 r_26 hc27) (fun rs hrs => ?_)
     subst hrs
     conv=>whnf
     refine Tr.cond ?_
     conv=>whnf
     refine cB h (fun hb28 h => ?_) (fun hb28 h => ?_)
     ·refine rg ?_
      conv=>whnf
      refine arS_raw ?_
      conv=>whnf
      cases h
      exact Wk.mk2 [0, 1] 2 rfl rfl (by decide) rfl ⟨rr, rr, trivial⟩ ⟨rr, rr, rr, rr, rr, rr, rr, rr, rr, trivial⟩
     refine Tr.skip ?_
     conv=>whnf
     cases h
     exact Wk.mk2 [0, 1] 2 rfl rfl (by decide) rfl ⟨rr, rr, trivial⟩ ⟨rr, rr, rr, rr, rr, rr, rr, rr, rr, trivial⟩
    refine Tr.skip ?_
    conv=>whnf
    refine sg ?_
    conv=>whnf
    obtain ⟨r_29, hc30, h⟩ := bS h
    refine PC.ecall (P205 f_1 world_2 x_3 runner_4 i_12 r_29 hc30) (fun rs hrs => ?_)
    subst hrs
    conv=>whnf
    refine Tr.cond ?_
    conv=>whnf
    refine cB h (fun hb31 h => ?_) (fun hb31 h => ?_)
    ·refine rg ?_
     conv=>whnf
     refine arS_raw ?_
     conv=>whnf
     cases h
     exact Wk.mk2 [0, 1] 2 rfl rfl (by decide) rfl ⟨rr, rr, trivial⟩ ⟨rr, rr, rr, rr, rr, rr, rr, rr, rr, trivial⟩
    refine Tr.skip ?_
    conv=>whnf
    cases h
    exact Wk.mk2 [0, 1] 2 rfl rfl (by decide) rfl ⟨rr, rr, trivial⟩ ⟨rr, rr, rr, rr, rr, rr, rr, rr, rr, trivial⟩
   clear hv21
   conv=>whnf
   refine Tr.weak hw ?_
   refine rg ?_
   conv=>whnf
   refine arS_raw ?_
   conv=>whnf
   refine ⟨(best_19, worst_20, (w64 (i_12 + 1))), h, ?_⟩
   exact Wk.mk2 [0, 1] 2 rfl rfl (by decide) rfl ⟨rr, rr, trivial⟩ ⟨rr, rr, rr, rr, rr, rr, rr, rr, rr, trivial⟩
  refine Tr.exit ?_
  conv=>whnf
  cases h
  exact Wk.mk2 [] 2 rfl rfl (by decide) rfl trivial ⟨rr, rr, rr, rr, trivial⟩
 clear hv32
 conv=>whnf
 refine Tr.weak hw ?_
 refine sg ?_
 conv=>whnf
 refine Tr.ret ?_
 conv=>whnf
 cases h
 rfl
theorem P210 (f_1 : TField) (runner_2 : Int) (r_3 : TRank) (r_4 : Int) (h : M210 f_1 runner_2 = some (r_3, r_4)) :
    PC prog 80 [(eTField f_1), (.i .i64 runner_2)] (fun rs => rs = [(eTRank r_3), (.i .i64 r_4)]) := by
 refine PC.of_tr (cx := ⟨106, none, lay, 0⟩) layOK func80 rfl rfl rfl rfl rfl (by simp [f80]) ?_
 unfold M210 at h
 refine sg ?_
 conv=>whnf
 refine sg ?_
 conv=>whnf
 obtain ⟨r_5, hc6, h⟩ := bS h
 refine PC.ecall (P191 f_1 runner_2 r_5 hc6) (fun rs hrs => ?_)
 subst hrs
 conv=>whnf
 refine Tr.seq ?_
 refine sg ?_
 conv=>whnf
 refine Tr.cond ?_
 conv=>whnf
 refine cB h (fun hb7 h => ?_) (fun hb7 h => ?_)
 ·refine sg ?_
  conv=>whnf
  refine Tr.ret ?_
  conv=>whnf
  cases h
  rfl
 refine Tr.skip ?_
 conv=>whnf
 refine sg ?_
 conv=>whnf
 obtain ⟨x_8, hx_8, h⟩ := bS h
 refine ixP_of hx_8 ?_
 conv=>whnf
 refine Tr.seq ?_
 refine sg ?_
 conv=>whnf
 obtain ⟨⟨v_18, v_19, v_20⟩, hv57, h⟩ := bS h
 refine Tr.cutQ1 ([(4, .pt 0 0), (5, (dI 0)), (7, .pt 1 0)]) ([some (.var [(dI 0), (dI 0), (dI 0), (dI 0), .d (.b false)]), some (.var [(dI x_8.Bib), (dI 0), (dI v_18), (dI v_19), .d (.b v_20)])]) ?_ (fun T1 H1 hw => ?_)
 ·replace h := hv57; clear hv57
  refine Tr.block ?_
  refine Tr.loopM (σ := Int × Int × Int × Bool) (fun n s => M209 f_1 runner_2 n s.1 s.2.1 s.2.2.1 s.2.2.2) (v_18, v_19, v_20) (fun s => ([(1, (dI runner_2)), (2, .pt 0 0), (4, .pt 1 0), (5, (dI 0)), (7, .pt 2 0), (8, (dI s.1))], [some (.var [.d (.ls (List.map eTSegment f_1.Clocks.Segments)), .d (.ls (List.map (eL eI) f_1.Clocks.Far)), .d (.ls (List.map eTPair f_1.Pairs)), .d (.ls (List.map eTRunner f_1.Runners))]), some (.var [(dI 0), (dI 0), (dI 0), (dI 0), .d (.b false)]), some (.var [(dI x_8.Bib), (dI 0), (dI s.2.1), (dI s.2.2.1), .d (.b s.2.2.2)])])) (((((f_1.Pairs).length : Int)) + 1 - 0 : Int).toNat + 1) (0, 0, 0, false) h (fun s => rfl) (Wk.mk2 [0, 1, 2] 3 rfl rfl (by decide) rfl ⟨rr, rr, rr, trivial⟩ ⟨rr, rr, rr, rr, rr, rr, trivial⟩) ?_
  clear h
  rintro n_17 ⟨w_13, v_14, v_15, v_16⟩ h
  replace h : M209 f_1 runner_2 (n_17 + 1) w_13 v_14 v_15 v_16 = some (v_18, v_19, v_20) := h
  rw [M209] at h
  refine Tr.seq ?_
  refine sg ?_
  conv=>whnf
  refine lnS_map ?_
  conv=>whnf
  refine Tr.cond ?_
  conv=>whnf
  refine cB h (fun hb23 h => ?_) (fun hb23 h => ?_)
  ·refine Tr.skip ?_
   conv=>whnf
   refine Tr.seq ?_
   refine Tr.block ?_
   refine sg ?_
   conv=>whnf
   obtain ⟨x_24, hx_24, h⟩ := bS h
   refine ixP_of hx_24 ?_
   conv=>whnf
   obtain ⟨x_25, hx_25, h⟩ := bS h
   refine ixP_of hx_25 ?_
   conv=>whnf
   refine sg ?_
   conv=>whnf
   obtain ⟨⟨v_35, v_36, v_37⟩, hv56, h⟩ := bS h
   refine Tr.cutQ1 ([(1, (dI runner_2)), (2, .pt 0 0), (4, .pt 1 0), (5, (dI 0)), (7, .pt 2 0), (8, (dI w_13))]) ([some (.var [.d (.ls (List.map eTSegment f_1.Clocks.Segments)), .d (.ls (List.map (eL eI) f_1.Clocks.Far)), .d (.ls (List.map eTPair f_1.Pairs)), .d (.ls (List.map eTRunner f_1.Runners))]), some (.var [(dI 0), (dI 0), (dI 0), (dI 0), .d (.b false)]), some (.var [(dI x_8.Bib), (dI 0), (dI v_35), (dI v_36), .d (.b v_37)])]) ?_ (fun T1 H1 hw => ?_)
   ·replace h := hv56; clear hv56
    refine Tr.block ?_
    refine Tr.loopM (σ := Int × Int × Int × Bool) (fun n s => M208 f_1 runner_2 w_13 x_25 n s.1 s.2.1 s.2.2.1 s.2.2.2) (v_35, v_36, v_37) (fun s => ([(1, (dI runner_2)), (2, .pt 0 0), (4, .pt 1 0), (5, (dI 0)), (7, .pt 2 0), (8, (dI w_13)), (9, .d (.ls (List.map eTOutcome x_25))), (10, (dI s.1))], [some (.var [.d (.ls (List.map eTSegment f_1.Clocks.Segments)), .d (.ls (List.map (eL eI) f_1.Clocks.Far)), .d (.ls (List.map eTPair f_1.Pairs)), .d (.ls (List.map eTRunner f_1.Runners))]), some (.var [(dI 0), (dI 0), (dI 0), (dI 0), .d (.b false)]), some (.var [(dI x_8.Bib), (dI 0), (dI s.2.1), (dI s.2.2.1), .d (.b s.2.2.2)])])) (((((x_25).length : Int)) - 0 : Int).toNat + 1) (0, v_14, v_15, v_16) h (fun s => rfl) (Wk.mk2 [0, 1, 2] 3 rfl rfl (by decide) rfl ⟨rr, rr, rr, trivial⟩ ⟨rr, rr, rr, rr, rr, rr, rr, rr, trivial⟩) ?_
    clear h
    rintro n_34 ⟨i_30, v_31, v_32, v_33⟩ h
    replace h : M208 f_1 runner_2 w_13 x_25 (n_34 + 1) i_30 v_31 v_32 v_33 = some (v_35, v_36, v_37) := h
    rw [M208] at h
    refine Tr.seq ?_
    refine sg ?_
    conv=>whnf
    refine lnS_map ?_
    conv=>whnf
    refine cB h (fun hb40 h => ?_) (fun hb40 h => ?_)
    ·conv=>whnf
     obtain ⟨r_41, hc42, h⟩ := bS h
     refine PC.ecall (P194 f_1 w_13 r_41 hc42) (fun rs hrs => ?_)
     subst hrs
     conv=>whnf
     refine Tr.cond ?_
     conv=>whnf
     refine cB h (fun hb43 h => ?_) (fun hb43 h => ?_)
     ·refine Tr.skip ?_
      conv=>whnf
      refine Tr.seq ?_
      obtain ⟨⟨v_44, v_45, v_46⟩, hv47, h⟩ := bS h
      refine Tr.cutQ1 ([(1, (dI runner_2)), (2, .pt 0 0), (4, .pt 1 0), (5, (dI 0)), (7, .pt 2 0), (8, (dI w_13)), (9, .d (.ls (List.map eTOutcome x_25))), (10, (dI i_30))]) ([some (.var [.d (.ls (List.map eTSegment f_1.Clocks.Segments)), .d (.ls (List.map (eL eI) f_1.Clocks.Far)), .d (.ls (List.map eTPair f_1.Pairs)), .d (.ls (List.map eTRunner f_1.Runners))]), some (.var [(dI 0), (dI 0), (dI 0), (dI 0), .d (.b false)]), some (.var [(dI x_8.Bib), (dI 0), (dI v_44), (dI v_45), .d (.b v_46)])]) ?_ (fun T1 H1 hw => ?_)
      ·replace h := hv47; clear hv47
       refine Tr.block ?_
       refine Tr.seq ?_
       refine sg ?_
       conv=>whnf
       obtain ⟨x_48, hx_48, h⟩ := bS h
       refine ixP_of hx_48 ?_
       conv=>whnf
       refine Tr.cond ?_
       conv=>whnf
       refine cB h (fun hb49 h => ?_) (fun hb49 h => ?_)
       ·refine sg ?_
        conv=>whnf
        refine Tr.exit ?_
        conv=>whnf
        cases h
        exact Wk.mk2 [0, 1, 2] 3 rfl rfl (by decide) rfl ⟨rr, rr, rr, trivial⟩ ⟨rr, rr, rr, rr, rr, rr, rr, rr, trivial⟩
       refine Tr.skip ?_
       conv=>whnf
       refine sd [] [(0,3),(1,1),(2,1),(3,1),(4,2),(5,2),(6,1),(7,1),(8,1),(9,1),(10,1),(11,1),(12,1)] ?_
       conv=>whnf
       refine q2 ?_
       conv=>whnf
       refine q1 ?_
       conv=>whnf
       refine q1 ?_
       conv=>whnf
       refine q1 ?_
       conv=>whnf
       obtain ⟨x_50, hx_50, h⟩ := bS h
       refine q3 (ixP_of hx_50 rr) ?_
       conv=>whnf
       refine q2 ?_
       conv=>whnf
       refine q1 ?_
       conv=>whnf
       obtain ⟨⟨r_51, r_52⟩, hc53, h⟩ := bS h
       refine q1 ?_ (fun _ => pe (P207 f_1 w_13 x_50 runner_2 r_51 r_52 hc53) rr)
       conv=>whnf
       refine q1 ?_
       conv=>whnf
       refine q1 ?_
       conv=>whnf
       refine q1 ?_
       conv=>whnf
       refine q1 ?_
       conv=>whnf
       refine q1 ?_
       conv=>whnf
       refine Tr.seq ?_
       refine sg ?_
       conv=>whnf
       refine cB h (fun hb54 h => ?_) (fun hb54 h => ?_)
       ·conv=>whnf
        refine Tr.cond ?_
        conv=>whnf
        refine rg ?_
        conv=>whnf
        refine rg ?_
        conv=>whnf
        cases h
        exact Wk.mk2 [0, 1, 2] 3 rfl rfl (by decide) rfl ⟨rr, rr, rr, trivial⟩ ⟨rr, rr, rr, rr, rr, rr, rr, rr, trivial⟩
       conv=>whnf
       refine Tr.cond ?_
       conv=>whnf
       refine cB h (fun hb55 h => ?_) (fun hb55 h => ?_)
       ·refine rg ?_
        conv=>whnf
        refine rg ?_
        conv=>whnf
        cases h
        exact Wk.mk2 [0, 1, 2] 3 rfl rfl (by decide) rfl ⟨rr, rr, rr, trivial⟩ ⟨rr, rr, rr, rr, rr, rr, rr, rr, trivial⟩
       refine Tr.skip ?_
       conv=>whnf
       refine rg ?_
       conv=>whnf
       cases h
       exact Wk.mk2 [0, 1, 2] 3 rfl rfl (by decide) rfl ⟨rr, rr, rr, trivial⟩ ⟨rr, rr, rr, rr, rr, rr, rr, rr, trivial⟩
      clear hv47
      conv=>whnf
      refine Tr.weak hw ?_
      refine rg ?_
      conv=>whnf
      refine arS_raw ?_
      conv=>whnf
      refine ⟨((w64 (i_30 + 1)), v_44, v_45, v_46), h, ?_⟩
      exact Wk.mk2 [0, 1, 2] 3 rfl rfl (by decide) rfl ⟨rr, rr, rr, trivial⟩ ⟨rr, rr, rr, rr, rr, rr, rr, rr, trivial⟩
     refine Tr.exit ?_
     conv=>whnf
     cases h
     exact Wk.mk2 [0, 1, 2] 3 rfl rfl (by decide) rfl ⟨rr, rr, rr, trivial⟩ ⟨rr, rr, rr, rr, rr, rr, trivial⟩
    conv=>whnf
    refine Tr.cond ?_
    conv=>whnf
    refine Tr.exit ?_
    conv=>whnf
    cases h
    exact Wk.mk2 [0, 1, 2] 3 rfl rfl (by decide) rfl ⟨rr, rr, rr, trivial⟩ ⟨rr, rr, rr, rr, rr, rr, trivial⟩
   clear hv56
   conv=>whnf
   refine Tr.weak hw ?_
   refine rg ?_
   conv=>whnf
   refine arS_raw ?_
   conv=>whnf
   refine ⟨((w64 (w_13 + 1)), v_35, v_36, v_37), h, ?_⟩
   exact Wk.mk2 [0, 1, 2] 3 rfl rfl (by decide) rfl ⟨rr, rr, rr, trivial⟩ ⟨rr, rr, rr, rr, rr, rr, trivial⟩
  refine Tr.exit ?_
  conv=>whnf
  cases h
  exact Wk.mk2 [1, 2] 3 rfl rfl (by decide) rfl ⟨rr, rr, trivial⟩ ⟨⟨rfl, (by first | rfl | (simp only [↓hb7, ↓hb23, bl, List.length_set]; done) | (simp only [↓hb7, ↓hb23, bl, List.length_set]; rfl))⟩, rr, ⟨rfl, (by first | rfl | (simp only [↓hb7, ↓hb23, bl, List.length_set]; done) | (simp only [↓hb7, ↓hb23, bl, List.length_set]; rfl))⟩, trivial⟩
 clear hv57
 conv=>whnf
 refine Tr.weak hw ?_
 refine Tr.seq ?_
 refine Tr.cutQ1 ([(4, .pt 0 0), (5, (dI 0)), (7, .pt 1 0)]) ([some (.var [(dI 0), (dI 0), (dI 0), (dI 0), .d (.b false)]), some (.var [(dI x_8.Bib), (dI (bif (v_18 == 0) then 3 else (bif (v_18 == v_19) then (bif (!v_20) then 1 else 2) else 2))), (dI v_18), (dI v_19), .d (.b v_20)])]) ?_ (fun T1 H1 hw => ?_)
 ·refine Tr.block ?_
  refine sg ?_
  conv=>whnf
  refine Tr.cond ?_
  conv=>whnf
  refine condS_mk (fun hb59 => ?_) (fun hb59 => ?_)
  ·refine rg ?_
   conv=>whnf
   exact Wk.mk2 [0, 1] 2 rfl rfl (by decide) rfl ⟨rr, ⟨rfl, (by first | rfl | (simp only [↓hb7, ↓hb59, bl, List.length_set]; done) | (simp only [↓hb7, ↓hb59, bl, List.length_set]; rfl))⟩, trivial⟩ ⟨rr, rr, rr, trivial⟩
  refine sg ?_
  conv=>whnf
  refine condS_mk (fun hb60 => ?_) (fun hb60 => ?_)
  ·conv=>whnf
   refine Tr.cond ?_
   conv=>whnf
   refine condS_mk (fun hb61 => ?_) (fun hb61 => ?_)
   ·refine rg ?_
    conv=>whnf
    exact Wk.mk2 [0, 1] 2 rfl rfl (by decide) rfl ⟨rr, ⟨rfl, (by first | rfl | (simp only [↓hb7, ↓hb59, ↓hb60, ↓hb61, bl, List.length_set]; done) | (simp only [↓hb7, ↓hb59, ↓hb60, ↓hb61, bl, List.length_set]; rfl))⟩, trivial⟩ ⟨rr, rr, rr, trivial⟩
   refine rg ?_
   conv=>whnf
   exact Wk.mk2 [0, 1] 2 rfl rfl (by decide) rfl ⟨rr, ⟨rfl, (by first | rfl | (simp only [↓hb7, ↓hb59, ↓hb60, ↓hb61, bl, List.length_set]; done) | (simp only [↓hb7, ↓hb59, ↓hb60, ↓hb61, bl, List.length_set]; rfl))⟩, trivial⟩ ⟨rr, rr, rr, trivial⟩
  conv=>whnf
  refine Tr.cond ?_
  conv=>whnf
  refine rg ?_
  conv=>whnf
  exact Wk.mk2 [0, 1] 2 rfl rfl (by decide) rfl ⟨rr, ⟨rfl, (by first | rfl | (simp only [↓hb7, ↓hb59, ↓hb60, bl, List.length_set]; done) | (simp only [↓hb7, ↓hb59, ↓hb60, bl, List.length_set]; rfl))⟩, trivial⟩ ⟨rr, rr, rr, trivial⟩
 conv=>whnf
 refine Tr.weak hw ?_
 refine sg ?_
 conv=>whnf
 refine Tr.ret ?_
 conv=>whnf
 cases h
 rfl
end Go.Proofs.Try
