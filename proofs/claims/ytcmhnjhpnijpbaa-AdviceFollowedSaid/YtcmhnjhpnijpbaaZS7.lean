/- Contracts of functions, by program (gen.py). No condition. -/
import Derived.Test.YtcmhnjhpnijpbaaZL
import Derived.Test.YtcmhnjhpnijpbaaZM
import Derived.Test.YtcmhnjhpnijpbaaZCB
import Derived.Test.YtcmhnjhpnijpbaaZS6
namespace Go.Proofs.Try
open Go Go.Abs Go.Stop
set_option maxRecDepth 8000
set_option linter.unusedVariables false
set_option linter.unusedSimpArgs false
theorem P180 (x_1 : TOutcome) (l_2 : List TSpan) (r_3 : Bool) (h : M180 x_1 l_2 = some r_3) :
    PC prog 66 [(eTOutcome x_1), (.ls (List.map eTSpan l_2))] (fun rs => rs = [(.b r_3)]) := by
 refine PC.of_tr (cx := ⟨45, none, lay, 0⟩) layOK func66 rfl rfl rfl rfl rfl (by simp [f66]) ?_
 unfold M180 at h
 refine sg ?_
 conv=>whnf
 refine sg ?_
 conv=>whnf
 refine Tr.seq ?_
 refine sg ?_
 conv=>whnf
 refine Tr.cutQ (α := Unit) (fun s => ([(4, .d (.b false))], [])) (fun s => M179 s = some r_3) ?_ ?_
 ·refine Tr.block ?_
  refine Tr.loopM (σ := Int × Int) (fun n s => M178 x_1 l_2 M179 n s.1 s.2) r_3 (fun s => ([(1, .d (.ls (List.map eTSpan l_2))), (2, .pt 0 0), (4, .d (.b false)), (5, (dI s.1)), (6, (dI s.2))], [some (.var [.d (.b x_1.Out), (dI x_1.Seg), (dI x_1.Lo), (dI x_1.Hi)])])) (((((l_2).length : Int)) - 0 : Int).toNat + 1) (x_1.Lo, 0) h (fun s => rfl) (Wk.mk2 [0] 1 rfl rfl (by decide) rfl ⟨rr, trivial⟩ ⟨rr, rr, rr, rr, rr, trivial⟩) ?_
  clear h
  rintro n_8 ⟨at_6, i_7⟩ h
  replace h : M178 x_1 l_2 M179 (n_8 + 1) at_6 i_7 = some r_3 := h
  rw [M178] at h
  refine Tr.seq ?_
  refine sg ?_
  conv=>whnf
  refine lnS_map ?_
  conv=>whnf
  refine Tr.cond ?_
  conv=>whnf
  refine cB h (fun hb11 h => ?_) (fun hb11 h => ?_)
  ·refine Tr.skip ?_
   conv=>whnf
   refine Tr.seq ?_
   refine Tr.block ?_
   refine Tr.seq ?_
   obtain ⟨v_12, hv13, h⟩ := bS h
   refine Tr.cutQ1 ([(1, .d (.ls (List.map eTSpan l_2))), (2, .pt 0 0), (4, .d (.b false)), (5, (dI at_6)), (6, (dI i_7)), (30, .d (.b v_12))]) ([some (.var [.d (.b x_1.Out), (dI x_1.Seg), (dI x_1.Lo), (dI x_1.Hi)])]) ?_ (fun T1 H1 hw => ?_)
   ·replace h := hv13; clear hv13
    refine rg ?_
    conv=>whnf
    obtain ⟨x_14, hx_14, h⟩ := bS h
    refine ixP_of hx_14 ?_
    conv=>whnf
    refine cB h (fun hb15 h => ?_) (fun hb15 h => ?_)
    ·conv=>whnf
     obtain ⟨x_16, hx_16, h⟩ := bS h
     refine ixP_of hx_16 ?_
     conv=>whnf
     cases h
     exact Wk.mk2 [0] 1 rfl rfl (by decide) rfl ⟨rr, trivial⟩ ⟨rr, rr, rr, rr, rr, rr, trivial⟩
    conv=>whnf
    cases h
    exact Wk.mk2 [0] 1 rfl rfl (by decide) rfl ⟨rr, trivial⟩ ⟨rr, rr, rr, rr, rr, rr, trivial⟩
   clear hv13
   conv=>whnf
   refine Tr.weak hw ?_
   refine Tr.cond ?_
   conv=>whnf
   refine cB h (fun hb17 h => ?_) (fun hb17 h => ?_)
   ·refine Tr.seq ?_
    refine sd [] [(0,1),(1,1),(2,2),(3,2),(4,2),(5,3),(6,3),(7,1)] ?_
    conv=>whnf
    refine q1 ?_
    conv=>whnf
    refine q1 ?_
    conv=>whnf
    obtain ⟨x_18, hx_18, h⟩ := bS h
    refine q3 (ixP_of hx_18 rr) ?_
    conv=>whnf
    refine q2 ?_
    conv=>whnf
    refine q2 ?_
    conv=>whnf
    refine q2 ?_
    conv=>whnf
    refine q2 ?_
    conv=>whnf
    refine q1 ?_
    conv=>whnf
    refine Tr.cond ?_
    conv=>whnf
    refine cB h (fun hb19 h => ?_) (fun hb19 h => ?_)
    ·refine sg ?_
     conv=>whnf
     refine Tr.ret ?_
     conv=>whnf
     cases h
     rfl
    refine Tr.skip ?_
    conv=>whnf
    refine rg ?_
    conv=>whnf
    obtain ⟨x_20, hx_20, h⟩ := bS h
    refine ixP_of hx_20 ?_
    conv=>whnf
    refine arS_raw ?_
    conv=>whnf
    refine rg ?_
    conv=>whnf
    refine arS_raw ?_
    conv=>whnf
    refine ⟨((w64 (x_20.Hi + 1)), (w64 (i_7 + 1))), h, ?_⟩
    exact Wk.mk2 [0] 1 rfl rfl (by decide) rfl ⟨rr, trivial⟩ ⟨rr, rr, rr, rr, rr, trivial⟩
   refine Tr.skip ?_
   conv=>whnf
   refine rg ?_
   conv=>whnf
   refine arS_raw ?_
   conv=>whnf
   refine ⟨(at_6, (w64 (i_7 + 1))), h, ?_⟩
   exact Wk.mk2 [0] 1 rfl rfl (by decide) rfl ⟨rr, trivial⟩ ⟨rr, rr, rr, rr, rr, trivial⟩
  refine Tr.exit ?_
  conv=>whnf
  refine ⟨(), h, ?_⟩
  exact Wk.mk2 [] 1 rfl rfl (by decide) rfl trivial ⟨rr, trivial⟩
 clear h
 rintro _ h T1 H1 hw
 replace h : M179 () = some r_3 := h
 conv=>whnf
 refine Tr.weak hw ?_
 unfold M179 at h
 refine sg ?_
 conv=>whnf
 refine Tr.ret ?_
 conv=>whnf
 cases h
 rfl
theorem P187 (f_1 : TField) (x_2 : TLook) (r_3 : Bool) (h : M187 f_1 x_2 = some r_3) :
    PC prog 41 [(eTField f_1), (eTLook x_2)] (fun rs => rs = [(.b r_3)]) := by
 refine PC.of_tr (cx := ⟨115, none, lay, 0⟩) layOK func41 rfl rfl rfl rfl rfl (by simp [f41]) ?_
 unfold M187 at h
 refine sg ?_
 conv=>whnf
 refine Tr.seq ?_
 refine Tr.seq ?_
 refine Tr.cutQ1 ([(2, .pt 0 0), (3, .pt 1 0), (4, .d (.b false)), (31, .d (.b ((decide (x_2.Runner < 0)) || ((decide (x_2.Runner ≥ (((f_1.Runners).length : Int)))) || ((decide ((((x_2.Answers).length : Int)) < 1)) || (decide ((((x_2.Answers).length : Int)) > 4)))))))]) ([some (.var [.d (.ls (List.map eTSegment f_1.Clocks.Segments)), .d (.ls (List.map (eL eI) f_1.Clocks.Far)), .d (.ls (List.map eTPair f_1.Pairs)), .d (.ls (List.map eTRunner f_1.Runners))]), some (.var [(dI x_2.Runner), .d (.ls (List.map eTSpan x_2.Answers))])]) ?_ (fun T1 H1 hw => ?_)
 ·refine rg ?_
  conv=>whnf
  refine condS_mk (fun hb5 => ?_) (fun hb5 => ?_)
  ·conv=>whnf
   exact Wk.mk2 [0, 1] 2 rfl rfl (by decide) rfl ⟨rr, rr, trivial⟩ ⟨rr, rr, rr, ⟨rfl, (by first | rfl | (simp only [↓hb5, bl, List.length_set]; done) | (simp only [↓hb5, bl, List.length_set]; rfl))⟩, trivial⟩
  conv=>whnf
  refine lnS_map ?_
  conv=>whnf
  refine condS_mk (fun hb6 => ?_) (fun hb6 => ?_)
  ·conv=>whnf
   exact Wk.mk2 [0, 1] 2 rfl rfl (by decide) rfl ⟨rr, rr, trivial⟩ ⟨rr, rr, rr, ⟨rfl, (by first | rfl | (simp only [↓hb5, ↓hb6, bl, List.length_set]; done) | (simp only [↓hb5, ↓hb6, bl, List.length_set]; rfl))⟩, trivial⟩
  conv=>whnf
  refine lnS_map ?_
  conv=>whnf
  refine condS_mk (fun hb7 => ?_) (fun hb7 => ?_)
  ·conv=>whnf
   exact Wk.mk2 [0, 1] 2 rfl rfl (by decide) rfl ⟨rr, rr, trivial⟩ ⟨rr, rr, rr, ⟨rfl, (by first | rfl | (simp only [↓hb5, ↓hb6, ↓hb7, bl, List.length_set]; done) | (simp only [↓hb5, ↓hb6, ↓hb7, bl, List.length_set]; rfl))⟩, trivial⟩
  conv=>whnf
  refine lnS_map ?_
  conv=>whnf
  exact Wk.mk2 [0, 1] 2 rfl rfl (by decide) rfl ⟨rr, rr, trivial⟩ ⟨rr, rr, rr, ⟨rfl, (by first | rfl | (simp only [↓hb5, ↓hb6, ↓hb7, bl, List.length_set]; done) | (simp only [↓hb5, ↓hb6, ↓hb7, bl, List.length_set]; rfl))⟩, trivial⟩
 conv=>whnf
 refine Tr.weak hw ?_
 refine Tr.cond ?_
 conv=>whnf
 refine cB h (fun hb8 h => ?_) (fun hb8 h => ?_)
 ·refine sg ?_
  conv=>whnf
  refine Tr.ret ?_
  conv=>whnf
  cases h
  rfl
 refine Tr.skip ?_
 conv=>whnf
 refine Tr.seq ?_
 refine sg ?_
 conv=>whnf
 refine Tr.cutQ (α := Unit) (fun s => ([(2, .pt 0 0), (3, .pt 1 0), (4, .d (.b false))], [some (.var [.d (.ls (List.map eTSegment f_1.Clocks.Segments)), .d (.ls (List.map (eL eI) f_1.Clocks.Far)), .d (.ls (List.map eTPair f_1.Pairs)), .d (.ls (List.map eTRunner f_1.Runners))]), some (.var [(dI x_2.Runner), .d (.ls (List.map eTSpan x_2.Answers))])])) (fun s => M186 f_1 x_2 s = some r_3) ?_ ?_
 ·refine Tr.block ?_
  refine Tr.loopM (σ := Int) (fun n s => M181 x_2 (M186 f_1 x_2) n s) r_3 (fun s => ([(2, .pt 0 0), (3, .pt 1 0), (4, .d (.b false)), (5, (dI s))], [some (.var [.d (.ls (List.map eTSegment f_1.Clocks.Segments)), .d (.ls (List.map (eL eI) f_1.Clocks.Far)), .d (.ls (List.map eTPair f_1.Pairs)), .d (.ls (List.map eTRunner f_1.Runners))]), some (.var [(dI x_2.Runner), .d (.ls (List.map eTSpan x_2.Answers))])])) (((((x_2.Answers).length : Int)) - 0 : Int).toNat + 1) (0) h (fun s => rfl) (Wk.mk2 [0, 1] 2 rfl rfl (by decide) rfl ⟨rr, rr, trivial⟩ ⟨rr, rr, rr, rr, trivial⟩) ?_
  clear h
  rintro n_11 i_10 h
  replace h : M181 x_2 (M186 f_1 x_2) (n_11 + 1) i_10 = some r_3 := h
  rw [M181] at h
  refine Tr.seq ?_
  refine sg ?_
  conv=>whnf
  refine lnS_map ?_
  conv=>whnf
  refine Tr.cond ?_
  conv=>whnf
  refine cB h (fun hb14 h => ?_) (fun hb14 h => ?_)
  ·refine Tr.skip ?_
   conv=>whnf
   refine Tr.seq ?_
   refine Tr.block ?_
   refine sd [] [(0,4),(1,4),(2,1),(3,2),(4,2),(5,2),(6,4),(7,4),(8,1),(9,2),(10,2),(11,2),(12,1),(13,1),(14,1),(15,1),(16,1),(17,4),(18,4),(19,1),(20,2),(21,2),(22,2),(23,4),(24,4),(25,1),(26,1),(27,2),(28,2),(29,2),(30,1),(31,1),(32,1)] ?_
   conv=>whnf
   refine q2 ?_
   conv=>whnf
   refine q2 ?_
   conv=>whnf
   refine q1 ?_
   conv=>whnf
   obtain ⟨x_15, hx_15, h⟩ := bS h
   refine q3 (ixP_of hx_15 rr) ?_
   conv=>whnf
   refine q2 ?_
   conv=>whnf
   refine q2 ?_
   conv=>whnf
   refine q2 ?_
   conv=>whnf
   refine q2 ?_
   conv=>whnf
   refine q1 ?_
   conv=>whnf
   obtain ⟨x_16, hx_16, h⟩ := bS h
   refine q3 (ixP_of hx_16 rr) ?_
   conv=>whnf
   refine q2 ?_
   conv=>whnf
   refine q2 ?_
   conv=>whnf
   refine q1 ?_
   conv=>whnf
   refine q1 ?_
   conv=>whnf
   refine cB h (fun hb17 h => ?_) (fun hb17 h => ?_)
   ·conv=>whnf
    refine q1 ?_
    conv=>whnf
    refine Tr.cond ?_
    conv=>whnf
    refine sg ?_
    conv=>whnf
    refine Tr.ret ?_
    conv=>whnf
    cases h
    rfl
   conv=>whnf
   refine q1 ?_
   conv=>whnf
   refine q1 ?_
   conv=>whnf
   refine q1 ?_
   conv=>whnf
   refine cB h (fun hb18 h => ?_) (fun hb18 h => ?_)
   ·conv=>whnf
    refine q2 ?_
    conv=>whnf
    refine q2 ?_
    conv=>whnf
    refine q1 ?_
    conv=>whnf
    obtain ⟨x_19, hx_19, h⟩ := bS h
    refine q3 (ixP_of hx_19 rr) ?_
    conv=>whnf
    refine q2 ?_
    conv=>whnf
    refine q2 ?_
    conv=>whnf
    refine q2 ?_
    conv=>whnf
    refine q2 ?_
    conv=>whnf
    refine q1 ?_
    conv=>whnf
    refine q4 ?_
    conv=>whnf
    obtain ⟨x_20, hx_20, h⟩ := bS h
    refine q3 (ixP_of hx_20 rr) ?_
    conv=>whnf
    refine q2 ?_
    conv=>whnf
    refine q2 ?_
    conv=>whnf
    refine q1 ?_
    conv=>whnf
    refine q1 ?_
    conv=>whnf
    refine q1 ?_
    conv=>whnf
    refine Tr.cond ?_
    conv=>whnf
    refine cB h (fun hb21 h => ?_) (fun hb21 h => ?_)
    ·refine sg ?_
     conv=>whnf
     refine Tr.ret ?_
     conv=>whnf
     cases h
     rfl
    refine Tr.skip ?_
    conv=>whnf
    refine rg ?_
    conv=>whnf
    refine arS_raw ?_
    conv=>whnf
    refine ⟨((w64 (i_10 + 1))), h, ?_⟩
    exact Wk.mk2 [0, 1] 2 rfl rfl (by decide) rfl ⟨rr, rr, trivial⟩ ⟨rr, rr, rr, rr, trivial⟩
   conv=>whnf
   refine q1 ?_
   conv=>whnf
   refine q1 ?_
   conv=>whnf
   refine Tr.cond ?_
   conv=>whnf
   refine Tr.skip ?_
   conv=>whnf
   refine rg ?_
   conv=>whnf
   refine arS_raw ?_
   conv=>whnf
   refine ⟨((w64 (i_10 + 1))), h, ?_⟩
   exact Wk.mk2 [0, 1] 2 rfl rfl (by decide) rfl ⟨rr, rr, trivial⟩ ⟨rr, rr, rr, rr, trivial⟩
  refine Tr.exit ?_
  conv=>whnf
  refine ⟨(), h, ?_⟩
  exact Wk.mk2 [0, 1] 2 rfl rfl (by decide) rfl ⟨rr, rr, trivial⟩ ⟨rr, rr, rr, trivial⟩
 clear h
 rintro _ h T1 H1 hw
 replace h : M186 f_1 x_2 () = some r_3 := h
 conv=>whnf
 refine Tr.weak hw ?_
 unfold M186 at h
 refine sg ?_
 conv=>whnf
 obtain ⟨x_22, hx_22, h⟩ := bS h
 refine ixP_of hx_22 ?_
 conv=>whnf
 refine Tr.seq ?_
 refine sg ?_
 conv=>whnf
 refine Tr.cutQ (α := Unit) (fun s => ([(4, .d (.b false))], [])) (fun s => M185 s = some r_3) ?_ ?_
 ·refine Tr.block ?_
  refine Tr.loopM (σ := Int) (fun n s => M184 x_2 x_22 M185 n s) r_3 (fun s => ([(3, .pt 0 0), (4, .d (.b false)), (6, .d (.ls (List.map (eL eTOutcome) x_22.Worlds))), (7, (dI s))], [some (.var [(dI x_2.Runner), .d (.ls (List.map eTSpan x_2.Answers))])])) (((((x_22.Worlds).length : Int)) - 0 : Int).toNat + 1) (0) h (fun s => rfl) (Wk.mk2 [1] 2 rfl rfl (by decide) rfl ⟨rr, trivial⟩ ⟨⟨rfl, (by first | rfl | (simp only [↓hb8, bl, List.length_set]; done) | (simp only [↓hb8, bl, List.length_set]; rfl))⟩, rr, rr, rr, trivial⟩) ?_
  clear h
  rintro n_25 w_24 h
  replace h : M184 x_2 x_22 M185 (n_25 + 1) w_24 = some r_3 := h
  rw [M184] at h
  refine Tr.seq ?_
  refine sg ?_
  conv=>whnf
  refine lnS_map ?_
  conv=>whnf
  refine Tr.cond ?_
  conv=>whnf
  refine cB h (fun hb28 h => ?_) (fun hb28 h => ?_)
  ·refine Tr.skip ?_
   conv=>whnf
   refine Tr.seq ?_
   refine Tr.block ?_
   refine sg ?_
   conv=>whnf
   refine Tr.cutQ (α := Unit) (fun s => ([(3, .pt 0 0), (4, .d (.b false)), (6, .d (.ls (List.map (eL eTOutcome) x_22.Worlds))), (7, (dI w_24))], [some (.var [(dI x_2.Runner), .d (.ls (List.map eTSpan x_2.Answers))])])) (fun s => M183 w_24 (M184 x_2 x_22 M185 n_25) s = some r_3) ?_ ?_
   ·refine Tr.block ?_
    refine Tr.loopM (σ := Int) (fun n s => M182 x_2 x_22 w_24 (M183 w_24 (M184 x_2 x_22 M185 n_25)) n s) r_3 (fun s => ([(3, .pt 0 0), (4, .d (.b false)), (6, .d (.ls (List.map (eL eTOutcome) x_22.Worlds))), (7, (dI w_24)), (8, (dI s))], [some (.var [(dI x_2.Runner), .d (.ls (List.map eTSpan x_2.Answers))])])) ((((((Option.getD (idx x_22.Worlds w_24) default)).length : Int)) - 0 : Int).toNat + 1) (0) h (fun s => rfl) (Wk.mk2 [0] 1 rfl rfl (by decide) rfl ⟨rr, trivial⟩ ⟨rr, rr, rr, rr, rr, trivial⟩) ?_
    clear h
    rintro n_31 i_30 h
    replace h : M182 x_2 x_22 w_24 (M183 w_24 (M184 x_2 x_22 M185 n_25)) (n_31 + 1) i_30 = some r_3 := h
    rw [M182] at h
    refine Tr.seq ?_
    refine sg ?_
    conv=>whnf
    obtain ⟨x_34, hx_34, h⟩ := bS h
    refine ixP_of hx_34 ?_
    conv=>whnf
    refine lnS_map ?_
    conv=>whnf
    refine Tr.cond ?_
    conv=>whnf
    refine cB h (fun hb35 h => ?_) (fun hb35 h => ?_)
    ·refine Tr.skip ?_
     conv=>whnf
     refine Tr.seq ?_
     refine Tr.block ?_
     refine sd [] [(0,1),(1,1),(2,2),(3,2),(4,1),(5,2),(6,2),(7,2),(8,1),(9,1),(10,1),(11,2),(12,2),(13,1),(14,2),(15,2),(16,3),(17,3),(18,1),(19,1),(20,1)] ?_
     conv=>whnf
     refine q1 ?_
     conv=>whnf
     refine q1 ?_
     conv=>whnf
     obtain ⟨x_36, hx_36, h⟩ := bS h
     refine q3 (ixP_of hx_36 rr) ?_
     conv=>whnf
     refine q2 ?_
     conv=>whnf
     refine q1 ?_
     conv=>whnf
     obtain ⟨x_37, hx_37, h⟩ := bS h
     refine q3 (ixP_of hx_37 rr) ?_
     conv=>whnf
     refine q2 ?_
     conv=>whnf
     refine q2 ?_
     conv=>whnf
     refine q1 ?_
     conv=>whnf
     refine cB h (fun hb38 h => ?_) (fun hb38 h => ?_)
     ·conv=>whnf
      refine q1 ?_
      conv=>whnf
      refine Tr.cond ?_
      conv=>whnf
      refine sg ?_
      conv=>whnf
      refine Tr.ret ?_
      conv=>whnf
      cases h
      rfl
     conv=>whnf
     refine q1 ?_
     conv=>whnf
     refine q1 ?_
     conv=>whnf
     obtain ⟨x_39, hx_39, h⟩ := bS h
     refine q3 (ixP_of hx_39 rr) ?_
     conv=>whnf
     refine q2 ?_
     conv=>whnf
     refine q1 ?_
     conv=>whnf
     obtain ⟨x_40, hx_40, h⟩ := bS h
     refine q3 (ixP_of hx_40 rr) ?_
     conv=>whnf
     refine q2 ?_
     conv=>whnf
     refine q2 ?_
     conv=>whnf
     refine q2 ?_
     conv=>whnf
     obtain ⟨r_41, hc42, h⟩ := bS h
     refine q1 ?_ (fun _ => pe (P180 x_40 x_2.Answers r_41 hc42) rr)
     conv=>whnf
     refine q1 ?_
     conv=>whnf
     refine q1 ?_
     conv=>whnf
     refine Tr.cond ?_
     conv=>whnf
     refine cB h (fun hb43 h => ?_) (fun hb43 h => ?_)
     ·refine sg ?_
      conv=>whnf
      refine Tr.ret ?_
      conv=>whnf
      cases h
      rfl
     refine Tr.skip ?_
     conv=>whnf
     refine rg ?_
     conv=>whnf
     refine arS_raw ?_
     conv=>whnf
     refine ⟨((w64 (i_30 + 1))), h, ?_⟩
     exact Wk.mk2 [0] 1 rfl rfl (by decide) rfl ⟨rr, trivial⟩ ⟨rr, rr, rr, rr, rr, trivial⟩
    refine Tr.exit ?_
    conv=>whnf
    refine ⟨(), h, ?_⟩
    exact Wk.mk2 [0] 1 rfl rfl (by decide) rfl ⟨rr, trivial⟩ ⟨rr, rr, rr, rr, trivial⟩
   clear h
   rintro _ h T1 H1 hw
   replace h : M183 w_24 (M184 x_2 x_22 M185 n_25) () = some r_3 := h
   conv=>whnf
   refine Tr.weak hw ?_
   unfold M183 at h
   refine rg ?_
   conv=>whnf
   refine arS_raw ?_
   conv=>whnf
   refine ⟨((w64 (w_24 + 1))), h, ?_⟩
   exact Wk.mk2 [0] 1 rfl rfl (by decide) rfl ⟨rr, trivial⟩ ⟨rr, rr, rr, rr, trivial⟩
  refine Tr.exit ?_
  conv=>whnf
  refine ⟨(), h, ?_⟩
  exact Wk.mk2 [] 1 rfl rfl (by decide) rfl trivial ⟨rr, trivial⟩
 clear h
 rintro _ h T1 H1 hw
 replace h : M185 () = some r_3 := h
 conv=>whnf
 refine Tr.weak hw ?_
 unfold M185 at h
 refine sg ?_
 conv=>whnf
 refine Tr.ret ?_
 conv=>whnf
 cases h
 rfl
theorem P190 (q_1 : TQuestion) (r_2 : Int) (h : M190 q_1 = some r_2) :
    PC prog 21 [(eTQuestion q_1)] (fun rs => rs = [(.i .i64 r_2)]) := by
 refine PC.of_tr (cx := ⟨44, none, lay, 0⟩) layOK func21 rfl rfl rfl rfl rfl (by simp [f21]) ?_
 unfold M190 at h
 refine sg ?_
 conv=>whnf
 refine Tr.seq ?_
 refine Tr.seq ?_
 obtain ⟨v_3, hv4, h⟩ := bS h
 refine Tr.cutQ1 ([(1, .pt 0 0), (2, (dI 0)), (27, .d (.b v_3))]) ([some (.var [.d (.ls (List.map eTSegment q_1.Field.Clocks.Segments)), .d (.ls (List.map (eL eI) q_1.Field.Clocks.Far)), .d (.ls (List.map eTPair q_1.Field.Pairs)), .d (.ls (List.map eTRunner q_1.Field.Runners)), (dI q_1.Runner), .d (.ls (List.map eTLook q_1.Looks))])]) ?_ (fun T1 H1 hw => ?_)
 ·replace h := hv4; clear hv4
  refine rg ?_
  conv=>whnf
  obtain ⟨r_5, hc6, h⟩ := bS h
  refine PC.ecall (P177 q_1.Field r_5 hc6) (fun rs hrs => ?_)
  subst hrs
  conv=>whnf
  refine cB h (fun hb7 h => ?_) (fun hb7 h => ?_)
  ·conv=>whnf
   cases h
   exact Wk.mk2 [0] 1 rfl rfl (by decide) rfl ⟨rr, trivial⟩ ⟨rr, rr, rr, trivial⟩
  conv=>whnf
  refine cB h (fun hb8 h => ?_) (fun hb8 h => ?_)
  ·conv=>whnf
   cases h
   exact Wk.mk2 [0] 1 rfl rfl (by decide) rfl ⟨rr, trivial⟩ ⟨rr, rr, rr, trivial⟩
  conv=>whnf
  refine lnS_map ?_
  conv=>whnf
  refine cB h (fun hb9 h => ?_) (fun hb9 h => ?_)
  ·conv=>whnf
   cases h
   exact Wk.mk2 [0] 1 rfl rfl (by decide) rfl ⟨rr, trivial⟩ ⟨rr, rr, rr, trivial⟩
  conv=>whnf
  refine lnS_map ?_
  conv=>whnf
  cases h
  exact Wk.mk2 [0] 1 rfl rfl (by decide) rfl ⟨rr, trivial⟩ ⟨rr, rr, rr, trivial⟩
 clear hv4
 conv=>whnf
 refine Tr.weak hw ?_
 refine Tr.cond ?_
 conv=>whnf
 refine cB h (fun hb10 h => ?_) (fun hb10 h => ?_)
 ·refine sg ?_
  conv=>whnf
  refine Tr.ret ?_
  conv=>whnf
  cases h
  rfl
 refine Tr.skip ?_
 conv=>whnf
 refine Tr.seq ?_
 refine sg ?_
 conv=>whnf
 refine Tr.cutQ (α := Unit) (fun s => ([(2, (dI 0))], [])) (fun s => M189 s = some r_2) ?_ ?_
 ·refine Tr.block ?_
  refine Tr.loopM (σ := Int) (fun n s => M188 q_1 M189 n s) r_2 (fun s => ([(1, .pt 0 0), (2, (dI 0)), (3, (dI s))], [some (.var [.d (.ls (List.map eTSegment q_1.Field.Clocks.Segments)), .d (.ls (List.map (eL eI) q_1.Field.Clocks.Far)), .d (.ls (List.map eTPair q_1.Field.Pairs)), .d (.ls (List.map eTRunner q_1.Field.Runners)), (dI q_1.Runner), .d (.ls (List.map eTLook q_1.Looks))])])) (((((q_1.Looks).length : Int)) - 0 : Int).toNat + 1) (0) h (fun s => rfl) (Wk.mk2 [0] 1 rfl rfl (by decide) rfl ⟨rr, trivial⟩ ⟨rr, rr, rr, trivial⟩) ?_
  clear h
  rintro n_13 i_12 h
  replace h : M188 q_1 M189 (n_13 + 1) i_12 = some r_2 := h
  rw [M188] at h
  refine Tr.seq ?_
  refine sg ?_
  conv=>whnf
  refine lnS_map ?_
  conv=>whnf
  refine Tr.cond ?_
  conv=>whnf
  refine cB h (fun hb16 h => ?_) (fun hb16 h => ?_)
  ·refine Tr.skip ?_
   conv=>whnf
   refine Tr.seq ?_
   refine Tr.block ?_
   refine sd [] [(0,3),(1,3),(2,3),(3,3),(4,1),(5,2),(6,2),(7,1),(8,1)] ?_
   conv=>whnf
   refine q2 ?_
   conv=>whnf
   refine q2 ?_
   conv=>whnf
   refine q2 ?_
   conv=>whnf
   refine q2 ?_
   conv=>whnf
   refine q1 ?_
   conv=>whnf
   obtain ⟨x_17, hx_17, h⟩ := bS h
   refine q3 (ixP_of hx_17 rr) ?_
   conv=>whnf
   refine q2 ?_
   conv=>whnf
   obtain ⟨r_18, hc19, h⟩ := bS h
   refine q1 ?_ (fun _ => pe (P187 q_1.Field x_17 r_18 hc19) rr)
   conv=>whnf
   refine q1 ?_
   conv=>whnf
   refine Tr.cond ?_
   conv=>whnf
   refine cB h (fun hb20 h => ?_) (fun hb20 h => ?_)
   ·refine sg ?_
    conv=>whnf
    refine Tr.ret ?_
    conv=>whnf
    cases h
    rfl
   refine Tr.skip ?_
   conv=>whnf
   refine rg ?_
   conv=>whnf
   refine arS_raw ?_
   conv=>whnf
   refine ⟨((w64 (i_12 + 1))), h, ?_⟩
   exact Wk.mk2 [0] 1 rfl rfl (by decide) rfl ⟨rr, trivial⟩ ⟨rr, rr, rr, trivial⟩
  refine Tr.exit ?_
  conv=>whnf
  refine ⟨(), h, ?_⟩
  exact Wk.mk2 [] 1 rfl rfl (by decide) rfl trivial ⟨rr, trivial⟩
 clear h
 rintro _ h T1 H1 hw
 replace h : M189 () = some r_2 := h
 conv=>whnf
 refine Tr.weak hw ?_
 unfold M189 at h
 refine sg ?_
 conv=>whnf
 refine Tr.ret ?_
 conv=>whnf
 cases h
 rfl
theorem P230 (x_1 : TOutcome) (answers_2 : List TSpan) (r_3 : Bool) (h : M230 x_1 answers_2 = some r_3) :
    PC prog 47 [(eTOutcome x_1), (.ls (List.map eTSpan answers_2))] (fun rs => rs = [(.b r_3)]) := by
 refine PC.of_tr (cx := ⟨35, none, lay, 0⟩) layOK func47 rfl rfl rfl rfl rfl (by simp [f47]) ?_
 unfold M230 at h
 refine sg ?_
 conv=>whnf
 refine sg ?_
 conv=>whnf
 refine Tr.seq ?_
 refine sg ?_
 conv=>whnf
 refine lnS_map ?_
 conv=>whnf
 refine Tr.cutQ (α := Unit) (fun s => ([(4, .d (.b false))], [])) (fun s => M229 s = some r_3) ?_ ?_
 ·refine Tr.block ?_
  refine Tr.loopM (σ := Int × Int) (fun n s => M228 x_1 answers_2 M229 n s.1 s.2) r_3 (fun s => ([(2, .pt 0 0), (4, .d (.b false)), (5, (dI s.1)), (10, .d (.ls (List.map eTSpan answers_2))), (11, (dI (((answers_2).length : Int)))), (12, (dI s.2))], [some (.var [.d (.b x_1.Out), (dI x_1.Seg), (dI x_1.Lo), (dI x_1.Hi)])])) (((((answers_2).length : Int)) - 0 : Int).toNat + 1) (x_1.Lo, 0) h (fun s => rfl) (Wk.mk2 [0] 1 rfl rfl (by decide) rfl ⟨rr, trivial⟩ ⟨rr, rr, rr, rr, rr, rr, trivial⟩) ?_
  clear h
  rintro n_8 ⟨at_6, v_7⟩ h
  replace h : M228 x_1 answers_2 M229 (n_8 + 1) at_6 v_7 = some r_3 := h
  rw [M228] at h
  refine sg ?_
  conv=>whnf
  refine Tr.seq ?_
  refine Tr.cond ?_
  conv=>whnf
  refine cB h (fun hb11 h => ?_) (fun hb11 h => ?_)
  ·refine Tr.skip ?_
   conv=>whnf
   refine Tr.seq ?_
   refine Tr.block ?_
   refine sg ?_
   conv=>whnf
   obtain ⟨x_12, hx_12, h⟩ := bS h
   refine ixP_of hx_12 ?_
   conv=>whnf
   refine Tr.seq ?_
   refine Tr.cutQ1 ([(2, .pt 0 0), (4, .d (.b false)), (5, (dI at_6)), (7, .pt 1 0), (10, .d (.ls (List.map eTSpan answers_2))), (11, (dI (((answers_2).length : Int)))), (12, (dI v_7)), (25, .d (.b ((decide (x_12.Lo ≤ at_6)) && (decide (at_6 ≤ x_12.Hi)))))]) ([some (.var [.d (.b x_1.Out), (dI x_1.Seg), (dI x_1.Lo), (dI x_1.Hi)]), some (.var [(dI x_12.Lo), (dI x_12.Hi)])]) ?_ (fun T1 H1 hw => ?_)
   ·refine rg ?_
    conv=>whnf
    refine condS_mk (fun hb14 => ?_) (fun hb14 => ?_)
    ·conv=>whnf
     exact Wk.mk2 [0, 1] 2 rfl rfl (by decide) rfl ⟨rr, rr, trivial⟩ ⟨rr, rr, rr, rr, rr, rr, rr, ⟨rfl, (by first | rfl | (simp only [↓hb11, ↓hb14, bl, List.length_set]; done) | (simp only [↓hb11, ↓hb14, bl, List.length_set]; rfl))⟩, trivial⟩
    conv=>whnf
    exact Wk.mk2 [0, 1] 2 rfl rfl (by decide) rfl ⟨rr, rr, trivial⟩ ⟨rr, rr, rr, rr, rr, rr, rr, ⟨rfl, (by first | rfl | (simp only [↓hb11, ↓hb14, bl, List.length_set]; done) | (simp only [↓hb11, ↓hb14, bl, List.length_set]; rfl))⟩, trivial⟩
   conv=>whnf
   refine Tr.weak hw ?_
   refine Tr.cond ?_
   conv=>whnf
   refine cB h (fun hb15 h => ?_) (fun hb15 h => ?_)
   ·refine Tr.seq ?_
    refine sg ?_
    conv=>whnf
    refine Tr.cond ?_
    conv=>whnf
    refine cB h (fun hb16 h => ?_) (fun hb16 h => ?_)
    ·refine sg ?_
     conv=>whnf
     refine Tr.ret ?_
     conv=>whnf
     cases h
     rfl
    refine Tr.skip ?_
    conv=>whnf
    refine rg ?_
    conv=>whnf
    refine arS_raw ?_
    conv=>whnf
    refine rg ?_
    conv=>whnf
    refine arS_raw ?_
    conv=>whnf
    refine ⟨((w64 (x_12.Hi + 1)), (w64 (v_7 + 1))), h, ?_⟩
    exact Wk.mk2 [0] 2 rfl rfl (by decide) rfl ⟨rr, trivial⟩ ⟨rr, rr, rr, rr, rr, rr, trivial⟩
   refine Tr.skip ?_
   conv=>whnf
   refine rg ?_
   conv=>whnf
   refine arS_raw ?_
   conv=>whnf
   refine ⟨(at_6, (w64 (v_7 + 1))), h, ?_⟩
   exact Wk.mk2 [0] 2 rfl rfl (by decide) rfl ⟨rr, trivial⟩ ⟨rr, rr, rr, rr, rr, rr, trivial⟩
  refine Tr.exit ?_
  conv=>whnf
  refine ⟨(), h, ?_⟩
  exact Wk.mk2 [] 1 rfl rfl (by decide) rfl trivial ⟨rr, trivial⟩
 clear h
 rintro _ h T1 H1 hw
 replace h : M229 () = some r_3 := h
 conv=>whnf
 refine Tr.weak hw ?_
 unfold M229 at h
 refine sg ?_
 conv=>whnf
 refine Tr.ret ?_
 conv=>whnf
 cases h
 rfl
theorem P237 (q_1 : TQuestion) (r_2 : Int) (h : M237 q_1 = some r_2) :
    PC prog 24 [(eTQuestion q_1)] (fun rs => rs = [(.i .i64 r_2)]) := by
 refine PC.of_tr (cx := ⟨119, none, lay, 0⟩) layOK func24 rfl rfl rfl rfl rfl (by simp [f24]) ?_
 unfold M237 at h
 refine sg ?_
 conv=>whnf
 refine Tr.seq ?_
 refine Tr.seq ?_
 obtain ⟨v_3, hv4, h⟩ := bS h
 refine Tr.cutQ1 ([(1, .pt 0 0), (2, (dI 0)), (32, .d (.b v_3))]) ([some (.var [.d (.ls (List.map eTSegment q_1.Field.Clocks.Segments)), .d (.ls (List.map (eL eI) q_1.Field.Clocks.Far)), .d (.ls (List.map eTPair q_1.Field.Pairs)), .d (.ls (List.map eTRunner q_1.Field.Runners)), (dI q_1.Runner), .d (.ls (List.map eTLook q_1.Looks))])]) ?_ (fun T1 H1 hw => ?_)
 ·replace h := hv4; clear hv4
  refine rg ?_
  conv=>whnf
  obtain ⟨r_5, hc6, h⟩ := bS h
  refine PC.ecall (P48 q_1.Field r_5 hc6) (fun rs hrs => ?_)
  subst hrs
  conv=>whnf
  refine cB h (fun hb7 h => ?_) (fun hb7 h => ?_)
  ·conv=>whnf
   cases h
   exact Wk.mk2 [0] 1 rfl rfl (by decide) rfl ⟨rr, trivial⟩ ⟨rr, rr, rr, trivial⟩
  conv=>whnf
  refine cB h (fun hb8 h => ?_) (fun hb8 h => ?_)
  ·conv=>whnf
   cases h
   exact Wk.mk2 [0] 1 rfl rfl (by decide) rfl ⟨rr, trivial⟩ ⟨rr, rr, rr, trivial⟩
  conv=>whnf
  refine lnS_map ?_
  conv=>whnf
  refine cB h (fun hb9 h => ?_) (fun hb9 h => ?_)
  ·conv=>whnf
   cases h
   exact Wk.mk2 [0] 1 rfl rfl (by decide) rfl ⟨rr, trivial⟩ ⟨rr, rr, rr, trivial⟩
  conv=>whnf
  refine lnS_map ?_
  conv=>whnf
  cases h
  exact Wk.mk2 [0] 1 rfl rfl (by decide) rfl ⟨rr, trivial⟩ ⟨rr, rr, rr, trivial⟩
 clear hv4
 conv=>whnf
 refine Tr.weak hw ?_
 refine Tr.cond ?_
 conv=>whnf
 refine cB h (fun hb10 h => ?_) (fun hb10 h => ?_)
 ·refine sg ?_
  conv=>whnf
  refine Tr.ret ?_
  conv=>whnf
  cases h
  rfl
 refine Tr.skip ?_
 conv=>whnf
 refine Tr.seq ?_
 refine sg ?_
 conv=>whnf
 refine lnS_map ?_
 conv=>whnf
 refine Tr.cutQ (α := Unit) (fun s => ([(2, (dI 0))], [])) (fun s => M236 s = some r_2) ?_ ?_
 ·refine Tr.block ?_
  refine Tr.loopM (σ := Int) (fun n s => M235 q_1 M236 n s) r_2 (fun s => ([(1, .pt 0 0), (2, (dI 0)), (34, .d (.ls (List.map eTLook q_1.Looks))), (35, (dI (((q_1.Looks).length : Int)))), (36, (dI s))], [some (.var [.d (.ls (List.map eTSegment q_1.Field.Clocks.Segments)), .d (.ls (List.map (eL eI) q_1.Field.Clocks.Far)), .d (.ls (List.map eTPair q_1.Field.Pairs)), .d (.ls (List.map eTRunner q_1.Field.Runners)), (dI q_1.Runner), .d (.ls (List.map eTLook q_1.Looks))])])) (((((q_1.Looks).length : Int)) - 0 : Int).toNat + 1) (0) h (fun s => rfl) (Wk.mk2 [0] 1 rfl rfl (by decide) rfl ⟨rr, trivial⟩ ⟨rr, rr, rr, rr, rr, trivial⟩) ?_
  clear h
  rintro n_13 v_12 h
  replace h : M235 q_1 M236 (n_13 + 1) v_12 = some r_2 := h
  rw [M235] at h
  refine sg ?_
  conv=>whnf
  refine Tr.seq ?_
  refine Tr.cond ?_
  conv=>whnf
  refine cB h (fun hb16 h => ?_) (fun hb16 h => ?_)
  ·refine Tr.skip ?_
   conv=>whnf
   refine Tr.seq ?_
   refine Tr.block ?_
   refine sg ?_
   conv=>whnf
   obtain ⟨x_17, hx_17, h⟩ := bS h
   refine ixP_of hx_17 ?_
   conv=>whnf
   refine Tr.seq ?_
   refine Tr.seq ?_
   refine Tr.cutQ1 ([(1, .pt 0 0), (2, (dI 0)), (4, .pt 1 0), (34, .d (.ls (List.map eTLook q_1.Looks))), (35, (dI (((q_1.Looks).length : Int)))), (36, (dI v_12)), (63, .d (.b ((decide (x_17.Runner < 0)) || ((decide (x_17.Runner ≥ (((q_1.Field.Runners).length : Int)))) || ((decide ((((x_17.Answers).length : Int)) < 1)) || (decide ((((x_17.Answers).length : Int)) > 4)))))))]) ([some (.var [.d (.ls (List.map eTSegment q_1.Field.Clocks.Segments)), .d (.ls (List.map (eL eI) q_1.Field.Clocks.Far)), .d (.ls (List.map eTPair q_1.Field.Pairs)), .d (.ls (List.map eTRunner q_1.Field.Runners)), (dI q_1.Runner), .d (.ls (List.map eTLook q_1.Looks))]), some (.var [(dI x_17.Runner), .d (.ls (List.map eTSpan x_17.Answers))])]) ?_ (fun T1 H1 hw => ?_)
   ·refine rg ?_
    conv=>whnf
    refine condS_mk (fun hb19 => ?_) (fun hb19 => ?_)
    ·conv=>whnf
     exact Wk.mk2 [0, 1] 2 rfl rfl (by decide) rfl ⟨rr, rr, trivial⟩ ⟨rr, rr, rr, rr, rr, rr, ⟨rfl, (by first | rfl | (simp only [↓hb10, ↓hb16, ↓hb19, bl, List.length_set]; done) | (simp only [↓hb10, ↓hb16, ↓hb19, bl, List.length_set]; rfl))⟩, trivial⟩
    conv=>whnf
    refine lnS_map ?_
    conv=>whnf
    refine condS_mk (fun hb20 => ?_) (fun hb20 => ?_)
    ·conv=>whnf
     exact Wk.mk2 [0, 1] 2 rfl rfl (by decide) rfl ⟨rr, rr, trivial⟩ ⟨rr, rr, rr, rr, rr, rr, ⟨rfl, (by first | rfl | (simp only [↓hb10, ↓hb16, ↓hb19, ↓hb20, bl, List.length_set]; done) | (simp only [↓hb10, ↓hb16, ↓hb19, ↓hb20, bl, List.length_set]; rfl))⟩, trivial⟩
    conv=>whnf
    refine lnS_map ?_
    conv=>whnf
    refine condS_mk (fun hb21 => ?_) (fun hb21 => ?_)
    ·conv=>whnf
     exact Wk.mk2 [0, 1] 2 rfl rfl (by decide) rfl ⟨rr, rr, trivial⟩ ⟨rr, rr, rr, rr, rr, rr, ⟨rfl, (by first | rfl | (simp only [↓hb10, ↓hb16, ↓hb19, ↓hb20, ↓hb21, bl, List.length_set]; done) | (simp only [↓hb10, ↓hb16, ↓hb19, ↓hb20, ↓hb21, bl, List.length_set]; rfl))⟩, trivial⟩
    conv=>whnf
    refine lnS_map ?_
    conv=>whnf
    exact Wk.mk2 [0, 1] 2 rfl rfl (by decide) rfl ⟨rr, rr, trivial⟩ ⟨rr, rr, rr, rr, rr, rr, ⟨rfl, (by first | rfl | (simp only [↓hb10, ↓hb16, ↓hb19, ↓hb20, ↓hb21, bl, List.length_set]; done) | (simp only [↓hb10, ↓hb16, ↓hb19, ↓hb20, ↓hb21, bl, List.length_set]; rfl))⟩, trivial⟩
   conv=>whnf
   refine Tr.weak hw ?_
   refine Tr.cond ?_
   conv=>whnf
   refine cB h (fun hb22 h => ?_) (fun hb22 h => ?_)
   ·refine sg ?_
    conv=>whnf
    refine Tr.ret ?_
    conv=>whnf
    cases h
    rfl
   refine Tr.skip ?_
   conv=>whnf
   refine Tr.seq ?_
   refine sg ?_
   conv=>whnf
   refine lnS_map ?_
   conv=>whnf
   refine Tr.cutQ (α := Unit) (fun s => ([(1, .pt 0 0), (2, (dI 0)), (4, .pt 1 0), (34, .d (.ls (List.map eTLook q_1.Looks))), (35, (dI (((q_1.Looks).length : Int)))), (36, (dI v_12))], [some (.var [.d (.ls (List.map eTSegment q_1.Field.Clocks.Segments)), .d (.ls (List.map (eL eI) q_1.Field.Clocks.Far)), .d (.ls (List.map eTPair q_1.Field.Pairs)), .d (.ls (List.map eTRunner q_1.Field.Runners)), (dI q_1.Runner), .d (.ls (List.map eTLook q_1.Looks))]), some (.var [(dI x_17.Runner), .d (.ls (List.map eTSpan x_17.Answers))])])) (fun s => M234 q_1 v_12 (M235 q_1 M236 n_13) x_17 s = some r_2) ?_ ?_
   ·refine Tr.block ?_
    refine Tr.loopM (σ := Int) (fun n s => M231 x_17 (M234 q_1 v_12 (M235 q_1 M236 n_13) x_17) n s) r_2 (fun s => ([(1, .pt 0 0), (2, (dI 0)), (4, .pt 1 0), (34, .d (.ls (List.map eTLook q_1.Looks))), (35, (dI (((q_1.Looks).length : Int)))), (36, (dI v_12)), (65, .d (.ls (List.map eTSpan x_17.Answers))), (66, (dI (((x_17.Answers).length : Int)))), (67, (dI s))], [some (.var [.d (.ls (List.map eTSegment q_1.Field.Clocks.Segments)), .d (.ls (List.map (eL eI) q_1.Field.Clocks.Far)), .d (.ls (List.map eTPair q_1.Field.Pairs)), .d (.ls (List.map eTRunner q_1.Field.Runners)), (dI q_1.Runner), .d (.ls (List.map eTLook q_1.Looks))]), some (.var [(dI x_17.Runner), .d (.ls (List.map eTSpan x_17.Answers))])])) (((((x_17.Answers).length : Int)) - 0 : Int).toNat + 1) (0) h (fun s => rfl) (Wk.mk2 [0, 1] 2 rfl rfl (by decide) rfl ⟨rr, rr, trivial⟩ ⟨rr, rr, rr, rr, rr, rr, rr, rr, rr, trivial⟩) ?_
    clear h
    rintro n_25 v_24 h
    replace h : M231 x_17 (M234 q_1 v_12 (M235 q_1 M236 n_13) x_17) (n_25 + 1) v_24 = some r_2 := h
    rw [M231] at h
    refine sg ?_
    conv=>whnf
    refine Tr.seq ?_
    refine Tr.cond ?_
    conv=>whnf
    refine cB h (fun hb28 h => ?_) (fun hb28 h => ?_)
    ·refine Tr.skip ?_
     conv=>whnf
     refine Tr.seq ?_
     refine Tr.block ?_
     refine sg ?_
     conv=>whnf
     obtain ⟨x_29, hx_29, h⟩ := bS h
     refine ixP_of hx_29 ?_
     conv=>whnf
     refine sd [] [(0,5),(1,5),(2,5),(3,5),(4,1),(5,1),(6,1),(7,1),(8,1),(9,5),(10,5),(11,4),(12,4),(13,1),(14,1),(15,2),(16,2),(17,2),(18,1),(19,1),(20,1)] ?_
     conv=>whnf
     refine q2 ?_
     conv=>whnf
     refine q2 ?_
     conv=>whnf
     refine q2 ?_
     conv=>whnf
     refine q2 ?_
     conv=>whnf
     refine q1 ?_
     conv=>whnf
     refine q1 ?_
     conv=>whnf
     refine cB h (fun hb30 h => ?_) (fun hb30 h => ?_)
     ·conv=>whnf
      refine q1 ?_
      conv=>whnf
      refine Tr.cond ?_
      conv=>whnf
      refine sg ?_
      conv=>whnf
      refine Tr.ret ?_
      conv=>whnf
      cases h
      rfl
     conv=>whnf
     refine q1 ?_
     conv=>whnf
     refine q1 ?_
     conv=>whnf
     refine q1 ?_
     conv=>whnf
     refine cB h (fun hb31 h => ?_) (fun hb31 h => ?_)
     ·conv=>whnf
      refine q2 ?_
      conv=>whnf
      refine q2 ?_
      conv=>whnf
      refine q2 ?_
      conv=>whnf
      refine q2 ?_
      conv=>whnf
      refine q1 ?_
      conv=>whnf
      refine q4 ?_
      conv=>whnf
      obtain ⟨x_32, hx_32, h⟩ := bS h
      refine q3 (ixP_of hx_32 rr) ?_
      conv=>whnf
      refine q2 ?_
      conv=>whnf
      refine q2 ?_
      conv=>whnf
      refine q1 ?_
      conv=>whnf
      refine q1 ?_
      conv=>whnf
      refine q1 ?_
      conv=>whnf
      refine Tr.cond ?_
      conv=>whnf
      refine cB h (fun hb33 h => ?_) (fun hb33 h => ?_)
      ·refine sg ?_
       conv=>whnf
       refine Tr.ret ?_
       conv=>whnf
       cases h
       rfl
      refine Tr.skip ?_
      conv=>whnf
      refine rg ?_
      conv=>whnf
      refine arS_raw ?_
      conv=>whnf
      refine ⟨((w64 (v_24 + 1))), h, ?_⟩
      exact Wk.mk2 [0, 1] 3 rfl rfl (by decide) rfl ⟨rr, rr, trivial⟩ ⟨rr, rr, rr, rr, rr, rr, rr, rr, rr, trivial⟩
     conv=>whnf
     refine q1 ?_
     conv=>whnf
     refine q1 ?_
     conv=>whnf
     refine Tr.cond ?_
     conv=>whnf
     refine Tr.skip ?_
     conv=>whnf
     refine rg ?_
     conv=>whnf
     refine arS_raw ?_
     conv=>whnf
     refine ⟨((w64 (v_24 + 1))), h, ?_⟩
     exact Wk.mk2 [0, 1] 3 rfl rfl (by decide) rfl ⟨rr, rr, trivial⟩ ⟨rr, rr, rr, rr, rr, rr, rr, rr, rr, trivial⟩
    refine Tr.exit ?_
    conv=>whnf
    refine ⟨(), h, ?_⟩
    exact Wk.mk2 [0, 1] 2 rfl rfl (by decide) rfl ⟨rr, rr, trivial⟩ ⟨rr, rr, rr, rr, rr, rr, trivial⟩
   clear h
   rintro _ h T1 H1 hw
   replace h : M234 q_1 v_12 (M235 q_1 M236 n_13) x_17 () = some r_2 := h
   conv=>whnf
   refine Tr.weak hw ?_
   unfold M234 at h
   refine sg ?_
   conv=>whnf
   obtain ⟨x_34, hx_34, h⟩ := bS h
   refine ixP_of hx_34 ?_
   conv=>whnf
   obtain ⟨r_35, hc36, h⟩ := bS h
   refine PC.ecall (P31 x_34.Worlds r_35 hc36) (fun rs hrs => ?_)
   subst hrs
   conv=>whnf
   refine lnS_map ?_
   conv=>whnf
   refine Tr.cutQ (α := Unit) (fun s => ([(1, .pt 0 0), (2, (dI 0)), (34, .d (.ls (List.map eTLook q_1.Looks))), (35, (dI (((q_1.Looks).length : Int)))), (36, (dI v_12))], [some (.var [.d (.ls (List.map eTSegment q_1.Field.Clocks.Segments)), .d (.ls (List.map (eL eI) q_1.Field.Clocks.Far)), .d (.ls (List.map eTPair q_1.Field.Pairs)), .d (.ls (List.map eTRunner q_1.Field.Runners)), (dI q_1.Runner), .d (.ls (List.map eTLook q_1.Looks))])])) (fun s => M233 v_12 (M235 q_1 M236 n_13) s = some r_2) ?_ ?_
   ·refine Tr.block ?_
    refine Tr.loopM (σ := Int) (fun n s => M232 x_17 r_35 (M233 v_12 (M235 q_1 M236 n_13)) n s) r_2 (fun s => ([(1, .pt 0 0), (2, (dI 0)), (4, .pt 1 0), (34, .d (.ls (List.map eTLook q_1.Looks))), (35, (dI (((q_1.Looks).length : Int)))), (36, (dI v_12)), (102, .d (.ls (List.map eTOutcome r_35))), (103, (dI (((r_35).length : Int)))), (104, (dI s))], [some (.var [.d (.ls (List.map eTSegment q_1.Field.Clocks.Segments)), .d (.ls (List.map (eL eI) q_1.Field.Clocks.Far)), .d (.ls (List.map eTPair q_1.Field.Pairs)), .d (.ls (List.map eTRunner q_1.Field.Runners)), (dI q_1.Runner), .d (.ls (List.map eTLook q_1.Looks))]), some (.var [(dI x_17.Runner), .d (.ls (List.map eTSpan x_17.Answers))])])) (((((r_35).length : Int)) - 0 : Int).toNat + 1) (0) h (fun s => rfl) (Wk.mk2 [0, 1] 2 rfl rfl (by decide) rfl ⟨rr, rr, trivial⟩ ⟨rr, rr, rr, rr, rr, rr, rr, rr, rr, trivial⟩) ?_
    clear h
    rintro n_39 v_38 h
    replace h : M232 x_17 r_35 (M233 v_12 (M235 q_1 M236 n_13)) (n_39 + 1) v_38 = some r_2 := h
    rw [M232] at h
    refine sg ?_
    conv=>whnf
    refine Tr.seq ?_
    refine Tr.cond ?_
    conv=>whnf
    refine cB h (fun hb42 h => ?_) (fun hb42 h => ?_)
    ·refine Tr.skip ?_
     conv=>whnf
     refine Tr.seq ?_
     refine Tr.block ?_
     refine sg ?_
     conv=>whnf
     obtain ⟨x_43, hx_43, h⟩ := bS h
     refine ixP_of hx_43 ?_
     conv=>whnf
     refine sg ?_
     conv=>whnf
     refine cB h (fun hb44 h => ?_) (fun hb44 h => ?_)
     ·conv=>whnf
      refine Tr.cond ?_
      conv=>whnf
      refine sg ?_
      conv=>whnf
      refine Tr.ret ?_
      conv=>whnf
      cases h
      rfl
     conv=>whnf
     obtain ⟨r_45, hc46, h⟩ := bS h
     refine PC.ecall (P230 x_43 x_17.Answers r_45 hc46) (fun rs hrs => ?_)
     subst hrs
     conv=>whnf
     refine Tr.cond ?_
     conv=>whnf
     refine cB h (fun hb47 h => ?_) (fun hb47 h => ?_)
     ·refine sg ?_
      conv=>whnf
      refine Tr.ret ?_
      conv=>whnf
      cases h
      rfl
     refine Tr.skip ?_
     conv=>whnf
     refine rg ?_
     conv=>whnf
     refine arS_raw ?_
     conv=>whnf
     refine ⟨((w64 (v_38 + 1))), h, ?_⟩
     exact Wk.mk2 [0, 1] 3 rfl rfl (by decide) rfl ⟨rr, rr, trivial⟩ ⟨rr, rr, rr, rr, rr, rr, rr, rr, rr, trivial⟩
    refine Tr.exit ?_
    conv=>whnf
    refine ⟨(), h, ?_⟩
    exact Wk.mk2 [0] 2 rfl rfl (by decide) rfl ⟨rr, trivial⟩ ⟨rr, rr, rr, rr, rr, trivial⟩
   clear h
   rintro _ h T1 H1 hw
   replace h : M233 v_12 (M235 q_1 M236 n_13) () = some r_2 := h
   conv=>whnf
   refine Tr.weak hw ?_
   unfold M233 at h
   refine rg ?_
   conv=>whnf
   refine arS_raw ?_
   conv=>whnf
   refine ⟨((w64 (v_12 + 1))), h, ?_⟩
   exact Wk.mk2 [0] 1 rfl rfl (by decide) rfl ⟨rr, trivial⟩ ⟨rr, rr, rr, rr, rr, trivial⟩
  refine Tr.exit ?_
  conv=>whnf
  refine ⟨(), h, ?_⟩
  exact Wk.mk2 [] 1 rfl rfl (by decide) rfl trivial ⟨rr, trivial⟩
 clear h
 rintro _ h T1 H1 hw
 replace h : M236 () = some r_2 := h
 conv=>whnf
 refine Tr.weak hw ?_
 unfold M236 at h
 refine sg ?_
 conv=>whnf
 refine Tr.ret ?_
 conv=>whnf
 cases h
 rfl
theorem P238 (r_1 : TRunner) (c_2 : Int) (r_3 : Bool) (h : M238 r_1 c_2 = some r_3) :
    PC prog 74 [(eTRunner r_1), (.ro [(.i .i64 c_2)])] (fun rs => rs = [(.b r_3)]) := by
 refine PC.of_tr (cx := ⟨11, none, lay, 0⟩) layOK func74 rfl rfl rfl rfl rfl (by simp [f74]) ?_
 unfold M238 at h
 refine sg ?_
 conv=>whnf
 refine sg ?_
 conv=>whnf
 obtain ⟨x_4, hx_4, h⟩ := bS h
 refine ixP_of hx_4 ?_
 conv=>whnf
 refine lnS_map ?_
 conv=>whnf
 refine Tr.ret ?_
 conv=>whnf
 cases h
 rfl
theorem P241 (s_1 : List TRunner) (c_2 : Int) (r_3 : Int) (h : M241 s_1 c_2 = some r_3) :
    PC prog 95 [(.ls (List.map eTRunner s_1)), (.fn 74 [(.ro [(.i .i64 c_2)])])] (fun rs => rs = [(.i .i64 r_3)]) := by
 refine PC.of_tr (cx := ⟨19, none, lay, 0⟩) layOK func95 rfl rfl rfl rfl rfl (by simp [f95]) ?_
 unfold M241 at h
 refine sg ?_
 conv=>whnf
 refine Tr.seq ?_
 refine sg ?_
 conv=>whnf
 refine lnS_map ?_
 conv=>whnf
 refine Tr.cutQ (α := Unit) (fun s => ([(4, (dI 0))], [])) (fun s => M240 s = some r_3) ?_ ?_
 ·refine Tr.block ?_
  refine Tr.loopM (σ := Int) (fun n s => M239 s_1 c_2 M240 n s) r_3 (fun s => ([(0, .d (.ls (List.map eTRunner s_1))), (1, .d (.fn 74 [(.ro [(.i .i64 c_2)])])), (4, (dI 0)), (7, (dI (((s_1).length : Int)))), (8, (dI s))], [])) (((((s_1).length : Int)) - 0 : Int).toNat + 1) (0) h (fun s => rfl) (Wk.mk2 [] 0 rfl rfl (by decide) rfl trivial ⟨rr, rr, rr, rr, rr, trivial⟩) ?_
  clear h
  rintro n_6 v_5 h
  replace h : M239 s_1 c_2 M240 (n_6 + 1) v_5 = some r_3 := h
  rw [M239] at h
  refine sg ?_
  conv=>whnf
  refine Tr.seq ?_
  refine Tr.cond ?_
  conv=>whnf
  refine cB h (fun hb9 h => ?_) (fun hb9 h => ?_)
  ·refine Tr.skip ?_
   conv=>whnf
   refine Tr.seq ?_
   refine Tr.block ?_
   refine sg ?_
   conv=>whnf
   refine sg ?_
   conv=>whnf
   obtain ⟨x_10, hx_10, h⟩ := bS h
   refine ixP_of hx_10 ?_
   conv=>whnf
   obtain ⟨r_11, hc12, h⟩ := bS h
   refine PC.ecall (P238 x_10 c_2 r_11 hc12) (fun rs hrs => ?_)
   subst hrs
   conv=>whnf
   refine Tr.cond ?_
   conv=>whnf
   refine cB h (fun hb13 h => ?_) (fun hb13 h => ?_)
   ·refine sg ?_
    conv=>whnf
    refine Tr.ret ?_
    conv=>whnf
    cases h
    rfl
   refine Tr.skip ?_
   conv=>whnf
   refine rg ?_
   conv=>whnf
   refine arS_raw ?_
   conv=>whnf
   refine ⟨((w64 (v_5 + 1))), h, ?_⟩
   exact Wk.mk2 [] 0 rfl rfl (by decide) rfl trivial ⟨rr, rr, rr, rr, rr, trivial⟩
  refine Tr.exit ?_
  conv=>whnf
  refine ⟨(), h, ?_⟩
  exact Wk.mk2 [] 0 rfl rfl (by decide) rfl trivial ⟨rr, trivial⟩
 clear h
 rintro _ h T1 H1 hw
 replace h : M240 () = some r_3 := h
 conv=>whnf
 refine Tr.weak hw ?_
 unfold M240 at h
 refine sg ?_
 conv=>whnf
 refine Tr.ret ?_
 conv=>whnf
 cases h
 rfl
theorem P242 (s_1 : List TRunner) (c_2 : Int) (r_3 : Bool) (h : M242 s_1 c_2 = some r_3) :
    PC prog 73 [(.ls (List.map eTRunner s_1)), (.fn 74 [(.ro [(.i .i64 c_2)])])] (fun rs => rs = [(.b r_3)]) := by
 refine PC.of_tr (cx := ⟨9, none, lay, 0⟩) layOK func73 rfl rfl rfl rfl rfl (by simp [f73]) ?_
 unfold M242 at h
 refine sg ?_
 conv=>whnf
 refine sg ?_
 conv=>whnf
 obtain ⟨r_4, hc5, h⟩ := bS h
 refine PC.ecall (P241 s_1 c_2 r_4 hc5) (fun rs hrs => ?_)
 subst hrs
 conv=>whnf
 refine Tr.ret ?_
 conv=>whnf
 cases h
 rfl
theorem P247 (q_1 : TQuestion) (x_2 : TLook) (answer_3 : TSpan) (r_4 : TQuestion) (r_5 : Bool) (h : M247 q_1 x_2 answer_3 = some (r_4, r_5)) :
    PC prog 44 [(eTQuestion q_1), (eTLook x_2), (eTSpan answer_3)] (fun rs => rs = [(eTQuestion r_4), (.b r_5)]) := by
 refine PC.of_tr (cx := ⟨91, none, lay, 0⟩) layOK func44 rfl rfl rfl rfl rfl (by simp [f44]) ?_
 unfold M247 at h
 refine sg ?_
 conv=>whnf
 refine sg ?_
 conv=>whnf
 obtain ⟨l_6, hl_6, h⟩ := bS h
 refine NC.ecall (n_slices_Clone_Runner_Runner q_1.Field.Runners l_6 hl_6) (es' := List.map .d (List.map eTRunner l_6)) (n' := List.length l_6) rfl (fun es he => by subst he; exact ⟨rfl, by simp⟩) ?_
 conv=>whnf
 refine orB_l ?_
 conv=>whnf
 refine sg ?_
 conv=>whnf
 obtain ⟨x_7, hx_7, h⟩ := bS h
 refine ixS_of hx_7 rfl ?_
 conv=>whnf
 refine sg ?_
 conv=>whnf
 refine Tr.seq ?_
 refine sg ?_
 conv=>whnf
 refine elP_of hx_7 ?_
 conv=>whnf
 refine lnS_map ?_
 conv=>whnf
 obtain ⟨l_13, hv32, h⟩ := bS h
 refine Tr.cutQ1 ([(3, .pt 0 0), (6, .pt 1 0), (7, .d (.b false)), (8, .pe 2 3 (0 + Int.toNat x_2.Runner) 0), (9, .sl 3 1 0 (List.length l_13))]) ([some (.var [.d (.ls (List.map eTSegment q_1.Field.Clocks.Segments)), .d (.ls (List.map (eL eI) q_1.Field.Clocks.Far)), .d (.ls (List.map eTPair q_1.Field.Pairs)), .sl 2 3 0 (List.length l_6), (dI q_1.Runner), .d (.ls (List.map eTLook q_1.Looks))]), some (.var [.nsl, .nsl, .nsl, .nsl, (dI 0), .nsl]), some (.arr 3 (List.map .d (List.map eTRunner l_6))), some (.arr 1 (List.map .d (List.map (eL eTOutcome) l_13)))]) ?_ (fun T1 H1 hw => ?_)
 ·replace h := hv32; clear hv32
  refine Tr.block ?_
  refine Tr.loopM (σ := Int × List (List TOutcome)) (fun n s => M244 answer_3 x_7 n s.1 s.2) l_13 (fun s => ([(3, .pt 0 0), (5, .pt 1 0), (6, .pt 2 0), (7, .d (.b false)), (8, .pe 3 3 (0 + Int.toNat x_2.Runner) 0), (9, .sl 4 1 0 (List.length s.2)), (31, .d (.ls (List.map (eL eTOutcome) x_7.Worlds))), (32, (dI (((x_7.Worlds).length : Int)))), (33, (dI s.1))], [some (.var [.d (.ls (List.map eTSegment q_1.Field.Clocks.Segments)), .d (.ls (List.map (eL eI) q_1.Field.Clocks.Far)), .d (.ls (List.map eTPair q_1.Field.Pairs)), .sl 3 3 0 (List.length l_6), (dI q_1.Runner), .d (.ls (List.map eTLook q_1.Looks))]), some (.var [(dI answer_3.Lo), (dI answer_3.Hi)]), some (.var [.nsl, .nsl, .nsl, .nsl, (dI 0), .nsl]), some (.arr 3 (List.map .d (List.map eTRunner l_6))), some (.arr 1 (List.map .d (List.map (eL eTOutcome) s.2)))])) (((((x_7.Worlds).length : Int)) - 0 : Int).toNat + 1) (0, (([] : List (List TOutcome)))) h (fun s => rfl) (Wk.mk2 [0, 2, 3, 4, 5] 5 rfl rfl (by decide) rfl ⟨⟨rfl, (by first | rfl | (simp only [List.length_set]; rfl) | simp)⟩, rr, rr, daS_d rfl, rfl, trivial⟩ ⟨rr, ⟨rfl, (by first | rfl | (simp only [List.length_set]; rfl) | simp)⟩, ⟨rfl, (by first | rfl | (simp only [List.length_set]; rfl) | simp)⟩, rr, ⟨rfl, (by first | rfl | (simp only [List.length_set]; rfl) | simp)⟩, ⟨rfl, (by first | rfl | (simp only [List.length_set]; rfl) | simp)⟩, rr, rr, rr, trivial⟩) ?_
  clear h
  rintro n_12 ⟨v_10, l_11⟩ h
  replace h : M244 answer_3 x_7 (n_12 + 1) v_10 l_11 = some l_13 := h
  rw [M244] at h
  refine sg ?_
  conv=>whnf
  refine Tr.seq ?_
  refine Tr.cond ?_
  conv=>whnf
  refine cB h (fun hb16 h => ?_) (fun hb16 h => ?_)
  ·refine Tr.skip ?_
   conv=>whnf
   refine Tr.seq ?_
   refine Tr.block ?_
   refine sg ?_
   conv=>whnf
   obtain ⟨x_17, hx_17, h⟩ := bS h
   refine ixP_of hx_17 ?_
   conv=>whnf
   refine sg ?_
   conv=>whnf
   refine Tr.seq ?_
   refine sg ?_
   conv=>whnf
   refine lnS_map ?_
   conv=>whnf
   obtain ⟨l_23, hv30, h⟩ := bS h
   refine Tr.cutQ1 ([(3, .pt 0 0), (5, .pt 1 0), (6, .pt 2 0), (7, .d (.b false)), (8, .pe 3 3 (0 + Int.toNat x_2.Runner) 0), (9, .sl 4 1 0 (List.length l_11)), (12, .sl 5 4 0 (List.length l_23)), (31, .d (.ls (List.map (eL eTOutcome) x_7.Worlds))), (32, (dI (((x_7.Worlds).length : Int)))), (33, (dI v_10))]) ([some (.var [.d (.ls (List.map eTSegment q_1.Field.Clocks.Segments)), .d (.ls (List.map (eL eI) q_1.Field.Clocks.Far)), .d (.ls (List.map eTPair q_1.Field.Pairs)), .sl 3 3 0 (List.length l_6), (dI q_1.Runner), .d (.ls (List.map eTLook q_1.Looks))]), some (.var [(dI answer_3.Lo), (dI answer_3.Hi)]), some (.var [.nsl, .nsl, .nsl, .nsl, (dI 0), .nsl]), some (.arr 3 (List.map .d (List.map eTRunner l_6))), some (.arr 1 (List.map .d (List.map (eL eTOutcome) l_11))), some (.arr 4 (List.map .d (List.map eTOutcome l_23)))]) ?_ (fun T1 H1 hw => ?_)
   ·replace h := hv30; clear hv30
    refine Tr.block ?_
    refine Tr.loopM (σ := Int × List TOutcome) (fun n s => M243 answer_3 x_17 n s.1 s.2) l_23 (fun s => ([(3, .pt 0 0), (5, .pt 1 0), (6, .pt 2 0), (7, .d (.b false)), (8, .pe 3 3 (0 + Int.toNat x_2.Runner) 0), (9, .sl 4 1 0 (List.length l_11)), (12, .sl 5 4 0 (List.length s.2)), (31, .d (.ls (List.map (eL eTOutcome) x_7.Worlds))), (32, (dI (((x_7.Worlds).length : Int)))), (33, (dI v_10)), (37, .d (.ls (List.map eTOutcome x_17))), (38, (dI (((x_17).length : Int)))), (39, (dI s.1))], [some (.var [.d (.ls (List.map eTSegment q_1.Field.Clocks.Segments)), .d (.ls (List.map (eL eI) q_1.Field.Clocks.Far)), .d (.ls (List.map eTPair q_1.Field.Pairs)), .sl 3 3 0 (List.length l_6), (dI q_1.Runner), .d (.ls (List.map eTLook q_1.Looks))]), some (.var [(dI answer_3.Lo), (dI answer_3.Hi)]), some (.var [.nsl, .nsl, .nsl, .nsl, (dI 0), .nsl]), some (.arr 3 (List.map .d (List.map eTRunner l_6))), some (.arr 1 (List.map .d (List.map (eL eTOutcome) l_11))), some (.arr 4 (List.map .d (List.map eTOutcome s.2)))])) (((((x_17).length : Int)) - 0 : Int).toNat + 1) (0, (([] : List TOutcome))) h (fun s => rfl) (Wk.mk2 [0, 1, 2, 3, 4, 5] 5 rfl rfl (by decide) rfl ⟨rr, rr, rr, daS_d rfl, daS_d rfl, rfl, trivial⟩ ⟨rr, rr, rr, rr, rr, rr, ⟨rfl, (by first | rfl | (simp only [↓hb16, bl, List.length_set]; done) | (simp only [↓hb16, bl, List.length_set]; rfl))⟩, rr, rr, rr, rr, rr, rr, trivial⟩) ?_
    clear h
    rintro n_22 ⟨v_20, l_21⟩ h
    replace h : M243 answer_3 x_17 (n_22 + 1) v_20 l_21 = some l_23 := h
    rw [M243] at h
    refine sg ?_
    conv=>whnf
    refine Tr.seq ?_
    refine Tr.cond ?_
    conv=>whnf
    refine cB h (fun hb26 h => ?_) (fun hb26 h => ?_)
    ·refine Tr.skip ?_
     conv=>whnf
     refine Tr.seq ?_
     refine Tr.block ?_
     refine sg ?_
     conv=>whnf
     obtain ⟨x_27, hx_27, h⟩ := bS h
     refine ixP_of hx_27 ?_
     conv=>whnf
     refine sd [(11,6),(13,6)] [(0,9),(1,9),(2,4),(3,4),(4,1),(5,9),(6,9),(7,4),(8,4),(9,1),(10,9),(11,0),(12,9),(13,0)] ?_
     conv=>whnf
     refine q2 ?_
     conv=>whnf
     refine q2 ?_
     conv=>whnf
     refine q2 ?_
     conv=>whnf
     refine q2 ?_
     conv=>whnf
     refine q1 ?_
     conv=>whnf
     refine q2 ?_
     conv=>whnf
     refine q2 ?_
     conv=>whnf
     refine q2 ?_
     conv=>whnf
     refine q2 ?_
     conv=>whnf
     refine q1 ?_
     conv=>whnf
     refine q2 ?_
     conv=>whnf
     refine ⟨_, _, rr, kp_ok (by repeat (first | exact trivial | refine ⟨trivial, ?_⟩ | refine ⟨rfl, ?_⟩)), ?_⟩
     conv=>whnf
     refine q2 ?_
     conv=>whnf
     refine ⟨_, _, rr, kp_ok (by repeat (first | exact trivial | refine ⟨trivial, ?_⟩ | refine ⟨rfl, ?_⟩)), ?_⟩
     conv=>whnf
     refine sg ?_
     conv=>whnf
     refine Tr.cond ?_
     conv=>whnf
     refine cB h (fun hb28 h => ?_) (fun hb28 h => ?_)
     ·refine rg ?_
      conv=>whnf
      refine orB_r ?_
      conv=>whnf
      refine frP_no ?_
      conv=>whnf
      refine eqS_mk (by first | rfl | simp) ?_
      conv=>whnf
      obtain ⟨l_29, hl_29, h⟩ := bS h
      refine apS_of hl_29 (aQ (f := eTOutcome) (l := (([({ Out := x_27.Out, Seg := x_27.Seg, Lo := (maxG x_27.Lo answer_3.Lo), Hi := (minG x_27.Hi answer_3.Hi) } : TOutcome)] : List TOutcome))) fun _ => rfl) (by first | rfl | simp) (by first | rfl | simp) (fun he => ?_)
      conv=>whnf
      refine rS (es' := List.map .d (List.map eTOutcome l_29)) (n' := List.length l_29) (by subst he; simp only [List.map_append, List.map_cons, List.map_nil, List.nil_append]; first | done | rfl) (by subst he; simp <;> omega) ?_
      clear he
      conv=>whnf
      refine rg ?_
      conv=>whnf
      refine arS_raw ?_
      conv=>whnf
      refine ⟨((w64 (v_20 + 1)), l_29), h, ?_⟩
      exact Wk.mk2 [0, 1, 2, 3, 4, 7] 8 rfl rfl (by decide) rfl ⟨rr, rr, rr, daS_d rfl, daS_d rfl, daS_d rfl, trivial⟩ ⟨rr, rr, rr, rr, rr, rr, ⟨rfl, (by first | rfl | (simp only [↓hb16, ↓hb26, ↓hb28, bl, List.length_set]; done) | (simp only [↓hb16, ↓hb26, ↓hb28, bl, List.length_set]; rfl))⟩, rr, rr, rr, rr, rr, rr, trivial⟩
     refine Tr.skip ?_
     conv=>whnf
     refine rg ?_
     conv=>whnf
     refine arS_raw ?_
     conv=>whnf
     refine ⟨((w64 (v_20 + 1)), l_21), h, ?_⟩
     exact Wk.mk2 [0, 1, 2, 3, 4, 5] 7 rfl rfl (by decide) rfl ⟨rr, rr, rr, daS_d rfl, daS_d rfl, daS_d rfl, trivial⟩ ⟨rr, rr, rr, rr, rr, rr, rr, rr, rr, rr, rr, rr, rr, trivial⟩
    refine Tr.exit ?_
    conv=>whnf
    cases h
    exact Wk.mk2 [0, 1, 2, 3, 4, 5] 6 rfl rfl (by decide) rfl ⟨rr, rr, rr, daS_d rfl, daS_d rfl, daS_d rfl, trivial⟩ ⟨rr, rr, rr, rr, rr, rr, rr, rr, rr, rr, trivial⟩
   clear hv30
   conv=>whnf
   refine Tr.weak hw ?_
   refine rg ?_
   conv=>whnf
   refine orB_r ?_
   conv=>whnf
   refine frE_of (f := eTOutcome) (l := l_23) rfl ?_
   conv=>whnf
   refine frP_no ?_
   conv=>whnf
   refine eqS_mk (by first | rfl | simp) ?_
   conv=>whnf
   obtain ⟨l_31, hl_31, h⟩ := bS h
   refine apS_of hl_31 (aQ (f := (eL eTOutcome)) (l := (([l_23] : List (List TOutcome)))) fun _ => rfl) (by first | rfl | simp) (by first | rfl | simp) (fun he => ?_)
   conv=>whnf
   refine rS (es' := List.map .d (List.map (eL eTOutcome) l_31)) (n' := List.length l_31) (by subst he; simp only [List.map_append, List.map_cons, List.map_nil, List.nil_append]; first | done | rfl) (by subst he; simp <;> omega) ?_
   clear he
   conv=>whnf
   refine rg ?_
   conv=>whnf
   refine arS_raw ?_
   conv=>whnf
   refine ⟨((w64 (v_10 + 1)), l_31), h, ?_⟩
   exact Wk.mk2 [0, 1, 2, 3, 6] 7 rfl rfl (by decide) rfl ⟨rr, rr, rr, daS_d rfl, daS_d rfl, trivial⟩ ⟨rr, rr, rr, rr, rr, ⟨rfl, (by first | rfl | (simp only [↓hb16, bl, List.length_set]; done) | (simp only [↓hb16, bl, List.length_set]; rfl))⟩, rr, rr, rr, trivial⟩
  refine Tr.exit ?_
  conv=>whnf
  cases h
  exact Wk.mk2 [0, 2, 3, 4] 5 rfl rfl (by decide) rfl ⟨⟨rfl, (by first | rfl | (simp only [↓hb16, bl, List.length_set]; done) | (simp only [↓hb16, bl, List.length_set]; rfl))⟩, rr, daS_d rfl, daS_d rfl, trivial⟩ ⟨rr, ⟨rfl, (by first | rfl | (simp only [↓hb16, bl, List.length_set]; done) | (simp only [↓hb16, bl, List.length_set]; rfl))⟩, rr, ⟨rfl, (by first | rfl | (simp only [↓hb16, bl, List.length_set]; done) | (simp only [↓hb16, bl, List.length_set]; rfl))⟩, ⟨rfl, (by first | rfl | (simp only [↓hb16, bl, List.length_set]; done) | (simp only [↓hb16, bl, List.length_set]; rfl))⟩, trivial⟩
 clear hv32
 conv=>whnf
 refine Tr.weak hw ?_
 refine sg ?_
 conv=>whnf
 refine orB_r ?_
 conv=>whnf
 refine frE_of (f := (eL eTOutcome)) (l := l_13) rfl ?_
 conv=>whnf
 refine elP_of hx_7 ?_
 conv=>whnf
 refine lvS_mk (es' := List.map .d (List.map eTRunner (List.set l_6 (Int.toNat x_2.Runner) ({ Bib := x_7.Bib, Keys := x_7.Keys, Worlds := l_13 } : TRunner)))) (by simp only [Nat.zero_add, List.map_set]; first | done | rfl) ?_
 conv=>whnf
 refine Tr.seq ?_
 refine sg ?_
 conv=>whnf
 refine lnS_map ?_
 conv=>whnf
 refine arS_raw ?_
 conv=>whnf
 refine Tr.cutQ (α := Unit) (fun s => ([(6, .pt 0 0), (7, .d (.b false))], [some (.var [.nsl, .nsl, .nsl, .nsl, (dI 0), .nsl])])) (fun s => M246 s = some (r_4, r_5)) ?_ ?_
 ·refine Tr.block ?_
  refine Tr.loopM (σ := Int) (fun n s => M245 q_1 x_2 l_6 x_7 l_13 M246 n s) (r_4, r_5) (fun s => ([(3, .pt 0 0), (6, .pt 1 0), (7, .d (.b false)), (78, (dI (w64 ((((q_1.Field.Pairs).length : Int)) + 1)))), (79, (dI s))], [some (.var [.d (.ls (List.map eTSegment q_1.Field.Clocks.Segments)), .d (.ls (List.map (eL eI) q_1.Field.Clocks.Far)), .d (.ls (List.map eTPair q_1.Field.Pairs)), .sl 2 3 0 (List.length (List.set l_6 (Int.toNat x_2.Runner) ({ Bib := x_7.Bib, Keys := x_7.Keys, Worlds := l_13 } : TRunner))), (dI q_1.Runner), .d (.ls (List.map eTLook q_1.Looks))]), some (.var [.nsl, .nsl, .nsl, .nsl, (dI 0), .nsl]), some (.arr 3 (List.map .d (List.map eTRunner (List.set l_6 (Int.toNat x_2.Runner) ({ Bib := x_7.Bib, Keys := x_7.Keys, Worlds := l_13 } : TRunner)))))])) (((w64 ((((q_1.Field.Pairs).length : Int)) + 1)) - 0 : Int).toNat + 1) (0) h (fun s => rfl) (Wk.mk2 [0, 1, 2] 4 rfl rfl (by decide) rfl ⟨⟨rfl, (by first | rfl | (simp only [List.length_set]; rfl) | simp)⟩, rr, daS_d rfl, trivial⟩ ⟨rr, rr, rr, rr, rr, trivial⟩) ?_
  clear h
  rintro n_35 v_34 h
  replace h : M245 q_1 x_2 l_6 x_7 l_13 M246 (n_35 + 1) v_34 = some (r_4, r_5) := h
  rw [M245] at h
  refine sg ?_
  conv=>whnf
  refine Tr.seq ?_
  refine Tr.cond ?_
  conv=>whnf
  refine cB h (fun hb38 h => ?_) (fun hb38 h => ?_)
  ·refine Tr.skip ?_
   conv=>whnf
   refine Tr.seq ?_
   refine Tr.block ?_
   refine sg ?_
   conv=>whnf
   refine sg ?_
   conv=>whnf
   obtain ⟨r_39, hc40, h⟩ := bS h
   refine PC.ecall_lend ?_ ⟨_, _, func73, rfl, rfl⟩
   conv=>whnf
   refine frE_of (f := eTRunner) (l := (List.set l_6 (Int.toNat x_2.Runner) ({ Bib := x_7.Bib, Keys := x_7.Keys, Worlds := l_13 } : TRunner))) rfl ?_
   conv=>whnf
   refine ⟨_, P242 ((List.set l_6 (Int.toNat x_2.Runner) ({ Bib := x_7.Bib, Keys := x_7.Keys, Worlds := l_13 } : TRunner))) v_34 r_39 hc40, fun rs hrs => ?_⟩
   subst hrs
   refine ⟨rfl, ?_⟩
   conv=>whnf
   refine Tr.cond ?_
   conv=>whnf
   refine cB h (fun hb41 h => ?_) (fun hb41 h => ?_)
   ·refine sg ?_
    conv=>whnf
    refine orB_l ?_
    conv=>whnf
    refine Tr.ret ?_
    conv=>whnf
    refine frE_of (f := eTRunner) (l := (List.set l_6 (Int.toNat x_2.Runner) ({ Bib := x_7.Bib, Keys := x_7.Keys, Worlds := l_13 } : TRunner))) rfl ?_
    conv=>whnf
    cases h
    rfl
   refine Tr.skip ?_
   conv=>whnf
   refine rg ?_
   conv=>whnf
   refine arS_raw ?_
   conv=>whnf
   refine ⟨((w64 (v_34 + 1))), h, ?_⟩
   exact Wk.mk2 [0, 1, 2] 4 rfl rfl (by decide) rfl ⟨rr, rr, daS_d rfl, trivial⟩ ⟨rr, rr, rr, rr, rr, trivial⟩
  refine Tr.exit ?_
  conv=>whnf
  refine ⟨(), h, ?_⟩
  exact Wk.mk2 [1] 3 rfl rfl (by decide) rfl ⟨rr, trivial⟩ ⟨⟨rfl, (by first | rfl | (simp only [↓hb38, bl, List.length_set]; done) | (simp only [↓hb38, bl, List.length_set]; rfl))⟩, rr, trivial⟩
 clear h
 rintro _ h T1 H1 hw
 replace h : M246 () = some (r_4, r_5) := h
 conv=>whnf
 refine Tr.weak hw ?_
 unfold M246 at h
 refine sg ?_
 conv=>whnf
 refine orB_l ?_
 conv=>whnf
 refine Tr.ret ?_
 conv=>whnf
 cases h
 rfl
theorem P248 (q_1 : TQuestion) (look_2 : Int) (answer_3 : Int) (r_4 : TQuestion) (r_5 : Int) (h : M248 q_1 look_2 answer_3 = some (r_4, r_5)) :
    PC prog 23 [(eTQuestion q_1), (.i .i64 look_2), (.i .i64 answer_3)] (fun rs => rs = [(eTQuestion r_4), (.i .i64 r_5)]) := by
 refine PC.of_tr (cx := ⟨64, none, lay, 0⟩) layOK func23 rfl rfl rfl rfl rfl (by simp [f23]) ?_
 unfold M248 at h
 refine sg ?_
 conv=>whnf
 refine Tr.seq ?_
 refine sg ?_
 conv=>whnf
 obtain ⟨r_6, hc7, h⟩ := bS h
 refine PC.ecall (P237 q_1 r_6 hc7) (fun rs hrs => ?_)
 subst hrs
 conv=>whnf
 refine sg ?_
 conv=>whnf
 refine Tr.cond ?_
 conv=>whnf
 refine cB h (fun hb8 h => ?_) (fun hb8 h => ?_)
 ·refine sg ?_
  conv=>whnf
  refine orB_l ?_
  conv=>whnf
  refine Tr.ret ?_
  conv=>whnf
  cases h
  rfl
 refine Tr.skip ?_
 conv=>whnf
 refine Tr.seq ?_
 refine Tr.seq ?_
 obtain ⟨v_9, hv10, h⟩ := bS h
 refine Tr.cutQ1 ([(1, (dI look_2)), (2, (dI answer_3)), (3, .pt 0 0), (6, .pt 1 0), (7, (dI 0)), (39, .d (.b v_9))]) ([some (.var [.d (.ls (List.map eTSegment q_1.Field.Clocks.Segments)), .d (.ls (List.map (eL eI) q_1.Field.Clocks.Far)), .d (.ls (List.map eTPair q_1.Field.Pairs)), .d (.ls (List.map eTRunner q_1.Field.Runners)), (dI q_1.Runner), .d (.ls (List.map eTLook q_1.Looks))]), some (.var [.nsl, .nsl, .nsl, .nsl, (dI 0), .nsl])]) ?_ (fun T1 H1 hw => ?_)
 ·replace h := hv10; clear hv10
  refine rg ?_
  conv=>whnf
  refine cB h (fun hb11 h => ?_) (fun hb11 h => ?_)
  ·conv=>whnf
   cases h
   exact Wk.mk2 [0, 1] 2 rfl rfl (by decide) rfl ⟨rr, rr, trivial⟩ ⟨rr, rr, rr, rr, rr, rr, trivial⟩
  conv=>whnf
  refine lnS_map ?_
  conv=>whnf
  refine cB h (fun hb12 h => ?_) (fun hb12 h => ?_)
  ·conv=>whnf
   cases h
   exact Wk.mk2 [0, 1] 2 rfl rfl (by decide) rfl ⟨rr, rr, trivial⟩ ⟨rr, rr, rr, rr, rr, rr, trivial⟩
  conv=>whnf
  refine cB h (fun hb13 h => ?_) (fun hb13 h => ?_)
  ·conv=>whnf
   cases h
   exact Wk.mk2 [0, 1] 2 rfl rfl (by decide) rfl ⟨rr, rr, trivial⟩ ⟨rr, rr, rr, rr, rr, rr, trivial⟩
  conv=>whnf
  obtain ⟨x_14, hx_14, h⟩ := bS h
  refine ixP_of hx_14 ?_
  conv=>whnf
  refine lnS_map ?_
  conv=>whnf
  cases h
  exact Wk.mk2 [0, 1] 2 rfl rfl (by decide) rfl ⟨rr, rr, trivial⟩ ⟨rr, rr, rr, rr, rr, rr, trivial⟩
 clear hv10
 conv=>whnf
 refine Tr.weak hw ?_
 refine Tr.cond ?_
 conv=>whnf
 refine cB h (fun hb15 h => ?_) (fun hb15 h => ?_)
 ·refine sg ?_
  conv=>whnf
  refine orB_l ?_
  conv=>whnf
  refine Tr.ret ?_
  conv=>whnf
  cases h
  rfl
 refine Tr.skip ?_
 conv=>whnf
 refine sd [(19,1)] [(0,3),(1,3),(2,3),(3,1),(4,2),(5,2),(6,3),(7,3),(8,1),(9,2),(10,2),(11,2),(12,1),(13,2),(14,2),(15,1),(16,1),(17,1),(18,1),(19,0),(20,1)] ?_
 conv=>whnf
 refine q2 ?_
 conv=>whnf
 refine q2 ?_
 conv=>whnf
 refine q2 ?_
 conv=>whnf
 refine q1 ?_
 conv=>whnf
 obtain ⟨x_16, hx_16, h⟩ := bS h
 refine q3 (ixP_of hx_16 rr) ?_
 conv=>whnf
 refine q2 ?_
 conv=>whnf
 refine q2 ?_
 conv=>whnf
 refine q2 ?_
 conv=>whnf
 refine q1 ?_
 conv=>whnf
 obtain ⟨x_17, hx_17, h⟩ := bS h
 refine q3 (ixP_of hx_17 rr) ?_
 conv=>whnf
 refine q2 ?_
 conv=>whnf
 refine q2 ?_
 conv=>whnf
 refine q1 ?_
 conv=>whnf
 obtain ⟨x_18, hx_18, h⟩ := bS h
 refine q3 (ixP_of hx_18 rr) ?_
 conv=>whnf
 refine q2 ?_
 conv=>whnf
 obtain ⟨⟨r_19, r_20⟩, hc21, h⟩ := bS h
 refine q1 ?_ (fun _ => pe (P247 q_1 x_16 x_18 r_19 r_20 hc21) rr)
 conv=>whnf
 refine q1 ?_
 conv=>whnf
 refine q1 ?_
 conv=>whnf
 refine q1 ?_
 conv=>whnf
 refine ⟨_, _, rr, kp_ok (by repeat (first | exact trivial | refine ⟨trivial, ?_⟩ | refine ⟨rfl, ?_⟩)), ?_⟩
 conv=>whnf
 refine q1 ?_
 conv=>whnf
 refine Tr.seq ?_
 refine sg ?_
 conv=>whnf
 refine Tr.cond ?_
 conv=>whnf
 refine cB h (fun hb22 h => ?_) (fun hb22 h => ?_)
 ·refine sg ?_
  conv=>whnf
  refine orB_l ?_
  conv=>whnf
  refine Tr.ret ?_
  conv=>whnf
  cases h
  rfl
 refine Tr.skip ?_
 conv=>whnf
 refine sg ?_
 conv=>whnf
 refine Tr.ret ?_
 conv=>whnf
 cases h
 rfl
theorem P252 (q_1 : TQuestion) (p_2 : TPlan) (picks_3 : List Int) (r_4 : Bool) (h : M252 q_1 p_2 picks_3 = some r_4) :
    PC prog 8 [(eTQuestion q_1), (eTPlan p_2), (.ls (List.map (eK .u8) picks_3))] (fun rs => rs = [(.b r_4)]) := by
 refine PC.of_tr (cx := ⟨128, none, lay, 0⟩) layOK func8 rfl rfl rfl rfl rfl (by simp [f8]) ?_
 unfold M252 at h
 refine sg ?_
 conv=>whnf
 refine Tr.seq ?_
 refine sg ?_
 conv=>whnf
 obtain ⟨r_5, hc6, h⟩ := bS h
 refine PC.ecall (P131 r_5 hc6) (fun rs hrs => ?_)
 subst hrs
 conv=>whnf
 refine Tr.cond ?_
 conv=>whnf
 refine cB h (fun hb7 h => ?_) (fun hb7 h => ?_)
 ·refine sg ?_
  conv=>whnf
  refine Tr.ret ?_
  conv=>whnf
  cases h
  rfl
 refine Tr.skip ?_
 conv=>whnf
 refine Tr.seq ?_
 refine sg ?_
 conv=>whnf
 obtain ⟨r_8, hc9, h⟩ := bS h
 refine PC.ecall (P144 q_1 p_2 r_8 hc9) (fun rs hrs => ?_)
 subst hrs
 conv=>whnf
 refine cB h (fun hb10 h => ?_) (fun hb10 h => ?_)
 ·conv=>whnf
  refine Tr.cond ?_
  conv=>whnf
  refine sg ?_
  conv=>whnf
  refine Tr.ret ?_
  conv=>whnf
  cases h
  rfl
 conv=>whnf
 obtain ⟨r_11, hc12, h⟩ := bS h
 refine PC.ecall (P190 q_1 r_11 hc12) (fun rs hrs => ?_)
 subst hrs
 conv=>whnf
 refine cB h (fun hb13 h => ?_) (fun hb13 h => ?_)
 ·conv=>whnf
  refine Tr.cond ?_
  conv=>whnf
  refine sg ?_
  conv=>whnf
  refine Tr.ret ?_
  conv=>whnf
  cases h
  rfl
 conv=>whnf
 obtain ⟨r_14, hc15, h⟩ := bS h
 refine PC.ecall (P130 q_1 p_2 r_14 hc15) (fun rs hrs => ?_)
 subst hrs
 conv=>whnf
 refine Tr.cond ?_
 conv=>whnf
 refine cB h (fun hb16 h => ?_) (fun hb16 h => ?_)
 ·refine sg ?_
  conv=>whnf
  refine Tr.ret ?_
  conv=>whnf
  cases h
  rfl
 refine Tr.skip ?_
 conv=>whnf
 refine sg ?_
 conv=>whnf
 refine orB_l ?_
 conv=>whnf
 refine sg ?_
 conv=>whnf
 refine Tr.block ?_
 refine Tr.loopM (σ := Int × List TSegment × List (List Int) × List TPair × List TRunner × Int × List TLook × List Int) (fun n s => M251 p_2 picks_3 n s.1 s.2.1 s.2.2.1 s.2.2.2.1 s.2.2.2.2.1 s.2.2.2.2.2.1 s.2.2.2.2.2.2.1 s.2.2.2.2.2.2.2) r_4 (fun s => ([(2, .d (.ls (List.map (eK .u8) picks_3))), (3, .pt 0 0), (4, .pt 1 0), (6, .d (.b false)), (7, .sl 2 1 0 (List.length s.2.2.2.2.2.2.2)), (8, (dI s.1))], [some (.var [.d (.ls (List.map eTSegment s.2.1)), .d (.ls (List.map (eL eI) s.2.2.1)), .d (.ls (List.map eTPair s.2.2.2.1)), .d (.ls (List.map eTRunner s.2.2.2.2.1)), (dI s.2.2.2.2.2.1), .d (.ls (List.map eTLook s.2.2.2.2.2.2.1))]), some (.var [(dI p_2.Look), .d (.ls (List.map eTPlan0 p_2.After))]), some (.arr 1 (List.map .d (List.map eI s.2.2.2.2.2.2.2)))])) (1000) (0, q_1.Field.Clocks.Segments, q_1.Field.Clocks.Far, q_1.Field.Pairs, q_1.Field.Runners, q_1.Runner, q_1.Looks, (([] : List Int))) h (fun s => rfl) (Wk.mk2 [0, 1, 2] 3 rfl rfl (by decide) rfl ⟨rr, rr, daS_d rfl, trivial⟩ ⟨rr, rr, rr, rr, rr, rr, trivial⟩) ?_
 clear h
 rintro n_33 ⟨i_25, v_26, v_27, v_28, v_29, v_30, v_31, l_32⟩ h
 replace h : M251 p_2 picks_3 (n_33 + 1) i_25 v_26 v_27 v_28 v_29 v_30 v_31 l_32 = some r_4 := h
 rw [M251] at h
 refine Tr.seq ?_
 refine Tr.block ?_
 refine sg ?_
 conv=>whnf
 obtain ⟨⟨r_36, r_37⟩, hc38, h⟩ := bS h
 refine PC.ecall_lend ?_ ⟨_, _, func15, rfl, rfl⟩
 conv=>whnf
 refine frE_of (f := eI) (l := l_32) rfl ?_
 conv=>whnf
 refine ⟨_, P3 p_2 l_32 r_36 r_37 hc38, fun rs hrs => ?_⟩
 subst hrs
 refine ⟨rfl, ?_⟩
 conv=>whnf
 refine Tr.seq ?_
 refine sg ?_
 conv=>whnf
 refine cB h (fun hb39 h => ?_) (fun hb39 h => ?_)
 ·conv=>whnf
  refine Tr.cond ?_
  conv=>whnf
  refine sg ?_
  conv=>whnf
  refine Tr.ret ?_
  conv=>whnf
  cases h
  rfl
 conv=>whnf
 obtain ⟨r_40, hc41, h⟩ := bS h
 refine PC.ecall (P125 1000 p_2 r_40 hc41) (fun rs hrs => ?_)
 subst hrs
 conv=>whnf
 refine Tr.cond ?_
 conv=>whnf
 refine cB h (fun hb42 h => ?_) (fun hb42 h => ?_)
 ·refine sg ?_
  conv=>whnf
  refine Tr.ret ?_
  conv=>whnf
  cases h
  rfl
 refine Tr.skip ?_
 conv=>whnf
 refine Tr.seq ?_
 refine sg ?_
 conv=>whnf
 refine Tr.cond ?_
 conv=>whnf
 refine cB h (fun hb43 h => ?_) (fun hb43 h => ?_)
 ·refine sg ?_
  conv=>whnf
  obtain ⟨⟨r_44, r_45⟩, hc46, h⟩ := bS h
  refine PC.ecall (P109 (({ Clocks := ({ Segments := v_26, Far := v_27 } : TClocks), Pairs := v_28, Runners := v_29 } : TField)) v_30 r_44 r_45 hc46) (fun rs hrs => ?_)
  subst hrs
  conv=>whnf
  refine sg ?_
  conv=>whnf
  refine cB h (fun hb47 h => ?_) (fun hb47 h => ?_)
  ·conv=>whnf
   refine cB h (fun hb48 h => ?_) (fun hb48 h => ?_)
   ·conv=>whnf
    refine Tr.ret ?_
    conv=>whnf
    cases h
    rfl
   conv=>whnf
   refine Tr.ret ?_
   conv=>whnf
   cases h
   rfl
  conv=>whnf
  refine Tr.ret ?_
  conv=>whnf
  cases h
  rfl
 refine Tr.skip ?_
 conv=>whnf
 refine Tr.seq ?_
 refine sg ?_
 conv=>whnf
 refine lnS_map ?_
 conv=>whnf
 refine Tr.cond ?_
 conv=>whnf
 refine cB h (fun hb49 h => ?_) (fun hb49 h => ?_)
 ·refine sg ?_
  conv=>whnf
  refine Tr.ret ?_
  conv=>whnf
  cases h
  rfl
 refine Tr.skip ?_
 conv=>whnf
 refine sg ?_
 conv=>whnf
 obtain ⟨x_50, hx_50, h⟩ := bS h
 refine ixP_of hx_50 ?_
 conv=>whnf
 refine lnS_map ?_
 conv=>whnf
 refine sg ?_
 conv=>whnf
 refine Tr.seq ?_
 refine Tr.seq ?_
 refine Tr.cutQ1 ([(2, .d (.ls (List.map (eK .u8) picks_3))), (3, .pt 0 0), (4, .pt 1 0), (6, .d (.b false)), (7, .sl 2 1 0 (List.length l_32)), (8, (dI i_25)), (9, (dI r_36)), (13, (dI (((x_50.Answers).length : Int)))), (14, (dI 0)), (94, .d (.b ((decide (i_25 < (((picks_3).length : Int)))) && (decide ((((x_50.Answers).length : Int)) > 0)))))]) ([some (.var [.d (.ls (List.map eTSegment v_26)), .d (.ls (List.map (eL eI) v_27)), .d (.ls (List.map eTPair v_28)), .d (.ls (List.map eTRunner v_29)), (dI v_30), .d (.ls (List.map eTLook v_31))]), some (.var [(dI p_2.Look), .d (.ls (List.map eTPlan0 p_2.After))]), some (.arr 1 (List.map .d (List.map eI l_32)))]) ?_ (fun T1 H1 hw => ?_)
 ·refine rg ?_
  conv=>whnf
  refine lnS_map ?_
  conv=>whnf
  refine condS_mk (fun hb52 => ?_) (fun hb52 => ?_)
  ·conv=>whnf
   exact Wk.mk2 [0, 1, 2] 3 rfl rfl (by decide) rfl ⟨rr, rr, daS_d rfl, trivial⟩ ⟨rr, rr, rr, rr, rr, rr, rr, rr, rr, ⟨rfl, (by first | rfl | (simp only [↓hb7, ↓hb10, ↓hb13, ↓hb16, ↓hb39, ↓hb42, ↓hb43, ↓hb49, ↓hb52, bl, List.length_set]; done) | (simp only [↓hb7, ↓hb10, ↓hb13, ↓hb16, ↓hb39, ↓hb42, ↓hb43, ↓hb49, ↓hb52, bl, List.length_set]; rfl))⟩, trivial⟩
  conv=>whnf
  exact Wk.mk2 [0, 1, 2] 3 rfl rfl (by decide) rfl ⟨rr, rr, daS_d rfl, trivial⟩ ⟨rr, rr, rr, rr, rr, rr, rr, rr, rr, ⟨rfl, (by first | rfl | (simp only [↓hb7, ↓hb10, ↓hb13, ↓hb16, ↓hb39, ↓hb42, ↓hb43, ↓hb49, ↓hb52, bl, List.length_set]; done) | (simp only [↓hb7, ↓hb10, ↓hb13, ↓hb16, ↓hb39, ↓hb42, ↓hb43, ↓hb49, ↓hb52, bl, List.length_set]; rfl))⟩, trivial⟩
 conv=>whnf
 refine Tr.weak hw ?_
 refine Tr.cond ?_
 conv=>whnf
 refine cB h (fun hb53 h => ?_) (fun hb53 h => ?_)
 ·refine rg ?_
  conv=>whnf
  obtain ⟨x_54, hx_54, h⟩ := bS h
  refine ixP_of hx_54 ?_
  conv=>whnf
  refine arS_raw ?_
  conv=>whnf
  obtain ⟨u_55, hu_55, h⟩ := bS h
  refine neS_mk (nz_ne hu_55) ?_
  conv=>whnf
  refine sg ?_
  conv=>whnf
  refine Tr.seq ?_
  refine sg ?_
  conv=>whnf
  obtain ⟨⟨possible_59, v_60, v_61, v_62, v_63, v_64, v_65, l_66⟩, hv76, h⟩ := bS h
  refine Tr.cutQ1 ([(2, .d (.ls (List.map (eK .u8) picks_3))), (3, .pt 0 0), (4, .pt 1 0), (6, .d (.b false)), (7, .sl 2 1 0 (List.length l_66)), (8, (dI i_25)), (15, .d (.b possible_59))]) ([some (.var [.d (.ls (List.map eTSegment v_60)), .d (.ls (List.map (eL eI) v_61)), .d (.ls (List.map eTPair v_62)), .d (.ls (List.map eTRunner v_63)), (dI v_64), .d (.ls (List.map eTLook v_65))]), some (.var [(dI p_2.Look), .d (.ls (List.map eTPlan0 p_2.After))]), some (.arr 1 (List.map .d (List.map eI l_66)))]) ?_ (fun T1 H1 hw => ?_)
  ·replace h := hv76; clear hv76
   refine Tr.block ?_
   refine Tr.loopM (σ := Int) (fun n s => M249 v_26 v_27 v_28 v_29 v_30 v_31 l_32 r_36 x_50 x_54 n s) (possible_59, v_60, v_61, v_62, v_63, v_64, v_65, l_66) (fun s => ([(2, .d (.ls (List.map (eK .u8) picks_3))), (3, .pt 0 0), (4, .pt 1 0), (6, .d (.b false)), (7, .sl 2 1 0 (List.length l_32)), (8, (dI i_25)), (9, (dI r_36)), (13, (dI (((x_50.Answers).length : Int)))), (14, (dI (Int.tmod (w64 x_54) (((x_50.Answers).length : Int))))), (15, .d (.b false)), (102, (dI (((x_50.Answers).length : Int)))), (103, (dI s))], [some (.var [.d (.ls (List.map eTSegment v_26)), .d (.ls (List.map (eL eI) v_27)), .d (.ls (List.map eTPair v_28)), .d (.ls (List.map eTRunner v_29)), (dI v_30), .d (.ls (List.map eTLook v_31))]), some (.var [(dI p_2.Look), .d (.ls (List.map eTPlan0 p_2.After))]), some (.arr 1 (List.map .d (List.map eI l_32)))])) (((((x_50.Answers).length : Int)) - 0 : Int).toNat + 1) (0) h (fun s => rfl) (Wk.mk2 [0, 1, 2] 3 rfl rfl (by decide) rfl ⟨rr, rr, daS_d rfl, trivial⟩ ⟨rr, rr, rr, rr, rr, rr, rr, rr, rr, rr, rr, rr, trivial⟩) ?_
   clear h
   rintro n_58 v_57 h
   replace h : M249 v_26 v_27 v_28 v_29 v_30 v_31 l_32 r_36 x_50 x_54 (n_58 + 1) v_57 = some (possible_59, v_60, v_61, v_62, v_63, v_64, v_65, l_66) := h
   rw [M249] at h
   refine sg ?_
   conv=>whnf
   refine Tr.seq ?_
   refine Tr.cond ?_
   conv=>whnf
   refine cB h (fun hb69 h => ?_) (fun hb69 h => ?_)
   ·refine Tr.skip ?_
    conv=>whnf
    refine Tr.seq ?_
    refine Tr.block ?_
    refine sg ?_
    conv=>whnf
    refine sg ?_
    conv=>whnf
    refine arS_raw ?_
    conv=>whnf
    obtain ⟨u_70, hu_70, h⟩ := bS h
    refine neS_mk (nz_ne hu_70) ?_
    conv=>whnf
    refine sg ?_
    conv=>whnf
    obtain ⟨⟨r_71, r_72⟩, hc73, h⟩ := bS h
    refine PC.ecall (P248 (({ Field := ({ Clocks := ({ Segments := v_26, Far := v_27 } : TClocks), Pairs := v_28, Runners := v_29 } : TField), Runner := v_30, Looks := v_31 } : TQuestion)) r_36 ((Int.tmod (w64 ((Int.tmod (w64 x_54) (((x_50.Answers).length : Int))) + v_57)) (((x_50.Answers).length : Int)))) r_71 r_72 hc73) (fun rs hrs => ?_)
    subst hrs
    conv=>whnf
    refine sg ?_
    conv=>whnf
    refine Tr.cond ?_
    conv=>whnf
    refine cB h (fun hb74 h => ?_) (fun hb74 h => ?_)
    ·refine sg ?_
     conv=>whnf
     refine sg ?_
     conv=>whnf
     refine orB_r ?_
     conv=>whnf
     refine frP_no ?_
     conv=>whnf
     refine eqS_mk (by first | rfl | simp) ?_
     conv=>whnf
     obtain ⟨l_75, hl_75, h⟩ := bS h
     refine apS_of hl_75 (aQ (f := eI) (l := (([(Int.tmod (w64 ((Int.tmod (w64 x_54) (((x_50.Answers).length : Int))) + v_57)) (((x_50.Answers).length : Int)))] : List Int))) fun _ => rfl) (by first | rfl | simp) (by first | rfl | simp) (fun he => ?_)
     conv=>whnf
     refine rS (es' := List.map .d (List.map eI l_75)) (n' := List.length l_75) (by subst he; simp only [List.map_append, List.map_cons, List.map_nil, List.nil_append]; first | done | rfl) (by subst he; simp <;> omega) ?_
     clear he
     conv=>whnf
     refine Tr.exit ?_
     conv=>whnf
     cases h
     exact Wk.mk2 [0, 1, 4] 5 rfl rfl (by decide) rfl ⟨rr, rr, daS_d rfl, trivial⟩ ⟨rr, rr, rr, rr, ⟨rfl, (by first | rfl | (simp only [↓hb7, ↓hb10, ↓hb13, ↓hb16, ↓hb39, ↓hb42, ↓hb43, ↓hb49, ↓hb53, ↓hb69, ↓hb74, bl, List.length_set]; done) | (simp only [↓hb7, ↓hb10, ↓hb13, ↓hb16, ↓hb39, ↓hb42, ↓hb43, ↓hb49, ↓hb53, ↓hb69, ↓hb74, bl, List.length_set]; rfl))⟩, rr, rr, trivial⟩
    refine Tr.skip ?_
    conv=>whnf
    refine rg ?_
    conv=>whnf
    refine arS_raw ?_
    conv=>whnf
    refine ⟨((w64 (v_57 + 1))), h, ?_⟩
    exact Wk.mk2 [0, 1, 2] 4 rfl rfl (by decide) rfl ⟨rr, rr, daS_d rfl, trivial⟩ ⟨rr, rr, rr, rr, rr, rr, rr, rr, rr, rr, rr, rr, trivial⟩
   refine Tr.exit ?_
   conv=>whnf
   cases h
   exact Wk.mk2 [0, 1, 2] 3 rfl rfl (by decide) rfl ⟨rr, rr, daS_d rfl, trivial⟩ ⟨rr, rr, rr, rr, rr, rr, rr, trivial⟩
  clear hv76
  conv=>whnf
  refine Tr.weak hw ?_
  refine sg ?_
  conv=>whnf
  refine Tr.cond ?_
  conv=>whnf
  refine cB h (fun hb77 h => ?_) (fun hb77 h => ?_)
  ·refine sg ?_
   conv=>whnf
   refine Tr.ret ?_
   conv=>whnf
   cases h
   rfl
  refine Tr.skip ?_
  conv=>whnf
  refine rg ?_
  conv=>whnf
  refine arS_raw ?_
  conv=>whnf
  refine ⟨((w64 (i_25 + 1)), v_60, v_61, v_62, v_63, v_64, v_65, l_66), h, ?_⟩
  exact Wk.mk2 [0, 1, 2] 3 rfl rfl (by decide) rfl ⟨rr, rr, daS_d rfl, trivial⟩ ⟨rr, rr, rr, rr, rr, rr, trivial⟩
 refine Tr.skip ?_
 conv=>whnf
 refine sg ?_
 conv=>whnf
 refine Tr.seq ?_
 refine sg ?_
 conv=>whnf
 obtain ⟨⟨possible_81, v_82, v_83, v_84, v_85, v_86, v_87, l_88⟩, hv98, h⟩ := bS h
 refine Tr.cutQ1 ([(2, .d (.ls (List.map (eK .u8) picks_3))), (3, .pt 0 0), (4, .pt 1 0), (6, .d (.b false)), (7, .sl 2 1 0 (List.length l_88)), (8, (dI i_25)), (15, .d (.b possible_81))]) ([some (.var [.d (.ls (List.map eTSegment v_82)), .d (.ls (List.map (eL eI) v_83)), .d (.ls (List.map eTPair v_84)), .d (.ls (List.map eTRunner v_85)), (dI v_86), .d (.ls (List.map eTLook v_87))]), some (.var [(dI p_2.Look), .d (.ls (List.map eTPlan0 p_2.After))]), some (.arr 1 (List.map .d (List.map eI l_88)))]) ?_ (fun T1 H1 hw => ?_)
 ·replace h := hv98; clear hv98
  refine Tr.block ?_
  refine Tr.loopM (σ := Int) (fun n s => M250 v_26 v_27 v_28 v_29 v_30 v_31 l_32 r_36 x_50 n s) (possible_81, v_82, v_83, v_84, v_85, v_86, v_87, l_88) (fun s => ([(2, .d (.ls (List.map (eK .u8) picks_3))), (3, .pt 0 0), (4, .pt 1 0), (6, .d (.b false)), (7, .sl 2 1 0 (List.length l_32)), (8, (dI i_25)), (9, (dI r_36)), (13, (dI (((x_50.Answers).length : Int)))), (14, (dI 0)), (15, .d (.b false)), (102, (dI (((x_50.Answers).length : Int)))), (103, (dI s))], [some (.var [.d (.ls (List.map eTSegment v_26)), .d (.ls (List.map (eL eI) v_27)), .d (.ls (List.map eTPair v_28)), .d (.ls (List.map eTRunner v_29)), (dI v_30), .d (.ls (List.map eTLook v_31))]), some (.var [(dI p_2.Look), .d (.ls (List.map eTPlan0 p_2.After))]), some (.arr 1 (List.map .d (List.map eI l_32)))])) (((((x_50.Answers).length : Int)) - 0 : Int).toNat + 1) (0) h (fun s => rfl) (Wk.mk2 [0, 1, 2] 3 rfl rfl (by decide) rfl ⟨rr, rr, daS_d rfl, trivial⟩ ⟨rr, rr, rr, rr, rr, rr, rr, rr, rr, rr, rr, rr, trivial⟩) ?_
  clear h
  rintro n_80 v_79 h
  replace h : M250 v_26 v_27 v_28 v_29 v_30 v_31 l_32 r_36 x_50 (n_80 + 1) v_79 = some (possible_81, v_82, v_83, v_84, v_85, v_86, v_87, l_88) := h
  rw [M250] at h
  refine sg ?_
  conv=>whnf
  refine Tr.seq ?_
  refine Tr.cond ?_
  conv=>whnf
  refine cB h (fun hb91 h => ?_) (fun hb91 h => ?_)
  ·refine Tr.skip ?_
   conv=>whnf
   refine Tr.seq ?_
   refine Tr.block ?_
   refine sg ?_
   conv=>whnf
   refine sg ?_
   conv=>whnf
   refine arS_raw ?_
   conv=>whnf
   obtain ⟨u_92, hu_92, h⟩ := bS h
   refine neS_mk (nz_ne hu_92) ?_
   conv=>whnf
   refine sg ?_
   conv=>whnf
   obtain ⟨⟨r_93, r_94⟩, hc95, h⟩ := bS h
   refine PC.ecall (P248 (({ Field := ({ Clocks := ({ Segments := v_26, Far := v_27 } : TClocks), Pairs := v_28, Runners := v_29 } : TField), Runner := v_30, Looks := v_31 } : TQuestion)) r_36 ((Int.tmod (w64 (0 + v_79)) (((x_50.Answers).length : Int)))) r_93 r_94 hc95) (fun rs hrs => ?_)
   subst hrs
   conv=>whnf
   refine sg ?_
   conv=>whnf
   refine Tr.cond ?_
   conv=>whnf
   refine cB h (fun hb96 h => ?_) (fun hb96 h => ?_)
   ·refine sg ?_
    conv=>whnf
    refine sg ?_
    conv=>whnf
    refine orB_r ?_
    conv=>whnf
    refine frP_no ?_
    conv=>whnf
    refine eqS_mk (by first | rfl | simp) ?_
    conv=>whnf
    obtain ⟨l_97, hl_97, h⟩ := bS h
    refine apS_of hl_97 (aQ (f := eI) (l := (([(Int.tmod (w64 (0 + v_79)) (((x_50.Answers).length : Int)))] : List Int))) fun _ => rfl) (by first | rfl | simp) (by first | rfl | simp) (fun he => ?_)
    conv=>whnf
    refine rS (es' := List.map .d (List.map eI l_97)) (n' := List.length l_97) (by subst he; simp only [List.map_append, List.map_cons, List.map_nil, List.nil_append]; first | done | rfl) (by subst he; simp <;> omega) ?_
    clear he
    conv=>whnf
    refine Tr.exit ?_
    conv=>whnf
    cases h
    exact Wk.mk2 [0, 1, 4] 5 rfl rfl (by decide) rfl ⟨rr, rr, daS_d rfl, trivial⟩ ⟨rr, rr, rr, rr, ⟨rfl, (by first | rfl | (simp only [↓hb7, ↓hb10, ↓hb13, ↓hb16, ↓hb39, ↓hb42, ↓hb43, ↓hb49, ↓hb53, ↓hb91, ↓hb96, bl, List.length_set]; done) | (simp only [↓hb7, ↓hb10, ↓hb13, ↓hb16, ↓hb39, ↓hb42, ↓hb43, ↓hb49, ↓hb53, ↓hb91, ↓hb96, bl, List.length_set]; rfl))⟩, rr, rr, trivial⟩
   refine Tr.skip ?_
   conv=>whnf
   refine rg ?_
   conv=>whnf
   refine arS_raw ?_
   conv=>whnf
   refine ⟨((w64 (v_79 + 1))), h, ?_⟩
   exact Wk.mk2 [0, 1, 2] 4 rfl rfl (by decide) rfl ⟨rr, rr, daS_d rfl, trivial⟩ ⟨rr, rr, rr, rr, rr, rr, rr, rr, rr, rr, rr, rr, trivial⟩
  refine Tr.exit ?_
  conv=>whnf
  cases h
  exact Wk.mk2 [0, 1, 2] 3 rfl rfl (by decide) rfl ⟨rr, rr, daS_d rfl, trivial⟩ ⟨rr, rr, rr, rr, rr, rr, rr, trivial⟩
 clear hv98
 conv=>whnf
 refine Tr.weak hw ?_
 refine sg ?_
 conv=>whnf
 refine Tr.cond ?_
 conv=>whnf
 refine cB h (fun hb99 h => ?_) (fun hb99 h => ?_)
 ·refine sg ?_
  conv=>whnf
  refine Tr.ret ?_
  conv=>whnf
  cases h
  rfl
 refine Tr.skip ?_
 conv=>whnf
 refine rg ?_
 conv=>whnf
 refine arS_raw ?_
 conv=>whnf
 refine ⟨((w64 (i_25 + 1)), v_82, v_83, v_84, v_85, v_86, v_87, l_88), h, ?_⟩
 exact Wk.mk2 [0, 1, 2] 3 rfl rfl (by decide) rfl ⟨rr, rr, daS_d rfl, trivial⟩ ⟨rr, rr, rr, rr, rr, rr, trivial⟩
end Go.Proofs.Try
