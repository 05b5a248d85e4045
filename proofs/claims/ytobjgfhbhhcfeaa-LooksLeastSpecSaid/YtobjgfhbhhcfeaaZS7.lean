/- Contracts of functions, by program (gen.py). No condition. -/
import Derived.Test.YtobjgfhbhhcfeaaZL
import Derived.Test.YtobjgfhbhhcfeaaZM
import Derived.Test.YtobjgfhbhhcfeaaZCB
import Derived.Test.YtobjgfhbhhcfeaaZS6
namespace Go.Proofs.Try
open Go Go.Abs Go.Stop
set_option maxRecDepth 8000
set_option linter.unusedVariables false
set_option linter.unusedSimpArgs false
theorem P214 (f_1 : TField) (world_2 : Int) (x_3 : TOutcome) (runner_4 : Int) (rival_5 : Int) (r_6 : Bool) (h : M214 f_1 world_2 x_3 runner_4 rival_5 = some r_6) :
    PC prog 130 [(eTField f_1), (.i .i64 world_2), (eTOutcome x_3), (.i .i64 runner_4), (.i .i64 rival_5)] (fun rs => rs = [(.b r_6)]) := by
 refine PC.of_tr (cx := ⟨37, none, lay, 0⟩) layOK func130 rfl rfl rfl rfl rfl (by simp [f130]) ?_
 unfold M214 at h
 refine sg ?_
 conv=>whnf
 refine sg ?_
 conv=>whnf
 obtain ⟨x_7, hx_7, h⟩ := bS h
 refine ixP_of hx_7 ?_
 conv=>whnf
 obtain ⟨x_8, hx_8, h⟩ := bS h
 refine ixP_of hx_8 ?_
 conv=>whnf
 refine Tr.seq ?_
 refine sg ?_
 conv=>whnf
 refine Tr.cutQ (α := Unit) (fun s => ([(10, .d (.b false))], [])) (fun s => M213 s = some r_6) ?_ ?_
 ·refine Tr.block ?_
  refine Tr.loopM (σ := Int) (fun n s => M212 f_1 x_3 runner_4 rival_5 x_8 M213 n s) r_6 (fun s => ([(3, (dI runner_4)), (4, (dI rival_5)), (5, .pt 0 0), (7, .pt 1 0), (10, .d (.b false)), (11, .d (.ls (List.map eTOutcome x_8))), (12, (dI s))], [some (.var [.d (.ls (List.map eTSegment f_1.Clocks.Segments)), .d (.ls (List.map (eL eI) f_1.Clocks.Far)), .d (.ls (List.map eTPair f_1.Pairs)), .d (.ls (List.map eTRunner f_1.Runners))]), some (.var [.d (.b x_3.Out), (dI x_3.Seg), (dI x_3.Lo), (dI x_3.Hi)])])) (((((x_8).length : Int)) - 0 : Int).toNat + 1) (0) h (fun s => rfl) (Wk.mk2 [0, 1] 2 rfl rfl (by decide) rfl ⟨rr, rr, trivial⟩ ⟨rr, rr, rr, rr, rr, rr, rr, trivial⟩) ?_
  clear h
  rintro n_11 i_10 h
  replace h : M212 f_1 x_3 runner_4 rival_5 x_8 M213 (n_11 + 1) i_10 = some r_6 := h
  rw [M212] at h
  refine Tr.seq ?_
  refine sg ?_
  conv=>whnf
  refine lnS_map ?_
  conv=>whnf
  refine Tr.cond ?_
  conv=>whnf
  refine cB h (fun hb14 h => ?_) (fun hb14 h => ?_)
  ·refine Tr.skip ?_
   conv=>whnf
   refine Tr.seq ?_
   refine Tr.block ?_
   refine sd [] [(0,3),(1,4),(2,1),(3,1),(4,1),(5,2),(6,2),(7,1),(8,1)] ?_
   conv=>whnf
   refine q2 ?_
   conv=>whnf
   refine q2 ?_
   conv=>whnf
   refine q1 ?_
   conv=>whnf
   refine q1 ?_
   conv=>whnf
   refine q1 ?_
   conv=>whnf
   obtain ⟨x_15, hx_15, h⟩ := bS h
   refine q3 (ixP_of hx_15 rr) ?_
   conv=>whnf
   refine q2 ?_
   conv=>whnf
   refine q1 ?_
   conv=>whnf
   obtain ⟨r_16, hc17, h⟩ := bS h
   refine q1 ?_ (fun _ => pe (P211 f_1 x_3 runner_4 x_15 rival_5 r_16 hc17) rr)
   conv=>whnf
   refine Tr.cond ?_
   conv=>whnf
   refine cB h (fun hb18 h => ?_) (fun hb18 h => ?_)
   ·refine sg ?_
    conv=>whnf
    refine Tr.ret ?_
    conv=>whnf
    cases h
    rfl
   refine Tr.skip ?_
   conv=>whnf
   refine rg ?_
   conv=>whnf
   refine arS_raw ?_
   conv=>whnf
   refine ⟨((w64 (i_10 + 1))), h, ?_⟩
   exact Wk.mk2 [0, 1] 2 rfl rfl (by decide) rfl ⟨rr, rr, trivial⟩ ⟨rr, rr, rr, rr, rr, rr, rr, trivial⟩
  refine Tr.exit ?_
  conv=>whnf
  refine ⟨(), h, ?_⟩
  exact Wk.mk2 [] 2 rfl rfl (by decide) rfl trivial ⟨rr, trivial⟩
 clear h
 rintro _ h T1 H1 hw
 replace h : M213 () = some r_6 := h
 conv=>whnf
 refine Tr.weak hw ?_
 unfold M213 at h
 refine sg ?_
 conv=>whnf
 refine Tr.ret ?_
 conv=>whnf
 cases h
 rfl
theorem P215 (f_1 : TField) (x_2 : TOutcome) (runner_3 : Int) (y_4 : TOutcome) (rival_5 : Int) (r_6 : Bool) (h : M215 f_1 x_2 runner_3 y_4 rival_5 = some r_6) :
    PC prog 133 [(eTField f_1), (eTOutcome x_2), (.i .i64 runner_3), (eTOutcome y_4), (.i .i64 rival_5)] (fun rs => rs = [(.b r_6)]) := by
 refine PC.of_tr (cx := ⟨54, none, lay, 0⟩) layOK func133 rfl rfl rfl rfl rfl (by simp [f133]) ?_
 unfold M215 at h
 refine sg ?_
 conv=>whnf
 refine Tr.seq ?_
 refine sg ?_
 conv=>whnf
 refine Tr.cond ?_
 conv=>whnf
 refine cB h (fun hb7 h => ?_) (fun hb7 h => ?_)
 ·refine sg ?_
  conv=>whnf
  refine Tr.ret ?_
  conv=>whnf
  cases h
  rfl
 refine Tr.skip ?_
 conv=>whnf
 refine sd [] [(0,5),(1,5),(2,3),(3,3),(4,3),(5,5),(6,5),(7,1),(8,2),(9,2),(10,4),(11,4),(12,1),(13,2),(14,2),(15,1),(16,4),(17,4),(18,1),(19,1)] ?_
 conv=>whnf
 refine q2 ?_
 conv=>whnf
 refine q2 ?_
 conv=>whnf
 refine q2 ?_
 conv=>whnf
 refine q2 ?_
 conv=>whnf
 refine q2 ?_
 conv=>whnf
 refine q2 ?_
 conv=>whnf
 refine q2 ?_
 conv=>whnf
 refine q4 ?_
 conv=>whnf
 obtain ⟨x_8, hx_8, h⟩ := bS h
 refine q3 (ixP_of hx_8 rr) ?_
 conv=>whnf
 refine q2 ?_
 conv=>whnf
 refine q2 ?_
 conv=>whnf
 refine q2 ?_
 conv=>whnf
 refine q4 ?_
 conv=>whnf
 obtain ⟨x_9, hx_9, h⟩ := bS h
 refine q3 (ixP_of hx_9 rr) ?_
 conv=>whnf
 refine q2 ?_
 conv=>whnf
 refine q4 ?_
 conv=>whnf
 refine q2 ?_
 conv=>whnf
 refine q2 ?_
 conv=>whnf
 refine q4 ?_
 conv=>whnf
 refine q1 ?_
 conv=>whnf
 refine sd [] [(0,1),(1,1),(2,1),(3,1),(4,1),(5,1),(6,3),(7,3),(8,1),(9,2),(10,2),(11,2),(12,3),(13,3),(14,1),(15,2),(16,2),(17,2),(18,1),(19,1),(20,1),(21,1)] ?_
 conv=>whnf
 refine q1 ?_
 conv=>whnf
 refine q1 ?_
 conv=>whnf
 refine q1 ?_
 conv=>whnf
 refine cB h (fun hb10 h => ?_) (fun hb10 h => ?_)
 ·conv=>whnf
  refine q1 ?_
  conv=>whnf
  refine q1 ?_
  conv=>whnf
  refine Tr.ret ?_
  conv=>whnf
  cases h
  rfl
 conv=>whnf
 refine q1 ?_
 conv=>whnf
 refine q1 ?_
 conv=>whnf
 refine q1 ?_
 conv=>whnf
 refine cB h (fun hb11 h => ?_) (fun hb11 h => ?_)
 ·conv=>whnf
  refine q2 ?_
  conv=>whnf
  refine q2 ?_
  conv=>whnf
  refine q1 ?_
  conv=>whnf
  obtain ⟨x_12, hx_12, h⟩ := bS h
  refine q3 (ixP_of hx_12 rr) ?_
  conv=>whnf
  refine q2 ?_
  conv=>whnf
  refine q2 ?_
  conv=>whnf
  refine q2 ?_
  conv=>whnf
  refine q2 ?_
  conv=>whnf
  refine q1 ?_
  conv=>whnf
  obtain ⟨x_13, hx_13, h⟩ := bS h
  refine q3 (ixP_of hx_13 rr) ?_
  conv=>whnf
  refine q2 ?_
  conv=>whnf
  refine q2 ?_
  conv=>whnf
  obtain ⟨r_14, hc15, h⟩ := bS h
  refine q1 ?_ (fun _ => pe (P210 x_12.Keys x_13.Keys r_14 hc15) rr)
  conv=>whnf
  refine q1 ?_
  conv=>whnf
  refine q1 ?_
  conv=>whnf
  refine q1 ?_
  conv=>whnf
  refine Tr.ret ?_
  conv=>whnf
  cases h
  rfl
 conv=>whnf
 refine q1 ?_
 conv=>whnf
 refine q1 ?_
 conv=>whnf
 refine q1 ?_
 conv=>whnf
 refine Tr.ret ?_
 conv=>whnf
 cases h
 rfl
theorem P218 (f_1 : TField) (world_2 : Int) (x_3 : TOutcome) (runner_4 : Int) (rival_5 : Int) (r_6 : Bool) (h : M218 f_1 world_2 x_3 runner_4 rival_5 = some r_6) :
    PC prog 131 [(eTField f_1), (.i .i64 world_2), (eTOutcome x_3), (.i .i64 runner_4), (.i .i64 rival_5)] (fun rs => rs = [(.b r_6)]) := by
 refine PC.of_tr (cx := ⟨37, none, lay, 0⟩) layOK func131 rfl rfl rfl rfl rfl (by simp [f131]) ?_
 unfold M218 at h
 refine sg ?_
 conv=>whnf
 refine sg ?_
 conv=>whnf
 obtain ⟨x_7, hx_7, h⟩ := bS h
 refine ixP_of hx_7 ?_
 conv=>whnf
 obtain ⟨x_8, hx_8, h⟩ := bS h
 refine ixP_of hx_8 ?_
 conv=>whnf
 refine Tr.seq ?_
 refine sg ?_
 conv=>whnf
 refine Tr.cutQ (α := Unit) (fun s => ([(10, .d (.b false))], [])) (fun s => M217 s = some r_6) ?_ ?_
 ·refine Tr.block ?_
  refine Tr.loopM (σ := Int) (fun n s => M216 f_1 x_3 runner_4 rival_5 x_8 M217 n s) r_6 (fun s => ([(3, (dI runner_4)), (4, (dI rival_5)), (5, .pt 0 0), (7, .pt 1 0), (10, .d (.b false)), (11, .d (.ls (List.map eTOutcome x_8))), (12, (dI s))], [some (.var [.d (.ls (List.map eTSegment f_1.Clocks.Segments)), .d (.ls (List.map (eL eI) f_1.Clocks.Far)), .d (.ls (List.map eTPair f_1.Pairs)), .d (.ls (List.map eTRunner f_1.Runners))]), some (.var [.d (.b x_3.Out), (dI x_3.Seg), (dI x_3.Lo), (dI x_3.Hi)])])) (((((x_8).length : Int)) - 0 : Int).toNat + 1) (0) h (fun s => rfl) (Wk.mk2 [0, 1] 2 rfl rfl (by decide) rfl ⟨rr, rr, trivial⟩ ⟨rr, rr, rr, rr, rr, rr, rr, trivial⟩) ?_
  clear h
  rintro n_11 i_10 h
  replace h : M216 f_1 x_3 runner_4 rival_5 x_8 M217 (n_11 + 1) i_10 = some r_6 := h
  rw [M216] at h
  refine Tr.seq ?_
  refine sg ?_
  conv=>whnf
  refine lnS_map ?_
  conv=>whnf
  refine Tr.cond ?_
  conv=>whnf
  refine cB h (fun hb14 h => ?_) (fun hb14 h => ?_)
  ·refine Tr.skip ?_
   conv=>whnf
   refine Tr.seq ?_
   refine Tr.block ?_
   refine sd [] [(0,3),(1,4),(2,1),(3,1),(4,1),(5,2),(6,2),(7,1),(8,1)] ?_
   conv=>whnf
   refine q2 ?_
   conv=>whnf
   refine q2 ?_
   conv=>whnf
   refine q1 ?_
   conv=>whnf
   refine q1 ?_
   conv=>whnf
   refine q1 ?_
   conv=>whnf
   obtain ⟨x_15, hx_15, h⟩ := bS h
   refine q3 (ixP_of hx_15 rr) ?_
   conv=>whnf
   refine q2 ?_
   conv=>whnf
   refine q1 ?_
   conv=>whnf
   obtain ⟨r_16, hc17, h⟩ := bS h
   refine q1 ?_ (fun _ => pe (P215 f_1 x_3 runner_4 x_15 rival_5 r_16 hc17) rr)
   conv=>whnf
   refine Tr.cond ?_
   conv=>whnf
   refine cB h (fun hb18 h => ?_) (fun hb18 h => ?_)
   ·refine sg ?_
    conv=>whnf
    refine Tr.ret ?_
    conv=>whnf
    cases h
    rfl
   refine Tr.skip ?_
   conv=>whnf
   refine rg ?_
   conv=>whnf
   refine arS_raw ?_
   conv=>whnf
   refine ⟨((w64 (i_10 + 1))), h, ?_⟩
   exact Wk.mk2 [0, 1] 2 rfl rfl (by decide) rfl ⟨rr, rr, trivial⟩ ⟨rr, rr, rr, rr, rr, rr, rr, trivial⟩
  refine Tr.exit ?_
  conv=>whnf
  refine ⟨(), h, ?_⟩
  exact Wk.mk2 [] 2 rfl rfl (by decide) rfl trivial ⟨rr, trivial⟩
 clear h
 rintro _ h T1 H1 hw
 replace h : M217 () = some r_6 := h
 conv=>whnf
 refine Tr.weak hw ?_
 unfold M217 at h
 refine sg ?_
 conv=>whnf
 refine Tr.ret ?_
 conv=>whnf
 cases h
 rfl
theorem P220 (f_1 : TField) (world_2 : Int) (x_3 : TOutcome) (runner_4 : Int) (r_5 : Int) (r_6 : Int) (h : M220 f_1 world_2 x_3 runner_4 = some (r_5, r_6)) :
    PC prog 126 [(eTField f_1), (.i .i64 world_2), (eTOutcome x_3), (.i .i64 runner_4)] (fun rs => rs = [(.i .i64 r_5), (.i .i64 r_6)]) := by
 refine PC.of_tr (cx := ⟨42, none, lay, 0⟩) layOK func126 rfl rfl rfl rfl rfl (by simp [f126]) ?_
 unfold M220 at h
 refine sg ?_
 conv=>whnf
 refine sg ?_
 conv=>whnf
 refine sg ?_
 conv=>whnf
 refine Tr.seq ?_
 refine sg ?_
 conv=>whnf
 obtain ⟨⟨best_14, worst_15⟩, hv32, h⟩ := bS h
 refine Tr.cutQ1 ([(8, (dI 0)), (9, (dI 0)), (10, (dI best_14)), (11, (dI worst_15))]) ([]) ?_ (fun T1 H1 hw => ?_)
 ·replace h := hv32; clear hv32
  refine Tr.block ?_
  refine Tr.loopM (σ := Int × Int × Int) (fun n s => M219 f_1 world_2 x_3 runner_4 n s.1 s.2.1 s.2.2) (best_14, worst_15) (fun s => ([(1, (dI world_2)), (3, (dI runner_4)), (4, .pt 0 0), (6, .pt 1 0), (8, (dI 0)), (9, (dI 0)), (10, (dI s.1)), (11, (dI s.2.1)), (12, (dI s.2.2))], [some (.var [.d (.ls (List.map eTSegment f_1.Clocks.Segments)), .d (.ls (List.map (eL eI) f_1.Clocks.Far)), .d (.ls (List.map eTPair f_1.Pairs)), .d (.ls (List.map eTRunner f_1.Runners))]), some (.var [.d (.b x_3.Out), (dI x_3.Seg), (dI x_3.Lo), (dI x_3.Hi)])])) (((((f_1.Runners).length : Int)) - 0 : Int).toNat + 1) (1, 1, 0) h (fun s => rfl) (Wk.mk2 [0, 1] 2 rfl rfl (by decide) rfl ⟨rr, rr, trivial⟩ ⟨rr, rr, rr, rr, rr, rr, rr, rr, rr, trivial⟩) ?_
  clear h
  rintro n_13 ⟨best_10, worst_11, i_12⟩ h
  replace h : M219 f_1 world_2 x_3 runner_4 (n_13 + 1) best_10 worst_11 i_12 = some (best_14, worst_15) := h
  rw [M219] at h
  refine Tr.seq ?_
  refine sg ?_
  conv=>whnf
  refine lnS_map ?_
  conv=>whnf
  refine Tr.cond ?_
  conv=>whnf
  refine cB h (fun hb18 h => ?_) (fun hb18 h => ?_)
  ·refine Tr.skip ?_
   conv=>whnf
   refine Tr.seq ?_
   obtain ⟨⟨best_19, worst_20⟩, hv21, h⟩ := bS h
   refine Tr.cutQ1 ([(1, (dI world_2)), (3, (dI runner_4)), (4, .pt 0 0), (6, .pt 1 0), (8, (dI 0)), (9, (dI 0)), (10, (dI best_19)), (11, (dI worst_20)), (12, (dI i_12))]) ([some (.var [.d (.ls (List.map eTSegment f_1.Clocks.Segments)), .d (.ls (List.map (eL eI) f_1.Clocks.Far)), .d (.ls (List.map eTPair f_1.Pairs)), .d (.ls (List.map eTRunner f_1.Runners))]), some (.var [.d (.b x_3.Out), (dI x_3.Seg), (dI x_3.Lo), (dI x_3.Hi)])]) ?_ (fun T1 H1 hw => ?_)
   ·replace h := hv21; clear hv21
    refine Tr.block ?_
    refine Tr.seq ?_
    refine sg ?_
    conv=>whnf
    refine Tr.cond ?_
    conv=>whnf
    refine cB h (fun hb22 h => ?_) (fun hb22 h => ?_)
    ·refine Tr.exit ?_
     conv=>whnf
     cases h
     exact Wk.mk2 [0, 1] 2 rfl rfl (by decide) rfl ⟨rr, rr, trivial⟩ ⟨rr, rr, rr, rr, rr, rr, rr, rr, rr, trivial⟩
    refine Tr.skip ?_
    conv=>whnf
    refine Tr.seq ?_
    refine sg ?_
    conv=>whnf
    obtain ⟨r_23, hc24, h⟩ := bS h
    refine PC.ecall (P214 f_1 world_2 x_3 runner_4 i_12 r_23 hc24) (fun rs hrs => ?_)
    subst hrs
    conv=>whnf
    refine Tr.cond ?_
    conv=>whnf
    refine cB h (fun hb25 h => ?_) (fun hb25 h => ?_)
    ·refine rg ?_
     conv=>whnf
     refine arS_raw ?_
     conv=>whnf
     refine sg ?_
     conv=>whnf
     obtain ⟨r_26, hc27, h⟩ := bS h
     refine PC.ecall (P218 f_1 world_2 x_3 runner_4 i_12 r_26 hc27) (fun rs hrs => ?_)
     subst hrs
     conv=>whnf
     refine Tr.cond ?_
     conv=>whnf
     refine cB h (fun hb28 h => ?_) (fun hb28 h => ?_)
     ·refine rg ?_
      conv=>whnf
      refine arS_raw ?_
      conv=>whnf
      cases h
      exact Wk.mk2 [0, 1] 2 rfl rfl (by decide) rfl ⟨rr, rr, trivial⟩ ⟨rr, rr, rr, rr, rr, rr, rr, rr, rr, trivial⟩
     refine Tr.skip ?_
     conv=>whnf
     cases h
     exact Wk.mk2 [0, 1] 2 rfl rfl (by decide) rfl ⟨rr, rr, trivial⟩ ⟨rr, rr, rr, rr, rr, rr, rr, rr, rr, trivial⟩
    refine Tr.skip ?_
    conv=>whnf
    refine sg ?_
    conv=>whnf
    obtain ⟨r_29, hc30, h⟩ := bS h
    refine PC.ecall (P218 f_1 world_2 x_3 runner_4 i_12 r_29 hc30) (fun rs hrs => ?_)
    subst hrs
    conv=>whnf
    refine Tr.cond ?_
    conv=>whnf
    refine cB h (fun hb31 h => ?_) (fun hb31 h => ?_)
    ·refine rg ?_
     conv=>whnf
     refine arS_raw ?_
     conv=>whnf
     cases h
     exact Wk.mk2 [0, 1] 2 rfl rfl (by decide) rfl ⟨rr, rr, trivial⟩ ⟨rr, rr, rr, rr, rr, rr, rr, rr, rr, trivial⟩
    refine Tr.skip ?_
    conv=>whnf
    cases h
    exact Wk.mk2 [0, 1] 2 rfl rfl (by decide) rfl ⟨rr, rr, trivial⟩ ⟨rr, rr, rr, rr, rr, rr, rr, rr, rr, trivial⟩
   clear hv21
   conv=>whnf
   refine Tr.weak hw ?_
   refine rg ?_
   conv=>whnf
   refine arS_raw ?_
   conv=>whnf
   refine ⟨(best_19, worst_20, (w64 (i_12 + 1))), h, ?_⟩
   exact Wk.mk2 [0, 1] 2 rfl rfl (by decide) rfl ⟨rr, rr, trivial⟩ ⟨rr, rr, rr, rr, rr, rr, rr, rr, rr, trivial⟩
  refine Tr.exit ?_
  conv=>whnf
  cases h
  exact Wk.mk2 [] 2 rfl rfl (by decide) rfl trivial ⟨rr, rr, rr, rr, trivial⟩
 clear hv32
 conv=>whnf
 refine Tr.weak hw ?_
 refine sg ?_
 conv=>whnf
 refine Tr.ret ?_
 conv=>whnf
 cases h
 rfl
theorem P223 (f_1 : TField) (runner_2 : Int) (r_3 : TRank) (r_4 : Int) (h : M223 f_1 runner_2 = some (r_3, r_4)) :
    PC prog 107 [(eTField f_1), (.i .i64 runner_2)] (fun rs => rs = [(eTRank r_3), (.i .i64 r_4)]) := by
 refine PC.of_tr (cx := ⟨106, none, lay, 0⟩) layOK func107 rfl rfl rfl rfl rfl (by simp [f107]) ?_
 unfold M223 at h
 refine sg ?_
 conv=>whnf
 refine sg ?_
 conv=>whnf
 obtain ⟨r_5, hc6, h⟩ := bS h
 refine PC.ecall (P204 f_1 runner_2 r_5 hc6) (fun rs hrs => ?_)
 subst hrs
 conv=>whnf
 refine Tr.seq ?_
 refine sg ?_
 conv=>whnf
 refine Tr.cond ?_
 conv=>whnf
 refine cB h (fun hb7 h => ?_) (fun hb7 h => ?_)
 ·refine sg ?_
  conv=>whnf
  refine Tr.ret ?_
  conv=>whnf
  cases h
  rfl
 refine Tr.skip ?_
 conv=>whnf
 refine sg ?_
 conv=>whnf
 obtain ⟨x_8, hx_8, h⟩ := bS h
 refine ixP_of hx_8 ?_
 conv=>whnf
 refine Tr.seq ?_
 refine sg ?_
 conv=>whnf
 obtain ⟨⟨v_18, v_19, v_20⟩, hv57, h⟩ := bS h
 refine Tr.cutQ1 ([(4, .pt 0 0), (5, (dI 0)), (7, .pt 1 0)]) ([some (.var [(dI 0), (dI 0), (dI 0), (dI 0), .d (.b false)]), some (.var [(dI x_8.Bib), (dI 0), (dI v_18), (dI v_19), .d (.b v_20)])]) ?_ (fun T1 H1 hw => ?_)
 ·replace h := hv57; clear hv57
  refine Tr.block ?_
  refine Tr.loopM (σ := Int × Int × Int × Bool) (fun n s => M222 f_1 runner_2 n s.1 s.2.1 s.2.2.1 s.2.2.2) (v_18, v_19, v_20) (fun s => ([(1, (dI runner_2)), (2, .pt 0 0), (4, .pt 1 0), (5, (dI 0)), (7, .pt 2 0), (8, (dI s.1))], [some (.var [.d (.ls (List.map eTSegment f_1.Clocks.Segments)), .d (.ls (List.map (eL eI) f_1.Clocks.Far)), .d (.ls (List.map eTPair f_1.Pairs)), .d (.ls (List.map eTRunner f_1.Runners))]), some (.var [(dI 0), (dI 0), (dI 0), (dI 0), .d (.b false)]), some (.var [(dI x_8.Bib), (dI 0), (dI s.2.1), (dI s.2.2.1), .d (.b s.2.2.2)])])) (((((f_1.Pairs).length : Int)) + 1 - 0 : Int).toNat + 1) (0, 0, 0, false) h (fun s => rfl) (Wk.mk2 [0, 1, 2] 3 rfl rfl (by decide) rfl ⟨rr, rr, rr, trivial⟩ ⟨rr, rr, rr, rr, rr, rr, trivial⟩) ?_
  clear h
  rintro n_17 ⟨w_13, v_14, v_15, v_16⟩ h
  replace h : M222 f_1 runner_2 (n_17 + 1) w_13 v_14 v_15 v_16 = some (v_18, v_19, v_20) := h
  rw [M222] at h
  refine Tr.seq ?_
  refine sg ?_
  conv=>whnf
  refine lnS_map ?_
  conv=>whnf
  refine Tr.cond ?_
  conv=>whnf
  refine cB h (fun hb23 h => ?_) (fun hb23 h => ?_)
  ·refine Tr.skip ?_
   conv=>whnf
   refine Tr.seq ?_
   refine Tr.block ?_
   refine sg ?_
   conv=>whnf
   obtain ⟨x_24, hx_24, h⟩ := bS h
   refine ixP_of hx_24 ?_
   conv=>whnf
   obtain ⟨x_25, hx_25, h⟩ := bS h
   refine ixP_of hx_25 ?_
   conv=>whnf
   refine sg ?_
   conv=>whnf
   obtain ⟨⟨v_35, v_36, v_37⟩, hv56, h⟩ := bS h
   refine Tr.cutQ1 ([(1, (dI runner_2)), (2, .pt 0 0), (4, .pt 1 0), (5, (dI 0)), (7, .pt 2 0), (8, (dI w_13))]) ([some (.var [.d (.ls (List.map eTSegment f_1.Clocks.Segments)), .d (.ls (List.map (eL eI) f_1.Clocks.Far)), .d (.ls (List.map eTPair f_1.Pairs)), .d (.ls (List.map eTRunner f_1.Runners))]), some (.var [(dI 0), (dI 0), (dI 0), (dI 0), .d (.b false)]), some (.var [(dI x_8.Bib), (dI 0), (dI v_35), (dI v_36), .d (.b v_37)])]) ?_ (fun T1 H1 hw => ?_)
   ·replace h := hv56; clear hv56
    refine Tr.block ?_
    refine Tr.loopM (σ := Int × Int × Int × Bool) (fun n s => M221 f_1 runner_2 w_13 x_25 n s.1 s.2.1 s.2.2.1 s.2.2.2) (v_35, v_36, v_37) (fun s => ([(1, (dI runner_2)), (2, .pt 0 0), (4, .pt 1 0), (5, (dI 0)), (7, .pt 2 0), (8, (dI w_13)), (9, .d (.ls (List.map eTOutcome x_25))), (10, (dI s.1))], [some (.var [.d (.ls (List.map eTSegment f_1.Clocks.Segments)), .d (.ls (List.map (eL eI) f_1.Clocks.Far)), .d (.ls (List.map eTPair f_1.Pairs)), .d (.ls (List.map eTRunner f_1.Runners))]), some (.var [(dI 0), (dI 0), (dI 0), (dI 0), .d (.b false)]), some (.var [(dI x_8.Bib), (dI 0), (dI s.2.1), (dI s.2.2.1), .d (.b s.2.2.2)])])) (((((x_25).length : Int)) - 0 : Int).toNat + 1) (0, v_14, v_15, v_16) h (fun s => rfl) (Wk.mk2 [0, 1, 2] 3 rfl rfl (by decide) rfl ⟨rr, rr, rr, trivial⟩ ⟨rr, rr, rr, rr, rr, rr, rr, rr, trivial⟩) ?_
    clear h
    rintro n_34 ⟨i_30, v_31, v_32, v_33⟩ h
    replace h : M221 f_1 runner_2 w_13 x_25 (n_34 + 1) i_30 v_31 v_32 v_33 = some (v_35, v_36, v_37) := h
    rw [M221] at h
    refine Tr.seq ?_
    refine sg ?_
    conv=>whnf
    refine lnS_map ?_
    conv=>whnf
    refine cB h (fun hb40 h => ?_) (fun hb40 h => ?_)
    ·conv=>whnf
     obtain ⟨r_41, hc42, h⟩ := bS h
     refine PC.ecall (P207 f_1 w_13 r_41 hc42) (fun rs hrs => ?_)
     subst hrs
     conv=>whnf
     refine Tr.cond ?_
     conv=>whnf
     refine cB h (fun hb43 h => ?_) (fun hb43 h => ?_)
     ·refine Tr.skip ?_
      conv=>whnf
      refine Tr.seq ?_
      obtain ⟨⟨v_44, v_45, v_46⟩, hv47, h⟩ := bS h
      refine Tr.cutQ1 ([(1, (dI runner_2)), (2, .pt 0 0), (4, .pt 1 0), (5, (dI 0)), (7, .pt 2 0), (8, (dI w_13)), (9, .d (.ls (List.map eTOutcome x_25))), (10, (dI i_30))]) ([some (.var [.d (.ls (List.map eTSegment f_1.Clocks.Segments)), .d (.ls (List.map (eL eI) f_1.Clocks.Far)), .d (.ls (List.map eTPair f_1.Pairs)), .d (.ls (List.map eTRunner f_1.Runners))]), some (.var [(dI 0), (dI 0), (dI 0), (dI 0), .d (.b false)]), some (.var [(dI x_8.Bib), (dI 0), (dI v_44), (dI v_45), .d (.b v_46)])]) ?_ (fun T1 H1 hw => ?_)
      ·replace h := hv47; clear hv47
       refine Tr.block ?_
       refine Tr.seq ?_
       refine sg ?_
       conv=>whnf
       obtain ⟨x_48, hx_48, h⟩ := bS h
       refine ixP_of hx_48 ?_
       conv=>whnf
       refine Tr.cond ?_
       conv=>whnf
       refine cB h (fun hb49 h => ?_) (fun hb49 h => ?_)
       ·refine sg ?_
        conv=>whnf
        refine Tr.exit ?_
        conv=>whnf
        cases h
        exact Wk.mk2 [0, 1, 2] 3 rfl rfl (by decide) rfl ⟨rr, rr, rr, trivial⟩ ⟨rr, rr, rr, rr, rr, rr, rr, rr, trivial⟩
       refine Tr.skip ?_
       conv=>whnf
       refine sd [] [(0,3),(1,1),(2,1),(3,1),(4,2),(5,2),(6,1),(7,1),(8,1),(9,1),(10,1),(11,1),(12,1)] ?_
       conv=>whnf
       refine q2 ?_
       conv=>whnf
       refine q1 ?_
       conv=>whnf
       refine q1 ?_
       conv=>whnf
       refine q1 ?_
       conv=>whnf
       obtain ⟨x_50, hx_50, h⟩ := bS h
       refine q3 (ixP_of hx_50 rr) ?_
       conv=>whnf
       refine q2 ?_
       conv=>whnf
       refine q1 ?_
       conv=>whnf
       obtain ⟨⟨r_51, r_52⟩, hc53, h⟩ := bS h
       refine q1 ?_ (fun _ => pe (P220 f_1 w_13 x_50 runner_2 r_51 r_52 hc53) rr)
       conv=>whnf
       refine q1 ?_
       conv=>whnf
       refine q1 ?_
       conv=>whnf
       refine q1 ?_
       conv=>whnf
       refine q1 ?_
       conv=>whnf
       refine q1 ?_
       conv=>whnf
       refine Tr.seq ?_
       refine sg ?_
       conv=>whnf
       refine cB h (fun hb54 h => ?_) (fun hb54 h => ?_)
       ·conv=>whnf
        refine Tr.cond ?_
        conv=>whnf
        refine rg ?_
        conv=>whnf
        refine rg ?_
        conv=>whnf
        cases h
        exact Wk.mk2 [0, 1, 2] 3 rfl rfl (by decide) rfl ⟨rr, rr, rr, trivial⟩ ⟨rr, rr, rr, rr, rr, rr, rr, rr, trivial⟩
       conv=>whnf
       refine Tr.cond ?_
       conv=>whnf
       refine cB h (fun hb55 h => ?_) (fun hb55 h => ?_)
       ·refine rg ?_
        conv=>whnf
        refine rg ?_
        conv=>whnf
        cases h
        exact Wk.mk2 [0, 1, 2] 3 rfl rfl (by decide) rfl ⟨rr, rr, rr, trivial⟩ ⟨rr, rr, rr, rr, rr, rr, rr, rr, trivial⟩
       refine Tr.skip ?_
       conv=>whnf
       refine rg ?_
       conv=>whnf
       cases h
       exact Wk.mk2 [0, 1, 2] 3 rfl rfl (by decide) rfl ⟨rr, rr, rr, trivial⟩ ⟨rr, rr, rr, rr, rr, rr, rr, rr, trivial⟩
      clear hv47
      conv=>whnf
      refine Tr.weak hw ?_
      refine rg ?_
      conv=>whnf
      refine arS_raw ?_
      conv=>whnf
      refine ⟨((w64 (i_30 + 1)), v_44, v_45, v_46), h, ?_⟩
      exact Wk.mk2 [0, 1, 2] 3 rfl rfl (by decide) rfl ⟨rr, rr, rr, trivial⟩ ⟨rr, rr, rr, rr, rr, rr, rr, rr, trivial⟩
     refine Tr.exit ?_
     conv=>whnf
     cases h
     exact Wk.mk2 [0, 1, 2] 3 rfl rfl (by decide) rfl ⟨rr, rr, rr, trivial⟩ ⟨rr, rr, rr, rr, rr, rr, trivial⟩
    conv=>whnf
    refine Tr.cond ?_
    conv=>whnf
    refine Tr.exit ?_
    conv=>whnf
    cases h
    exact Wk.mk2 [0, 1, 2] 3 rfl rfl (by decide) rfl ⟨rr, rr, rr, trivial⟩ ⟨rr, rr, rr, rr, rr, rr, trivial⟩
   clear hv56
   conv=>whnf
   refine Tr.weak hw ?_
   refine rg ?_
   conv=>whnf
   refine arS_raw ?_
   conv=>whnf
   refine ⟨((w64 (w_13 + 1)), v_35, v_36, v_37), h, ?_⟩
   exact Wk.mk2 [0, 1, 2] 3 rfl rfl (by decide) rfl ⟨rr, rr, rr, trivial⟩ ⟨rr, rr, rr, rr, rr, rr, trivial⟩
  refine Tr.exit ?_
  conv=>whnf
  cases h
  exact Wk.mk2 [1, 2] 3 rfl rfl (by decide) rfl ⟨rr, rr, trivial⟩ ⟨⟨rfl, (by first | rfl | (simp only [↓hb7, ↓hb23, bl, List.length_set]; done) | (simp only [↓hb7, ↓hb23, bl, List.length_set]; rfl))⟩, rr, ⟨rfl, (by first | rfl | (simp only [↓hb7, ↓hb23, bl, List.length_set]; done) | (simp only [↓hb7, ↓hb23, bl, List.length_set]; rfl))⟩, trivial⟩
 clear hv57
 conv=>whnf
 refine Tr.weak hw ?_
 refine Tr.seq ?_
 refine Tr.cutQ1 ([(4, .pt 0 0), (5, (dI 0)), (7, .pt 1 0)]) ([some (.var [(dI 0), (dI 0), (dI 0), (dI 0), .d (.b false)]), some (.var [(dI x_8.Bib), (dI (bif (v_18 == 0) then 3 else (bif (v_18 == v_19) then (bif (!v_20) then 1 else 2) else 2))), (dI v_18), (dI v_19), .d (.b v_20)])]) ?_ (fun T1 H1 hw => ?_)
 ·refine Tr.block ?_
  refine sg ?_
  conv=>whnf
  refine Tr.cond ?_
  conv=>whnf
  refine condS_mk (fun hb59 => ?_) (fun hb59 => ?_)
  ·refine rg ?_
   conv=>whnf
   exact Wk.mk2 [0, 1] 2 rfl rfl (by decide) rfl ⟨rr, ⟨rfl, (by first | rfl | (simp only [↓hb7, ↓hb59, bl, List.length_set]; done) | (simp only [↓hb7, ↓hb59, bl, List.length_set]; rfl))⟩, trivial⟩ ⟨rr, rr, rr, trivial⟩
  refine sg ?_
  conv=>whnf
  refine condS_mk (fun hb60 => ?_) (fun hb60 => ?_)
  ·conv=>whnf
   refine Tr.cond ?_
   conv=>whnf
   refine condS_mk (fun hb61 => ?_) (fun hb61 => ?_)
   ·refine rg ?_
    conv=>whnf
    exact Wk.mk2 [0, 1] 2 rfl rfl (by decide) rfl ⟨rr, ⟨rfl, (by first | rfl | (simp only [↓hb7, ↓hb59, ↓hb60, ↓hb61, bl, List.length_set]; done) | (simp only [↓hb7, ↓hb59, ↓hb60, ↓hb61, bl, List.length_set]; rfl))⟩, trivial⟩ ⟨rr, rr, rr, trivial⟩
   refine rg ?_
   conv=>whnf
   exact Wk.mk2 [0, 1] 2 rfl rfl (by decide) rfl ⟨rr, ⟨rfl, (by first | rfl | (simp only [↓hb7, ↓hb59, ↓hb60, ↓hb61, bl, List.length_set]; done) | (simp only [↓hb7, ↓hb59, ↓hb60, ↓hb61, bl, List.length_set]; rfl))⟩, trivial⟩ ⟨rr, rr, rr, trivial⟩
  conv=>whnf
  refine Tr.cond ?_
  conv=>whnf
  refine rg ?_
  conv=>whnf
  exact Wk.mk2 [0, 1] 2 rfl rfl (by decide) rfl ⟨rr, ⟨rfl, (by first | rfl | (simp only [↓hb7, ↓hb59, ↓hb60, bl, List.length_set]; done) | (simp only [↓hb7, ↓hb59, ↓hb60, bl, List.length_set]; rfl))⟩, trivial⟩ ⟨rr, rr, rr, trivial⟩
 conv=>whnf
 refine Tr.weak hw ?_
 refine sg ?_
 conv=>whnf
 refine Tr.ret ?_
 conv=>whnf
 cases h
 rfl
theorem P224 (q_1 : TQuestion) (r_2 : Int) (h : M224 q_1 = some r_2) :
    PC prog 77 [(eTQuestion q_1)] (fun rs => rs = [(.i .i64 r_2)]) := by
 refine PC.of_tr (cx := ⟨29, none, lay, 0⟩) layOK func77 rfl rfl rfl rfl rfl (by simp [f77]) ?_
 unfold M224 at h
 refine sg ?_
 conv=>whnf
 refine sg ?_
 conv=>whnf
 obtain ⟨⟨r_3, r_4⟩, hc5, h⟩ := bS h
 refine PC.ecall (P223 q_1.Field q_1.Runner r_3 r_4 hc5) (fun rs hrs => ?_)
 subst hrs
 conv=>whnf
 refine Tr.seq ?_
 refine sg ?_
 conv=>whnf
 refine Tr.cond ?_
 conv=>whnf
 refine cB h (fun hb6 h => ?_) (fun hb6 h => ?_)
 ·refine sg ?_
  conv=>whnf
  refine Tr.ret ?_
  conv=>whnf
  cases h
  rfl
 refine Tr.skip ?_
 conv=>whnf
 refine Tr.seq ?_
 refine sg ?_
 conv=>whnf
 refine Tr.cond ?_
 conv=>whnf
 refine cB h (fun hb7 h => ?_) (fun hb7 h => ?_)
 ·refine sg ?_
  conv=>whnf
  refine arS_raw ?_
  conv=>whnf
  refine arS_raw ?_
  conv=>whnf
  refine Tr.ret ?_
  conv=>whnf
  cases h
  rfl
 refine Tr.skip ?_
 conv=>whnf
 refine sg ?_
 conv=>whnf
 refine arS_raw ?_
 conv=>whnf
 refine Tr.ret ?_
 conv=>whnf
 cases h
 rfl
theorem P225 (r_1 : TPlan) (h : M225 = some r_1) :
    PC prog 78 [] (fun rs => rs = [(eTPlan r_1)]) := by
 refine PC.of_tr (cx := ⟨2, none, lay, 0⟩) layOK func78 rfl rfl rfl rfl rfl (by simp [f78]) ?_
 unfold M225 at h
 refine sg ?_
 conv=>whnf
 refine sg ?_
 conv=>whnf
 refine orB_l ?_
 conv=>whnf
 refine Tr.ret ?_
 conv=>whnf
 cases h
 rfl
theorem P226 (used_1 : List Bool) (look_2 : Int) (r_3 : List Bool) (h : M226 used_1 look_2 = some r_3) :
    PC prog 81 [(.ls (List.map eB used_1)), (.i .i64 look_2)] (fun rs => rs = [(.ls (List.map eB r_3))]) := by
 refine PC.of_tr (cx := ⟨13, none, lay, 0⟩) layOK func81 rfl rfl rfl rfl rfl (by simp [f81]) ?_
 unfold M226 at h
 refine sg ?_
 conv=>whnf
 refine sg ?_
 conv=>whnf
 refine orB_l ?_
 conv=>whnf
 refine frP_no ?_
 conv=>whnf
 refine eqS_mk (by first | rfl | simp) ?_
 conv=>whnf
 obtain ⟨l_4, hl_4, h⟩ := bS h
 refine apS_of hl_4 (aQ (f := eB) (l := used_1) fun _ => rfl) (by first | rfl | simp) (by first | rfl | simp) (fun he => ?_)
 conv=>whnf
 refine rS (es' := List.map .d (List.map eB l_4)) (n' := List.length l_4) (by subst he; simp only [List.map_append, List.map_cons, List.map_nil, List.nil_append]; first | done | rfl) (by subst he; simp <;> omega) ?_
 clear he
 conv=>whnf
 refine sg ?_
 conv=>whnf
 obtain ⟨x_5, hx_5, h⟩ := bS h
 refine ixS_of hx_5 rfl ?_
 conv=>whnf
 refine elP_of hx_5 ?_
 conv=>whnf
 refine lvS_mk (es' := List.map .d (List.map eB (List.set l_4 (Int.toNat look_2) true))) (by simp only [Nat.zero_add, List.map_set]; first | done | rfl) ?_
 conv=>whnf
 refine sg ?_
 conv=>whnf
 refine Tr.ret ?_
 conv=>whnf
 refine frE_of (f := eB) (l := (List.set l_4 (Int.toNat look_2) true)) (by first | rfl | simp) ?_
 conv=>whnf
 cases h
 rfl
theorem P229 (rc_9093 : TQuestion → Int → (List Bool) → Int → Int → Bool → Option (TPlan × Bool × Int × Bool)) (ih_9093 : ∀ (q_1 : TQuestion) (left_2 : Int) (used_3 : List Bool) (v_4 : Int) (v_5 : Int) (v_6 : Bool) (r_107 : TPlan) (r_108 : Bool) (b_109 : Int) (b_110 : Bool), rc_9093 q_1 left_2 used_3 v_4 v_5 v_6 = some (r_107, r_108, b_109, b_110) → MC prog 47 [.pt 0 0, .d (eTQuestion q_1), (dI left_2), .d (.ls (List.map eB used_3))] [.var [(dI v_4), (dI v_5), .d (.b v_6)]] (fun rs Bs => rs = [(eTPlan r_107), (.b r_108)] ∧ Bs = [.var [(dI v_4), (dI b_109), .d (.b b_110)]])) (q_1 : TQuestion) (left_2 : Int) (used_3 : List Bool) (look_4 : Int) (v_5 : Int) (v_6 : Int) (v_7 : Bool) (r_8 : List TPlan0) (r_9 : Bool) (b_10 : Int) (b_11 : Bool) (h : M229 rc_9093 q_1 left_2 used_3 look_4 v_5 v_6 v_7 = some (r_8, r_9, b_10, b_11)) :
    MC prog 79 [.pt 0 0, .d (eTQuestion q_1), (dI left_2), .d (.ls (List.map eB used_3)), (dI look_4)] [.var [(dI v_5), (dI v_6), .d (.b v_7)]] (fun rs Bs => rs = [(.ls (List.map eTPlan0 r_8)), (.b r_9)] ∧ Bs = [.var [(dI v_5), (dI b_10), .d (.b b_11)]]) := by
 refine MC.of_tr (cx := ⟨57, none, lay, 1⟩) layOK func79 rfl rfl rfl rfl rfl (by simp [f79]) ?_
 refine Tr.unW ?_
 unfold M229 at h
 refine sg ?_
 conv=>whnf
 refine sg ?_
 conv=>whnf
 refine orB_l ?_
 conv=>whnf
 refine Tr.seq ?_
 refine sg ?_
 conv=>whnf
 refine Tr.cutQ (α := Int × Bool × List TPlan0) (fun s => ([(10, .nsl), (11, .d (.b false)), (12, .sl 1 2 0 (List.length s.2.2))], [some (.var [(dI v_5), (dI s.1), .d (.b s.2.1)]), some (.arr 2 (List.map .d (List.map eTPlan0 s.2.2)))])) (fun s => M228 s.1 s.2.1 s.2.2 = some (r_8, r_9, b_10, b_11)) ?_ ?_
 ·refine Tr.block ?_
  refine Tr.loopM (σ := Int × Int × Bool × List TPlan0) (fun n s => M227 q_1 left_2 used_3 look_4 v_5 rc_9093 M228 n s.1 s.2.1 s.2.2.1 s.2.2.2) (r_8, r_9, b_10, b_11) (fun s => ([(0, .pt 0 0), (2, (dI left_2)), (3, .d (.ls (List.map eB used_3))), (4, (dI look_4)), (6, .pt 1 0), (10, .nsl), (11, .d (.b false)), (12, .sl 2 2 0 (List.length s.2.2.2)), (13, (dI s.1))], [some (.var [(dI v_5), (dI s.2.1), .d (.b s.2.2.1)]), some (.var [.d (.ls (List.map eTSegment q_1.Field.Clocks.Segments)), .d (.ls (List.map (eL eI) q_1.Field.Clocks.Far)), .d (.ls (List.map eTPair q_1.Field.Pairs)), .d (.ls (List.map eTRunner q_1.Field.Runners)), (dI q_1.Runner), .d (.ls (List.map eTLook q_1.Looks))]), some (.arr 2 (List.map .d (List.map eTPlan0 s.2.2.2)))])) ((((((Option.getD (idx q_1.Looks look_4) default).Answers).length : Int)) - 0 : Int).toNat + 1) (0, v_6, v_7, (([] : List TPlan0))) h (fun s => rfl) (Wk.mk2 [0, 1, 2] 3 rfl rfl (by decide) rfl ⟨rr, rr, daS_d rfl, trivial⟩ ⟨rr, rr, rr, rr, rr, rr, rr, rr, rr, trivial⟩) ?_
  clear h
  rintro n_20 ⟨i_16, v_17, v_18, l_19⟩ h
  replace h : M227 q_1 left_2 used_3 look_4 v_5 rc_9093 M228 (n_20 + 1) i_16 v_17 v_18 l_19 = some (r_8, r_9, b_10, b_11) := h
  rw [M227] at h
  refine Tr.seq ?_
  refine sg ?_
  conv=>whnf
  obtain ⟨x_26, hx_26, h⟩ := bS h
  refine ixP_of hx_26 ?_
  conv=>whnf
  refine lnS_map ?_
  conv=>whnf
  refine Tr.cond ?_
  conv=>whnf
  refine cB h (fun hb27 h => ?_) (fun hb27 h => ?_)
  ·refine Tr.skip ?_
   conv=>whnf
   refine Tr.seq ?_
   refine Tr.block ?_
   refine sg ?_
   conv=>whnf
   obtain ⟨⟨r_28, r_29⟩, hc30, h⟩ := bS h
   refine PC.ecall (P203 q_1 look_4 i_16 r_28 r_29 hc30) (fun rs hrs => ?_)
   subst hrs
   conv=>whnf
   refine sg ?_
   conv=>whnf
   obtain ⟨r_31, hc32, h⟩ := bS h
   refine PC.ecall (P225 r_31 hc32) (fun rs hrs => ?_)
   subst hrs
   conv=>whnf
   refine Tr.seq ?_
   refine sg ?_
   conv=>whnf
   refine Tr.cond ?_
   conv=>whnf
   refine cB h (fun hb33 h => ?_) (fun hb33 h => ?_)
   ·refine sg ?_
    conv=>whnf
    refine sd [(7,0),(11,4)] [(0,1),(1,6),(2,1),(3,1),(4,1),(5,1),(6,1),(7,0),(8,1),(9,1),(10,1),(11,0),(12,1)] ?_
    conv=>whnf
    refine q1 ?_
    conv=>whnf
    refine q2 ?_
    conv=>whnf
    refine q1 ?_
    conv=>whnf
    refine q4 ?_
    conv=>whnf
    refine q1 ?_
    conv=>whnf
    refine q1 ?_
    conv=>whnf
    obtain ⟨r_34, hc35, h⟩ := bS h
    refine q1 ?_ (fun _ => pe (P226 used_3 look_4 r_34 hc35) rr)
    conv=>whnf
    obtain ⟨⟨r_36, r_37, b_38, b_39⟩, hc40, h⟩ := bS h
    refine ⟨_, _, (by (conv=>whnf); (refine MC.ecall (ih_9093 r_28 ((w64 (left_2 - 1))) r_34 v_5 v_17 v_18 r_36 r_37 b_38 b_39 hc40) [0] (by decide) rfl rfl ?_ (fun rs Bs1 hrs => ?_)); (· exact ⟨⟨rfl, rfl⟩, trivial⟩); (obtain ⟨rfl, rfl⟩ := hrs); (conv=>whnf); (exact rr)), kp_ok (by repeat (first | exact trivial | refine ⟨trivial, ?_⟩ | refine ⟨rfl, ?_⟩)), ?_⟩
    conv=>whnf
    refine q1 ?_
    conv=>whnf
    refine q1 ?_
    conv=>whnf
    refine q1 ?_
    conv=>whnf
    refine ⟨_, _, rr, kp_ok (by repeat (first | exact trivial | refine ⟨trivial, ?_⟩ | refine ⟨rfl, ?_⟩)), ?_⟩
    conv=>whnf
    refine q1 ?_
    conv=>whnf
    refine sg ?_
    conv=>whnf
    refine Tr.cond ?_
    conv=>whnf
    refine cB h (fun hb41 h => ?_) (fun hb41 h => ?_)
    ·refine sg ?_
     conv=>whnf
     refine Tr.ret ?_
     conv=>whnf
     refine endH ?_
     conv=>whnf
     cases h
     exact endB rfl rfl rfl ⟨rfl, trivial⟩
    refine Tr.skip ?_
    conv=>whnf
    refine rg ?_
    conv=>whnf
    refine orB_r ?_
    conv=>whnf
    refine frP_no ?_
    conv=>whnf
    refine eqS_mk (by first | rfl | simp) ?_
    conv=>whnf
    obtain ⟨l_42, hl_42, h⟩ := bS h
    refine apS_of hl_42 (aQ (f := eTPlan0) (l := (([(pTPlan r_36)] : List TPlan0))) fun _ => rfl) (by first | rfl | simp) (by first | rfl | simp) (fun he => ?_)
    conv=>whnf
    refine rS (es' := List.map .d (List.map eTPlan0 l_42)) (n' := List.length l_42) (by subst he; simp only [List.map_append, List.map_cons, List.map_nil, List.nil_append]; first | done | rfl) (by subst he; simp <;> omega) ?_
    clear he
    conv=>whnf
    refine rg ?_
    conv=>whnf
    refine arS_raw ?_
    conv=>whnf
    refine ⟨((w64 (i_16 + 1)), b_38, b_39, l_42), h, ?_⟩
    exact Wk.mk2 [0, 1, 5] 6 rfl rfl (by decide) rfl ⟨rr, rr, daS_d rfl, trivial⟩ ⟨rr, rr, rr, rr, rr, rr, rr, ⟨rfl, (by first | rfl | (simp only [↓hb27, ↓hb33, ↓hb41, bl, List.length_set]; done) | (simp only [↓hb27, ↓hb33, ↓hb41, bl, List.length_set]; rfl))⟩, rr, trivial⟩
   refine Tr.skip ?_
   conv=>whnf
   refine rg ?_
   conv=>whnf
   refine orB_r ?_
   conv=>whnf
   refine frP_no ?_
   conv=>whnf
   refine eqS_mk (by first | rfl | simp) ?_
   conv=>whnf
   obtain ⟨l_43, hl_43, h⟩ := bS h
   refine apS_of hl_43 (aQ (f := eTPlan0) (l := (([(pTPlan r_31)] : List TPlan0))) fun _ => rfl) (by first | rfl | simp) (by first | rfl | simp) (fun he => ?_)
   conv=>whnf
   refine rS (es' := List.map .d (List.map eTPlan0 l_43)) (n' := List.length l_43) (by subst he; simp only [List.map_append, List.map_cons, List.map_nil, List.nil_append]; first | done | rfl) (by subst he; simp <;> omega) ?_
   clear he
   conv=>whnf
   refine rg ?_
   conv=>whnf
   refine arS_raw ?_
   conv=>whnf
   refine ⟨((w64 (i_16 + 1)), v_17, v_18, l_43), h, ?_⟩
   exact Wk.mk2 [0, 1, 5] 6 rfl rfl (by decide) rfl ⟨rr, rr, daS_d rfl, trivial⟩ ⟨rr, rr, rr, rr, rr, rr, rr, ⟨rfl, (by first | rfl | (simp only [↓hb27, ↓hb33, bl, List.length_set]; done) | (simp only [↓hb27, ↓hb33, bl, List.length_set]; rfl))⟩, rr, trivial⟩
  refine Tr.exit ?_
  conv=>whnf
  refine ⟨(v_17, v_18, l_19), h, ?_⟩
  exact Wk.mk2 [0, 2] 3 rfl rfl (by decide) rfl ⟨rr, daS_d rfl, trivial⟩ ⟨rr, rr, ⟨rfl, (by first | rfl | (simp only [↓hb27, bl, List.length_set]; done) | (simp only [↓hb27, bl, List.length_set]; rfl))⟩, trivial⟩
 clear h
 rintro ⟨v_21, v_22, l_23⟩ h T1 H1 hw
 replace h : M228 v_21 v_22 l_23 = some (r_8, r_9, b_10, b_11) := h
 conv=>whnf
 refine Tr.weak hw ?_
 unfold M228 at h
 refine sg ?_
 conv=>whnf
 refine Tr.ret ?_
 conv=>whnf
 refine endH ?_
 conv=>whnf
 refine frE_of (f := eTPlan0) (l := l_23) rfl ?_
 conv=>whnf
 cases h
 exact endB rfl rfl rfl ⟨rfl, trivial⟩
theorem P232 (rc_9093 : TQuestion → Int → (List Bool) → Int → Int → Bool → Option (TPlan × Bool × Int × Bool)) (ih_9093 : ∀ (q_1 : TQuestion) (left_2 : Int) (used_3 : List Bool) (v_4 : Int) (v_5 : Int) (v_6 : Bool) (r_7 : TPlan) (r_8 : Bool) (b_9 : Int) (b_10 : Bool), rc_9093 q_1 left_2 used_3 v_4 v_5 v_6 = some (r_7, r_8, b_9, b_10) → MC prog 47 [.pt 0 0, .d (eTQuestion q_1), (dI left_2), .d (.ls (List.map eB used_3))] [.var [(dI v_4), (dI v_5), .d (.b v_6)]] (fun rs Bs => rs = [(eTPlan r_7), (.b r_8)] ∧ Bs = [.var [(dI v_4), (dI b_9), .d (.b b_10)]])) (q_1 : TQuestion) (left_2 : Int) (used_3 : List Bool) (v_4 : Int) (v_5 : Int) (v_6 : Bool) (r_7 : TPlan) (r_8 : Bool) (b_9 : Int) (b_10 : Bool) (h : M232 rc_9093 q_1 left_2 used_3 v_4 v_5 v_6 = some (r_7, r_8, b_9, b_10)) :
    MC prog 47 [.pt 0 0, .d (eTQuestion q_1), (dI left_2), .d (.ls (List.map eB used_3))] [.var [(dI v_4), (dI v_5), .d (.b v_6)]] (fun rs Bs => rs = [(eTPlan r_7), (.b r_8)] ∧ Bs = [.var [(dI v_4), (dI b_9), .d (.b b_10)]]) := by
 refine MC.of_tr (cx := ⟨78, none, lay, 1⟩) layOK func47 rfl rfl rfl rfl rfl (by simp [f47]) ?_
 refine Tr.unW ?_
 unfold M232 at h
 refine sg ?_
 conv=>whnf
 refine Tr.seq ?_
 refine Tr.seq ?_
 refine Tr.cutQ1 ([(0, .pt 0 0), (2, (dI left_2)), (3, .d (.ls (List.map eB used_3))), (5, .pt 1 0), (8, .pt 2 0), (9, .d (.b false)), (27, .d (.b (v_6 || (v_5 == v_4))))]) ([some (.var [(dI v_4), (dI v_5), .d (.b v_6)]), some (.var [.d (.ls (List.map eTSegment q_1.Field.Clocks.Segments)), .d (.ls (List.map (eL eI) q_1.Field.Clocks.Far)), .d (.ls (List.map eTPair q_1.Field.Pairs)), .d (.ls (List.map eTRunner q_1.Field.Runners)), (dI q_1.Runner), .d (.ls (List.map eTLook q_1.Looks))]), some (.var [(dI 0), .nsl])]) ?_ (fun T1 H1 hw => ?_)
 ·refine dq [] [(0,1),(1,3),(2,3),(3,3),(4,1),(5,1),(6,3),(7,3),(8,3),(9,1),(10,3),(11,3),(12,3),(13,1),(14,1)] ?_
  conv=>whnf
  refine q1 ?_
  conv=>whnf
  refine q2 ?_
  conv=>whnf
  refine q2 ?_
  conv=>whnf
  refine q2 ?_
  conv=>whnf
  refine q1 ?_
  conv=>whnf
  refine condS_mk (fun hb12 => ?_) (fun hb12 => ?_)
  ·conv=>whnf
   refine q1 ?_
   conv=>whnf
   exact Wk.mk2 [0, 1, 2] 3 rfl rfl (by decide) rfl ⟨rr, rr, rr, trivial⟩ ⟨rr, rr, rr, rr, rr, rr, ⟨rfl, (by first | rfl | (simp only [↓hb12, bl, List.length_set]; done) | (simp only [↓hb12, bl, List.length_set]; rfl))⟩, trivial⟩
  conv=>whnf
  refine q1 ?_
  conv=>whnf
  refine q2 ?_
  conv=>whnf
  refine q2 ?_
  conv=>whnf
  refine q2 ?_
  conv=>whnf
  refine q1 ?_
  conv=>whnf
  refine q2 ?_
  conv=>whnf
  refine q2 ?_
  conv=>whnf
  refine q2 ?_
  conv=>whnf
  refine q1 ?_
  conv=>whnf
  refine q1 ?_
  conv=>whnf
  exact Wk.mk2 [0, 1, 2] 3 rfl rfl (by decide) rfl ⟨rr, rr, rr, trivial⟩ ⟨rr, rr, rr, rr, rr, rr, ⟨rfl, (by first | rfl | (simp only [↓hb12, bl, List.length_set]; done) | (simp only [↓hb12, bl, List.length_set]; rfl))⟩, trivial⟩
 conv=>whnf
 refine Tr.weak hw ?_
 refine Tr.cond ?_
 conv=>whnf
 refine cB h (fun hb13 h => ?_) (fun hb13 h => ?_)
 ·refine sg ?_
  conv=>whnf
  refine sg ?_
  conv=>whnf
  refine orB_l ?_
  conv=>whnf
  refine Tr.ret ?_
  conv=>whnf
  refine endH ?_
  conv=>whnf
  cases h
  exact endB rfl rfl rfl ⟨rfl, trivial⟩
 refine Tr.skip ?_
 conv=>whnf
 refine sg ?_
 conv=>whnf
 refine arS_raw ?_
 conv=>whnf
 refine Tr.seq ?_
 refine sg ?_
 conv=>whnf
 obtain ⟨r_14, hc15, h⟩ := bS h
 refine PC.ecall (P224 q_1 r_14 hc15) (fun rs hrs => ?_)
 subst hrs
 conv=>whnf
 refine Tr.cond ?_
 conv=>whnf
 refine cB h (fun hb16 h => ?_) (fun hb16 h => ?_)
 ·refine sg ?_
  conv=>whnf
  obtain ⟨r_17, hc18, h⟩ := bS h
  refine PC.ecall (P225 r_17 hc18) (fun rs hrs => ?_)
  subst hrs
  conv=>whnf
  refine Tr.ret ?_
  conv=>whnf
  refine endH ?_
  conv=>whnf
  cases h
  exact endB rfl rfl rfl ⟨rfl, trivial⟩
 refine Tr.skip ?_
 conv=>whnf
 refine Tr.seq ?_
 refine sg ?_
 conv=>whnf
 refine Tr.cond ?_
 conv=>whnf
 refine cB h (fun hb19 h => ?_) (fun hb19 h => ?_)
 ·refine sg ?_
  conv=>whnf
  refine orB_l ?_
  conv=>whnf
  refine Tr.ret ?_
  conv=>whnf
  refine endH ?_
  conv=>whnf
  cases h
  exact endB rfl rfl rfl ⟨rfl, trivial⟩
 refine Tr.skip ?_
 conv=>whnf
 refine Tr.seq ?_
 refine sg ?_
 conv=>whnf
 refine Tr.cutQ (α := Int × Bool) (fun s => ([(8, .pt 1 0), (9, .d (.b false))], [some (.var [(dI v_4), (dI s.1), .d (.b s.2)]), some (.var [(dI 0), .nsl])])) (fun s => M231 s.1 s.2 = some (r_7, r_8, b_9, b_10)) ?_ ?_
 ·refine Tr.block ?_
  refine Tr.loopM (σ := Int × Int × Bool) (fun n s => M230 q_1 left_2 used_3 v_4 rc_9093 M231 n s.1 s.2.1 s.2.2) (r_7, r_8, b_9, b_10) (fun s => ([(0, .pt 0 0), (2, (dI left_2)), (3, .d (.ls (List.map eB used_3))), (5, .pt 1 0), (8, .pt 2 0), (9, .d (.b false)), (10, (dI s.1))], [some (.var [(dI v_4), (dI s.2.1), .d (.b s.2.2)]), some (.var [.d (.ls (List.map eTSegment q_1.Field.Clocks.Segments)), .d (.ls (List.map (eL eI) q_1.Field.Clocks.Far)), .d (.ls (List.map eTPair q_1.Field.Pairs)), .d (.ls (List.map eTRunner q_1.Field.Runners)), (dI q_1.Runner), .d (.ls (List.map eTLook q_1.Looks))]), some (.var [(dI 0), .nsl])])) (((((q_1.Looks).length : Int)) - 0 : Int).toNat + 1) (0, (w64 (v_5 + 1)), v_6) h (fun s => rfl) (Wk.mk2 [0, 1, 2] 3 rfl rfl (by decide) rfl ⟨rr, rr, rr, trivial⟩ ⟨rr, rr, rr, rr, rr, rr, rr, trivial⟩) ?_
  clear h
  rintro n_26 ⟨i_23, v_24, v_25⟩ h
  replace h : M230 q_1 left_2 used_3 v_4 rc_9093 M231 (n_26 + 1) i_23 v_24 v_25 = some (r_7, r_8, b_9, b_10) := h
  rw [M230] at h
  refine Tr.seq ?_
  refine sg ?_
  conv=>whnf
  refine lnS_map ?_
  conv=>whnf
  refine cB h (fun hb31 h => ?_) (fun hb31 h => ?_)
  ·conv=>whnf
   refine Tr.cond ?_
   conv=>whnf
   refine cB h (fun hb32 h => ?_) (fun hb32 h => ?_)
   ·refine Tr.skip ?_
    conv=>whnf
    refine Tr.seq ?_
    refine Tr.block ?_
    refine Tr.seq ?_
    refine sg ?_
    conv=>whnf
    obtain ⟨x_33, hx_33, h⟩ := bS h
    refine ixP_of hx_33 ?_
    conv=>whnf
    refine Tr.cond ?_
    conv=>whnf
    refine cB h (fun hb34 h => ?_) (fun hb34 h => ?_)
    ·refine Tr.exit ?_
     conv=>whnf
     refine rg ?_
     conv=>whnf
     refine arS_raw ?_
     conv=>whnf
     refine ⟨((w64 (i_23 + 1)), v_24, v_25), h, ?_⟩
     exact Wk.mk2 [0, 1, 2] 3 rfl rfl (by decide) rfl ⟨rr, rr, rr, trivial⟩ ⟨rr, rr, rr, rr, rr, rr, rr, trivial⟩
    refine Tr.skip ?_
    conv=>whnf
    refine sg ?_
    conv=>whnf
    obtain ⟨⟨r_35, r_36, b_37, b_38⟩, hc39, h⟩ := bS h
    refine MC.ecall (P229 rc_9093 ih_9093 q_1 left_2 used_3 i_23 v_4 v_24 v_25 r_35 r_36 b_37 b_38 hc39) [0] (by decide) rfl rfl ?_ (fun rs Bs1 hrs => ?_)
    · exact ⟨⟨rfl, rfl⟩, trivial⟩
    obtain ⟨rfl, rfl⟩ := hrs
    conv=>whnf
    refine sg ?_
    conv=>whnf
    refine Tr.cond ?_
    conv=>whnf
    refine cB h (fun hb40 h => ?_) (fun hb40 h => ?_)
    ·refine sg ?_
     conv=>whnf
     refine Tr.ret ?_
     conv=>whnf
     refine endH ?_
     conv=>whnf
     cases h
     exact endB rfl rfl rfl ⟨rfl, trivial⟩
    refine Tr.skip ?_
    conv=>whnf
    refine rg ?_
    conv=>whnf
    refine arS_raw ?_
    conv=>whnf
    refine ⟨((w64 (i_23 + 1)), b_37, b_38), h, ?_⟩
    exact Wk.mk2 [0, 1, 2] 3 rfl rfl (by decide) rfl ⟨rr, rr, rr, trivial⟩ ⟨rr, rr, rr, rr, rr, rr, rr, trivial⟩
   refine Tr.exit ?_
   conv=>whnf
   refine ⟨(v_24, v_25), h, ?_⟩
   exact Wk.mk2 [0, 2] 3 rfl rfl (by decide) rfl ⟨rr, rr, trivial⟩ ⟨⟨rfl, (by first | rfl | (simp only [↓hb13, ↓hb16, ↓hb19, ↓hb31, ↓hb32, bl, List.length_set]; done) | (simp only [↓hb13, ↓hb16, ↓hb19, ↓hb31, ↓hb32, bl, List.length_set]; rfl))⟩, rr, trivial⟩
  conv=>whnf
  refine Tr.cond ?_
  conv=>whnf
  refine Tr.exit ?_
  conv=>whnf
  refine ⟨(v_24, v_25), h, ?_⟩
  exact Wk.mk2 [0, 2] 3 rfl rfl (by decide) rfl ⟨rr, rr, trivial⟩ ⟨⟨rfl, (by first | rfl | (simp only [↓hb13, ↓hb16, ↓hb19, ↓hb31, bl, List.length_set]; done) | (simp only [↓hb13, ↓hb16, ↓hb19, ↓hb31, bl, List.length_set]; rfl))⟩, rr, trivial⟩
 clear h
 rintro ⟨v_27, v_28⟩ h T1 H1 hw
 replace h : M231 v_27 v_28 = some (r_7, r_8, b_9, b_10) := h
 conv=>whnf
 refine Tr.weak hw ?_
 unfold M231 at h
 refine sg ?_
 conv=>whnf
 refine orB_l ?_
 conv=>whnf
 refine Tr.ret ?_
 conv=>whnf
 refine endH ?_
 conv=>whnf
 cases h
 exact endB rfl rfl rfl ⟨rfl, trivial⟩
theorem P233 (n : Nat) : ∀ (q_1 : TQuestion) (left_2 : Int) (used_3 : List Bool) (v_4 : Int) (v_5 : Int) (v_6 : Bool) (r_7 : TPlan) (r_8 : Bool) (b_9 : Int) (b_10 : Bool), M233 n q_1 left_2 used_3 v_4 v_5 v_6 = some (r_7, r_8, b_9, b_10) → MC prog 47 [.pt 0 0, .d (eTQuestion q_1), (dI left_2), .d (.ls (List.map eB used_3))] [.var [(dI v_4), (dI v_5), .d (.b v_6)]] (fun rs Bs => rs = [(eTPlan r_7), (.b r_8)] ∧ Bs = [.var [(dI v_4), (dI b_9), .d (.b b_10)]]) := by
  induction n with
  | zero =>
    intros
    rename_i h
    cases h
  | succ n ih => exact P232 (M233 n) ih
theorem P236 (q_1 : TQuestion) (budget_2 : Int) (r_3 : TPlan) (r_4 : Int) (r_5 : Int) (h : M236 q_1 budget_2 = some (r_3, r_4, r_5)) :
    PC prog 18 [(eTQuestion q_1), (.i .i64 budget_2)] (fun rs => rs = [(eTPlan r_3), (.i .i64 r_4), (.i .i64 r_5)]) := by
 refine PC.of_tr (cx := ⟨56, none, lay, 0⟩) layOK func18 rfl rfl rfl rfl rfl (by simp [f18]) ?_
 unfold M236 at h
 refine sg ?_
 conv=>whnf
 refine sg ?_
 conv=>whnf
 obtain ⟨r_6, hc7, h⟩ := bS h
 refine PC.ecall (P197 q_1 r_6 hc7) (fun rs hrs => ?_)
 subst hrs
 conv=>whnf
 refine Tr.seq ?_
 refine sg ?_
 conv=>whnf
 refine Tr.cond ?_
 conv=>whnf
 refine cB h (fun hb8 h => ?_) (fun hb8 h => ?_)
 ·refine sg ?_
  conv=>whnf
  refine orB_l ?_
  conv=>whnf
  refine Tr.ret ?_
  conv=>whnf
  cases h
  rfl
 refine Tr.skip ?_
 conv=>whnf
 refine Tr.seq ?_
 refine sg ?_
 conv=>whnf
 refine cB h (fun hb9 h => ?_) (fun hb9 h => ?_)
 ·conv=>whnf
  refine Tr.cond ?_
  conv=>whnf
  refine sg ?_
  conv=>whnf
  refine orB_l ?_
  conv=>whnf
  refine Tr.ret ?_
  conv=>whnf
  cases h
  rfl
 conv=>whnf
 refine Tr.cond ?_
 conv=>whnf
 refine cB h (fun hb10 h => ?_) (fun hb10 h => ?_)
 ·refine sg ?_
  conv=>whnf
  refine orB_l ?_
  conv=>whnf
  refine Tr.ret ?_
  conv=>whnf
  cases h
  rfl
 refine Tr.skip ?_
 conv=>whnf
 refine sg ?_
 conv=>whnf
 refine Tr.seq ?_
 refine sg ?_
 conv=>whnf
 refine Tr.cutQ (α := Unit) (fun s => ([(4, .pt 0 0), (5, (dI 0)), (6, (dI 0))], [some (.var [(dI 0), .nsl])])) (fun s => M235 s = some (r_3, r_4, r_5)) ?_ ?_
 ·refine Tr.block ?_
  refine Tr.loopM (σ := Int × Int × Bool) (fun n s => M234 q_1 budget_2 M235 n s.1 s.2.1 s.2.2) (r_3, r_4, r_5) (fun s => ([(2, .pt 0 0), (4, .pt 1 0), (5, (dI 0)), (6, (dI 0)), (8, .pt 2 0), (9, (dI s.1))], [some (.var [.d (.ls (List.map eTSegment q_1.Field.Clocks.Segments)), .d (.ls (List.map (eL eI) q_1.Field.Clocks.Far)), .d (.ls (List.map eTPair q_1.Field.Pairs)), .d (.ls (List.map eTRunner q_1.Field.Runners)), (dI q_1.Runner), .d (.ls (List.map eTLook q_1.Looks))]), some (.var [(dI 0), .nsl]), some (.var [(dI budget_2), (dI s.2.1), .d (.b s.2.2)])])) (((minG 6 (((q_1.Looks).length : Int))) + 1 - 0 : Int).toNat + 1) (0, 0, false) h (fun s => rfl) (Wk.mk2 [0, 1, 2] 3 rfl rfl (by decide) rfl ⟨rr, rr, rr, trivial⟩ ⟨rr, rr, rr, rr, rr, rr, trivial⟩) ?_
  clear h
  rintro n_17 ⟨n_14, v_15, v_16⟩ h
  replace h : M234 q_1 budget_2 M235 (n_17 + 1) n_14 v_15 v_16 = some (r_3, r_4, r_5) := h
  rw [M234] at h
  refine Tr.seq ?_
  refine sg ?_
  conv=>whnf
  refine lnS_map ?_
  conv=>whnf
  refine Tr.cond ?_
  conv=>whnf
  refine cB h (fun hb20 h => ?_) (fun hb20 h => ?_)
  ·refine Tr.skip ?_
   conv=>whnf
   refine Tr.seq ?_
   refine Tr.block ?_
   refine Tr.seq ?_
   refine Tr.draw (DrawP.treeQ layOK mixed [(7, 2), (7, 3), (7, 4), (12, 3), (12, 4)] (.one 0 1 (.one 1 3 (.one 2 1 (.one 3 3 (.one 4 3 (.one 5 2 (.two 6 (.two 7 (.one 8 1 (.one 9 1 (.one 10 1 (.one 11 0 (.one 12 0 (.one 13 1 .nil)))))) 11 (.one 7 0 (.one 8 1 (.one 9 1 (.one 10 1 (.one 12 0 (.one 13 1 .nil))))))) 11 (.one 6 0 (.one 7 0 (.one 8 1 (.one 9 1 (.one 10 1 (.one 12 0 (.one 13 1 .nil)))))))))))))) (by kernel_rfl) ?_)
   conv=>whnf
   refine q1 ?_
   conv=>whnf
   refine q2 ?_
   conv=>whnf
   refine q1 ?_
   conv=>whnf
   refine q2 ?_
   conv=>whnf
   refine q2 ?_
   conv=>whnf
   refine q3 (lnS_map rr) ?_
   conv=>whnf
   refine ⟨?_, ?_⟩
   ·conv=>whnf
    obtain ⟨n_21, hn_21, h⟩ := bS h
    refine ⟨_, _, (by (conv=>whnf); (refine msS_of hn_21 rfl ?_); (conv=>whnf); (refine rS (es' := List.map .d (List.map eB (List.replicate n_21 false))) (n' := List.length ((List.replicate n_21 false) : List Bool)) (by simp only [List.map_replicate]; first | done | rfl) (by simp) ?_); (conv=>whnf); (exact rr)), kp_ok (by repeat (first | exact trivial | refine ⟨trivial, ?_⟩ | refine ⟨rfl, ?_⟩)), ?_⟩
    conv=>whnf
    refine ⟨?_, ?_⟩
    ·conv=>whnf
     obtain ⟨⟨r_22, r_23, b_24, b_25⟩, hc26, h⟩ := bS h
     refine ⟨_, _, (by (conv=>whnf); (refine ECall.frzAt 3 ⟨_, _, func47, rfl, rfl⟩ ?_); (conv=>whnf); (refine frE_of (f := eB) (l := (List.replicate n_21 false)) rfl ?_); (conv=>whnf); (refine MC.ecall (P233 1000 q_1 n_14 (List.replicate n_21 false) budget_2 v_15 v_16 r_22 r_23 b_24 b_25 hc26) [2] (by decide) rfl rfl ?_ (fun rs Bs1 hrs => ?_)); (· exact ⟨⟨rfl, rfl⟩, trivial⟩); (obtain ⟨rfl, rfl⟩ := hrs); (conv=>whnf); (exact rr)), kp_ok (by repeat (first | exact trivial | refine ⟨trivial, ?_⟩ | refine ⟨rfl, ?_⟩)), ?_⟩
     conv=>whnf
     refine q1 ?_
     conv=>whnf
     refine q1 ?_
     conv=>whnf
     refine q1 ?_
     conv=>whnf
     refine ⟨_, _, rr, kp_ok (by repeat (first | exact trivial | refine ⟨trivial, ?_⟩ | refine ⟨rfl, ?_⟩)), ?_⟩
     conv=>whnf
     refine ⟨_, _, rr, kp_ok (by repeat (first | exact trivial | refine ⟨trivial, ?_⟩ | refine ⟨rfl, ?_⟩)), ?_⟩
     conv=>whnf
     refine q1 ?_
     conv=>whnf
     refine Tr.seq ?_
     refine sg ?_
     conv=>whnf
     refine Tr.cond ?_
     conv=>whnf
     refine cB h (fun hb27 h => ?_) (fun hb27 h => ?_)
     ·refine sg ?_
      conv=>whnf
      refine orB_l ?_
      conv=>whnf
      refine Tr.ret ?_
      conv=>whnf
      cases h
      rfl
     refine Tr.skip ?_
     conv=>whnf
     refine sg ?_
     conv=>whnf
     refine Tr.cond ?_
     conv=>whnf
     refine cB h (fun hb28 h => ?_) (fun hb28 h => ?_)
     ·refine sg ?_
      conv=>whnf
      refine Tr.ret ?_
      conv=>whnf
      cases h
      rfl
     refine Tr.skip ?_
     conv=>whnf
     refine rg ?_
     conv=>whnf
     refine arS_raw ?_
     conv=>whnf
     refine ⟨((w64 (n_14 + 1)), b_24, b_25), h, ?_⟩
     exact Wk.mk2 [0, 1, 2] 5 rfl rfl (by decide) rfl ⟨rr, rr, rr, trivial⟩ ⟨rr, rr, rr, rr, rr, rr, trivial⟩
    ·conv=>whnf
     refine ⟨_, _, rr, kp_ok (by repeat (first | exact trivial | refine ⟨trivial, ?_⟩ | refine ⟨rfl, ?_⟩)), ?_⟩
     conv=>whnf
     obtain ⟨⟨r_29, r_30, b_31, b_32⟩, hc33, h⟩ := bS h
     refine ⟨_, _, (by (conv=>whnf); (refine ECall.frzAt 3 ⟨_, _, func47, rfl, rfl⟩ ?_); (conv=>whnf); (refine frE_of (f := eB) (l := (List.replicate n_21 false)) rfl ?_); (conv=>whnf); (refine MC.ecall (P233 1000 q_1 n_14 (List.replicate n_21 false) budget_2 v_15 v_16 r_29 r_30 b_31 b_32 hc33) [2] (by decide) rfl rfl ?_ (fun rs Bs1 hrs => ?_)); (· exact ⟨⟨rfl, rfl⟩, trivial⟩); (obtain ⟨rfl, rfl⟩ := hrs); (conv=>whnf); (exact rr)), kp_ok (by repeat (first | exact trivial | refine ⟨trivial, ?_⟩ | refine ⟨rfl, ?_⟩)), ?_⟩
     conv=>whnf
     refine q1 ?_
     conv=>whnf
     refine q1 ?_
     conv=>whnf
     refine q1 ?_
     conv=>whnf
     refine ⟨_, _, rr, kp_ok (by repeat (first | exact trivial | refine ⟨trivial, ?_⟩ | refine ⟨rfl, ?_⟩)), ?_⟩
     conv=>whnf
     refine q1 ?_
     conv=>whnf
     refine Tr.seq ?_
     refine sg ?_
     conv=>whnf
     refine Tr.cond ?_
     conv=>whnf
     refine cB h (fun hb34 h => ?_) (fun hb34 h => ?_)
     ·refine sg ?_
      conv=>whnf
      refine orB_l ?_
      conv=>whnf
      refine Tr.ret ?_
      conv=>whnf
      cases h
      rfl
     refine Tr.skip ?_
     conv=>whnf
     refine sg ?_
     conv=>whnf
     refine Tr.cond ?_
     conv=>whnf
     refine cB h (fun hb35 h => ?_) (fun hb35 h => ?_)
     ·refine sg ?_
      conv=>whnf
      refine Tr.ret ?_
      conv=>whnf
      cases h
      rfl
     refine Tr.skip ?_
     conv=>whnf
     refine rg ?_
     conv=>whnf
     refine arS_raw ?_
     conv=>whnf
     refine ⟨((w64 (n_14 + 1)), b_31, b_32), h, ?_⟩
     exact Wk.mk2 [0, 1, 2] 5 rfl rfl (by decide) rfl ⟨rr, rr, rr, trivial⟩ ⟨rr, rr, rr, rr, rr, rr, trivial⟩
   ·conv=>whnf
    refine ⟨_, _, rr, kp_ok (by repeat (first | exact trivial | refine ⟨trivial, ?_⟩ | refine ⟨rfl, ?_⟩)), ?_⟩
    conv=>whnf
    obtain ⟨n_36, hn_36, h⟩ := bS h
    refine ⟨_, _, (by (conv=>whnf); (refine msS_of hn_36 rfl ?_); (conv=>whnf); (refine rS (es' := List.map .d (List.map eB (List.replicate n_36 false))) (n' := List.length ((List.replicate n_36 false) : List Bool)) (by simp only [List.map_replicate]; first | done | rfl) (by simp) ?_); (conv=>whnf); (exact rr)), kp_ok (by repeat (first | exact trivial | refine ⟨trivial, ?_⟩ | refine ⟨rfl, ?_⟩)), ?_⟩
    conv=>whnf
    obtain ⟨⟨r_37, r_38, b_39, b_40⟩, hc41, h⟩ := bS h
    refine ⟨_, _, (by (conv=>whnf); (refine ECall.frzAt 3 ⟨_, _, func47, rfl, rfl⟩ ?_); (conv=>whnf); (refine frE_of (f := eB) (l := (List.replicate n_36 false)) rfl ?_); (conv=>whnf); (refine MC.ecall (P233 1000 q_1 n_14 (List.replicate n_36 false) budget_2 v_15 v_16 r_37 r_38 b_39 b_40 hc41) [2] (by decide) rfl rfl ?_ (fun rs Bs1 hrs => ?_)); (· exact ⟨⟨rfl, rfl⟩, trivial⟩); (obtain ⟨rfl, rfl⟩ := hrs); (conv=>whnf); (exact rr)), kp_ok (by repeat (first | exact trivial | refine ⟨trivial, ?_⟩ | refine ⟨rfl, ?_⟩)), ?_⟩
    conv=>whnf
    refine q1 ?_
    conv=>whnf
    refine q1 ?_
    conv=>whnf
    refine q1 ?_
    conv=>whnf
    refine ⟨_, _, rr, kp_ok (by repeat (first | exact trivial | refine ⟨trivial, ?_⟩ | refine ⟨rfl, ?_⟩)), ?_⟩
    conv=>whnf
    refine q1 ?_
    conv=>whnf
    refine Tr.seq ?_
    refine sg ?_
    conv=>whnf
    refine Tr.cond ?_
    conv=>whnf
    refine cB h (fun hb42 h => ?_) (fun hb42 h => ?_)
    ·refine sg ?_
     conv=>whnf
     refine orB_l ?_
     conv=>whnf
     refine Tr.ret ?_
     conv=>whnf
     cases h
     rfl
    refine Tr.skip ?_
    conv=>whnf
    refine sg ?_
    conv=>whnf
    refine Tr.cond ?_
    conv=>whnf
    refine cB h (fun hb43 h => ?_) (fun hb43 h => ?_)
    ·refine sg ?_
     conv=>whnf
     refine Tr.ret ?_
     conv=>whnf
     cases h
     rfl
    refine Tr.skip ?_
    conv=>whnf
    refine rg ?_
    conv=>whnf
    refine arS_raw ?_
    conv=>whnf
    refine ⟨((w64 (n_14 + 1)), b_39, b_40), h, ?_⟩
    exact Wk.mk2 [0, 1, 2] 5 rfl rfl (by decide) rfl ⟨rr, rr, rr, trivial⟩ ⟨rr, rr, rr, rr, rr, rr, trivial⟩
  refine Tr.exit ?_
  conv=>whnf
  refine ⟨(), h, ?_⟩
  exact Wk.mk2 [1] 3 rfl rfl (by decide) rfl ⟨rr, trivial⟩ ⟨⟨rfl, (by first | rfl | (simp only [↓hb8, ↓hb9, ↓hb10, ↓hb20, bl, List.length_set]; done) | (simp only [↓hb8, ↓hb9, ↓hb10, ↓hb20, bl, List.length_set]; rfl))⟩, rr, rr, trivial⟩
 clear h
 rintro _ h T1 H1 hw
 replace h : M235 () = some (r_3, r_4, r_5) := h
 conv=>whnf
 refine Tr.weak hw ?_
 unfold M235 at h
 refine sg ?_
 conv=>whnf
 refine orB_l ?_
 conv=>whnf
 refine Tr.ret ?_
 conv=>whnf
 cases h
 rfl
theorem P237 (q_1 : TQuestion) (most_2 : Int) (r_3 : Bool) (h : M237 q_1 most_2 = some r_3) :
    PC prog 4 [(eTQuestion q_1), (.i .i64 most_2)] (fun rs => rs = [(.b r_3)]) := by
 refine PC.of_tr (cx := ⟨49, none, lay, 0⟩) layOK func4 rfl rfl rfl rfl rfl (by simp [f4]) ?_
 unfold M237 at h
 refine sg ?_
 conv=>whnf
 refine Tr.seq ?_
 refine sg ?_
 conv=>whnf
 obtain ⟨r_4, hc5, h⟩ := bS h
 refine PC.ecall (P141 r_4 hc5) (fun rs hrs => ?_)
 subst hrs
 conv=>whnf
 refine Tr.cond ?_
 conv=>whnf
 refine cB h (fun hb6 h => ?_) (fun hb6 h => ?_)
 ·refine sg ?_
  conv=>whnf
  refine Tr.ret ?_
  conv=>whnf
  cases h
  rfl
 refine Tr.skip ?_
 conv=>whnf
 refine Tr.seq ?_
 refine sg ?_
 conv=>whnf
 obtain ⟨r_7, hc8, h⟩ := bS h
 refine PC.ecall (P151 q_1 r_7 hc8) (fun rs hrs => ?_)
 subst hrs
 conv=>whnf
 refine cB h (fun hb9 h => ?_) (fun hb9 h => ?_)
 ·conv=>whnf
  refine Tr.cond ?_
  conv=>whnf
  refine sg ?_
  conv=>whnf
  refine Tr.ret ?_
  conv=>whnf
  cases h
  rfl
 conv=>whnf
 refine lnS_map ?_
 conv=>whnf
 refine Tr.cond ?_
 conv=>whnf
 refine cB h (fun hb10 h => ?_) (fun hb10 h => ?_)
 ·refine sg ?_
  conv=>whnf
  refine Tr.ret ?_
  conv=>whnf
  cases h
  rfl
 refine Tr.skip ?_
 conv=>whnf
 refine sg ?_
 conv=>whnf
 obtain ⟨⟨r_11, r_12, r_13⟩, hc14, h⟩ := bS h
 refine PC.ecall (P129 q_1 most_2 r_11 r_12 r_13 hc14) (fun rs hrs => ?_)
 subst hrs
 conv=>whnf
 refine sg ?_
 conv=>whnf
 obtain ⟨⟨r_15, r_16, r_17⟩, hc18, h⟩ := bS h
 refine PC.ecall (P236 q_1 most_2 r_15 r_16 r_17 hc18) (fun rs hrs => ?_)
 subst hrs
 conv=>whnf
 refine sg ?_
 conv=>whnf
 obtain ⟨r_19, hc20, h⟩ := bS h
 refine PC.ecall (P140 1000 r_11 r_15 r_19 hc20) (fun rs hrs => ?_)
 subst hrs
 conv=>whnf
 refine cB h (fun hb21 h => ?_) (fun hb21 h => ?_)
 ·conv=>whnf
  refine cB h (fun hb22 h => ?_) (fun hb22 h => ?_)
  ·conv=>whnf
   refine Tr.ret ?_
   conv=>whnf
   cases h
   rfl
  conv=>whnf
  refine Tr.ret ?_
  conv=>whnf
  cases h
  rfl
 conv=>whnf
 refine Tr.ret ?_
 conv=>whnf
 cases h
 rfl
end Go.Proofs.Try
