/- Contracts of functions, by program (gen.py). No condition. -/
import Derived.Test.YtcmhnjhpnijpbaaZL
import Derived.Test.YtcmhnjhpnijpbaaZM
import Derived.Test.YtcmhnjhpnijpbaaZCB
import Derived.Test.YtcmhnjhpnijpbaaZS7
namespace Go.Proofs.Try
open Go Go.Abs Go.Stop
set_option maxRecDepth 8000
set_option linter.unusedVariables false
set_option linter.unusedSimpArgs false
theorem P213 (f_1 : TField) (runner_2 : Int) (r_3 : TRank) (r_4 : Int) (h : M213 f_1 runner_2 = some (r_3, r_4)) :
    PC prog 80 [(eTField f_1), (.i .i64 runner_2)] (fun rs => rs = [(eTRank r_3), (.i .i64 r_4)]) := by
 refine PC.of_tr (cx := ⟨106, none, lay, 0⟩) layOK func80 rfl rfl rfl rfl rfl (by simp [f80]) ?_
 unfold M213 at h
 refine sg ?_
 conv=>whnf
 refine sg ?_
 conv=>whnf
 obtain ⟨r_5, hc6, h⟩ := bS h
 refine PC.ecall (P194 f_1 runner_2 r_5 hc6) (fun rs hrs => ?_)
 subst hrs
 conv=>whnf
 refine Tr.seq ?_
 refine sg ?_
 conv=>whnf
 refine Tr.cond ?_
 conv=>whnf
 refine cB h (fun hb7 h => ?_) (fun hb7 h => ?_)
 ·refine sg ?_
  conv=>whnf
  refine Tr.ret ?_
  conv=>whnf
  cases h
  rfl
 refine Tr.skip ?_
 conv=>whnf
 refine sg ?_
 conv=>whnf
 obtain ⟨x_8, hx_8, h⟩ := bS h
 refine ixP_of hx_8 ?_
 conv=>whnf
 refine Tr.seq ?_
 refine sg ?_
 conv=>whnf
 obtain ⟨⟨v_18, v_19, v_20⟩, hv57, h⟩ := bS h
 refine Tr.cutQ1 ([(4, .pt 0 0), (5, (dI 0)), (7, .pt 1 0)]) ([some (.var [(dI 0), (dI 0), (dI 0), (dI 0), .d (.b false)]), some (.var [(dI x_8.Bib), (dI 0), (dI v_18), (dI v_19), .d (.b v_20)])]) ?_ (fun T1 H1 hw => ?_)
 ·replace h := hv57; clear hv57
  refine Tr.block ?_
  refine Tr.loopM (σ := Int × Int × Int × Bool) (fun n s => M212 f_1 runner_2 n s.1 s.2.1 s.2.2.1 s.2.2.2) (v_18, v_19, v_20) (fun s => ([(1, (dI runner_2)), (2, .pt 0 0), (4, .pt 1 0), (5, (dI 0)), (7, .pt 2 0), (8, (dI s.1))], [some (.var [.d (.ls (List.map eTSegment f_1.Clocks.Segments)), .d (.ls (List.map (eL eI) f_1.Clocks.Far)), .d (.ls (List.map eTPair f_1.Pairs)), .d (.ls (List.map eTRunner f_1.Runners))]), some (.var [(dI 0), (dI 0), (dI 0), (dI 0), .d (.b false)]), some (.var [(dI x_8.Bib), (dI 0), (dI s.2.1), (dI s.2.2.1), .d (.b s.2.2.2)])])) (((((f_1.Pairs).length : Int)) + 1 - 0 : Int).toNat + 1) (0, 0, 0, false) h (fun s => rfl) (Wk.mk2 [0, 1, 2] 3 rfl rfl (by decide) rfl ⟨rr, rr, rr, trivial⟩ ⟨rr, rr, rr, rr, rr, rr, trivial⟩) ?_
  clear h
  rintro n_17 ⟨w_13, v_14, v_15, v_16⟩ h
  replace h : M212 f_1 runner_2 (n_17 + 1) w_13 v_14 v_15 v_16 = some (v_18, v_19, v_20) := h
  rw [M212] at h
  refine Tr.seq ?_
  refine sg ?_
  conv=>whnf
  refine lnS_map ?_
  conv=>whnf
  refine Tr.cond ?_
  conv=>whnf
  refine cB h (fun hb23 h => ?_) (fun hb23 h => ?_)
  ·refine Tr.skip ?_
   conv=>whnf
   refine Tr.seq ?_
   refine Tr.block ?_
   refine sg ?_
   conv=>whnf
   obtain ⟨x_24, hx_24, h⟩ := bS h
   refine ixP_of hx_24 ?_
   conv=>whnf
   obtain ⟨x_25, hx_25, h⟩ := bS h
   refine ixP_of hx_25 ?_
   conv=>whnf
   refine sg ?_
   conv=>whnf
   obtain ⟨⟨v_35, v_36, v_37⟩, hv56, h⟩ := bS h
   refine Tr.cutQ1 ([(1, (dI runner_2)), (2, .pt 0 0), (4, .pt 1 0), (5, (dI 0)), (7, .pt 2 0), (8, (dI w_13))]) ([some (.var [.d (.ls (List.map eTSegment f_1.Clocks.Segments)), .d (.ls (List.map (eL eI) f_1.Clocks.Far)), .d (.ls (List.map eTPair f_1.Pairs)), .d (.ls (List.map eTRunner f_1.Runners))]), some (.var [(dI 0), (dI 0), (dI 0), (dI 0), .d (.b false)]), some (.var [(dI x_8.Bib), (dI 0), (dI v_35), (dI v_36), .d (.b v_37)])]) ?_ (fun T1 H1 hw => ?_)
   ·replace h := hv56; clear hv56
    refine Tr.block ?_
    refine Tr.loopM (σ := Int × Int × Int × Bool) (fun n s => M211 f_1 runner_2 w_13 x_25 n s.1 s.2.1 s.2.2.1 s.2.2.2) (v_35, v_36, v_37) (fun s => ([(1, (dI runner_2)), (2, .pt 0 0), (4, .pt 1 0), (5, (dI 0)), (7, .pt 2 0), (8, (dI w_13)), (9, .d (.ls (List.map eTOutcome x_25))), (10, (dI s.1))], [some (.var [.d (.ls (List.map eTSegment f_1.Clocks.Segments)), .d (.ls (List.map (eL eI) f_1.Clocks.Far)), .d (.ls (List.map eTPair f_1.Pairs)), .d (.ls (List.map eTRunner f_1.Runners))]), some (.var [(dI 0), (dI 0), (dI 0), (dI 0), .d (.b false)]), some (.var [(dI x_8.Bib), (dI 0), (dI s.2.1), (dI s.2.2.1), .d (.b s.2.2.2)])])) (((((x_25).length : Int)) - 0 : Int).toNat + 1) (0, v_14, v_15, v_16) h (fun s => rfl) (Wk.mk2 [0, 1, 2] 3 rfl rfl (by decide) rfl ⟨rr, rr, rr, trivial⟩ ⟨rr, rr, rr, rr, rr, rr, rr, rr, trivial⟩) ?_
    clear h
    rintro n_34 ⟨i_30, v_31, v_32, v_33⟩ h
    replace h : M211 f_1 runner_2 w_13 x_25 (n_34 + 1) i_30 v_31 v_32 v_33 = some (v_35, v_36, v_37) := h
    rw [M211] at h
    refine Tr.seq ?_
    refine sg ?_
    conv=>whnf
    refine lnS_map ?_
    conv=>whnf
    refine cB h (fun hb40 h => ?_) (fun hb40 h => ?_)
    ·conv=>whnf
     obtain ⟨r_41, hc42, h⟩ := bS h
     refine PC.ecall (P197 f_1 w_13 r_41 hc42) (fun rs hrs => ?_)
     subst hrs
     conv=>whnf
     refine Tr.cond ?_
     conv=>whnf
     refine cB h (fun hb43 h => ?_) (fun hb43 h => ?_)
     ·refine Tr.skip ?_
      conv=>whnf
      refine Tr.seq ?_
      obtain ⟨⟨v_44, v_45, v_46⟩, hv47, h⟩ := bS h
      refine Tr.cutQ1 ([(1, (dI runner_2)), (2, .pt 0 0), (4, .pt 1 0), (5, (dI 0)), (7, .pt 2 0), (8, (dI w_13)), (9, .d (.ls (List.map eTOutcome x_25))), (10, (dI i_30))]) ([some (.var [.d (.ls (List.map eTSegment f_1.Clocks.Segments)), .d (.ls (List.map (eL eI) f_1.Clocks.Far)), .d (.ls (List.map eTPair f_1.Pairs)), .d (.ls (List.map eTRunner f_1.Runners))]), some (.var [(dI 0), (dI 0), (dI 0), (dI 0), .d (.b false)]), some (.var [(dI x_8.Bib), (dI 0), (dI v_44), (dI v_45), .d (.b v_46)])]) ?_ (fun T1 H1 hw => ?_)
      ·replace h := hv47; clear hv47
       refine Tr.block ?_
       refine Tr.seq ?_
       refine sg ?_
       conv=>whnf
       obtain ⟨x_48, hx_48, h⟩ := bS h
       refine ixP_of hx_48 ?_
       conv=>whnf
       refine Tr.cond ?_
       conv=>whnf
       refine cB h (fun hb49 h => ?_) (fun hb49 h => ?_)
       ·refine sg ?_
        conv=>whnf
        refine Tr.exit ?_
        conv=>whnf
        cases h
        exact Wk.mk2 [0, 1, 2] 3 rfl rfl (by decide) rfl ⟨rr, rr, rr, trivial⟩ ⟨rr, rr, rr, rr, rr, rr, rr, rr, trivial⟩
       refine Tr.skip ?_
       conv=>whnf
       refine sd [] [(0,3),(1,1),(2,1),(3,1),(4,2),(5,2),(6,1),(7,1),(8,1),(9,1),(10,1),(11,1),(12,1)] ?_
       conv=>whnf
       refine q2 ?_
       conv=>whnf
       refine q1 ?_
       conv=>whnf
       refine q1 ?_
       conv=>whnf
       refine q1 ?_
       conv=>whnf
       obtain ⟨x_50, hx_50, h⟩ := bS h
       refine q3 (ixP_of hx_50 rr) ?_
       conv=>whnf
       refine q2 ?_
       conv=>whnf
       refine q1 ?_
       conv=>whnf
       obtain ⟨⟨r_51, r_52⟩, hc53, h⟩ := bS h
       refine q1 ?_ (fun _ => pe (P210 f_1 w_13 x_50 runner_2 r_51 r_52 hc53) rr)
       conv=>whnf
       refine q1 ?_
       conv=>whnf
       refine q1 ?_
       conv=>whnf
       refine q1 ?_
       conv=>whnf
       refine q1 ?_
       conv=>whnf
       refine q1 ?_
       conv=>whnf
       refine Tr.seq ?_
       refine sg ?_
       conv=>whnf
       refine cB h (fun hb54 h => ?_) (fun hb54 h => ?_)
       ·conv=>whnf
        refine Tr.cond ?_
        conv=>whnf
        refine rg ?_
        conv=>whnf
        refine rg ?_
        conv=>whnf
        cases h
        exact Wk.mk2 [0, 1, 2] 3 rfl rfl (by decide) rfl ⟨rr, rr, rr, trivial⟩ ⟨rr, rr, rr, rr, rr, rr, rr, rr, trivial⟩
       conv=>whnf
       refine Tr.cond ?_
       conv=>whnf
       refine cB h (fun hb55 h => ?_) (fun hb55 h => ?_)
       ·refine rg ?_
        conv=>whnf
        refine rg ?_
        conv=>whnf
        cases h
        exact Wk.mk2 [0, 1, 2] 3 rfl rfl (by decide) rfl ⟨rr, rr, rr, trivial⟩ ⟨rr, rr, rr, rr, rr, rr, rr, rr, trivial⟩
       refine Tr.skip ?_
       conv=>whnf
       refine rg ?_
       conv=>whnf
       cases h
       exact Wk.mk2 [0, 1, 2] 3 rfl rfl (by decide) rfl ⟨rr, rr, rr, trivial⟩ ⟨rr, rr, rr, rr, rr, rr, rr, rr, trivial⟩
      clear hv47
      conv=>whnf
      refine Tr.weak hw ?_
      refine rg ?_
      conv=>whnf
      refine arS_raw ?_
      conv=>whnf
      refine ⟨((w64 (i_30 + 1)), v_44, v_45, v_46), h, ?_⟩
      exact Wk.mk2 [0, 1, 2] 3 rfl rfl (by decide) rfl ⟨rr, rr, rr, trivial⟩ ⟨rr, rr, rr, rr, rr, rr, rr, rr, trivial⟩
     refine Tr.exit ?_
     conv=>whnf
     cases h
     exact Wk.mk2 [0, 1, 2] 3 rfl rfl (by decide) rfl ⟨rr, rr, rr, trivial⟩ ⟨rr, rr, rr, rr, rr, rr, trivial⟩
    conv=>whnf
    refine Tr.cond ?_
    conv=>whnf
    refine Tr.exit ?_
    conv=>whnf
    cases h
    exact Wk.mk2 [0, 1, 2] 3 rfl rfl (by decide) rfl ⟨rr, rr, rr, trivial⟩ ⟨rr, rr, rr, rr, rr, rr, trivial⟩
   clear hv56
   conv=>whnf
   refine Tr.weak hw ?_
   refine rg ?_
   conv=>whnf
   refine arS_raw ?_
   conv=>whnf
   refine ⟨((w64 (w_13 + 1)), v_35, v_36, v_37), h, ?_⟩
   exact Wk.mk2 [0, 1, 2] 3 rfl rfl (by decide) rfl ⟨rr, rr, rr, trivial⟩ ⟨rr, rr, rr, rr, rr, rr, trivial⟩
  refine Tr.exit ?_
  conv=>whnf
  cases h
  exact Wk.mk2 [1, 2] 3 rfl rfl (by decide) rfl ⟨rr, rr, trivial⟩ ⟨⟨rfl, (by first | rfl | (simp only [↓hb7, ↓hb23, bl, List.length_set]; done) | (simp only [↓hb7, ↓hb23, bl, List.length_set]; rfl))⟩, rr, ⟨rfl, (by first | rfl | (simp only [↓hb7, ↓hb23, bl, List.length_set]; done) | (simp only [↓hb7, ↓hb23, bl, List.length_set]; rfl))⟩, trivial⟩
 clear hv57
 conv=>whnf
 refine Tr.weak hw ?_
 refine Tr.seq ?_
 refine Tr.cutQ1 ([(4, .pt 0 0), (5, (dI 0)), (7, .pt 1 0)]) ([some (.var [(dI 0), (dI 0), (dI 0), (dI 0), .d (.b false)]), some (.var [(dI x_8.Bib), (dI (bif (v_18 == 0) then 3 else (bif (v_18 == v_19) then (bif (!v_20) then 1 else 2) else 2))), (dI v_18), (dI v_19), .d (.b v_20)])]) ?_ (fun T1 H1 hw => ?_)
 ·refine Tr.block ?_
  refine sg ?_
  conv=>whnf
  refine Tr.cond ?_
  conv=>whnf
  refine condS_mk (fun hb59 => ?_) (fun hb59 => ?_)
  ·refine rg ?_
   conv=>whnf
   exact Wk.mk2 [0, 1] 2 rfl rfl (by decide) rfl ⟨rr, ⟨rfl, (by first | rfl | (simp only [↓hb7, ↓hb59, bl, List.length_set]; done) | (simp only [↓hb7, ↓hb59, bl, List.length_set]; rfl))⟩, trivial⟩ ⟨rr, rr, rr, trivial⟩
  refine sg ?_
  conv=>whnf
  refine condS_mk (fun hb60 => ?_) (fun hb60 => ?_)
  ·conv=>whnf
   refine Tr.cond ?_
   conv=>whnf
   refine condS_mk (fun hb61 => ?_) (fun hb61 => ?_)
   ·refine rg ?_
    conv=>whnf
    exact Wk.mk2 [0, 1] 2 rfl rfl (by decide) rfl ⟨rr, ⟨rfl, (by first | rfl | (simp only [↓hb7, ↓hb59, ↓hb60, ↓hb61, bl, List.length_set]; done) | (simp only [↓hb7, ↓hb59, ↓hb60, ↓hb61, bl, List.length_set]; rfl))⟩, trivial⟩ ⟨rr, rr, rr, trivial⟩
   refine rg ?_
   conv=>whnf
   exact Wk.mk2 [0, 1] 2 rfl rfl (by decide) rfl ⟨rr, ⟨rfl, (by first | rfl | (simp only [↓hb7, ↓hb59, ↓hb60, ↓hb61, bl, List.length_set]; done) | (simp only [↓hb7, ↓hb59, ↓hb60, ↓hb61, bl, List.length_set]; rfl))⟩, trivial⟩ ⟨rr, rr, rr, trivial⟩
  conv=>whnf
  refine Tr.cond ?_
  conv=>whnf
  refine rg ?_
  conv=>whnf
  exact Wk.mk2 [0, 1] 2 rfl rfl (by decide) rfl ⟨rr, ⟨rfl, (by first | rfl | (simp only [↓hb7, ↓hb59, ↓hb60, bl, List.length_set]; done) | (simp only [↓hb7, ↓hb59, ↓hb60, bl, List.length_set]; rfl))⟩, trivial⟩ ⟨rr, rr, rr, trivial⟩
 conv=>whnf
 refine Tr.weak hw ?_
 refine sg ?_
 conv=>whnf
 refine Tr.ret ?_
 conv=>whnf
 cases h
 rfl
theorem P214 (q_1 : TQuestion) (r_2 : Bool) (h : M214 q_1 = some r_2) :
    PC prog 59 [(eTQuestion q_1)] (fun rs => rs = [(.b r_2)]) := by
 refine PC.of_tr (cx := ⟨16, none, lay, 0⟩) layOK func59 rfl rfl rfl rfl rfl (by simp [f59]) ?_
 unfold M214 at h
 refine sg ?_
 conv=>whnf
 refine sg ?_
 conv=>whnf
 obtain ⟨⟨r_3, r_4⟩, hc5, h⟩ := bS h
 refine PC.ecall (P213 q_1.Field q_1.Runner r_3 r_4 hc5) (fun rs hrs => ?_)
 subst hrs
 conv=>whnf
 refine sg ?_
 conv=>whnf
 refine Tr.ret ?_
 conv=>whnf
 cases h
 rfl
theorem P217 (l_1 : List Int) (n_2 : Int) (r_3 : Bool) (h : M217 l_1 n_2 = some r_3) :
    PC prog 60 [(.ls (List.map eI l_1)), (.i .i64 n_2)] (fun rs => rs = [(.b r_3)]) := by
 refine PC.of_tr (cx := ⟨18, none, lay, 0⟩) layOK func60 rfl rfl rfl rfl rfl (by simp [f60]) ?_
 unfold M217 at h
 refine sg ?_
 conv=>whnf
 refine Tr.seq ?_
 refine sg ?_
 conv=>whnf
 refine Tr.cutQ (α := Unit) (fun s => ([(4, .d (.b false))], [])) (fun s => M216 s = some r_3) ?_ ?_
 ·refine Tr.block ?_
  refine Tr.loopM (σ := Int) (fun n s => M215 l_1 n_2 M216 n s) r_3 (fun s => ([(0, .d (.ls (List.map eI l_1))), (1, (dI n_2)), (4, .d (.b false)), (5, (dI s))], [])) (((((l_1).length : Int)) - 0 : Int).toNat + 1) (0) h (fun s => rfl) (Wk.mk2 [] 0 rfl rfl (by decide) rfl trivial ⟨rr, rr, rr, rr, trivial⟩) ?_
  clear h
  rintro n_6 i_5 h
  replace h : M215 l_1 n_2 M216 (n_6 + 1) i_5 = some r_3 := h
  rw [M215] at h
  refine Tr.seq ?_
  refine sg ?_
  conv=>whnf
  refine lnS_map ?_
  conv=>whnf
  refine Tr.cond ?_
  conv=>whnf
  refine cB h (fun hb9 h => ?_) (fun hb9 h => ?_)
  ·refine Tr.skip ?_
   conv=>whnf
   refine Tr.seq ?_
   refine Tr.block ?_
   refine sg ?_
   conv=>whnf
   obtain ⟨x_10, hx_10, h⟩ := bS h
   refine ixP_of hx_10 ?_
   conv=>whnf
   refine Tr.cond ?_
   conv=>whnf
   refine cB h (fun hb11 h => ?_) (fun hb11 h => ?_)
   ·refine sg ?_
    conv=>whnf
    refine Tr.ret ?_
    conv=>whnf
    cases h
    rfl
   refine Tr.skip ?_
   conv=>whnf
   refine rg ?_
   conv=>whnf
   refine arS_raw ?_
   conv=>whnf
   refine ⟨((w64 (i_5 + 1))), h, ?_⟩
   exact Wk.mk2 [] 0 rfl rfl (by decide) rfl trivial ⟨rr, rr, rr, rr, trivial⟩
  refine Tr.exit ?_
  conv=>whnf
  refine ⟨(), h, ?_⟩
  exact Wk.mk2 [] 0 rfl rfl (by decide) rfl trivial ⟨rr, trivial⟩
 clear h
 rintro _ h T1 H1 hw
 replace h : M216 () = some r_3 := h
 conv=>whnf
 refine Tr.weak hw ?_
 unfold M216 at h
 refine sg ?_
 conv=>whnf
 refine Tr.ret ?_
 conv=>whnf
 cases h
 rfl
theorem P222 (f_1 : TField) (x_2 : TLook) (answer_3 : Int) (r_4 : TField) (r_5 : Bool) (h : M222 f_1 x_2 answer_3 = some (r_4, r_5)) :
    PC prog 61 [(eTField f_1), (eTLook x_2), (.i .i64 answer_3)] (fun rs => rs = [(eTField r_4), (.b r_5)]) := by
 refine PC.of_tr (cx := ⟨113, none, lay, 0⟩) layOK func61 rfl rfl rfl rfl rfl (by simp [f61]) ?_
 unfold M222 at h
 refine sg ?_
 conv=>whnf
 refine sg ?_
 conv=>whnf
 obtain ⟨x_6, hx_6, h⟩ := bS h
 refine ixP_of hx_6 ?_
 conv=>whnf
 refine sg ?_
 conv=>whnf
 refine sg ?_
 conv=>whnf
 refine orB_l ?_
 conv=>whnf
 refine frP_no ?_
 conv=>whnf
 refine eqS_mk (by first | rfl | simp) ?_
 conv=>whnf
 obtain ⟨l_7, hl_7, h⟩ := bS h
 refine apS_of hl_7 (aQ (f := eTRunner) (l := f_1.Runners) fun _ => rfl) (by first | rfl | simp) (by first | rfl | simp) (fun he => ?_)
 conv=>whnf
 refine rS (es' := List.map .d (List.map eTRunner l_7)) (n' := List.length l_7) (by subst he; simp only [List.map_append, List.map_cons, List.map_nil, List.nil_append]; first | done | rfl) (by subst he; simp <;> omega) ?_
 clear he
 conv=>whnf
 refine orB_l ?_
 conv=>whnf
 refine sg ?_
 conv=>whnf
 refine orB_l ?_
 conv=>whnf
 refine Tr.seq ?_
 refine sg ?_
 conv=>whnf
 obtain ⟨l_13, hv36, h⟩ := bS h
 refine Tr.cutQ1 ([(4, .pt 0 0), (6, .pt 1 0), (7, .d (.b false)), (9, .pt 2 0), (10, .sl 3 1 0 (List.length l_13))]) ([some (.var [(dI x_2.Runner), .d (.ls (List.map eTSpan x_2.Answers))]), some (.var [.nsl, .nsl, .nsl, .nsl]), some (.var [.d (.ls (List.map eTSegment f_1.Clocks.Segments)), .d (.ls (List.map (eL eI) f_1.Clocks.Far)), .d (.ls (List.map eTPair f_1.Pairs)), .sl 4 3 0 (List.length l_7)]), some (.arr 1 (List.map .d (List.map (eL eTOutcome) l_13))), some (.arr 3 (List.map .d (List.map eTRunner l_7)))]) ?_ (fun T1 H1 hw => ?_)
 ·replace h := hv36; clear hv36
  refine Tr.block ?_
  refine Tr.loopM (σ := Int × List (List TOutcome)) (fun n s => M219 x_2 x_6 l_7 n s.1 s.2) l_13 (fun s => ([(4, .pt 0 0), (6, .pt 1 0), (7, .d (.b false)), (8, .pt 2 0), (9, .pt 3 0), (10, .sl 4 1 0 (List.length s.2)), (11, (dI s.1))], [some (.var [(dI x_2.Runner), .d (.ls (List.map eTSpan x_2.Answers))]), some (.var [.nsl, .nsl, .nsl, .nsl]), some (.var [(dI x_6.Lo), (dI x_6.Hi)]), some (.var [.d (.ls (List.map eTSegment f_1.Clocks.Segments)), .d (.ls (List.map (eL eI) f_1.Clocks.Far)), .d (.ls (List.map eTPair f_1.Pairs)), .sl 5 3 0 (List.length l_7)]), some (.arr 1 (List.map .d (List.map (eL eTOutcome) s.2))), some (.arr 3 (List.map .d (List.map eTRunner l_7)))])) ((((((Option.getD (idx l_7 x_2.Runner) default).Worlds).length : Int)) - 0 : Int).toNat + 1) (0, (([] : List (List TOutcome)))) h (fun s => rfl) (Wk.mk2 [1, 2, 3, 4, 7, 6] 8 rfl rfl (by decide) rfl ⟨rr, rr, rr, ⟨rfl, (by first | rfl | (simp only [List.length_set]; rfl) | simp)⟩, daS_d rfl, daS_d rfl, trivial⟩ ⟨⟨rfl, (by first | rfl | (simp only [List.length_set]; rfl) | simp)⟩, ⟨rfl, (by first | rfl | (simp only [List.length_set]; rfl) | simp)⟩, rr, ⟨rfl, (by first | rfl | (simp only [List.length_set]; rfl) | simp)⟩, ⟨rfl, (by first | rfl | (simp only [List.length_set]; rfl) | simp)⟩, ⟨rfl, (by first | rfl | (simp only [List.length_set]; rfl) | simp)⟩, rr, trivial⟩) ?_
  clear h
  rintro n_12 ⟨w_10, l_11⟩ h
  replace h : M219 x_2 x_6 l_7 (n_12 + 1) w_10 l_11 = some l_13 := h
  rw [M219] at h
  refine Tr.seq ?_
  refine sg ?_
  conv=>whnf
  obtain ⟨x_16, hx_16, h⟩ := bS h
  refine ixS_of hx_16 rfl ?_
  conv=>whnf
  refine elP_of hx_16 ?_
  conv=>whnf
  refine lnS_map ?_
  conv=>whnf
  refine Tr.cond ?_
  conv=>whnf
  refine cB h (fun hb17 h => ?_) (fun hb17 h => ?_)
  ·refine Tr.skip ?_
   conv=>whnf
   refine Tr.seq ?_
   refine Tr.block ?_
   refine sg ?_
   conv=>whnf
   refine orB_l ?_
   conv=>whnf
   refine Tr.seq ?_
   refine sg ?_
   conv=>whnf
   obtain ⟨l_23, hv34, h⟩ := bS h
   refine Tr.cutQ1 ([(4, .pt 0 0), (6, .pt 1 0), (7, .d (.b false)), (8, .pt 2 0), (9, .pt 3 0), (10, .sl 4 1 0 (List.length l_11)), (11, (dI w_10)), (12, .sl 5 4 0 (List.length l_23))]) ([some (.var [(dI x_2.Runner), .d (.ls (List.map eTSpan x_2.Answers))]), some (.var [.nsl, .nsl, .nsl, .nsl]), some (.var [(dI x_6.Lo), (dI x_6.Hi)]), some (.var [.d (.ls (List.map eTSegment f_1.Clocks.Segments)), .d (.ls (List.map (eL eI) f_1.Clocks.Far)), .d (.ls (List.map eTPair f_1.Pairs)), .sl 6 3 0 (List.length l_7)]), some (.arr 1 (List.map .d (List.map (eL eTOutcome) l_11))), some (.arr 4 (List.map .d (List.map eTOutcome l_23))), some (.arr 3 (List.map .d (List.map eTRunner l_7)))]) ?_ (fun T1 H1 hw => ?_)
   ·replace h := hv34; clear hv34
    refine Tr.block ?_
    refine Tr.loopM (σ := Int × List TOutcome) (fun n s => M218 x_2 x_6 l_7 w_10 n s.1 s.2) l_23 (fun s => ([(4, .pt 0 0), (6, .pt 1 0), (7, .d (.b false)), (8, .pt 2 0), (9, .pt 3 0), (10, .sl 4 1 0 (List.length l_11)), (11, (dI w_10)), (12, .sl 5 4 0 (List.length s.2)), (13, (dI s.1))], [some (.var [(dI x_2.Runner), .d (.ls (List.map eTSpan x_2.Answers))]), some (.var [.nsl, .nsl, .nsl, .nsl]), some (.var [(dI x_6.Lo), (dI x_6.Hi)]), some (.var [.d (.ls (List.map eTSegment f_1.Clocks.Segments)), .d (.ls (List.map (eL eI) f_1.Clocks.Far)), .d (.ls (List.map eTPair f_1.Pairs)), .sl 6 3 0 (List.length l_7)]), some (.arr 1 (List.map .d (List.map (eL eTOutcome) l_11))), some (.arr 4 (List.map .d (List.map eTOutcome s.2))), some (.arr 3 (List.map .d (List.map eTRunner l_7)))])) ((((((Option.getD (idx (Option.getD (idx l_7 x_2.Runner) default).Worlds w_10) default)).length : Int)) - 0 : Int).toNat + 1) (0, (([] : List TOutcome))) h (fun s => rfl) (Wk.mk2 [0, 1, 2, 3, 4, 6, 5] 7 rfl rfl (by decide) rfl ⟨rr, rr, rr, ⟨rfl, (by first | rfl | (simp only [↓hb17, bl, List.length_set]; done) | (simp only [↓hb17, bl, List.length_set]; rfl))⟩, daS_d rfl, daS_d rfl, daS_d rfl, trivial⟩ ⟨rr, rr, rr, rr, rr, rr, rr, ⟨rfl, (by first | rfl | (simp only [↓hb17, bl, List.length_set]; done) | (simp only [↓hb17, bl, List.length_set]; rfl))⟩, rr, trivial⟩) ?_
    clear h
    rintro n_22 ⟨i_20, l_21⟩ h
    replace h : M218 x_2 x_6 l_7 w_10 (n_22 + 1) i_20 l_21 = some l_23 := h
    rw [M218] at h
    refine Tr.seq ?_
    refine sg ?_
    conv=>whnf
    obtain ⟨x_26, hx_26, h⟩ := bS h
    refine ixS_of hx_26 rfl ?_
    conv=>whnf
    refine elP_of hx_26 ?_
    conv=>whnf
    obtain ⟨x_27, hx_27, h⟩ := bS h
    refine ixP_of hx_27 ?_
    conv=>whnf
    refine lnS_map ?_
    conv=>whnf
    refine Tr.cond ?_
    conv=>whnf
    refine cB h (fun hb28 h => ?_) (fun hb28 h => ?_)
    ·refine Tr.skip ?_
     conv=>whnf
     refine Tr.seq ?_
     refine Tr.block ?_
     refine sg ?_
     conv=>whnf
     obtain ⟨x_29, hx_29, h⟩ := bS h
     refine ixS_of hx_29 rfl ?_
     conv=>whnf
     refine elP_of hx_29 ?_
     conv=>whnf
     obtain ⟨x_30, hx_30, h⟩ := bS h
     refine ixP_of hx_30 ?_
     conv=>whnf
     obtain ⟨x_31, hx_31, h⟩ := bS h
     refine ixP_of hx_31 ?_
     conv=>whnf
     refine sg ?_
     conv=>whnf
     refine sg ?_
     conv=>whnf
     refine sg ?_
     conv=>whnf
     refine Tr.cond ?_
     conv=>whnf
     refine cB h (fun hb32 h => ?_) (fun hb32 h => ?_)
     ·refine rg ?_
      conv=>whnf
      refine orB_r ?_
      conv=>whnf
      refine frP_no ?_
      conv=>whnf
      refine eqS_mk (by first | rfl | simp) ?_
      conv=>whnf
      obtain ⟨l_33, hl_33, h⟩ := bS h
      refine apS_of hl_33 (aQ (f := eTOutcome) (l := (([({ Out := x_31.Out, Seg := x_31.Seg, Lo := (maxG x_31.Lo x_6.Lo), Hi := (minG x_31.Hi x_6.Hi) } : TOutcome)] : List TOutcome))) fun _ => rfl) (by first | rfl | simp) (by first | rfl | simp) (fun he => ?_)
      conv=>whnf
      refine rS (es' := List.map .d (List.map eTOutcome l_33)) (n' := List.length l_33) (by subst he; simp only [List.map_append, List.map_cons, List.map_nil, List.nil_append]; first | done | rfl) (by subst he; simp <;> omega) ?_
      clear he
      conv=>whnf
      refine rg ?_
      conv=>whnf
      refine arS_raw ?_
      conv=>whnf
      refine ⟨((w64 (i_20 + 1)), l_33), h, ?_⟩
      exact Wk.mk2 [0, 1, 2, 3, 4, 8, 6] 9 rfl rfl (by decide) rfl ⟨rr, rr, rr, rr, daS_d rfl, daS_d rfl, daS_d rfl, trivial⟩ ⟨rr, rr, rr, rr, rr, rr, rr, ⟨rfl, (by first | rfl | (simp only [↓hb17, ↓hb28, ↓hb32, bl, List.length_set]; done) | (simp only [↓hb17, ↓hb28, ↓hb32, bl, List.length_set]; rfl))⟩, rr, trivial⟩
     refine Tr.skip ?_
     conv=>whnf
     refine rg ?_
     conv=>whnf
     refine arS_raw ?_
     conv=>whnf
     refine ⟨((w64 (i_20 + 1)), l_21), h, ?_⟩
     exact Wk.mk2 [0, 1, 2, 3, 4, 5, 6] 8 rfl rfl (by decide) rfl ⟨rr, rr, rr, rr, daS_d rfl, daS_d rfl, daS_d rfl, trivial⟩ ⟨rr, rr, rr, rr, rr, rr, rr, rr, rr, trivial⟩
    refine Tr.exit ?_
    conv=>whnf
    cases h
    exact Wk.mk2 [0, 1, 2, 3, 4, 5, 6] 7 rfl rfl (by decide) rfl ⟨rr, rr, rr, rr, daS_d rfl, daS_d rfl, daS_d rfl, trivial⟩ ⟨rr, rr, rr, rr, rr, rr, rr, rr, trivial⟩
   clear hv34
   conv=>whnf
   refine Tr.weak hw ?_
   refine rg ?_
   conv=>whnf
   refine orB_r ?_
   conv=>whnf
   refine frE_of (f := eTOutcome) (l := l_23) rfl ?_
   conv=>whnf
   refine frP_no ?_
   conv=>whnf
   refine eqS_mk (by first | rfl | simp) ?_
   conv=>whnf
   obtain ⟨l_35, hl_35, h⟩ := bS h
   refine apS_of hl_35 (aQ (f := (eL eTOutcome)) (l := (([l_23] : List (List TOutcome)))) fun _ => rfl) (by first | rfl | simp) (by first | rfl | simp) (fun he => ?_)
   conv=>whnf
   refine rS (es' := List.map .d (List.map (eL eTOutcome) l_35)) (n' := List.length l_35) (by subst he; simp only [List.map_append, List.map_cons, List.map_nil, List.nil_append]; first | done | rfl) (by subst he; simp <;> omega) ?_
   clear he
   conv=>whnf
   refine rg ?_
   conv=>whnf
   refine arS_raw ?_
   conv=>whnf
   refine ⟨((w64 (w_10 + 1)), l_35), h, ?_⟩
   exact Wk.mk2 [0, 1, 2, 3, 7, 6] 8 rfl rfl (by decide) rfl ⟨rr, rr, rr, ⟨rfl, (by first | rfl | (simp only [↓hb17, bl, List.length_set]; done) | (simp only [↓hb17, bl, List.length_set]; rfl))⟩, daS_d rfl, daS_d rfl, trivial⟩ ⟨rr, rr, rr, rr, rr, ⟨rfl, (by first | rfl | (simp only [↓hb17, bl, List.length_set]; done) | (simp only [↓hb17, bl, List.length_set]; rfl))⟩, rr, trivial⟩
  refine Tr.exit ?_
  conv=>whnf
  cases h
  exact Wk.mk2 [0, 1, 3, 4, 5] 6 rfl rfl (by decide) rfl ⟨rr, rr, ⟨rfl, (by first | rfl | (simp only [↓hb17, bl, List.length_set]; done) | (simp only [↓hb17, bl, List.length_set]; rfl))⟩, daS_d rfl, daS_d rfl, trivial⟩ ⟨rr, rr, rr, ⟨rfl, (by first | rfl | (simp only [↓hb17, bl, List.length_set]; done) | (simp only [↓hb17, bl, List.length_set]; rfl))⟩, ⟨rfl, (by first | rfl | (simp only [↓hb17, bl, List.length_set]; done) | (simp only [↓hb17, bl, List.length_set]; rfl))⟩, trivial⟩
 clear hv36
 conv=>whnf
 refine Tr.weak hw ?_
 refine sg ?_
 conv=>whnf
 obtain ⟨x_37, hx_37, h⟩ := bS h
 refine ixS_of hx_37 rfl ?_
 conv=>whnf
 refine orB_r ?_
 conv=>whnf
 refine frE_of (f := (eL eTOutcome)) (l := l_13) rfl ?_
 conv=>whnf
 refine elP_of hx_37 ?_
 conv=>whnf
 refine lvS_mk (es' := List.map .d (List.map eTRunner (List.set l_7 (Int.toNat x_2.Runner) ({ Bib := x_37.Bib, Keys := x_37.Keys, Worlds := l_13 } : TRunner)))) (by simp only [Nat.zero_add, List.map_set]; first | done | rfl) ?_
 conv=>whnf
 refine Tr.seq ?_
 refine sg ?_
 conv=>whnf
 refine Tr.cutQ (α := Unit) (fun s => ([(6, .pt 0 0), (7, .d (.b false)), (9, .pt 1 0)], [some (.var [.nsl, .nsl, .nsl, .nsl]), some (.var [.d (.ls (List.map eTSegment f_1.Clocks.Segments)), .d (.ls (List.map (eL eI) f_1.Clocks.Far)), .d (.ls (List.map eTPair f_1.Pairs)), .sl 2 3 0 (List.length (List.set l_7 (Int.toNat x_2.Runner) ({ Bib := x_37.Bib, Keys := x_37.Keys, Worlds := l_13 } : TRunner)))]), some (.arr 3 (List.map .d (List.map eTRunner (List.set l_7 (Int.toNat x_2.Runner) ({ Bib := x_37.Bib, Keys := x_37.Keys, Worlds := l_13 } : TRunner)))))])) (fun s => M221 f_1 x_2 l_7 l_13 x_37 s = some (r_4, r_5)) ?_ ?_
 ·refine Tr.block ?_
  refine Tr.loopM (σ := Int) (fun n s => M220 f_1 x_2 l_7 l_13 x_37 (M221 f_1 x_2 l_7 l_13 x_37) n s) (r_4, r_5) (fun s => ([(6, .pt 0 0), (7, .d (.b false)), (9, .pt 1 0), (15, (dI s))], [some (.var [.nsl, .nsl, .nsl, .nsl]), some (.var [.d (.ls (List.map eTSegment f_1.Clocks.Segments)), .d (.ls (List.map (eL eI) f_1.Clocks.Far)), .d (.ls (List.map eTPair f_1.Pairs)), .sl 2 3 0 (List.length (List.set l_7 (Int.toNat x_2.Runner) ({ Bib := x_37.Bib, Keys := x_37.Keys, Worlds := l_13 } : TRunner)))]), some (.arr 3 (List.map .d (List.map eTRunner (List.set l_7 (Int.toNat x_2.Runner) ({ Bib := x_37.Bib, Keys := x_37.Keys, Worlds := l_13 } : TRunner)))))])) (((((f_1.Pairs).length : Int)) + 1 - 0 : Int).toNat + 1) (0) h (fun s => rfl) (Wk.mk2 [1, 2, 4] 5 rfl rfl (by decide) rfl ⟨rr, ⟨rfl, (by first | rfl | (simp only [List.length_set]; rfl) | simp)⟩, daS_d rfl, trivial⟩ ⟨⟨rfl, (by first | rfl | (simp only [List.length_set]; rfl) | simp)⟩, rr, ⟨rfl, (by first | rfl | (simp only [List.length_set]; rfl) | simp)⟩, rr, trivial⟩) ?_
  clear h
  rintro n_40 w_39 h
  replace h : M220 f_1 x_2 l_7 l_13 x_37 (M221 f_1 x_2 l_7 l_13 x_37) (n_40 + 1) w_39 = some (r_4, r_5) := h
  rw [M220] at h
  refine Tr.seq ?_
  refine sg ?_
  conv=>whnf
  refine lnS_map ?_
  conv=>whnf
  refine Tr.cond ?_
  conv=>whnf
  refine cB h (fun hb43 h => ?_) (fun hb43 h => ?_)
  ·refine Tr.skip ?_
   conv=>whnf
   refine Tr.seq ?_
   refine Tr.block ?_
   refine sg ?_
   conv=>whnf
   obtain ⟨r_44, hc45, h⟩ := bS h
   refine PC.ecall_lend ?_ ⟨_, _, func81, rfl, rfl⟩
   conv=>whnf
   refine frE_of (f := eTRunner) (l := (List.set l_7 (Int.toNat x_2.Runner) ({ Bib := x_37.Bib, Keys := x_37.Keys, Worlds := l_13 } : TRunner))) rfl ?_
   conv=>whnf
   refine ⟨_, P165 (({ Clocks := f_1.Clocks, Pairs := f_1.Pairs, Runners := (List.set l_7 (Int.toNat x_2.Runner) ({ Bib := x_37.Bib, Keys := x_37.Keys, Worlds := l_13 } : TRunner)) } : TField)) w_39 r_44 hc45, fun rs hrs => ?_⟩
   subst hrs
   refine ⟨rfl, ?_⟩
   conv=>whnf
   refine Tr.cond ?_
   conv=>whnf
   refine cB h (fun hb46 h => ?_) (fun hb46 h => ?_)
   ·refine sg ?_
    conv=>whnf
    refine orB_l ?_
    conv=>whnf
    refine Tr.ret ?_
    conv=>whnf
    refine frE_of (f := eTRunner) (l := (List.set l_7 (Int.toNat x_2.Runner) ({ Bib := x_37.Bib, Keys := x_37.Keys, Worlds := l_13 } : TRunner))) rfl ?_
    conv=>whnf
    cases h
    rfl
   refine Tr.skip ?_
   conv=>whnf
   refine rg ?_
   conv=>whnf
   refine arS_raw ?_
   conv=>whnf
   refine ⟨((w64 (w_39 + 1))), h, ?_⟩
   exact Wk.mk2 [0, 1, 2] 3 rfl rfl (by decide) rfl ⟨rr, rr, daS_d rfl, trivial⟩ ⟨rr, rr, rr, rr, trivial⟩
  refine Tr.exit ?_
  conv=>whnf
  refine ⟨(), h, ?_⟩
  exact Wk.mk2 [0, 1, 2] 3 rfl rfl (by decide) rfl ⟨rr, rr, daS_d rfl, trivial⟩ ⟨rr, rr, rr, trivial⟩
 clear h
 rintro _ h T1 H1 hw
 replace h : M221 f_1 x_2 l_7 l_13 x_37 () = some (r_4, r_5) := h
 conv=>whnf
 refine Tr.weak hw ?_
 unfold M221 at h
 refine sg ?_
 conv=>whnf
 refine orB_l ?_
 conv=>whnf
 refine Tr.ret ?_
 conv=>whnf
 refine frE_of (f := eTRunner) (l := (List.set l_7 (Int.toNat x_2.Runner) ({ Bib := x_37.Bib, Keys := x_37.Keys, Worlds := l_13 } : TRunner))) rfl ?_
 conv=>whnf
 cases h
 rfl
theorem P225 (rc_9078 : TQuestion → TPlan → (List Int) → Option (Bool)) (ih_9078 : ∀ (q_1 : TQuestion) (p_2 : TPlan) (used_3 : List Int) (r_4 : Bool), rc_9078 q_1 p_2 used_3 = some r_4 → PC prog 35 [(eTQuestion q_1), (eTPlan p_2), (.ls (List.map eI used_3))] (fun rs => rs = [(.b r_4)])) (q_1 : TQuestion) (p_2 : TPlan) (used_3 : List Int) (r_4 : Bool) (h : M225 rc_9078 q_1 p_2 used_3 = some r_4) :
    PC prog 35 [(eTQuestion q_1), (eTPlan p_2), (.ls (List.map eI used_3))] (fun rs => rs = [(.b r_4)]) := by
 refine PC.of_tr (cx := ⟨110, none, lay, 0⟩) layOK func35 rfl rfl rfl rfl rfl (by simp [f35]) ?_
 unfold M225 at h
 refine sg ?_
 conv=>whnf
 refine Tr.seq ?_
 refine sg ?_
 conv=>whnf
 refine Tr.cond ?_
 conv=>whnf
 refine cB h (fun hb5 h => ?_) (fun hb5 h => ?_)
 ·refine sg ?_
  conv=>whnf
  refine lnS_map ?_
  conv=>whnf
  refine cB h (fun hb6 h => ?_) (fun hb6 h => ?_)
  ·conv=>whnf
   obtain ⟨r_7, hc8, h⟩ := bS h
   refine PC.ecall (P214 q_1 r_7 hc8) (fun rs hrs => ?_)
   subst hrs
   conv=>whnf
   refine Tr.ret ?_
   conv=>whnf
   cases h
   rfl
  conv=>whnf
  refine Tr.ret ?_
  conv=>whnf
  cases h
  rfl
 refine Tr.skip ?_
 conv=>whnf
 refine Tr.seq ?_
 refine Tr.seq ?_
 obtain ⟨v_9, hv10, h⟩ := bS h
 refine Tr.cutQ1 ([(2, .d (.ls (List.map eI used_3))), (3, .pt 0 0), (4, .pt 1 0), (6, .d (.b false)), (52, .d (.b v_9))]) ([some (.var [.d (.ls (List.map eTSegment q_1.Field.Clocks.Segments)), .d (.ls (List.map (eL eI) q_1.Field.Clocks.Far)), .d (.ls (List.map eTPair q_1.Field.Pairs)), .d (.ls (List.map eTRunner q_1.Field.Runners)), (dI q_1.Runner), .d (.ls (List.map eTLook q_1.Looks))]), some (.var [(dI p_2.Look), .d (.ls (List.map eTPlan0 p_2.After))])]) ?_ (fun T1 H1 hw => ?_)
 ·replace h := hv10; clear hv10
  refine dq [] [(0,4),(1,4),(2,1),(3,1),(4,4),(5,4),(6,3),(7,3),(8,2),(9,1),(10,1),(11,1),(12,1),(13,4),(14,4),(15,1),(16,1),(17,1),(18,4),(19,4),(20,2),(21,3),(22,3),(23,4),(24,4),(25,2),(26,2),(27,2),(28,2),(29,1),(30,1)] ?_
  conv=>whnf
  refine q2 ?_
  conv=>whnf
  refine q2 ?_
  conv=>whnf
  refine q1 ?_
  conv=>whnf
  refine q1 ?_
  conv=>whnf
  refine cB h (fun hb11 h => ?_) (fun hb11 h => ?_)
  ·conv=>whnf
   refine q1 ?_
   conv=>whnf
   refine q1 ?_
   conv=>whnf
   refine q1 ?_
   conv=>whnf
   refine q1 ?_
   conv=>whnf
   refine q1 ?_
   conv=>whnf
   cases h
   exact Wk.mk2 [0, 1] 2 rfl rfl (by decide) rfl ⟨rr, rr, trivial⟩ ⟨rr, rr, rr, rr, rr, trivial⟩
  conv=>whnf
  refine q2 ?_
  conv=>whnf
  refine q2 ?_
  conv=>whnf
  refine q2 ?_
  conv=>whnf
  refine q2 ?_
  conv=>whnf
  refine q3 (lnS_map rr) ?_
  conv=>whnf
  refine q1 ?_
  conv=>whnf
  refine q1 ?_
  conv=>whnf
  refine q1 ?_
  conv=>whnf
  refine cB h (fun hb12 h => ?_) (fun hb12 h => ?_)
  ·conv=>whnf
   refine q1 ?_
   conv=>whnf
   refine q1 ?_
   conv=>whnf
   refine q1 ?_
   conv=>whnf
   cases h
   exact Wk.mk2 [0, 1] 2 rfl rfl (by decide) rfl ⟨rr, rr, trivial⟩ ⟨rr, rr, rr, rr, rr, trivial⟩
  conv=>whnf
  refine q1 ?_
  conv=>whnf
  refine q2 ?_
  conv=>whnf
  refine q2 ?_
  conv=>whnf
  obtain ⟨r_13, hc14, h⟩ := bS h
  refine q1 ?_ (fun _ => pe (P217 used_3 p_2.Look r_13 hc14) rr)
  conv=>whnf
  refine q1 ?_
  conv=>whnf
  refine q1 ?_
  conv=>whnf
  refine cB h (fun hb15 h => ?_) (fun hb15 h => ?_)
  ·conv=>whnf
   refine q1 ?_
   conv=>whnf
   cases h
   exact Wk.mk2 [0, 1] 2 rfl rfl (by decide) rfl ⟨rr, rr, trivial⟩ ⟨rr, rr, rr, rr, rr, trivial⟩
  conv=>whnf
  refine q2 ?_
  conv=>whnf
  refine q2 ?_
  conv=>whnf
  refine q3 (lnS_map rr) ?_
  conv=>whnf
  refine q2 ?_
  conv=>whnf
  refine q2 ?_
  conv=>whnf
  refine q2 ?_
  conv=>whnf
  refine q2 ?_
  conv=>whnf
  obtain ⟨x_16, hx_16, h⟩ := bS h
  refine q3 (ixP_of hx_16 rr) ?_
  conv=>whnf
  refine q2 ?_
  conv=>whnf
  refine q2 ?_
  conv=>whnf
  refine q3 (lnS_map rr) ?_
  conv=>whnf
  refine q1 ?_
  conv=>whnf
  refine q1 ?_
  conv=>whnf
  cases h
  exact Wk.mk2 [0, 1] 2 rfl rfl (by decide) rfl ⟨rr, rr, trivial⟩ ⟨rr, rr, rr, rr, rr, trivial⟩
 clear hv10
 conv=>whnf
 refine Tr.weak hw ?_
 refine Tr.cond ?_
 conv=>whnf
 refine cB h (fun hb17 h => ?_) (fun hb17 h => ?_)
 ·refine sg ?_
  conv=>whnf
  refine Tr.ret ?_
  conv=>whnf
  cases h
  rfl
 refine Tr.skip ?_
 conv=>whnf
 refine Tr.seq ?_
 refine sg ?_
 conv=>whnf
 refine Tr.cutQ (α := Unit) (fun s => ([(6, .d (.b false))], [])) (fun s => M224 s = some r_4) ?_ ?_
 ·refine Tr.block ?_
  refine Tr.loopM (σ := Int) (fun n s => M223 q_1 p_2 used_3 rc_9078 M224 n s) r_4 (fun s => ([(2, .d (.ls (List.map eI used_3))), (3, .pt 0 0), (4, .pt 1 0), (6, .d (.b false)), (7, (dI s))], [some (.var [.d (.ls (List.map eTSegment q_1.Field.Clocks.Segments)), .d (.ls (List.map (eL eI) q_1.Field.Clocks.Far)), .d (.ls (List.map eTPair q_1.Field.Pairs)), .d (.ls (List.map eTRunner q_1.Field.Runners)), (dI q_1.Runner), .d (.ls (List.map eTLook q_1.Looks))]), some (.var [(dI p_2.Look), .d (.ls (List.map eTPlan0 p_2.After))])])) (((((p_2.After).length : Int)) - 0 : Int).toNat + 1) (0) h (fun s => rfl) (Wk.mk2 [0, 1] 2 rfl rfl (by decide) rfl ⟨rr, rr, trivial⟩ ⟨rr, rr, rr, rr, rr, trivial⟩) ?_
  clear h
  rintro n_20 i_19 h
  replace h : M223 q_1 p_2 used_3 rc_9078 M224 (n_20 + 1) i_19 = some r_4 := h
  rw [M223] at h
  refine Tr.seq ?_
  refine sg ?_
  conv=>whnf
  refine lnS_map ?_
  conv=>whnf
  refine Tr.cond ?_
  conv=>whnf
  refine cB h (fun hb23 h => ?_) (fun hb23 h => ?_)
  ·refine Tr.skip ?_
   conv=>whnf
   refine Tr.seq ?_
   refine Tr.block ?_
   refine sd [(14,2)] [(0,3),(1,3),(2,3),(3,3),(4,4),(5,4),(6,2),(7,2),(8,1),(9,1),(10,1),(11,1),(12,1),(13,0),(14,0),(15,1)] ?_
   conv=>whnf
   refine q2 ?_
   conv=>whnf
   refine q2 ?_
   conv=>whnf
   refine q2 ?_
   conv=>whnf
   refine q2 ?_
   conv=>whnf
   refine q2 ?_
   conv=>whnf
   refine q2 ?_
   conv=>whnf
   obtain ⟨x_24, hx_24, h⟩ := bS h
   refine q3 (ixP_of hx_24 rr) ?_
   conv=>whnf
   refine q2 ?_
   conv=>whnf
   refine q1 ?_
   conv=>whnf
   obtain ⟨⟨r_25, r_26⟩, hc27, h⟩ := bS h
   refine q1 ?_ (fun _ => pe (P222 q_1.Field x_24 i_19 r_25 r_26 hc27) rr)
   conv=>whnf
   refine q1 ?_
   conv=>whnf
   refine q1 ?_
   conv=>whnf
   refine q1 ?_
   conv=>whnf
   refine ⟨_, _, rr, kp_ok (by repeat (first | exact trivial | refine ⟨trivial, ?_⟩ | refine ⟨rfl, ?_⟩)), ?_⟩
   conv=>whnf
   refine ⟨_, _, rr, kp_ok (by repeat (first | exact trivial | refine ⟨trivial, ?_⟩ | refine ⟨rfl, ?_⟩)), ?_⟩
   conv=>whnf
   refine q1 ?_
   conv=>whnf
   refine Tr.seq ?_
   refine sg ?_
   conv=>whnf
   refine Tr.cond ?_
   conv=>whnf
   refine cB h (fun hb28 h => ?_) (fun hb28 h => ?_)
   ·refine Tr.seq ?_
    refine sg ?_
    conv=>whnf
    obtain ⟨x_29, hx_29, h⟩ := bS h
    obtain ⟨p_30, hp_30, h⟩ := bS h
    rw [uTPlan_eq hp_30] at hx_29
    refine ixP_of hx_29 ?_
    conv=>whnf
    refine cB h (fun hb31 h => ?_) (fun hb31 h => ?_)
    ·conv=>whnf
     refine Tr.cond ?_
     conv=>whnf
     refine sg ?_
     conv=>whnf
     refine Tr.ret ?_
     conv=>whnf
     cases h
     rfl
    conv=>whnf
    obtain ⟨x_32, hx_32, h⟩ := bS h
    obtain ⟨p_33, hp_33, h⟩ := bS h
    rw [uTPlan_eq hp_33] at hx_32
    refine ixP_of hx_32 ?_
    conv=>whnf
    refine lnS_map ?_
    conv=>whnf
    refine Tr.cond ?_
    conv=>whnf
    refine cB h (fun hb34 h => ?_) (fun hb34 h => ?_)
    ·refine sg ?_
     conv=>whnf
     refine Tr.ret ?_
     conv=>whnf
     cases h
     rfl
    refine Tr.skip ?_
    conv=>whnf
    refine Tr.exit ?_
    conv=>whnf
    refine rg ?_
    conv=>whnf
    refine arS_raw ?_
    conv=>whnf
    refine ⟨((w64 (i_19 + 1))), h, ?_⟩
    exact Wk.mk2 [0, 1] 3 rfl rfl (by decide) rfl ⟨rr, rr, trivial⟩ ⟨rr, rr, rr, rr, rr, trivial⟩
   refine Tr.skip ?_
   conv=>whnf
   refine sg ?_
   conv=>whnf
   refine sg ?_
   conv=>whnf
   refine sd [(8,4),(12,5),(13,6)] [(0,6),(1,4),(2,4),(3,1),(4,2),(5,2),(7,1),(9,4),(10,4),(11,1),(6,0),(8,0),(12,0),(13,0),(14,1)] ?_
   conv=>whnf
   refine q2 ?_
   conv=>whnf
   refine q2 ?_
   conv=>whnf
   refine q2 ?_
   conv=>whnf
   refine q1 ?_
   conv=>whnf
   obtain ⟨x_35, hx_35, h⟩ := bS h
   obtain ⟨p_36, hp_36, h⟩ := bS h
   refine ⟨_, ⟨rfl, rfl, (by (conv=>whnf); (rw [uTPlan_eq hp_36] at hx_35); (refine ixP_of hx_35 ?_); (conv=>whnf); (exact rr))⟩, ?_⟩
   conv=>whnf
   refine q2 ?_
   conv=>whnf
   refine q1 ?_
   conv=>whnf
   refine q2 ?_
   conv=>whnf
   refine q2 ?_
   conv=>whnf
   refine q1 ?_ (fun _ => orB_r rr)
   conv=>whnf
   refine ⟨_, _, (by (conv=>whnf); (refine orB_l ?_); (conv=>whnf); (exact rr)), kp_ok (by repeat (first | exact trivial | refine ⟨trivial, ?_⟩ | refine ⟨rfl, ?_⟩)), ?_⟩
   conv=>whnf
   obtain ⟨l_37, hl_37, h⟩ := bS h
   refine ⟨_, _, (by (conv=>whnf); (refine frP_no ?_); (conv=>whnf); (refine eqS_mk (by first | rfl | simp) ?_); (conv=>whnf); (refine apS_of hl_37 (aQ (f := eI) (l := used_3) fun _ => rfl) (by first | rfl | simp) (by first | rfl | simp) (fun he => ?_)); (conv=>whnf); (refine rS (es' := List.map .d (List.map eI l_37)) (n' := List.length l_37) (by subst he; simp only [List.map_append, List.map_cons, List.map_nil, List.nil_append]; first | done | rfl) (by subst he; simp <;> omega) ?_); (clear he); (conv=>whnf); (exact rr)), kp_ok (by repeat (first | exact trivial | refine ⟨trivial, ?_⟩ | refine ⟨rfl, ?_⟩)), ?_⟩
   conv=>whnf
   obtain ⟨l_38, hl_38, h⟩ := bS h
   refine ⟨_, _, (by (conv=>whnf); (refine frP_no ?_); (conv=>whnf); (refine eqS_mk (by first | rfl | simp) ?_); (conv=>whnf); (refine apS_of hl_38 (aQ (f := eI) (l := (([p_2.Look] : List Int))) fun _ => rfl) (by first | rfl | simp) (by first | rfl | simp) (fun he => ?_)); (conv=>whnf); (refine rS (es' := List.map .d (List.map eI l_38)) (n' := List.length l_38) (by subst he; simp only [List.map_append, List.map_cons, List.map_nil, List.nil_append]; first | done | rfl) (by subst he; simp <;> omega) ?_); (clear he); (conv=>whnf); (exact rr)), kp_ok (by repeat (first | exact trivial | refine ⟨trivial, ?_⟩ | refine ⟨rfl, ?_⟩)), ?_⟩
   conv=>whnf
   obtain ⟨r_39, hc40, h⟩ := bS h
   refine ⟨_, _, (by (conv=>whnf); (refine PC.ecall_lend ?_ ⟨_, _, func35, rfl, rfl⟩); (conv=>whnf); (refine frE_of (f := eI) (l := l_38) rfl ?_); (conv=>whnf); (refine ⟨_, ih_9078 ({ Field := r_25, Runner := q_1.Runner, Looks := q_1.Looks } : TQuestion) p_36 l_38 r_39 hc40, fun rs hrs => ?_⟩); (subst hrs); (refine ⟨rfl, ?_⟩); (conv=>whnf); (exact rr)), kp_ok (by repeat (first | exact trivial | refine ⟨trivial, ?_⟩ | refine ⟨rfl, ?_⟩)), ?_⟩
   conv=>whnf
   refine q1 ?_
   conv=>whnf
   refine Tr.cond ?_
   conv=>whnf
   refine cB h (fun hb41 h => ?_) (fun hb41 h => ?_)
   ·refine sg ?_
    conv=>whnf
    refine Tr.ret ?_
    conv=>whnf
    cases h
    rfl
   refine Tr.skip ?_
   conv=>whnf
   refine rg ?_
   conv=>whnf
   refine arS_raw ?_
   conv=>whnf
   refine ⟨((w64 (i_19 + 1))), h, ?_⟩
   exact Wk.mk2 [0, 1] 7 rfl rfl (by decide) rfl ⟨rr, rr, trivial⟩ ⟨rr, rr, rr, rr, rr, trivial⟩
  refine Tr.exit ?_
  conv=>whnf
  refine ⟨(), h, ?_⟩
  exact Wk.mk2 [] 2 rfl rfl (by decide) rfl trivial ⟨rr, trivial⟩
 clear h
 rintro _ h T1 H1 hw
 replace h : M224 () = some r_4 := h
 conv=>whnf
 refine Tr.weak hw ?_
 unfold M224 at h
 refine sg ?_
 conv=>whnf
 refine Tr.ret ?_
 conv=>whnf
 cases h
 rfl
theorem P226 (n : Nat) : ∀ (q_1 : TQuestion) (p_2 : TPlan) (used_3 : List Int) (r_4 : Bool), M226 n q_1 p_2 used_3 = some r_4 → PC prog 35 [(eTQuestion q_1), (eTPlan p_2), (.ls (List.map eI used_3))] (fun rs => rs = [(.b r_4)]) := by
  induction n with
  | zero =>
    intros
    rename_i h
    cases h
  | succ n ih => exact P225 (M226 n) ih
theorem P227 (q_1 : TQuestion) (p_2 : TPlan) (r_3 : Int) (h : M227 q_1 p_2 = some r_3) :
    PC prog 14 [(eTQuestion q_1), (eTPlan p_2)] (fun rs => rs = [(.i .i64 r_3)]) := by
 refine PC.of_tr (cx := ⟨17, none, lay, 0⟩) layOK func14 rfl rfl rfl rfl rfl (by simp [f14]) ?_
 unfold M227 at h
 refine sg ?_
 conv=>whnf
 refine Tr.seq ?_
 refine sg ?_
 conv=>whnf
 obtain ⟨r_4, hc5, h⟩ := bS h
 refine PC.ecall (P190 q_1 r_4 hc5) (fun rs hrs => ?_)
 subst hrs
 conv=>whnf
 refine Tr.cond ?_
 conv=>whnf
 refine cB h (fun hb6 h => ?_) (fun hb6 h => ?_)
 ·refine sg ?_
  conv=>whnf
  refine Tr.ret ?_
  conv=>whnf
  cases h
  rfl
 refine Tr.skip ?_
 conv=>whnf
 refine Tr.seq ?_
 refine sg ?_
 conv=>whnf
 obtain ⟨r_7, hc8, h⟩ := bS h
 refine PC.ecall (P193 1000 p_2 r_7 hc8) (fun rs hrs => ?_)
 subst hrs
 conv=>whnf
 refine cB h (fun hb9 h => ?_) (fun hb9 h => ?_)
 ·conv=>whnf
  refine Tr.cond ?_
  conv=>whnf
  refine sg ?_
  conv=>whnf
  refine Tr.ret ?_
  conv=>whnf
  cases h
  rfl
 conv=>whnf
 obtain ⟨r_10, hc11, h⟩ := bS h
 refine PC.ecall_lend ?_ ⟨_, _, func35, rfl, rfl⟩
 conv=>whnf
 refine ⟨_, P226 1000 q_1 p_2 ((([] : List Int))) r_10 hc11, fun rs hrs => ?_⟩
 subst hrs
 refine ⟨rfl, ?_⟩
 conv=>whnf
 refine Tr.cond ?_
 conv=>whnf
 refine cB h (fun hb12 h => ?_) (fun hb12 h => ?_)
 ·refine sg ?_
  conv=>whnf
  refine Tr.ret ?_
  conv=>whnf
  cases h
  rfl
 refine Tr.skip ?_
 conv=>whnf
 refine sg ?_
 conv=>whnf
 refine Tr.ret ?_
 conv=>whnf
 cases h
 rfl
theorem P228 (q_1 : TQuestion) (p_2 : TPlan) (r_3 : Bool) (h : M228 q_1 p_2 = some r_3) :
    PC prog 3 [(eTQuestion q_1), (eTPlan p_2)] (fun rs => rs = [(.b r_3)]) := by
 refine PC.of_tr (cx := ⟨18, none, lay, 0⟩) layOK func3 rfl rfl rfl rfl rfl (by simp [f3]) ?_
 unfold M228 at h
 refine sg ?_
 conv=>whnf
 refine Tr.seq ?_
 refine sg ?_
 conv=>whnf
 obtain ⟨r_4, hc5, h⟩ := bS h
 refine PC.ecall (P131 r_4 hc5) (fun rs hrs => ?_)
 subst hrs
 conv=>whnf
 refine Tr.cond ?_
 conv=>whnf
 refine cB h (fun hb6 h => ?_) (fun hb6 h => ?_)
 ·refine sg ?_
  conv=>whnf
  refine Tr.ret ?_
  conv=>whnf
  cases h
  rfl
 refine Tr.skip ?_
 conv=>whnf
 refine Tr.seq ?_
 refine sg ?_
 conv=>whnf
 obtain ⟨r_7, hc8, h⟩ := bS h
 refine PC.ecall (P144 q_1 p_2 r_7 hc8) (fun rs hrs => ?_)
 subst hrs
 conv=>whnf
 refine Tr.cond ?_
 conv=>whnf
 refine cB h (fun hb9 h => ?_) (fun hb9 h => ?_)
 ·refine sg ?_
  conv=>whnf
  refine Tr.ret ?_
  conv=>whnf
  cases h
  rfl
 refine Tr.skip ?_
 conv=>whnf
 refine sd [] [(0,3),(1,4),(2,1),(3,3),(4,4),(5,1),(6,1),(7,1)] ?_
 conv=>whnf
 refine q2 ?_
 conv=>whnf
 refine q2 ?_
 conv=>whnf
 obtain ⟨r_10, hc11, h⟩ := bS h
 refine q1 ?_ (fun _ => pe (P130 q_1 p_2 r_10 hc11) rr)
 conv=>whnf
 refine q2 ?_
 conv=>whnf
 refine q2 ?_
 conv=>whnf
 obtain ⟨r_12, hc13, h⟩ := bS h
 refine q1 ?_ (fun _ => pe (P227 q_1 p_2 r_12 hc13) rr)
 conv=>whnf
 refine q1 ?_
 conv=>whnf
 refine q1 ?_
 conv=>whnf
 refine Tr.ret ?_
 conv=>whnf
 cases h
 rfl
end Go.Proofs.Try
