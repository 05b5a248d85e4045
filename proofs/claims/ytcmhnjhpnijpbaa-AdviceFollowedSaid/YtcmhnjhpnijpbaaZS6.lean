/- Contracts of functions, by program (gen.py). No condition. -/
import Derived.Test.YtcmhnjhpnijpbaaZL
import Derived.Test.YtcmhnjhpnijpbaaZM
import Derived.Test.YtcmhnjhpnijpbaaZCB
import Derived.Test.YtcmhnjhpnijpbaaZS5
namespace Go.Proofs.Try
open Go Go.Abs Go.Stop
set_option maxRecDepth 8000
set_option linter.unusedVariables false
set_option linter.unusedSimpArgs false
theorem P138 (f_1 : TField) (r_2 : Bool) (h : M138 f_1 = some r_2) :
    PC prog 28 [(eTField f_1)] (fun rs => rs = [(.b r_2)]) := by
 refine PC.of_tr (cx := ⟨83, none, lay, 0⟩) layOK func28 rfl rfl rfl rfl rfl (by simp [f28]) ?_
 unfold M138 at h
 refine sg ?_
 conv=>whnf
 refine Tr.seq ?_
 refine sg ?_
 conv=>whnf
 refine Tr.cutQ (α := Unit) (fun s => ([(1, .pt 0 0), (2, .d (.b false))], [some (.var [.d (.ls (List.map eTSegment f_1.Clocks.Segments)), .d (.ls (List.map (eL eI) f_1.Clocks.Far)), .d (.ls (List.map eTPair f_1.Pairs)), .d (.ls (List.map eTRunner f_1.Runners))])])) (fun s => M137 f_1 s = some r_2) ?_ ?_
 ·refine Tr.block ?_
  refine Tr.loopM (σ := Int) (fun n s => M134 f_1 (M137 f_1) n s) r_2 (fun s => ([(1, .pt 0 0), (2, .d (.b false)), (3, (dI s))], [some (.var [.d (.ls (List.map eTSegment f_1.Clocks.Segments)), .d (.ls (List.map (eL eI) f_1.Clocks.Far)), .d (.ls (List.map eTPair f_1.Pairs)), .d (.ls (List.map eTRunner f_1.Runners))])])) (((((f_1.Runners).length : Int)) - 0 : Int).toNat + 1) (0) h (fun s => rfl) (Wk.mk2 [0] 1 rfl rfl (by decide) rfl ⟨rr, trivial⟩ ⟨rr, rr, rr, trivial⟩) ?_
  clear h
  rintro n_5 i_4 h
  replace h : M134 f_1 (M137 f_1) (n_5 + 1) i_4 = some r_2 := h
  rw [M134] at h
  refine Tr.seq ?_
  refine sg ?_
  conv=>whnf
  refine lnS_map ?_
  conv=>whnf
  refine Tr.cond ?_
  conv=>whnf
  refine cB h (fun hb8 h => ?_) (fun hb8 h => ?_)
  ·refine Tr.skip ?_
   conv=>whnf
   refine Tr.seq ?_
   refine Tr.block ?_
   refine sg ?_
   conv=>whnf
   obtain ⟨x_9, hx_9, h⟩ := bS h
   refine ixP_of hx_9 ?_
   conv=>whnf
   refine Tr.seq ?_
   refine sg ?_
   conv=>whnf
   refine lnS_map ?_
   conv=>whnf
   refine cB h (fun hb10 h => ?_) (fun hb10 h => ?_)
   ·conv=>whnf
    refine Tr.cond ?_
    conv=>whnf
    refine sg ?_
    conv=>whnf
    refine Tr.ret ?_
    conv=>whnf
    cases h
    rfl
   conv=>whnf
   refine lnS_map ?_
   conv=>whnf
   refine Tr.cond ?_
   conv=>whnf
   refine cB h (fun hb11 h => ?_) (fun hb11 h => ?_)
   ·refine sg ?_
    conv=>whnf
    refine Tr.ret ?_
    conv=>whnf
    cases h
    rfl
   refine Tr.skip ?_
   conv=>whnf
   refine sg ?_
   conv=>whnf
   refine Tr.cutQ (α := Unit) (fun s => ([(1, .pt 0 0), (2, .d (.b false)), (3, (dI i_4))], [some (.var [.d (.ls (List.map eTSegment f_1.Clocks.Segments)), .d (.ls (List.map (eL eI) f_1.Clocks.Far)), .d (.ls (List.map eTPair f_1.Pairs)), .d (.ls (List.map eTRunner f_1.Runners))])])) (fun s => M133 i_4 (M134 f_1 (M137 f_1) n_5) s = some r_2) ?_ ?_
   ·refine Tr.block ?_
    refine Tr.loopM (σ := Int) (fun n s => M132 x_9 (M133 i_4 (M134 f_1 (M137 f_1) n_5)) n s) r_2 (fun s => ([(1, .pt 0 0), (2, .d (.b false)), (3, (dI i_4)), (4, .pt 1 0), (5, (dI s))], [some (.var [.d (.ls (List.map eTSegment f_1.Clocks.Segments)), .d (.ls (List.map (eL eI) f_1.Clocks.Far)), .d (.ls (List.map eTPair f_1.Pairs)), .d (.ls (List.map eTRunner f_1.Runners))]), some (.var [(dI x_9.Bib), .d (.ls (List.map eI x_9.Keys)), .d (.ls (List.map (eL eTOutcome) x_9.Worlds))])])) (((((x_9.Worlds).length : Int)) - 0 : Int).toNat + 1) (0) h (fun s => rfl) (Wk.mk2 [0, 1] 2 rfl rfl (by decide) rfl ⟨rr, rr, trivial⟩ ⟨rr, rr, rr, rr, rr, trivial⟩) ?_
    clear h
    rintro n_14 w_13 h
    replace h : M132 x_9 (M133 i_4 (M134 f_1 (M137 f_1) n_5)) (n_14 + 1) w_13 = some r_2 := h
    rw [M132] at h
    refine Tr.seq ?_
    refine sg ?_
    conv=>whnf
    refine lnS_map ?_
    conv=>whnf
    refine Tr.cond ?_
    conv=>whnf
    refine cB h (fun hb17 h => ?_) (fun hb17 h => ?_)
    ·refine Tr.skip ?_
     conv=>whnf
     refine Tr.seq ?_
     refine Tr.block ?_
     refine sg ?_
     conv=>whnf
     obtain ⟨x_18, hx_18, h⟩ := bS h
     refine ixP_of hx_18 ?_
     conv=>whnf
     refine lnS_map ?_
     conv=>whnf
     refine Tr.cond ?_
     conv=>whnf
     refine cB h (fun hb19 h => ?_) (fun hb19 h => ?_)
     ·refine sg ?_
      conv=>whnf
      refine Tr.ret ?_
      conv=>whnf
      cases h
      rfl
     refine Tr.skip ?_
     conv=>whnf
     refine rg ?_
     conv=>whnf
     refine arS_raw ?_
     conv=>whnf
     refine ⟨((w64 (w_13 + 1))), h, ?_⟩
     exact Wk.mk2 [0, 1] 2 rfl rfl (by decide) rfl ⟨rr, rr, trivial⟩ ⟨rr, rr, rr, rr, rr, trivial⟩
    refine Tr.exit ?_
    conv=>whnf
    refine ⟨(), h, ?_⟩
    exact Wk.mk2 [0] 2 rfl rfl (by decide) rfl ⟨rr, trivial⟩ ⟨rr, rr, rr, trivial⟩
   clear h
   rintro _ h T1 H1 hw
   replace h : M133 i_4 (M134 f_1 (M137 f_1) n_5) () = some r_2 := h
   conv=>whnf
   refine Tr.weak hw ?_
   unfold M133 at h
   refine rg ?_
   conv=>whnf
   refine arS_raw ?_
   conv=>whnf
   refine ⟨((w64 (i_4 + 1))), h, ?_⟩
   exact Wk.mk2 [0] 1 rfl rfl (by decide) rfl ⟨rr, trivial⟩ ⟨rr, rr, rr, trivial⟩
  refine Tr.exit ?_
  conv=>whnf
  refine ⟨(), h, ?_⟩
  exact Wk.mk2 [0] 1 rfl rfl (by decide) rfl ⟨rr, trivial⟩ ⟨rr, rr, trivial⟩
 clear h
 rintro _ h T1 H1 hw
 replace h : M137 f_1 () = some r_2 := h
 conv=>whnf
 refine Tr.weak hw ?_
 unfold M137 at h
 refine Tr.seq ?_
 refine sg ?_
 conv=>whnf
 refine Tr.cutQ (α := Unit) (fun s => ([(1, .pt 0 0), (2, .d (.b false))], [some (.var [.d (.ls (List.map eTSegment f_1.Clocks.Segments)), .d (.ls (List.map (eL eI) f_1.Clocks.Far)), .d (.ls (List.map eTPair f_1.Pairs)), .d (.ls (List.map eTRunner f_1.Runners))])])) (fun s => M136 f_1 s = some r_2) ?_ ?_
 ·refine Tr.block ?_
  refine Tr.loopM (σ := Int) (fun n s => M135 f_1 (M136 f_1) n s) r_2 (fun s => ([(1, .pt 0 0), (2, .d (.b false)), (6, (dI s))], [some (.var [.d (.ls (List.map eTSegment f_1.Clocks.Segments)), .d (.ls (List.map (eL eI) f_1.Clocks.Far)), .d (.ls (List.map eTPair f_1.Pairs)), .d (.ls (List.map eTRunner f_1.Runners))])])) (((((f_1.Clocks.Far).length : Int)) - 0 : Int).toNat + 1) (0) h (fun s => rfl) (Wk.mk2 [0] 1 rfl rfl (by decide) rfl ⟨rr, trivial⟩ ⟨rr, rr, rr, trivial⟩) ?_
  clear h
  rintro n_22 i_21 h
  replace h : M135 f_1 (M136 f_1) (n_22 + 1) i_21 = some r_2 := h
  rw [M135] at h
  refine Tr.seq ?_
  refine sg ?_
  conv=>whnf
  refine lnS_map ?_
  conv=>whnf
  refine Tr.cond ?_
  conv=>whnf
  refine cB h (fun hb25 h => ?_) (fun hb25 h => ?_)
  ·refine Tr.skip ?_
   conv=>whnf
   refine Tr.seq ?_
   refine Tr.block ?_
   refine sg ?_
   conv=>whnf
   obtain ⟨x_26, hx_26, h⟩ := bS h
   refine ixP_of hx_26 ?_
   conv=>whnf
   refine lnS_map ?_
   conv=>whnf
   refine Tr.cond ?_
   conv=>whnf
   refine cB h (fun hb27 h => ?_) (fun hb27 h => ?_)
   ·refine sg ?_
    conv=>whnf
    refine Tr.ret ?_
    conv=>whnf
    cases h
    rfl
   refine Tr.skip ?_
   conv=>whnf
   refine rg ?_
   conv=>whnf
   refine arS_raw ?_
   conv=>whnf
   refine ⟨((w64 (i_21 + 1))), h, ?_⟩
   exact Wk.mk2 [0] 1 rfl rfl (by decide) rfl ⟨rr, trivial⟩ ⟨rr, rr, rr, trivial⟩
  refine Tr.exit ?_
  conv=>whnf
  refine ⟨(), h, ?_⟩
  exact Wk.mk2 [0] 1 rfl rfl (by decide) rfl ⟨rr, trivial⟩ ⟨rr, rr, trivial⟩
 clear h
 rintro _ h T1 H1 hw
 replace h : M136 f_1 () = some r_2 := h
 conv=>whnf
 refine Tr.weak hw ?_
 unfold M136 at h
 refine Tr.seq ?_
 refine Tr.cutQ1 ([(2, .d (.b ((decide ((((f_1.Runners).length : Int)) ≤ 6)) && ((decide ((((f_1.Pairs).length : Int)) ≤ 3)) && ((decide ((((f_1.Clocks.Segments).length : Int)) ≤ 4)) && (decide ((((f_1.Clocks.Far).length : Int)) ≤ 6)))))))]) ([]) ?_ (fun T1 H1 hw => ?_)
 ·refine rg ?_
  conv=>whnf
  refine lnS_map ?_
  conv=>whnf
  refine condS_mk (fun hb29 => ?_) (fun hb29 => ?_)
  ·conv=>whnf
   refine lnS_map ?_
   conv=>whnf
   refine condS_mk (fun hb30 => ?_) (fun hb30 => ?_)
   ·conv=>whnf
    refine lnS_map ?_
    conv=>whnf
    refine condS_mk (fun hb31 => ?_) (fun hb31 => ?_)
    ·conv=>whnf
     refine lnS_map ?_
     conv=>whnf
     exact Wk.mk2 [] 1 rfl rfl (by decide) rfl trivial ⟨⟨rfl, (by first | rfl | (simp only [↓hb29, ↓hb30, ↓hb31, bl, List.length_set]; done) | (simp only [↓hb29, ↓hb30, ↓hb31, bl, List.length_set]; rfl))⟩, trivial⟩
    conv=>whnf
    exact Wk.mk2 [] 1 rfl rfl (by decide) rfl trivial ⟨⟨rfl, (by first | rfl | (simp only [↓hb29, ↓hb30, ↓hb31, bl, List.length_set]; done) | (simp only [↓hb29, ↓hb30, ↓hb31, bl, List.length_set]; rfl))⟩, trivial⟩
   conv=>whnf
   exact Wk.mk2 [] 1 rfl rfl (by decide) rfl trivial ⟨⟨rfl, (by first | rfl | (simp only [↓hb29, ↓hb30, bl, List.length_set]; done) | (simp only [↓hb29, ↓hb30, bl, List.length_set]; rfl))⟩, trivial⟩
  conv=>whnf
  exact Wk.mk2 [] 1 rfl rfl (by decide) rfl trivial ⟨⟨rfl, (by first | rfl | (simp only [↓hb29, bl, List.length_set]; done) | (simp only [↓hb29, bl, List.length_set]; rfl))⟩, trivial⟩
 conv=>whnf
 refine Tr.weak hw ?_
 refine Tr.ret ?_
 conv=>whnf
 cases h
 rfl
theorem P140 (rc_9063 : TPlan → Int → Option (Int)) (ih_9063 : ∀ (p_1 : TPlan) (depth_2 : Int) (r_3 : Int), rc_9063 p_1 depth_2 = some r_3 → PC prog 29 [(eTPlan p_1), (.i .i64 depth_2)] (fun rs => rs = [(.i .i64 r_3)])) (p_1 : TPlan) (depth_2 : Int) (r_3 : Int) (h : M140 rc_9063 p_1 depth_2 = some r_3) :
    PC prog 29 [(eTPlan p_1), (.i .i64 depth_2)] (fun rs => rs = [(.i .i64 r_3)]) := by
 refine PC.of_tr (cx := ⟨31, none, lay, 0⟩) layOK func29 rfl rfl rfl rfl rfl (by simp [f29]) ?_
 unfold M140 at h
 refine sg ?_
 conv=>whnf
 refine Tr.seq ?_
 refine sg ?_
 conv=>whnf
 refine Tr.cond ?_
 conv=>whnf
 refine cB h (fun hb4 h => ?_) (fun hb4 h => ?_)
 ·refine sg ?_
  conv=>whnf
  refine Tr.ret ?_
  conv=>whnf
  cases h
  rfl
 refine Tr.skip ?_
 conv=>whnf
 refine sg ?_
 conv=>whnf
 refine Tr.seq ?_
 refine sg ?_
 conv=>whnf
 obtain ⟨n_10, hv19, h⟩ := bS h
 refine Tr.cutQ1 ([(4, (dI 0)), (5, (dI n_10))]) ([]) ?_ (fun T1 H1 hw => ?_)
 ·replace h := hv19; clear hv19
  refine Tr.block ?_
  refine Tr.loopM (σ := Int × Int) (fun n s => M139 p_1 depth_2 rc_9063 n s.1 s.2) n_10 (fun s => ([(1, (dI depth_2)), (2, .pt 0 0), (4, (dI 0)), (5, (dI s.1)), (6, (dI s.2))], [some (.var [(dI p_1.Look), .d (.ls (List.map eTPlan0 p_1.After))])])) (((((p_1.After).length : Int)) - 0 : Int).toNat + 1) (1, 0) h (fun s => rfl) (Wk.mk2 [0] 1 rfl rfl (by decide) rfl ⟨rr, trivial⟩ ⟨rr, rr, rr, rr, rr, trivial⟩) ?_
  clear h
  rintro n_9 ⟨n_7, i_8⟩ h
  replace h : M139 p_1 depth_2 rc_9063 (n_9 + 1) n_7 i_8 = some n_10 := h
  rw [M139] at h
  refine Tr.seq ?_
  refine sg ?_
  conv=>whnf
  refine lnS_map ?_
  conv=>whnf
  refine cB h (fun hb13 h => ?_) (fun hb13 h => ?_)
  ·conv=>whnf
   refine Tr.cond ?_
   conv=>whnf
   refine cB h (fun hb14 h => ?_) (fun hb14 h => ?_)
   ·refine Tr.skip ?_
    conv=>whnf
    refine Tr.seq ?_
    refine Tr.block ?_
    refine rg ?_
    conv=>whnf
    obtain ⟨x_15, hx_15, h⟩ := bS h
    obtain ⟨p_16, hp_16, h⟩ := bS h
    rw [uTPlan_eq hp_16] at hx_15
    refine ixP_of hx_15 ?_
    conv=>whnf
    refine arS_raw ?_
    conv=>whnf
    obtain ⟨r_17, hc18, h⟩ := bS h
    refine PC.ecall (ih_9063 p_16 ((w64 (depth_2 + 1))) r_17 hc18) (fun rs hrs => ?_)
    subst hrs
    conv=>whnf
    refine arS_raw ?_
    conv=>whnf
    refine rg ?_
    conv=>whnf
    refine arS_raw ?_
    conv=>whnf
    refine ⟨((w64 (n_7 + r_17)), (w64 (i_8 + 1))), h, ?_⟩
    exact Wk.mk2 [0] 1 rfl rfl (by decide) rfl ⟨rr, trivial⟩ ⟨rr, rr, rr, rr, rr, trivial⟩
   refine Tr.exit ?_
   conv=>whnf
   cases h
   exact Wk.mk2 [] 1 rfl rfl (by decide) rfl trivial ⟨rr, rr, trivial⟩
  conv=>whnf
  refine Tr.cond ?_
  conv=>whnf
  refine Tr.exit ?_
  conv=>whnf
  cases h
  exact Wk.mk2 [] 1 rfl rfl (by decide) rfl trivial ⟨rr, rr, trivial⟩
 clear hv19
 conv=>whnf
 refine Tr.weak hw ?_
 refine sg ?_
 conv=>whnf
 refine Tr.ret ?_
 conv=>whnf
 cases h
 rfl
theorem P141 (n : Nat) : ∀ (p_1 : TPlan) (depth_2 : Int) (r_3 : Int), M141 n p_1 depth_2 = some r_3 → PC prog 29 [(eTPlan p_1), (.i .i64 depth_2)] (fun rs => rs = [(.i .i64 r_3)]) := by
  induction n with
  | zero =>
    intros
    rename_i h
    cases h
  | succ n ih => exact P140 (M141 n) ih
theorem P144 (q_1 : TQuestion) (p_2 : TPlan) (r_3 : Bool) (h : M144 q_1 p_2 = some r_3) :
    PC prog 12 [(eTQuestion q_1), (eTPlan p_2)] (fun rs => rs = [(.b r_3)]) := by
 refine PC.of_tr (cx := ⟨35, none, lay, 0⟩) layOK func12 rfl rfl rfl rfl rfl (by simp [f12]) ?_
 unfold M144 at h
 refine sg ?_
 conv=>whnf
 refine Tr.seq ?_
 refine sg ?_
 conv=>whnf
 refine Tr.cutQ (α := Unit) (fun s => ([(2, .pt 0 0), (3, .pt 1 0), (4, .d (.b false))], [some (.var [.d (.ls (List.map eTSegment q_1.Field.Clocks.Segments)), .d (.ls (List.map (eL eI) q_1.Field.Clocks.Far)), .d (.ls (List.map eTPair q_1.Field.Pairs)), .d (.ls (List.map eTRunner q_1.Field.Runners)), (dI q_1.Runner), .d (.ls (List.map eTLook q_1.Looks))]), some (.var [(dI p_2.Look), .d (.ls (List.map eTPlan0 p_2.After))])])) (fun s => M143 q_1 p_2 s = some r_3) ?_ ?_
 ·refine Tr.block ?_
  refine Tr.loopM (σ := Int) (fun n s => M142 q_1 (M143 q_1 p_2) n s) r_3 (fun s => ([(2, .pt 0 0), (3, .pt 1 0), (4, .d (.b false)), (5, (dI s))], [some (.var [.d (.ls (List.map eTSegment q_1.Field.Clocks.Segments)), .d (.ls (List.map (eL eI) q_1.Field.Clocks.Far)), .d (.ls (List.map eTPair q_1.Field.Pairs)), .d (.ls (List.map eTRunner q_1.Field.Runners)), (dI q_1.Runner), .d (.ls (List.map eTLook q_1.Looks))]), some (.var [(dI p_2.Look), .d (.ls (List.map eTPlan0 p_2.After))])])) (((((q_1.Looks).length : Int)) - 0 : Int).toNat + 1) (0) h (fun s => rfl) (Wk.mk2 [0, 1] 2 rfl rfl (by decide) rfl ⟨rr, rr, trivial⟩ ⟨rr, rr, rr, rr, trivial⟩) ?_
  clear h
  rintro n_6 i_5 h
  replace h : M142 q_1 (M143 q_1 p_2) (n_6 + 1) i_5 = some r_3 := h
  rw [M142] at h
  refine Tr.seq ?_
  refine sg ?_
  conv=>whnf
  refine lnS_map ?_
  conv=>whnf
  refine Tr.cond ?_
  conv=>whnf
  refine cB h (fun hb9 h => ?_) (fun hb9 h => ?_)
  ·refine Tr.skip ?_
   conv=>whnf
   refine Tr.seq ?_
   refine Tr.block ?_
   refine sg ?_
   conv=>whnf
   obtain ⟨x_10, hx_10, h⟩ := bS h
   refine ixP_of hx_10 ?_
   conv=>whnf
   refine lnS_map ?_
   conv=>whnf
   refine Tr.cond ?_
   conv=>whnf
   refine cB h (fun hb11 h => ?_) (fun hb11 h => ?_)
   ·refine sg ?_
    conv=>whnf
    refine Tr.ret ?_
    conv=>whnf
    cases h
    rfl
   refine Tr.skip ?_
   conv=>whnf
   refine rg ?_
   conv=>whnf
   refine arS_raw ?_
   conv=>whnf
   refine ⟨((w64 (i_5 + 1))), h, ?_⟩
   exact Wk.mk2 [0, 1] 2 rfl rfl (by decide) rfl ⟨rr, rr, trivial⟩ ⟨rr, rr, rr, rr, trivial⟩
  refine Tr.exit ?_
  conv=>whnf
  refine ⟨(), h, ?_⟩
  exact Wk.mk2 [0, 1] 2 rfl rfl (by decide) rfl ⟨rr, rr, trivial⟩ ⟨rr, rr, rr, trivial⟩
 clear h
 rintro _ h T1 H1 hw
 replace h : M143 q_1 p_2 () = some r_3 := h
 conv=>whnf
 refine Tr.weak hw ?_
 unfold M143 at h
 refine sg ?_
 conv=>whnf
 obtain ⟨r_12, hc13, h⟩ := bS h
 refine PC.ecall (P138 q_1.Field r_12 hc13) (fun rs hrs => ?_)
 subst hrs
 conv=>whnf
 refine cB h (fun hb14 h => ?_) (fun hb14 h => ?_)
 ·conv=>whnf
  refine lnS_map ?_
  conv=>whnf
  refine cB h (fun hb15 h => ?_) (fun hb15 h => ?_)
  ·conv=>whnf
   obtain ⟨r_16, hc17, h⟩ := bS h
   refine PC.ecall (P141 1000 p_2 0 r_16 hc17) (fun rs hrs => ?_)
   subst hrs
   conv=>whnf
   refine Tr.ret ?_
   conv=>whnf
   cases h
   rfl
  conv=>whnf
  refine Tr.ret ?_
  conv=>whnf
  cases h
  rfl
 conv=>whnf
 refine Tr.ret ?_
 conv=>whnf
 cases h
 rfl
theorem P145 (n_1 : Int) (r_2 : Bool) (h : M145 n_1 = some r_2) :
    PC prog 82 [(.i .i64 n_1)] (fun rs => rs = [(.b r_2)]) := by
 refine PC.of_tr (cx := ⟨9, none, lay, 0⟩) layOK func82 rfl rfl rfl rfl rfl (by simp [f82]) ?_
 unfold M145 at h
 refine sg ?_
 conv=>whnf
 refine sg ?_
 conv=>whnf
 refine cB h (fun hb3 h => ?_) (fun hb3 h => ?_)
 ·conv=>whnf
  refine Tr.ret ?_
  conv=>whnf
  cases h
  rfl
 conv=>whnf
 refine Tr.ret ?_
 conv=>whnf
 cases h
 rfl
theorem P146 (a_1 : TSegment) (b_2 : TSegment) (r_3 : Bool) (h : M146 a_1 b_2 = some r_3) :
    PC prog 83 [(eTSegment a_1), (eTSegment b_2)] (fun rs => rs = [(.b r_3)]) := by
 refine PC.of_tr (cx := ⟨24, none, lay, 0⟩) layOK func83 rfl rfl rfl rfl rfl (by simp [f83]) ?_
 unfold M146 at h
 refine sg ?_
 conv=>whnf
 refine sg ?_
 conv=>whnf
 refine cB h (fun hb4 h => ?_) (fun hb4 h => ?_)
 ·conv=>whnf
  refine Tr.ret ?_
  conv=>whnf
  cases h
  rfl
 conv=>whnf
 refine cB h (fun hb5 h => ?_) (fun hb5 h => ?_)
 ·conv=>whnf
  refine Tr.ret ?_
  conv=>whnf
  cases h
  rfl
 conv=>whnf
 refine Tr.ret ?_
 conv=>whnf
 cases h
 rfl
theorem P159 (k_1 : TClocks) (r_2 : Int) (h : M159 k_1 = some r_2) :
    PC prog 62 [(eTClocks k_1)] (fun rs => rs = [(.i .i64 r_2)]) := by
 refine PC.of_tr (cx := ⟨164, none, lay, 0⟩) layOK func62 rfl rfl rfl rfl rfl (by simp [f62]) ?_
 unfold M159 at h
 refine sg ?_
 conv=>whnf
 refine sg ?_
 conv=>whnf
 refine lnS_map ?_
 conv=>whnf
 refine Tr.seq ?_
 refine sg ?_
 conv=>whnf
 refine cB h (fun hb3 h => ?_) (fun hb3 h => ?_)
 ·conv=>whnf
  refine Tr.cond ?_
  conv=>whnf
  refine sg ?_
  conv=>whnf
  refine Tr.ret ?_
  conv=>whnf
  cases h
  rfl
 conv=>whnf
 refine lnS_map ?_
 conv=>whnf
 refine arS_raw ?_
 conv=>whnf
 refine Tr.cond ?_
 conv=>whnf
 refine cB h (fun hb4 h => ?_) (fun hb4 h => ?_)
 ·refine sg ?_
  conv=>whnf
  refine Tr.ret ?_
  conv=>whnf
  cases h
  rfl
 refine Tr.skip ?_
 conv=>whnf
 refine Tr.seq ?_
 refine sg ?_
 conv=>whnf
 refine Tr.cutQ (α := Unit) (fun s => ([(1, .pt 0 0), (2, (dI 0)), (3, (dI (((k_1.Segments).length : Int))))], [some (.var [.d (.ls (List.map eTSegment k_1.Segments)), .d (.ls (List.map (eL eI) k_1.Far))])])) (fun s => M158 k_1 s = some r_2) ?_ ?_
 ·refine Tr.block ?_
  refine Tr.loopM (σ := Int) (fun n s => M147 k_1 (M158 k_1) n s) r_2 (fun s => ([(1, .pt 0 0), (2, (dI 0)), (3, (dI (((k_1.Segments).length : Int)))), (4, (dI s))], [some (.var [.d (.ls (List.map eTSegment k_1.Segments)), .d (.ls (List.map (eL eI) k_1.Far))])])) (((((k_1.Segments).length : Int)) - 0 : Int).toNat + 1) (0) h (fun s => rfl) (Wk.mk2 [0] 1 rfl rfl (by decide) rfl ⟨rr, trivial⟩ ⟨rr, rr, rr, rr, trivial⟩) ?_
  clear h
  rintro n_7 i_6 h
  replace h : M147 k_1 (M158 k_1) (n_7 + 1) i_6 = some r_2 := h
  rw [M147] at h
  refine Tr.seq ?_
  refine sg ?_
  conv=>whnf
  refine Tr.cond ?_
  conv=>whnf
  refine cB h (fun hb10 h => ?_) (fun hb10 h => ?_)
  ·refine Tr.skip ?_
   conv=>whnf
   refine Tr.seq ?_
   refine Tr.block ?_
   refine sg ?_
   conv=>whnf
   obtain ⟨x_11, hx_11, h⟩ := bS h
   refine ixP_of hx_11 ?_
   conv=>whnf
   refine Tr.seq ?_
   obtain ⟨v_12, hv13, h⟩ := bS h
   refine Tr.cutQ1 ([(1, .pt 0 0), (2, (dI 0)), (3, (dI (((k_1.Segments).length : Int)))), (4, (dI i_6)), (72, .d (.b v_12))]) ([some (.var [.d (.ls (List.map eTSegment k_1.Segments)), .d (.ls (List.map (eL eI) k_1.Far))])]) ?_ (fun T1 H1 hw => ?_)
   ·replace h := hv13; clear hv13
    refine dq [] [(0,4),(1,4),(2,1),(3,1),(4,4),(5,4),(6,1),(7,1),(8,1),(9,4),(10,4),(11,1),(12,1),(13,1),(14,4),(15,4),(16,1),(17,1),(18,1),(19,4),(20,4),(21,1),(22,1),(23,1),(24,1),(25,1),(26,1),(27,1),(28,3),(29,3),(30,1),(31,1),(32,2),(33,2),(34,4),(35,1),(36,1),(37,1),(38,1)] ?_
    conv=>whnf
    refine q2 ?_
    conv=>whnf
    refine q2 ?_
    conv=>whnf
    refine q1 ?_
    conv=>whnf
    refine q1 ?_
    conv=>whnf
    refine cB h (fun hb14 h => ?_) (fun hb14 h => ?_)
    ·conv=>whnf
     refine q1 ?_
     conv=>whnf
     refine q1 ?_
     conv=>whnf
     refine q1 ?_
     conv=>whnf
     refine q1 ?_
     conv=>whnf
     refine q1 ?_
     conv=>whnf
     refine q1 ?_
     conv=>whnf
     refine q1 ?_
     conv=>whnf
     refine q1 ?_
     conv=>whnf
     refine q1 ?_
     conv=>whnf
     cases h
     exact Wk.mk2 [0] 2 rfl rfl (by decide) rfl ⟨rr, trivial⟩ ⟨rr, rr, rr, rr, rr, trivial⟩
    conv=>whnf
    refine q2 ?_
    conv=>whnf
    refine q2 ?_
    conv=>whnf
    refine q1 ?_
    conv=>whnf
    refine q1 ?_
    conv=>whnf
    refine q1 ?_
    conv=>whnf
    refine cB h (fun hb15 h => ?_) (fun hb15 h => ?_)
    ·conv=>whnf
     refine q1 ?_
     conv=>whnf
     refine q1 ?_
     conv=>whnf
     refine q1 ?_
     conv=>whnf
     refine q1 ?_
     conv=>whnf
     refine q1 ?_
     conv=>whnf
     refine q1 ?_
     conv=>whnf
     refine q1 ?_
     conv=>whnf
     cases h
     exact Wk.mk2 [0] 2 rfl rfl (by decide) rfl ⟨rr, trivial⟩ ⟨rr, rr, rr, rr, rr, trivial⟩
    conv=>whnf
    refine q2 ?_
    conv=>whnf
    refine q2 ?_
    conv=>whnf
    refine q1 ?_
    conv=>whnf
    refine q1 ?_
    conv=>whnf
    refine q1 ?_
    conv=>whnf
    refine cB h (fun hb16 h => ?_) (fun hb16 h => ?_)
    ·conv=>whnf
     refine q1 ?_
     conv=>whnf
     refine q1 ?_
     conv=>whnf
     refine q1 ?_
     conv=>whnf
     refine q1 ?_
     conv=>whnf
     refine q1 ?_
     conv=>whnf
     cases h
     exact Wk.mk2 [0] 2 rfl rfl (by decide) rfl ⟨rr, trivial⟩ ⟨rr, rr, rr, rr, rr, trivial⟩
    conv=>whnf
    refine q2 ?_
    conv=>whnf
    refine q2 ?_
    conv=>whnf
    refine q1 ?_
    conv=>whnf
    refine q1 ?_
    conv=>whnf
    refine q1 ?_
    conv=>whnf
    refine cB h (fun hb17 h => ?_) (fun hb17 h => ?_)
    ·conv=>whnf
     refine q1 ?_
     conv=>whnf
     refine q1 ?_
     conv=>whnf
     refine q1 ?_
     conv=>whnf
     cases h
     exact Wk.mk2 [0] 2 rfl rfl (by decide) rfl ⟨rr, trivial⟩ ⟨rr, rr, rr, rr, rr, trivial⟩
    conv=>whnf
    refine q2 ?_
    conv=>whnf
    refine q2 ?_
    conv=>whnf
    obtain ⟨r_18, hc19, h⟩ := bS h
    refine q1 ?_ (fun _ => pe (P145 x_11.Anchor r_18 hc19) rr)
    conv=>whnf
    refine q1 ?_
    conv=>whnf
    refine q1 ?_
    conv=>whnf
    refine q1 ?_
    conv=>whnf
    refine cB h (fun hb20 h => ?_) (fun hb20 h => ?_)
    ·conv=>whnf
     refine q1 ?_
     conv=>whnf
     cases h
     exact Wk.mk2 [0] 2 rfl rfl (by decide) rfl ⟨rr, trivial⟩ ⟨rr, rr, rr, rr, rr, trivial⟩
    conv=>whnf
    refine q1 ?_
    conv=>whnf
    refine q1 ?_
    conv=>whnf
    refine q1 ?_
    conv=>whnf
    refine cB h (fun hb21 h => ?_) (fun hb21 h => ?_)
    ·conv=>whnf
     refine q2 ?_
     conv=>whnf
     refine q2 ?_
     conv=>whnf
     refine q1 ?_
     conv=>whnf
     refine q4 ?_
     conv=>whnf
     obtain ⟨x_22, hx_22, h⟩ := bS h
     refine q3 (ixP_of hx_22 rr) ?_
     conv=>whnf
     refine q2 ?_
     conv=>whnf
     refine q2 ?_
     conv=>whnf
     obtain ⟨r_23, hc24, h⟩ := bS h
     refine q1 ?_ (fun _ => pe (P146 x_22 x_11 r_23 hc24) rr)
     conv=>whnf
     refine q1 ?_
     conv=>whnf
     refine q1 ?_
     conv=>whnf
     refine q1 ?_
     conv=>whnf
     cases h
     exact Wk.mk2 [0] 2 rfl rfl (by decide) rfl ⟨rr, trivial⟩ ⟨rr, rr, rr, rr, rr, trivial⟩
    conv=>whnf
    refine q1 ?_
    conv=>whnf
    refine q1 ?_
    conv=>whnf
    cases h
    exact Wk.mk2 [0] 2 rfl rfl (by decide) rfl ⟨rr, trivial⟩ ⟨rr, rr, rr, rr, rr, trivial⟩
   clear hv13
   conv=>whnf
   refine Tr.weak hw ?_
   refine Tr.cond ?_
   conv=>whnf
   refine cB h (fun hb25 h => ?_) (fun hb25 h => ?_)
   ·refine sg ?_
    conv=>whnf
    refine Tr.ret ?_
    conv=>whnf
    cases h
    rfl
   refine Tr.skip ?_
   conv=>whnf
   refine rg ?_
   conv=>whnf
   refine arS_raw ?_
   conv=>whnf
   refine ⟨((w64 (i_6 + 1))), h, ?_⟩
   exact Wk.mk2 [0] 1 rfl rfl (by decide) rfl ⟨rr, trivial⟩ ⟨rr, rr, rr, rr, trivial⟩
  refine Tr.exit ?_
  conv=>whnf
  refine ⟨(), h, ?_⟩
  exact Wk.mk2 [0] 1 rfl rfl (by decide) rfl ⟨rr, trivial⟩ ⟨rr, rr, rr, trivial⟩
 clear h
 rintro _ h T1 H1 hw
 replace h : M158 k_1 () = some r_2 := h
 conv=>whnf
 refine Tr.weak hw ?_
 unfold M158 at h
 refine Tr.seq ?_
 refine sg ?_
 conv=>whnf
 refine Tr.cutQ (α := Unit) (fun s => ([(1, .pt 0 0), (2, (dI 0)), (3, (dI (((k_1.Segments).length : Int))))], [some (.var [.d (.ls (List.map eTSegment k_1.Segments)), .d (.ls (List.map (eL eI) k_1.Far))])])) (fun s => M157 k_1 s = some r_2) ?_ ?_
 ·refine Tr.block ?_
  refine Tr.loopM (σ := Int) (fun n s => M150 k_1 (M157 k_1) n s) r_2 (fun s => ([(1, .pt 0 0), (2, (dI 0)), (3, (dI (((k_1.Segments).length : Int)))), (6, (dI s))], [some (.var [.d (.ls (List.map eTSegment k_1.Segments)), .d (.ls (List.map (eL eI) k_1.Far))])])) (((((k_1.Segments).length : Int)) + 1 - 0 : Int).toNat + 1) (0) h (fun s => rfl) (Wk.mk2 [0] 1 rfl rfl (by decide) rfl ⟨rr, trivial⟩ ⟨rr, rr, rr, rr, trivial⟩) ?_
  clear h
  rintro n_28 i_27 h
  replace h : M150 k_1 (M157 k_1) (n_28 + 1) i_27 = some r_2 := h
  rw [M150] at h
  refine Tr.seq ?_
  refine sg ?_
  conv=>whnf
  refine Tr.cond ?_
  conv=>whnf
  refine cB h (fun hb31 h => ?_) (fun hb31 h => ?_)
  ·refine Tr.skip ?_
   conv=>whnf
   refine Tr.seq ?_
   refine Tr.block ?_
   refine Tr.seq ?_
   refine sg ?_
   conv=>whnf
   obtain ⟨x_32, hx_32, h⟩ := bS h
   refine ixP_of hx_32 ?_
   conv=>whnf
   refine lnS_map ?_
   conv=>whnf
   refine arS_raw ?_
   conv=>whnf
   refine cB h (fun hb33 h => ?_) (fun hb33 h => ?_)
   ·conv=>whnf
    refine Tr.cond ?_
    conv=>whnf
    refine sg ?_
    conv=>whnf
    refine Tr.ret ?_
    conv=>whnf
    cases h
    rfl
   conv=>whnf
   obtain ⟨x_34, hx_34, h⟩ := bS h
   refine ixP_of hx_34 ?_
   conv=>whnf
   obtain ⟨x_35, hx_35, h⟩ := bS h
   refine ixP_of hx_35 ?_
   conv=>whnf
   refine Tr.cond ?_
   conv=>whnf
   refine cB h (fun hb36 h => ?_) (fun hb36 h => ?_)
   ·refine sg ?_
    conv=>whnf
    refine Tr.ret ?_
    conv=>whnf
    cases h
    rfl
   refine Tr.skip ?_
   conv=>whnf
   refine sg ?_
   conv=>whnf
   refine Tr.cutQ (α := Unit) (fun s => ([(1, .pt 0 0), (2, (dI 0)), (3, (dI (((k_1.Segments).length : Int)))), (6, (dI i_27))], [some (.var [.d (.ls (List.map eTSegment k_1.Segments)), .d (.ls (List.map (eL eI) k_1.Far))])])) (fun s => M149 i_27 (M150 k_1 (M157 k_1) n_28) s = some r_2) ?_ ?_
   ·refine Tr.block ?_
    refine Tr.loopM (σ := Int) (fun n s => M148 k_1 i_27 (M149 i_27 (M150 k_1 (M157 k_1) n_28)) n s) r_2 (fun s => ([(1, .pt 0 0), (2, (dI 0)), (3, (dI (((k_1.Segments).length : Int)))), (6, (dI i_27)), (7, (dI s))], [some (.var [.d (.ls (List.map eTSegment k_1.Segments)), .d (.ls (List.map (eL eI) k_1.Far))])])) (((((k_1.Segments).length : Int)) + 1 - 0 : Int).toNat + 1) (0) h (fun s => rfl) (Wk.mk2 [0] 1 rfl rfl (by decide) rfl ⟨rr, trivial⟩ ⟨rr, rr, rr, rr, rr, trivial⟩) ?_
    clear h
    rintro n_39 j_38 h
    replace h : M148 k_1 i_27 (M149 i_27 (M150 k_1 (M157 k_1) n_28)) (n_39 + 1) j_38 = some r_2 := h
    rw [M148] at h
    refine Tr.seq ?_
    refine sg ?_
    conv=>whnf
    refine Tr.cond ?_
    conv=>whnf
    refine cB h (fun hb42 h => ?_) (fun hb42 h => ?_)
    ·refine Tr.skip ?_
     conv=>whnf
     refine Tr.seq ?_
     refine Tr.block ?_
     refine sg ?_
     conv=>whnf
     obtain ⟨x_43, hx_43, h⟩ := bS h
     refine ixP_of hx_43 ?_
     conv=>whnf
     obtain ⟨x_44, hx_44, h⟩ := bS h
     refine ixP_of hx_44 ?_
     conv=>whnf
     refine cB h (fun hb45 h => ?_) (fun hb45 h => ?_)
     ·conv=>whnf
      refine Tr.cond ?_
      conv=>whnf
      refine sg ?_
      conv=>whnf
      refine Tr.ret ?_
      conv=>whnf
      cases h
      rfl
     conv=>whnf
     obtain ⟨x_46, hx_46, h⟩ := bS h
     refine ixP_of hx_46 ?_
     conv=>whnf
     obtain ⟨x_47, hx_47, h⟩ := bS h
     refine ixP_of hx_47 ?_
     conv=>whnf
     refine Tr.cond ?_
     conv=>whnf
     refine cB h (fun hb48 h => ?_) (fun hb48 h => ?_)
     ·refine sg ?_
      conv=>whnf
      refine Tr.ret ?_
      conv=>whnf
      cases h
      rfl
     refine Tr.skip ?_
     conv=>whnf
     refine rg ?_
     conv=>whnf
     refine arS_raw ?_
     conv=>whnf
     refine ⟨((w64 (j_38 + 1))), h, ?_⟩
     exact Wk.mk2 [0] 1 rfl rfl (by decide) rfl ⟨rr, trivial⟩ ⟨rr, rr, rr, rr, rr, trivial⟩
    refine Tr.exit ?_
    conv=>whnf
    refine ⟨(), h, ?_⟩
    exact Wk.mk2 [0] 1 rfl rfl (by decide) rfl ⟨rr, trivial⟩ ⟨rr, rr, rr, rr, trivial⟩
   clear h
   rintro _ h T1 H1 hw
   replace h : M149 i_27 (M150 k_1 (M157 k_1) n_28) () = some r_2 := h
   conv=>whnf
   refine Tr.weak hw ?_
   unfold M149 at h
   refine rg ?_
   conv=>whnf
   refine arS_raw ?_
   conv=>whnf
   refine ⟨((w64 (i_27 + 1))), h, ?_⟩
   exact Wk.mk2 [0] 1 rfl rfl (by decide) rfl ⟨rr, trivial⟩ ⟨rr, rr, rr, rr, trivial⟩
  refine Tr.exit ?_
  conv=>whnf
  refine ⟨(), h, ?_⟩
  exact Wk.mk2 [0] 1 rfl rfl (by decide) rfl ⟨rr, trivial⟩ ⟨rr, rr, rr, trivial⟩
 clear h
 rintro _ h T1 H1 hw
 replace h : M157 k_1 () = some r_2 := h
 conv=>whnf
 refine Tr.weak hw ?_
 unfold M157 at h
 refine Tr.seq ?_
 refine sg ?_
 conv=>whnf
 refine Tr.cutQ (α := Unit) (fun s => ([(2, (dI 0))], [])) (fun s => M156 s = some r_2) ?_ ?_
 ·refine Tr.block ?_
  refine Tr.loopM (σ := Int) (fun n s => M155 k_1 M156 n s) r_2 (fun s => ([(1, .pt 0 0), (2, (dI 0)), (3, (dI (((k_1.Segments).length : Int)))), (8, (dI s))], [some (.var [.d (.ls (List.map eTSegment k_1.Segments)), .d (.ls (List.map (eL eI) k_1.Far))])])) (((((k_1.Segments).length : Int)) + 1 - 0 : Int).toNat + 1) (0) h (fun s => rfl) (Wk.mk2 [0] 1 rfl rfl (by decide) rfl ⟨rr, trivial⟩ ⟨rr, rr, rr, rr, trivial⟩) ?_
  clear h
  rintro n_51 i_50 h
  replace h : M155 k_1 M156 (n_51 + 1) i_50 = some r_2 := h
  rw [M155] at h
  refine Tr.seq ?_
  refine sg ?_
  conv=>whnf
  refine Tr.cond ?_
  conv=>whnf
  refine cB h (fun hb54 h => ?_) (fun hb54 h => ?_)
  ·refine Tr.skip ?_
   conv=>whnf
   refine Tr.seq ?_
   refine Tr.block ?_
   refine sg ?_
   conv=>whnf
   refine Tr.cutQ (α := Unit) (fun s => ([(1, .pt 0 0), (2, (dI 0)), (3, (dI (((k_1.Segments).length : Int)))), (8, (dI i_50))], [some (.var [.d (.ls (List.map eTSegment k_1.Segments)), .d (.ls (List.map (eL eI) k_1.Far))])])) (fun s => M154 i_50 (M155 k_1 M156 n_51) s = some r_2) ?_ ?_
   ·refine Tr.block ?_
    refine Tr.loopM (σ := Int) (fun n s => M153 k_1 i_50 (M154 i_50 (M155 k_1 M156 n_51)) n s) r_2 (fun s => ([(1, .pt 0 0), (2, (dI 0)), (3, (dI (((k_1.Segments).length : Int)))), (8, (dI i_50)), (9, (dI s))], [some (.var [.d (.ls (List.map eTSegment k_1.Segments)), .d (.ls (List.map (eL eI) k_1.Far))])])) (((((k_1.Segments).length : Int)) + 1 - 0 : Int).toNat + 1) (0) h (fun s => rfl) (Wk.mk2 [0] 1 rfl rfl (by decide) rfl ⟨rr, trivial⟩ ⟨rr, rr, rr, rr, rr, trivial⟩) ?_
    clear h
    rintro n_57 j_56 h
    replace h : M153 k_1 i_50 (M154 i_50 (M155 k_1 M156 n_51)) (n_57 + 1) j_56 = some r_2 := h
    rw [M153] at h
    refine Tr.seq ?_
    refine sg ?_
    conv=>whnf
    refine Tr.cond ?_
    conv=>whnf
    refine cB h (fun hb60 h => ?_) (fun hb60 h => ?_)
    ·refine Tr.skip ?_
     conv=>whnf
     refine Tr.seq ?_
     refine Tr.block ?_
     refine sg ?_
     conv=>whnf
     refine Tr.cutQ (α := Unit) (fun s => ([(1, .pt 0 0), (2, (dI 0)), (3, (dI (((k_1.Segments).length : Int)))), (8, (dI i_50)), (9, (dI j_56))], [some (.var [.d (.ls (List.map eTSegment k_1.Segments)), .d (.ls (List.map (eL eI) k_1.Far))])])) (fun s => M152 j_56 (M153 k_1 i_50 (M154 i_50 (M155 k_1 M156 n_51)) n_57) s = some r_2) ?_ ?_
     ·refine Tr.block ?_
      refine Tr.loopM (σ := Int) (fun n s => M151 k_1 i_50 j_56 (M152 j_56 (M153 k_1 i_50 (M154 i_50 (M155 k_1 M156 n_51)) n_57)) n s) r_2 (fun s => ([(1, .pt 0 0), (2, (dI 0)), (3, (dI (((k_1.Segments).length : Int)))), (8, (dI i_50)), (9, (dI j_56)), (10, (dI s))], [some (.var [.d (.ls (List.map eTSegment k_1.Segments)), .d (.ls (List.map (eL eI) k_1.Far))])])) (((((k_1.Segments).length : Int)) + 1 - 0 : Int).toNat + 1) (0) h (fun s => rfl) (Wk.mk2 [0] 1 rfl rfl (by decide) rfl ⟨rr, trivial⟩ ⟨rr, rr, rr, rr, rr, rr, trivial⟩) ?_
      clear h
      rintro n_63 m_62 h
      replace h : M151 k_1 i_50 j_56 (M152 j_56 (M153 k_1 i_50 (M154 i_50 (M155 k_1 M156 n_51)) n_57)) (n_63 + 1) m_62 = some r_2 := h
      rw [M151] at h
      refine Tr.seq ?_
      refine sg ?_
      conv=>whnf
      refine Tr.cond ?_
      conv=>whnf
      refine cB h (fun hb66 h => ?_) (fun hb66 h => ?_)
      ·refine Tr.skip ?_
       conv=>whnf
       refine Tr.seq ?_
       refine Tr.block ?_
       refine sd [] [(0,3),(1,3),(2,1),(3,2),(4,2),(5,1),(6,2),(7,2),(8,3),(9,3),(10,1),(11,2),(12,2),(13,1),(14,2),(15,2),(16,3),(17,3),(18,1),(19,2),(20,2),(21,1),(22,2),(23,2),(24,1),(25,1)] ?_
       conv=>whnf
       refine q2 ?_
       conv=>whnf
       refine q2 ?_
       conv=>whnf
       refine q1 ?_
       conv=>whnf
       obtain ⟨x_67, hx_67, h⟩ := bS h
       refine q3 (ixP_of hx_67 rr) ?_
       conv=>whnf
       refine q2 ?_
       conv=>whnf
       refine q1 ?_
       conv=>whnf
       obtain ⟨x_68, hx_68, h⟩ := bS h
       refine q3 (ixP_of hx_68 rr) ?_
       conv=>whnf
       refine q2 ?_
       conv=>whnf
       refine q2 ?_
       conv=>whnf
       refine q2 ?_
       conv=>whnf
       refine q1 ?_
       conv=>whnf
       obtain ⟨x_69, hx_69, h⟩ := bS h
       refine q3 (ixP_of hx_69 rr) ?_
       conv=>whnf
       refine q2 ?_
       conv=>whnf
       refine q1 ?_
       conv=>whnf
       obtain ⟨x_70, hx_70, h⟩ := bS h
       refine q3 (ixP_of hx_70 rr) ?_
       conv=>whnf
       refine q2 ?_
       conv=>whnf
       refine q2 ?_
       conv=>whnf
       refine q2 ?_
       conv=>whnf
       refine q1 ?_
       conv=>whnf
       obtain ⟨x_71, hx_71, h⟩ := bS h
       refine q3 (ixP_of hx_71 rr) ?_
       conv=>whnf
       refine q2 ?_
       conv=>whnf
       refine q1 ?_
       conv=>whnf
       obtain ⟨x_72, hx_72, h⟩ := bS h
       refine q3 (ixP_of hx_72 rr) ?_
       conv=>whnf
       refine q2 ?_
       conv=>whnf
       refine q4 ?_
       conv=>whnf
       refine q1 ?_
       conv=>whnf
       refine Tr.cond ?_
       conv=>whnf
       refine cB h (fun hb73 h => ?_) (fun hb73 h => ?_)
       ·refine sg ?_
        conv=>whnf
        refine Tr.ret ?_
        conv=>whnf
        cases h
        rfl
       refine Tr.skip ?_
       conv=>whnf
       refine rg ?_
       conv=>whnf
       refine arS_raw ?_
       conv=>whnf
       refine ⟨((w64 (m_62 + 1))), h, ?_⟩
       exact Wk.mk2 [0] 1 rfl rfl (by decide) rfl ⟨rr, trivial⟩ ⟨rr, rr, rr, rr, rr, rr, trivial⟩
      refine Tr.exit ?_
      conv=>whnf
      refine ⟨(), h, ?_⟩
      exact Wk.mk2 [0] 1 rfl rfl (by decide) rfl ⟨rr, trivial⟩ ⟨rr, rr, rr, rr, rr, trivial⟩
     clear h
     rintro _ h T1 H1 hw
     replace h : M152 j_56 (M153 k_1 i_50 (M154 i_50 (M155 k_1 M156 n_51)) n_57) () = some r_2 := h
     conv=>whnf
     refine Tr.weak hw ?_
     unfold M152 at h
     refine rg ?_
     conv=>whnf
     refine arS_raw ?_
     conv=>whnf
     refine ⟨((w64 (j_56 + 1))), h, ?_⟩
     exact Wk.mk2 [0] 1 rfl rfl (by decide) rfl ⟨rr, trivial⟩ ⟨rr, rr, rr, rr, rr, trivial⟩
    refine Tr.exit ?_
    conv=>whnf
    refine ⟨(), h, ?_⟩
    exact Wk.mk2 [0] 1 rfl rfl (by decide) rfl ⟨rr, trivial⟩ ⟨rr, rr, rr, rr, trivial⟩
   clear h
   rintro _ h T1 H1 hw
   replace h : M154 i_50 (M155 k_1 M156 n_51) () = some r_2 := h
   conv=>whnf
   refine Tr.weak hw ?_
   unfold M154 at h
   refine rg ?_
   conv=>whnf
   refine arS_raw ?_
   conv=>whnf
   refine ⟨((w64 (i_50 + 1))), h, ?_⟩
   exact Wk.mk2 [0] 1 rfl rfl (by decide) rfl ⟨rr, trivial⟩ ⟨rr, rr, rr, rr, trivial⟩
  refine Tr.exit ?_
  conv=>whnf
  refine ⟨(), h, ?_⟩
  exact Wk.mk2 [] 1 rfl rfl (by decide) rfl trivial ⟨rr, trivial⟩
 clear h
 rintro _ h T1 H1 hw
 replace h : M156 () = some r_2 := h
 conv=>whnf
 refine Tr.weak hw ?_
 unfold M156 at h
 refine sg ?_
 conv=>whnf
 refine Tr.ret ?_
 conv=>whnf
 cases h
 rfl
theorem P160 (n_1 : Int) (least_2 : Int) (most_3 : Int) (r_4 : Bool) (h : M160 n_1 least_2 most_3 = some r_4) :
    PC prog 84 [(.i .i64 n_1), (.i .i64 least_2), (.i .i64 most_3)] (fun rs => rs = [(.b r_4)]) := by
 refine PC.of_tr (cx := ⟨15, none, lay, 0⟩) layOK func84 rfl rfl rfl rfl rfl (by simp [f84]) ?_
 unfold M160 at h
 refine sg ?_
 conv=>whnf
 refine sg ?_
 conv=>whnf
 refine cB h (fun hb5 h => ?_) (fun hb5 h => ?_)
 ·conv=>whnf
  refine Tr.ret ?_
  conv=>whnf
  cases h
  rfl
 conv=>whnf
 refine Tr.ret ?_
 conv=>whnf
 cases h
 rfl
theorem P161 (n_1 : Int) (r_2 : Bool) (h : M161 n_1 = some r_2) :
    PC prog 63 [(.i .i64 n_1)] (fun rs => rs = [(.b r_2)]) := by
 refine PC.of_tr (cx := ⟨5, none, lay, 0⟩) layOK func63 rfl rfl rfl rfl rfl (by simp [f63]) ?_
 unfold M161 at h
 refine sg ?_
 conv=>whnf
 refine sg ?_
 conv=>whnf
 obtain ⟨r_3, hc4, h⟩ := bS h
 refine PC.ecall (P160 n_1 1 9999 r_3 hc4) (fun rs hrs => ?_)
 subst hrs
 conv=>whnf
 refine Tr.ret ?_
 conv=>whnf
 cases h
 rfl
theorem P162 (k_1 : TClocks) (x_2 : TOutcome) (r_3 : Int) (h : M162 k_1 x_2 = some r_3) :
    PC prog 64 [(eTClocks k_1), (eTOutcome x_2)] (fun rs => rs = [(.i .i64 r_3)]) := by
 refine PC.of_tr (cx := ⟨63, none, lay, 0⟩) layOK func64 rfl rfl rfl rfl rfl (by simp [f64]) ?_
 unfold M162 at h
 refine sg ?_
 conv=>whnf
 refine sg ?_
 conv=>whnf
 obtain ⟨r_4, hc5, h⟩ := bS h
 refine PC.ecall (P159 k_1 r_4 hc5) (fun rs hrs => ?_)
 subst hrs
 conv=>whnf
 refine Tr.seq ?_
 refine sg ?_
 conv=>whnf
 refine Tr.cond ?_
 conv=>whnf
 refine cB h (fun hb6 h => ?_) (fun hb6 h => ?_)
 ·refine sg ?_
  conv=>whnf
  refine Tr.ret ?_
  conv=>whnf
  cases h
  rfl
 refine Tr.skip ?_
 conv=>whnf
 refine Tr.seq ?_
 refine Tr.seq ?_
 refine Tr.cutQ1 ([(4, (dI 0)), (62, .d (.b (bif x_2.Out then ((x_2.Seg != (-1)) || ((x_2.Lo != 0) || (x_2.Hi != 0))) else ((decide (x_2.Seg < (-1))) || ((decide (x_2.Seg ≥ (((k_1.Segments).length : Int)))) || ((decide (x_2.Lo < (-288230376151711744))) || ((decide (x_2.Lo > x_2.Hi)) || (decide (x_2.Hi > 288230376151711744)))))))))]) ([]) ?_ (fun T1 H1 hw => ?_)
 ·refine rg ?_
  conv=>whnf
  refine condS_mk (fun hb8 => ?_) (fun hb8 => ?_)
  ·conv=>whnf
   refine condS_mk (fun hb9 => ?_) (fun hb9 => ?_)
   ·conv=>whnf
    exact Wk.mk2 [] 2 rfl rfl (by decide) rfl trivial ⟨rr, ⟨rfl, (by first | rfl | (simp only [↓hb6, ↓hb8, ↓hb9, bl, List.length_set]; done) | (simp only [↓hb6, ↓hb8, ↓hb9, bl, List.length_set]; rfl))⟩, trivial⟩
   conv=>whnf
   refine condS_mk (fun hb10 => ?_) (fun hb10 => ?_)
   ·conv=>whnf
    exact Wk.mk2 [] 2 rfl rfl (by decide) rfl trivial ⟨rr, ⟨rfl, (by first | rfl | (simp only [↓hb6, ↓hb8, ↓hb9, ↓hb10, bl, List.length_set]; done) | (simp only [↓hb6, ↓hb8, ↓hb9, ↓hb10, bl, List.length_set]; rfl))⟩, trivial⟩
   conv=>whnf
   refine condS_mk (fun hb11 => ?_) (fun hb11 => ?_)
   ·conv=>whnf
    exact Wk.mk2 [] 2 rfl rfl (by decide) rfl trivial ⟨rr, ⟨rfl, (by first | rfl | (simp only [↓hb6, ↓hb8, ↓hb9, ↓hb10, ↓hb11, bl, List.length_set]; done) | (simp only [↓hb6, ↓hb8, ↓hb9, ↓hb10, ↓hb11, bl, List.length_set]; rfl))⟩, trivial⟩
   conv=>whnf
   refine condS_kf (by rw [hb8]; rfl) ?_
   conv=>whnf
   exact Wk.mk2 [] 2 rfl rfl (by decide) rfl trivial ⟨rr, ⟨rfl, (by first | rfl | (simp only [↓hb6, ↓hb8, ↓hb9, ↓hb10, ↓hb11, bl, List.length_set]; done) | (simp only [↓hb6, ↓hb8, ↓hb9, ↓hb10, ↓hb11, bl, List.length_set]; rfl))⟩, trivial⟩
  conv=>whnf
  refine condS_kt (by rw [hb8]; rfl) ?_
  conv=>whnf
  refine condS_mk (fun hb12 => ?_) (fun hb12 => ?_)
  ·conv=>whnf
   exact Wk.mk2 [] 2 rfl rfl (by decide) rfl trivial ⟨rr, ⟨rfl, (by first | rfl | (simp only [↓hb6, ↓hb8, ↓hb12, bl, List.length_set]; done) | (simp only [↓hb6, ↓hb8, ↓hb12, bl, List.length_set]; rfl))⟩, trivial⟩
  conv=>whnf
  refine lnS_map ?_
  conv=>whnf
  refine condS_mk (fun hb13 => ?_) (fun hb13 => ?_)
  ·conv=>whnf
   exact Wk.mk2 [] 2 rfl rfl (by decide) rfl trivial ⟨rr, ⟨rfl, (by first | rfl | (simp only [↓hb6, ↓hb8, ↓hb12, ↓hb13, bl, List.length_set]; done) | (simp only [↓hb6, ↓hb8, ↓hb12, ↓hb13, bl, List.length_set]; rfl))⟩, trivial⟩
  conv=>whnf
  refine condS_mk (fun hb14 => ?_) (fun hb14 => ?_)
  ·conv=>whnf
   exact Wk.mk2 [] 2 rfl rfl (by decide) rfl trivial ⟨rr, ⟨rfl, (by first | rfl | (simp only [↓hb6, ↓hb8, ↓hb12, ↓hb13, ↓hb14, bl, List.length_set]; done) | (simp only [↓hb6, ↓hb8, ↓hb12, ↓hb13, ↓hb14, bl, List.length_set]; rfl))⟩, trivial⟩
  conv=>whnf
  refine condS_mk (fun hb15 => ?_) (fun hb15 => ?_)
  ·conv=>whnf
   exact Wk.mk2 [] 2 rfl rfl (by decide) rfl trivial ⟨rr, ⟨rfl, (by first | rfl | (simp only [↓hb6, ↓hb8, ↓hb12, ↓hb13, ↓hb14, ↓hb15, bl, List.length_set]; done) | (simp only [↓hb6, ↓hb8, ↓hb12, ↓hb13, ↓hb14, ↓hb15, bl, List.length_set]; rfl))⟩, trivial⟩
  conv=>whnf
  exact Wk.mk2 [] 2 rfl rfl (by decide) rfl trivial ⟨rr, ⟨rfl, (by first | rfl | (simp only [↓hb6, ↓hb8, ↓hb12, ↓hb13, ↓hb14, ↓hb15, bl, List.length_set]; done) | (simp only [↓hb6, ↓hb8, ↓hb12, ↓hb13, ↓hb14, ↓hb15, bl, List.length_set]; rfl))⟩, trivial⟩
 conv=>whnf
 refine Tr.weak hw ?_
 refine Tr.cond ?_
 conv=>whnf
 refine cB h (fun hb16 h => ?_) (fun hb16 h => ?_)
 ·refine sg ?_
  conv=>whnf
  refine Tr.ret ?_
  conv=>whnf
  cases h
  rfl
 refine Tr.skip ?_
 conv=>whnf
 refine sg ?_
 conv=>whnf
 refine Tr.ret ?_
 conv=>whnf
 cases h
 rfl
theorem P165 (f_1 : TField) (world_2 : Int) (r_3 : Bool) (h : M165 f_1 world_2 = some r_3) :
    PC prog 81 [(eTField f_1), (.i .i64 world_2)] (fun rs => rs = [(.b r_3)]) := by
 refine PC.of_tr (cx := ⟨39, none, lay, 0⟩) layOK func81 rfl rfl rfl rfl rfl (by simp [f81]) ?_
 unfold M165 at h
 refine sg ?_
 conv=>whnf
 refine Tr.seq ?_
 refine sg ?_
 conv=>whnf
 refine Tr.cutQ (α := Unit) (fun s => ([(4, .d (.b false))], [])) (fun s => M164 s = some r_3) ?_ ?_
 ·refine Tr.block ?_
  refine Tr.loopM (σ := Int) (fun n s => M163 f_1 world_2 M164 n s) r_3 (fun s => ([(1, (dI world_2)), (2, .pt 0 0), (4, .d (.b false)), (5, (dI s))], [some (.var [.d (.ls (List.map eTSegment f_1.Clocks.Segments)), .d (.ls (List.map (eL eI) f_1.Clocks.Far)), .d (.ls (List.map eTPair f_1.Pairs)), .d (.ls (List.map eTRunner f_1.Runners))])])) (((((f_1.Runners).length : Int)) - 0 : Int).toNat + 1) (0) h (fun s => rfl) (Wk.mk2 [0] 1 rfl rfl (by decide) rfl ⟨rr, trivial⟩ ⟨rr, rr, rr, rr, trivial⟩) ?_
  clear h
  rintro n_6 i_5 h
  replace h : M163 f_1 world_2 M164 (n_6 + 1) i_5 = some r_3 := h
  rw [M163] at h
  refine Tr.seq ?_
  refine sg ?_
  conv=>whnf
  refine lnS_map ?_
  conv=>whnf
  refine Tr.cond ?_
  conv=>whnf
  refine cB h (fun hb9 h => ?_) (fun hb9 h => ?_)
  ·refine Tr.skip ?_
   conv=>whnf
   refine Tr.seq ?_
   refine Tr.block ?_
   refine sg ?_
   conv=>whnf
   refine cB h (fun hb10 h => ?_) (fun hb10 h => ?_)
   ·conv=>whnf
    refine Tr.cond ?_
    conv=>whnf
    refine sg ?_
    conv=>whnf
    refine Tr.ret ?_
    conv=>whnf
    cases h
    rfl
   conv=>whnf
   obtain ⟨x_11, hx_11, h⟩ := bS h
   refine ixP_of hx_11 ?_
   conv=>whnf
   refine lnS_map ?_
   conv=>whnf
   refine cB h (fun hb12 h => ?_) (fun hb12 h => ?_)
   ·conv=>whnf
    refine Tr.cond ?_
    conv=>whnf
    refine sg ?_
    conv=>whnf
    refine Tr.ret ?_
    conv=>whnf
    cases h
    rfl
   conv=>whnf
   obtain ⟨x_13, hx_13, h⟩ := bS h
   refine ixP_of hx_13 ?_
   conv=>whnf
   obtain ⟨x_14, hx_14, h⟩ := bS h
   refine ixP_of hx_14 ?_
   conv=>whnf
   refine lnS_map ?_
   conv=>whnf
   refine Tr.cond ?_
   conv=>whnf
   refine cB h (fun hb15 h => ?_) (fun hb15 h => ?_)
   ·refine sg ?_
    conv=>whnf
    refine Tr.ret ?_
    conv=>whnf
    cases h
    rfl
   refine Tr.skip ?_
   conv=>whnf
   refine rg ?_
   conv=>whnf
   refine arS_raw ?_
   conv=>whnf
   refine ⟨((w64 (i_5 + 1))), h, ?_⟩
   exact Wk.mk2 [0] 1 rfl rfl (by decide) rfl ⟨rr, trivial⟩ ⟨rr, rr, rr, rr, trivial⟩
  refine Tr.exit ?_
  conv=>whnf
  refine ⟨(), h, ?_⟩
  exact Wk.mk2 [] 1 rfl rfl (by decide) rfl trivial ⟨rr, trivial⟩
 clear h
 rintro _ h T1 H1 hw
 replace h : M164 () = some r_3 := h
 conv=>whnf
 refine Tr.weak hw ?_
 unfold M164 at h
 refine sg ?_
 conv=>whnf
 refine Tr.ret ?_
 conv=>whnf
 cases h
 rfl
theorem P168 (f_1 : TField) (r_2 : Bool) (h : M168 f_1 = some r_2) :
    PC prog 65 [(eTField f_1)] (fun rs => rs = [(.b r_2)]) := by
 refine PC.of_tr (cx := ⟨14, none, lay, 0⟩) layOK func65 rfl rfl rfl rfl rfl (by simp [f65]) ?_
 unfold M168 at h
 refine sg ?_
 conv=>whnf
 refine Tr.seq ?_
 refine sg ?_
 conv=>whnf
 refine Tr.cutQ (α := Unit) (fun s => ([(2, .d (.b false))], [])) (fun s => M167 s = some r_2) ?_ ?_
 ·refine Tr.block ?_
  refine Tr.loopM (σ := Int) (fun n s => M166 f_1 M167 n s) r_2 (fun s => ([(1, .pt 0 0), (2, .d (.b false)), (3, (dI s))], [some (.var [.d (.ls (List.map eTSegment f_1.Clocks.Segments)), .d (.ls (List.map (eL eI) f_1.Clocks.Far)), .d (.ls (List.map eTPair f_1.Pairs)), .d (.ls (List.map eTRunner f_1.Runners))])])) (((((f_1.Pairs).length : Int)) + 1 - 0 : Int).toNat + 1) (0) h (fun s => rfl) (Wk.mk2 [0] 1 rfl rfl (by decide) rfl ⟨rr, trivial⟩ ⟨rr, rr, rr, trivial⟩) ?_
  clear h
  rintro n_5 w_4 h
  replace h : M166 f_1 M167 (n_5 + 1) w_4 = some r_2 := h
  rw [M166] at h
  refine Tr.seq ?_
  refine sg ?_
  conv=>whnf
  refine lnS_map ?_
  conv=>whnf
  refine Tr.cond ?_
  conv=>whnf
  refine cB h (fun hb8 h => ?_) (fun hb8 h => ?_)
  ·refine Tr.skip ?_
   conv=>whnf
   refine Tr.seq ?_
   refine Tr.block ?_
   refine sg ?_
   conv=>whnf
   obtain ⟨r_9, hc10, h⟩ := bS h
   refine PC.ecall (P165 f_1 w_4 r_9 hc10) (fun rs hrs => ?_)
   subst hrs
   conv=>whnf
   refine Tr.cond ?_
   conv=>whnf
   refine cB h (fun hb11 h => ?_) (fun hb11 h => ?_)
   ·refine sg ?_
    conv=>whnf
    refine Tr.ret ?_
    conv=>whnf
    cases h
    rfl
   refine Tr.skip ?_
   conv=>whnf
   refine rg ?_
   conv=>whnf
   refine arS_raw ?_
   conv=>whnf
   refine ⟨((w64 (w_4 + 1))), h, ?_⟩
   exact Wk.mk2 [0] 1 rfl rfl (by decide) rfl ⟨rr, trivial⟩ ⟨rr, rr, rr, trivial⟩
  refine Tr.exit ?_
  conv=>whnf
  refine ⟨(), h, ?_⟩
  exact Wk.mk2 [] 1 rfl rfl (by decide) rfl trivial ⟨rr, trivial⟩
 clear h
 rintro _ h T1 H1 hw
 replace h : M167 () = some r_2 := h
 conv=>whnf
 refine Tr.weak hw ?_
 unfold M167 at h
 refine sg ?_
 conv=>whnf
 refine Tr.ret ?_
 conv=>whnf
 cases h
 rfl
theorem P177 (f_1 : TField) (r_2 : Int) (h : M177 f_1 = some r_2) :
    PC prog 40 [(eTField f_1)] (fun rs => rs = [(.i .i64 r_2)]) := by
 refine PC.of_tr (cx := ⟨182, none, lay, 0⟩) layOK func40 rfl rfl rfl rfl rfl (by simp [f40]) ?_
 unfold M177 at h
 refine sg ?_
 conv=>whnf
 refine Tr.seq ?_
 refine Tr.seq ?_
 obtain ⟨v_3, hv4, h⟩ := bS h
 refine Tr.cutQ1 ([(1, .pt 0 0), (2, (dI 0)), (30, .d (.b v_3))]) ([some (.var [.d (.ls (List.map eTSegment f_1.Clocks.Segments)), .d (.ls (List.map (eL eI) f_1.Clocks.Far)), .d (.ls (List.map eTPair f_1.Pairs)), .d (.ls (List.map eTRunner f_1.Runners))])]) ?_ (fun T1 H1 hw => ?_)
 ·replace h := hv4; clear hv4
  refine rg ?_
  conv=>whnf
  obtain ⟨r_5, hc6, h⟩ := bS h
  refine PC.ecall (P159 f_1.Clocks r_5 hc6) (fun rs hrs => ?_)
  subst hrs
  conv=>whnf
  refine cB h (fun hb7 h => ?_) (fun hb7 h => ?_)
  ·conv=>whnf
   cases h
   exact Wk.mk2 [0] 1 rfl rfl (by decide) rfl ⟨rr, trivial⟩ ⟨rr, rr, rr, trivial⟩
  conv=>whnf
  refine lnS_map ?_
  conv=>whnf
  refine cB h (fun hb8 h => ?_) (fun hb8 h => ?_)
  ·conv=>whnf
   cases h
   exact Wk.mk2 [0] 1 rfl rfl (by decide) rfl ⟨rr, trivial⟩ ⟨rr, rr, rr, trivial⟩
  conv=>whnf
  refine lnS_map ?_
  conv=>whnf
  refine cB h (fun hb9 h => ?_) (fun hb9 h => ?_)
  ·conv=>whnf
   cases h
   exact Wk.mk2 [0] 1 rfl rfl (by decide) rfl ⟨rr, trivial⟩ ⟨rr, rr, rr, trivial⟩
  conv=>whnf
  refine lnS_map ?_
  conv=>whnf
  cases h
  exact Wk.mk2 [0] 1 rfl rfl (by decide) rfl ⟨rr, trivial⟩ ⟨rr, rr, rr, trivial⟩
 clear hv4
 conv=>whnf
 refine Tr.weak hw ?_
 refine Tr.cond ?_
 conv=>whnf
 refine cB h (fun hb10 h => ?_) (fun hb10 h => ?_)
 ·refine sg ?_
  conv=>whnf
  refine Tr.ret ?_
  conv=>whnf
  cases h
  rfl
 refine Tr.skip ?_
 conv=>whnf
 refine Tr.seq ?_
 refine sg ?_
 conv=>whnf
 refine Tr.cutQ (α := Unit) (fun s => ([(1, .pt 0 0), (2, (dI 0))], [some (.var [.d (.ls (List.map eTSegment f_1.Clocks.Segments)), .d (.ls (List.map (eL eI) f_1.Clocks.Far)), .d (.ls (List.map eTPair f_1.Pairs)), .d (.ls (List.map eTRunner f_1.Runners))])])) (fun s => M176 f_1 s = some r_2) ?_ ?_
 ·refine Tr.block ?_
  refine Tr.loopM (σ := Int) (fun n s => M169 f_1 (M176 f_1) n s) r_2 (fun s => ([(1, .pt 0 0), (2, (dI 0)), (3, (dI s))], [some (.var [.d (.ls (List.map eTSegment f_1.Clocks.Segments)), .d (.ls (List.map (eL eI) f_1.Clocks.Far)), .d (.ls (List.map eTPair f_1.Pairs)), .d (.ls (List.map eTRunner f_1.Runners))])])) (((((f_1.Pairs).length : Int)) - 0 : Int).toNat + 1) (0) h (fun s => rfl) (Wk.mk2 [0] 1 rfl rfl (by decide) rfl ⟨rr, trivial⟩ ⟨rr, rr, rr, trivial⟩) ?_
  clear h
  rintro n_13 i_12 h
  replace h : M169 f_1 (M176 f_1) (n_13 + 1) i_12 = some r_2 := h
  rw [M169] at h
  refine Tr.seq ?_
  refine sg ?_
  conv=>whnf
  refine lnS_map ?_
  conv=>whnf
  refine Tr.cond ?_
  conv=>whnf
  refine cB h (fun hb16 h => ?_) (fun hb16 h => ?_)
  ·refine Tr.skip ?_
   conv=>whnf
   refine Tr.seq ?_
   refine Tr.block ?_
   refine sg ?_
   conv=>whnf
   obtain ⟨x_17, hx_17, h⟩ := bS h
   refine ixP_of hx_17 ?_
   conv=>whnf
   refine Tr.seq ?_
   refine sg ?_
   conv=>whnf
   refine cB h (fun hb18 h => ?_) (fun hb18 h => ?_)
   ·conv=>whnf
    refine Tr.cond ?_
    conv=>whnf
    refine sg ?_
    conv=>whnf
    refine Tr.ret ?_
    conv=>whnf
    cases h
    rfl
   conv=>whnf
   refine cB h (fun hb19 h => ?_) (fun hb19 h => ?_)
   ·conv=>whnf
    refine Tr.cond ?_
    conv=>whnf
    refine sg ?_
    conv=>whnf
    refine Tr.ret ?_
    conv=>whnf
    cases h
    rfl
   conv=>whnf
   refine Tr.cond ?_
   conv=>whnf
   refine cB h (fun hb20 h => ?_) (fun hb20 h => ?_)
   ·refine sg ?_
    conv=>whnf
    refine Tr.ret ?_
    conv=>whnf
    cases h
    rfl
   refine Tr.skip ?_
   conv=>whnf
   refine Tr.seq ?_
   obtain ⟨v_21, hv22, h⟩ := bS h
   refine Tr.cutQ1 ([(1, .pt 0 0), (2, (dI 0)), (3, (dI i_12)), (95, .d (.b v_21))]) ([some (.var [.d (.ls (List.map eTSegment f_1.Clocks.Segments)), .d (.ls (List.map (eL eI) f_1.Clocks.Far)), .d (.ls (List.map eTPair f_1.Pairs)), .d (.ls (List.map eTRunner f_1.Runners))])]) ?_ (fun T1 H1 hw => ?_)
   ·replace h := hv22; clear hv22
    refine dq [] [(0,1),(1,1),(2,1),(3,3),(4,3),(5,1),(6,1),(7,2),(8,2),(9,2),(10,4),(11,4),(12,1),(13,1),(14,3),(15,3),(16,1),(17,1),(18,2),(19,2),(20,2),(21,4),(22,4),(23,1),(24,1),(25,3),(26,3),(27,1),(28,1),(29,2),(30,2),(31,2),(32,4),(33,4),(34,1),(35,1),(36,1),(37,1)] ?_
    conv=>whnf
    refine q1 ?_
    conv=>whnf
    refine q1 ?_
    conv=>whnf
    refine q1 ?_
    conv=>whnf
    refine cB h (fun hb23 h => ?_) (fun hb23 h => ?_)
    ·conv=>whnf
     refine q2 ?_
     conv=>whnf
     refine q2 ?_
     conv=>whnf
     refine q1 ?_
     conv=>whnf
     refine q4 ?_
     conv=>whnf
     obtain ⟨x_24, hx_24, h⟩ := bS h
     refine q3 (ixP_of hx_24 rr) ?_
     conv=>whnf
     refine q2 ?_
     conv=>whnf
     refine q2 ?_
     conv=>whnf
     refine q2 ?_
     conv=>whnf
     refine q2 ?_
     conv=>whnf
     refine q1 ?_
     conv=>whnf
     refine q1 ?_
     conv=>whnf
     refine cB h (fun hb25 h => ?_) (fun hb25 h => ?_)
     ·conv=>whnf
      refine q1 ?_
      conv=>whnf
      refine q1 ?_
      conv=>whnf
      cases h
      exact Wk.mk2 [0] 2 rfl rfl (by decide) rfl ⟨rr, trivial⟩ ⟨rr, rr, rr, rr, trivial⟩
     conv=>whnf
     refine q2 ?_
     conv=>whnf
     refine q2 ?_
     conv=>whnf
     refine q1 ?_
     conv=>whnf
     refine q4 ?_
     conv=>whnf
     obtain ⟨x_26, hx_26, h⟩ := bS h
     refine q3 (ixP_of hx_26 rr) ?_
     conv=>whnf
     refine q2 ?_
     conv=>whnf
     refine q2 ?_
     conv=>whnf
     refine q2 ?_
     conv=>whnf
     refine q2 ?_
     conv=>whnf
     refine q1 ?_
     conv=>whnf
     refine q1 ?_
     conv=>whnf
     refine cB h (fun hb27 h => ?_) (fun hb27 h => ?_)
     ·conv=>whnf
      refine q2 ?_
      conv=>whnf
      refine q2 ?_
      conv=>whnf
      refine q1 ?_
      conv=>whnf
      refine q4 ?_
      conv=>whnf
      obtain ⟨x_28, hx_28, h⟩ := bS h
      refine q3 (ixP_of hx_28 rr) ?_
      conv=>whnf
      refine q2 ?_
      conv=>whnf
      refine q2 ?_
      conv=>whnf
      refine q2 ?_
      conv=>whnf
      refine q2 ?_
      conv=>whnf
      refine q1 ?_
      conv=>whnf
      refine q1 ?_
      conv=>whnf
      refine q1 ?_
      conv=>whnf
      refine q1 ?_
      conv=>whnf
      cases h
      exact Wk.mk2 [0] 2 rfl rfl (by decide) rfl ⟨rr, trivial⟩ ⟨rr, rr, rr, rr, trivial⟩
     conv=>whnf
     refine q1 ?_
     conv=>whnf
     refine q1 ?_
     conv=>whnf
     refine q1 ?_
     conv=>whnf
     cases h
     exact Wk.mk2 [0] 2 rfl rfl (by decide) rfl ⟨rr, trivial⟩ ⟨rr, rr, rr, rr, trivial⟩
    conv=>whnf
    refine q1 ?_
    conv=>whnf
    cases h
    exact Wk.mk2 [0] 2 rfl rfl (by decide) rfl ⟨rr, trivial⟩ ⟨rr, rr, rr, rr, trivial⟩
   clear hv22
   conv=>whnf
   refine Tr.weak hw ?_
   refine Tr.cond ?_
   conv=>whnf
   refine cB h (fun hb29 h => ?_) (fun hb29 h => ?_)
   ·refine sg ?_
    conv=>whnf
    refine Tr.ret ?_
    conv=>whnf
    cases h
    rfl
   refine Tr.skip ?_
   conv=>whnf
   refine rg ?_
   conv=>whnf
   refine arS_raw ?_
   conv=>whnf
   refine ⟨((w64 (i_12 + 1))), h, ?_⟩
   exact Wk.mk2 [0] 1 rfl rfl (by decide) rfl ⟨rr, trivial⟩ ⟨rr, rr, rr, trivial⟩
  refine Tr.exit ?_
  conv=>whnf
  refine ⟨(), h, ?_⟩
  exact Wk.mk2 [0] 1 rfl rfl (by decide) rfl ⟨rr, trivial⟩ ⟨rr, rr, trivial⟩
 clear h
 rintro _ h T1 H1 hw
 replace h : M176 f_1 () = some r_2 := h
 conv=>whnf
 refine Tr.weak hw ?_
 unfold M176 at h
 refine Tr.seq ?_
 refine sg ?_
 conv=>whnf
 refine Tr.cutQ (α := Unit) (fun s => ([(1, .pt 0 0), (2, (dI 0))], [some (.var [.d (.ls (List.map eTSegment f_1.Clocks.Segments)), .d (.ls (List.map (eL eI) f_1.Clocks.Far)), .d (.ls (List.map eTPair f_1.Pairs)), .d (.ls (List.map eTRunner f_1.Runners))])])) (fun s => M175 f_1 s = some r_2) ?_ ?_
 ·refine Tr.block ?_
  refine Tr.loopM (σ := Int) (fun n s => M174 f_1 (M175 f_1) n s) r_2 (fun s => ([(1, .pt 0 0), (2, (dI 0)), (5, (dI s))], [some (.var [.d (.ls (List.map eTSegment f_1.Clocks.Segments)), .d (.ls (List.map (eL eI) f_1.Clocks.Far)), .d (.ls (List.map eTPair f_1.Pairs)), .d (.ls (List.map eTRunner f_1.Runners))])])) (((((f_1.Runners).length : Int)) - 0 : Int).toNat + 1) (0) h (fun s => rfl) (Wk.mk2 [0] 1 rfl rfl (by decide) rfl ⟨rr, trivial⟩ ⟨rr, rr, rr, trivial⟩) ?_
  clear h
  rintro n_32 i_31 h
  replace h : M174 f_1 (M175 f_1) (n_32 + 1) i_31 = some r_2 := h
  rw [M174] at h
  refine Tr.seq ?_
  refine sg ?_
  conv=>whnf
  refine lnS_map ?_
  conv=>whnf
  refine Tr.cond ?_
  conv=>whnf
  refine cB h (fun hb35 h => ?_) (fun hb35 h => ?_)
  ·refine Tr.skip ?_
   conv=>whnf
   refine Tr.seq ?_
   refine Tr.block ?_
   refine sg ?_
   conv=>whnf
   obtain ⟨x_36, hx_36, h⟩ := bS h
   refine ixP_of hx_36 ?_
   conv=>whnf
   refine Tr.seq ?_
   refine Tr.seq ?_
   obtain ⟨v_37, hv38, h⟩ := bS h
   refine Tr.cutQ1 ([(1, .pt 0 0), (2, (dI 0)), (5, (dI i_31)), (6, .pt 1 0), (149, .d (.b v_37))]) ([some (.var [.d (.ls (List.map eTSegment f_1.Clocks.Segments)), .d (.ls (List.map (eL eI) f_1.Clocks.Far)), .d (.ls (List.map eTPair f_1.Pairs)), .d (.ls (List.map eTRunner f_1.Runners))]), some (.var [(dI x_36.Bib), .d (.ls (List.map eI x_36.Keys)), .d (.ls (List.map (eL eTOutcome) x_36.Worlds))])]) ?_ (fun T1 H1 hw => ?_)
   ·replace h := hv38; clear hv38
    refine dq [] [(0,4),(1,4),(2,1),(3,1),(4,1),(5,1),(6,1),(7,1),(8,3),(9,3),(10,1),(11,1),(12,2),(13,2),(14,2),(15,4),(16,4),(17,1),(18,1),(19,1),(20,1),(21,4),(22,4),(23,2),(24,3),(25,3),(26,2),(27,2),(28,2),(29,2),(30,1),(31,1),(32,1),(33,4),(34,4),(35,2),(36,3),(37,3),(38,2),(39,1),(40,1),(41,1)] ?_
    conv=>whnf
    refine q2 ?_
    conv=>whnf
    refine q2 ?_
    conv=>whnf
    obtain ⟨r_39, hc40, h⟩ := bS h
    refine q1 ?_ (fun _ => pe (P161 x_36.Bib r_39 hc40) rr)
    conv=>whnf
    refine q1 ?_
    conv=>whnf
    refine q1 ?_
    conv=>whnf
    refine cB h (fun hb41 h => ?_) (fun hb41 h => ?_)
    ·conv=>whnf
     refine q1 ?_
     conv=>whnf
     refine q1 ?_
     conv=>whnf
     refine q1 ?_
     conv=>whnf
     refine q1 ?_
     conv=>whnf
     refine q1 ?_
     conv=>whnf
     cases h
     exact Wk.mk2 [0, 1] 2 rfl rfl (by decide) rfl ⟨rr, rr, trivial⟩ ⟨rr, rr, rr, rr, rr, trivial⟩
    conv=>whnf
    refine q1 ?_
    conv=>whnf
    refine q1 ?_
    conv=>whnf
    refine q1 ?_
    conv=>whnf
    refine cB h (fun hb42 h => ?_) (fun hb42 h => ?_)
    ·conv=>whnf
     refine q2 ?_
     conv=>whnf
     refine q2 ?_
     conv=>whnf
     refine q1 ?_
     conv=>whnf
     refine q4 ?_
     conv=>whnf
     obtain ⟨x_43, hx_43, h⟩ := bS h
     refine q3 (ixP_of hx_43 rr) ?_
     conv=>whnf
     refine q2 ?_
     conv=>whnf
     refine q2 ?_
     conv=>whnf
     refine q2 ?_
     conv=>whnf
     refine q2 ?_
     conv=>whnf
     refine q1 ?_
     conv=>whnf
     refine q1 ?_
     conv=>whnf
     refine q1 ?_
     conv=>whnf
     refine q1 ?_
     conv=>whnf
     refine cB h (fun hb44 h => ?_) (fun hb44 h => ?_)
     ·conv=>whnf
      refine q1 ?_
      conv=>whnf
      refine q1 ?_
      conv=>whnf
      refine q1 ?_
      conv=>whnf
      cases h
      exact Wk.mk2 [0, 1] 2 rfl rfl (by decide) rfl ⟨rr, rr, trivial⟩ ⟨rr, rr, rr, rr, rr, trivial⟩
     conv=>whnf
     refine q2 ?_
     conv=>whnf
     refine q2 ?_
     conv=>whnf
     refine q3 (lnS_map rr) ?_
     conv=>whnf
     refine q2 ?_
     conv=>whnf
     refine q2 ?_
     conv=>whnf
     obtain ⟨x_45, hx_45, h⟩ := bS h
     refine q3 (ixP_of hx_45 rr) ?_
     conv=>whnf
     refine q2 ?_
     conv=>whnf
     refine q2 ?_
     conv=>whnf
     refine q3 (lnS_map rr) ?_
     conv=>whnf
     refine q1 ?_
     conv=>whnf
     refine q1 ?_
     conv=>whnf
     refine q1 ?_
     conv=>whnf
     refine cB h (fun hb46 h => ?_) (fun hb46 h => ?_)
     ·conv=>whnf
      refine q1 ?_
      conv=>whnf
      cases h
      exact Wk.mk2 [0, 1] 2 rfl rfl (by decide) rfl ⟨rr, rr, trivial⟩ ⟨rr, rr, rr, rr, rr, trivial⟩
     conv=>whnf
     refine q2 ?_
     conv=>whnf
     refine q2 ?_
     conv=>whnf
     refine q3 (lnS_map rr) ?_
     conv=>whnf
     refine q2 ?_
     conv=>whnf
     refine q2 ?_
     conv=>whnf
     refine q3 (lnS_map rr) ?_
     conv=>whnf
     refine q4 ?_
     conv=>whnf
     refine q1 ?_
     conv=>whnf
     refine q1 ?_
     conv=>whnf
     cases h
     exact Wk.mk2 [0, 1] 2 rfl rfl (by decide) rfl ⟨rr, rr, trivial⟩ ⟨rr, rr, rr, rr, rr, trivial⟩
    conv=>whnf
    refine q1 ?_
    conv=>whnf
    refine q1 ?_
    conv=>whnf
    refine q1 ?_
    conv=>whnf
    refine q2 ?_
    conv=>whnf
    refine q2 ?_
    conv=>whnf
    refine q3 (lnS_map rr) ?_
    conv=>whnf
    refine q2 ?_
    conv=>whnf
    refine q2 ?_
    conv=>whnf
    obtain ⟨x_47, hx_47, h⟩ := bS h
    refine q3 (ixP_of hx_47 rr) ?_
    conv=>whnf
    refine q2 ?_
    conv=>whnf
    refine q2 ?_
    conv=>whnf
    refine q3 (lnS_map rr) ?_
    conv=>whnf
    refine q1 ?_
    conv=>whnf
    refine q1 ?_
    conv=>whnf
    refine q1 ?_
    conv=>whnf
    refine cB h (fun hb48 h => ?_) (fun hb48 h => ?_)
    ·conv=>whnf
     refine q1 ?_
     conv=>whnf
     cases h
     exact Wk.mk2 [0, 1] 2 rfl rfl (by decide) rfl ⟨rr, rr, trivial⟩ ⟨rr, rr, rr, rr, rr, trivial⟩
    conv=>whnf
    refine q2 ?_
    conv=>whnf
    refine q2 ?_
    conv=>whnf
    refine q3 (lnS_map rr) ?_
    conv=>whnf
    refine q2 ?_
    conv=>whnf
    refine q2 ?_
    conv=>whnf
    refine q3 (lnS_map rr) ?_
    conv=>whnf
    refine q4 ?_
    conv=>whnf
    refine q1 ?_
    conv=>whnf
    refine q1 ?_
    conv=>whnf
    cases h
    exact Wk.mk2 [0, 1] 2 rfl rfl (by decide) rfl ⟨rr, rr, trivial⟩ ⟨rr, rr, rr, rr, rr, trivial⟩
   clear hv38
   conv=>whnf
   refine Tr.weak hw ?_
   refine Tr.cond ?_
   conv=>whnf
   refine cB h (fun hb49 h => ?_) (fun hb49 h => ?_)
   ·refine sg ?_
    conv=>whnf
    refine Tr.ret ?_
    conv=>whnf
    cases h
    rfl
   refine Tr.skip ?_
   conv=>whnf
   refine sg ?_
   conv=>whnf
   refine Tr.cutQ (α := Unit) (fun s => ([(1, .pt 0 0), (2, (dI 0)), (5, (dI i_31))], [some (.var [.d (.ls (List.map eTSegment f_1.Clocks.Segments)), .d (.ls (List.map (eL eI) f_1.Clocks.Far)), .d (.ls (List.map eTPair f_1.Pairs)), .d (.ls (List.map eTRunner f_1.Runners))])])) (fun s => M173 i_31 (M174 f_1 (M175 f_1) n_32) s = some r_2) ?_ ?_
   ·refine Tr.block ?_
    refine Tr.loopM (σ := Int) (fun n s => M172 f_1 x_36 (M173 i_31 (M174 f_1 (M175 f_1) n_32)) n s) r_2 (fun s => ([(1, .pt 0 0), (2, (dI 0)), (5, (dI i_31)), (6, .pt 1 0), (7, (dI s))], [some (.var [.d (.ls (List.map eTSegment f_1.Clocks.Segments)), .d (.ls (List.map (eL eI) f_1.Clocks.Far)), .d (.ls (List.map eTPair f_1.Pairs)), .d (.ls (List.map eTRunner f_1.Runners))]), some (.var [(dI x_36.Bib), .d (.ls (List.map eI x_36.Keys)), .d (.ls (List.map (eL eTOutcome) x_36.Worlds))])])) (((((x_36.Worlds).length : Int)) - 0 : Int).toNat + 1) (0) h (fun s => rfl) (Wk.mk2 [0, 1] 2 rfl rfl (by decide) rfl ⟨rr, rr, trivial⟩ ⟨rr, rr, rr, rr, rr, trivial⟩) ?_
    clear h
    rintro n_52 w_51 h
    replace h : M172 f_1 x_36 (M173 i_31 (M174 f_1 (M175 f_1) n_32)) (n_52 + 1) w_51 = some r_2 := h
    rw [M172] at h
    refine Tr.seq ?_
    refine sg ?_
    conv=>whnf
    refine lnS_map ?_
    conv=>whnf
    refine Tr.cond ?_
    conv=>whnf
    refine cB h (fun hb55 h => ?_) (fun hb55 h => ?_)
    ·refine Tr.skip ?_
     conv=>whnf
     refine Tr.seq ?_
     refine Tr.block ?_
     refine sg ?_
     conv=>whnf
     refine Tr.cutQ (α := Unit) (fun s => ([(1, .pt 0 0), (2, (dI 0)), (5, (dI i_31)), (6, .pt 1 0), (7, (dI w_51))], [some (.var [.d (.ls (List.map eTSegment f_1.Clocks.Segments)), .d (.ls (List.map (eL eI) f_1.Clocks.Far)), .d (.ls (List.map eTPair f_1.Pairs)), .d (.ls (List.map eTRunner f_1.Runners))]), some (.var [(dI x_36.Bib), .d (.ls (List.map eI x_36.Keys)), .d (.ls (List.map (eL eTOutcome) x_36.Worlds))])])) (fun s => M171 w_51 (M172 f_1 x_36 (M173 i_31 (M174 f_1 (M175 f_1) n_32)) n_52) s = some r_2) ?_ ?_
     ·refine Tr.block ?_
      refine Tr.loopM (σ := Int) (fun n s => M170 f_1 x_36 w_51 (M171 w_51 (M172 f_1 x_36 (M173 i_31 (M174 f_1 (M175 f_1) n_32)) n_52)) n s) r_2 (fun s => ([(1, .pt 0 0), (2, (dI 0)), (5, (dI i_31)), (6, .pt 1 0), (7, (dI w_51)), (8, (dI s))], [some (.var [.d (.ls (List.map eTSegment f_1.Clocks.Segments)), .d (.ls (List.map (eL eI) f_1.Clocks.Far)), .d (.ls (List.map eTPair f_1.Pairs)), .d (.ls (List.map eTRunner f_1.Runners))]), some (.var [(dI x_36.Bib), .d (.ls (List.map eI x_36.Keys)), .d (.ls (List.map (eL eTOutcome) x_36.Worlds))])])) ((((((Option.getD (idx x_36.Worlds w_51) default)).length : Int)) - 0 : Int).toNat + 1) (0) h (fun s => rfl) (Wk.mk2 [0, 1] 2 rfl rfl (by decide) rfl ⟨rr, rr, trivial⟩ ⟨rr, rr, rr, rr, rr, rr, trivial⟩) ?_
      clear h
      rintro n_58 n_57 h
      replace h : M170 f_1 x_36 w_51 (M171 w_51 (M172 f_1 x_36 (M173 i_31 (M174 f_1 (M175 f_1) n_32)) n_52)) (n_58 + 1) n_57 = some r_2 := h
      rw [M170] at h
      refine Tr.seq ?_
      refine sg ?_
      conv=>whnf
      obtain ⟨x_61, hx_61, h⟩ := bS h
      refine ixP_of hx_61 ?_
      conv=>whnf
      refine lnS_map ?_
      conv=>whnf
      refine Tr.cond ?_
      conv=>whnf
      refine cB h (fun hb62 h => ?_) (fun hb62 h => ?_)
      ·refine Tr.skip ?_
       conv=>whnf
       refine Tr.seq ?_
       refine Tr.block ?_
       refine sd [] [(0,3),(1,3),(2,4),(3,4),(4,1),(5,2),(6,2),(7,1),(8,2),(9,2),(10,1),(11,1)] ?_
       conv=>whnf
       refine q2 ?_
       conv=>whnf
       refine q2 ?_
       conv=>whnf
       refine q2 ?_
       conv=>whnf
       refine q2 ?_
       conv=>whnf
       refine q1 ?_
       conv=>whnf
       obtain ⟨x_63, hx_63, h⟩ := bS h
       refine q3 (ixP_of hx_63 rr) ?_
       conv=>whnf
       refine q2 ?_
       conv=>whnf
       refine q1 ?_
       conv=>whnf
       obtain ⟨x_64, hx_64, h⟩ := bS h
       refine q3 (ixP_of hx_64 rr) ?_
       conv=>whnf
       refine q2 ?_
       conv=>whnf
       obtain ⟨r_65, hc66, h⟩ := bS h
       refine q1 ?_ (fun _ => pe (P162 f_1.Clocks x_64 r_65 hc66) rr)
       conv=>whnf
       refine q1 ?_
       conv=>whnf
       refine Tr.cond ?_
       conv=>whnf
       refine cB h (fun hb67 h => ?_) (fun hb67 h => ?_)
       ·refine sg ?_
        conv=>whnf
        refine Tr.ret ?_
        conv=>whnf
        cases h
        rfl
       refine Tr.skip ?_
       conv=>whnf
       refine rg ?_
       conv=>whnf
       refine arS_raw ?_
       conv=>whnf
       refine ⟨((w64 (n_57 + 1))), h, ?_⟩
       exact Wk.mk2 [0, 1] 2 rfl rfl (by decide) rfl ⟨rr, rr, trivial⟩ ⟨rr, rr, rr, rr, rr, rr, trivial⟩
      refine Tr.exit ?_
      conv=>whnf
      refine ⟨(), h, ?_⟩
      exact Wk.mk2 [0, 1] 2 rfl rfl (by decide) rfl ⟨rr, rr, trivial⟩ ⟨rr, rr, rr, rr, rr, trivial⟩
     clear h
     rintro _ h T1 H1 hw
     replace h : M171 w_51 (M172 f_1 x_36 (M173 i_31 (M174 f_1 (M175 f_1) n_32)) n_52) () = some r_2 := h
     conv=>whnf
     refine Tr.weak hw ?_
     unfold M171 at h
     refine rg ?_
     conv=>whnf
     refine arS_raw ?_
     conv=>whnf
     refine ⟨((w64 (w_51 + 1))), h, ?_⟩
     exact Wk.mk2 [0, 1] 2 rfl rfl (by decide) rfl ⟨rr, rr, trivial⟩ ⟨rr, rr, rr, rr, rr, trivial⟩
    refine Tr.exit ?_
    conv=>whnf
    refine ⟨(), h, ?_⟩
    exact Wk.mk2 [0] 2 rfl rfl (by decide) rfl ⟨rr, trivial⟩ ⟨rr, rr, rr, trivial⟩
   clear h
   rintro _ h T1 H1 hw
   replace h : M173 i_31 (M174 f_1 (M175 f_1) n_32) () = some r_2 := h
   conv=>whnf
   refine Tr.weak hw ?_
   unfold M173 at h
   refine rg ?_
   conv=>whnf
   refine arS_raw ?_
   conv=>whnf
   refine ⟨((w64 (i_31 + 1))), h, ?_⟩
   exact Wk.mk2 [0] 1 rfl rfl (by decide) rfl ⟨rr, trivial⟩ ⟨rr, rr, rr, trivial⟩
  refine Tr.exit ?_
  conv=>whnf
  refine ⟨(), h, ?_⟩
  exact Wk.mk2 [0] 1 rfl rfl (by decide) rfl ⟨rr, trivial⟩ ⟨rr, rr, trivial⟩
 clear h
 rintro _ h T1 H1 hw
 replace h : M175 f_1 () = some r_2 := h
 conv=>whnf
 refine Tr.weak hw ?_
 unfold M175 at h
 refine Tr.seq ?_
 refine sg ?_
 conv=>whnf
 obtain ⟨r_68, hc69, h⟩ := bS h
 refine PC.ecall (P168 f_1 r_68 hc69) (fun rs hrs => ?_)
 subst hrs
 conv=>whnf
 refine Tr.cond ?_
 conv=>whnf
 refine cB h (fun hb70 h => ?_) (fun hb70 h => ?_)
 ·refine sg ?_
  conv=>whnf
  refine Tr.ret ?_
  conv=>whnf
  cases h
  rfl
 refine Tr.skip ?_
 conv=>whnf
 refine sg ?_
 conv=>whnf
 refine Tr.ret ?_
 conv=>whnf
 cases h
 rfl
end Go.Proofs.Try
