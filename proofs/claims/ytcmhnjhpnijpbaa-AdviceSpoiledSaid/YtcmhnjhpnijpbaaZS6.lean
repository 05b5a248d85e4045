/- Contracts of functions, by program (gen.py). No condition. -/
import Derived.Test.YtcmhnjhpnijpbaaZL
import Derived.Test.YtcmhnjhpnijpbaaZM
import Derived.Test.YtcmhnjhpnijpbaaZCB
import Derived.Test.YtcmhnjhpnijpbaaZS5
namespace Go.Proofs.Try
open Go Go.Abs Go.Stop
set_option maxRecDepth 8000
set_option linter.unusedVariables false
set_option linter.unusedSimpArgs false
theorem P138 (f_1 : TField) (r_2 : Bool) (h : M138 f_1 = some r_2) :
    PC prog 28 [(eTField f_1)] (fun rs => rs = [(.b r_2)]) := by
 refine PC.of_tr (cx := ⟨83, none, lay, 0⟩) layOK func28 rfl rfl rfl rfl rfl (by simp [f28]) ?_
 unfold M138 at h
 refine sg ?_
 conv=>whnf
 refine Tr.seq ?_
 refine sg ?_
 conv=>whnf
 refine Tr.cutQ (α := Unit) (fun s => ([(1, .pt 0 0), (2, .d (.b false))], [some (.var [.d (.ls (List.map eTSegment f_1.Clocks.Segments)), .d (.ls (List.map (eL eI) f_1.Clocks.Far)), .d (.ls (List.map eTPair f_1.Pairs)), .d (.ls (List.map eTRunner f_1.Runners))])])) (fun s => M137 f_1 s = some r_2) ?_ ?_
 ·refine Tr.block ?_
  refine Tr.loopM (σ := Int) (fun n s => M134 f_1 (M137 f_1) n s) r_2 (fun s => ([(1, .pt 0 0), (2, .d (.b false)), (3, (dI s))], [some (.var [.d (.ls (List.map eTSegment f_1.Clocks.Segments)), .d (.ls (List.map (eL eI) f_1.Clocks.Far)), .d (.ls (List.map eTPair f_1.Pairs)), .d (.ls (List.map eTRunner f_1.Runners))])])) (((((f_1.Runners).length : Int)) - 0 : Int).toNat + 1) (0) h (fun s => rfl) (Wk.mk2 [0] 1 rfl rfl (by decide) rfl ⟨rr, trivial⟩ ⟨rr, rr, rr, trivial⟩) ?_
  clear h
  rintro n_5 i_4 h
  replace h : M134 f_1 (M137 f_1) (n_5 + 1) i_4 = some r_2 := h
  rw [M134] at h
  refine Tr.seq ?_
  refine sg ?_
  conv=>whnf
  refine lnS_map ?_
  conv=>whnf
  refine Tr.cond ?_
  conv=>whnf
  refine cB h (fun hb8 h => ?_) (fun hb8 h => ?_)
  ·refine Tr.skip ?_
   conv=>whnf
   refine Tr.seq ?_
   refine Tr.block ?_
   refine sg ?_
   conv=>whnf
   obtain ⟨x_9, hx_9, h⟩ := bS h
   refine ixP_of hx_9 ?_
   conv=>whnf
   refine Tr.seq ?_
   refine sg ?_
   conv=>whnf
   refine lnS_map ?_
   conv=>whnf
   refine cB h (fun hb10 h => ?_) (fun hb10 h => ?_)
   ·conv=>whnf
    refine Tr.cond ?_
    conv=>whnf
    refine sg ?_
    conv=>whnf
    refine Tr.ret ?_
    conv=>whnf
    cases h
    rfl
   conv=>whnf
   refine lnS_map ?_
   conv=>whnf
   refine Tr.cond ?_
   conv=>whnf
   refine cB h (fun hb11 h => ?_) (fun hb11 h => ?_)
   ·refine sg ?_
    conv=>whnf
    refine Tr.ret ?_
    conv=>whnf
    cases h
    rfl
   refine Tr.skip ?_
   conv=>whnf
   refine sg ?_
   conv=>whnf
   refine Tr.cutQ (α := Unit) (fun s => ([(1, .pt 0 0), (2, .d (.b false)), (3, (dI i_4))], [some (.var [.d (.ls (List.map eTSegment f_1.Clocks.Segments)), .d (.ls (List.map (eL eI) f_1.Clocks.Far)), .d (.ls (List.map eTPair f_1.Pairs)), .d (.ls (List.map eTRunner f_1.Runners))])])) (fun s => M133 i_4 (M134 f_1 (M137 f_1) n_5) s = some r_2) ?_ ?_
   ·refine Tr.block ?_
    refine Tr.loopM (σ := Int) (fun n s => M132 x_9 (M133 i_4 (M134 f_1 (M137 f_1) n_5)) n s) r_2 (fun s => ([(1, .pt 0 0), (2, .d (.b false)), (3, (dI i_4)), (4, .pt 1 0), (5, (dI s))], [some (.var [.d (.ls (List.map eTSegment f_1.Clocks.Segments)), .d (.ls (List.map (eL eI) f_1.Clocks.Far)), .d (.ls (List.map eTPair f_1.Pairs)), .d (.ls (List.map eTRunner f_1.Runners))]), some (.var [(dI x_9.Bib), .d (.ls (List.map eI x_9.Keys)), .d (.ls (List.map (eL eTOutcome) x_9.Worlds))])])) (((((x_9.Worlds).length : Int)) - 0 : Int).toNat + 1) (0) h (fun s => rfl) (Wk.mk2 [0, 1] 2 rfl rfl (by decide) rfl ⟨rr, rr, trivial⟩ ⟨rr, rr, rr, rr, rr, trivial⟩) ?_
    clear h
    rintro n_14 w_13 h
    replace h : M132 x_9 (M133 i_4 (M134 f_1 (M137 f_1) n_5)) (n_14 + 1) w_13 = some r_2 := h
    rw [M132] at h
    refine Tr.seq ?_
    refine sg ?_
    conv=>whnf
    refine lnS_map ?_
    conv=>whnf
    refine Tr.cond ?_
    conv=>whnf
    refine cB h (fun hb17 h => ?_) (fun hb17 h => ?_)
    ·refine Tr.skip ?_
     conv=>whnf
     refine Tr.seq ?_
     refine Tr.block ?_
     refine sg ?_
     conv=>whnf
     obtain ⟨x_18, hx_18, h⟩ := bS h
     refine ixP_of hx_18 ?_
     conv=>whnf
     refine lnS_map ?_
     conv=>whnf
     refine Tr.cond ?_
     conv=>whnf
     refine cB h (fun hb19 h => ?_) (fun hb19 h => ?_)
     ·refine sg ?_
      conv=>whnf
      refine Tr.ret ?_
      conv=>whnf
      cases h
      rfl
     refine Tr.skip ?_
     conv=>whnf
     refine rg ?_
     conv=>whnf
     refine arS_raw ?_
     conv=>whnf
     refine ⟨((w64 (w_13 + 1))), h, ?_⟩
     exact Wk.mk2 [0, 1] 2 rfl rfl (by decide) rfl ⟨rr, rr, trivial⟩ ⟨rr, rr, rr, rr, rr, trivial⟩
    refine Tr.exit ?_
    conv=>whnf
    refine ⟨(), h, ?_⟩
    exact Wk.mk2 [0] 2 rfl rfl (by decide) rfl ⟨rr, trivial⟩ ⟨rr, rr, rr, trivial⟩
   clear h
   rintro _ h T1 H1 hw
   replace h : M133 i_4 (M134 f_1 (M137 f_1) n_5) () = some r_2 := h
   conv=>whnf
   refine Tr.weak hw ?_
   unfold M133 at h
   refine rg ?_
   conv=>whnf
   refine arS_raw ?_
   conv=>whnf
   refine ⟨((w64 (i_4 + 1))), h, ?_⟩
   exact Wk.mk2 [0] 1 rfl rfl (by decide) rfl ⟨rr, trivial⟩ ⟨rr, rr, rr, trivial⟩
  refine Tr.exit ?_
  conv=>whnf
  refine ⟨(), h, ?_⟩
  exact Wk.mk2 [0] 1 rfl rfl (by decide) rfl ⟨rr, trivial⟩ ⟨rr, rr, trivial⟩
 clear h
 rintro _ h T1 H1 hw
 replace h : M137 f_1 () = some r_2 := h
 conv=>whnf
 refine Tr.weak hw ?_
 unfold M137 at h
 refine Tr.seq ?_
 refine sg ?_
 conv=>whnf
 refine Tr.cutQ (α := Unit) (fun s => ([(1, .pt 0 0), (2, .d (.b false))], [some (.var [.d (.ls (List.map eTSegment f_1.Clocks.Segments)), .d (.ls (List.map (eL eI) f_1.Clocks.Far)), .d (.ls (List.map eTPair f_1.Pairs)), .d (.ls (List.map eTRunner f_1.Runners))])])) (fun s => M136 f_1 s = some r_2) ?_ ?_
 ·refine Tr.block ?_
  refine Tr.loopM (σ := Int) (fun n s => M135 f_1 (M136 f_1) n s) r_2 (fun s => ([(1, .pt 0 0), (2, .d (.b false)), (6, (dI s))], [some (.var [.d (.ls (List.map eTSegment f_1.Clocks.Segments)), .d (.ls (List.map (eL eI) f_1.Clocks.Far)), .d (.ls (List.map eTPair f_1.Pairs)), .d (.ls (List.map eTRunner f_1.Runners))])])) (((((f_1.Clocks.Far).length : Int)) - 0 : Int).toNat + 1) (0) h (fun s => rfl) (Wk.mk2 [0] 1 rfl rfl (by decide) rfl ⟨rr, trivial⟩ ⟨rr, rr, rr, trivial⟩) ?_
  clear h
  rintro n_22 i_21 h
  replace h : M135 f_1 (M136 f_1) (n_22 + 1) i_21 = some r_2 := h
  rw [M135] at h
  refine Tr.seq ?_
  refine sg ?_
  conv=>whnf
  refine lnS_map ?_
  conv=>whnf
  refine Tr.cond ?_
  conv=>whnf
  refine cB h (fun hb25 h => ?_) (fun hb25 h => ?_)
  ·refine Tr.skip ?_
   conv=>whnf
   refine Tr.seq ?_
   refine Tr.block ?_
   refine sg ?_
   conv=>whnf
   obtain ⟨x_26, hx_26, h⟩ := bS h
   refine ixP_of hx_26 ?_
   conv=>whnf
   refine lnS_map ?_
   conv=>whnf
   refine Tr.cond ?_
   conv=>whnf
   refine cB h (fun hb27 h => ?_) (fun hb27 h => ?_)
   ·refine sg ?_
    conv=>whnf
    refine Tr.ret ?_
    conv=>whnf
    cases h
    rfl
   refine Tr.skip ?_
   conv=>whnf
   refine rg ?_
   conv=>whnf
   refine arS_raw ?_
   conv=>whnf
   refine ⟨((w64 (i_21 + 1))), h, ?_⟩
   exact Wk.mk2 [0] 1 rfl rfl (by decide) rfl ⟨rr, trivial⟩ ⟨rr, rr, rr, trivial⟩
  refine Tr.exit ?_
  conv=>whnf
  refine ⟨(), h, ?_⟩
  exact Wk.mk2 [0] 1 rfl rfl (by decide) rfl ⟨rr, trivial⟩ ⟨rr, rr, trivial⟩
 clear h
 rintro _ h T1 H1 hw
 replace h : M136 f_1 () = some r_2 := h
 conv=>whnf
 refine Tr.weak hw ?_
 unfold M136 at h
 refine Tr.seq ?_
 refine Tr.cutQ1 ([(2, .d (.b ((decide ((((f_1.Runners).length : Int)) ≤ 6)) && ((decide ((((f_1.Pairs).length : Int)) ≤ 3)) && ((decide ((((f_1.Clocks.Segments).length : Int)) ≤ 4)) && (decide ((((f_1.Clocks.Far).length : Int)) ≤ 6)))))))]) ([]) ?_ (fun T1 H1 hw => ?_)
 ·refine rg ?_
  conv=>whnf
  refine lnS_map ?_
  conv=>whnf
  refine condS_mk (fun hb29 => ?_) (fun hb29 => ?_)
  ·conv=>whnf
   refine lnS_map ?_
   conv=>whnf
   refine condS_mk (fun hb30 => ?_) (fun hb30 => ?_)
   ·conv=>whnf
    refine lnS_map ?_
    conv=>whnf
    refine condS_mk (fun hb31 => ?_) (fun hb31 => ?_)
    ·conv=>whnf
     refine lnS_map ?_
     conv=>whnf
     exact Wk.mk2 [] 1 rfl rfl (by decide) rfl trivial ⟨⟨rfl, (by first | rfl | (simp only [↓hb29, ↓hb30, ↓hb31, bl, List.length_set]; done) | (simp only [↓hb29, ↓hb30, ↓hb31, bl, List.length_set]; rfl))⟩, trivial⟩
    conv=>whnf
    exact Wk.mk2 [] 1 rfl rfl (by decide) rfl trivial ⟨⟨rfl, (by first | rfl | (simp only [↓hb29, ↓hb30, ↓hb31, bl, List.length_set]; done) | (simp only [↓hb29, ↓hb30, ↓hb31, bl, List.length_set]; rfl))⟩, trivial⟩
   conv=>whnf
   exact Wk.mk2 [] 1 rfl rfl (by decide) rfl trivial ⟨⟨rfl, (by first | rfl | (simp only [↓hb29, ↓hb30, bl, List.length_set]; done) | (simp only [↓hb29, ↓hb30, bl, List.length_set]; rfl))⟩, trivial⟩
  conv=>whnf
  exact Wk.mk2 [] 1 rfl rfl (by decide) rfl trivial ⟨⟨rfl, (by first | rfl | (simp only [↓hb29, bl, List.length_set]; done) | (simp only [↓hb29, bl, List.length_set]; rfl))⟩, trivial⟩
 conv=>whnf
 refine Tr.weak hw ?_
 refine Tr.ret ?_
 conv=>whnf
 cases h
 rfl
theorem P140 (rc_9063 : TPlan → Int → Option (Int)) (ih_9063 : ∀ (p_1 : TPlan) (depth_2 : Int) (r_3 : Int), rc_9063 p_1 depth_2 = some r_3 → PC prog 29 [(eTPlan p_1), (.i .i64 depth_2)] (fun rs => rs = [(.i .i64 r_3)])) (p_1 : TPlan) (depth_2 : Int) (r_3 : Int) (h : M140 rc_9063 p_1 depth_2 = some r_3) :
    PC prog 29 [(eTPlan p_1), (.i .i64 depth_2)] (fun rs => rs = [(.i .i64 r_3)]) := by
 refine PC.of_tr (cx := ⟨31, none, lay, 0⟩) layOK func29 rfl rfl rfl rfl rfl (by simp [f29]) ?_
 unfold M140 at h
 refine sg ?_
 conv=>whnf
 refine Tr.seq ?_
 refine sg ?_
 conv=>whnf
 refine Tr.cond ?_
 conv=>whnf
 refine cB h (fun hb4 h => ?_) (fun hb4 h => ?_)
 ·refine sg ?_
  conv=>whnf
  refine Tr.ret ?_
  conv=>whnf
  cases h
  rfl
 refine Tr.skip ?_
 conv=>whnf
 refine sg ?_
 conv=>whnf
 refine Tr.seq ?_
 refine sg ?_
 conv=>whnf
 obtain ⟨n_10, hv19, h⟩ := bS h
 refine Tr.cutQ1 ([(4, (dI 0)), (5, (dI n_10))]) ([]) ?_ (fun T1 H1 hw => ?_)
 ·replace h := hv19; clear hv19
  refine Tr.block ?_
  refine Tr.loopM (σ := Int × Int) (fun n s => M139 p_1 depth_2 rc_9063 n s.1 s.2) n_10 (fun s => ([(1, (dI depth_2)), (2, .pt 0 0), (4, (dI 0)), (5, (dI s.1)), (6, (dI s.2))], [some (.var [(dI p_1.Look), .d (.ls (List.map eTPlan0 p_1.After))])])) (((((p_1.After).length : Int)) - 0 : Int).toNat + 1) (1, 0) h (fun s => rfl) (Wk.mk2 [0] 1 rfl rfl (by decide) rfl ⟨rr, trivial⟩ ⟨rr, rr, rr, rr, rr, trivial⟩) ?_
  clear h
  rintro n_9 ⟨n_7, i_8⟩ h
  replace h : M139 p_1 depth_2 rc_9063 (n_9 + 1) n_7 i_8 = some n_10 := h
  rw [M139] at h
  refine Tr.seq ?_
  refine sg ?_
  conv=>whnf
  refine lnS_map ?_
  conv=>whnf
  refine cB h (fun hb13 h => ?_) (fun hb13 h => ?_)
  ·conv=>whnf
   refine Tr.cond ?_
   conv=>whnf
   refine cB h (fun hb14 h => ?_) (fun hb14 h => ?_)
   ·refine Tr.skip ?_
    conv=>whnf
    refine Tr.seq ?_
    refine Tr.block ?_
    refine rg ?_
    conv=>whnf
    obtain ⟨x_15, hx_15, h⟩ := bS h
    obtain ⟨p_16, hp_16, h⟩ := bS h
    rw [uTPlan_eq hp_16] at hx_15
    refine ixP_of hx_15 ?_
    conv=>whnf
    refine arS_raw ?_
    conv=>whnf
    obtain ⟨r_17, hc18, h⟩ := bS h
    refine PC.ecall (ih_9063 p_16 ((w64 (depth_2 + 1))) r_17 hc18) (fun rs hrs => ?_)
    subst hrs
    conv=>whnf
    refine arS_raw ?_
    conv=>whnf
    refine rg ?_
    conv=>whnf
    refine arS_raw ?_
    conv=>whnf
    refine ⟨((w64 (n_7 + r_17)), (w64 (i_8 + 1))), h, ?_⟩
    exact Wk.mk2 [0] 1 rfl rfl (by decide) rfl ⟨rr, trivial⟩ ⟨rr, rr, rr, rr, rr, trivial⟩
   refine Tr.exit ?_
   conv=>whnf
   cases h
   exact Wk.mk2 [] 1 rfl rfl (by decide) rfl trivial ⟨rr, rr, trivial⟩
  conv=>whnf
  refine Tr.cond ?_
  conv=>whnf
  refine Tr.exit ?_
  conv=>whnf
  cases h
  exact Wk.mk2 [] 1 rfl rfl (by decide) rfl trivial ⟨rr, rr, trivial⟩
 clear hv19
 conv=>whnf
 refine Tr.weak hw ?_
 refine sg ?_
 conv=>whnf
 refine Tr.ret ?_
 conv=>whnf
 cases h
 rfl
theorem P141 (n : Nat) : ∀ (p_1 : TPlan) (depth_2 : Int) (r_3 : Int), M141 n p_1 depth_2 = some r_3 → PC prog 29 [(eTPlan p_1), (.i .i64 depth_2)] (fun rs => rs = [(.i .i64 r_3)]) := by
  induction n with
  | zero =>
    intros
    rename_i h
    cases h
  | succ n ih => exact P140 (M141 n) ih
theorem P144 (q_1 : TQuestion) (p_2 : TPlan) (r_3 : Bool) (h : M144 q_1 p_2 = some r_3) :
    PC prog 12 [(eTQuestion q_1), (eTPlan p_2)] (fun rs => rs = [(.b r_3)]) := by
 refine PC.of_tr (cx := ⟨35, none, lay, 0⟩) layOK func12 rfl rfl rfl rfl rfl (by simp [f12]) ?_
 unfold M144 at h
 refine sg ?_
 conv=>whnf
 refine Tr.seq ?_
 refine sg ?_
 conv=>whnf
 refine Tr.cutQ (α := Unit) (fun s => ([(2, .pt 0 0), (3, .pt 1 0), (4, .d (.b false))], [some (.var [.d (.ls (List.map eTSegment q_1.Field.Clocks.Segments)), .d (.ls (List.map (eL eI) q_1.Field.Clocks.Far)), .d (.ls (List.map eTPair q_1.Field.Pairs)), .d (.ls (List.map eTRunner q_1.Field.Runners)), (dI q_1.Runner), .d (.ls (List.map eTLook q_1.Looks))]), some (.var [(dI p_2.Look), .d (.ls (List.map eTPlan0 p_2.After))])])) (fun s => M143 q_1 p_2 s = some r_3) ?_ ?_
 ·refine Tr.block ?_
  refine Tr.loopM (σ := Int) (fun n s => M142 q_1 (M143 q_1 p_2) n s) r_3 (fun s => ([(2, .pt 0 0), (3, .pt 1 0), (4, .d (.b false)), (5, (dI s))], [some (.var [.d (.ls (List.map eTSegment q_1.Field.Clocks.Segments)), .d (.ls (List.map (eL eI) q_1.Field.Clocks.Far)), .d (.ls (List.map eTPair q_1.Field.Pairs)), .d (.ls (List.map eTRunner q_1.Field.Runners)), (dI q_1.Runner), .d (.ls (List.map eTLook q_1.Looks))]), some (.var [(dI p_2.Look), .d (.ls (List.map eTPlan0 p_2.After))])])) (((((q_1.Looks).length : Int)) - 0 : Int).toNat + 1) (0) h (fun s => rfl) (Wk.mk2 [0, 1] 2 rfl rfl (by decide) rfl ⟨rr, rr, trivial⟩ ⟨rr, rr, rr, rr, trivial⟩) ?_
  clear h
  rintro n_6 i_5 h
  replace h : M142 q_1 (M143 q_1 p_2) (n_6 + 1) i_5 = some r_3 := h
  rw [M142] at h
  refine Tr.seq ?_
  refine sg ?_
  conv=>whnf
  refine lnS_map ?_
  conv=>whnf
  refine Tr.cond ?_
  conv=>whnf
  refine cB h (fun hb9 h => ?_) (fun hb9 h => ?_)
  ·refine Tr.skip ?_
   conv=>whnf
   refine Tr.seq ?_
   refine Tr.block ?_
   refine sg ?_
   conv=>whnf
   obtain ⟨x_10, hx_10, h⟩ := bS h
   refine ixP_of hx_10 ?_
   conv=>whnf
   refine lnS_map ?_
   conv=>whnf
   refine Tr.cond ?_
   conv=>whnf
   refine cB h (fun hb11 h => ?_) (fun hb11 h => ?_)
   ·refine sg ?_
    conv=>whnf
    refine Tr.ret ?_
    conv=>whnf
    cases h
    rfl
   refine Tr.skip ?_
   conv=>whnf
   refine rg ?_
   conv=>whnf
   refine arS_raw ?_
   conv=>whnf
   refine ⟨((w64 (i_5 + 1))), h, ?_⟩
   exact Wk.mk2 [0, 1] 2 rfl rfl (by decide) rfl ⟨rr, rr, trivial⟩ ⟨rr, rr, rr, rr, trivial⟩
  refine Tr.exit ?_
  conv=>whnf
  refine ⟨(), h, ?_⟩
  exact Wk.mk2 [0, 1] 2 rfl rfl (by decide) rfl ⟨rr, rr, trivial⟩ ⟨rr, rr, rr, trivial⟩
 clear h
 rintro _ h T1 H1 hw
 replace h : M143 q_1 p_2 () = some r_3 := h
 conv=>whnf
 refine Tr.weak hw ?_
 unfold M143 at h
 refine sg ?_
 conv=>whnf
 obtain ⟨r_12, hc13, h⟩ := bS h
 refine PC.ecall (P138 q_1.Field r_12 hc13) (fun rs hrs => ?_)
 subst hrs
 conv=>whnf
 refine cB h (fun hb14 h => ?_) (fun hb14 h => ?_)
 ·conv=>whnf
  refine lnS_map ?_
  conv=>whnf
  refine cB h (fun hb15 h => ?_) (fun hb15 h => ?_)
  ·conv=>whnf
   obtain ⟨r_16, hc17, h⟩ := bS h
   refine PC.ecall (P141 1000 p_2 0 r_16 hc17) (fun rs hrs => ?_)
   subst hrs
   conv=>whnf
   refine Tr.ret ?_
   conv=>whnf
   cases h
   rfl
  conv=>whnf
  refine Tr.ret ?_
  conv=>whnf
  cases h
  rfl
 conv=>whnf
 refine Tr.ret ?_
 conv=>whnf
 cases h
 rfl
theorem P228 (q_1 : TQuestion) (p_2 : TPlan) (r_3 : Bool) (h : M228 q_1 p_2 = some r_3) :
    PC prog 7 [(eTQuestion q_1), (eTPlan p_2)] (fun rs => rs = [(.b r_3)]) := by
 refine PC.of_tr (cx := ⟨54, none, lay, 0⟩) layOK func7 rfl rfl rfl rfl rfl (by simp [f7]) ?_
 unfold M228 at h
 refine sg ?_
 conv=>whnf
 refine Tr.seq ?_
 refine sg ?_
 conv=>whnf
 obtain ⟨r_4, hc5, h⟩ := bS h
 refine PC.ecall (P131 r_4 hc5) (fun rs hrs => ?_)
 subst hrs
 conv=>whnf
 refine Tr.cond ?_
 conv=>whnf
 refine cB h (fun hb6 h => ?_) (fun hb6 h => ?_)
 ·refine sg ?_
  conv=>whnf
  refine Tr.ret ?_
  conv=>whnf
  cases h
  rfl
 refine Tr.skip ?_
 conv=>whnf
 refine Tr.seq ?_
 refine Tr.seq ?_
 obtain ⟨v_7, hv8, h⟩ := bS h
 refine Tr.cutQ1 ([(2, .pt 0 0), (3, .pt 1 0), (4, .d (.b false)), (29, .d (.b v_7))]) ([some (.var [.d (.ls (List.map eTSegment q_1.Field.Clocks.Segments)), .d (.ls (List.map (eL eI) q_1.Field.Clocks.Far)), .d (.ls (List.map eTPair q_1.Field.Pairs)), .d (.ls (List.map eTRunner q_1.Field.Runners)), (dI q_1.Runner), .d (.ls (List.map eTLook q_1.Looks))]), some (.var [(dI p_2.Look), .d (.ls (List.map eTPlan0 p_2.After))])]) ?_ (fun T1 H1 hw => ?_)
 ·replace h := hv8; clear hv8
  refine rg ?_
  conv=>whnf
  obtain ⟨r_9, hc10, h⟩ := bS h
  refine PC.ecall (P144 q_1 p_2 r_9 hc10) (fun rs hrs => ?_)
  subst hrs
  conv=>whnf
  refine cB h (fun hb11 h => ?_) (fun hb11 h => ?_)
  ·conv=>whnf
   cases h
   exact Wk.mk2 [0, 1] 2 rfl rfl (by decide) rfl ⟨rr, rr, trivial⟩ ⟨rr, rr, rr, rr, trivial⟩
  conv=>whnf
  obtain ⟨r_12, hc13, h⟩ := bS h
  refine PC.ecall (P130 q_1 p_2 r_12 hc13) (fun rs hrs => ?_)
  subst hrs
  conv=>whnf
  refine cB h (fun hb14 h => ?_) (fun hb14 h => ?_)
  ·conv=>whnf
   cases h
   exact Wk.mk2 [0, 1] 2 rfl rfl (by decide) rfl ⟨rr, rr, trivial⟩ ⟨rr, rr, rr, rr, trivial⟩
  conv=>whnf
  refine cB h (fun hb15 h => ?_) (fun hb15 h => ?_)
  ·conv=>whnf
   cases h
   exact Wk.mk2 [0, 1] 2 rfl rfl (by decide) rfl ⟨rr, rr, trivial⟩ ⟨rr, rr, rr, rr, trivial⟩
  conv=>whnf
  refine lnS_map ?_
  conv=>whnf
  cases h
  exact Wk.mk2 [0, 1] 2 rfl rfl (by decide) rfl ⟨rr, rr, trivial⟩ ⟨rr, rr, rr, rr, trivial⟩
 clear hv8
 conv=>whnf
 refine Tr.weak hw ?_
 refine Tr.cond ?_
 conv=>whnf
 refine cB h (fun hb16 h => ?_) (fun hb16 h => ?_)
 ·refine sg ?_
  conv=>whnf
  refine Tr.ret ?_
  conv=>whnf
  cases h
  rfl
 refine Tr.skip ?_
 conv=>whnf
 refine Tr.seq ?_
 refine Tr.draw (DrawP.treeQ layOK mixed [(4, 2), (4, 3), (5, 2), (5, 3)] (.one 0 4 (.one 1 4 (.two 2 (.one 3 0 (.one 4 0 (.one 5 0 .nil))) 3 (.one 2 0 (.one 4 0 (.one 5 0 .nil)))))) (by kernel_rfl) ?_)
 conv=>whnf
 refine q2 ?_
 conv=>whnf
 refine q2 ?_
 conv=>whnf
 refine ⟨?_, ?_⟩
 ·conv=>whnf
  refine ⟨_, _, rr, kp_ok (by repeat (first | exact trivial | refine ⟨trivial, ?_⟩ | refine ⟨rfl, ?_⟩)), ?_⟩
  conv=>whnf
  refine ⟨_, _, rr, kp_ok (by repeat (first | exact trivial | refine ⟨trivial, ?_⟩ | refine ⟨rfl, ?_⟩)), ?_⟩
  conv=>whnf
  refine ⟨_, _, rr, kp_ok (by repeat (first | exact trivial | refine ⟨trivial, ?_⟩ | refine ⟨rfl, ?_⟩)), ?_⟩
  conv=>whnf
  refine ⟨_, _, rr, kp_ok (by repeat (first | exact trivial | refine ⟨trivial, ?_⟩ | refine ⟨rfl, ?_⟩)), ?_⟩
  conv=>whnf
  refine sg ?_
  conv=>whnf
  refine lnS_map ?_
  conv=>whnf
  refine arS_raw ?_
  conv=>whnf
  refine szS_mk (szq_map fun _ => rfl) ?_
  conv=>whnf
  obtain ⟨l_17, hl_17, h⟩ := bS h
  refine slS_to hl_17 (by simp) rfl (fun he => ?_)
  conv=>whnf
  refine lsS_mk (es' := List.map eTPlan0 l_17) (by subst he; simp [List.map_take, List.map_drop]) ?_
  clear he
  conv=>whnf
  refine sg ?_
  conv=>whnf
  refine lnS_map ?_
  conv=>whnf
  refine sg ?_
  conv=>whnf
  obtain ⟨r_18, hc19, h⟩ := bS h
  refine PC.ecall (P130 q_1 ({ Look := p_2.Look, After := l_17 } : TPlan) r_18 hc19) (fun rs hrs => ?_)
  subst hrs
  conv=>whnf
  refine cB h (fun hb20 h => ?_) (fun hb20 h => ?_)
  ·conv=>whnf
   obtain ⟨r_21, hc22, h⟩ := bS h
   refine PC.ecall (P130 q_1 (({ Look := (((q_1.Looks).length : Int)), After := p_2.After } : TPlan)) r_21 hc22) (fun rs hrs => ?_)
   subst hrs
   conv=>whnf
   refine Tr.ret ?_
   conv=>whnf
   cases h
   rfl
  conv=>whnf
  refine Tr.ret ?_
  conv=>whnf
  cases h
  rfl
 ·conv=>whnf
  refine ⟨_, _, rr, kp_ok (by repeat (first | exact trivial | refine ⟨trivial, ?_⟩ | refine ⟨rfl, ?_⟩)), ?_⟩
  conv=>whnf
  refine ⟨_, _, rr, kp_ok (by repeat (first | exact trivial | refine ⟨trivial, ?_⟩ | refine ⟨rfl, ?_⟩)), ?_⟩
  conv=>whnf
  refine ⟨_, _, rr, kp_ok (by repeat (first | exact trivial | refine ⟨trivial, ?_⟩ | refine ⟨rfl, ?_⟩)), ?_⟩
  conv=>whnf
  refine ⟨_, _, rr, kp_ok (by repeat (first | exact trivial | refine ⟨trivial, ?_⟩ | refine ⟨rfl, ?_⟩)), ?_⟩
  conv=>whnf
  refine sg ?_
  conv=>whnf
  refine lnS_map ?_
  conv=>whnf
  refine arS_raw ?_
  conv=>whnf
  refine szS_mk (szq_map fun _ => rfl) ?_
  conv=>whnf
  obtain ⟨l_23, hl_23, h⟩ := bS h
  refine slS_to hl_23 (by simp) rfl (fun he => ?_)
  conv=>whnf
  refine lsS_mk (es' := List.map eTPlan0 l_23) (by subst he; simp [List.map_take, List.map_drop]) ?_
  clear he
  conv=>whnf
  refine sg ?_
  conv=>whnf
  refine lnS_map ?_
  conv=>whnf
  refine sg ?_
  conv=>whnf
  obtain ⟨r_24, hc25, h⟩ := bS h
  refine PC.ecall (P130 q_1 ({ Look := p_2.Look, After := l_23 } : TPlan) r_24 hc25) (fun rs hrs => ?_)
  subst hrs
  conv=>whnf
  refine cB h (fun hb26 h => ?_) (fun hb26 h => ?_)
  ·conv=>whnf
   obtain ⟨r_27, hc28, h⟩ := bS h
   refine PC.ecall (P130 q_1 (({ Look := (((q_1.Looks).length : Int)), After := p_2.After } : TPlan)) r_27 hc28) (fun rs hrs => ?_)
   subst hrs
   conv=>whnf
   refine Tr.ret ?_
   conv=>whnf
   cases h
   rfl
  conv=>whnf
  refine Tr.ret ?_
  conv=>whnf
  cases h
  rfl
end Go.Proofs.Try
