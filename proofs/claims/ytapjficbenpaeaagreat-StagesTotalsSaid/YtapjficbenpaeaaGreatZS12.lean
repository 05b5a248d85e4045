/- Contracts of functions, by program (gen.py). No condition. -/
import Derived.Test.YtapjficbenpaeaaGreatZL
import Derived.Test.YtapjficbenpaeaaGreatZM
import Derived.Test.YtapjficbenpaeaaGreatZCB
import Derived.Test.YtapjficbenpaeaaGreatZS11
namespace Go.Proofs.Tryz
open Go Go.Abs Go.Stop
set_option maxRecDepth 8000
set_option linter.unusedVariables false
set_option linter.unusedSimpArgs false
theorem P298 (s_1 : TSpan) (r_2 : Int) (h : M298 s_1 = some r_2) :
    PC prog 97 [(eTSpan s_1)] (fun rs => rs = [(.i .i64 r_2)]) := by
 refine PC.of_tr (cx := ⟨18, none, lay, 0⟩) layOK func97 rfl rfl rfl rfl rfl (by simp [f97]) ?_
 unfold M298 at h
 refine sg ?_
 conv=>whnf
 refine Tr.seq ?_
 refine sg ?_
 conv=>whnf
 refine cB h (fun hb3 h => ?_) (fun hb3 h => ?_)
 ·conv=>whnf
  refine Tr.cond ?_
  conv=>whnf
  refine sg ?_
  conv=>whnf
  refine Tr.ret ?_
  conv=>whnf
  cases h
  rfl
 conv=>whnf
 refine cB h (fun hb4 h => ?_) (fun hb4 h => ?_)
 ·conv=>whnf
  refine Tr.cond ?_
  conv=>whnf
  refine sg ?_
  conv=>whnf
  refine Tr.ret ?_
  conv=>whnf
  cases h
  rfl
 conv=>whnf
 refine Tr.cond ?_
 conv=>whnf
 refine cB h (fun hb5 h => ?_) (fun hb5 h => ?_)
 ·refine sg ?_
  conv=>whnf
  refine Tr.ret ?_
  conv=>whnf
  cases h
  rfl
 refine Tr.skip ?_
 conv=>whnf
 refine sg ?_
 conv=>whnf
 refine Tr.ret ?_
 conv=>whnf
 cases h
 rfl
theorem P301 (l_1 : List TSpan) (r_2 : Int) (h : M301 l_1 = some r_2) :
    PC prog 95 [(.ls (List.map eTSpan l_1))] (fun rs => rs = [(.i .i64 r_2)]) := by
 refine PC.of_tr (cx := ⟨19, none, lay, 0⟩) layOK func95 rfl rfl rfl rfl rfl (by simp [f95]) ?_
 unfold M301 at h
 refine sg ?_
 conv=>whnf
 refine Tr.seq ?_
 refine sg ?_
 conv=>whnf
 refine lnS_map ?_
 conv=>whnf
 refine Tr.cond ?_
 conv=>whnf
 refine cB h (fun hb3 h => ?_) (fun hb3 h => ?_)
 ·refine sg ?_
  conv=>whnf
  refine Tr.ret ?_
  conv=>whnf
  cases h
  rfl
 refine Tr.skip ?_
 conv=>whnf
 refine Tr.seq ?_
 refine sg ?_
 conv=>whnf
 refine Tr.cutQ (α := Unit) (fun s => ([(2, (dI 0))], [])) (fun s => M300 s = some r_2) ?_ ?_
 ·refine Tr.block ?_
  refine Tr.loopM (σ := Int) (fun n s => M299 l_1 M300 n s) r_2 (fun s => ([(0, .d (.ls (List.map eTSpan l_1))), (2, (dI 0)), (3, (dI s))], [])) (((((l_1).length : Int)) - 0 : Int).toNat + 1) (0) h (fun s => rfl) (Wk.mk2 [] 0 rfl rfl (by decide) rfl trivial ⟨rr, rr, rr, trivial⟩) ?_
  clear h
  rintro n_6 i_5 h
  replace h : M299 l_1 M300 (n_6 + 1) i_5 = some r_2 := h
  rw [M299] at h
  refine Tr.seq ?_
  refine sg ?_
  conv=>whnf
  refine lnS_map ?_
  conv=>whnf
  refine Tr.cond ?_
  conv=>whnf
  refine cB h (fun hb9 h => ?_) (fun hb9 h => ?_)
  ·refine Tr.skip ?_
   conv=>whnf
   refine Tr.seq ?_
   refine Tr.block ?_
   refine sg ?_
   conv=>whnf
   obtain ⟨x_10, hx_10, h⟩ := bS h
   refine ixP_of hx_10 ?_
   conv=>whnf
   obtain ⟨r_11, hc12, h⟩ := bS h
   refine PC.ecall (P298 x_10 r_11 hc12) (fun rs hrs => ?_)
   subst hrs
   conv=>whnf
   refine Tr.cond ?_
   conv=>whnf
   refine cB h (fun hb13 h => ?_) (fun hb13 h => ?_)
   ·refine sg ?_
    conv=>whnf
    refine Tr.ret ?_
    conv=>whnf
    cases h
    rfl
   refine Tr.skip ?_
   conv=>whnf
   refine rg ?_
   conv=>whnf
   refine arS_raw ?_
   conv=>whnf
   refine ⟨((w64 (i_5 + 1))), h, ?_⟩
   exact Wk.mk2 [] 0 rfl rfl (by decide) rfl trivial ⟨rr, rr, rr, trivial⟩
  refine Tr.exit ?_
  conv=>whnf
  refine ⟨(), h, ?_⟩
  exact Wk.mk2 [] 0 rfl rfl (by decide) rfl trivial ⟨rr, trivial⟩
 clear h
 rintro _ h T1 H1 hw
 replace h : M300 () = some r_2 := h
 conv=>whnf
 refine Tr.weak hw ?_
 unfold M300 at h
 refine sg ?_
 conv=>whnf
 refine Tr.ret ?_
 conv=>whnf
 cases h
 rfl
theorem P303 (l_1 : List TSpan) (s_2 : TSpan) (r_3 : List TSpan) (h : M303 l_1 s_2 = some r_3) :
    PC prog 118 [(.ls (List.map eTSpan l_1)), (eTSpan s_2)] (fun rs => rs = [(.ls (List.map eTSpan r_3))]) := by
 refine PC.of_tr (cx := ⟨79, none, lay, 0⟩) layOK func118 rfl rfl rfl rfl rfl (by simp [f118]) ?_
 unfold M303 at h
 refine sg ?_
 conv=>whnf
 refine sg ?_
 conv=>whnf
 refine orB_l ?_
 conv=>whnf
 refine sg ?_
 conv=>whnf
 refine Tr.seq ?_
 refine sg ?_
 conv=>whnf
 obtain ⟨⟨done_15, v_16, v_17, l_18⟩, hv41, h⟩ := bS h
 refine Tr.cutQ1 ([(3, .pt 0 0), (4, .nsl), (5, .sl 1 2 0 (List.length l_18)), (6, .d (.b done_15))]) ([some (.var [(dI v_16), (dI v_17)]), some (.arr 2 (List.map .d (List.map eTSpan l_18)))]) ?_ (fun T1 H1 hw => ?_)
 ·replace h := hv41; clear hv41
  refine Tr.block ?_
  refine Tr.loopM (σ := Bool × Int × Int × Int × List TSpan) (fun n s => M302 l_1 n s.1 s.2.1 s.2.2.1 s.2.2.2.1 s.2.2.2.2) (done_15, v_16, v_17, l_18) (fun s => ([(0, .d (.ls (List.map eTSpan l_1))), (3, .pt 0 0), (4, .nsl), (5, .sl 1 2 0 (List.length s.2.2.2.2)), (6, .d (.b s.1)), (7, (dI s.2.1))], [some (.var [(dI s.2.2.1), (dI s.2.2.2.1)]), some (.arr 2 (List.map .d (List.map eTSpan s.2.2.2.2)))])) (((((l_1).length : Int)) - 0 : Int).toNat + 1) (false, 0, s_2.Lo, s_2.Hi, (([] : List TSpan))) h (fun s => rfl) (Wk.mk2 [0, 1] 2 rfl rfl (by decide) rfl ⟨rr, daS_d rfl, trivial⟩ ⟨rr, rr, rr, rr, rr, rr, trivial⟩) ?_
  clear h
  rintro n_14 ⟨done_9, i_10, v_11, v_12, l_13⟩ h
  replace h : M302 l_1 (n_14 + 1) done_9 i_10 v_11 v_12 l_13 = some (done_15, v_16, v_17, l_18) := h
  rw [M302] at h
  refine Tr.seq ?_
  refine sg ?_
  conv=>whnf
  refine lnS_map ?_
  conv=>whnf
  refine Tr.cond ?_
  conv=>whnf
  refine cB h (fun hb21 h => ?_) (fun hb21 h => ?_)
  ·refine Tr.skip ?_
   conv=>whnf
   refine Tr.seq ?_
   obtain ⟨⟨done_22, v_23, v_24, l_25⟩, hv26, h⟩ := bS h
   refine Tr.cutQ1 ([(0, .d (.ls (List.map eTSpan l_1))), (3, .pt 0 0), (4, .nsl), (5, .sl 1 2 0 (List.length l_25)), (6, .d (.b done_22)), (7, (dI i_10))]) ([some (.var [(dI v_23), (dI v_24)]), some (.arr 2 (List.map .d (List.map eTSpan l_25)))]) ?_ (fun T1 H1 hw => ?_)
   ·replace h := hv26; clear hv26
    refine Tr.block ?_
    refine Tr.block ?_
    refine sd [] [(0,1),(1,1),(2,2),(3,2),(4,2),(5,1),(6,3),(7,3),(8,1),(9,1)] ?_
    conv=>whnf
    refine q1 ?_
    conv=>whnf
    refine q1 ?_
    conv=>whnf
    obtain ⟨x_27, hx_27, h⟩ := bS h
    refine q3 (ixP_of hx_27 rr) ?_
    conv=>whnf
    refine q2 ?_
    conv=>whnf
    refine q2 ?_
    conv=>whnf
    refine q4 ?_
    conv=>whnf
    refine q2 ?_
    conv=>whnf
    refine q2 ?_
    conv=>whnf
    refine q1 ?_
    conv=>whnf
    refine q1 ?_
    conv=>whnf
    refine Tr.cond ?_
    conv=>whnf
    refine cB h (fun hb28 h => ?_) (fun hb28 h => ?_)
    ·refine rg ?_
     conv=>whnf
     obtain ⟨x_29, hx_29, h⟩ := bS h
     refine ixP_of hx_29 ?_
     conv=>whnf
     refine orB_r ?_
     conv=>whnf
     refine frP_no ?_
     conv=>whnf
     refine eqS_mk (by first | rfl | simp) ?_
     conv=>whnf
     obtain ⟨l_30, hl_30, h⟩ := bS h
     refine apS_of hl_30 (aQ (f := eTSpan) (l := (([x_29] : List TSpan))) fun _ => rfl) (by first | rfl | simp) (by first | rfl | simp) (fun he => ?_)
     conv=>whnf
     refine rS (es' := List.map .d (List.map eTSpan l_30)) (n' := List.length l_30) (by subst he; simp only [List.map_append, List.map_cons, List.map_nil, List.nil_append]; first | done | rfl) (by subst he; simp <;> omega) ?_
     clear he
     conv=>whnf
     cases h
     exact Wk.mk2 [0, 2] 3 rfl rfl (by decide) rfl ⟨rr, daS_d rfl, trivial⟩ ⟨rr, rr, rr, ⟨rfl, (by first | rfl | (simp only [↓hb21, ↓hb28, bl]; done) | (simp only [↓hb21, ↓hb28, bl]; rfl))⟩, rr, rr, trivial⟩
    refine sd [] [(0,3),(1,3),(2,1),(3,1),(4,1),(5,2),(6,2),(7,2),(8,1),(9,1)] ?_
    conv=>whnf
    refine q2 ?_
    conv=>whnf
    refine q2 ?_
    conv=>whnf
    refine q4 ?_
    conv=>whnf
    refine q1 ?_
    conv=>whnf
    refine q1 ?_
    conv=>whnf
    obtain ⟨x_31, hx_31, h⟩ := bS h
    refine q3 (ixP_of hx_31 rr) ?_
    conv=>whnf
    refine q2 ?_
    conv=>whnf
    refine q2 ?_
    conv=>whnf
    refine q1 ?_
    conv=>whnf
    refine q1 ?_
    conv=>whnf
    refine Tr.cond ?_
    conv=>whnf
    refine cB h (fun hb32 h => ?_) (fun hb32 h => ?_)
    ·refine Tr.seq ?_
     refine sg ?_
     conv=>whnf
     refine Tr.cond ?_
     conv=>whnf
     refine cB h (fun hb33 h => ?_) (fun hb33 h => ?_)
     ·refine sg ?_
      conv=>whnf
      refine orB_r ?_
      conv=>whnf
      refine frP_no ?_
      conv=>whnf
      refine eqS_mk (by first | rfl | simp) ?_
      conv=>whnf
      obtain ⟨l_34, hl_34, h⟩ := bS h
      refine apS_of hl_34 (aQ (f := eTSpan) (l := (([({ Lo := v_11, Hi := v_12 } : TSpan)] : List TSpan))) fun _ => rfl) (by first | rfl | simp) (by first | rfl | simp) (fun he => ?_)
      conv=>whnf
      refine rS (es' := List.map .d (List.map eTSpan l_34)) (n' := List.length l_34) (by subst he; simp only [List.map_append, List.map_cons, List.map_nil, List.nil_append]; first | done | rfl) (by subst he; simp <;> omega) ?_
      clear he
      conv=>whnf
      refine rg ?_
      conv=>whnf
      refine rg ?_
      conv=>whnf
      obtain ⟨x_35, hx_35, h⟩ := bS h
      refine ixP_of hx_35 ?_
      conv=>whnf
      refine orB_r ?_
      conv=>whnf
      refine frP_no ?_
      conv=>whnf
      refine eqS_mk (by first | rfl | simp) ?_
      conv=>whnf
      obtain ⟨l_36, hl_36, h⟩ := bS h
      refine apS_of hl_36 (aQ (f := eTSpan) (l := (([x_35] : List TSpan))) fun _ => rfl) (by first | rfl | simp) (by first | rfl | simp) (fun he => ?_)
      conv=>whnf
      refine rS (es' := List.map .d (List.map eTSpan l_36)) (n' := List.length l_36) (by subst he; simp only [List.map_append, List.map_cons, List.map_nil, List.nil_append]; first | done | rfl) (by subst he; simp <;> omega) ?_
      clear he
      conv=>whnf
      cases h
      exact Wk.mk2 [0, 3] 4 rfl rfl (by decide) rfl ⟨rr, daS_d rfl, trivial⟩ ⟨rr, rr, rr, ⟨rfl, (by first | rfl | (simp only [↓hb21, ↓hb28, ↓hb32, ↓hb33, bl]; done) | (simp only [↓hb21, ↓hb28, ↓hb32, ↓hb33, bl]; rfl))⟩, rr, rr, trivial⟩
     refine Tr.skip ?_
     conv=>whnf
     refine rg ?_
     conv=>whnf
     obtain ⟨x_37, hx_37, h⟩ := bS h
     refine ixP_of hx_37 ?_
     conv=>whnf
     refine orB_r ?_
     conv=>whnf
     refine frP_no ?_
     conv=>whnf
     refine eqS_mk (by first | rfl | simp) ?_
     conv=>whnf
     obtain ⟨l_38, hl_38, h⟩ := bS h
     refine apS_of hl_38 (aQ (f := eTSpan) (l := (([x_37] : List TSpan))) fun _ => rfl) (by first | rfl | simp) (by first | rfl | simp) (fun he => ?_)
     conv=>whnf
     refine rS (es' := List.map .d (List.map eTSpan l_38)) (n' := List.length l_38) (by subst he; simp only [List.map_append, List.map_cons, List.map_nil, List.nil_append]; first | done | rfl) (by subst he; simp <;> omega) ?_
     clear he
     conv=>whnf
     cases h
     exact Wk.mk2 [0, 2] 3 rfl rfl (by decide) rfl ⟨rr, daS_d rfl, trivial⟩ ⟨rr, rr, rr, ⟨rfl, (by first | rfl | (simp only [↓hb21, ↓hb28, ↓hb32, ↓hb33, bl]; done) | (simp only [↓hb21, ↓hb28, ↓hb32, ↓hb33, bl]; rfl))⟩, rr, rr, trivial⟩
    refine dq [(17,0)] [(0,3),(1,3),(2,1),(3,1),(4,2),(5,2),(6,2),(7,1),(8,3),(9,3),(10,1),(11,1),(12,2),(13,2),(14,2),(15,1),(16,1),(17,0)] ?_
    conv=>whnf
    refine q2 ?_
    conv=>whnf
    refine q2 ?_
    conv=>whnf
    refine q1 ?_
    conv=>whnf
    refine q1 ?_
    conv=>whnf
    obtain ⟨x_39, hx_39, h⟩ := bS h
    refine q3 (ixP_of hx_39 rr) ?_
    conv=>whnf
    refine q2 ?_
    conv=>whnf
    refine q2 ?_
    conv=>whnf
    refine q1 ?_
    conv=>whnf
    refine q2 ?_
    conv=>whnf
    refine q2 ?_
    conv=>whnf
    refine q1 ?_
    conv=>whnf
    refine q1 ?_
    conv=>whnf
    obtain ⟨x_40, hx_40, h⟩ := bS h
    refine q3 (ixP_of hx_40 rr) ?_
    conv=>whnf
    refine q2 ?_
    conv=>whnf
    refine q2 ?_
    conv=>whnf
    refine q1 ?_
    conv=>whnf
    refine q1 ?_
    conv=>whnf
    refine ⟨_, _, rr, kp_ok (by repeat (first | exact trivial | refine ⟨trivial, ?_⟩ | refine ⟨rfl, ?_⟩)), ?_⟩
    conv=>whnf
    cases h
    exact Wk.mk2 [0, 1] 2 rfl rfl (by decide) rfl ⟨rr, daS_d rfl, trivial⟩ ⟨rr, rr, rr, rr, rr, rr, trivial⟩
   clear hv26
   conv=>whnf
   refine Tr.weak hw ?_
   refine rg ?_
   conv=>whnf
   refine arS_raw ?_
   conv=>whnf
   refine ⟨(done_22, (w64 (i_10 + 1)), v_23, v_24, l_25), h, ?_⟩
   exact Wk.mk2 [0, 1] 2 rfl rfl (by decide) rfl ⟨rr, daS_d rfl, trivial⟩ ⟨rr, rr, rr, rr, rr, rr, trivial⟩
  refine Tr.exit ?_
  conv=>whnf
  cases h
  exact Wk.mk2 [0, 1] 2 rfl rfl (by decide) rfl ⟨rr, daS_d rfl, trivial⟩ ⟨rr, rr, rr, rr, trivial⟩
 clear hv41
 conv=>whnf
 refine Tr.weak hw ?_
 refine Tr.seq ?_
 refine sg ?_
 conv=>whnf
 refine Tr.cond ?_
 conv=>whnf
 refine cB h (fun hb42 h => ?_) (fun hb42 h => ?_)
 ·refine rg ?_
  conv=>whnf
  refine orB_r ?_
  conv=>whnf
  refine frP_no ?_
  conv=>whnf
  refine eqS_mk (by first | rfl | simp) ?_
  conv=>whnf
  obtain ⟨l_43, hl_43, h⟩ := bS h
  refine apS_of hl_43 (aQ (f := eTSpan) (l := (([({ Lo := v_16, Hi := v_17 } : TSpan)] : List TSpan))) fun _ => rfl) (by first | rfl | simp) (by first | rfl | simp) (fun he => ?_)
  conv=>whnf
  refine rS (es' := List.map .d (List.map eTSpan l_43)) (n' := List.length l_43) (by subst he; simp only [List.map_append, List.map_cons, List.map_nil, List.nil_append]; first | done | rfl) (by subst he; simp <;> omega) ?_
  clear he
  conv=>whnf
  refine sg ?_
  conv=>whnf
  refine Tr.ret ?_
  conv=>whnf
  refine frE_of (f := eTSpan) (l := l_43) rfl ?_
  conv=>whnf
  cases h
  rfl
 refine Tr.skip ?_
 conv=>whnf
 refine sg ?_
 conv=>whnf
 refine Tr.ret ?_
 conv=>whnf
 refine frE_of (f := eTSpan) (l := l_18) rfl ?_
 conv=>whnf
 cases h
 rfl
theorem P305 (l_1 : List TSpan) (r_2 : List TSpan) (h : M305 l_1 = some r_2) :
    PC prog 96 [(.ls (List.map eTSpan l_1))] (fun rs => rs = [(.ls (List.map eTSpan r_2))]) := by
 refine PC.of_tr (cx := ⟨19, none, lay, 0⟩) layOK func96 rfl rfl rfl rfl rfl (by simp [f96]) ?_
 unfold M305 at h
 refine sg ?_
 conv=>whnf
 refine sg ?_
 conv=>whnf
 refine orB_r ?_
 conv=>whnf
 refine Tr.seq ?_
 refine sg ?_
 conv=>whnf
 obtain ⟨out_8, hv15, h⟩ := bS h
 refine Tr.cutQ1 ([(2, .nsl), (3, .d (.ls (List.map eTSpan out_8)))]) ([]) ?_ (fun T1 H1 hw => ?_)
 ·replace h := hv15; clear hv15
  refine Tr.block ?_
  refine Tr.loopM (σ := List TSpan × Int) (fun n s => M304 l_1 n s.1 s.2) out_8 (fun s => ([(0, .d (.ls (List.map eTSpan l_1))), (2, .nsl), (3, .d (.ls (List.map eTSpan s.1))), (4, (dI s.2))], [])) (((((l_1).length : Int)) - 0 : Int).toNat + 1) ((([] : List TSpan)), 0) h (fun s => rfl) (Wk.mk2 [] 0 rfl rfl (by decide) rfl trivial ⟨rr, rr, rr, rr, trivial⟩) ?_
  clear h
  rintro n_7 ⟨out_5, i_6⟩ h
  replace h : M304 l_1 (n_7 + 1) out_5 i_6 = some out_8 := h
  rw [M304] at h
  refine Tr.seq ?_
  refine sg ?_
  conv=>whnf
  refine lnS_map ?_
  conv=>whnf
  refine Tr.cond ?_
  conv=>whnf
  refine cB h (fun hb11 h => ?_) (fun hb11 h => ?_)
  ·refine Tr.skip ?_
   conv=>whnf
   refine Tr.seq ?_
   refine Tr.block ?_
   refine rg ?_
   conv=>whnf
   obtain ⟨x_12, hx_12, h⟩ := bS h
   refine ixP_of hx_12 ?_
   conv=>whnf
   obtain ⟨r_13, hc14, h⟩ := bS h
   refine PC.ecall (P303 out_5 x_12 r_13 hc14) (fun rs hrs => ?_)
   subst hrs
   conv=>whnf
   refine rg ?_
   conv=>whnf
   refine arS_raw ?_
   conv=>whnf
   refine ⟨(r_13, (w64 (i_6 + 1))), h, ?_⟩
   exact Wk.mk2 [] 0 rfl rfl (by decide) rfl trivial ⟨rr, rr, rr, rr, trivial⟩
  refine Tr.exit ?_
  conv=>whnf
  cases h
  exact Wk.mk2 [] 0 rfl rfl (by decide) rfl trivial ⟨rr, rr, trivial⟩
 clear hv15
 conv=>whnf
 refine Tr.weak hw ?_
 refine sg ?_
 conv=>whnf
 refine Tr.ret ?_
 conv=>whnf
 cases h
 rfl
theorem P306 (l_1 : List TSpan) (r_2 : List TSpan) (r_3 : Int) (h : M306 l_1 = some (r_2, r_3)) :
    PC prog 67 [(.ls (List.map eTSpan l_1))] (fun rs => rs = [(.ls (List.map eTSpan r_2)), (.i .i64 r_3)]) := by
 refine PC.of_tr (cx := ⟨12, none, lay, 0⟩) layOK func67 rfl rfl rfl rfl rfl (by simp [f67]) ?_
 unfold M306 at h
 refine sg ?_
 conv=>whnf
 refine sg ?_
 conv=>whnf
 obtain ⟨r_4, hc5, h⟩ := bS h
 refine PC.ecall (P301 l_1 r_4 hc5) (fun rs hrs => ?_)
 subst hrs
 conv=>whnf
 refine Tr.seq ?_
 refine sg ?_
 conv=>whnf
 refine Tr.cond ?_
 conv=>whnf
 refine cB h (fun hb6 h => ?_) (fun hb6 h => ?_)
 ·refine sg ?_
  conv=>whnf
  refine Tr.ret ?_
  conv=>whnf
  cases h
  rfl
 refine Tr.skip ?_
 conv=>whnf
 refine sg ?_
 conv=>whnf
 obtain ⟨r_7, hc8, h⟩ := bS h
 refine PC.ecall (P305 l_1 r_7 hc8) (fun rs hrs => ?_)
 subst hrs
 conv=>whnf
 refine Tr.ret ?_
 conv=>whnf
 cases h
 rfl
theorem P309 (f_1 : TField) (runner_2 : Int) (r_3 : List TSpan) (r_4 : Bool) (r_5 : Int) (h : M309 f_1 runner_2 = some (r_3, r_4, r_5)) :
    PC prog 78 [(eTField f_1), (.i .i64 runner_2)] (fun rs => rs = [(.ls (List.map eTSpan r_3)), (.b r_4), (.i .i64 r_5)]) := by
 refine PC.of_tr (cx := ⟨73, none, lay, 0⟩) layOK func78 rfl rfl rfl rfl rfl (by simp [f78]) ?_
 unfold M309 at h
 refine sg ?_
 conv=>whnf
 refine sg ?_
 conv=>whnf
 refine sg ?_
 conv=>whnf
 refine Tr.seq ?_
 refine sg ?_
 conv=>whnf
 obtain ⟨⟨out_13, l_14⟩, hv44, h⟩ := bS h
 refine Tr.cutQ1 ([(4, .nsl), (5, .d (.b false)), (6, (dI 0)), (7, .sl 0 2 0 (List.length l_14)), (8, .d (.b out_13))]) ([some (.arr 2 (List.map .d (List.map eTSpan l_14)))]) ?_ (fun T1 H1 hw => ?_)
 ·replace h := hv44; clear hv44
  refine Tr.block ?_
  refine Tr.loopM (σ := Bool × Int × List TSpan) (fun n s => M308 f_1 runner_2 n s.1 s.2.1 s.2.2) (out_13, l_14) (fun s => ([(1, (dI runner_2)), (2, .pt 0 0), (4, .nsl), (5, .d (.b false)), (6, (dI 0)), (7, .sl 1 2 0 (List.length s.2.2)), (8, .d (.b s.1)), (9, (dI s.2.1))], [some (.var [.d (.ls (List.map eTSegment f_1.Clocks.Segments)), .d (.ls (List.map (eL eI) f_1.Clocks.Far)), .d (.ls (List.map eTPair f_1.Pairs)), .d (.ls (List.map eTRunner f_1.Runners))]), some (.arr 2 (List.map .d (List.map eTSpan s.2.2)))])) ((((((Option.getD (idx f_1.Runners runner_2) default).Worlds).length : Int)) - 0 : Int).toNat + 1) (false, 0, (([] : List TSpan))) h (fun s => rfl) (Wk.mk2 [0, 1] 1 rfl rfl (by decide) rfl ⟨rr, rfl, trivial⟩ ⟨rr, rr, rr, rr, rr, ⟨rfl, (by first | rfl | simp)⟩, rr, rr, trivial⟩) ?_
  clear h
  rintro n_12 ⟨out_9, w_10, l_11⟩ h
  replace h : M308 f_1 runner_2 (n_12 + 1) out_9 w_10 l_11 = some (out_13, l_14) := h
  rw [M308] at h
  refine Tr.seq ?_
  refine sg ?_
  conv=>whnf
  obtain ⟨x_17, hx_17, h⟩ := bS h
  refine ixP_of hx_17 ?_
  conv=>whnf
  refine lnS_map ?_
  conv=>whnf
  refine Tr.cond ?_
  conv=>whnf
  refine cB h (fun hb18 h => ?_) (fun hb18 h => ?_)
  ·refine Tr.skip ?_
   conv=>whnf
   refine Tr.seq ?_
   refine Tr.block ?_
   refine Tr.seq ?_
   refine sg ?_
   conv=>whnf
   obtain ⟨r_19, hc20, h⟩ := bS h
   refine PC.ecall (P295 f_1 w_10 r_19 hc20) (fun rs hrs => ?_)
   subst hrs
   conv=>whnf
   refine Tr.cond ?_
   conv=>whnf
   refine cB h (fun hb21 h => ?_) (fun hb21 h => ?_)
   ·refine Tr.exit ?_
    conv=>whnf
    refine rg ?_
    conv=>whnf
    refine arS_raw ?_
    conv=>whnf
    refine ⟨(out_9, (w64 (w_10 + 1)), l_11), h, ?_⟩
    exact Wk.mk2 [0, 1] 2 rfl rfl (by decide) rfl ⟨rr, daS_d rfl, trivial⟩ ⟨rr, rr, rr, rr, rr, rr, rr, rr, trivial⟩
   refine Tr.skip ?_
   conv=>whnf
   refine sg ?_
   conv=>whnf
   obtain ⟨x_22, hx_22, h⟩ := bS h
   refine ixP_of hx_22 ?_
   conv=>whnf
   obtain ⟨x_23, hx_23, h⟩ := bS h
   refine ixP_of hx_23 ?_
   conv=>whnf
   refine sg ?_
   conv=>whnf
   obtain ⟨⟨out_31, l_32⟩, hv43, h⟩ := bS h
   refine Tr.cutQ1 ([(1, (dI runner_2)), (2, .pt 0 0), (4, .nsl), (5, .d (.b false)), (6, (dI 0)), (7, .sl 1 2 0 (List.length l_32)), (8, .d (.b out_31)), (9, (dI w_10))]) ([some (.var [.d (.ls (List.map eTSegment f_1.Clocks.Segments)), .d (.ls (List.map (eL eI) f_1.Clocks.Far)), .d (.ls (List.map eTPair f_1.Pairs)), .d (.ls (List.map eTRunner f_1.Runners))]), some (.arr 2 (List.map .d (List.map eTSpan l_32)))]) ?_ (fun T1 H1 hw => ?_)
   ·replace h := hv43; clear hv43
    refine Tr.block ?_
    refine Tr.loopM (σ := Bool × Int × List TSpan) (fun n s => M307 f_1 x_23 n s.1 s.2.1 s.2.2) (out_31, l_32) (fun s => ([(1, (dI runner_2)), (2, .pt 0 0), (4, .nsl), (5, .d (.b false)), (6, (dI 0)), (7, .sl 1 2 0 (List.length s.2.2)), (8, .d (.b s.1)), (9, (dI w_10)), (10, .d (.ls (List.map eTOutcome x_23))), (11, (dI s.2.1))], [some (.var [.d (.ls (List.map eTSegment f_1.Clocks.Segments)), .d (.ls (List.map (eL eI) f_1.Clocks.Far)), .d (.ls (List.map eTPair f_1.Pairs)), .d (.ls (List.map eTRunner f_1.Runners))]), some (.arr 2 (List.map .d (List.map eTSpan s.2.2)))])) (((((x_23).length : Int)) - 0 : Int).toNat + 1) (out_9, 0, l_11) h (fun s => rfl) (Wk.mk2 [0, 1] 2 rfl rfl (by decide) rfl ⟨rr, daS_d rfl, trivial⟩ ⟨rr, rr, rr, rr, rr, rr, rr, rr, rr, rr, trivial⟩) ?_
    clear h
    rintro n_30 ⟨out_27, i_28, l_29⟩ h
    replace h : M307 f_1 x_23 (n_30 + 1) out_27 i_28 l_29 = some (out_31, l_32) := h
    rw [M307] at h
    refine Tr.seq ?_
    refine sg ?_
    conv=>whnf
    refine lnS_map ?_
    conv=>whnf
    refine Tr.cond ?_
    conv=>whnf
    refine cB h (fun hb35 h => ?_) (fun hb35 h => ?_)
    ·refine Tr.skip ?_
     conv=>whnf
     refine Tr.seq ?_
     refine Tr.block ?_
     refine Tr.seq ?_
     refine sg ?_
     conv=>whnf
     obtain ⟨x_36, hx_36, h⟩ := bS h
     refine ixP_of hx_36 ?_
     conv=>whnf
     refine Tr.cond ?_
     conv=>whnf
     refine cB h (fun hb37 h => ?_) (fun hb37 h => ?_)
     ·refine sg ?_
      conv=>whnf
      refine Tr.exit ?_
      conv=>whnf
      refine rg ?_
      conv=>whnf
      refine arS_raw ?_
      conv=>whnf
      refine ⟨(true, (w64 (i_28 + 1)), l_29), h, ?_⟩
      exact Wk.mk2 [0, 1] 2 rfl rfl (by decide) rfl ⟨rr, daS_d rfl, trivial⟩ ⟨rr, rr, rr, rr, rr, rr, rr, rr, rr, rr, trivial⟩
     refine Tr.skip ?_
     conv=>whnf
     refine sd [(11,2)] [(0,3),(1,3),(2,1),(3,1),(4,2),(5,2),(6,1),(7,1),(8,1),(9,1),(10,0),(11,0),(12,1)] ?_
     conv=>whnf
     refine q2 ?_
     conv=>whnf
     refine q2 ?_
     conv=>whnf
     refine q1 ?_
     conv=>whnf
     refine q1 ?_
     conv=>whnf
     obtain ⟨x_38, hx_38, h⟩ := bS h
     refine q3 (ixP_of hx_38 rr) ?_
     conv=>whnf
     refine q2 ?_
     conv=>whnf
     obtain ⟨⟨r_39, r_40⟩, hc41, h⟩ := bS h
     refine q1 ?_ (fun _ => pe (P297 f_1.Clocks x_38 r_39 r_40 hc41) rr)
     conv=>whnf
     refine q1 ?_
     conv=>whnf
     refine q1 ?_
     conv=>whnf
     refine q1 ?_
     conv=>whnf
     refine ⟨_, _, rr, kp_ok (by repeat (first | exact trivial | refine ⟨trivial, ?_⟩ | refine ⟨rfl, ?_⟩)), ?_⟩
     conv=>whnf
     refine ⟨_, _, rr, kp_ok (by repeat (first | exact trivial | refine ⟨trivial, ?_⟩ | refine ⟨rfl, ?_⟩)), ?_⟩
     conv=>whnf
     refine q1 ?_
     conv=>whnf
     refine rg ?_
     conv=>whnf
     refine orB_r ?_
     conv=>whnf
     refine frP_no ?_
     conv=>whnf
     refine eqS_mk (by first | rfl | simp) ?_
     conv=>whnf
     obtain ⟨l_42, hl_42, h⟩ := bS h
     refine apS_of hl_42 (aQ (f := eTSpan) (l := (([r_39] : List TSpan))) fun _ => rfl) (by first | rfl | simp) (by first | rfl | simp) (fun he => ?_)
     conv=>whnf
     refine rS (es' := List.map .d (List.map eTSpan l_42)) (n' := List.length l_42) (by subst he; simp only [List.map_append, List.map_cons, List.map_nil, List.nil_append]; first | done | rfl) (by subst he; simp <;> omega) ?_
     clear he
     conv=>whnf
     refine rg ?_
     conv=>whnf
     refine arS_raw ?_
     conv=>whnf
     refine ⟨(out_27, (w64 (i_28 + 1)), l_42), h, ?_⟩
     exact Wk.mk2 [0, 3] 4 rfl rfl (by decide) rfl ⟨rr, daS_d rfl, trivial⟩ ⟨rr, rr, rr, rr, rr, ⟨rfl, (by first | rfl | (simp only [↓hb18, ↓hb21, ↓hb35, ↓hb37, bl]; done) | (simp only [↓hb18, ↓hb21, ↓hb35, ↓hb37, bl]; rfl))⟩, rr, rr, rr, rr, trivial⟩
    refine Tr.exit ?_
    conv=>whnf
    cases h
    exact Wk.mk2 [0, 1] 2 rfl rfl (by decide) rfl ⟨rr, daS_d rfl, trivial⟩ ⟨rr, rr, rr, rr, rr, rr, rr, rr, trivial⟩
   clear hv43
   conv=>whnf
   refine Tr.weak hw ?_
   refine rg ?_
   conv=>whnf
   refine arS_raw ?_
   conv=>whnf
   refine ⟨(out_31, (w64 (w_10 + 1)), l_32), h, ?_⟩
   exact Wk.mk2 [0, 1] 2 rfl rfl (by decide) rfl ⟨rr, daS_d rfl, trivial⟩ ⟨rr, rr, rr, rr, rr, rr, rr, rr, trivial⟩
  refine Tr.exit ?_
  conv=>whnf
  cases h
  exact Wk.mk2 [1] 2 rfl rfl (by decide) rfl ⟨daS_d rfl, trivial⟩ ⟨rr, rr, rr, ⟨rfl, (by first | rfl | (simp only [↓hb18, bl]; done) | (simp only [↓hb18, bl]; rfl))⟩, rr, trivial⟩
 clear hv44
 conv=>whnf
 refine Tr.weak hw ?_
 refine sg ?_
 conv=>whnf
 obtain ⟨⟨r_45, r_46⟩, hc47, h⟩ := bS h
 refine PC.ecall_frz ?_ ⟨_, _, func67, rfl, rfl⟩
 conv=>whnf
 refine frE_of (f := eTSpan) (l := l_14) rfl ?_
 conv=>whnf
 refine ⟨_, P306 l_14 r_45 r_46 hc47, fun rs hrs => ?_⟩
 subst hrs
 conv=>whnf
 refine sg ?_
 conv=>whnf
 refine Tr.ret ?_
 conv=>whnf
 cases h
 rfl
theorem P310 (a_1 : List TSpan) (b_2 : List TSpan) (r_3 : Int) (h : M310 a_1 b_2 = some r_3) :
    PC prog 117 [(.ls (List.map eTSpan a_1)), (.ls (List.map eTSpan b_2))] (fun rs => rs = [(.i .i64 r_3)]) := by
 refine PC.of_tr (cx := ⟨13, none, lay, 0⟩) layOK func117 rfl rfl rfl rfl rfl (by simp [f117]) ?_
 unfold M310 at h
 refine sg ?_
 conv=>whnf
 refine sg ?_
 conv=>whnf
 obtain ⟨r_4, hc5, h⟩ := bS h
 refine PC.ecall (P301 a_1 r_4 hc5) (fun rs hrs => ?_)
 subst hrs
 conv=>whnf
 refine Tr.seq ?_
 refine sg ?_
 conv=>whnf
 refine Tr.cond ?_
 conv=>whnf
 refine cB h (fun hb6 h => ?_) (fun hb6 h => ?_)
 ·refine rg ?_
  conv=>whnf
  obtain ⟨r_7, hc8, h⟩ := bS h
  refine PC.ecall (P301 b_2 r_7 hc8) (fun rs hrs => ?_)
  subst hrs
  conv=>whnf
  refine sg ?_
  conv=>whnf
  refine Tr.ret ?_
  conv=>whnf
  cases h
  rfl
 refine Tr.skip ?_
 conv=>whnf
 refine sg ?_
 conv=>whnf
 refine Tr.ret ?_
 conv=>whnf
 cases h
 rfl
theorem P311 (l_1 : List TSpan) (r_2 : List TSpan) (r_3 : Int) (h : M311 l_1 = some (r_2, r_3)) :
    PC prog 119 [(.ls (List.map eTSpan l_1))] (fun rs => rs = [(.ls (List.map eTSpan r_2)), (.i .i64 r_3)]) := by
 refine PC.of_tr (cx := ⟨8, none, lay, 0⟩) layOK func119 rfl rfl rfl rfl rfl (by simp [f119]) ?_
 unfold M311 at h
 refine sg ?_
 conv=>whnf
 refine Tr.seq ?_
 refine sg ?_
 conv=>whnf
 refine lnS_map ?_
 conv=>whnf
 refine Tr.cond ?_
 conv=>whnf
 refine cB h (fun hb4 h => ?_) (fun hb4 h => ?_)
 ·refine sg ?_
  conv=>whnf
  refine Tr.ret ?_
  conv=>whnf
  cases h
  rfl
 refine Tr.skip ?_
 conv=>whnf
 refine sg ?_
 conv=>whnf
 refine Tr.ret ?_
 conv=>whnf
 cases h
 rfl
theorem P316 (a_1 : List TSpan) (b_2 : List TSpan) (r_3 : List TSpan) (r_4 : Int) (h : M316 a_1 b_2 = some (r_3, r_4)) :
    PC prog 79 [(.ls (List.map eTSpan a_1)), (.ls (List.map eTSpan b_2))] (fun rs => rs = [(.ls (List.map eTSpan r_3)), (.i .i64 r_4)]) := by
 refine PC.of_tr (cx := ⟨75, none, lay, 0⟩) layOK func79 rfl rfl rfl rfl rfl (by simp [f79]) ?_
 unfold M316 at h
 refine sg ?_
 conv=>whnf
 refine sg ?_
 conv=>whnf
 obtain ⟨r_5, hc6, h⟩ := bS h
 refine PC.ecall (P310 a_1 b_2 r_5 hc6) (fun rs hrs => ?_)
 subst hrs
 conv=>whnf
 refine Tr.seq ?_
 refine sg ?_
 conv=>whnf
 refine Tr.cond ?_
 conv=>whnf
 refine cB h (fun hb7 h => ?_) (fun hb7 h => ?_)
 ·refine sg ?_
  conv=>whnf
  refine Tr.ret ?_
  conv=>whnf
  cases h
  rfl
 refine Tr.skip ?_
 conv=>whnf
 refine sg ?_
 conv=>whnf
 obtain ⟨r_8, hc9, h⟩ := bS h
 refine PC.ecall (P305 a_1 r_8 hc9) (fun rs hrs => ?_)
 subst hrs
 conv=>whnf
 refine sg ?_
 conv=>whnf
 obtain ⟨r_10, hc11, h⟩ := bS h
 refine PC.ecall (P305 b_2 r_10 hc11) (fun rs hrs => ?_)
 subst hrs
 conv=>whnf
 refine Tr.seq ?_
 refine sg ?_
 conv=>whnf
 refine lnS_map ?_
 conv=>whnf
 refine lnS_map ?_
 conv=>whnf
 refine arS_raw ?_
 conv=>whnf
 refine Tr.cond ?_
 conv=>whnf
 refine cB h (fun hb12 h => ?_) (fun hb12 h => ?_)
 ·refine sg ?_
  conv=>whnf
  refine Tr.ret ?_
  conv=>whnf
  cases h
  rfl
 refine Tr.skip ?_
 conv=>whnf
 refine sg ?_
 conv=>whnf
 refine orB_r ?_
 conv=>whnf
 refine Tr.seq ?_
 refine sg ?_
 conv=>whnf
 refine Tr.cutQ (α := List TSpan) (fun s => ([(4, .nsl), (5, (dI 0)), (9, .d (.ls (List.map eTSpan s)))], [])) (fun s => M315 s = some (r_3, r_4)) ?_ ?_
 ·refine Tr.block ?_
  refine Tr.loopM (σ := List TSpan × Int) (fun n s => M314 r_8 r_10 M315 n s.1 s.2) (r_3, r_4) (fun s => ([(4, .nsl), (5, (dI 0)), (7, .d (.ls (List.map eTSpan r_8))), (8, .d (.ls (List.map eTSpan r_10))), (9, .d (.ls (List.map eTSpan s.1))), (10, (dI s.2))], [])) (((((r_8).length : Int)) - 0 : Int).toNat + 1) ((([] : List TSpan)), 0) h (fun s => rfl) (Wk.mk2 [] 0 rfl rfl (by decide) rfl trivial ⟨rr, rr, rr, rr, rr, rr, trivial⟩) ?_
  clear h
  rintro n_17 ⟨out_15, i_16⟩ h
  replace h : M314 r_8 r_10 M315 (n_17 + 1) out_15 i_16 = some (r_3, r_4) := h
  rw [M314] at h
  refine Tr.seq ?_
  refine sg ?_
  conv=>whnf
  refine lnS_map ?_
  conv=>whnf
  refine Tr.cond ?_
  conv=>whnf
  refine cB h (fun hb21 h => ?_) (fun hb21 h => ?_)
  ·refine Tr.skip ?_
   conv=>whnf
   refine Tr.seq ?_
   refine Tr.block ?_
   refine sg ?_
   conv=>whnf
   refine Tr.cutQ (α := List TSpan) (fun s => ([(4, .nsl), (5, (dI 0)), (7, .d (.ls (List.map eTSpan r_8))), (8, .d (.ls (List.map eTSpan r_10))), (9, .d (.ls (List.map eTSpan s))), (10, (dI i_16))], [])) (fun s => M313 i_16 (M314 r_8 r_10 M315 n_17) s = some (r_3, r_4)) ?_ ?_
   ·refine Tr.block ?_
    refine Tr.loopM (σ := List TSpan × Int) (fun n s => M312 r_8 r_10 i_16 (M313 i_16 (M314 r_8 r_10 M315 n_17)) n s.1 s.2) (r_3, r_4) (fun s => ([(4, .nsl), (5, (dI 0)), (7, .d (.ls (List.map eTSpan r_8))), (8, .d (.ls (List.map eTSpan r_10))), (9, .d (.ls (List.map eTSpan s.1))), (10, (dI i_16)), (11, (dI s.2))], [])) (((((r_10).length : Int)) - 0 : Int).toNat + 1) (out_15, 0) h (fun s => rfl) (Wk.mk2 [] 0 rfl rfl (by decide) rfl trivial ⟨rr, rr, rr, rr, rr, rr, rr, trivial⟩) ?_
    clear h
    rintro n_26 ⟨out_24, k_25⟩ h
    replace h : M312 r_8 r_10 i_16 (M313 i_16 (M314 r_8 r_10 M315 n_17)) (n_26 + 1) out_24 k_25 = some (r_3, r_4) := h
    rw [M312] at h
    refine Tr.seq ?_
    refine sg ?_
    conv=>whnf
    refine lnS_map ?_
    conv=>whnf
    refine Tr.cond ?_
    conv=>whnf
    refine cB h (fun hb30 h => ?_) (fun hb30 h => ?_)
    ·refine Tr.skip ?_
     conv=>whnf
     refine Tr.seq ?_
     refine Tr.block ?_
     refine sd [(24,0)] [(0,1),(1,1),(2,2),(3,2),(4,2),(5,1),(6,1),(7,2),(8,2),(9,2),(10,1),(11,1),(12,1),(13,2),(14,2),(15,2),(16,1),(17,1),(18,2),(19,2),(20,2),(21,1),(22,1),(23,0),(24,0)] ?_
     conv=>whnf
     refine q1 ?_
     conv=>whnf
     refine q1 ?_
     conv=>whnf
     obtain ⟨x_31, hx_31, h⟩ := bS h
     refine q3 (ixP_of hx_31 rr) ?_
     conv=>whnf
     refine q2 ?_
     conv=>whnf
     refine q2 ?_
     conv=>whnf
     refine q1 ?_
     conv=>whnf
     refine q1 ?_
     conv=>whnf
     obtain ⟨x_32, hx_32, h⟩ := bS h
     refine q3 (ixP_of hx_32 rr) ?_
     conv=>whnf
     refine q2 ?_
     conv=>whnf
     refine q2 ?_
     conv=>whnf
     refine q4 ?_
     conv=>whnf
     refine q1 ?_
     conv=>whnf
     refine q1 ?_
     conv=>whnf
     obtain ⟨x_33, hx_33, h⟩ := bS h
     refine q3 (ixP_of hx_33 rr) ?_
     conv=>whnf
     refine q2 ?_
     conv=>whnf
     refine q2 ?_
     conv=>whnf
     refine q1 ?_
     conv=>whnf
     refine q1 ?_
     conv=>whnf
     obtain ⟨x_34, hx_34, h⟩ := bS h
     refine q3 (ixP_of hx_34 rr) ?_
     conv=>whnf
     refine q2 ?_
     conv=>whnf
     refine q2 ?_
     conv=>whnf
     refine q4 ?_
     conv=>whnf
     refine q1 ?_
     conv=>whnf
     refine ⟨_, _, rr, kp_ok (by repeat (first | exact trivial | refine ⟨trivial, ?_⟩ | refine ⟨rfl, ?_⟩)), ?_⟩
     conv=>whnf
     refine ⟨_, _, rr, kp_ok (by repeat (first | exact trivial | refine ⟨trivial, ?_⟩ | refine ⟨rfl, ?_⟩)), ?_⟩
     conv=>whnf
     refine Tr.seq ?_
     refine sg ?_
     conv=>whnf
     obtain ⟨r_35, hc36, h⟩ := bS h
     refine PC.ecall (P298 (({ Lo := (w64 (x_31.Lo + x_32.Lo)), Hi := (w64 (x_33.Hi + x_34.Hi)) } : TSpan)) r_35 hc36) (fun rs hrs => ?_)
     subst hrs
     conv=>whnf
     refine Tr.cond ?_
     conv=>whnf
     refine cB h (fun hb37 h => ?_) (fun hb37 h => ?_)
     ·refine sg ?_
      conv=>whnf
      refine Tr.ret ?_
      conv=>whnf
      cases h
      rfl
     refine Tr.skip ?_
     conv=>whnf
     refine rg ?_
     conv=>whnf
     obtain ⟨r_38, hc39, h⟩ := bS h
     refine PC.ecall (P303 out_24 (({ Lo := (w64 (x_31.Lo + x_32.Lo)), Hi := (w64 (x_33.Hi + x_34.Hi)) } : TSpan)) r_38 hc39) (fun rs hrs => ?_)
     subst hrs
     conv=>whnf
     refine rg ?_
     conv=>whnf
     refine arS_raw ?_
     conv=>whnf
     refine ⟨(r_38, (w64 (k_25 + 1))), h, ?_⟩
     exact Wk.mk2 [] 1 rfl rfl (by decide) rfl trivial ⟨rr, rr, rr, rr, rr, rr, rr, trivial⟩
    refine Tr.exit ?_
    conv=>whnf
    refine ⟨(out_24), h, ?_⟩
    exact Wk.mk2 [] 0 rfl rfl (by decide) rfl trivial ⟨rr, rr, rr, rr, rr, rr, trivial⟩
   clear h
   rintro out_27 h T1 H1 hw
   replace h : M313 i_16 (M314 r_8 r_10 M315 n_17) out_27 = some (r_3, r_4) := h
   conv=>whnf
   refine Tr.weak hw ?_
   unfold M313 at h
   refine rg ?_
   conv=>whnf
   refine arS_raw ?_
   conv=>whnf
   refine ⟨(out_27, (w64 (i_16 + 1))), h, ?_⟩
   exact Wk.mk2 [] 0 rfl rfl (by decide) rfl trivial ⟨rr, rr, rr, rr, rr, rr, trivial⟩
  refine Tr.exit ?_
  conv=>whnf
  refine ⟨(out_15), h, ?_⟩
  exact Wk.mk2 [] 0 rfl rfl (by decide) rfl trivial ⟨rr, rr, rr, trivial⟩
 clear h
 rintro out_18 h T1 H1 hw
 replace h : M315 out_18 = some (r_3, r_4) := h
 conv=>whnf
 refine Tr.weak hw ?_
 unfold M315 at h
 refine sg ?_
 conv=>whnf
 obtain ⟨⟨r_40, r_41⟩, hc42, h⟩ := bS h
 refine PC.ecall (P311 out_18 r_40 r_41 hc42) (fun rs hrs => ?_)
 subst hrs
 conv=>whnf
 refine Tr.ret ?_
 conv=>whnf
 cases h
 rfl
theorem P321 (f_1 : List TField) (bib_2 : Int) (r_3 : TTotal) (r_4 : Int) (h : M321 f_1 bib_2 = some (r_3, r_4)) :
    PC prog 49 [(.ls (List.map eTField f_1)), (.i .i64 bib_2)] (fun rs => rs = [(eTTotal r_3), (.i .i64 r_4)]) := by
 refine PC.of_tr (cx := ⟨100, none, lay, 0⟩) layOK func49 rfl rfl rfl rfl rfl (by simp [f49]) ?_
 unfold M321 at h
 refine sg ?_
 conv=>whnf
 refine sg ?_
 conv=>whnf
 refine orB_l ?_
 conv=>whnf
 refine Tr.seq ?_
 refine sg ?_
 conv=>whnf
 refine Tr.nslC 0 1 ?_
 conv=>whnf
 refine Tr.nslC 1 1 ?_
 conv=>whnf
 refine Tr.cutQ (α := Unit) (fun s => ([(0, .d (.ls (List.map eTField f_1))), (1, (dI bib_2)), (4, .pt 0 0), (5, (dI 0)), (6, .pt 1 0)], [some (.var [(dI 0), .d (.ls (List.map eTSpan (([] : List TSpan)))), .d (.b false)]), some (.var [(dI bib_2), .d (.ls (List.map eTSpan (([] : List TSpan)))), .d (.b false)])])) (fun s => M320 f_1 bib_2 s = some (r_3, r_4)) ?_ ?_
 ·refine Tr.block ?_
  refine Tr.loopM (σ := Int) (fun n s => M317 f_1 bib_2 (M320 f_1 bib_2) n s) (r_3, r_4) (fun s => ([(0, .d (.ls (List.map eTField f_1))), (1, (dI bib_2)), (4, .pt 0 0), (5, (dI 0)), (6, .pt 1 0), (7, (dI s))], [some (.var [(dI 0), .d (.ls (List.map eTSpan (([] : List TSpan)))), .d (.b false)]), some (.var [(dI bib_2), .d (.ls (List.map eTSpan (([] : List TSpan)))), .d (.b false)])])) (((((f_1).length : Int)) - 0 : Int).toNat + 1) (0) h (fun s => rfl) (Wk.mk2 [0, 1] 2 rfl rfl (by decide) rfl ⟨rr, rr, trivial⟩ ⟨rr, rr, rr, rr, rr, rr, trivial⟩) ?_
  clear h
  rintro n_7 i_6 h
  replace h : M317 f_1 bib_2 (M320 f_1 bib_2) (n_7 + 1) i_6 = some (r_3, r_4) := h
  rw [M317] at h
  refine Tr.seq ?_
  refine sg ?_
  conv=>whnf
  refine lnS_map ?_
  conv=>whnf
  refine Tr.cond ?_
  conv=>whnf
  refine cB h (fun hb10 h => ?_) (fun hb10 h => ?_)
  ·refine Tr.skip ?_
   conv=>whnf
   refine Tr.seq ?_
   refine Tr.block ?_
   refine sg ?_
   conv=>whnf
   obtain ⟨x_11, hx_11, h⟩ := bS h
   refine ixP_of hx_11 ?_
   conv=>whnf
   obtain ⟨r_12, hc13, h⟩ := bS h
   refine PC.ecall (P292 x_11 bib_2 r_12 hc13) (fun rs hrs => ?_)
   subst hrs
   conv=>whnf
   refine Tr.seq ?_
   refine sg ?_
   conv=>whnf
   refine Tr.cond ?_
   conv=>whnf
   refine cB h (fun hb14 h => ?_) (fun hb14 h => ?_)
   ·refine sg ?_
    conv=>whnf
    refine orB_l ?_
    conv=>whnf
    refine Tr.ret ?_
    conv=>whnf
    cases h
    rfl
   refine Tr.skip ?_
   conv=>whnf
   refine sg ?_
   conv=>whnf
   obtain ⟨x_15, hx_15, h⟩ := bS h
   refine ixP_of hx_15 ?_
   conv=>whnf
   obtain ⟨⟨r_16, r_17, r_18⟩, hc19, h⟩ := bS h
   refine PC.ecall (P309 x_15 r_12 r_16 r_17 r_18 hc19) (fun rs hrs => ?_)
   subst hrs
   conv=>whnf
   refine Tr.seq ?_
   refine sg ?_
   conv=>whnf
   refine Tr.cond ?_
   conv=>whnf
   refine cB h (fun hb20 h => ?_) (fun hb20 h => ?_)
   ·refine sg ?_
    conv=>whnf
    refine orB_l ?_
    conv=>whnf
    refine Tr.ret ?_
    conv=>whnf
    cases h
    rfl
   refine Tr.skip ?_
   conv=>whnf
   refine sg ?_
   conv=>whnf
   refine lnS_map ?_
   conv=>whnf
   refine Tr.cond ?_
   conv=>whnf
   refine cB h (fun hb21 h => ?_) (fun hb21 h => ?_)
   ·refine sg ?_
    conv=>whnf
    refine orB_l ?_
    conv=>whnf
    refine Tr.ret ?_
    conv=>whnf
    cases h
    rfl
   refine Tr.skip ?_
   conv=>whnf
   refine rg ?_
   conv=>whnf
   refine arS_raw ?_
   conv=>whnf
   refine ⟨((w64 (i_6 + 1))), h, ?_⟩
   exact Wk.mk2 [0, 1] 2 rfl rfl (by decide) rfl ⟨rr, rr, trivial⟩ ⟨rr, rr, rr, rr, rr, rr, trivial⟩
  refine Tr.exit ?_
  conv=>whnf
  refine ⟨(), h, ?_⟩
  exact Wk.mk2 [0, 1] 2 rfl rfl (by decide) rfl ⟨rr, rr, trivial⟩ ⟨rr, rr, rr, rr, rr, trivial⟩
 clear h
 rintro _ h T1 H1 hw
 replace h : M320 f_1 bib_2 () = some (r_3, r_4) := h
 conv=>whnf
 refine Tr.weak hw ?_
 unfold M320 at h
 refine Tr.seq ?_
 refine sg ?_
 conv=>whnf
 refine Tr.cutQ (α := List TSpan × Bool) (fun s => ([(4, .pt 0 0), (5, (dI 0)), (6, .pt 1 0)], [some (.var [(dI 0), .d (.ls (List.map eTSpan (([] : List TSpan)))), .d (.b false)]), some (.var [(dI bib_2), .d (.ls (List.map eTSpan s.1)), .d (.b s.2)])])) (fun s => M319 bib_2 s.1 s.2 = some (r_3, r_4)) ?_ ?_
 ·refine Tr.block ?_
  refine Tr.loopM (σ := Int × List TSpan × Bool) (fun n s => M318 f_1 bib_2 (M319 bib_2) n s.1 s.2.1 s.2.2) (r_3, r_4) (fun s => ([(0, .d (.ls (List.map eTField f_1))), (1, (dI bib_2)), (4, .pt 0 0), (5, (dI 0)), (6, .pt 1 0), (12, (dI s.1))], [some (.var [(dI 0), .d (.ls (List.map eTSpan (([] : List TSpan)))), .d (.b false)]), some (.var [(dI bib_2), .d (.ls (List.map eTSpan s.2.1)), .d (.b s.2.2)])])) (((((f_1).length : Int)) - 0 : Int).toNat + 1) (0, (([] : List TSpan)), false) h (fun s => rfl) (Wk.mk2 [0, 1] 2 rfl rfl (by decide) rfl ⟨rr, rr, trivial⟩ ⟨rr, rr, rr, rr, rr, rr, trivial⟩) ?_
  clear h
  rintro n_28 ⟨i_25, v_26, v_27⟩ h
  replace h : M318 f_1 bib_2 (M319 bib_2) (n_28 + 1) i_25 v_26 v_27 = some (r_3, r_4) := h
  rw [M318] at h
  refine Tr.seq ?_
  refine sg ?_
  conv=>whnf
  refine lnS_map ?_
  conv=>whnf
  refine Tr.cond ?_
  conv=>whnf
  refine cB h (fun hb33 h => ?_) (fun hb33 h => ?_)
  ·refine Tr.skip ?_
   conv=>whnf
   refine Tr.seq ?_
   refine Tr.block ?_
   refine sd [] [(0,1),(1,1),(2,2),(3,2),(4,1),(5,1),(6,2),(7,2),(8,1),(9,1),(10,1),(11,1),(12,1),(13,1),(14,1),(15,1),(16,1),(17,1)] ?_
   conv=>whnf
   refine q1 ?_
   conv=>whnf
   refine q1 ?_
   conv=>whnf
   obtain ⟨x_34, hx_34, h⟩ := bS h
   refine q3 (ixP_of hx_34 rr) ?_
   conv=>whnf
   refine q2 ?_
   conv=>whnf
   refine q1 ?_
   conv=>whnf
   refine q1 ?_
   conv=>whnf
   obtain ⟨x_35, hx_35, h⟩ := bS h
   refine q3 (ixP_of hx_35 rr) ?_
   conv=>whnf
   refine q2 ?_
   conv=>whnf
   refine q1 ?_
   conv=>whnf
   obtain ⟨r_36, hc37, h⟩ := bS h
   refine q1 ?_ (fun _ => pe (P292 x_35 bib_2 r_36 hc37) rr)
   conv=>whnf
   obtain ⟨⟨r_38, r_39, r_40⟩, hc41, h⟩ := bS h
   refine q1 ?_ (fun _ => pe (P309 x_34 r_36 r_38 r_39 r_40 hc41) rr)
   conv=>whnf
   refine q1 ?_
   conv=>whnf
   refine q1 ?_
   conv=>whnf
   refine q1 ?_
   conv=>whnf
   refine q1 ?_
   conv=>whnf
   refine q1 ?_
   conv=>whnf
   refine q1 ?_
   conv=>whnf
   refine q1 ?_
   conv=>whnf
   refine Tr.seq ?_
   refine Tr.cutQ1 ([(0, .d (.ls (List.map eTField f_1))), (1, (dI bib_2)), (4, .pt 0 0), (5, (dI 0)), (6, .pt 1 0), (12, (dI i_25)), (13, .d (.ls (List.map eTSpan r_38)))]) ([some (.var [(dI 0), .d (.ls (List.map eTSpan (([] : List TSpan)))), .d (.b false)]), some (.var [(dI bib_2), .d (.ls (List.map eTSpan v_26)), .d (.b (v_27 || r_39))])]) ?_ (fun T1 H1 hw => ?_)
   ·refine rg ?_
    conv=>whnf
    refine condS_mk (fun hb43 => ?_) (fun hb43 => ?_)
    ·conv=>whnf
     exact Wk.mk2 [0, 1] 2 rfl rfl (by decide) rfl ⟨rr, ⟨rfl, (by first | rfl | (simp only [↓hb33, ↓hb43, bl]; done) | (simp only [↓hb33, ↓hb43, bl]; rfl) | (dsimp only at hb33 hb43; simp only [↓hb33, ↓hb43, bl]; rfl))⟩, trivial⟩ ⟨rr, rr, rr, rr, rr, rr, rr, trivial⟩
    conv=>whnf
    exact Wk.mk2 [0, 1] 2 rfl rfl (by decide) rfl ⟨rr, ⟨rfl, (by first | rfl | (simp only [↓hb33, ↓hb43, bl]; done) | (simp only [↓hb33, ↓hb43, bl]; rfl) | (dsimp only at hb33 hb43; simp only [↓hb33, ↓hb43, bl]; rfl))⟩, trivial⟩ ⟨rr, rr, rr, rr, rr, rr, rr, trivial⟩
   conv=>whnf
   refine Tr.weak hw ?_
   refine Tr.seq ?_
   refine sg ?_
   conv=>whnf
   refine Tr.cond ?_
   conv=>whnf
   refine cB h (fun hb44 h => ?_) (fun hb44 h => ?_)
   ·refine sg ?_
    conv=>whnf
    refine Tr.exit ?_
    conv=>whnf
    refine rg ?_
    conv=>whnf
    refine arS_raw ?_
    conv=>whnf
    refine ⟨((w64 (i_25 + 1)), r_38, (v_27 || r_39)), h, ?_⟩
    exact Wk.mk2 [0, 1] 2 rfl rfl (by decide) rfl ⟨rr, rr, trivial⟩ ⟨rr, rr, rr, rr, rr, rr, trivial⟩
   refine Tr.skip ?_
   conv=>whnf
   refine sg ?_
   conv=>whnf
   obtain ⟨⟨r_45, r_46⟩, hc47, h⟩ := bS h
   refine PC.ecall (P316 v_26 r_38 r_45 r_46 hc47) (fun rs hrs => ?_)
   subst hrs
   conv=>whnf
   refine Tr.seq ?_
   refine sg ?_
   conv=>whnf
   refine Tr.cond ?_
   conv=>whnf
   refine cB h (fun hb48 h => ?_) (fun hb48 h => ?_)
   ·refine sg ?_
    conv=>whnf
    refine orB_l ?_
    conv=>whnf
    refine Tr.ret ?_
    conv=>whnf
    cases h
    rfl
   refine Tr.skip ?_
   conv=>whnf
   refine rg ?_
   conv=>whnf
   refine rg ?_
   conv=>whnf
   refine arS_raw ?_
   conv=>whnf
   refine ⟨((w64 (i_25 + 1)), r_45, (v_27 || r_39)), h, ?_⟩
   exact Wk.mk2 [0, 1] 2 rfl rfl (by decide) rfl ⟨rr, rr, trivial⟩ ⟨rr, rr, rr, rr, rr, rr, trivial⟩
  refine Tr.exit ?_
  conv=>whnf
  refine ⟨(v_26, v_27), h, ?_⟩
  exact Wk.mk2 [0, 1] 2 rfl rfl (by decide) rfl ⟨rr, rr, trivial⟩ ⟨rr, rr, rr, trivial⟩
 clear h
 rintro ⟨v_29, v_30⟩ h T1 H1 hw
 replace h : M319 bib_2 v_29 v_30 = some (r_3, r_4) := h
 conv=>whnf
 refine Tr.weak hw ?_
 unfold M319 at h
 refine sg ?_
 conv=>whnf
 refine Tr.ret ?_
 conv=>whnf
 cases h
 rfl
theorem P322 (f_1 : List TField) (bib_2 : Int) (r_3 : TTotal) (r_4 : Int) (h : M322 f_1 bib_2 = some (r_3, r_4)) :
    PC prog 17 [(.ls (List.map eTField f_1)), (.i .i64 bib_2)] (fun rs => rs = [(eTTotal r_3), (.i .i64 r_4)]) := by
 refine PC.of_tr (cx := ⟨25, none, lay, 0⟩) layOK func17 rfl rfl rfl rfl rfl (by simp [f17]) ?_
 unfold M322 at h
 refine sg ?_
 conv=>whnf
 refine sg ?_
 conv=>whnf
 obtain ⟨r_5, hc6, h⟩ := bS h
 refine PC.ecall (P289 f_1 r_5 hc6) (fun rs hrs => ?_)
 subst hrs
 conv=>whnf
 refine Tr.seq ?_
 refine sg ?_
 conv=>whnf
 refine Tr.cond ?_
 conv=>whnf
 refine cB h (fun hb7 h => ?_) (fun hb7 h => ?_)
 ·refine sg ?_
  conv=>whnf
  refine orB_l ?_
  conv=>whnf
  refine Tr.ret ?_
  conv=>whnf
  cases h
  rfl
 refine Tr.skip ?_
 conv=>whnf
 refine Tr.seq ?_
 refine sg ?_
 conv=>whnf
 obtain ⟨x_8, hx_8, h⟩ := bS h
 refine ixP_of hx_8 ?_
 conv=>whnf
 obtain ⟨r_9, hc10, h⟩ := bS h
 refine PC.ecall (P292 x_8 bib_2 r_9 hc10) (fun rs hrs => ?_)
 subst hrs
 conv=>whnf
 refine Tr.cond ?_
 conv=>whnf
 refine cB h (fun hb11 h => ?_) (fun hb11 h => ?_)
 ·refine sg ?_
  conv=>whnf
  refine orB_l ?_
  conv=>whnf
  refine Tr.ret ?_
  conv=>whnf
  cases h
  rfl
 refine Tr.skip ?_
 conv=>whnf
 refine sg ?_
 conv=>whnf
 obtain ⟨⟨r_12, r_13⟩, hc14, h⟩ := bS h
 refine PC.ecall (P321 f_1 bib_2 r_12 r_13 hc14) (fun rs hrs => ?_)
 subst hrs
 conv=>whnf
 refine Tr.ret ?_
 conv=>whnf
 cases h
 rfl
theorem P325 (f_1 : List TField) (r_2 : List TTotal) (r_3 : Int) (h : M325 f_1 = some (r_2, r_3)) :
    PC prog 19 [(.ls (List.map eTField f_1))] (fun rs => rs = [(.ls (List.map eTTotal r_2)), (.i .i64 r_3)]) := by
 refine PC.of_tr (cx := ⟨38, none, lay, 0⟩) layOK func19 rfl rfl rfl rfl rfl (by simp [f19]) ?_
 unfold M325 at h
 refine sg ?_
 conv=>whnf
 refine sg ?_
 conv=>whnf
 obtain ⟨r_4, hc5, h⟩ := bS h
 refine PC.ecall (P289 f_1 r_4 hc5) (fun rs hrs => ?_)
 subst hrs
 conv=>whnf
 refine Tr.seq ?_
 refine sg ?_
 conv=>whnf
 refine Tr.cond ?_
 conv=>whnf
 refine cB h (fun hb6 h => ?_) (fun hb6 h => ?_)
 ·refine sg ?_
  conv=>whnf
  refine Tr.ret ?_
  conv=>whnf
  cases h
  rfl
 refine Tr.skip ?_
 conv=>whnf
 refine sg ?_
 conv=>whnf
 refine Tr.seq ?_
 refine sg ?_
 conv=>whnf
 refine Tr.cutQ (α := List TTotal) (fun s => ([(2, .nsl), (3, (dI 0)), (5, .sl 0 3 0 (List.length s))], [some (.arr 3 (List.map .d (List.map eTTotal s)))])) (fun s => M324 s = some (r_2, r_3)) ?_ ?_
 ·refine Tr.block ?_
  refine Tr.loopM (σ := Int × List TTotal) (fun n s => M323 f_1 M324 n s.1 s.2) (r_2, r_3) (fun s => ([(0, .d (.ls (List.map eTField f_1))), (2, .nsl), (3, (dI 0)), (5, .sl 0 3 0 (List.length s.2)), (6, (dI s.1))], [some (.arr 3 (List.map .d (List.map eTTotal s.2)))])) ((9999 + 1 - 1 : Int).toNat + 1) (1, (([] : List TTotal))) h (fun s => rfl) (Wk.mk2 [0] 0 rfl rfl (by decide) rfl ⟨rfl, trivial⟩ ⟨rr, rr, rr, ⟨rfl, (by first | rfl | (simp only [↓hb6, bl]; done) | (simp only [↓hb6, bl]; rfl))⟩, rr, trivial⟩) ?_
  clear h
  rintro n_11 ⟨bib_9, l_10⟩ h
  replace h : M323 f_1 M324 (n_11 + 1) bib_9 l_10 = some (r_2, r_3) := h
  rw [M323] at h
  refine Tr.seq ?_
  refine sg ?_
  conv=>whnf
  refine Tr.cond ?_
  conv=>whnf
  refine cB h (fun hb15 h => ?_) (fun hb15 h => ?_)
  ·refine Tr.skip ?_
   conv=>whnf
   refine Tr.seq ?_
   refine Tr.block ?_
   refine Tr.seq ?_
   refine sg ?_
   conv=>whnf
   obtain ⟨x_16, hx_16, h⟩ := bS h
   refine ixP_of hx_16 ?_
   conv=>whnf
   obtain ⟨r_17, hc18, h⟩ := bS h
   refine PC.ecall (P292 x_16 bib_9 r_17 hc18) (fun rs hrs => ?_)
   subst hrs
   conv=>whnf
   refine Tr.cond ?_
   conv=>whnf
   refine cB h (fun hb19 h => ?_) (fun hb19 h => ?_)
   ·refine Tr.exit ?_
    conv=>whnf
    refine rg ?_
    conv=>whnf
    refine arS_raw ?_
    conv=>whnf
    refine ⟨((w64 (bib_9 + 1)), l_10), h, ?_⟩
    exact Wk.mk2 [0] 1 rfl rfl (by decide) rfl ⟨daS_d rfl, trivial⟩ ⟨rr, rr, rr, rr, rr, trivial⟩
   refine Tr.skip ?_
   conv=>whnf
   refine sg ?_
   conv=>whnf
   obtain ⟨⟨r_20, r_21⟩, hc22, h⟩ := bS h
   refine PC.ecall (P321 f_1 bib_9 r_20 r_21 hc22) (fun rs hrs => ?_)
   subst hrs
   conv=>whnf
   refine Tr.seq ?_
   refine sg ?_
   conv=>whnf
   refine Tr.cond ?_
   conv=>whnf
   refine cB h (fun hb23 h => ?_) (fun hb23 h => ?_)
   ·refine sg ?_
    conv=>whnf
    refine Tr.ret ?_
    conv=>whnf
    cases h
    rfl
   refine Tr.skip ?_
   conv=>whnf
   refine rg ?_
   conv=>whnf
   refine orB_r ?_
   conv=>whnf
   refine frP_no ?_
   conv=>whnf
   refine eqS_mk (by first | rfl | simp) ?_
   conv=>whnf
   obtain ⟨l_24, hl_24, h⟩ := bS h
   refine apS_of hl_24 (aQ (f := eTTotal) (l := (([r_20] : List TTotal))) fun _ => rfl) (by first | rfl | simp) (by first | rfl | simp) (fun he => ?_)
   conv=>whnf
   refine rS (es' := List.map .d (List.map eTTotal l_24)) (n' := List.length l_24) (by subst he; simp only [List.map_append, List.map_cons, List.map_nil, List.nil_append]; first | done | rfl) (by subst he; simp <;> omega) ?_
   clear he
   conv=>whnf
   refine rg ?_
   conv=>whnf
   refine arS_raw ?_
   conv=>whnf
   refine ⟨((w64 (bib_9 + 1)), l_24), h, ?_⟩
   exact Wk.mk2 [2] 3 rfl rfl (by decide) rfl ⟨daS_d rfl, trivial⟩ ⟨rr, rr, rr, ⟨rfl, (by first | rfl | (simp only [↓hb6, ↓hb15, ↓hb19, ↓hb23, bl]; done) | (simp only [↓hb6, ↓hb15, ↓hb19, ↓hb23, bl]; rfl))⟩, rr, trivial⟩
  refine Tr.exit ?_
  conv=>whnf
  refine ⟨(l_10), h, ?_⟩
  exact Wk.mk2 [0] 1 rfl rfl (by decide) rfl ⟨daS_d rfl, trivial⟩ ⟨rr, rr, rr, trivial⟩
 clear h
 rintro l_12 h T1 H1 hw
 replace h : M324 l_12 = some (r_2, r_3) := h
 conv=>whnf
 refine Tr.weak hw ?_
 unfold M324 at h
 refine sg ?_
 conv=>whnf
 refine Tr.ret ?_
 conv=>whnf
 refine frE_of (f := eTTotal) (l := l_12) rfl ?_
 conv=>whnf
 cases h
 rfl
end Go.Proofs.Tryz
