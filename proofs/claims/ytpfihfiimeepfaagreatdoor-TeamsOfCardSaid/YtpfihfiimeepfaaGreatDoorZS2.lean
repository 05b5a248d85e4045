/- Contracts of functions, by program (gen.py). No condition. -/
import Derived.Test.YtpfihfiimeepfaaGreatDoorZL
import Derived.Test.YtpfihfiimeepfaaGreatDoorZM
import Derived.Test.YtpfihfiimeepfaaGreatDoorZCB
import Derived.Test.YtpfihfiimeepfaaGreatDoorZC7
import Derived.Test.YtpfihfiimeepfaaGreatDoorZS1
namespace Go.Proofs.Tryz
open Go Go.Abs Go.Stop
set_option maxRecDepth 8000
set_option linter.unusedVariables false
set_option linter.unusedSimpArgs false
theorem P32 (slices_1 : List (List TOutcome)) (r_2 : List TOutcome) (h : M32 slices_1 = some r_2) :
    PC prog 65 [(.ls (List.map (eL eTOutcome) slices_1))] (fun rs => rs = [(.ls (List.map eTOutcome r_2))]) := by
 refine PC.of_tr (cx := ⟨36, none, lay, 0⟩) layOK func65 rfl rfl rfl rfl rfl (by simp [f65]) ?_
 unfold M32 at h
 refine sg ?_
 conv=>whnf
 refine sg ?_
 conv=>whnf
 refine Tr.seq ?_
 refine sg ?_
 conv=>whnf
 refine lnS_map ?_
 conv=>whnf
 obtain ⟨size_8, hv14, h⟩ := bS h
 refine Tr.cutQ1 ([(0, .d (.ls (List.map (eL eTOutcome) slices_1))), (2, .nsl), (3, (dI size_8))]) ([]) ?_ (fun T1 H1 hw => ?_)
 ·replace h := hv14; clear hv14
  refine Tr.block ?_
  refine Tr.loopM (σ := Int × Int) (fun n s => M29 slices_1 n s.1 s.2) size_8 (fun s => ([(0, .d (.ls (List.map (eL eTOutcome) slices_1))), (2, .nsl), (3, (dI s.1)), (9, .d (.ls (List.map (eL eTOutcome) slices_1))), (10, (dI (((slices_1).length : Int)))), (11, (dI s.2))], [])) (((((slices_1).length : Int)) - 0 : Int).toNat + 1) (0, 0) h (fun s => rfl) (Wk.mk2 [] 0 rfl rfl (by decide) rfl trivial ⟨rr, rr, rr, rr, rr, rr, trivial⟩) ?_
  clear h
  rintro n_7 ⟨size_5, v_6⟩ h
  replace h : M29 slices_1 (n_7 + 1) size_5 v_6 = some size_8 := h
  rw [M29] at h
  refine sg ?_
  conv=>whnf
  refine Tr.seq ?_
  refine Tr.cond ?_
  conv=>whnf
  refine cB h (fun hb11 h => ?_) (fun hb11 h => ?_)
  ·refine Tr.skip ?_
   conv=>whnf
   refine Tr.seq ?_
   refine Tr.block ?_
   refine sg ?_
   conv=>whnf
   obtain ⟨x_12, hx_12, h⟩ := bS h
   refine ixP_of hx_12 ?_
   conv=>whnf
   refine sg ?_
   conv=>whnf
   refine lnS_map ?_
   conv=>whnf
   refine arS_raw ?_
   conv=>whnf
   refine sg ?_
   conv=>whnf
   refine Tr.cond ?_
   conv=>whnf
   refine cB h (fun hb13 h => ?_) (fun hb13 h => ?_)
   ·refine rg ?_
    conv=>whnf
    cases h
   refine Tr.skip ?_
   conv=>whnf
   refine rg ?_
   conv=>whnf
   refine arS_raw ?_
   conv=>whnf
   refine ⟨((w64 (size_5 + (((x_12).length : Int)))), (w64 (v_6 + 1))), h, ?_⟩
   exact Wk.mk2 [] 0 rfl rfl (by decide) rfl trivial ⟨rr, rr, rr, rr, rr, rr, trivial⟩
  refine Tr.exit ?_
  conv=>whnf
  cases h
  exact Wk.mk2 [] 0 rfl rfl (by decide) rfl trivial ⟨rr, rr, rr, trivial⟩
 clear hv14
 conv=>whnf
 refine Tr.weak hw ?_
 refine sg ?_
 conv=>whnf
 refine ECall.of_tr (cx := ⟨27, none, lay, 0⟩) layOK func92 rfl rfl rfl rfl rfl (by simp [f92]) ?_
 refine sg ?_
 conv=>whnf
 refine Tr.seq ?_
 refine sg ?_
 conv=>whnf
 refine Tr.cond ?_
 conv=>whnf
 refine cB h (fun hb15 h => ?_) (fun hb15 h => ?_)
 ·refine rg ?_
  conv=>whnf
  cases h
 refine Tr.skip ?_
 conv=>whnf
 refine Tr.seq ?_
 refine sg ?_
 conv=>whnf
 refine arS_raw ?_
 conv=>whnf
 refine arS_raw ?_
 conv=>whnf
 refine sg ?_
 conv=>whnf
 refine Tr.cond ?_
 conv=>whnf
 refine cB h (fun hb16 h => ?_) (fun hb16 h => ?_)
 ·refine rg ?_
  conv=>whnf
  refine slS_mk 0 0 rfl rfl (by first | decide | exact Nat.le_of_ble_eq_true rfl) (by first | decide | exact Nat.le_of_ble_eq_true rfl) ?_
  conv=>whnf
  obtain ⟨n_17, hn_17, h⟩ := bS h
  refine azS_of hn_17 ?_
  conv=>whnf
  refine rS (es' := List.map .d (List.map eTOutcome (List.replicate n_17 ({ Out := false, Seg := 0, Lo := 0, Hi := 0 } : TOutcome)))) (n' := List.length (List.replicate n_17 ({ Out := false, Seg := 0, Lo := 0, Hi := 0 } : TOutcome))) (by simp only [List.map_replicate]; first | done | rfl) (by simp) ?_
  conv=>whnf
  obtain ⟨l_18, hl_18, h⟩ := bS h
  refine slS_to hl_18 rfl rfl (fun he => ?_)
  conv=>whnf
  refine orS_r ?_
  conv=>whnf
  refine rS (es' := List.map .d (List.map eTOutcome l_18)) (n' := List.length l_18) (by subst he; simp [List.map_take]) (by simp [slcTo_len hl_18]) ?_
  clear he
  conv=>whnf
  refine sg ?_
  conv=>whnf
  refine Tr.ret ?_
  conv=>whnf
  refine Tr.seq ?_
  refine sg ?_
  conv=>whnf
  refine lnS_map ?_
  conv=>whnf
  obtain ⟨l_24, hv30, h⟩ := bS h
  refine Tr.cutQ1 ([(2, .nsl), (6, .sl 0 4 0 (List.length l_24))]) ([some (.arr 4 (List.map .d (List.map eTOutcome l_24)))]) ?_ (fun T1 H1 hw => ?_)
  ·replace h := hv30; clear hv30
   refine Tr.block ?_
   refine Tr.loopM (σ := Int × List TOutcome) (fun n s => M30 slices_1 n s.1 s.2) l_24 (fun s => ([(2, .nsl), (6, .sl 0 4 0 (List.length s.2)), (25, .d (.ls (List.map (eL eTOutcome) slices_1))), (26, (dI (((slices_1).length : Int)))), (27, (dI s.1))], [some (.arr 4 (List.map .d (List.map eTOutcome s.2)))])) (((((slices_1).length : Int)) - 0 : Int).toNat + 1) (0, l_18) h (fun s => rfl) (Wk.mk2 [0] 1 rfl rfl (by decide) rfl ⟨daS_d rfl, trivial⟩ ⟨rr, rr, rr, rr, rr, trivial⟩) ?_
   clear h
   rintro n_23 ⟨v_21, l_22⟩ h
   replace h : M30 slices_1 (n_23 + 1) v_21 l_22 = some l_24 := h
   rw [M30] at h
   refine sg ?_
   conv=>whnf
   refine Tr.seq ?_
   refine Tr.cond ?_
   conv=>whnf
   refine cB h (fun hb27 h => ?_) (fun hb27 h => ?_)
   ·refine Tr.skip ?_
    conv=>whnf
    refine Tr.seq ?_
    refine Tr.block ?_
    refine sg ?_
    conv=>whnf
    obtain ⟨x_28, hx_28, h⟩ := bS h
    refine ixP_of hx_28 ?_
    conv=>whnf
    refine rg ?_
    conv=>whnf
    refine frP_no ?_
    conv=>whnf
    refine eqS_mk (by first | rfl | simp) ?_
    conv=>whnf
    obtain ⟨l_29, hl_29, h⟩ := bS h
    refine apS_of hl_29 (aQ (f := eTOutcome) (l := x_28) fun _ => rfl) (by first | rfl | simp) (by first | rfl | simp) (fun he => ?_)
    conv=>whnf
    refine rS (es' := List.map .d (List.map eTOutcome l_29)) (n' := List.length l_29) (by subst he; simp only [List.map_append, List.map_cons, List.map_nil, List.nil_append]; first | done | rfl) (by subst he; simp <;> omega) ?_
    clear he
    conv=>whnf
    refine rg ?_
    conv=>whnf
    refine arS_raw ?_
    conv=>whnf
    refine ⟨((w64 (v_21 + 1)), l_29), h, ?_⟩
    exact Wk.mk2 [1] 2 rfl rfl (by decide) rfl ⟨daS_d rfl, trivial⟩ ⟨rr, ⟨rfl, (by first | rfl | (simp only [↓hb15, ↓hb16, ↓hb27, bl]; done) | (simp only [↓hb15, ↓hb16, ↓hb27, bl]; rfl))⟩, rr, rr, rr, trivial⟩
   refine Tr.exit ?_
   conv=>whnf
   cases h
   exact Wk.mk2 [0] 1 rfl rfl (by decide) rfl ⟨daS_d rfl, trivial⟩ ⟨rr, rr, trivial⟩
  clear hv30
  conv=>whnf
  refine Tr.weak hw ?_
  refine sg ?_
  conv=>whnf
  refine Tr.ret ?_
  conv=>whnf
  refine frE_of (f := eTOutcome) (l := l_24) rfl ?_
  conv=>whnf
  cases h
  rfl
 refine Tr.skip ?_
 conv=>whnf
 refine sg ?_
 conv=>whnf
 refine Tr.ret ?_
 conv=>whnf
 refine Tr.seq ?_
 refine sg ?_
 conv=>whnf
 refine lnS_map ?_
 conv=>whnf
 obtain ⟨l_36, hv42, h⟩ := bS h
 refine Tr.cutQ1 ([(2, .nsl), (6, .sl 0 4 0 (List.length l_36))]) ([some (.arr 4 (List.map .d (List.map eTOutcome l_36)))]) ?_ (fun T1 H1 hw => ?_)
 ·replace h := hv42; clear hv42
  refine Tr.block ?_
  refine Tr.loopM (σ := Int × List TOutcome) (fun n s => M31 slices_1 n s.1 s.2) l_36 (fun s => ([(2, .nsl), (6, .sl 0 4 0 (List.length s.2)), (25, .d (.ls (List.map (eL eTOutcome) slices_1))), (26, (dI (((slices_1).length : Int)))), (27, (dI s.1))], [some (.arr 4 (List.map .d (List.map eTOutcome s.2)))])) (((((slices_1).length : Int)) - 0 : Int).toNat + 1) (0, (([] : List TOutcome))) h (fun s => rfl) (Wk.mk2 [0] 0 rfl rfl (by decide) rfl ⟨rfl, trivial⟩ ⟨rr, ⟨rfl, (by first | rfl | (simp only [↓hb15, ↓hb16, bl]; done) | (simp only [↓hb15, ↓hb16, bl]; rfl))⟩, rr, rr, rr, trivial⟩) ?_
  clear h
  rintro n_35 ⟨v_33, l_34⟩ h
  replace h : M31 slices_1 (n_35 + 1) v_33 l_34 = some l_36 := h
  rw [M31] at h
  refine sg ?_
  conv=>whnf
  refine Tr.seq ?_
  refine Tr.cond ?_
  conv=>whnf
  refine cB h (fun hb39 h => ?_) (fun hb39 h => ?_)
  ·refine Tr.skip ?_
   conv=>whnf
   refine Tr.seq ?_
   refine Tr.block ?_
   refine sg ?_
   conv=>whnf
   obtain ⟨x_40, hx_40, h⟩ := bS h
   refine ixP_of hx_40 ?_
   conv=>whnf
   refine rg ?_
   conv=>whnf
   refine frP_no ?_
   conv=>whnf
   refine eqS_mk (by first | rfl | simp) ?_
   conv=>whnf
   obtain ⟨l_41, hl_41, h⟩ := bS h
   refine apS_of hl_41 (aQ (f := eTOutcome) (l := x_40) fun _ => rfl) (by first | rfl | simp) (by first | rfl | simp) (fun he => ?_)
   conv=>whnf
   refine rS (es' := List.map .d (List.map eTOutcome l_41)) (n' := List.length l_41) (by subst he; simp only [List.map_append, List.map_cons, List.map_nil, List.nil_append]; first | done | rfl) (by subst he; simp <;> omega) ?_
   clear he
   conv=>whnf
   refine rg ?_
   conv=>whnf
   refine arS_raw ?_
   conv=>whnf
   refine ⟨((w64 (v_33 + 1)), l_41), h, ?_⟩
   exact Wk.mk2 [1] 2 rfl rfl (by decide) rfl ⟨daS_d rfl, trivial⟩ ⟨rr, ⟨rfl, (by first | rfl | (simp only [↓hb15, ↓hb16, ↓hb39, bl]; done) | (simp only [↓hb15, ↓hb16, ↓hb39, bl]; rfl))⟩, rr, rr, rr, trivial⟩
  refine Tr.exit ?_
  conv=>whnf
  cases h
  exact Wk.mk2 [0] 1 rfl rfl (by decide) rfl ⟨daS_d rfl, trivial⟩ ⟨rr, rr, trivial⟩
 clear hv42
 conv=>whnf
 refine Tr.weak hw ?_
 refine sg ?_
 conv=>whnf
 refine Tr.ret ?_
 conv=>whnf
 refine frE_of (f := eTOutcome) (l := l_36) rfl ?_
 conv=>whnf
 cases h
 rfl
theorem P33 (r_1 : TOutcome) (h : M33 = some r_1) :
    PC prog 93 [] (fun rs => rs = [(eTOutcome r_1)]) := by
 refine PC.of_tr (cx := ⟨2, none, lay, 0⟩) layOK func93 rfl rfl rfl rfl rfl (by simp [f93]) ?_
 unfold M33 at h
 refine sg ?_
 conv=>whnf
 refine sg ?_
 conv=>whnf
 refine Tr.ret ?_
 conv=>whnf
 cases h
 rfl
theorem P34 (k_1 : TClocks) (x_2 : TOutcome) (r_3 : Int) (h : M34 k_1 x_2 = some r_3) :
    PC prog 66 [(eTClocks k_1), (eTOutcome x_2)] (fun rs => rs = [(.i .i64 r_3)]) := by
 refine PC.of_tr (cx := ⟨47, none, lay, 0⟩) layOK func66 rfl rfl rfl rfl rfl (by simp [f66]) ?_
 unfold M34 at h
 refine sg ?_
 conv=>whnf
 refine Tr.seq ?_
 refine sg ?_
 conv=>whnf
 obtain ⟨r_4, hc5, h⟩ := bS h
 refine PC.ecall (P28 k_1 r_4 hc5) (fun rs hrs => ?_)
 subst hrs
 conv=>whnf
 refine sg ?_
 conv=>whnf
 refine Tr.cond ?_
 conv=>whnf
 refine cB h (fun hb6 h => ?_) (fun hb6 h => ?_)
 ·refine sg ?_
  conv=>whnf
  refine Tr.ret ?_
  conv=>whnf
  cases h
  rfl
 refine Tr.skip ?_
 conv=>whnf
 refine Tr.seq ?_
 refine Tr.cutQ1 ([(3, .pt 0 0), (4, (dI 0)), (6, .d (.b ((decide (x_2.Seg ≥ (-1))) && ((decide (x_2.Seg < (((k_1.Segments).length : Int)))) && ((decide (x_2.Lo ≥ (-288230376151711744))) && ((decide (x_2.Lo ≤ x_2.Hi)) && (decide (x_2.Hi ≤ 288230376151711744))))))))]) ([some (.var [.d (.b x_2.Out), (dI x_2.Seg), (dI x_2.Lo), (dI x_2.Hi)])]) ?_ (fun T1 H1 hw => ?_)
 ·refine rg ?_
  conv=>whnf
  refine condS_mk (fun hb8 => ?_) (fun hb8 => ?_)
  ·conv=>whnf
   refine lnS_map ?_
   conv=>whnf
   refine condS_mk (fun hb9 => ?_) (fun hb9 => ?_)
   ·conv=>whnf
    refine condS_mk (fun hb10 => ?_) (fun hb10 => ?_)
    ·conv=>whnf
     refine condS_mk (fun hb11 => ?_) (fun hb11 => ?_)
     ·conv=>whnf
      exact Wk.mk2 [1] 2 rfl rfl (by decide) rfl ⟨rr, trivial⟩ ⟨⟨rfl, (by first | rfl | (simp only [↓hb6, ↓hb8, ↓hb9, ↓hb10, ↓hb11, bl]; done) | (simp only [↓hb6, ↓hb8, ↓hb9, ↓hb10, ↓hb11, bl]; rfl))⟩, rr, ⟨rfl, (by first | rfl | (simp only [↓hb6, ↓hb8, ↓hb9, ↓hb10, ↓hb11, bl]; done) | (simp only [↓hb6, ↓hb8, ↓hb9, ↓hb10, ↓hb11, bl]; rfl))⟩, trivial⟩
     conv=>whnf
     exact Wk.mk2 [1] 2 rfl rfl (by decide) rfl ⟨rr, trivial⟩ ⟨⟨rfl, (by first | rfl | (simp only [↓hb6, ↓hb8, ↓hb9, ↓hb10, ↓hb11, bl]; done) | (simp only [↓hb6, ↓hb8, ↓hb9, ↓hb10, ↓hb11, bl]; rfl))⟩, rr, ⟨rfl, (by first | rfl | (simp only [↓hb6, ↓hb8, ↓hb9, ↓hb10, ↓hb11, bl]; done) | (simp only [↓hb6, ↓hb8, ↓hb9, ↓hb10, ↓hb11, bl]; rfl))⟩, trivial⟩
    conv=>whnf
    exact Wk.mk2 [1] 2 rfl rfl (by decide) rfl ⟨rr, trivial⟩ ⟨⟨rfl, (by first | rfl | (simp only [↓hb6, ↓hb8, ↓hb9, ↓hb10, bl]; done) | (simp only [↓hb6, ↓hb8, ↓hb9, ↓hb10, bl]; rfl))⟩, rr, ⟨rfl, (by first | rfl | (simp only [↓hb6, ↓hb8, ↓hb9, ↓hb10, bl]; done) | (simp only [↓hb6, ↓hb8, ↓hb9, ↓hb10, bl]; rfl))⟩, trivial⟩
   conv=>whnf
   exact Wk.mk2 [1] 2 rfl rfl (by decide) rfl ⟨rr, trivial⟩ ⟨⟨rfl, (by first | rfl | (simp only [↓hb6, ↓hb8, ↓hb9, bl]; done) | (simp only [↓hb6, ↓hb8, ↓hb9, bl]; rfl))⟩, rr, ⟨rfl, (by first | rfl | (simp only [↓hb6, ↓hb8, ↓hb9, bl]; done) | (simp only [↓hb6, ↓hb8, ↓hb9, bl]; rfl))⟩, trivial⟩
  conv=>whnf
  exact Wk.mk2 [1] 2 rfl rfl (by decide) rfl ⟨rr, trivial⟩ ⟨⟨rfl, (by first | rfl | (simp only [↓hb6, ↓hb8, bl]; done) | (simp only [↓hb6, ↓hb8, bl]; rfl))⟩, rr, ⟨rfl, (by first | rfl | (simp only [↓hb6, ↓hb8, bl]; done) | (simp only [↓hb6, ↓hb8, bl]; rfl))⟩, trivial⟩
 conv=>whnf
 refine Tr.weak hw ?_
 refine Tr.seq ?_
 refine sg ?_
 conv=>whnf
 refine Tr.cond ?_
 conv=>whnf
 refine cB h (fun hb12 h => ?_) (fun hb12 h => ?_)
 ·refine dq [] [(0,3),(1,1),(2,1),(3,1)] ?_
  conv=>whnf
  refine q2 ?_
  conv=>whnf
  obtain ⟨r_13, hc14, h⟩ := bS h
  refine q1 ?_ (fun _ => pe (P33 r_13 hc14) rr)
  conv=>whnf
  refine q1 ?_
  conv=>whnf
  refine q1 ?_
  conv=>whnf
  refine Tr.seq ?_
  refine sg ?_
  conv=>whnf
  refine Tr.cond ?_
  conv=>whnf
  refine cB h (fun hb15 h => ?_) (fun hb15 h => ?_)
  ·refine sg ?_
   conv=>whnf
   refine Tr.ret ?_
   conv=>whnf
   cases h
   rfl
  refine Tr.skip ?_
  conv=>whnf
  refine sg ?_
  conv=>whnf
  refine Tr.ret ?_
  conv=>whnf
  cases h
  rfl
 refine Tr.skip ?_
 conv=>whnf
 refine Tr.seq ?_
 refine sg ?_
 conv=>whnf
 refine Tr.cond ?_
 conv=>whnf
 refine cB h (fun hb16 h => ?_) (fun hb16 h => ?_)
 ·refine sg ?_
  conv=>whnf
  refine Tr.ret ?_
  conv=>whnf
  cases h
  rfl
 refine Tr.skip ?_
 conv=>whnf
 refine sg ?_
 conv=>whnf
 refine Tr.ret ?_
 conv=>whnf
 cases h
 rfl
theorem P35 (r_1 : TRunner) (c_2 : Int) (r_3 : Bool) (h : M35 r_1 c_2 = some r_3) :
    PC prog 94 [(eTRunner r_1), (.ro [(.i .i64 c_2)])] (fun rs => rs = [(.b r_3)]) := by
 refine PC.of_tr (cx := ⟨11, none, lay, 0⟩) layOK func94 rfl rfl rfl rfl rfl (by simp [f94]) ?_
 unfold M35 at h
 refine sg ?_
 conv=>whnf
 refine sg ?_
 conv=>whnf
 obtain ⟨x_4, hx_4, h⟩ := bS h
 refine ixP_of hx_4 ?_
 conv=>whnf
 refine lnS_map ?_
 conv=>whnf
 refine Tr.ret ?_
 conv=>whnf
 cases h
 rfl
theorem P38 (s_1 : List TRunner) (c_2 : Int) (r_3 : Int) (h : M38 s_1 c_2 = some r_3) :
    PC prog 60 [(.ls (List.map eTRunner s_1)), (.fn 94 [(.ro [(.i .i64 c_2)])])] (fun rs => rs = [(.i .i64 r_3)]) := by
 refine PC.of_tr (cx := ⟨19, none, lay, 0⟩) layOK func60 rfl rfl rfl rfl rfl (by simp [f60]) ?_
 unfold M38 at h
 refine sg ?_
 conv=>whnf
 refine Tr.seq ?_
 refine sg ?_
 conv=>whnf
 refine lnS_map ?_
 conv=>whnf
 refine Tr.cutQ (α := Unit) (fun s => ([(4, (dI 0))], [])) (fun s => M37 s = some r_3) ?_ ?_
 ·refine Tr.block ?_
  refine Tr.loopM (σ := Int) (fun n s => M36 s_1 c_2 M37 n s) r_3 (fun s => ([(0, .d (.ls (List.map eTRunner s_1))), (1, .d (.fn 94 [(.ro [(.i .i64 c_2)])])), (4, (dI 0)), (7, (dI (((s_1).length : Int)))), (8, (dI s))], [])) (((((s_1).length : Int)) - 0 : Int).toNat + 1) (0) h (fun s => rfl) (Wk.mk2 [] 0 rfl rfl (by decide) rfl trivial ⟨rr, rr, rr, rr, rr, trivial⟩) ?_
  clear h
  rintro n_6 v_5 h
  replace h : M36 s_1 c_2 M37 (n_6 + 1) v_5 = some r_3 := h
  rw [M36] at h
  refine sg ?_
  conv=>whnf
  refine Tr.seq ?_
  refine Tr.cond ?_
  conv=>whnf
  refine cB h (fun hb9 h => ?_) (fun hb9 h => ?_)
  ·refine Tr.skip ?_
   conv=>whnf
   refine Tr.seq ?_
   refine Tr.block ?_
   refine sg ?_
   conv=>whnf
   refine sg ?_
   conv=>whnf
   obtain ⟨x_10, hx_10, h⟩ := bS h
   refine ixP_of hx_10 ?_
   conv=>whnf
   obtain ⟨r_11, hc12, h⟩ := bS h
   refine PC.ecall (P35 x_10 c_2 r_11 hc12) (fun rs hrs => ?_)
   subst hrs
   conv=>whnf
   refine Tr.cond ?_
   conv=>whnf
   refine cB h (fun hb13 h => ?_) (fun hb13 h => ?_)
   ·refine sg ?_
    conv=>whnf
    refine Tr.ret ?_
    conv=>whnf
    cases h
    rfl
   refine Tr.skip ?_
   conv=>whnf
   refine rg ?_
   conv=>whnf
   refine arS_raw ?_
   conv=>whnf
   refine ⟨((w64 (v_5 + 1))), h, ?_⟩
   exact Wk.mk2 [] 0 rfl rfl (by decide) rfl trivial ⟨rr, rr, rr, rr, rr, trivial⟩
  refine Tr.exit ?_
  conv=>whnf
  refine ⟨(), h, ?_⟩
  exact Wk.mk2 [] 0 rfl rfl (by decide) rfl trivial ⟨rr, trivial⟩
 clear h
 rintro _ h T1 H1 hw
 replace h : M37 () = some r_3 := h
 conv=>whnf
 refine Tr.weak hw ?_
 unfold M37 at h
 refine sg ?_
 conv=>whnf
 refine Tr.ret ?_
 conv=>whnf
 cases h
 rfl
theorem P39 (s_1 : List TRunner) (c_2 : Int) (r_3 : Bool) (h : M39 s_1 c_2 = some r_3) :
    PC prog 68 [(.ls (List.map eTRunner s_1)), (.fn 94 [(.ro [(.i .i64 c_2)])])] (fun rs => rs = [(.b r_3)]) := by
 refine PC.of_tr (cx := ⟨9, none, lay, 0⟩) layOK func68 rfl rfl rfl rfl rfl (by simp [f68]) ?_
 unfold M39 at h
 refine sg ?_
 conv=>whnf
 refine sg ?_
 conv=>whnf
 obtain ⟨r_4, hc5, h⟩ := bS h
 refine PC.ecall (P38 s_1 c_2 r_4 hc5) (fun rs hrs => ?_)
 subst hrs
 conv=>whnf
 refine Tr.ret ?_
 conv=>whnf
 cases h
 rfl
theorem P42 (f_1 : TField) (r_2 : Bool) (h : M42 f_1 = some r_2) :
    PC prog 67 [(eTField f_1)] (fun rs => rs = [(.b r_2)]) := by
 refine PC.of_tr (cx := ⟨17, none, lay, 0⟩) layOK func67 rfl rfl rfl rfl rfl (by simp [f67]) ?_
 unfold M42 at h
 refine sg ?_
 conv=>whnf
 refine Tr.seq ?_
 refine sg ?_
 conv=>whnf
 refine lnS_map ?_
 conv=>whnf
 refine arS_raw ?_
 conv=>whnf
 refine Tr.cutQ (α := Unit) (fun s => ([(2, .d (.b false))], [])) (fun s => M41 s = some r_2) ?_ ?_
 ·refine Tr.block ?_
  refine Tr.loopM (σ := Int) (fun n s => M40 f_1 M41 n s) r_2 (fun s => ([(1, .pt 0 0), (2, .d (.b false)), (7, (dI (w64 ((((f_1.Pairs).length : Int)) + 1)))), (8, (dI s))], [some (.var [.d (.ls (List.map eTSegment f_1.Clocks.Segments)), .d (.ls (List.map (eL eI) f_1.Clocks.Far)), .d (.ls (List.map eTPair f_1.Pairs)), .d (.ls (List.map eTRunner f_1.Runners))])])) (((w64 ((((f_1.Pairs).length : Int)) + 1)) - 0 : Int).toNat + 1) (0) h (fun s => rfl) (Wk.mk2 [0] 1 rfl rfl (by decide) rfl ⟨rr, trivial⟩ ⟨rr, rr, rr, rr, trivial⟩) ?_
  clear h
  rintro n_5 v_4 h
  replace h : M40 f_1 M41 (n_5 + 1) v_4 = some r_2 := h
  rw [M40] at h
  refine sg ?_
  conv=>whnf
  refine Tr.seq ?_
  refine Tr.cond ?_
  conv=>whnf
  refine cB h (fun hb8 h => ?_) (fun hb8 h => ?_)
  ·refine Tr.skip ?_
   conv=>whnf
   refine Tr.seq ?_
   refine Tr.block ?_
   refine sg ?_
   conv=>whnf
   refine sg ?_
   conv=>whnf
   obtain ⟨r_9, hc10, h⟩ := bS h
   refine PC.ecall_lend ?_ ⟨_, _, func68, rfl, rfl⟩
   conv=>whnf
   refine ⟨_, P39 f_1.Runners v_4 r_9 hc10, fun rs hrs => ?_⟩
   subst hrs
   refine ⟨rfl, ?_⟩
   conv=>whnf
   refine Tr.cond ?_
   conv=>whnf
   refine cB h (fun hb11 h => ?_) (fun hb11 h => ?_)
   ·refine sg ?_
    conv=>whnf
    refine Tr.ret ?_
    conv=>whnf
    cases h
    rfl
   refine Tr.skip ?_
   conv=>whnf
   refine rg ?_
   conv=>whnf
   refine arS_raw ?_
   conv=>whnf
   refine ⟨((w64 (v_4 + 1))), h, ?_⟩
   exact Wk.mk2 [0] 2 rfl rfl (by decide) rfl ⟨rr, trivial⟩ ⟨rr, rr, rr, rr, trivial⟩
  refine Tr.exit ?_
  conv=>whnf
  refine ⟨(), h, ?_⟩
  exact Wk.mk2 [] 1 rfl rfl (by decide) rfl trivial ⟨rr, trivial⟩
 clear h
 rintro _ h T1 H1 hw
 replace h : M41 () = some r_2 := h
 conv=>whnf
 refine Tr.weak hw ?_
 unfold M41 at h
 refine sg ?_
 conv=>whnf
 refine Tr.ret ?_
 conv=>whnf
 cases h
 rfl
theorem P49 (f_1 : TField) (r_2 : Int) (h : M49 f_1 = some r_2) :
    PC prog 34 [(eTField f_1)] (fun rs => rs = [(.i .i64 r_2)]) := by
 refine PC.of_tr (cx := ⟨136, none, lay, 0⟩) layOK func34 rfl rfl rfl rfl rfl (by simp [f34]) ?_
 unfold M49 at h
 refine sg ?_
 conv=>whnf
 refine Tr.seq ?_
 refine Tr.seq ?_
 obtain ⟨v_3, hv4, h⟩ := bS h
 refine Tr.cutQ1 ([(1, .pt 0 0), (2, (dI 0)), (32, .d (.b v_3))]) ([some (.var [.d (.ls (List.map eTSegment f_1.Clocks.Segments)), .d (.ls (List.map (eL eI) f_1.Clocks.Far)), .d (.ls (List.map eTPair f_1.Pairs)), .d (.ls (List.map eTRunner f_1.Runners))])]) ?_ (fun T1 H1 hw => ?_)
 ·replace h := hv4; clear hv4
  refine rg ?_
  conv=>whnf
  obtain ⟨r_5, hc6, h⟩ := bS h
  refine PC.ecall (P28 f_1.Clocks r_5 hc6) (fun rs hrs => ?_)
  subst hrs
  conv=>whnf
  refine cB h (fun hb7 h => ?_) (fun hb7 h => ?_)
  ·conv=>whnf
   cases h
   exact Wk.mk2 [0] 1 rfl rfl (by decide) rfl ⟨rr, trivial⟩ ⟨rr, rr, rr, trivial⟩
  conv=>whnf
  refine lnS_map ?_
  conv=>whnf
  refine cB h (fun hb8 h => ?_) (fun hb8 h => ?_)
  ·conv=>whnf
   cases h
   exact Wk.mk2 [0] 1 rfl rfl (by decide) rfl ⟨rr, trivial⟩ ⟨rr, rr, rr, trivial⟩
  conv=>whnf
  refine lnS_map ?_
  conv=>whnf
  refine cB h (fun hb9 h => ?_) (fun hb9 h => ?_)
  ·conv=>whnf
   cases h
   exact Wk.mk2 [0] 1 rfl rfl (by decide) rfl ⟨rr, trivial⟩ ⟨rr, rr, rr, trivial⟩
  conv=>whnf
  refine lnS_map ?_
  conv=>whnf
  cases h
  exact Wk.mk2 [0] 1 rfl rfl (by decide) rfl ⟨rr, trivial⟩ ⟨rr, rr, rr, trivial⟩
 clear hv4
 conv=>whnf
 refine Tr.weak hw ?_
 refine Tr.cond ?_
 conv=>whnf
 refine cB h (fun hb10 h => ?_) (fun hb10 h => ?_)
 ·refine sg ?_
  conv=>whnf
  refine Tr.ret ?_
  conv=>whnf
  cases h
  rfl
 refine Tr.skip ?_
 conv=>whnf
 refine sg ?_
 conv=>whnf
 refine Tr.seq ?_
 refine sg ?_
 conv=>whnf
 refine lnS_map ?_
 conv=>whnf
 refine Tr.cutQ (α := Unit) (fun s => ([(1, .pt 0 0), (2, (dI 0))], [some (.var [.d (.ls (List.map eTSegment f_1.Clocks.Segments)), .d (.ls (List.map (eL eI) f_1.Clocks.Far)), .d (.ls (List.map eTPair f_1.Pairs)), .d (.ls (List.map eTRunner f_1.Runners))])])) (fun s => M48 f_1 s = some r_2) ?_ ?_
 ·refine Tr.block ?_
  refine Tr.loopM (σ := Int × Int × Int) (fun n s => M43 f_1 (M48 f_1) n s.1 s.2.1 s.2.2) r_2 (fun s => ([(1, .pt 0 0), (2, (dI 0)), (3, .pt 1 0), (34, .d (.ls (List.map eTPair f_1.Pairs))), (35, (dI (((f_1.Pairs).length : Int)))), (36, (dI s.1))], [some (.var [.d (.ls (List.map eTSegment f_1.Clocks.Segments)), .d (.ls (List.map (eL eI) f_1.Clocks.Far)), .d (.ls (List.map eTPair f_1.Pairs)), .d (.ls (List.map eTRunner f_1.Runners))]), some (.var [(dI s.2.1), (dI s.2.2)])])) (((((f_1.Pairs).length : Int)) - 0 : Int).toNat + 1) (0, 0, 0) h (fun s => rfl) (Wk.mk2 [0, 1] 2 rfl rfl (by decide) rfl ⟨rr, rr, trivial⟩ ⟨rr, rr, rr, rr, rr, rr, trivial⟩) ?_
  clear h
  rintro n_17 ⟨v_14, v_15, v_16⟩ h
  replace h : M43 f_1 (M48 f_1) (n_17 + 1) v_14 v_15 v_16 = some r_2 := h
  rw [M43] at h
  refine sg ?_
  conv=>whnf
  refine Tr.seq ?_
  refine Tr.cond ?_
  conv=>whnf
  refine cB h (fun hb20 h => ?_) (fun hb20 h => ?_)
  ·refine Tr.skip ?_
   conv=>whnf
   refine Tr.seq ?_
   refine Tr.block ?_
   refine sg ?_
   conv=>whnf
   obtain ⟨x_21, hx_21, h⟩ := bS h
   refine ixP_of hx_21 ?_
   conv=>whnf
   refine Tr.seq ?_
   refine Tr.seq ?_
   refine Tr.cutQ1 ([(1, .pt 0 0), (2, (dI 0)), (3, .pt 1 0), (5, .pt 2 0), (34, .d (.ls (List.map eTPair f_1.Pairs))), (35, (dI (((f_1.Pairs).length : Int)))), (36, (dI v_14)), (75, .d (.b ((decide (x_21.A < 1)) || ((decide (x_21.A ≥ x_21.B)) || ((decide (x_21.B > 9999)) || ((decide (x_21.A < v_15)) || ((x_21.A == v_15) && (decide (x_21.B ≤ v_16)))))))))]) ([some (.var [.d (.ls (List.map eTSegment f_1.Clocks.Segments)), .d (.ls (List.map (eL eI) f_1.Clocks.Far)), .d (.ls (List.map eTPair f_1.Pairs)), .d (.ls (List.map eTRunner f_1.Runners))]), some (.var [(dI v_15), (dI v_16)]), some (.var [(dI x_21.A), (dI x_21.B)])]) ?_ (fun T1 H1 hw => ?_)
   ·refine rg ?_
    conv=>whnf
    refine condS_mk (fun hb23 => ?_) (fun hb23 => ?_)
    ·conv=>whnf
     exact Wk.mk2 [0, 1, 2] 3 rfl rfl (by decide) rfl ⟨rr, rr, rr, trivial⟩ ⟨rr, rr, rr, rr, rr, rr, rr, ⟨rfl, (by first | rfl | (simp only [↓hb10, ↓hb20, ↓hb23, bl]; done) | (simp only [↓hb10, ↓hb20, ↓hb23, bl]; rfl))⟩, trivial⟩
    conv=>whnf
    refine condS_mk (fun hb24 => ?_) (fun hb24 => ?_)
    ·conv=>whnf
     exact Wk.mk2 [0, 1, 2] 3 rfl rfl (by decide) rfl ⟨rr, rr, rr, trivial⟩ ⟨rr, rr, rr, rr, rr, rr, rr, ⟨rfl, (by first | rfl | (simp only [↓hb10, ↓hb20, ↓hb23, ↓hb24, bl]; done) | (simp only [↓hb10, ↓hb20, ↓hb23, ↓hb24, bl]; rfl))⟩, trivial⟩
    conv=>whnf
    refine condS_mk (fun hb25 => ?_) (fun hb25 => ?_)
    ·conv=>whnf
     exact Wk.mk2 [0, 1, 2] 3 rfl rfl (by decide) rfl ⟨rr, rr, rr, trivial⟩ ⟨rr, rr, rr, rr, rr, rr, rr, ⟨rfl, (by first | rfl | (simp only [↓hb10, ↓hb20, ↓hb23, ↓hb24, ↓hb25, bl]; done) | (simp only [↓hb10, ↓hb20, ↓hb23, ↓hb24, ↓hb25, bl]; rfl))⟩, trivial⟩
    conv=>whnf
    refine condS_mk (fun hb26 => ?_) (fun hb26 => ?_)
    ·conv=>whnf
     exact Wk.mk2 [0, 1, 2] 3 rfl rfl (by decide) rfl ⟨rr, rr, rr, trivial⟩ ⟨rr, rr, rr, rr, rr, rr, rr, ⟨rfl, (by first | rfl | (simp only [↓hb10, ↓hb20, ↓hb23, ↓hb24, ↓hb25, ↓hb26, bl]; done) | (simp only [↓hb10, ↓hb20, ↓hb23, ↓hb24, ↓hb25, ↓hb26, bl]; rfl))⟩, trivial⟩
    conv=>whnf
    refine condS_mk (fun hb27 => ?_) (fun hb27 => ?_)
    ·conv=>whnf
     exact Wk.mk2 [0, 1, 2] 3 rfl rfl (by decide) rfl ⟨rr, rr, rr, trivial⟩ ⟨rr, rr, rr, rr, rr, rr, rr, ⟨rfl, (by first | rfl | (simp only [↓hb10, ↓hb20, ↓hb23, ↓hb24, ↓hb25, ↓hb26, ↓hb27, bl]; done) | (simp only [↓hb10, ↓hb20, ↓hb23, ↓hb24, ↓hb25, ↓hb26, ↓hb27, bl]; rfl))⟩, trivial⟩
    conv=>whnf
    exact Wk.mk2 [0, 1, 2] 3 rfl rfl (by decide) rfl ⟨rr, rr, rr, trivial⟩ ⟨rr, rr, rr, rr, rr, rr, rr, ⟨rfl, (by first | rfl | (simp only [↓hb10, ↓hb20, ↓hb23, ↓hb24, ↓hb25, ↓hb26, ↓hb27, bl]; done) | (simp only [↓hb10, ↓hb20, ↓hb23, ↓hb24, ↓hb25, ↓hb26, ↓hb27, bl]; rfl))⟩, trivial⟩
   conv=>whnf
   refine Tr.weak hw ?_
   refine Tr.cond ?_
   conv=>whnf
   refine cB h (fun hb28 h => ?_) (fun hb28 h => ?_)
   ·refine sg ?_
    conv=>whnf
    refine Tr.ret ?_
    conv=>whnf
    cases h
    rfl
   refine Tr.skip ?_
   conv=>whnf
   refine rg ?_
   conv=>whnf
   refine rg ?_
   conv=>whnf
   refine arS_raw ?_
   conv=>whnf
   refine ⟨((w64 (v_14 + 1)), x_21.A, x_21.B), h, ?_⟩
   exact Wk.mk2 [0, 1] 3 rfl rfl (by decide) rfl ⟨rr, rr, trivial⟩ ⟨rr, rr, rr, rr, rr, rr, trivial⟩
  refine Tr.exit ?_
  conv=>whnf
  refine ⟨(), h, ?_⟩
  exact Wk.mk2 [0] 2 rfl rfl (by decide) rfl ⟨rr, trivial⟩ ⟨rr, rr, trivial⟩
 clear h
 rintro _ h T1 H1 hw
 replace h : M48 f_1 () = some r_2 := h
 conv=>whnf
 refine Tr.weak hw ?_
 unfold M48 at h
 refine sg ?_
 conv=>whnf
 refine Tr.seq ?_
 refine sg ?_
 conv=>whnf
 refine lnS_map ?_
 conv=>whnf
 refine Tr.cutQ (α := Unit) (fun s => ([(1, .pt 0 0), (2, (dI 0))], [some (.var [.d (.ls (List.map eTSegment f_1.Clocks.Segments)), .d (.ls (List.map (eL eI) f_1.Clocks.Far)), .d (.ls (List.map eTPair f_1.Pairs)), .d (.ls (List.map eTRunner f_1.Runners))])])) (fun s => M47 f_1 s = some r_2) ?_ ?_
 ·refine Tr.block ?_
  refine Tr.loopM (σ := Int × Int) (fun n s => M46 f_1 (M47 f_1) n s.1 s.2) r_2 (fun s => ([(1, .pt 0 0), (2, (dI 0)), (6, (dI s.1)), (79, .d (.ls (List.map eTRunner f_1.Runners))), (80, (dI (((f_1.Runners).length : Int)))), (81, (dI s.2))], [some (.var [.d (.ls (List.map eTSegment f_1.Clocks.Segments)), .d (.ls (List.map (eL eI) f_1.Clocks.Far)), .d (.ls (List.map eTPair f_1.Pairs)), .d (.ls (List.map eTRunner f_1.Runners))])])) (((((f_1.Runners).length : Int)) - 0 : Int).toNat + 1) (0, 0) h (fun s => rfl) (Wk.mk2 [0] 1 rfl rfl (by decide) rfl ⟨rr, trivial⟩ ⟨rr, rr, rr, rr, rr, rr, trivial⟩) ?_
  clear h
  rintro n_33 ⟨bib_31, v_32⟩ h
  replace h : M46 f_1 (M47 f_1) (n_33 + 1) bib_31 v_32 = some r_2 := h
  rw [M46] at h
  refine sg ?_
  conv=>whnf
  refine Tr.seq ?_
  refine Tr.cond ?_
  conv=>whnf
  refine cB h (fun hb36 h => ?_) (fun hb36 h => ?_)
  ·refine Tr.skip ?_
   conv=>whnf
   refine Tr.seq ?_
   refine Tr.block ?_
   refine sg ?_
   conv=>whnf
   obtain ⟨x_37, hx_37, h⟩ := bS h
   refine ixP_of hx_37 ?_
   conv=>whnf
   refine Tr.seq ?_
   refine Tr.seq ?_
   obtain ⟨v_38, hv39, h⟩ := bS h
   refine Tr.cutQ1 ([(1, .pt 0 0), (2, (dI 0)), (6, (dI bib_31)), (8, .pt 1 0), (79, .d (.ls (List.map eTRunner f_1.Runners))), (80, (dI (((f_1.Runners).length : Int)))), (81, (dI v_32)), (115, .d (.b v_38))]) ([some (.var [.d (.ls (List.map eTSegment f_1.Clocks.Segments)), .d (.ls (List.map (eL eI) f_1.Clocks.Far)), .d (.ls (List.map eTPair f_1.Pairs)), .d (.ls (List.map eTRunner f_1.Runners))]), some (.var [(dI x_37.Bib), .d (.ls (List.map eI x_37.Keys)), .d (.ls (List.map (eL eTOutcome) x_37.Worlds))])]) ?_ (fun T1 H1 hw => ?_)
   ·replace h := hv39; clear hv39
    refine dq [] [(0,4),(1,4),(2,1),(3,1),(4,1),(5,4),(6,4),(7,1),(8,1),(9,1),(10,4),(11,4),(12,2),(13,3),(14,3),(15,2),(16,2),(17,2),(18,2),(19,1),(20,1),(21,1),(22,4),(23,4),(24,2),(25,3),(26,3),(27,2),(28,1),(29,1),(30,1)] ?_
    conv=>whnf
    refine q2 ?_
    conv=>whnf
    refine q2 ?_
    conv=>whnf
    refine q1 ?_
    conv=>whnf
    refine q1 ?_
    conv=>whnf
    refine q1 ?_
    conv=>whnf
    refine cB h (fun hb40 h => ?_) (fun hb40 h => ?_)
    ·conv=>whnf
     refine q1 ?_
     conv=>whnf
     refine q1 ?_
     conv=>whnf
     refine q1 ?_
     conv=>whnf
     refine q1 ?_
     conv=>whnf
     refine q1 ?_
     conv=>whnf
     cases h
     exact Wk.mk2 [0, 1] 2 rfl rfl (by decide) rfl ⟨rr, rr, trivial⟩ ⟨rr, rr, rr, rr, rr, rr, rr, rr, trivial⟩
    conv=>whnf
    refine q2 ?_
    conv=>whnf
    refine q2 ?_
    conv=>whnf
    refine q1 ?_
    conv=>whnf
    refine q1 ?_
    conv=>whnf
    refine q1 ?_
    conv=>whnf
    refine cB h (fun hb41 h => ?_) (fun hb41 h => ?_)
    ·conv=>whnf
     refine q1 ?_
     conv=>whnf
     refine q1 ?_
     conv=>whnf
     refine q1 ?_
     conv=>whnf
     cases h
     exact Wk.mk2 [0, 1] 2 rfl rfl (by decide) rfl ⟨rr, rr, trivial⟩ ⟨rr, rr, rr, rr, rr, rr, rr, rr, trivial⟩
    conv=>whnf
    refine q2 ?_
    conv=>whnf
    refine q2 ?_
    conv=>whnf
    refine q3 (lnS_map rr) ?_
    conv=>whnf
    refine q2 ?_
    conv=>whnf
    refine q2 ?_
    conv=>whnf
    obtain ⟨x_42, hx_42, h⟩ := bS h
    refine q3 (ixP_of hx_42 rr) ?_
    conv=>whnf
    refine q2 ?_
    conv=>whnf
    refine q2 ?_
    conv=>whnf
    refine q3 (lnS_map rr) ?_
    conv=>whnf
    refine q1 ?_
    conv=>whnf
    refine q1 ?_
    conv=>whnf
    refine q1 ?_
    conv=>whnf
    refine cB h (fun hb43 h => ?_) (fun hb43 h => ?_)
    ·conv=>whnf
     refine q1 ?_
     conv=>whnf
     cases h
     exact Wk.mk2 [0, 1] 2 rfl rfl (by decide) rfl ⟨rr, rr, trivial⟩ ⟨rr, rr, rr, rr, rr, rr, rr, rr, trivial⟩
    conv=>whnf
    refine q2 ?_
    conv=>whnf
    refine q2 ?_
    conv=>whnf
    refine q3 (lnS_map rr) ?_
    conv=>whnf
    refine q2 ?_
    conv=>whnf
    refine q2 ?_
    conv=>whnf
    refine q3 (lnS_map rr) ?_
    conv=>whnf
    refine q4 ?_
    conv=>whnf
    refine q1 ?_
    conv=>whnf
    refine q1 ?_
    conv=>whnf
    cases h
    exact Wk.mk2 [0, 1] 2 rfl rfl (by decide) rfl ⟨rr, rr, trivial⟩ ⟨rr, rr, rr, rr, rr, rr, rr, rr, trivial⟩
   clear hv39
   conv=>whnf
   refine Tr.weak hw ?_
   refine Tr.cond ?_
   conv=>whnf
   refine cB h (fun hb44 h => ?_) (fun hb44 h => ?_)
   ·refine sg ?_
    conv=>whnf
    refine Tr.ret ?_
    conv=>whnf
    cases h
    rfl
   refine Tr.skip ?_
   conv=>whnf
   refine sg ?_
   conv=>whnf
   refine sg ?_
   conv=>whnf
   obtain ⟨r_45, hc46, h⟩ := bS h
   refine PC.ecall (P32 x_37.Worlds r_45 hc46) (fun rs hrs => ?_)
   subst hrs
   conv=>whnf
   refine lnS_map ?_
   conv=>whnf
   refine Tr.cutQ (α := Unit) (fun s => ([(1, .pt 0 0), (2, (dI 0)), (6, (dI x_37.Bib)), (79, .d (.ls (List.map eTRunner f_1.Runners))), (80, (dI (((f_1.Runners).length : Int)))), (81, (dI v_32))], [some (.var [.d (.ls (List.map eTSegment f_1.Clocks.Segments)), .d (.ls (List.map (eL eI) f_1.Clocks.Far)), .d (.ls (List.map eTPair f_1.Pairs)), .d (.ls (List.map eTRunner f_1.Runners))])])) (fun s => M45 v_32 (M46 f_1 (M47 f_1) n_33) x_37 s = some r_2) ?_ ?_
   ·refine Tr.block ?_
    refine Tr.loopM (σ := Int) (fun n s => M44 f_1 r_45 (M45 v_32 (M46 f_1 (M47 f_1) n_33) x_37) n s) r_2 (fun s => ([(1, .pt 0 0), (2, (dI 0)), (6, (dI x_37.Bib)), (79, .d (.ls (List.map eTRunner f_1.Runners))), (80, (dI (((f_1.Runners).length : Int)))), (81, (dI v_32)), (120, .d (.ls (List.map eTOutcome r_45))), (121, (dI (((r_45).length : Int)))), (122, (dI s))], [some (.var [.d (.ls (List.map eTSegment f_1.Clocks.Segments)), .d (.ls (List.map (eL eI) f_1.Clocks.Far)), .d (.ls (List.map eTPair f_1.Pairs)), .d (.ls (List.map eTRunner f_1.Runners))])])) (((((r_45).length : Int)) - 0 : Int).toNat + 1) (0) h (fun s => rfl) (Wk.mk2 [0] 2 rfl rfl (by decide) rfl ⟨rr, trivial⟩ ⟨rr, rr, rr, rr, rr, rr, rr, rr, rr, trivial⟩) ?_
    clear h
    rintro n_49 v_48 h
    replace h : M44 f_1 r_45 (M45 v_32 (M46 f_1 (M47 f_1) n_33) x_37) (n_49 + 1) v_48 = some r_2 := h
    rw [M44] at h
    refine sg ?_
    conv=>whnf
    refine Tr.seq ?_
    refine Tr.cond ?_
    conv=>whnf
    refine cB h (fun hb52 h => ?_) (fun hb52 h => ?_)
    ·refine Tr.skip ?_
     conv=>whnf
     refine Tr.seq ?_
     refine Tr.block ?_
     refine sg ?_
     conv=>whnf
     obtain ⟨x_53, hx_53, h⟩ := bS h
     refine ixP_of hx_53 ?_
     conv=>whnf
     refine sg ?_
     conv=>whnf
     obtain ⟨r_54, hc55, h⟩ := bS h
     refine PC.ecall (P34 f_1.Clocks x_53 r_54 hc55) (fun rs hrs => ?_)
     subst hrs
     conv=>whnf
     refine Tr.cond ?_
     conv=>whnf
     refine cB h (fun hb56 h => ?_) (fun hb56 h => ?_)
     ·refine sg ?_
      conv=>whnf
      refine Tr.ret ?_
      conv=>whnf
      cases h
      rfl
     refine Tr.skip ?_
     conv=>whnf
     refine rg ?_
     conv=>whnf
     refine arS_raw ?_
     conv=>whnf
     refine ⟨((w64 (v_48 + 1))), h, ?_⟩
     exact Wk.mk2 [0] 2 rfl rfl (by decide) rfl ⟨rr, trivial⟩ ⟨rr, rr, rr, rr, rr, rr, rr, rr, rr, trivial⟩
    refine Tr.exit ?_
    conv=>whnf
    refine ⟨(), h, ?_⟩
    exact Wk.mk2 [0] 1 rfl rfl (by decide) rfl ⟨rr, trivial⟩ ⟨rr, rr, rr, rr, rr, rr, trivial⟩
   clear h
   rintro _ h T1 H1 hw
   replace h : M45 v_32 (M46 f_1 (M47 f_1) n_33) x_37 () = some r_2 := h
   conv=>whnf
   refine Tr.weak hw ?_
   unfold M45 at h
   refine rg ?_
   conv=>whnf
   refine arS_raw ?_
   conv=>whnf
   refine ⟨(x_37.Bib, (w64 (v_32 + 1))), h, ?_⟩
   exact Wk.mk2 [0] 1 rfl rfl (by decide) rfl ⟨rr, trivial⟩ ⟨rr, rr, rr, rr, rr, rr, trivial⟩
  refine Tr.exit ?_
  conv=>whnf
  refine ⟨(), h, ?_⟩
  exact Wk.mk2 [0] 1 rfl rfl (by decide) rfl ⟨rr, trivial⟩ ⟨rr, rr, trivial⟩
 clear h
 rintro _ h T1 H1 hw
 replace h : M47 f_1 () = some r_2 := h
 conv=>whnf
 refine Tr.weak hw ?_
 unfold M47 at h
 refine Tr.seq ?_
 refine sg ?_
 conv=>whnf
 obtain ⟨r_57, hc58, h⟩ := bS h
 refine PC.ecall (P42 f_1 r_57 hc58) (fun rs hrs => ?_)
 subst hrs
 conv=>whnf
 refine Tr.cond ?_
 conv=>whnf
 refine cB h (fun hb59 h => ?_) (fun hb59 h => ?_)
 ·refine sg ?_
  conv=>whnf
  refine Tr.ret ?_
  conv=>whnf
  cases h
  rfl
 refine Tr.skip ?_
 conv=>whnf
 refine sg ?_
 conv=>whnf
 refine Tr.ret ?_
 conv=>whnf
 cases h
 rfl
theorem P50 (r_1 : TRunner) (c_2 : Int) (r_3 : Bool) (h : M50 r_1 c_2 = some r_3) :
    PC prog 61 [(eTRunner r_1), (.ro [(.i .i64 c_2)])] (fun rs => rs = [(.b r_3)]) := by
 refine PC.of_tr (cx := ⟨8, none, lay, 0⟩) layOK func61 rfl rfl rfl rfl rfl (by simp [f61]) ?_
 unfold M50 at h
 refine sg ?_
 conv=>whnf
 refine sg ?_
 conv=>whnf
 refine Tr.ret ?_
 conv=>whnf
 cases h
 rfl
theorem P53 (s_1 : List TRunner) (c_2 : Int) (r_3 : Int) (h : M53 s_1 c_2 = some r_3) :
    PC prog 60 [(.ls (List.map eTRunner s_1)), (.fn 61 [(.ro [(.i .i64 c_2)])])] (fun rs => rs = [(.i .i64 r_3)]) := by
 refine PC.of_tr (cx := ⟨19, none, lay, 0⟩) layOK func60 rfl rfl rfl rfl rfl (by simp [f60]) ?_
 unfold M53 at h
 refine sg ?_
 conv=>whnf
 refine Tr.seq ?_
 refine sg ?_
 conv=>whnf
 refine lnS_map ?_
 conv=>whnf
 refine Tr.cutQ (α := Unit) (fun s => ([(4, (dI 0))], [])) (fun s => M52 s = some r_3) ?_ ?_
 ·refine Tr.block ?_
  refine Tr.loopM (σ := Int) (fun n s => M51 s_1 c_2 M52 n s) r_3 (fun s => ([(0, .d (.ls (List.map eTRunner s_1))), (1, .d (.fn 61 [(.ro [(.i .i64 c_2)])])), (4, (dI 0)), (7, (dI (((s_1).length : Int)))), (8, (dI s))], [])) (((((s_1).length : Int)) - 0 : Int).toNat + 1) (0) h (fun s => rfl) (Wk.mk2 [] 0 rfl rfl (by decide) rfl trivial ⟨rr, rr, rr, rr, rr, trivial⟩) ?_
  clear h
  rintro n_6 v_5 h
  replace h : M51 s_1 c_2 M52 (n_6 + 1) v_5 = some r_3 := h
  rw [M51] at h
  refine sg ?_
  conv=>whnf
  refine Tr.seq ?_
  refine Tr.cond ?_
  conv=>whnf
  refine cB h (fun hb9 h => ?_) (fun hb9 h => ?_)
  ·refine Tr.skip ?_
   conv=>whnf
   refine Tr.seq ?_
   refine Tr.block ?_
   refine sg ?_
   conv=>whnf
   refine sg ?_
   conv=>whnf
   obtain ⟨x_10, hx_10, h⟩ := bS h
   refine ixP_of hx_10 ?_
   conv=>whnf
   obtain ⟨r_11, hc12, h⟩ := bS h
   refine PC.ecall (P50 x_10 c_2 r_11 hc12) (fun rs hrs => ?_)
   subst hrs
   conv=>whnf
   refine Tr.cond ?_
   conv=>whnf
   refine cB h (fun hb13 h => ?_) (fun hb13 h => ?_)
   ·refine sg ?_
    conv=>whnf
    refine Tr.ret ?_
    conv=>whnf
    cases h
    rfl
   refine Tr.skip ?_
   conv=>whnf
   refine rg ?_
   conv=>whnf
   refine arS_raw ?_
   conv=>whnf
   refine ⟨((w64 (v_5 + 1))), h, ?_⟩
   exact Wk.mk2 [] 0 rfl rfl (by decide) rfl trivial ⟨rr, rr, rr, rr, rr, trivial⟩
  refine Tr.exit ?_
  conv=>whnf
  refine ⟨(), h, ?_⟩
  exact Wk.mk2 [] 0 rfl rfl (by decide) rfl trivial ⟨rr, trivial⟩
 clear h
 rintro _ h T1 H1 hw
 replace h : M52 () = some r_3 := h
 conv=>whnf
 refine Tr.weak hw ?_
 unfold M52 at h
 refine sg ?_
 conv=>whnf
 refine Tr.ret ?_
 conv=>whnf
 cases h
 rfl
theorem P54 (f_1 : TField) (bib_2 : Int) (r_3 : Int) (r_4 : Bool) (h : M54 f_1 bib_2 = some (r_3, r_4)) :
    PC prog 31 [(eTField f_1), (.i .i64 bib_2)] (fun rs => rs = [(.i .i64 r_3), (.b r_4)]) := by
 refine PC.of_tr (cx := ⟨14, none, lay, 0⟩) layOK func31 rfl rfl rfl rfl rfl (by simp [f31]) ?_
 unfold M54 at h
 refine sg ?_
 conv=>whnf
 refine sg ?_
 conv=>whnf
 obtain ⟨r_5, hc6, h⟩ := bS h
 refine PC.ecall_lend ?_ ⟨_, _, func60, rfl, rfl⟩
 conv=>whnf
 refine ⟨_, P53 f_1.Runners bib_2 r_5 hc6, fun rs hrs => ?_⟩
 subst hrs
 refine ⟨rfl, ?_⟩
 conv=>whnf
 refine sg ?_
 conv=>whnf
 refine Tr.ret ?_
 conv=>whnf
 cases h
 rfl
theorem P55 (x_1 : TRunner) (c_2 : Int) (r_3 : Bool) (h : M55 x_1 c_2 = some r_3) :
    PC prog 69 [(eTRunner x_1), (.ro [(.i .i64 c_2)])] (fun rs => rs = [(.b r_3)]) := by
 refine PC.of_tr (cx := ⟨18, none, lay, 0⟩) layOK func69 rfl rfl rfl rfl rfl (by simp [f69]) ?_
 unfold M55 at h
 refine sg ?_
 conv=>whnf
 refine sg ?_
 conv=>whnf
 refine lnS_map ?_
 conv=>whnf
 refine cB h (fun hb4 h => ?_) (fun hb4 h => ?_)
 ·conv=>whnf
  refine Tr.ret ?_
  conv=>whnf
  cases h
  rfl
 conv=>whnf
 obtain ⟨x_5, hx_5, h⟩ := bS h
 refine ixP_of hx_5 ?_
 conv=>whnf
 refine lnS_map ?_
 conv=>whnf
 refine Tr.ret ?_
 conv=>whnf
 cases h
 rfl
end Go.Proofs.Tryz
