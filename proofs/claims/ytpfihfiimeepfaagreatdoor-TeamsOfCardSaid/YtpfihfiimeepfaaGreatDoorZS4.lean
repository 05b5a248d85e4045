/- Contracts of functions, by program (gen.py). No condition. -/
import Derived.Test.YtpfihfiimeepfaaGreatDoorZL
import Derived.Test.YtpfihfiimeepfaaGreatDoorZM
import Derived.Test.YtpfihfiimeepfaaGreatDoorZCB
import Derived.Test.YtpfihfiimeepfaaGreatDoorZC7
import Derived.Test.YtpfihfiimeepfaaGreatDoorZS3
namespace Go.Proofs.Tryz
open Go Go.Abs Go.Stop
set_option maxRecDepth 8000
set_option linter.unusedVariables false
set_option linter.unusedSimpArgs false
theorem P77 (l_1 : List Tteams_member) (l_2 : List Tteams_member) (h : M77 l_1 = some l_2) :
    MC prog 73 [.sl 0 4 0 (List.length l_1), .d (.fn 42 [])] [.arr 4 (List.map .d (List.map eTteams_member l_1))] (fun rs Bs => rs = [] ∧ Bs = [.arr 4 (List.map .d (List.map eTteams_member l_2))]) := by
  unfold M77 at h
  split at h
  · rename_i hn
    cases h
    exact sortMb_mc swo42 eg42 clo42 l_1 hn
  · cases h
theorem P79 (l_1 : List Tteams_member) (n_2 : Int) (r_3 : Int) (h : M79 l_1 n_2 = some r_3) :
    PC prog 37 [(.ls (List.map eTteams_member l_1)), (.i .i64 n_2), (.fn 42 []), (.fn 41 [])] (fun rs => rs = [(.i .i64 r_3)]) := by
 refine PC.of_tr (cx := ⟨31, none, lay, 0⟩) layOK func37 rfl rfl rfl rfl rfl (by simp [f37]) ?_
 unfold M79 at h
 refine sg ?_
 conv=>whnf
 refine sg ?_
 conv=>whnf
 refine ECall.of_tr (cx := ⟨8, none, lay, 0⟩) layOK func72 rfl rfl rfl rfl rfl (by simp [f72]) ?_
 refine sg ?_
 conv=>whnf
 refine Tr.seq ?_
 refine sg ?_
 conv=>whnf
 intro nb_4 hnb_4
 cases nb_4
 ·conv=>whnf
  refine Tr.cond ?_
  conv=>whnf
  refine Tr.skip ?_
  conv=>whnf
  refine sg ?_
  conv=>whnf
  refine orB_l ?_
  conv=>whnf
  refine frP_no ?_
  conv=>whnf
  refine eqS_mk (by first | rfl | simp) ?_
  conv=>whnf
  obtain ⟨l_22, hl_22, h⟩ := bS h
  refine apS_of hl_22 (aQ (f := eTteams_member) (l := l_1) fun _ => rfl) (by first | rfl | simp) (by first | rfl | simp) (fun he => ?_)
  conv=>whnf
  refine rS (es' := List.map .d (List.map eTteams_member l_22)) (n' := List.length l_22) (by subst he; simp only [List.map_append, List.map_cons, List.map_nil, List.nil_append]; first | done | rfl) (by subst he; simp <;> omega) ?_
  clear he
  conv=>whnf
  refine Tr.ret ?_
  conv=>whnf
  refine sg ?_
  conv=>whnf
  obtain ⟨l_23, hc24, h⟩ := bS h
  refine MC.ecall (P77 l_22 l_23 hc24) [1] (by decide) rfl rfl ?_ (fun rs Bs1 hrs => ?_)
  · exact ⟨⟨⟨_, rfl⟩, rfl⟩, trivial⟩
  obtain ⟨rfl, rfl⟩ := hrs
  conv=>whnf
  obtain ⟨_, hl25, h⟩ := bS h
  refine Tr.seq ?_
  refine sg ?_
  conv=>whnf
  obtain ⟨l_26, hl_26, h⟩ := bS h
  refine slS_to hl_26 (by first | rfl | simp [lenIs_eq hl25]) rfl (fun he => ?_)
  conv=>whnf
  refine orS_r ?_
  conv=>whnf
  refine rS (es' := List.map .d (List.map eTteams_member l_26)) (n' := List.length l_26) (by subst he; simp [List.map_take]) (by simp [slcTo_len hl_26]) ?_
  clear he
  conv=>whnf
  refine lnS_mk rfl ?_
  conv=>whnf
  obtain ⟨sum_32, hv39, h⟩ := bS h
  refine Tr.cutQ1 ([(8, (dI sum_32))]) ([]) ?_ (fun T1 H1 hw => ?_)
  ·replace h := hv39; clear hv39
   refine Tr.block ?_
   refine Tr.loopM (σ := Int × Int) (fun n s => M78 l_26 n s.1 s.2) sum_32 (fun s => ([(3, .d (.fn 41 [])), (8, (dI s.1)), (18, .sl 0 4 0 (List.length l_26)), (19, (dI (((l_26).length : Int)))), (20, (dI s.2))], [some (.arr 4 (List.map .d (List.map eTteams_member l_26)))])) (((((l_26).length : Int)) - 0 : Int).toNat + 1) (0, 0) h (fun s => rfl) (Wk.mk2 [1] 2 rfl rfl (by decide) rfl ⟨daS_d rfl, trivial⟩ ⟨rr, rr, ⟨rfl, (by first | rfl | simp)⟩, rr, rr, trivial⟩) ?_
   clear h
   rintro n_31 ⟨sum_29, v_30⟩ h
   replace h : M78 l_26 (n_31 + 1) sum_29 v_30 = some sum_32 := h
   rw [M78] at h
   refine sg ?_
   conv=>whnf
   refine Tr.seq ?_
   refine Tr.cond ?_
   conv=>whnf
   refine cB h (fun hb35 h => ?_) (fun hb35 h => ?_)
   ·refine Tr.skip ?_
    conv=>whnf
    refine Tr.seq ?_
    refine Tr.block ?_
    refine sg ?_
    conv=>whnf
    obtain ⟨x_36, hx_36, h⟩ := bS h
    refine ixS_of hx_36 rfl ?_
    conv=>whnf
    refine elP_of hx_36 ?_
    conv=>whnf
    refine rg ?_
    conv=>whnf
    obtain ⟨r_37, hc38, h⟩ := bS h
    refine PC.ecall (P74 x_36 r_37 hc38) (fun rs hrs => ?_)
    subst hrs
    conv=>whnf
    refine arS_raw ?_
    conv=>whnf
    refine rg ?_
    conv=>whnf
    refine arS_raw ?_
    conv=>whnf
    refine ⟨((w64 (sum_29 + r_37)), (w64 (v_30 + 1))), h, ?_⟩
    exact Wk.mk2 [0] 2 rfl rfl (by decide) rfl ⟨daS_d rfl, trivial⟩ ⟨rr, rr, rr, rr, rr, trivial⟩
   refine Tr.exit ?_
   conv=>whnf
   cases h
   exact Wk.mk2 [] 1 rfl rfl (by decide) rfl trivial ⟨rr, trivial⟩
  clear hv39
  conv=>whnf
  refine Tr.weak hw ?_
  refine sg ?_
  conv=>whnf
  refine Tr.ret ?_
  conv=>whnf
  cases h
  rfl
 replace hnb_4 : l_1 = [] := by simpa using hnb_4 rfl
 subst hnb_4
 replace h : ((M77 ((([] : List Tteams_member)))).bind fun l_5 => (lenIs l_5 (([] : List Tteams_member))).bind fun _ => (slcTo l_5 n_2).bind fun l_8 => (M78 l_8 (((((l_8).length : Int)) - 0 : Int).toNat + 1) 0 0).bind fun sum_14 => some sum_14) = some r_3 := by simpa [app] using h
 conv=>whnf
 refine Tr.cond ?_
 conv=>whnf
 refine sg ?_
 conv=>whnf
 refine Tr.ret ?_
 conv=>whnf
 refine Tr.seq ?_
 refine Tr.nslT 0 4 ?_
 conv=>whnf
 refine rg ?_
 conv=>whnf
 obtain ⟨l_5, hc6, h⟩ := bS h
 refine MC.ecall (P77 ((([] : List Tteams_member))) l_5 hc6) [0] (by decide) rfl rfl ?_ (fun rs Bs1 hrs => ?_)
 · exact ⟨⟨⟨_, rfl⟩, rfl⟩, trivial⟩
 obtain ⟨rfl, rfl⟩ := hrs
 conv=>whnf
 obtain ⟨_, hl7, h⟩ := bS h
 refine Tr.seq ?_
 refine sg ?_
 conv=>whnf
 obtain ⟨l_8, hl_8, h⟩ := bS h
 refine slS_to hl_8 (by first | rfl | simp [lenIs_eq hl7]) rfl (fun he => ?_)
 conv=>whnf
 refine orS_r ?_
 conv=>whnf
 refine rS (es' := List.map .d (List.map eTteams_member l_8)) (n' := List.length l_8) (by subst he; simp [List.map_take]) (by simp [slcTo_len hl_8]) ?_
 clear he
 conv=>whnf
 refine lnS_mk rfl ?_
 conv=>whnf
 obtain ⟨sum_14, hv21, h⟩ := bS h
 refine Tr.cutQ1 ([(8, (dI sum_14))]) ([]) ?_ (fun T1 H1 hw => ?_)
 ·replace h := hv21; clear hv21
  refine Tr.block ?_
  refine Tr.loopM (σ := Int × Int) (fun n s => M78 l_8 n s.1 s.2) sum_14 (fun s => ([(3, .d (.fn 41 [])), (8, (dI s.1)), (18, .sl 0 4 0 (List.length l_8)), (19, (dI (((l_8).length : Int)))), (20, (dI s.2))], [some (.arr 4 (List.map .d (List.map eTteams_member l_8)))])) (((((l_8).length : Int)) - 0 : Int).toNat + 1) (0, 0) h (fun s => rfl) (Wk.mk2 [0] 1 rfl rfl (by decide) rfl ⟨daS_d rfl, trivial⟩ ⟨rr, rr, rr, rr, rr, trivial⟩) ?_
  clear h
  rintro n_13 ⟨sum_11, v_12⟩ h
  replace h : M78 l_8 (n_13 + 1) sum_11 v_12 = some sum_14 := h
  rw [M78] at h
  refine sg ?_
  conv=>whnf
  refine Tr.seq ?_
  refine Tr.cond ?_
  conv=>whnf
  refine cB h (fun hb17 h => ?_) (fun hb17 h => ?_)
  ·refine Tr.skip ?_
   conv=>whnf
   refine Tr.seq ?_
   refine Tr.block ?_
   refine sg ?_
   conv=>whnf
   obtain ⟨x_18, hx_18, h⟩ := bS h
   refine ixS_of hx_18 rfl ?_
   conv=>whnf
   refine elP_of hx_18 ?_
   conv=>whnf
   refine rg ?_
   conv=>whnf
   obtain ⟨r_19, hc20, h⟩ := bS h
   refine PC.ecall (P74 x_18 r_19 hc20) (fun rs hrs => ?_)
   subst hrs
   conv=>whnf
   refine arS_raw ?_
   conv=>whnf
   refine rg ?_
   conv=>whnf
   refine arS_raw ?_
   conv=>whnf
   refine ⟨((w64 (sum_11 + r_19)), (w64 (v_12 + 1))), h, ?_⟩
   exact Wk.mk2 [0] 2 rfl rfl (by decide) rfl ⟨daS_d rfl, trivial⟩ ⟨rr, rr, rr, rr, rr, trivial⟩
  refine Tr.exit ?_
  conv=>whnf
  cases h
  exact Wk.mk2 [] 1 rfl rfl (by decide) rfl trivial ⟨rr, trivial⟩
 clear hv21
 conv=>whnf
 refine Tr.weak hw ?_
 refine sg ?_
 conv=>whnf
 refine Tr.ret ?_
 conv=>whnf
 cases h
 rfl
theorem P82 (f_1 : TField) (t_2 : TTeam) (r_3 : TTotal) (r_4 : Int) (h : M82 f_1 t_2 = some (r_3, r_4)) :
    PC prog 16 [(eTField f_1), (eTTeam t_2)] (fun rs => rs = [(eTTotal r_3), (.i .i64 r_4)]) := by
 refine PC.of_tr (cx := ⟨105, none, lay, 0⟩) layOK func16 rfl rfl rfl rfl rfl (by simp [f16]) ?_
 unfold M82 at h
 refine sg ?_
 conv=>whnf
 refine Tr.seq ?_
 refine sg ?_
 conv=>whnf
 obtain ⟨r_5, hc6, h⟩ := bS h
 refine PC.ecall (P4 t_2 r_5 hc6) (fun rs hrs => ?_)
 subst hrs
 conv=>whnf
 refine Tr.cond ?_
 conv=>whnf
 refine cB h (fun hb7 h => ?_) (fun hb7 h => ?_)
 ·refine sg ?_
  conv=>whnf
  refine orB_l ?_
  conv=>whnf
  refine Tr.ret ?_
  conv=>whnf
  cases h
  rfl
 refine Tr.skip ?_
 conv=>whnf
 refine Tr.seq ?_
 refine sg ?_
 conv=>whnf
 obtain ⟨r_8, hc9, h⟩ := bS h
 refine PC.ecall (P49 f_1 r_8 hc9) (fun rs hrs => ?_)
 subst hrs
 conv=>whnf
 refine sg ?_
 conv=>whnf
 refine Tr.cond ?_
 conv=>whnf
 refine cB h (fun hb10 h => ?_) (fun hb10 h => ?_)
 ·refine sg ?_
  conv=>whnf
  refine orB_l ?_
  conv=>whnf
  refine Tr.ret ?_
  conv=>whnf
  cases h
  rfl
 refine Tr.skip ?_
 conv=>whnf
 refine sg ?_
 conv=>whnf
 refine Tr.seq ?_
 refine sg ?_
 conv=>whnf
 refine lnS_map ?_
 conv=>whnf
 refine Tr.cutQ (α := List Tteams_member × List Tteams_member) (fun s => ([(3, .pt 0 0), (4, .pt 1 0), (5, (dI 0)), (7, .sl 2 4 0 (List.length s.1)), (8, .sl 3 4 0 (List.length s.2))], [some (.var [.d (.s t_2.Name), .d (.ls (List.map eI t_2.Bibs)), (dI t_2.Best)]), some (.var [(dI 0), .nsl, .d (.b false)]), some (.arr 4 (List.map .d (List.map eTteams_member s.1))), some (.arr 4 (List.map .d (List.map eTteams_member s.2)))])) (fun s => M81 t_2 s.1 s.2 = some (r_3, r_4)) ?_ ?_
 ·refine Tr.block ?_
  refine Tr.loopM (σ := Int × List Tteams_member × List Tteams_member) (fun n s => M80 f_1 t_2 (M81 t_2) n s.1 s.2.1 s.2.2) (r_3, r_4) (fun s => ([(2, .pt 0 0), (3, .pt 1 0), (4, .pt 2 0), (5, (dI 0)), (7, .sl 3 4 0 (List.length s.2.1)), (8, .sl 4 4 0 (List.length s.2.2)), (27, .d (.ls (List.map eI t_2.Bibs))), (28, (dI (((t_2.Bibs).length : Int)))), (29, (dI s.1))], [some (.var [.d (.ls (List.map eTSegment f_1.Clocks.Segments)), .d (.ls (List.map (eL eI) f_1.Clocks.Far)), .d (.ls (List.map eTPair f_1.Pairs)), .d (.ls (List.map eTRunner f_1.Runners))]), some (.var [.d (.s t_2.Name), .d (.ls (List.map eI t_2.Bibs)), (dI t_2.Best)]), some (.var [(dI 0), .nsl, .d (.b false)]), some (.arr 4 (List.map .d (List.map eTteams_member s.2.1))), some (.arr 4 (List.map .d (List.map eTteams_member s.2.2)))])) (((((t_2.Bibs).length : Int)) - 0 : Int).toNat + 1) (0, (([] : List Tteams_member)), (([] : List Tteams_member))) h (fun s => rfl) (Wk.mk2 [0, 1, 2, 3, 5] 3 rfl rfl (by decide) rfl ⟨rr, rr, rr, rfl, rfl, trivial⟩ ⟨rr, rr, rr, rr, ⟨rfl, (by first | rfl | (simp only [↓hb7, ↓hb10, bl]; done) | (simp only [↓hb7, ↓hb10, bl]; rfl))⟩, ⟨rfl, (by first | rfl | (simp only [↓hb7, ↓hb10, bl]; done) | (simp only [↓hb7, ↓hb10, bl]; rfl))⟩, rr, rr, rr, trivial⟩) ?_
  clear h
  rintro n_17 ⟨v_14, l_15, l_16⟩ h
  replace h : M80 f_1 t_2 (M81 t_2) (n_17 + 1) v_14 l_15 l_16 = some (r_3, r_4) := h
  rw [M80] at h
  refine sg ?_
  conv=>whnf
  refine Tr.seq ?_
  refine Tr.cond ?_
  conv=>whnf
  refine cB h (fun hb22 h => ?_) (fun hb22 h => ?_)
  ·refine Tr.skip ?_
   conv=>whnf
   refine Tr.seq ?_
   refine Tr.block ?_
   refine sg ?_
   conv=>whnf
   obtain ⟨x_23, hx_23, h⟩ := bS h
   refine ixP_of hx_23 ?_
   conv=>whnf
   refine sg ?_
   conv=>whnf
   obtain ⟨⟨r_24, r_25⟩, hc26, h⟩ := bS h
   refine PC.ecall (P54 f_1 x_23 r_24 r_25 hc26) (fun rs hrs => ?_)
   subst hrs
   conv=>whnf
   refine Tr.seq ?_
   refine sg ?_
   conv=>whnf
   refine Tr.cond ?_
   conv=>whnf
   refine cB h (fun hb27 h => ?_) (fun hb27 h => ?_)
   ·refine sg ?_
    conv=>whnf
    refine orB_l ?_
    conv=>whnf
    refine Tr.ret ?_
    conv=>whnf
    cases h
    rfl
   refine Tr.skip ?_
   conv=>whnf
   refine sg ?_
   conv=>whnf
   obtain ⟨r_28, hc29, h⟩ := bS h
   refine PC.ecall (P64 f_1 r_24 r_28 hc29) (fun rs hrs => ?_)
   subst hrs
   conv=>whnf
   refine Tr.block ?_
   refine sg ?_
   conv=>whnf
   refine Tr.cond ?_
   conv=>whnf
   refine cB h (fun hb30 h => ?_) (fun hb30 h => ?_)
   ·refine rg ?_
    conv=>whnf
    refine orB_r ?_
    conv=>whnf
    refine frP_no ?_
    conv=>whnf
    refine eqS_mk (by first | rfl | simp) ?_
    conv=>whnf
    obtain ⟨l_31, hl_31, h⟩ := bS h
    refine apS_of hl_31 (aQ (f := eTteams_member) (l := (([r_28] : List Tteams_member))) fun _ => rfl) (by first | rfl | simp) (by first | rfl | simp) (fun he => ?_)
    conv=>whnf
    refine rS (es' := List.map .d (List.map eTteams_member l_31)) (n' := List.length l_31) (by subst he; simp only [List.map_append, List.map_cons, List.map_nil, List.nil_append]; first | done | rfl) (by subst he; simp <;> omega) ?_
    clear he
    conv=>whnf
    refine rg ?_
    conv=>whnf
    refine arS_raw ?_
    conv=>whnf
    refine ⟨((w64 (v_14 + 1)), l_31, l_16), h, ?_⟩
    exact Wk.mk2 [0, 1, 2, 6, 4] 7 rfl rfl (by decide) rfl ⟨rr, rr, rr, daS_d rfl, daS_d rfl, trivial⟩ ⟨rr, rr, rr, rr, ⟨rfl, (by first | rfl | (simp only [↓hb7, ↓hb10, ↓hb22, ↓hb27, ↓hb30, bl]; done) | (simp only [↓hb7, ↓hb10, ↓hb22, ↓hb27, ↓hb30, bl]; rfl))⟩, rr, rr, rr, rr, trivial⟩
   refine sg ?_
   conv=>whnf
   refine Tr.cond ?_
   conv=>whnf
   refine cB h (fun hb32 h => ?_) (fun hb32 h => ?_)
   ·refine rg ?_
    conv=>whnf
    refine orB_r ?_
    conv=>whnf
    refine frP_no ?_
    conv=>whnf
    refine eqS_mk (by first | rfl | simp) ?_
    conv=>whnf
    obtain ⟨l_33, hl_33, h⟩ := bS h
    refine apS_of hl_33 (aQ (f := eTteams_member) (l := (([r_28] : List Tteams_member))) fun _ => rfl) (by first | rfl | simp) (by first | rfl | simp) (fun he => ?_)
    conv=>whnf
    refine rS (es' := List.map .d (List.map eTteams_member l_33)) (n' := List.length l_33) (by subst he; simp only [List.map_append, List.map_cons, List.map_nil, List.nil_append]; first | done | rfl) (by subst he; simp <;> omega) ?_
    clear he
    conv=>whnf
    refine rg ?_
    conv=>whnf
    refine arS_raw ?_
    conv=>whnf
    refine ⟨((w64 (v_14 + 1)), l_15, l_33), h, ?_⟩
    exact Wk.mk2 [0, 1, 2, 3, 6] 7 rfl rfl (by decide) rfl ⟨rr, rr, rr, daS_d rfl, daS_d rfl, trivial⟩ ⟨rr, rr, rr, rr, rr, ⟨rfl, (by first | rfl | (simp only [↓hb7, ↓hb10, ↓hb22, ↓hb27, ↓hb30, ↓hb32, bl]; done) | (simp only [↓hb7, ↓hb10, ↓hb22, ↓hb27, ↓hb30, ↓hb32, bl]; rfl))⟩, rr, rr, rr, trivial⟩
   refine Tr.skip ?_
   conv=>whnf
   refine rg ?_
   conv=>whnf
   refine arS_raw ?_
   conv=>whnf
   refine ⟨((w64 (v_14 + 1)), l_15, l_16), h, ?_⟩
   exact Wk.mk2 [0, 1, 2, 3, 4] 6 rfl rfl (by decide) rfl ⟨rr, rr, rr, daS_d rfl, daS_d rfl, trivial⟩ ⟨rr, rr, rr, rr, rr, rr, rr, rr, rr, trivial⟩
  refine Tr.exit ?_
  conv=>whnf
  refine ⟨(l_15, l_16), h, ?_⟩
  exact Wk.mk2 [1, 2, 3, 4] 5 rfl rfl (by decide) rfl ⟨rr, rr, daS_d rfl, daS_d rfl, trivial⟩ ⟨⟨rfl, (by first | rfl | (simp only [↓hb7, ↓hb10, ↓hb22, bl]; done) | (simp only [↓hb7, ↓hb10, ↓hb22, bl]; rfl))⟩, ⟨rfl, (by first | rfl | (simp only [↓hb7, ↓hb10, ↓hb22, bl]; done) | (simp only [↓hb7, ↓hb10, ↓hb22, bl]; rfl))⟩, rr, ⟨rfl, (by first | rfl | (simp only [↓hb7, ↓hb10, ↓hb22, bl]; done) | (simp only [↓hb7, ↓hb10, ↓hb22, bl]; rfl))⟩, ⟨rfl, (by first | rfl | (simp only [↓hb7, ↓hb10, ↓hb22, bl]; done) | (simp only [↓hb7, ↓hb10, ↓hb22, bl]; rfl))⟩, trivial⟩
 clear h
 rintro ⟨l_18, l_19⟩ h T1 H1 hw
 replace h : M81 t_2 l_18 l_19 = some (r_3, r_4) := h
 conv=>whnf
 refine Tr.weak hw ?_
 unfold M81 at h
 refine sg ?_
 conv=>whnf
 refine lnS_mk rfl ?_
 conv=>whnf
 refine Tr.seq ?_
 refine Tr.frz 7 ?_
 conv=>whnf
 refine frE_of (f := eTteams_member) (l := l_18) rfl ?_
 conv=>whnf
 refine Tr.frz 8 ?_
 conv=>whnf
 refine frE_of (f := eTteams_member) (l := l_19) rfl ?_
 conv=>whnf
 refine rg ?_
 conv=>whnf
 refine orB_r ?_
 conv=>whnf
 obtain ⟨r_34, hc35, h⟩ := bS h
 refine PC.ecall (P68 ((([l_18, l_19] : List (List Tteams_member)))) r_34 hc35) (fun rs hrs => ?_)
 subst hrs
 conv=>whnf
 refine Tr.seq ?_
 refine sg ?_
 conv=>whnf
 refine lnS_map ?_
 conv=>whnf
 refine Tr.cond ?_
 conv=>whnf
 refine cB h (fun hb36 h => ?_) (fun hb36 h => ?_)
 ·refine sg ?_
  conv=>whnf
  refine orB_l ?_
  conv=>whnf
  refine Tr.ret ?_
  conv=>whnf
  cases h
  rfl
 refine Tr.skip ?_
 conv=>whnf
 refine sg ?_
 conv=>whnf
 obtain ⟨r_37, hc38, h⟩ := bS h
 refine PC.ecall (P72 r_34 t_2.Best r_37 hc38) (fun rs hrs => ?_)
 subst hrs
 conv=>whnf
 refine Tr.seq ?_
 refine sg ?_
 conv=>whnf
 refine Tr.cond ?_
 conv=>whnf
 refine cB h (fun hb39 h => ?_) (fun hb39 h => ?_)
 ·refine dq [(13,4)] [(0,1),(1,1),(2,2),(3,1),(4,1),(5,3),(6,3),(7,1),(8,2),(9,1),(10,1),(11,1),(12,7),(13,0)] ?_
  conv=>whnf
  refine q1 ?_
  conv=>whnf
  refine q1 ?_
  conv=>whnf
  refine q3 (lnS_map rr) ?_
  conv=>whnf
  obtain ⟨r_40, hc41, h⟩ := bS h
  refine q1 ?_ (fun _ => pe (P76 l_18 ((((l_18).length : Int))) r_40 hc41) rr)
  conv=>whnf
  refine q1 ?_
  conv=>whnf
  refine q2 ?_
  conv=>whnf
  refine q2 ?_
  conv=>whnf
  refine q1 ?_
  conv=>whnf
  refine q3 (lnS_map rr) ?_
  conv=>whnf
  refine q4 ?_
  conv=>whnf
  obtain ⟨r_42, hc43, h⟩ := bS h
  refine q1 ?_ (fun _ => pe (P79 l_19 ((w64 (t_2.Best - (((l_18).length : Int))))) r_42 hc43) rr)
  conv=>whnf
  refine q4 ?_
  conv=>whnf
  refine q2 ?_
  conv=>whnf
  refine ⟨_, _, rr, kp_ok (by repeat (first | exact trivial | refine ⟨trivial, ?_⟩ | refine ⟨rfl, ?_⟩)), ?_⟩
  conv=>whnf
  refine sg ?_
  conv=>whnf
  refine orB_r ?_
  conv=>whnf
  refine sg ?_
  conv=>whnf
  refine Tr.ret ?_
  conv=>whnf
  cases h
  rfl
 refine rg ?_
 conv=>whnf
 obtain ⟨r_44, hc45, h⟩ := bS h
 refine PC.ecall (P76 l_18 t_2.Best r_44 hc45) (fun rs hrs => ?_)
 subst hrs
 conv=>whnf
 refine sg ?_
 conv=>whnf
 refine orB_r ?_
 conv=>whnf
 refine sg ?_
 conv=>whnf
 refine Tr.ret ?_
 conv=>whnf
 cases h
 rfl
theorem P87 (l_1 : List TTeam) (r_2 : Int) (h : M87 l_1 = some r_2) :
    PC prog 19 [(.ls (List.map eTTeam l_1))] (fun rs => rs = [(.i .i64 r_2)]) := by
 refine PC.of_tr (cx := ⟨51, none, lay, 0⟩) layOK func19 rfl rfl rfl rfl rfl (by simp [f19]) ?_
 unfold M87 at h
 refine sg ?_
 conv=>whnf
 refine Tr.seq ?_
 refine sg ?_
 conv=>whnf
 refine lnS_map ?_
 conv=>whnf
 refine cB h (fun hb3 h => ?_) (fun hb3 h => ?_)
 ·conv=>whnf
  refine Tr.cond ?_
  conv=>whnf
  refine sg ?_
  conv=>whnf
  refine Tr.ret ?_
  conv=>whnf
  cases h
  rfl
 conv=>whnf
 refine lnS_map ?_
 conv=>whnf
 refine Tr.cond ?_
 conv=>whnf
 refine cB h (fun hb4 h => ?_) (fun hb4 h => ?_)
 ·refine sg ?_
  conv=>whnf
  refine Tr.ret ?_
  conv=>whnf
  cases h
  rfl
 refine Tr.skip ?_
 conv=>whnf
 refine sg ?_
 conv=>whnf
 refine Tr.seq ?_
 refine sg ?_
 conv=>whnf
 refine lnS_map ?_
 conv=>whnf
 refine Tr.cutQ (α := Unit) (fun s => ([(2, (dI 0))], [])) (fun s => M86 s = some r_2) ?_ ?_
 ·refine Tr.block ?_
  refine Tr.loopM (σ := Int × (List (ByteArray × Bool)) × (List (Int × Bool))) (fun n s => M85 l_1 M86 n s.1 s.2.1 s.2.2) r_2 (fun s => ([(2, (dI 0)), (3, .mr 0), (4, .mr 1), (19, .d (.ls (List.map eTTeam l_1))), (20, (dI (((l_1).length : Int)))), (21, (dI s.1))], [some (.mp (List.map (eKV eS eB) s.2.1)), some (.mp (List.map (eKV eI eB) s.2.2))])) (((((l_1).length : Int)) - 0 : Int).toNat + 1) (0, (([] : List (ByteArray × Bool))), (([] : List (Int × Bool)))) h (fun s => rfl) (Wk.mk2 [0, 1] 2 rfl rfl (by decide) rfl ⟨maS_mk rfl, maS_mk rfl, trivial⟩ ⟨rr, rr, rr, rr, rr, rr, trivial⟩) ?_
  clear h
  rintro n_11 ⟨v_8, m_9, m_10⟩ h
  replace h : M85 l_1 M86 (n_11 + 1) v_8 m_9 m_10 = some r_2 := h
  rw [M85] at h
  refine sg ?_
  conv=>whnf
  refine Tr.seq ?_
  refine Tr.cond ?_
  conv=>whnf
  refine cB h (fun hb14 h => ?_) (fun hb14 h => ?_)
  ·refine Tr.skip ?_
   conv=>whnf
   refine Tr.seq ?_
   refine Tr.block ?_
   refine sg ?_
   conv=>whnf
   obtain ⟨x_15, hx_15, h⟩ := bS h
   refine ixP_of hx_15 ?_
   conv=>whnf
   refine Tr.seq ?_
   refine sg ?_
   conv=>whnf
   obtain ⟨r_16, hc17, h⟩ := bS h
   refine PC.ecall (P4 x_15 r_16 hc17) (fun rs hrs => ?_)
   subst hrs
   conv=>whnf
   refine cB h (fun hb18 h => ?_) (fun hb18 h => ?_)
   ·conv=>whnf
    refine Tr.cond ?_
    conv=>whnf
    refine sg ?_
    conv=>whnf
    refine Tr.ret ?_
    conv=>whnf
    cases h
    rfl
   conv=>whnf
   refine mgS_mk (mfit_map (g := eB) (sameK_eS) m_9 x_15.Name) (mget_map (g := eB) (keyEq_eS) m_9 x_15.Name false) (neAg_b _) ?_
   conv=>whnf
   refine Tr.cond ?_
   conv=>whnf
   refine cB h (fun hb19 h => ?_) (fun hb19 h => ?_)
   ·refine sg ?_
    conv=>whnf
    refine Tr.ret ?_
    conv=>whnf
    cases h
    rfl
   refine Tr.skip ?_
   conv=>whnf
   refine sg ?_
   conv=>whnf
   refine mpS_mk (mfit_map (g := eB) (sameK_eS) m_9 x_15.Name) (mput_map (g := eB) (keyEq_eS) m_9 x_15.Name true) ?_
   conv=>whnf
   refine sg ?_
   conv=>whnf
   refine lnS_map ?_
   conv=>whnf
   refine Tr.cutQ (α := (List (Int × Bool))) (fun s => ([(2, (dI 0)), (3, .mr 0), (4, .mr 1), (19, .d (.ls (List.map eTTeam l_1))), (20, (dI (((l_1).length : Int)))), (21, (dI v_8))], [some (.mp (List.map (eKV eS eB) (mapPut m_9 x_15.Name true))), some (.mp (List.map (eKV eI eB) s))])) (fun s => M84 v_8 m_9 (M85 l_1 M86 n_11) x_15 s = some r_2) ?_ ?_
   ·refine Tr.block ?_
    refine Tr.loopM (σ := Int × (List (Int × Bool))) (fun n s => M83 x_15 (M84 v_8 m_9 (M85 l_1 M86 n_11) x_15) n s.1 s.2) r_2 (fun s => ([(2, (dI 0)), (3, .mr 0), (4, .mr 1), (19, .d (.ls (List.map eTTeam l_1))), (20, (dI (((l_1).length : Int)))), (21, (dI v_8)), (38, .d (.ls (List.map eI x_15.Bibs))), (39, (dI (((x_15.Bibs).length : Int)))), (40, (dI s.1))], [some (.mp (List.map (eKV eS eB) (mapPut m_9 x_15.Name true))), some (.mp (List.map (eKV eI eB) s.2))])) (((((x_15.Bibs).length : Int)) - 0 : Int).toNat + 1) (0, m_10) h (fun s => rfl) (Wk.mk2 [0, 1] 3 rfl rfl (by decide) rfl ⟨maS_mk rfl, maS_mk rfl, trivial⟩ ⟨rr, rr, rr, rr, rr, rr, rr, rr, rr, trivial⟩) ?_
    clear h
    rintro n_24 ⟨v_22, m_23⟩ h
    replace h : M83 x_15 (M84 v_8 m_9 (M85 l_1 M86 n_11) x_15) (n_24 + 1) v_22 m_23 = some r_2 := h
    rw [M83] at h
    refine sg ?_
    conv=>whnf
    refine Tr.seq ?_
    refine Tr.cond ?_
    conv=>whnf
    refine cB h (fun hb28 h => ?_) (fun hb28 h => ?_)
    ·refine Tr.skip ?_
     conv=>whnf
     refine Tr.seq ?_
     refine Tr.block ?_
     refine sg ?_
     conv=>whnf
     obtain ⟨x_29, hx_29, h⟩ := bS h
     refine ixP_of hx_29 ?_
     conv=>whnf
     refine Tr.seq ?_
     refine sg ?_
     conv=>whnf
     refine mgS_mk (mfit_map (g := eB) (sameK_eI) m_23 x_29) (mget_map (g := eB) (keyEq_eI) m_23 x_29 false) (neAg_b _) ?_
     conv=>whnf
     refine Tr.cond ?_
     conv=>whnf
     refine cB h (fun hb30 h => ?_) (fun hb30 h => ?_)
     ·refine sg ?_
      conv=>whnf
      refine Tr.ret ?_
      conv=>whnf
      cases h
      rfl
     refine Tr.skip ?_
     conv=>whnf
     refine rg ?_
     conv=>whnf
     refine mpS_mk (mfit_map (g := eB) (sameK_eI) m_23 x_29) (mput_map (g := eB) (keyEq_eI) m_23 x_29 true) ?_
     conv=>whnf
     refine rg ?_
     conv=>whnf
     refine arS_raw ?_
     conv=>whnf
     refine ⟨((w64 (v_22 + 1)), (mapPut m_23 x_29 true)), h, ?_⟩
     exact Wk.mk2 [0, 1] 2 rfl rfl (by decide) rfl ⟨maS_mk rfl, maS_mk rfl, trivial⟩ ⟨rr, rr, rr, rr, rr, rr, rr, rr, rr, trivial⟩
    refine Tr.exit ?_
    conv=>whnf
    refine ⟨(m_23), h, ?_⟩
    exact Wk.mk2 [0, 1] 2 rfl rfl (by decide) rfl ⟨maS_mk rfl, maS_mk rfl, trivial⟩ ⟨rr, rr, rr, rr, rr, rr, trivial⟩
   clear h
   rintro m_25 h T1 H1 hw
   replace h : M84 v_8 m_9 (M85 l_1 M86 n_11) x_15 m_25 = some r_2 := h
   conv=>whnf
   refine Tr.weak hw ?_
   unfold M84 at h
   refine rg ?_
   conv=>whnf
   refine arS_raw ?_
   conv=>whnf
   refine ⟨((w64 (v_8 + 1)), (mapPut m_9 x_15.Name true), m_25), h, ?_⟩
   exact Wk.mk2 [0, 1] 2 rfl rfl (by decide) rfl ⟨maS_mk rfl, maS_mk rfl, trivial⟩ ⟨rr, rr, rr, rr, rr, rr, trivial⟩
  refine Tr.exit ?_
  conv=>whnf
  refine ⟨(), h, ?_⟩
  exact Wk.mk2 [] 2 rfl rfl (by decide) rfl trivial ⟨rr, trivial⟩
 clear h
 rintro _ h T1 H1 hw
 replace h : M86 () = some r_2 := h
 conv=>whnf
 refine Tr.weak hw ?_
 unfold M86 at h
 refine sg ?_
 conv=>whnf
 refine Tr.ret ?_
 conv=>whnf
 cases h
 rfl
theorem P91 (f_1 : TField) (l_2 : List TTeam) (at_3 : Int) (r_4 : Int) (r_5 : Int) (r_6 : Int) (h : M91 f_1 l_2 at_3 = some (r_4, r_5, r_6)) :
    PC prog 14 [(eTField f_1), (.ls (List.map eTTeam l_2)), (.i .i64 at_3)] (fun rs => rs = [(.i .i64 r_4), (.i .i64 r_5), (.i .i64 r_6)]) := by
 refine PC.of_tr (cx := ⟨109, none, lay, 0⟩) layOK func14 rfl rfl rfl rfl rfl (by simp [f14]) ?_
 unfold M91 at h
 refine sg ?_
 conv=>whnf
 refine Tr.seq ?_
 refine sg ?_
 conv=>whnf
 obtain ⟨r_7, hc8, h⟩ := bS h
 refine PC.ecall (P87 l_2 r_7 hc8) (fun rs hrs => ?_)
 subst hrs
 conv=>whnf
 refine sg ?_
 conv=>whnf
 refine Tr.cond ?_
 conv=>whnf
 refine cB h (fun hb9 h => ?_) (fun hb9 h => ?_)
 ·refine sg ?_
  conv=>whnf
  refine Tr.ret ?_
  conv=>whnf
  cases h
  rfl
 refine Tr.skip ?_
 conv=>whnf
 refine Tr.seq ?_
 refine sg ?_
 conv=>whnf
 refine cB h (fun hb10 h => ?_) (fun hb10 h => ?_)
 ·conv=>whnf
  refine Tr.cond ?_
  conv=>whnf
  refine sg ?_
  conv=>whnf
  refine Tr.ret ?_
  conv=>whnf
  cases h
  rfl
 conv=>whnf
 refine lnS_map ?_
 conv=>whnf
 refine Tr.cond ?_
 conv=>whnf
 refine cB h (fun hb11 h => ?_) (fun hb11 h => ?_)
 ·refine sg ?_
  conv=>whnf
  refine Tr.ret ?_
  conv=>whnf
  cases h
  rfl
 refine Tr.skip ?_
 conv=>whnf
 refine sg ?_
 conv=>whnf
 refine Tr.seq ?_
 refine sg ?_
 conv=>whnf
 refine lnS_map ?_
 conv=>whnf
 refine Tr.cutQ (α := List TTotal) (fun s => ([(2, (dI at_3)), (6, (dI 0)), (7, (dI 0)), (8, (dI 0)), (10, .sl 0 3 0 (List.length s))], [some (.arr 3 (List.map .d (List.map eTTotal s)))])) (fun s => M90 at_3 s = some (r_4, r_5, r_6)) ?_ ?_
 ·refine Tr.block ?_
  refine Tr.loopM (σ := Int × List TTotal) (fun n s => M88 f_1 l_2 (M90 at_3) n s.1 s.2) (r_4, r_5, r_6) (fun s => ([(2, (dI at_3)), (3, .pt 0 0), (6, (dI 0)), (7, (dI 0)), (8, (dI 0)), (10, .sl 1 3 0 (List.length s.2)), (31, .d (.ls (List.map eTTeam l_2))), (32, (dI (((l_2).length : Int)))), (33, (dI s.1))], [some (.var [.d (.ls (List.map eTSegment f_1.Clocks.Segments)), .d (.ls (List.map (eL eI) f_1.Clocks.Far)), .d (.ls (List.map eTPair f_1.Pairs)), .d (.ls (List.map eTRunner f_1.Runners))]), some (.arr 3 (List.map .d (List.map eTTotal s.2)))])) (((((l_2).length : Int)) - 0 : Int).toNat + 1) (0, (([] : List TTotal))) h (fun s => rfl) (Wk.mk2 [0, 1] 1 rfl rfl (by decide) rfl ⟨rr, rfl, trivial⟩ ⟨rr, rr, rr, rr, rr, ⟨rfl, (by first | rfl | (simp only [↓hb9, ↓hb10, ↓hb11, bl]; done) | (simp only [↓hb9, ↓hb10, ↓hb11, bl]; rfl))⟩, rr, rr, rr, trivial⟩) ?_
  clear h
  rintro n_16 ⟨v_14, l_15⟩ h
  replace h : M88 f_1 l_2 (M90 at_3) (n_16 + 1) v_14 l_15 = some (r_4, r_5, r_6) := h
  rw [M88] at h
  refine sg ?_
  conv=>whnf
  refine Tr.seq ?_
  refine Tr.cond ?_
  conv=>whnf
  refine cB h (fun hb20 h => ?_) (fun hb20 h => ?_)
  ·refine Tr.skip ?_
   conv=>whnf
   refine Tr.seq ?_
   refine Tr.block ?_
   refine sg ?_
   conv=>whnf
   obtain ⟨x_21, hx_21, h⟩ := bS h
   refine ixP_of hx_21 ?_
   conv=>whnf
   refine sg ?_
   conv=>whnf
   obtain ⟨⟨r_22, r_23⟩, hc24, h⟩ := bS h
   refine PC.ecall (P82 f_1 x_21 r_22 r_23 hc24) (fun rs hrs => ?_)
   subst hrs
   conv=>whnf
   refine Tr.seq ?_
   refine sg ?_
   conv=>whnf
   refine Tr.cond ?_
   conv=>whnf
   refine cB h (fun hb25 h => ?_) (fun hb25 h => ?_)
   ·refine sg ?_
    conv=>whnf
    refine Tr.ret ?_
    conv=>whnf
    cases h
    rfl
   refine Tr.skip ?_
   conv=>whnf
   refine rg ?_
   conv=>whnf
   refine orB_r ?_
   conv=>whnf
   refine frP_no ?_
   conv=>whnf
   refine eqS_mk (by first | rfl | simp) ?_
   conv=>whnf
   obtain ⟨l_26, hl_26, h⟩ := bS h
   refine apS_of hl_26 (aQ (f := eTTotal) (l := (([r_22] : List TTotal))) fun _ => rfl) (by first | rfl | simp) (by first | rfl | simp) (fun he => ?_)
   conv=>whnf
   refine rS (es' := List.map .d (List.map eTTotal l_26)) (n' := List.length l_26) (by subst he; simp only [List.map_append, List.map_cons, List.map_nil, List.nil_append]; first | done | rfl) (by subst he; simp <;> omega) ?_
   clear he
   conv=>whnf
   refine rg ?_
   conv=>whnf
   refine arS_raw ?_
   conv=>whnf
   refine ⟨((w64 (v_14 + 1)), l_26), h, ?_⟩
   exact Wk.mk2 [0, 4] 5 rfl rfl (by decide) rfl ⟨rr, daS_d rfl, trivial⟩ ⟨rr, rr, rr, rr, rr, ⟨rfl, (by first | rfl | (simp only [↓hb9, ↓hb10, ↓hb11, ↓hb20, ↓hb25, bl]; done) | (simp only [↓hb9, ↓hb10, ↓hb11, ↓hb20, ↓hb25, bl]; rfl))⟩, rr, rr, rr, trivial⟩
  refine Tr.exit ?_
  conv=>whnf
  refine ⟨(l_15), h, ?_⟩
  exact Wk.mk2 [1] 2 rfl rfl (by decide) rfl ⟨daS_d rfl, trivial⟩ ⟨rr, rr, rr, rr, ⟨rfl, (by first | rfl | (simp only [↓hb9, ↓hb10, ↓hb11, ↓hb20, bl]; done) | (simp only [↓hb9, ↓hb10, ↓hb11, ↓hb20, bl]; rfl))⟩, trivial⟩
 clear h
 rintro l_17 h T1 H1 hw
 replace h : M90 at_3 l_17 = some (r_4, r_5, r_6) := h
 conv=>whnf
 refine Tr.weak hw ?_
 unfold M90 at h
 refine Tr.seq ?_
 refine sg ?_
 conv=>whnf
 obtain ⟨x_27, hx_27, h⟩ := bS h
 refine ixS_of hx_27 rfl ?_
 conv=>whnf
 refine elP_of hx_27 ?_
 conv=>whnf
 refine lnS_map ?_
 conv=>whnf
 refine Tr.cond ?_
 conv=>whnf
 refine cB h (fun hb28 h => ?_) (fun hb28 h => ?_)
 ·refine sg ?_
  conv=>whnf
  refine Tr.ret ?_
  conv=>whnf
  cases h
  rfl
 refine Tr.skip ?_
 conv=>whnf
 refine sg ?_
 conv=>whnf
 obtain ⟨x_29, hx_29, h⟩ := bS h
 refine ixS_of hx_29 rfl ?_
 conv=>whnf
 refine elP_of hx_29 ?_
 conv=>whnf
 obtain ⟨x_30, hx_30, h⟩ := bS h
 refine ixP_of hx_30 ?_
 conv=>whnf
 refine sg ?_
 conv=>whnf
 refine Tr.seq ?_
 refine sg ?_
 conv=>whnf
 refine lnS_mk rfl ?_
 conv=>whnf
 obtain ⟨⟨least_38, greatest_39⟩, hv58, h⟩ := bS h
 refine Tr.cutQ1 ([(6, (dI least_38)), (7, (dI greatest_39)), (8, (dI 0))]) ([]) ?_ (fun T1 H1 hw => ?_)
 ·replace h := hv58; clear hv58
  refine Tr.block ?_
  refine Tr.loopM (σ := Int × Int × Int) (fun n s => M89 at_3 l_17 x_30 n s.1 s.2.1 s.2.2) (least_38, greatest_39) (fun s => ([(2, (dI at_3)), (6, (dI s.1)), (7, (dI s.2.1)), (8, (dI 0)), (15, .pt 0 0), (65, .sl 1 3 0 (List.length l_17)), (66, (dI (((l_17).length : Int)))), (67, (dI s.2.2))], [some (.var [(dI x_30.Lo), (dI x_30.Hi)]), some (.arr 3 (List.map .d (List.map eTTotal l_17)))])) (((((l_17).length : Int)) - 0 : Int).toNat + 1) (1, 1, 0) h (fun s => rfl) (Wk.mk2 [1, 0] 2 rfl rfl (by decide) rfl ⟨rr, daS_d rfl, trivial⟩ ⟨rr, rr, rr, rr, ⟨rfl, (by first | rfl | (simp only [↓hb9, ↓hb10, ↓hb11, ↓hb28, bl]; done) | (simp only [↓hb9, ↓hb10, ↓hb11, ↓hb28, bl]; rfl))⟩, ⟨rfl, (by first | rfl | (simp only [↓hb9, ↓hb10, ↓hb11, ↓hb28, bl]; done) | (simp only [↓hb9, ↓hb10, ↓hb11, ↓hb28, bl]; rfl))⟩, rr, rr, trivial⟩) ?_
  clear h
  rintro n_37 ⟨least_34, greatest_35, v_36⟩ h
  replace h : M89 at_3 l_17 x_30 (n_37 + 1) least_34 greatest_35 v_36 = some (least_38, greatest_39) := h
  rw [M89] at h
  refine sg ?_
  conv=>whnf
  refine Tr.seq ?_
  refine Tr.cond ?_
  conv=>whnf
  refine cB h (fun hb42 h => ?_) (fun hb42 h => ?_)
  ·refine Tr.skip ?_
   conv=>whnf
   refine Tr.seq ?_
   obtain ⟨⟨least_43, greatest_44⟩, hv45, h⟩ := bS h
   refine Tr.cutQ1 ([(2, (dI at_3)), (6, (dI least_43)), (7, (dI greatest_44)), (8, (dI 0)), (15, .pt 0 0), (65, .sl 1 3 0 (List.length l_17)), (66, (dI (((l_17).length : Int)))), (67, (dI v_36))]) ([some (.var [(dI x_30.Lo), (dI x_30.Hi)]), some (.arr 3 (List.map .d (List.map eTTotal l_17)))]) ?_ (fun T1 H1 hw => ?_)
   ·replace h := hv45; clear hv45
    refine Tr.block ?_
    refine sg ?_
    conv=>whnf
    obtain ⟨x_46, hx_46, h⟩ := bS h
    refine ixS_of hx_46 rfl ?_
    conv=>whnf
    refine elP_of hx_46 ?_
    conv=>whnf
    refine Tr.seq ?_
    refine sg ?_
    conv=>whnf
    refine cB h (fun hb47 h => ?_) (fun hb47 h => ?_)
    ·conv=>whnf
     refine Tr.cond ?_
     conv=>whnf
     refine Tr.exit ?_
     conv=>whnf
     cases h
     exact Wk.mk2 [0, 1] 3 rfl rfl (by decide) rfl ⟨rr, daS_d rfl, trivial⟩ ⟨rr, rr, rr, rr, rr, rr, rr, rr, trivial⟩
    conv=>whnf
    refine lnS_map ?_
    conv=>whnf
    refine Tr.cond ?_
    conv=>whnf
    refine cB h (fun hb48 h => ?_) (fun hb48 h => ?_)
    ·refine Tr.exit ?_
     conv=>whnf
     cases h
     exact Wk.mk2 [0, 1] 3 rfl rfl (by decide) rfl ⟨rr, daS_d rfl, trivial⟩ ⟨rr, rr, rr, rr, rr, rr, rr, rr, trivial⟩
    refine Tr.skip ?_
    conv=>whnf
    refine Tr.seq ?_
    refine sd [] [(0,5),(1,5),(2,1),(3,1),(4,5),(5,5),(6,2),(7,2),(8,2),(9,3),(10,3),(11,1),(12,1)] ?_
    conv=>whnf
    refine q2 ?_
    conv=>whnf
    refine q2 ?_
    conv=>whnf
    refine q1 ?_
    conv=>whnf
    refine q1 ?_
    conv=>whnf
    refine cB h (fun hb49 h => ?_) (fun hb49 h => ?_)
    ·conv=>whnf
     refine q2 ?_
     conv=>whnf
     refine q2 ?_
     conv=>whnf
     obtain ⟨x_50, hx_50, h⟩ := bS h
     refine q3 (ixP_of hx_50 rr) ?_
     conv=>whnf
     refine q2 ?_
     conv=>whnf
     refine q2 ?_
     conv=>whnf
     refine q2 ?_
     conv=>whnf
     refine q2 ?_
     conv=>whnf
     refine q1 ?_
     conv=>whnf
     refine q1 ?_
     conv=>whnf
     refine Tr.cond ?_
     conv=>whnf
     refine cB h (fun hb51 h => ?_) (fun hb51 h => ?_)
     ·refine rg ?_
      conv=>whnf
      refine arS_raw ?_
      conv=>whnf
      refine sd [] [(0,5),(1,5),(2,2),(3,2),(4,2),(5,3),(6,3),(7,1)] ?_
      conv=>whnf
      refine q2 ?_
      conv=>whnf
      refine q2 ?_
      conv=>whnf
      obtain ⟨x_52, hx_52, h⟩ := bS h
      refine q3 (ixP_of hx_52 rr) ?_
      conv=>whnf
      refine q2 ?_
      conv=>whnf
      refine q2 ?_
      conv=>whnf
      refine q2 ?_
      conv=>whnf
      refine q2 ?_
      conv=>whnf
      refine q1 ?_
      conv=>whnf
      refine Tr.cond ?_
      conv=>whnf
      refine cB h (fun hb53 h => ?_) (fun hb53 h => ?_)
      ·refine rg ?_
       conv=>whnf
       refine arS_raw ?_
       conv=>whnf
       cases h
       exact Wk.mk2 [0, 1] 3 rfl rfl (by decide) rfl ⟨rr, daS_d rfl, trivial⟩ ⟨rr, rr, rr, rr, rr, rr, rr, rr, trivial⟩
      refine Tr.skip ?_
      conv=>whnf
      cases h
      exact Wk.mk2 [0, 1] 3 rfl rfl (by decide) rfl ⟨rr, daS_d rfl, trivial⟩ ⟨rr, rr, rr, rr, rr, rr, rr, rr, trivial⟩
     refine Tr.skip ?_
     conv=>whnf
     refine sd [] [(0,5),(1,5),(2,2),(3,2),(4,2),(5,3),(6,3),(7,1)] ?_
     conv=>whnf
     refine q2 ?_
     conv=>whnf
     refine q2 ?_
     conv=>whnf
     obtain ⟨x_54, hx_54, h⟩ := bS h
     refine q3 (ixP_of hx_54 rr) ?_
     conv=>whnf
     refine q2 ?_
     conv=>whnf
     refine q2 ?_
     conv=>whnf
     refine q2 ?_
     conv=>whnf
     refine q2 ?_
     conv=>whnf
     refine q1 ?_
     conv=>whnf
     refine Tr.cond ?_
     conv=>whnf
     refine cB h (fun hb55 h => ?_) (fun hb55 h => ?_)
     ·refine rg ?_
      conv=>whnf
      refine arS_raw ?_
      conv=>whnf
      cases h
      exact Wk.mk2 [0, 1] 3 rfl rfl (by decide) rfl ⟨rr, daS_d rfl, trivial⟩ ⟨rr, rr, rr, rr, rr, rr, rr, rr, trivial⟩
     refine Tr.skip ?_
     conv=>whnf
     cases h
     exact Wk.mk2 [0, 1] 3 rfl rfl (by decide) rfl ⟨rr, daS_d rfl, trivial⟩ ⟨rr, rr, rr, rr, rr, rr, rr, rr, trivial⟩
    conv=>whnf
    refine q1 ?_
    conv=>whnf
    refine Tr.cond ?_
    conv=>whnf
    refine Tr.skip ?_
    conv=>whnf
    refine sd [] [(0,5),(1,5),(2,2),(3,2),(4,2),(5,3),(6,3),(7,1)] ?_
    conv=>whnf
    refine q2 ?_
    conv=>whnf
    refine q2 ?_
    conv=>whnf
    obtain ⟨x_56, hx_56, h⟩ := bS h
    refine q3 (ixP_of hx_56 rr) ?_
    conv=>whnf
    refine q2 ?_
    conv=>whnf
    refine q2 ?_
    conv=>whnf
    refine q2 ?_
    conv=>whnf
    refine q2 ?_
    conv=>whnf
    refine q1 ?_
    conv=>whnf
    refine Tr.cond ?_
    conv=>whnf
    refine cB h (fun hb57 h => ?_) (fun hb57 h => ?_)
    ·refine rg ?_
     conv=>whnf
     refine arS_raw ?_
     conv=>whnf
     cases h
     exact Wk.mk2 [0, 1] 3 rfl rfl (by decide) rfl ⟨rr, daS_d rfl, trivial⟩ ⟨rr, rr, rr, rr, rr, rr, rr, rr, trivial⟩
    refine Tr.skip ?_
    conv=>whnf
    cases h
    exact Wk.mk2 [0, 1] 3 rfl rfl (by decide) rfl ⟨rr, daS_d rfl, trivial⟩ ⟨rr, rr, rr, rr, rr, rr, rr, rr, trivial⟩
   clear hv45
   conv=>whnf
   refine Tr.weak hw ?_
   refine rg ?_
   conv=>whnf
   refine arS_raw ?_
   conv=>whnf
   refine ⟨(least_43, greatest_44, (w64 (v_36 + 1))), h, ?_⟩
   exact Wk.mk2 [0, 1] 2 rfl rfl (by decide) rfl ⟨rr, daS_d rfl, trivial⟩ ⟨rr, rr, rr, rr, rr, rr, rr, rr, trivial⟩
  refine Tr.exit ?_
  conv=>whnf
  cases h
  exact Wk.mk2 [] 2 rfl rfl (by decide) rfl trivial ⟨rr, rr, rr, trivial⟩
 clear hv58
 conv=>whnf
 refine Tr.weak hw ?_
 refine sg ?_
 conv=>whnf
 refine Tr.ret ?_
 conv=>whnf
 cases h
 rfl
theorem P92 (x_1 : Int) (r_9 : ByteArray) (h : M92 x_1 = some r_9) :
    PC prog 53 [(.i .i64 x_1)] (fun rs => rs = [(.s r_9)]) := by
  unfold M92 at h
  split at h
  · rename_i hx
    cases h
    exact PC.of_below (vs := [.int .i64 x_1]) func53 rfl rfl rfl rfl (fun X w ht => (Go.Proofs.Tryz.strconv_Itoa x_1 hx.1 hx.2 w (tab10 ht)).mono (by rintro e w' ⟨rfl, k, os, rfl⟩; exact ⟨rfl, Go.Lib.below_grow _ _ (Nat.le_refl _) _ _⟩))
  · cases h
theorem P94 (x_1 : List TStarter) (best_2 : Int) (r_9 : List TTeam) (h : M94 x_1 best_2 = some r_9) :
    PC prog 23 [(.ls (List.map eTStarter x_1)), (.i .i64 best_2)] (fun rs => rs = [(.ls (List.map eTTeam r_9))]) := by
  unfold M94 at h
  split at h
  case isFalse => cases h
  rename_i hx
  obtain ⟨hx1, hx2⟩ := hx
  refine PC.of_made (cx := ⟨71, none, lay, 0⟩) layOK func23 rfl rfl (d1 := 12) (d2 := 5) (t := 102) rfl rfl rfl rfl rfl rfl (by decide) (by decide) rfl rfl (by simp [f23]) ?_
  conv=>whnf
  intro b
  refine TrG.seq ?_
  refine TrG.seq ?_
  refine TrG.rg layOK rfl ?_
  conv=>whnf
  refine lnS_map ?_
  conv=>whnf
  refine TrG.block ?_
  refine TrG.loop (σ := { i : Nat // i ≤ x_1.length }) (S := fun i => ([(0, .d (.ls (List.map eTStarter x_1))), (1, (dI best_2)), (4, .nsl), (5, .mx b), (13, .d (.ls (List.map eTStarter x_1))), (14, (dI (x_1.length : Int))), (15, (dI (i.1 : Int)))], [], gl34 ((x_1.take i.1).foldl grp34 []))) (fun i => x_1.length - i.1) ⟨0, Nat.zero_le _⟩ (Wk.mk2 [] 0 rfl rfl (by decide) rfl trivial ⟨rr, rr, rr, rr, rr, rr, rr, trivial⟩) rfl ?_
  rintro ⟨i, hi⟩
  refine TrG.seq ?_
  refine TrG.rg layOK rfl ?_
  conv=>whnf
  refine TrG.seq ?_
  refine TrG.cond ?_
  conv=>whnf
  refine condS_mk (fun hb1 => ?_) (fun hb1 => ?_)
  rotate_left
  · conv=>whnf
    refine TrG.exit ?_
    conv=>whnf
    have hi' : i = x_1.length := by
      have : ¬(i : Int) < (x_1.length : Int) := of_decide_eq_false hb1
      omega
    subst hi'
    rw [List.take_length]
    refine TrG.weak (T' := [(1, (dI best_2)), (4, .nsl), (5, .mx b)]) (H' := []) (Wk.mk2 [] 0 rfl rfl (by decide) rfl trivial ⟨rr, rr, rr, trivial⟩) ?_
    generalize hgs : x_1.foldl grp34 [] = gs at h ⊢
    have hkeys : msortI (gs.map (·.1)) = (gs.map (·.1)).mergeSort fun x y => decide (x ≤ y) := rfl
    rw [← hkeys] at h
    have hgk : (gl34 gs).map (·.1) = gs.map (·.1) := by unfold gl34; rw [List.map_map]; rfl
    obtain ⟨hok, hgl⟩ := grps34_ok (l := x_1) (gs := []) ⟨List.nodup_nil, fun p hp => by cases hp⟩ hx2
    rw [hgs] at hok hgl
    have hlen34 : ∀ k, (mapGet gs k []).length ≤ 1000 := fun k => by
      have := grp34_len x_1 [] k
      rw [hgs] at this
      simp [mapGet] at this
      omega
    have hkn : (msortI (gs.map (·.1))).Nodup := (List.Perm.nodup_iff (msortI_perm _)).2 hok.1
    have hkm : ∀ k, k ∈ msortI (gs.map (·.1)) → k ∈ gs.map (·.1) := fun k hk => (List.Perm.mem_iff (msortI_perm _)).1 hk
    have hkl : (msortI (gs.map (·.1))).length ≤ 1000 := by
      rw [msortI_len, List.length_map]
      simp at hgl
      omega
    refine TrG.seq ?_
    refine TrG.seq ?_
    refine TrG.region ?_
    refine OpsG.step layOK rfl ?_
    conv=>whnf
    refine OpsG.step layOK rfl ?_
    conv=>whnf
    refine keys_ecall ?_
    conv=>whnf
    refine OpsG.sorted rfl rfl rfl (by decide) rfl rfl (by unfold gl34; rw [List.length_map]; simp at hgl; omega) ?_
    rw [hgk]
    generalize hks : msortI (gs.map (·.1)) = ks at h hkn hkm hkl ⊢
    refine OpsG.step layOK rfl ?_
    conv=>whnf
    refine lnS_map ?_
    conv=>whnf
    refine OpsG.step layOK rfl ?_
    conv=>whnf
    refine OpsG.nil ?_
    conv=>whnf
    refine TrG.block ?_
    refine TrG.loop (σ := { s : Nat × List TTeam // s.1 ≤ ks.length ∧ s.2.length ≤ s.1 ∧ M93 best_2 gs (ks.drop s.1) s.2 = some r_9 }) (S := fun s => ([(1, (dI best_2)), (4, .sl 0 3 0 s.1.2.length), (5, .mx b), (46, .d (.ls (List.map (D.i .i64) ks))), (47, (dI (ks.length : Int))), (48, (dI (s.1.1 : Int)))], [some (.arr 3 (List.map .d (List.map eTTeam s.1.2)))], take34 (gl34 gs) (ks.take s.1.1))) (fun s => ks.length - s.1.1) ⟨(0, []), Nat.zero_le _, Nat.le_refl _, h⟩ (Wk.mk2 [1] 1 rfl rfl (by decide) rfl ⟨rfl, trivial⟩ ⟨rr, rr, rr, rr, rr, rr, trivial⟩) rfl ?_
    clear h
    rintro ⟨⟨i, l⟩, hi, hll, h⟩
    dsimp only at hi hll h
    refine TrG.seq ?_
    refine TrG.rg layOK rfl ?_
    conv=>whnf
    refine TrG.seq ?_
    refine TrG.cond ?_
    conv=>whnf
    refine condS_mk (fun hb2 => ?_) (fun hb2 => ?_)
    rotate_left
    · conv=>whnf
      refine TrG.exit ?_
      conv=>whnf
      have hie : i = ks.length := by
        have : ¬(i : Int) < (ks.length : Int) := of_decide_eq_false hb2
        omega
      subst hie
      rw [List.drop_length, M93] at h
      cases h
      refine TrG.seq ?_
      refine TrG.rg layOK rfl ?_
      conv=>whnf
      refine TrG.ret ?_
      conv=>whnf
      refine frE_of (f := eTTeam) (l := r_9) rfl ?_
      conv=>whnf
    conv=>whnf
    refine TrG.skip ?_
    conv=>whnf
    have hlt : i < ks.length := by simpa using hb2
    have hix : idx ks (i : Int) = some ks[i] := by unfold idx; rw [if_pos (by omega)]; simp [hlt]
    rw [List.drop_eq_getElem_cons hlt, M93] at h
    obtain ⟨s, hs, h⟩ := bS h
    obtain ⟨bb, hbb, h⟩ := bS h
    have hkin := hkm _ (List.getElem_mem hlt)
    obtain ⟨hh1, hh2⟩ := gl34_have gs ks[i] hkin
    obtain ⟨hne, hrg⟩ := hok.2 _ hh2
    dsimp only at hne hrg
    have hget : mapGet (take34 (gl34 gs) (ks.take i)) ks[i] none = some (mapGet gs ks[i] []) := by
      rw [take34_get, hh1]
      rw [List.mem_take_iff_getElem]
      rintro ⟨j, hj, e⟩
      have : j = i := (List.getElem_inj hkn).1 e
      omega
    have hzl := hlen34 ks[i]
    refine TrG.seq ?_
    refine TrG.block ?_
    refine TrG.seq ?_
    refine TrG.rg layOK rfl ?_
    conv=>whnf
    refine ixP_of (f := D.i .i64) hix ?_
    conv=>whnf
    refine TrG.seq ?_
    refine TrG.region ?_
    refine OpsG.step layOK rfl ?_
    conv=>whnf
    refine OpsG.step layOK rfl ?_
    conv=>whnf
    refine OpsG.take under102 under3 zero31 rfl rfl rfl (by decide) rfl rfl (WalkArith.wf_i64 hrg) hget ?_
    refine OpsG.step layOK rfl ?_
    conv=>whnf
    refine OpsG.nil ?_
    conv=>whnf
    refine TrG.seq ?_
    refine TrG.rg layOK rfl ?_
    conv=>whnf
    refine sort_ecall (κ := 1) rfl hne (by omega) ?_
    conv=>whnf
    refine TrG.seq ?_
    refine TrG.rg layOK rfl ?_
    conv=>whnf
    refine PC.ecall (P92 ks[i] s hs) (fun rs hrs => ?_)
    subst hrs
    conv=>whnf
    have hml : (mapGet gs ks[i] []).length = (msortI (mapGet gs ks[i] [])).length := (msortI_len _).symm
    refine compact_ecall (κ := 1) hml rfl (fun e => hne (List.eq_nil_of_length_eq_zero (by rw [hml, e]; rfl))) (by omega) ?_
    conv=>whnf
    refine TrG.seq ?_
    refine TrG.rg layOK rfl ?_
    conv=>whnf
    refine PC.ecall (P4 ⟨s, Lib.compact (msortI (mapGet gs ks[i] [])), best_2⟩ bb hbb) (fun rs hrs => ?_)
    subst hrs
    conv=>whnf
    have hw : AV.d (D.i .i64 (IntKind.i64.wrap ((i : Int) + 1))) = AV.d (D.i .i64 ((i + 1 : Nat) : Int)) := by
      have : IntKind.i64.wrap ((i : Int) + 1) = ((i + 1 : Nat) : Int) := by
        simp only [IntKind.wrap, IntKind.bits, IntKind.signed]; simp; omega
      rw [this]
    have htk : mapPut (take34 (gl34 gs) (ks.take i)) ks[i] none = take34 (gl34 gs) (ks.take (i + 1)) := by
      unfold take34
      rw [List.take_succ_eq_append_getElem hlt, List.foldl_append]; rfl
    have hmu : ks.length - (i + 1) < ks.length - i := by omega
    refine TrG.cond ?_
    conv=>whnf
    refine condS_mk (fun hb3 => ?_) (fun hb3 => ?_)
    · conv=>whnf
      refine TrG.rg layOK rfl ?_
      conv=>whnf
      refine orB_r ?_
      conv=>whnf
      refine frP_no ?_
      conv=>whnf
      refine eqS_mk (by simp) ?_
      have hl1 : l.length ≤ 1000 := by omega
      refine apS_mk (fun e he => ?_) (show (l.length + 1) * 48 ≤ 140737488355328 by omega) (show l.length + 1 < 9223372036854775808 by omega) ?_
      · obtain rfl := List.mem_singleton.1 he
        rfl
      conv=>whnf
      refine rS (es' := List.map .d (List.map eTTeam (l ++ [⟨s, Lib.compact (msortI (mapGet gs ks[i] [])), best_2⟩]))) (n' := (l ++ [(⟨s, Lib.compact (msortI (mapGet gs ks[i] [])), best_2⟩ : TTeam)]).length) (by rw [List.map_append, List.map_append]; rfl) (by rw [List.length_append]; rfl) ?_
      conv=>whnf
      refine TrG.rg layOK rfl ?_
      conv=>whnf
      refine arS_raw ?_
      conv=>whnf
      rw [hb3, cond_true] at h
      have hll' : (l ++ [(⟨s, Lib.compact (msortI (mapGet gs ks[i] [])), best_2⟩ : TTeam)]).length ≤ i + 1 := by rw [List.length_append]; simp; omega
      exact ⟨⟨(i + 1, l ++ [⟨s, Lib.compact (msortI (mapGet gs ks[i] [])), best_2⟩]), hlt, hll', h⟩, hmu, Wk.mk2 [3] 4 rfl rfl (by decide) rfl ⟨daS_d rfl, trivial⟩ ⟨rr, rr, rr, rr, rr, ⟨rfl, (by first | exact hw | exact hw.symm)⟩, trivial⟩, htk⟩
    · conv=>whnf
      refine TrG.skip ?_
      conv=>whnf
      refine TrG.rg layOK rfl ?_
      conv=>whnf
      refine arS_raw ?_
      conv=>whnf
      rw [hb3, cond_false] at h
      exact ⟨⟨(i + 1, l), hlt, Nat.le_succ_of_le hll, h⟩, hmu, Wk.mk2 [0] 3 rfl rfl (by decide) rfl ⟨daS_d rfl, trivial⟩ ⟨rr, rr, rr, rr, rr, ⟨rfl, (by first | exact hw | exact hw.symm)⟩, trivial⟩, htk⟩
  conv=>whnf
  refine TrG.skip ?_
  conv=>whnf
  have hlt : i < x_1.length := by simpa using hb1
  have hix : idx x_1 (i : Int) = some x_1[i] := by unfold idx; rw [if_pos (by omega)]; simp [hlt]
  refine TrG.seq ?_
  refine TrG.block ?_
  refine TrG.seq ?_
  refine TrG.rg layOK rfl ?_
  conv=>whnf
  refine ixP_of hix ?_
  conv=>whnf
  refine TrG.seq ?_
  refine TrG.rg layOK rfl ?_
  conv=>whnf
  have hw : AV.d (D.i .i64 (IntKind.i64.wrap ((i : Int) + 1))) = AV.d (D.i .i64 ((i + 1 : Nat) : Int)) := by
    have : IntKind.i64.wrap ((i : Int) + 1) = ((i + 1 : Nat) : Int) := by
      simp only [IntKind.wrap, IntKind.bits, IntKind.signed]; simp; omega
    rw [this]
  have hstep : (x_1.take (i + 1)).foldl grp34 [] = grp34 ((x_1.take i).foldl grp34 []) x_1[i] := by
    rw [List.take_succ_eq_append_getElem hlt, List.foldl_append]; rfl
  have hmu : x_1.length - (i + 1) < x_1.length - i := by omega
  refine condS_mk (fun hb2 => ?_) (fun hb2 => ?_)
  · conv=>whnf
    refine condS_mk (fun hb3 => ?_) (fun hb3 => ?_)
    · conv=>whnf
      refine TrG.cond ?_
      conv=>whnf
      refine condS_mk (fun hb4 => ?_) (fun hb4 => ?_)
      · conv=>whnf
        refine region6 rfl (zs := mapGet ((x_1.take i).foldl grp34 []) x_1[i].Team []) rfl rfl (by intro j hj; match j, hj with | 0, _ => rfl | 1, _ => rfl | 2, _ => rfl | 3, _ => rfl | 4, _ => rfl | 5, _ => rfl | 6, _ => rfl | 7, _ => rfl | 8, _ => rfl | 9, _ => rfl | 10, _ => rfl) ?_ (gl34_get _ _) ?_ ?_
        · have := hx2 _ (List.getElem_mem hlt)
          exact WalkArith.wf_i64 (by omega)
        · have := grp34_len (x_1.take i) [] x_1[i].Team
          simp [mapGet] at this
          omega
        conv=>whnf
        refine TrG.rg layOK rfl ?_
        conv=>whnf
        refine arS_raw ?_
        conv=>whnf
        refine ⟨⟨i + 1, hlt⟩, hmu, Wk.mk2 [] 3 rfl rfl (by decide) rfl trivial ⟨rr, rr, rr, rr, rr, rr, ⟨rfl, (by first | exact hw | exact hw.symm)⟩, trivial⟩, ?_⟩
        rw [← gl34_put]
        show _ = gl34 ((x_1.take (i + 1)).foldl grp34 [])
        rw [hstep, grp34, hb2, hb3, hb4]
        rfl
      · conv=>whnf
        refine TrG.skip ?_
        conv=>whnf
        refine TrG.rg layOK rfl ?_
        conv=>whnf
        refine arS_raw ?_
        conv=>whnf
        refine ⟨⟨i + 1, hlt⟩, hmu, Wk.mk2 [] 1 rfl rfl (by decide) rfl trivial ⟨rr, rr, rr, rr, rr, rr, ⟨rfl, (by first | exact hw | exact hw.symm)⟩, trivial⟩, ?_⟩
        show _ = gl34 ((x_1.take (i + 1)).foldl grp34 [])
        rw [hstep, grp34, hb2, hb3, hb4]
        rfl
    · conv=>whnf
      refine TrG.cond ?_
      conv=>whnf
      refine TrG.skip ?_
      conv=>whnf
      refine TrG.rg layOK rfl ?_
      conv=>whnf
      refine arS_raw ?_
      conv=>whnf
      refine ⟨⟨i + 1, hlt⟩, hmu, Wk.mk2 [] 1 rfl rfl (by decide) rfl trivial ⟨rr, rr, rr, rr, rr, rr, ⟨rfl, (by first | exact hw | exact hw.symm)⟩, trivial⟩, ?_⟩
      show _ = gl34 ((x_1.take (i + 1)).foldl grp34 [])
      rw [hstep, grp34, hb2, hb3]
      rfl
  · conv=>whnf
    refine TrG.cond ?_
    conv=>whnf
    refine TrG.skip ?_
    conv=>whnf
    refine TrG.rg layOK rfl ?_
    conv=>whnf
    refine arS_raw ?_
    conv=>whnf
    refine ⟨⟨i + 1, hlt⟩, hmu, Wk.mk2 [] 1 rfl rfl (by decide) rfl trivial ⟨rr, rr, rr, rr, rr, rr, ⟨rfl, (by first | exact hw | exact hw.symm)⟩, trivial⟩, ?_⟩
    show _ = gl34 ((x_1.take (i + 1)).foldl grp34 [])
    rw [hstep, grp34, hb2]
    rfl
theorem P97 (a_1 : List TSpan) (b_2 : List TSpan) (r_3 : Bool) (h : M97 a_1 b_2 = some r_3) :
    PC prog 48 [(.ls (List.map eTSpan a_1)), (.ls (List.map eTSpan b_2))] (fun rs => rs = [(.b r_3)]) := by
 refine PC.of_tr (cx := ⟨26, none, lay, 0⟩) layOK func48 rfl rfl rfl rfl rfl (by simp [f48]) ?_
 unfold M97 at h
 refine sg ?_
 conv=>whnf
 refine Tr.seq ?_
 refine sg ?_
 conv=>whnf
 refine lnS_map ?_
 conv=>whnf
 refine lnS_map ?_
 conv=>whnf
 refine Tr.cond ?_
 conv=>whnf
 refine cB h (fun hb4 h => ?_) (fun hb4 h => ?_)
 ·refine sg ?_
  conv=>whnf
  refine Tr.ret ?_
  conv=>whnf
  cases h
  rfl
 refine Tr.skip ?_
 conv=>whnf
 refine Tr.seq ?_
 refine sg ?_
 conv=>whnf
 refine Tr.cutQ (α := Unit) (fun s => ([(4, .d (.b false))], [])) (fun s => M96 s = some r_3) ?_ ?_
 ·refine Tr.block ?_
  refine Tr.loopM (σ := Int) (fun n s => M95 a_1 b_2 M96 n s) r_3 (fun s => ([(0, .d (.ls (List.map eTSpan a_1))), (1, .d (.ls (List.map eTSpan b_2))), (4, .d (.b false)), (5, (dI s))], [])) (((((a_1).length : Int)) - 0 : Int).toNat + 1) (0) h (fun s => rfl) (Wk.mk2 [] 0 rfl rfl (by decide) rfl trivial ⟨rr, rr, rr, rr, trivial⟩) ?_
  clear h
  rintro n_7 i_6 h
  replace h : M95 a_1 b_2 M96 (n_7 + 1) i_6 = some r_3 := h
  rw [M95] at h
  refine Tr.seq ?_
  refine sg ?_
  conv=>whnf
  refine lnS_map ?_
  conv=>whnf
  refine Tr.cond ?_
  conv=>whnf
  refine cB h (fun hb10 h => ?_) (fun hb10 h => ?_)
  ·refine Tr.skip ?_
   conv=>whnf
   refine Tr.seq ?_
   refine Tr.block ?_
   refine sd [] [(0,1),(1,1),(2,2),(3,2),(4,1),(5,1),(6,2),(7,2),(8,1)] ?_
   conv=>whnf
   refine q1 ?_
   conv=>whnf
   refine q1 ?_
   conv=>whnf
   obtain ⟨x_11, hx_11, h⟩ := bS h
   refine q3 (ixP_of hx_11 rr) ?_
   conv=>whnf
   refine q2 ?_
   conv=>whnf
   refine q1 ?_
   conv=>whnf
   refine q1 ?_
   conv=>whnf
   obtain ⟨x_12, hx_12, h⟩ := bS h
   refine q3 (ixP_of hx_12 rr) ?_
   conv=>whnf
   refine q2 ?_
   conv=>whnf
   refine q1 ?_
   conv=>whnf
   refine Tr.cond ?_
   conv=>whnf
   refine cB h (fun hb13 h => ?_) (fun hb13 h => ?_)
   ·refine sg ?_
    conv=>whnf
    refine Tr.ret ?_
    conv=>whnf
    cases h
    rfl
   refine Tr.skip ?_
   conv=>whnf
   refine rg ?_
   conv=>whnf
   refine arS_raw ?_
   conv=>whnf
   refine ⟨((w64 (i_6 + 1))), h, ?_⟩
   exact Wk.mk2 [] 0 rfl rfl (by decide) rfl trivial ⟨rr, rr, rr, rr, trivial⟩
  refine Tr.exit ?_
  conv=>whnf
  refine ⟨(), h, ?_⟩
  exact Wk.mk2 [] 0 rfl rfl (by decide) rfl trivial ⟨rr, trivial⟩
 clear h
 rintro _ h T1 H1 hw
 replace h : M96 () = some r_3 := h
 conv=>whnf
 refine Tr.weak hw ?_
 unfold M96 at h
 refine sg ?_
 conv=>whnf
 refine Tr.ret ?_
 conv=>whnf
 cases h
 rfl
theorem P98 (a_1 : TTotal) (b_2 : TTotal) (r_3 : Bool) (h : M98 a_1 b_2 = some r_3) :
    PC prog 18 [(eTTotal a_1), (eTTotal b_2)] (fun rs => rs = [(.b r_3)]) := by
 refine PC.of_tr (cx := ⟨24, none, lay, 0⟩) layOK func18 rfl rfl rfl rfl rfl (by simp [f18]) ?_
 unfold M98 at h
 refine sg ?_
 conv=>whnf
 refine sg ?_
 conv=>whnf
 refine cB h (fun hb4 h => ?_) (fun hb4 h => ?_)
 ·conv=>whnf
  refine cB h (fun hb5 h => ?_) (fun hb5 h => ?_)
  ·conv=>whnf
   obtain ⟨r_6, hc7, h⟩ := bS h
   refine PC.ecall (P97 a_1.Sums b_2.Sums r_6 hc7) (fun rs hrs => ?_)
   subst hrs
   conv=>whnf
   refine Tr.ret ?_
   conv=>whnf
   cases h
   rfl
  conv=>whnf
  refine Tr.ret ?_
  conv=>whnf
  cases h
  rfl
 conv=>whnf
 refine Tr.ret ?_
 conv=>whnf
 cases h
 rfl
theorem P101 (a_1 : List Int) (b_2 : List Int) (r_3 : Bool) (h : M101 a_1 b_2 = some r_3) :
    PC prog 49 [(.ls (List.map eI a_1)), (.ls (List.map eI b_2))] (fun rs => rs = [(.b r_3)]) := by
 refine PC.of_tr (cx := ⟨26, none, lay, 0⟩) layOK func49 rfl rfl rfl rfl rfl (by simp [f49]) ?_
 unfold M101 at h
 refine sg ?_
 conv=>whnf
 refine Tr.seq ?_
 refine sg ?_
 conv=>whnf
 refine lnS_map ?_
 conv=>whnf
 refine lnS_map ?_
 conv=>whnf
 refine Tr.cond ?_
 conv=>whnf
 refine cB h (fun hb4 h => ?_) (fun hb4 h => ?_)
 ·refine sg ?_
  conv=>whnf
  refine Tr.ret ?_
  conv=>whnf
  cases h
  rfl
 refine Tr.skip ?_
 conv=>whnf
 refine Tr.seq ?_
 refine sg ?_
 conv=>whnf
 refine Tr.cutQ (α := Unit) (fun s => ([(4, .d (.b false))], [])) (fun s => M100 s = some r_3) ?_ ?_
 ·refine Tr.block ?_
  refine Tr.loopM (σ := Int) (fun n s => M99 a_1 b_2 M100 n s) r_3 (fun s => ([(0, .d (.ls (List.map eI a_1))), (1, .d (.ls (List.map eI b_2))), (4, .d (.b false)), (5, (dI s))], [])) (((((a_1).length : Int)) - 0 : Int).toNat + 1) (0) h (fun s => rfl) (Wk.mk2 [] 0 rfl rfl (by decide) rfl trivial ⟨rr, rr, rr, rr, trivial⟩) ?_
  clear h
  rintro n_7 i_6 h
  replace h : M99 a_1 b_2 M100 (n_7 + 1) i_6 = some r_3 := h
  rw [M99] at h
  refine Tr.seq ?_
  refine sg ?_
  conv=>whnf
  refine lnS_map ?_
  conv=>whnf
  refine Tr.cond ?_
  conv=>whnf
  refine cB h (fun hb10 h => ?_) (fun hb10 h => ?_)
  ·refine Tr.skip ?_
   conv=>whnf
   refine Tr.seq ?_
   refine Tr.block ?_
   refine sd [] [(0,1),(1,1),(2,2),(3,2),(4,1),(5,1),(6,2),(7,2),(8,1)] ?_
   conv=>whnf
   refine q1 ?_
   conv=>whnf
   refine q1 ?_
   conv=>whnf
   obtain ⟨x_11, hx_11, h⟩ := bS h
   refine q3 (ixP_of hx_11 rr) ?_
   conv=>whnf
   refine q2 ?_
   conv=>whnf
   refine q1 ?_
   conv=>whnf
   refine q1 ?_
   conv=>whnf
   obtain ⟨x_12, hx_12, h⟩ := bS h
   refine q3 (ixP_of hx_12 rr) ?_
   conv=>whnf
   refine q2 ?_
   conv=>whnf
   refine q1 ?_
   conv=>whnf
   refine Tr.cond ?_
   conv=>whnf
   refine cB h (fun hb13 h => ?_) (fun hb13 h => ?_)
   ·refine sg ?_
    conv=>whnf
    refine Tr.ret ?_
    conv=>whnf
    cases h
    rfl
   refine Tr.skip ?_
   conv=>whnf
   refine rg ?_
   conv=>whnf
   refine arS_raw ?_
   conv=>whnf
   refine ⟨((w64 (i_6 + 1))), h, ?_⟩
   exact Wk.mk2 [] 0 rfl rfl (by decide) rfl trivial ⟨rr, rr, rr, rr, trivial⟩
  refine Tr.exit ?_
  conv=>whnf
  refine ⟨(), h, ?_⟩
  exact Wk.mk2 [] 0 rfl rfl (by decide) rfl trivial ⟨rr, trivial⟩
 clear h
 rintro _ h T1 H1 hw
 replace h : M100 () = some r_3 := h
 conv=>whnf
 refine Tr.weak hw ?_
 unfold M100 at h
 refine sg ?_
 conv=>whnf
 refine Tr.ret ?_
 conv=>whnf
 cases h
 rfl
theorem P104 (a_1 : List TTeam) (b_2 : List TTeam) (r_3 : Bool) (h : M104 a_1 b_2 = some r_3) :
    PC prog 22 [(.ls (List.map eTTeam a_1)), (.ls (List.map eTTeam b_2))] (fun rs => rs = [(.b r_3)]) := by
 refine PC.of_tr (cx := ⟨55, none, lay, 0⟩) layOK func22 rfl rfl rfl rfl rfl (by simp [f22]) ?_
 unfold M104 at h
 refine sg ?_
 conv=>whnf
 refine Tr.seq ?_
 refine sg ?_
 conv=>whnf
 refine lnS_map ?_
 conv=>whnf
 refine lnS_map ?_
 conv=>whnf
 refine Tr.cond ?_
 conv=>whnf
 refine cB h (fun hb4 h => ?_) (fun hb4 h => ?_)
 ·refine sg ?_
  conv=>whnf
  refine Tr.ret ?_
  conv=>whnf
  cases h
  rfl
 refine Tr.skip ?_
 conv=>whnf
 refine Tr.seq ?_
 refine sg ?_
 conv=>whnf
 refine Tr.cutQ (α := Unit) (fun s => ([(4, .d (.b false))], [])) (fun s => M103 s = some r_3) ?_ ?_
 ·refine Tr.block ?_
  refine Tr.loopM (σ := Int) (fun n s => M102 a_1 b_2 M103 n s) r_3 (fun s => ([(0, .d (.ls (List.map eTTeam a_1))), (1, .d (.ls (List.map eTTeam b_2))), (4, .d (.b false)), (5, (dI s))], [])) (((((a_1).length : Int)) - 0 : Int).toNat + 1) (0) h (fun s => rfl) (Wk.mk2 [] 0 rfl rfl (by decide) rfl trivial ⟨rr, rr, rr, rr, trivial⟩) ?_
  clear h
  rintro n_7 i_6 h
  replace h : M102 a_1 b_2 M103 (n_7 + 1) i_6 = some r_3 := h
  rw [M102] at h
  refine Tr.seq ?_
  refine sg ?_
  conv=>whnf
  refine lnS_map ?_
  conv=>whnf
  refine Tr.cond ?_
  conv=>whnf
  refine cB h (fun hb10 h => ?_) (fun hb10 h => ?_)
  ·refine Tr.skip ?_
   conv=>whnf
   refine Tr.seq ?_
   refine Tr.block ?_
   refine sd [] [(0,1),(1,1),(2,2),(3,2),(4,2),(5,1),(6,1),(7,2),(8,2),(9,2),(10,1),(11,1),(12,1),(13,1),(14,2),(15,2),(16,2),(17,1),(18,1),(19,2),(20,2),(21,2),(22,1),(23,1),(24,1),(25,1),(26,1),(27,2),(28,2),(29,2),(30,1),(31,1),(32,2),(33,2),(34,2),(35,1),(36,1),(37,1)] ?_
   conv=>whnf
   refine q1 ?_
   conv=>whnf
   refine q1 ?_
   conv=>whnf
   obtain ⟨x_11, hx_11, h⟩ := bS h
   refine q3 (ixP_of hx_11 rr) ?_
   conv=>whnf
   refine q2 ?_
   conv=>whnf
   refine q2 ?_
   conv=>whnf
   refine q1 ?_
   conv=>whnf
   refine q1 ?_
   conv=>whnf
   obtain ⟨x_12, hx_12, h⟩ := bS h
   refine q3 (ixP_of hx_12 rr) ?_
   conv=>whnf
   refine q2 ?_
   conv=>whnf
   refine q2 ?_
   conv=>whnf
   refine q1 ?_
   conv=>whnf
   refine q1 ?_
   conv=>whnf
   refine cB h (fun hb13 h => ?_) (fun hb13 h => ?_)
   ·conv=>whnf
    refine q1 ?_
    conv=>whnf
    refine q1 ?_
    conv=>whnf
    refine q1 ?_
    conv=>whnf
    refine Tr.cond ?_
    conv=>whnf
    refine sg ?_
    conv=>whnf
    refine Tr.ret ?_
    conv=>whnf
    cases h
    rfl
   conv=>whnf
   refine q1 ?_
   conv=>whnf
   refine q1 ?_
   conv=>whnf
   obtain ⟨x_14, hx_14, h⟩ := bS h
   refine q3 (ixP_of hx_14 rr) ?_
   conv=>whnf
   refine q2 ?_
   conv=>whnf
   refine q2 ?_
   conv=>whnf
   refine q1 ?_
   conv=>whnf
   refine q1 ?_
   conv=>whnf
   obtain ⟨x_15, hx_15, h⟩ := bS h
   refine q3 (ixP_of hx_15 rr) ?_
   conv=>whnf
   refine q2 ?_
   conv=>whnf
   refine q2 ?_
   conv=>whnf
   refine q1 ?_
   conv=>whnf
   refine q1 ?_
   conv=>whnf
   refine q1 ?_
   conv=>whnf
   refine cB h (fun hb16 h => ?_) (fun hb16 h => ?_)
   ·conv=>whnf
    refine q1 ?_
    conv=>whnf
    refine Tr.cond ?_
    conv=>whnf
    refine sg ?_
    conv=>whnf
    refine Tr.ret ?_
    conv=>whnf
    cases h
    rfl
   conv=>whnf
   refine q1 ?_
   conv=>whnf
   refine q1 ?_
   conv=>whnf
   obtain ⟨x_17, hx_17, h⟩ := bS h
   refine q3 (ixP_of hx_17 rr) ?_
   conv=>whnf
   refine q2 ?_
   conv=>whnf
   refine q2 ?_
   conv=>whnf
   refine q1 ?_
   conv=>whnf
   refine q1 ?_
   conv=>whnf
   obtain ⟨x_18, hx_18, h⟩ := bS h
   refine q3 (ixP_of hx_18 rr) ?_
   conv=>whnf
   refine q2 ?_
   conv=>whnf
   refine q2 ?_
   conv=>whnf
   obtain ⟨r_19, hc20, h⟩ := bS h
   refine q1 ?_ (fun _ => pe (P101 x_17.Bibs x_18.Bibs r_19 hc20) rr)
   conv=>whnf
   refine q1 ?_
   conv=>whnf
   refine q1 ?_
   conv=>whnf
   refine Tr.cond ?_
   conv=>whnf
   refine cB h (fun hb21 h => ?_) (fun hb21 h => ?_)
   ·refine sg ?_
    conv=>whnf
    refine Tr.ret ?_
    conv=>whnf
    cases h
    rfl
   refine Tr.skip ?_
   conv=>whnf
   refine rg ?_
   conv=>whnf
   refine arS_raw ?_
   conv=>whnf
   refine ⟨((w64 (i_6 + 1))), h, ?_⟩
   exact Wk.mk2 [] 0 rfl rfl (by decide) rfl trivial ⟨rr, rr, rr, rr, trivial⟩
  refine Tr.exit ?_
  conv=>whnf
  refine ⟨(), h, ?_⟩
  exact Wk.mk2 [] 0 rfl rfl (by decide) rfl trivial ⟨rr, trivial⟩
 clear h
 rintro _ h T1 H1 hw
 replace h : M103 () = some r_3 := h
 conv=>whnf
 refine Tr.weak hw ?_
 unfold M103 at h
 refine sg ?_
 conv=>whnf
 refine Tr.ret ?_
 conv=>whnf
 cases h
 rfl
theorem P105 (r_1 : Bool) (h : M105 = some r_1) :
    PC prog 10 [] (fun rs => rs = [(.b r_1)]) := by
 refine PC.of_tr (cx := ⟨91, none, lay, 0⟩) layOK func10 rfl rfl rfl rfl rfl (by simp [f10]) ?_
 unfold M105 at h
 refine sg ?_
 conv=>whnf
 refine sg ?_
 conv=>whnf
 refine orB_r ?_
 conv=>whnf
 refine sd [(7,1)] [(0,1),(1,3),(2,1),(3,1),(4,1),(5,1),(6,0),(7,0),(8,1)] ?_
 conv=>whnf
 obtain ⟨r_2, hc3, h⟩ := bS h
 refine q1 ?_ (fun _ => pe (P1 r_2 hc3) rr)
 conv=>whnf
 refine q2 ?_
 conv=>whnf
 obtain ⟨⟨r_4, r_5⟩, hc6, h⟩ := bS h
 refine q1 ?_ (fun _ => pe (P82 r_2 (({ Name := ((ByteArray.mk #[97])), Bibs := (([1, 2, 3] : List Int)), Best := 2 } : TTeam)) r_4 r_5 hc6) rr)
 conv=>whnf
 refine q1 ?_
 conv=>whnf
 refine q1 ?_
 conv=>whnf
 refine q1 ?_
 conv=>whnf
 refine ⟨_, _, rr, kp_ok (by repeat (first | exact trivial | refine ⟨trivial, ?_⟩ | refine ⟨rfl, ?_⟩)), ?_⟩
 conv=>whnf
 refine ⟨_, _, rr, kp_ok (by repeat (first | exact trivial | refine ⟨trivial, ?_⟩ | refine ⟨rfl, ?_⟩)), ?_⟩
 conv=>whnf
 refine q1 ?_
 conv=>whnf
 refine sg ?_
 conv=>whnf
 obtain ⟨r_7, hc8, h⟩ := bS h
 refine PC.ecall (P1 r_7 hc8) (fun rs hrs => ?_)
 subst hrs
 conv=>whnf
 refine orB_r ?_
 conv=>whnf
 obtain ⟨⟨r_9, r_10⟩, hc11, h⟩ := bS h
 refine PC.ecall (P82 r_7 (({ Name := ((ByteArray.mk #[98])), Bibs := (([5] : List Int)), Best := 1 } : TTeam)) r_9 r_10 hc11) (fun rs hrs => ?_)
 subst hrs
 conv=>whnf
 refine sd [] [(0,1),(1,3),(2,1),(3,0),(4,1),(5,1),(6,1),(7,1),(8,1),(9,1),(10,1)] ?_
 conv=>whnf
 obtain ⟨r_12, hc13, h⟩ := bS h
 refine q1 ?_ (fun _ => pe (P1 r_12 hc13) rr)
 conv=>whnf
 refine q2 ?_
 conv=>whnf
 refine q1 ?_ (fun _ => orB_r rr)
 conv=>whnf
 obtain ⟨⟨r_14, r_15, r_16⟩, hc17, h⟩ := bS h
 refine ⟨_, _, (by (conv=>whnf); (refine PC.ecall (P91 r_12 ((([({ Name := ((ByteArray.mk #[97])), Bibs := (([1, 2, 3] : List Int)), Best := 2 } : TTeam)] : List TTeam))) 0 r_14 r_15 r_16 hc17) (fun rs hrs => ?_)); (subst hrs); (conv=>whnf); (exact rr)), kp_ok (by repeat (first | exact trivial | refine ⟨trivial, ?_⟩ | refine ⟨rfl, ?_⟩)), ?_⟩
 conv=>whnf
 refine q1 ?_
 conv=>whnf
 refine q1 ?_
 conv=>whnf
 refine q1 ?_
 conv=>whnf
 refine q1 ?_
 conv=>whnf
 refine q1 ?_
 conv=>whnf
 refine q1 ?_
 conv=>whnf
 refine q1 ?_
 conv=>whnf
 refine sg ?_
 conv=>whnf
 refine orB_r ?_
 conv=>whnf
 obtain ⟨r_18, hc19, h⟩ := bS h
 refine PC.ecall (P94 ((([({ Bib := 3, Distance := 0, Wave := 0, Slot := 0, Age := 0, Chip := 0, Team := 12, Lot := 0 } : TStarter), ({ Bib := 1, Distance := 0, Wave := 0, Slot := 0, Age := 0, Chip := 0, Team := 12, Lot := 0 } : TStarter)] : List TStarter))) 2 r_18 hc19) (fun rs hrs => ?_)
 subst hrs
 conv=>whnf
 refine Tr.seq ?_
 refine Tr.seq ?_
 obtain ⟨v_20, hv21, h⟩ := bS h
 refine Tr.cutQ1 ([(0, .d (.b false)), (9, .d (.ls (List.map eTTeam r_18))), (62, .d (.b v_20))]) ([]) ?_ (fun T1 H1 hw => ?_)
 ·replace h := hv21; clear hv21
  refine rg ?_
  conv=>whnf
  refine cB h (fun hb22 h => ?_) (fun hb22 h => ?_)
  ·conv=>whnf
   cases h
   exact Wk.mk2 [] 3 rfl rfl (by decide) rfl trivial ⟨rr, rr, rr, trivial⟩
  conv=>whnf
  refine cB h (fun hb23 h => ?_) (fun hb23 h => ?_)
  ·conv=>whnf
   cases h
   exact Wk.mk2 [] 3 rfl rfl (by decide) rfl trivial ⟨rr, rr, rr, trivial⟩
  conv=>whnf
  refine cB h (fun hb24 h => ?_) (fun hb24 h => ?_)
  ·conv=>whnf
   cases h
   exact Wk.mk2 [] 3 rfl rfl (by decide) rfl trivial ⟨rr, rr, rr, trivial⟩
  conv=>whnf
  refine cB h (fun hb25 h => ?_) (fun hb25 h => ?_)
  ·conv=>whnf
   cases h
   exact Wk.mk2 [] 3 rfl rfl (by decide) rfl trivial ⟨rr, rr, rr, trivial⟩
  conv=>whnf
  refine cB h (fun hb26 h => ?_) (fun hb26 h => ?_)
  ·conv=>whnf
   cases h
   exact Wk.mk2 [] 3 rfl rfl (by decide) rfl trivial ⟨rr, rr, rr, trivial⟩
  conv=>whnf
  refine orB_r ?_
  conv=>whnf
  obtain ⟨r_27, hc28, h⟩ := bS h
  refine PC.ecall (P98 r_4 (({ Bib := 0, Sums := (([({ Lo := 30, Hi := 30 } : TSpan)] : List TSpan)), Out := false } : TTotal)) r_27 hc28) (fun rs hrs => ?_)
  subst hrs
  conv=>whnf
  cases h
  exact Wk.mk2 [] 3 rfl rfl (by decide) rfl trivial ⟨rr, rr, rr, trivial⟩
 clear hv21
 conv=>whnf
 refine Tr.weak hw ?_
 refine Tr.cond ?_
 conv=>whnf
 refine cB h (fun hb29 h => ?_) (fun hb29 h => ?_)
 ·refine sg ?_
  conv=>whnf
  refine Tr.ret ?_
  conv=>whnf
  cases h
  rfl
 refine Tr.skip ?_
 conv=>whnf
 refine Tr.seq ?_
 obtain ⟨v_30, hv31, h⟩ := bS h
 refine Tr.cutQ1 ([(0, .d (.b v_30))]) ([]) ?_ (fun T1 H1 hw => ?_)
 ·replace h := hv31; clear hv31
  refine rg ?_
  conv=>whnf
  obtain ⟨r_32, hc33, h⟩ := bS h
  refine PC.ecall_lend ?_ ⟨_, _, func19, rfl, rfl⟩
  conv=>whnf
  refine ⟨_, P87 ((([] : List TTeam))) r_32 hc33, fun rs hrs => ?_⟩
  subst hrs
  refine ⟨rfl, ?_⟩
  conv=>whnf
  refine cB h (fun hb34 h => ?_) (fun hb34 h => ?_)
  ·conv=>whnf
   refine orB_r ?_
   conv=>whnf
   refine orB_r ?_
   conv=>whnf
   obtain ⟨r_35, hc36, h⟩ := bS h
   refine PC.ecall (P87 ((([({ Name := ((ByteArray.mk #[97])), Bibs := (([1, 2] : List Int)), Best := 2 } : TTeam)] : List TTeam))) r_35 hc36) (fun rs hrs => ?_)
   subst hrs
   conv=>whnf
   refine cB h (fun hb37 h => ?_) (fun hb37 h => ?_)
   ·conv=>whnf
    obtain ⟨r_38, hc39, h⟩ := bS h
    refine PC.ecall_frz ?_ ⟨_, _, func23, rfl, rfl⟩
    conv=>whnf
    refine ⟨_, P94 ((([] : List TStarter))) 3 r_38 hc39, fun rs hrs => ?_⟩
    subst hrs
    conv=>whnf
    refine lnS_map ?_
    conv=>whnf
    refine cB h (fun hb40 h => ?_) (fun hb40 h => ?_)
    ·conv=>whnf
     refine orB_r ?_
     conv=>whnf
     refine orB_r ?_
     conv=>whnf
     obtain ⟨r_41, hc42, h⟩ := bS h
     refine PC.ecall (P104 r_18 ((([({ Name := ((ByteArray.mk #[49, 50])), Bibs := (([1, 3] : List Int)), Best := 2 } : TTeam)] : List TTeam))) r_41 hc42) (fun rs hrs => ?_)
     subst hrs
     conv=>whnf
     refine cB h (fun hb43 h => ?_) (fun hb43 h => ?_)
     ·conv=>whnf
      refine orB_r ?_
      conv=>whnf
      obtain ⟨r_44, hc45, h⟩ := bS h
      refine PC.ecall (P94 ((([({ Bib := 3, Distance := 0, Wave := 0, Slot := 0, Age := 0, Chip := 0, Team := 12, Lot := 0 } : TStarter)] : List TStarter))) 2 r_44 hc45) (fun rs hrs => ?_)
      subst hrs
      conv=>whnf
      refine lnS_map ?_
      conv=>whnf
      cases h
      exact Wk.mk2 [] 0 rfl rfl (by decide) rfl trivial ⟨rr, trivial⟩
     conv=>whnf
     cases h
     exact Wk.mk2 [] 0 rfl rfl (by decide) rfl trivial ⟨rr, trivial⟩
    conv=>whnf
    cases h
    exact Wk.mk2 [] 0 rfl rfl (by decide) rfl trivial ⟨rr, trivial⟩
   conv=>whnf
   cases h
   exact Wk.mk2 [] 0 rfl rfl (by decide) rfl trivial ⟨rr, trivial⟩
  conv=>whnf
  cases h
  exact Wk.mk2 [] 0 rfl rfl (by decide) rfl trivial ⟨rr, trivial⟩
 clear hv31
 conv=>whnf
 refine Tr.weak hw ?_
 refine Tr.ret ?_
 conv=>whnf
 cases h
 rfl
end Go.Proofs.Tryz
