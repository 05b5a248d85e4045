/- Contracts of functions, by program (gen.py). No condition. -/
import Derived.Test.YtpfihfiimeepfaaGreatDoorZL
import Derived.Test.YtpfihfiimeepfaaGreatDoorZM
import Derived.Test.YtpfihfiimeepfaaGreatDoorZCB
import Derived.Test.YtpfihfiimeepfaaGreatDoorZC7
import Derived.Test.YtpfihfiimeepfaaGreatDoorZS6
namespace Go.Proofs.Tryz
open Go Go.Abs Go.Stop
set_option maxRecDepth 8000
set_option linter.unusedVariables false
set_option linter.unusedSimpArgs false
theorem P189 (n_1 : Int) (r_2 : ByteArray) (h : M189 n_1 = some r_2) :
    PC prog 55 [(.i .i64 n_1)] (fun rs => rs = [(.s r_2)]) := by
 refine PC.of_tr (cx := ⟨17, none, lay, 0⟩) layOK func55 rfl rfl rfl rfl rfl (by simp [f55]) ?_
 unfold M189 at h
 refine sg ?_
 conv=>whnf
 refine sg ?_
 conv=>whnf
 refine Tr.seq ?_
 obtain ⟨s_8, hv13, h⟩ := bS h
 refine Tr.cutQ1 ([(2, .d (.s ((ByteArray.mk #[])))), (3, .d (.s s_8))]) ([]) ?_ (fun T1 H1 hw => ?_)
 ·replace h := hv13; clear hv13
  refine Tr.block ?_
  refine Tr.loopM (σ := Int × ByteArray) (fun n s => M188 n s.1 s.2) s_8 (fun s => ([(0, (dI s.1)), (2, .d (.s ((ByteArray.mk #[])))), (3, .d (.s s.2))], [])) ((n_1 - 0 : Int).toNat + 1) (n_1, ((ByteArray.mk #[]))) h (fun s => rfl) (Wk.mk2 [] 0 rfl rfl (by decide) rfl trivial ⟨rr, rr, rr, trivial⟩) ?_
  clear h
  rintro n_7 ⟨n_5, s_6⟩ h
  replace h : M188 (n_7 + 1) n_5 s_6 = some s_8 := h
  rw [M188] at h
  refine Tr.seq ?_
  refine sg ?_
  conv=>whnf
  refine Tr.cond ?_
  conv=>whnf
  refine cB h (fun hb11 h => ?_) (fun hb11 h => ?_)
  ·refine Tr.skip ?_
   conv=>whnf
   refine Tr.block ?_
   refine sg ?_
   conv=>whnf
   refine neS_mk (by decide) ?_
   conv=>whnf
   refine arS_raw ?_
   conv=>whnf
   refine arS_raw ?_
   conv=>whnf
   refine orB_r ?_
   conv=>whnf
   refine cvSS_mk ((([(IntKind.wrap .u8 (48 + (IntKind.wrap .u8 (Int.tmod n_5 10))))] : List Int))) (by first | rfl | simp) ?_
   conv=>whnf
   obtain ⟨s_12, hs_12, h⟩ := bS h
   refine catS_of hs_12 ?_
   conv=>whnf
   refine rg ?_
   conv=>whnf
   refine neS_mk (by decide) ?_
   conv=>whnf
   refine arS_raw ?_
   conv=>whnf
   refine ⟨((w64 (Int.tdiv n_5 10)), s_12), h, ?_⟩
   exact Wk.mk2 [] 0 rfl rfl (by decide) rfl trivial ⟨rr, rr, rr, trivial⟩
  refine Tr.exit ?_
  conv=>whnf
  cases h
  exact Wk.mk2 [] 0 rfl rfl (by decide) rfl trivial ⟨rr, rr, trivial⟩
 clear hv13
 conv=>whnf
 refine Tr.weak hw ?_
 refine sg ?_
 conv=>whnf
 refine Tr.ret ?_
 conv=>whnf
 cases h
 rfl
theorem P193 (x_1 : List TStarter) (best_2 : Int) (r_3 : List TTeam) (h : M193 x_1 best_2 = some r_3) :
    PC prog 24 [(.ls (List.map eTStarter x_1)), (.i .i64 best_2)] (fun rs => rs = [(.ls (List.map eTTeam r_3))]) := by
 refine PC.of_tr (cx := ⟨110, none, lay, 0⟩) layOK func24 rfl rfl rfl rfl rfl (by simp [f24]) ?_
 unfold M193 at h
 refine sg ?_
 conv=>whnf
 refine sg ?_
 conv=>whnf
 refine Tr.seq ?_
 refine sg ?_
 conv=>whnf
 obtain ⟨l_9, hv23, h⟩ := bS h
 refine Tr.cutQ1 ([(0, .d (.ls (List.map eTStarter x_1))), (1, (dI best_2)), (4, .nsl), (5, .sl 0 1 0 (List.length l_9))]) ([some (.arr 1 (List.map .d (List.map eI l_9)))]) ?_ (fun T1 H1 hw => ?_)
 ·replace h := hv23; clear hv23
  refine Tr.block ?_
  refine Tr.loopM (σ := Int × List Int) (fun n s => M190 x_1 n s.1 s.2) l_9 (fun s => ([(0, .d (.ls (List.map eTStarter x_1))), (1, (dI best_2)), (4, .nsl), (5, .sl 0 1 0 (List.length s.2)), (6, (dI s.1))], [some (.arr 1 (List.map .d (List.map eI s.2)))])) (((((x_1).length : Int)) - 0 : Int).toNat + 1) (0, (([] : List Int))) h (fun s => rfl) (Wk.mk2 [0] 0 rfl rfl (by decide) rfl ⟨rfl, trivial⟩ ⟨rr, rr, rr, ⟨rfl, (by first | rfl | simp)⟩, rr, trivial⟩) ?_
  clear h
  rintro n_8 ⟨i_6, l_7⟩ h
  replace h : M190 x_1 (n_8 + 1) i_6 l_7 = some l_9 := h
  rw [M190] at h
  refine Tr.seq ?_
  refine sg ?_
  conv=>whnf
  refine lnS_map ?_
  conv=>whnf
  refine Tr.cond ?_
  conv=>whnf
  refine cB h (fun hb12 h => ?_) (fun hb12 h => ?_)
  ·refine Tr.skip ?_
   conv=>whnf
   refine Tr.seq ?_
   refine Tr.block ?_
   refine Tr.seq ?_
   obtain ⟨v_13, hv14, h⟩ := bS h
   refine Tr.cutQ1 ([(0, .d (.ls (List.map eTStarter x_1))), (1, (dI best_2)), (4, .nsl), (5, .sl 0 1 0 (List.length l_7)), (6, (dI i_6)), (33, .d (.b v_13))]) ([some (.arr 1 (List.map .d (List.map eI l_7)))]) ?_ (fun T1 H1 hw => ?_)
   ·replace h := hv14; clear hv14
    refine rg ?_
    conv=>whnf
    obtain ⟨x_15, hx_15, h⟩ := bS h
    refine ixP_of hx_15 ?_
    conv=>whnf
    refine cB h (fun hb16 h => ?_) (fun hb16 h => ?_)
    ·conv=>whnf
     obtain ⟨x_17, hx_17, h⟩ := bS h
     refine ixP_of hx_17 ?_
     conv=>whnf
     obtain ⟨r_18, hc19, h⟩ := bS h
     refine PC.ecall_lend ?_ ⟨_, _, func26, rfl, rfl⟩
     conv=>whnf
     refine frE_of (f := eI) (l := l_7) rfl ?_
     conv=>whnf
     refine ⟨_, P187 l_7 x_17.Team r_18 hc19, fun rs hrs => ?_⟩
     subst hrs
     refine ⟨rfl, ?_⟩
     conv=>whnf
     cases h
     exact Wk.mk2 [0] 1 rfl rfl (by decide) rfl ⟨daS_d rfl, trivial⟩ ⟨rr, rr, rr, rr, rr, rr, trivial⟩
    conv=>whnf
    cases h
    exact Wk.mk2 [0] 1 rfl rfl (by decide) rfl ⟨daS_d rfl, trivial⟩ ⟨rr, rr, rr, rr, rr, rr, trivial⟩
   clear hv14
   conv=>whnf
   refine Tr.weak hw ?_
   refine Tr.cond ?_
   conv=>whnf
   refine cB h (fun hb20 h => ?_) (fun hb20 h => ?_)
   ·refine rg ?_
    conv=>whnf
    obtain ⟨x_21, hx_21, h⟩ := bS h
    refine ixP_of hx_21 ?_
    conv=>whnf
    refine orB_r ?_
    conv=>whnf
    refine frP_no ?_
    conv=>whnf
    refine eqS_mk (by first | rfl | simp) ?_
    conv=>whnf
    obtain ⟨l_22, hl_22, h⟩ := bS h
    refine apS_of hl_22 (aQ (f := eI) (l := (([x_21.Team] : List Int))) fun _ => rfl) (by first | rfl | simp) (by first | rfl | simp) (fun he => ?_)
    conv=>whnf
    refine rS (es' := List.map .d (List.map eI l_22)) (n' := List.length l_22) (by subst he; simp only [List.map_append, List.map_cons, List.map_nil, List.nil_append]; first | done | rfl) (by subst he; simp <;> omega) ?_
    clear he
    conv=>whnf
    refine rg ?_
    conv=>whnf
    refine arS_raw ?_
    conv=>whnf
    refine ⟨((w64 (i_6 + 1)), l_22), h, ?_⟩
    exact Wk.mk2 [1] 2 rfl rfl (by decide) rfl ⟨daS_d rfl, trivial⟩ ⟨rr, rr, rr, ⟨rfl, (by first | rfl | (simp only [↓hb12, ↓hb20, bl]; done) | (simp only [↓hb12, ↓hb20, bl]; rfl))⟩, rr, trivial⟩
   refine Tr.skip ?_
   conv=>whnf
   refine rg ?_
   conv=>whnf
   refine arS_raw ?_
   conv=>whnf
   refine ⟨((w64 (i_6 + 1)), l_7), h, ?_⟩
   exact Wk.mk2 [0] 1 rfl rfl (by decide) rfl ⟨daS_d rfl, trivial⟩ ⟨rr, rr, rr, rr, rr, trivial⟩
  refine Tr.exit ?_
  conv=>whnf
  cases h
  exact Wk.mk2 [0] 1 rfl rfl (by decide) rfl ⟨daS_d rfl, trivial⟩ ⟨rr, rr, rr, rr, trivial⟩
 clear hv23
 conv=>whnf
 refine Tr.weak hw ?_
 refine sg ?_
 conv=>whnf
 obtain ⟨r_24, hc25, h⟩ := bS h
 refine PC.ecall_frz ?_ ⟨_, _, func47, rfl, rfl⟩
 conv=>whnf
 refine frE_of (f := eI) (l := l_9) rfl ?_
 conv=>whnf
 refine ⟨_, P167 l_9 r_24 hc25, fun rs hrs => ?_⟩
 subst hrs
 conv=>whnf
 refine sg ?_
 conv=>whnf
 refine Tr.seq ?_
 refine sg ?_
 conv=>whnf
 obtain ⟨l_31, hv66, h⟩ := bS h
 refine Tr.cutQ1 ([(4, .nsl), (7, .sl 0 3 0 (List.length l_31))]) ([some (.arr 3 (List.map .d (List.map eTTeam l_31)))]) ?_ (fun T1 H1 hw => ?_)
 ·replace h := hv66; clear hv66
  refine Tr.block ?_
  refine Tr.loopM (σ := Int × List TTeam) (fun n s => M192 x_1 best_2 r_24 n s.1 s.2) l_31 (fun s => ([(0, .d (.ls (List.map eTStarter x_1))), (1, (dI best_2)), (4, .nsl), (5, .d (.ls (List.map eI r_24))), (7, .sl 0 3 0 (List.length s.2)), (8, (dI s.1))], [some (.arr 3 (List.map .d (List.map eTTeam s.2)))])) (((((r_24).length : Int)) - 0 : Int).toNat + 1) (0, (([] : List TTeam))) h (fun s => rfl) (Wk.mk2 [1] 1 rfl rfl (by decide) rfl ⟨rfl, trivial⟩ ⟨rr, rr, rr, rr, ⟨rfl, (by first | rfl | simp)⟩, rr, trivial⟩) ?_
  clear h
  rintro n_30 ⟨n_28, l_29⟩ h
  replace h : M192 x_1 best_2 r_24 (n_30 + 1) n_28 l_29 = some l_31 := h
  rw [M192] at h
  refine Tr.seq ?_
  refine sg ?_
  conv=>whnf
  refine lnS_map ?_
  conv=>whnf
  refine Tr.cond ?_
  conv=>whnf
  refine cB h (fun hb34 h => ?_) (fun hb34 h => ?_)
  ·refine Tr.skip ?_
   conv=>whnf
   refine Tr.seq ?_
   refine Tr.block ?_
   refine sg ?_
   conv=>whnf
   obtain ⟨x_35, hx_35, h⟩ := bS h
   refine ixP_of hx_35 ?_
   conv=>whnf
   obtain ⟨r_36, hc37, h⟩ := bS h
   refine PC.ecall (P189 x_35 r_36 hc37) (fun rs hrs => ?_)
   subst hrs
   conv=>whnf
   refine orB_l ?_
   conv=>whnf
   refine Tr.seq ?_
   refine sg ?_
   conv=>whnf
   obtain ⟨l_43, hv59, h⟩ := bS h
   refine Tr.cutQ1 ([(0, .d (.ls (List.map eTStarter x_1))), (1, (dI best_2)), (4, .nsl), (5, .d (.ls (List.map eI r_24))), (7, .sl 0 3 0 (List.length l_29)), (8, (dI n_28)), (9, .pt 1 0)]) ([some (.arr 3 (List.map .d (List.map eTTeam l_29))), some (.var [.d (.s r_36), .sl 2 1 0 (List.length l_43), (dI best_2)]), some (.arr 1 (List.map .d (List.map eI l_43)))]) ?_ (fun T1 H1 hw => ?_)
   ·replace h := hv59; clear hv59
    refine Tr.block ?_
    refine Tr.loopM (σ := Int × List Int) (fun n s => M191 x_1 r_24 n_28 n s.1 s.2) l_43 (fun s => ([(0, .d (.ls (List.map eTStarter x_1))), (1, (dI best_2)), (4, .nsl), (5, .d (.ls (List.map eI r_24))), (7, .sl 0 3 0 (List.length l_29)), (8, (dI n_28)), (9, .pt 1 0), (10, (dI s.1))], [some (.arr 3 (List.map .d (List.map eTTeam l_29))), some (.var [.d (.s r_36), .sl 2 1 0 (List.length s.2), (dI best_2)]), some (.arr 1 (List.map .d (List.map eI s.2)))])) (((((x_1).length : Int)) - 0 : Int).toNat + 1) (0, (([] : List Int))) h (fun s => rfl) (Wk.mk2 [0, 1, 2] 2 rfl rfl (by decide) rfl ⟨daS_d rfl, ⟨rfl, (by first | rfl | (simp only [↓hb34, bl]; done) | (simp only [↓hb34, bl]; rfl))⟩, rfl, trivial⟩ ⟨rr, rr, rr, rr, rr, rr, rr, rr, trivial⟩) ?_
    clear h
    rintro n_42 ⟨i_40, l_41⟩ h
    replace h : M191 x_1 r_24 n_28 (n_42 + 1) i_40 l_41 = some l_43 := h
    rw [M191] at h
    refine Tr.seq ?_
    refine sg ?_
    conv=>whnf
    refine lnS_map ?_
    conv=>whnf
    refine Tr.cond ?_
    conv=>whnf
    refine cB h (fun hb46 h => ?_) (fun hb46 h => ?_)
    ·refine Tr.skip ?_
     conv=>whnf
     refine Tr.seq ?_
     refine Tr.block ?_
     refine sg ?_
     conv=>whnf
     obtain ⟨x_47, hx_47, h⟩ := bS h
     refine ixP_of hx_47 ?_
     conv=>whnf
     refine Tr.seq ?_
     obtain ⟨v_48, hv49, h⟩ := bS h
     refine Tr.cutQ1 ([(0, .d (.ls (List.map eTStarter x_1))), (1, (dI best_2)), (4, .nsl), (5, .d (.ls (List.map eI r_24))), (7, .sl 0 3 0 (List.length l_29)), (8, (dI n_28)), (9, .pt 1 0), (10, (dI i_40)), (11, (dI x_47.Bib)), (92, .d (.b v_48))]) ([some (.arr 3 (List.map .d (List.map eTTeam l_29))), some (.var [.d (.s r_36), .sl 2 1 0 (List.length l_41), (dI best_2)]), some (.arr 1 (List.map .d (List.map eI l_41)))]) ?_ (fun T1 H1 hw => ?_)
     ·replace h := hv49; clear hv49
      refine dq [] [(0,1),(1,1),(2,2),(3,2),(4,2),(5,1),(6,1),(7,2),(8,2),(9,1),(10,1),(11,1),(12,1),(13,1),(14,1),(15,1),(16,1),(17,1),(18,1),(19,4),(20,4),(21,1),(22,0),(23,1),(24,1)] ?_
      conv=>whnf
      refine q1 ?_
      conv=>whnf
      refine q1 ?_
      conv=>whnf
      obtain ⟨x_50, hx_50, h⟩ := bS h
      refine q3 (ixP_of hx_50 rr) ?_
      conv=>whnf
      refine q2 ?_
      conv=>whnf
      refine q2 ?_
      conv=>whnf
      refine q1 ?_
      conv=>whnf
      refine q1 ?_
      conv=>whnf
      obtain ⟨x_51, hx_51, h⟩ := bS h
      refine q3 (ixP_of hx_51 rr) ?_
      conv=>whnf
      refine q2 ?_
      conv=>whnf
      refine q1 ?_
      conv=>whnf
      refine q1 ?_
      conv=>whnf
      refine cB h (fun hb52 h => ?_) (fun hb52 h => ?_)
      ·conv=>whnf
       refine q1 ?_
       conv=>whnf
       refine q1 ?_
       conv=>whnf
       refine q1 ?_
       conv=>whnf
       refine q1 ?_
       conv=>whnf
       refine cB h (fun hb53 h => ?_) (fun hb53 h => ?_)
       ·conv=>whnf
        refine q1 ?_
        conv=>whnf
        refine q1 ?_
        conv=>whnf
        refine q1 ?_
        conv=>whnf
        refine q1 ?_
        conv=>whnf
        refine cB h (fun hb54 h => ?_) (fun hb54 h => ?_)
        ·conv=>whnf
         refine q2 ?_
         conv=>whnf
         refine q2 ?_
         conv=>whnf
         refine q1 ?_
         conv=>whnf
         obtain ⟨r_55, hc56, h⟩ := bS h
         refine ⟨_, _, (by (conv=>whnf); (refine PC.ecall_lend ?_ ⟨_, _, func26, rfl, rfl⟩); (conv=>whnf); (refine frE_of (f := eI) (l := l_41) rfl ?_); (conv=>whnf); (refine ⟨_, P187 l_41 x_47.Bib r_55 hc56, fun rs hrs => ?_⟩); (subst hrs); (refine ⟨rfl, ?_⟩); (conv=>whnf); (exact rr)), kp_ok (by repeat (first | exact trivial | refine ⟨trivial, ?_⟩ | refine ⟨rfl, ?_⟩)), ?_⟩
         conv=>whnf
         refine q1 ?_
         conv=>whnf
         refine q1 ?_
         conv=>whnf
         cases h
         exact Wk.mk2 [0, 1, 2] 3 rfl rfl (by decide) rfl ⟨daS_d rfl, rr, daS_d rfl, trivial⟩ ⟨rr, rr, rr, rr, rr, rr, rr, rr, rr, rr, trivial⟩
        conv=>whnf
        refine q1 ?_
        conv=>whnf
        cases h
        exact Wk.mk2 [0, 1, 2] 3 rfl rfl (by decide) rfl ⟨daS_d rfl, rr, daS_d rfl, trivial⟩ ⟨rr, rr, rr, rr, rr, rr, rr, rr, rr, rr, trivial⟩
       conv=>whnf
       refine q1 ?_
       conv=>whnf
       refine q1 ?_
       conv=>whnf
       refine q1 ?_
       conv=>whnf
       cases h
       exact Wk.mk2 [0, 1, 2] 3 rfl rfl (by decide) rfl ⟨daS_d rfl, rr, daS_d rfl, trivial⟩ ⟨rr, rr, rr, rr, rr, rr, rr, rr, rr, rr, trivial⟩
      conv=>whnf
      refine q1 ?_
      conv=>whnf
      refine q1 ?_
      conv=>whnf
      refine q1 ?_
      conv=>whnf
      refine q1 ?_
      conv=>whnf
      refine q1 ?_
      conv=>whnf
      cases h
      exact Wk.mk2 [0, 1, 2] 3 rfl rfl (by decide) rfl ⟨daS_d rfl, rr, daS_d rfl, trivial⟩ ⟨rr, rr, rr, rr, rr, rr, rr, rr, rr, rr, trivial⟩
     clear hv49
     conv=>whnf
     refine Tr.weak hw ?_
     refine Tr.cond ?_
     conv=>whnf
     refine cB h (fun hb57 h => ?_) (fun hb57 h => ?_)
     ·refine rg ?_
      conv=>whnf
      refine orB_r ?_
      conv=>whnf
      refine frP_no ?_
      conv=>whnf
      refine eqS_mk (by first | rfl | simp) ?_
      conv=>whnf
      obtain ⟨l_58, hl_58, h⟩ := bS h
      refine apS_of hl_58 (aQ (f := eI) (l := (([x_47.Bib] : List Int))) fun _ => rfl) (by first | rfl | simp) (by first | rfl | simp) (fun he => ?_)
      conv=>whnf
      refine rS (es' := List.map .d (List.map eI l_58)) (n' := List.length l_58) (by subst he; simp only [List.map_append, List.map_cons, List.map_nil, List.nil_append]; first | done | rfl) (by subst he; simp <;> omega) ?_
      clear he
      conv=>whnf
      refine orB_l ?_
      conv=>whnf
      refine rg ?_
      conv=>whnf
      refine arS_raw ?_
      conv=>whnf
      refine ⟨((w64 (i_40 + 1)), l_58), h, ?_⟩
      exact Wk.mk2 [0, 1, 3] 4 rfl rfl (by decide) rfl ⟨daS_d rfl, ⟨rfl, (by first | rfl | (simp only [↓hb34, ↓hb46, ↓hb57, bl]; done) | (simp only [↓hb34, ↓hb46, ↓hb57, bl]; rfl))⟩, daS_d rfl, trivial⟩ ⟨rr, rr, rr, rr, rr, rr, rr, rr, trivial⟩
     refine Tr.skip ?_
     conv=>whnf
     refine rg ?_
     conv=>whnf
     refine arS_raw ?_
     conv=>whnf
     refine ⟨((w64 (i_40 + 1)), l_41), h, ?_⟩
     exact Wk.mk2 [0, 1, 2] 3 rfl rfl (by decide) rfl ⟨daS_d rfl, rr, daS_d rfl, trivial⟩ ⟨rr, rr, rr, rr, rr, rr, rr, rr, trivial⟩
    refine Tr.exit ?_
    conv=>whnf
    cases h
    exact Wk.mk2 [0, 1, 2] 3 rfl rfl (by decide) rfl ⟨daS_d rfl, rr, daS_d rfl, trivial⟩ ⟨rr, rr, rr, rr, rr, rr, rr, trivial⟩
   clear hv59
   conv=>whnf
   refine Tr.weak hw ?_
   refine sg ?_
   conv=>whnf
   obtain ⟨r_60, hc61, h⟩ := bS h
   refine PC.ecall_frz ?_ ⟨_, _, func47, rfl, rfl⟩
   conv=>whnf
   refine frE_of (f := eI) (l := l_43) rfl ?_
   conv=>whnf
   refine ⟨_, P167 l_43 r_60 hc61, fun rs hrs => ?_⟩
   subst hrs
   conv=>whnf
   refine sg ?_
   conv=>whnf
   obtain ⟨r_62, hc63, h⟩ := bS h
   refine PC.ecall (P120 ({ Name := r_36, Bibs := r_60, Best := best_2 } : TTeam) r_62 hc63) (fun rs hrs => ?_)
   subst hrs
   conv=>whnf
   refine Tr.cond ?_
   conv=>whnf
   refine cB h (fun hb64 h => ?_) (fun hb64 h => ?_)
   ·refine rg ?_
    conv=>whnf
    refine orB_r ?_
    conv=>whnf
    refine frP_no ?_
    conv=>whnf
    refine eqS_mk (by first | rfl | simp) ?_
    conv=>whnf
    obtain ⟨l_65, hl_65, h⟩ := bS h
    refine apS_of hl_65 (aQ (f := eTTeam) (l := (([({ Name := r_36, Bibs := r_60, Best := best_2 } : TTeam)] : List TTeam))) fun _ => rfl) (by first | rfl | simp) (by first | rfl | simp) (fun he => ?_)
    conv=>whnf
    refine rS (es' := List.map .d (List.map eTTeam l_65)) (n' := List.length l_65) (by subst he; simp only [List.map_append, List.map_cons, List.map_nil, List.nil_append]; first | done | rfl) (by subst he; simp <;> omega) ?_
    clear he
    conv=>whnf
    refine rg ?_
    conv=>whnf
    refine arS_raw ?_
    conv=>whnf
    refine ⟨((w64 (n_28 + 1)), l_65), h, ?_⟩
    exact Wk.mk2 [3] 4 rfl rfl (by decide) rfl ⟨daS_d rfl, trivial⟩ ⟨rr, rr, rr, rr, ⟨rfl, (by first | rfl | (simp only [↓hb34, ↓hb64, bl]; done) | (simp only [↓hb34, ↓hb64, bl]; rfl))⟩, rr, trivial⟩
   refine Tr.skip ?_
   conv=>whnf
   refine rg ?_
   conv=>whnf
   refine arS_raw ?_
   conv=>whnf
   refine ⟨((w64 (n_28 + 1)), l_29), h, ?_⟩
   exact Wk.mk2 [0] 3 rfl rfl (by decide) rfl ⟨daS_d rfl, trivial⟩ ⟨rr, rr, rr, rr, rr, rr, trivial⟩
  refine Tr.exit ?_
  conv=>whnf
  cases h
  exact Wk.mk2 [0] 1 rfl rfl (by decide) rfl ⟨daS_d rfl, trivial⟩ ⟨rr, rr, trivial⟩
 clear hv66
 conv=>whnf
 refine Tr.weak hw ?_
 refine sg ?_
 conv=>whnf
 refine Tr.ret ?_
 conv=>whnf
 refine frE_of (f := eTTeam) (l := l_31) rfl ?_
 conv=>whnf
 cases h
 rfl
theorem P194 (f_1 : TField) (l_2 : List TTeam) (at_3 : Int) (x_4 : List TStarter) (best_5 : Int) (r_6 : Bool) (h : M194 f_1 l_2 at_3 x_4 best_5 = some r_6) :
    PC prog 5 [(eTField f_1), (.ls (List.map eTTeam l_2)), (.i .i64 at_3), (.ls (List.map eTStarter x_4)), (.i .i64 best_5)] (fun rs => rs = [(.b r_6)]) := by
 refine PC.of_tr (cx := ⟨70, none, lay, 0⟩) layOK func5 rfl rfl rfl rfl rfl (by simp [f5]) ?_
 unfold M194 at h
 refine sg ?_
 conv=>whnf
 refine Tr.seq ?_
 refine sg ?_
 conv=>whnf
 obtain ⟨r_7, hc8, h⟩ := bS h
 refine PC.ecall (P105 r_7 hc8) (fun rs hrs => ?_)
 subst hrs
 conv=>whnf
 refine Tr.cond ?_
 conv=>whnf
 refine cB h (fun hb9 h => ?_) (fun hb9 h => ?_)
 ·refine sg ?_
  conv=>whnf
  refine Tr.ret ?_
  conv=>whnf
  cases h
  rfl
 refine Tr.skip ?_
 conv=>whnf
 refine Tr.seq ?_
 refine sg ?_
 conv=>whnf
 obtain ⟨r_10, hc11, h⟩ := bS h
 refine PC.ecall (P112 f_1 r_10 hc11) (fun rs hrs => ?_)
 subst hrs
 conv=>whnf
 refine cB h (fun hb12 h => ?_) (fun hb12 h => ?_)
 ·conv=>whnf
  refine Tr.cond ?_
  conv=>whnf
  refine sg ?_
  conv=>whnf
  refine Tr.ret ?_
  conv=>whnf
  cases h
  rfl
 conv=>whnf
 obtain ⟨r_13, hc14, h⟩ := bS h
 refine PC.ecall (P117 l_2 r_13 hc14) (fun rs hrs => ?_)
 subst hrs
 conv=>whnf
 refine cB h (fun hb15 h => ?_) (fun hb15 h => ?_)
 ·conv=>whnf
  refine Tr.cond ?_
  conv=>whnf
  refine sg ?_
  conv=>whnf
  refine Tr.ret ?_
  conv=>whnf
  cases h
  rfl
 conv=>whnf
 refine lnS_map ?_
 conv=>whnf
 refine Tr.cond ?_
 conv=>whnf
 refine cB h (fun hb16 h => ?_) (fun hb16 h => ?_)
 ·refine sg ?_
  conv=>whnf
  refine Tr.ret ?_
  conv=>whnf
  cases h
  rfl
 refine Tr.skip ?_
 conv=>whnf
 refine sg ?_
 conv=>whnf
 obtain ⟨⟨r_17, r_18, r_19⟩, hc20, h⟩ := bS h
 refine PC.ecall (P91 f_1 l_2 at_3 r_17 r_18 r_19 hc20) (fun rs hrs => ?_)
 subst hrs
 conv=>whnf
 refine sg ?_
 conv=>whnf
 obtain ⟨⟨r_21, r_22, r_23⟩, hc24, h⟩ := bS h
 refine PC.ecall (P184 f_1 l_2 at_3 r_21 r_22 r_23 hc24) (fun rs hrs => ?_)
 subst hrs
 conv=>whnf
 refine Tr.seq ?_
 obtain ⟨v_25, hv26, h⟩ := bS h
 refine Tr.cutQ1 ([(10, .d (.b v_25))]) ([]) ?_ (fun T1 H1 hw => ?_)
 ·replace h := hv26; clear hv26
  refine rg ?_
  conv=>whnf
  refine cB h (fun hb27 h => ?_) (fun hb27 h => ?_)
  ·conv=>whnf
   refine cB h (fun hb28 h => ?_) (fun hb28 h => ?_)
   ·conv=>whnf
    refine cB h (fun hb29 h => ?_) (fun hb29 h => ?_)
    ·conv=>whnf
     obtain ⟨r_30, hc31, h⟩ := bS h
     refine PC.ecall (P94 x_4 best_5 r_30 hc31) (fun rs hrs => ?_)
     subst hrs
     conv=>whnf
     obtain ⟨r_32, hc33, h⟩ := bS h
     refine PC.ecall (P193 x_4 best_5 r_32 hc33) (fun rs hrs => ?_)
     subst hrs
     conv=>whnf
     obtain ⟨r_34, hc35, h⟩ := bS h
     refine PC.ecall (P104 r_30 r_32 r_34 hc35) (fun rs hrs => ?_)
     subst hrs
     conv=>whnf
     cases h
     exact Wk.mk2 [] 1 rfl rfl (by decide) rfl trivial ⟨rr, trivial⟩
    conv=>whnf
    cases h
    exact Wk.mk2 [] 1 rfl rfl (by decide) rfl trivial ⟨rr, trivial⟩
   conv=>whnf
   cases h
   exact Wk.mk2 [] 1 rfl rfl (by decide) rfl trivial ⟨rr, trivial⟩
  conv=>whnf
  cases h
  exact Wk.mk2 [] 1 rfl rfl (by decide) rfl trivial ⟨rr, trivial⟩
 clear hv26
 conv=>whnf
 refine Tr.weak hw ?_
 refine Tr.ret ?_
 conv=>whnf
 cases h
 rfl
end Go.Proofs.Tryz
