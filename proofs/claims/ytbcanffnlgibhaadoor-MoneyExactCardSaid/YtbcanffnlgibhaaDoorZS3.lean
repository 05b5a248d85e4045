/- Contracts of functions, by program (gen.py). No condition. -/
import Derived.Test.YtbcanffnlgibhaaDoorZL
import Derived.Test.YtbcanffnlgibhaaDoorZM
import Derived.Test.YtbcanffnlgibhaaDoorZCB
import Derived.Test.YtbcanffnlgibhaaDoorZS2
namespace Go.Proofs.Tryd
open Go Go.Abs Go.Stop
set_option maxRecDepth 8000
set_option linter.unusedVariables false
set_option linter.unusedSimpArgs false
theorem P54 (s_1 : List Int) (r_2 : List Int) (h : M54 s_1 = some r_2) :
    PC prog 23 [(.ls (List.map eI s_1))] (fun rs => rs = [(.ls (List.map eI r_2))]) := by
 refine PC.of_tr (cx := ⟨8, none, lay, 0⟩) layOK func23 rfl rfl rfl rfl rfl (by simp [f23]) ?_
 unfold M54 at h
 refine sg ?_
 conv=>whnf
 refine Tr.seq ?_
 refine sg ?_
 conv=>whnf
 intro nb_3 hnb_3
 cases nb_3
 ·conv=>whnf
  refine Tr.cond ?_
  conv=>whnf
  refine Tr.skip ?_
  conv=>whnf
  refine sg ?_
  conv=>whnf
  refine orB_l ?_
  conv=>whnf
  refine frP_no ?_
  conv=>whnf
  refine eqS_mk (by first | rfl | simp) ?_
  conv=>whnf
  obtain ⟨l_4, hl_4, h⟩ := bS h
  refine apS_of hl_4 (aQ (f := eI) (l := s_1) fun _ => rfl) (by first | rfl | simp) (by first | rfl | simp) (fun he => ?_)
  conv=>whnf
  refine rS (es' := List.map .d (List.map eI l_4)) (n' := List.length l_4) (by subst he; simp only [List.map_append, List.map_cons, List.map_nil, List.nil_append]; first | done | rfl) (by subst he; simp <;> omega) ?_
  clear he
  conv=>whnf
  refine Tr.ret ?_
  conv=>whnf
  refine frE_of (f := eI) (l := l_4) rfl ?_
  conv=>whnf
  cases h
  rfl
 replace hnb_3 : s_1 = [] := by simpa using hnb_3 rfl
 subst hnb_3
 replace h : some (([] : List Int)) = some r_2 := by simpa [app] using h
 conv=>whnf
 refine Tr.cond ?_
 conv=>whnf
 refine sg ?_
 conv=>whnf
 refine Tr.ret ?_
 conv=>whnf
 cases h
 rfl
theorem P61 (amount_1 : Int) (weights_2 : List Int) (r_3 : List Int) (r_4 : Int) (h : M61 amount_1 weights_2 = some (r_3, r_4)) :
    PC prog 11 [(.i .i64 amount_1), (.ls (List.map eI weights_2))] (fun rs => rs = [(.ls (List.map eI r_3)), (.i .i64 r_4)]) := by
 refine PC.of_tr (cx := ⟨89, none, lay, 0⟩) layOK func11 rfl rfl rfl rfl rfl (by simp [f11]) ?_
 unfold M61 at h
 refine sg ?_
 conv=>whnf
 refine Tr.seq ?_
 refine sg ?_
 conv=>whnf
 obtain ⟨r_5, hc6, h⟩ := bS h
 refine PC.ecall (P0 amount_1 r_5 hc6) (fun rs hrs => ?_)
 subst hrs
 conv=>whnf
 refine Tr.cond ?_
 conv=>whnf
 refine cB h (fun hb7 h => ?_) (fun hb7 h => ?_)
 ·refine sg ?_
  conv=>whnf
  refine Tr.ret ?_
  conv=>whnf
  cases h
  rfl
 refine Tr.skip ?_
 conv=>whnf
 refine Tr.seq ?_
 refine sg ?_
 conv=>whnf
 refine lnS_map ?_
 conv=>whnf
 refine Tr.cond ?_
 conv=>whnf
 refine cB h (fun hb8 h => ?_) (fun hb8 h => ?_)
 ·refine sg ?_
  conv=>whnf
  refine Tr.ret ?_
  conv=>whnf
  cases h
  rfl
 refine Tr.skip ?_
 conv=>whnf
 refine sg ?_
 conv=>whnf
 refine Tr.seq ?_
 refine sg ?_
 conv=>whnf
 refine lnS_map ?_
 conv=>whnf
 refine Tr.cutQ (α := Int) (fun s => ([(0, (dI amount_1)), (1, .d (.ls (List.map eI weights_2))), (4, .nsl), (5, (dI 0)), (6, (dI s))], [])) (fun s => M60 amount_1 weights_2 s = some (r_3, r_4)) ?_ ?_
 ·refine Tr.block ?_
  refine Tr.loopM (σ := Int × Int) (fun n s => M55 weights_2 (M60 amount_1 weights_2) n s.1 s.2) (r_3, r_4) (fun s => ([(0, (dI amount_1)), (1, .d (.ls (List.map eI weights_2))), (4, .nsl), (5, (dI 0)), (6, (dI s.1)), (22, .d (.ls (List.map eI weights_2))), (23, (dI (((weights_2).length : Int)))), (24, (dI s.2))], [])) (((((weights_2).length : Int)) - 0 : Int).toNat + 1) (0, 0) h (fun s => rfl) (Wk.mk2 [] 0 rfl rfl (by decide) rfl trivial ⟨rr, rr, rr, rr, rr, rr, rr, rr, trivial⟩) ?_
  clear h
  rintro n_13 ⟨sum_11, v_12⟩ h
  replace h : M55 weights_2 (M60 amount_1 weights_2) (n_13 + 1) sum_11 v_12 = some (r_3, r_4) := h
  rw [M55] at h
  refine sg ?_
  conv=>whnf
  refine Tr.seq ?_
  refine Tr.cond ?_
  conv=>whnf
  refine cB h (fun hb17 h => ?_) (fun hb17 h => ?_)
  ·refine Tr.skip ?_
   conv=>whnf
   refine Tr.seq ?_
   refine Tr.block ?_
   refine sg ?_
   conv=>whnf
   obtain ⟨x_18, hx_18, h⟩ := bS h
   refine ixP_of hx_18 ?_
   conv=>whnf
   refine Tr.seq ?_
   refine sg ?_
   conv=>whnf
   refine cB h (fun hb19 h => ?_) (fun hb19 h => ?_)
   ·conv=>whnf
    refine Tr.cond ?_
    conv=>whnf
    refine sg ?_
    conv=>whnf
    refine Tr.ret ?_
    conv=>whnf
    cases h
    rfl
   conv=>whnf
   refine Tr.cond ?_
   conv=>whnf
   refine cB h (fun hb20 h => ?_) (fun hb20 h => ?_)
   ·refine sg ?_
    conv=>whnf
    refine Tr.ret ?_
    conv=>whnf
    cases h
    rfl
   refine Tr.skip ?_
   conv=>whnf
   refine rg ?_
   conv=>whnf
   refine arS_raw ?_
   conv=>whnf
   refine rg ?_
   conv=>whnf
   refine arS_raw ?_
   conv=>whnf
   refine ⟨((w64 (sum_11 + x_18)), (w64 (v_12 + 1))), h, ?_⟩
   exact Wk.mk2 [] 0 rfl rfl (by decide) rfl trivial ⟨rr, rr, rr, rr, rr, rr, rr, rr, trivial⟩
  refine Tr.exit ?_
  conv=>whnf
  refine ⟨(sum_11), h, ?_⟩
  exact Wk.mk2 [] 0 rfl rfl (by decide) rfl trivial ⟨rr, rr, rr, rr, rr, trivial⟩
 clear h
 rintro sum_14 h T1 H1 hw
 replace h : M60 amount_1 weights_2 sum_14 = some (r_3, r_4) := h
 conv=>whnf
 refine Tr.weak hw ?_
 unfold M60 at h
 refine Tr.seq ?_
 refine sg ?_
 conv=>whnf
 refine Tr.cond ?_
 conv=>whnf
 refine cB h (fun hb21 h => ?_) (fun hb21 h => ?_)
 ·refine sg ?_
  conv=>whnf
  refine Tr.ret ?_
  conv=>whnf
  cases h
  rfl
 refine Tr.skip ?_
 conv=>whnf
 refine sg ?_
 conv=>whnf
 refine Tr.seq ?_
 refine sg ?_
 conv=>whnf
 refine Tr.cond ?_
 conv=>whnf
 refine cB h (fun hb22 h => ?_) (fun hb22 h => ?_)
 ·refine rg ?_
  conv=>whnf
  refine sg ?_
  conv=>whnf
  refine arS_raw ?_
  conv=>whnf
  refine sg ?_
  conv=>whnf
  refine rS (es' := List.map .d (List.map eI (List.replicate 256 0))) (n' := 0) (by simp [List.map_replicate, eI]) rfl ?_
  conv=>whnf
  refine sg ?_
  conv=>whnf
  refine Tr.seq ?_
  refine sg ?_
  conv=>whnf
  obtain ⟨⟨c_23, c_24, c_25⟩, hc26, h⟩ := bS h
  refine PC.ecall (P1 ((w64 ((-1) * amount_1))) weights_2 sum_14 c_23 c_24 c_25 hc26) (fun rs hrs => ?_)
  subst hrs
  conv=>whnf
  obtain ⟨l_27, hl28, h⟩ := bS h
  obtain ⟨⟨v_36, l_37⟩, hv59, h⟩ := bS h
  refine Tr.block ?_
  refine Tr.rangeM layOK rfl (ge := fun a => [(eTmoney_part a)]) rfl (P4 c_23 c_24 c_25 l_27 hl28) (fun _ => rfl) rfl (fun s => [some (.var [(dI s.1)]), some (.arr 1 (List.map .d (List.map eI (List.replicate 256 0)))), some (.var [.sl 3 3 0 (List.length s.2)]), some (.arr 3 (List.map .d (List.map eTmoney_part s.2)))]) M56 ((w64 ((-1) * amount_1)), (([] : List Tmoney_part))) (v_36, l_37) hv59 (Wk.mk2 [0, 1, 2, 3] 3 rfl rfl (by decide) rfl ⟨⟨rfl, rfl⟩, daS_d rfl, ⟨rfl, (by first | rfl | (simp only [↓hb7, ↓hb8, ↓hb21, ↓hb22, bl]; done) | (simp only [↓hb7, ↓hb8, ↓hb21, ↓hb22, bl]; rfl))⟩, rfl, trivial⟩ trivial) ?_ ?_
  ·clear h hv59
   rintro li y_29 ⟨v_32, l_33⟩ s_34 ha h
   replace h : M56 y_29 (v_32, l_33) = some s_34 := h
   unfold M56 at h
   dsimp only at h
   conv=>whnf
   refine Tr.block ?_
   refine sg ?_
   conv=>whnf
   refine orB_r ?_
   conv=>whnf
   refine frP_no ?_
   conv=>whnf
   refine eqS_mk (by first | rfl | simp) ?_
   conv=>whnf
   obtain ⟨l_35, hl_35, h⟩ := bS h
   refine apS_of hl_35 (aQ (f := eTmoney_part) (l := (([y_29] : List Tmoney_part))) fun _ => rfl) (by first | rfl | simp) (by first | rfl | simp) (fun he => ?_)
   conv=>whnf
   refine rS (es' := List.map .d (List.map eTmoney_part l_35)) (n' := List.length l_35) (by subst he; simp only [List.map_append, List.map_cons, List.map_nil, List.nil_append]; first | done | rfl) (by subst he; simp <;> omega) ?_
   clear he
   conv=>whnf
   refine orB_l ?_
   conv=>whnf
   refine rg ?_
   conv=>whnf
   refine arS_raw ?_
   conv=>whnf
   cases h
   exact Wk.mk2 [0, 1, 2, 5] 6 rfl rfl (by decide) rfl ⟨rr, daS_d rfl, ⟨rfl, (by first | rfl | (simp only [↓hb7, ↓hb8, ↓hb21, ↓hb22, bl]; done) | (simp only [↓hb7, ↓hb8, ↓hb21, ↓hb22, bl]; rfl))⟩, daS_d rfl, trivial⟩ trivial
  clear hv59
  conv=>whnf
  refine sg ?_
  conv=>whnf
  obtain ⟨l_38, hc39, h⟩ := bS h
  refine MC.ecall (P53 l_37 l_38 hc39) [3] (by decide) rfl rfl ?_ (fun rs Bs1 hrs => ?_)
  · exact ⟨⟨⟨_, rfl⟩, rfl⟩, trivial⟩
  obtain ⟨rfl, rfl⟩ := hrs
  conv=>whnf
  obtain ⟨_, hl40, h⟩ := bS h
  refine Tr.seq ?_
  refine sg ?_
  conv=>whnf
  refine lnS_mk (m := List.length l_38) (by first | rfl | simp [lenIs_eq hl40]) ?_
  conv=>whnf
  obtain ⟨l_46, hv55, h⟩ := bS h
  refine Tr.cutQ1 ([(1, .d (.ls (List.map eI weights_2))), (4, .nsl), (5, (dI 0)), (11, .pe 0 1 0 0)]) ([some (.arr 1 (List.map .d (List.map eI l_46)))]) ?_ (fun T1 H1 hw => ?_)
  ·replace h := hv55; clear hv55
   refine Tr.block ?_
   refine Tr.loopM (σ := Int × List Int) (fun n s => M57 v_36 l_38 n s.1 s.2) l_46 (fun s => ([(1, .d (.ls (List.map eI weights_2))), (4, .nsl), (5, (dI 0)), (9, (dI (-1))), (10, .pt 0 0), (11, .pe 1 1 0 0), (60, .sl 2 3 0 (List.length l_38)), (61, (dI (((l_38).length : Int)))), (62, (dI s.1))], [some (.var [(dI v_36)]), some (.arr 1 (List.map .d (List.map eI s.2))), some (.arr 3 (List.map .d (List.map eTmoney_part l_38)))])) (((((l_38).length : Int)) - 0 : Int).toNat + 1) (0, (List.replicate 256 0)) h (fun s => rfl) (Wk.mk2 [0, 1, 3] 4 rfl rfl (by decide) rfl ⟨rr, daS_d rfl, daS_d rfl, trivial⟩ ⟨rr, rr, rr, rr, rr, rr, ⟨rfl, (slEq (by first | rfl | simp [lenIs_eq hl40]))⟩, rr, rr, trivial⟩) ?_
   clear h
   rintro n_45 ⟨v_43, l_44⟩ h
   replace h : M57 v_36 l_38 (n_45 + 1) v_43 l_44 = some l_46 := h
   rw [M57] at h
   refine sg ?_
   conv=>whnf
   refine Tr.seq ?_
   refine Tr.cond ?_
   conv=>whnf
   refine cB h (fun hb49 h => ?_) (fun hb49 h => ?_)
   ·refine Tr.skip ?_
    conv=>whnf
    refine Tr.seq ?_
    refine Tr.block ?_
    refine sg ?_
    conv=>whnf
    obtain ⟨x_50, hx_50, h⟩ := bS h
    refine ixS_of hx_50 rfl ?_
    conv=>whnf
    refine elP_of hx_50 ?_
    conv=>whnf
    refine sg ?_
    conv=>whnf
    refine arS_raw ?_
    conv=>whnf
    obtain ⟨x_51, hx_51, h⟩ := bS h
    refine idxA_of hx_51 ?_
    conv=>whnf
    refine elP_of (idxA_idx hx_51) ?_
    conv=>whnf
    refine lvS_mk (es' := List.map .d (List.map eI (List.set l_44 (Int.toNat x_50.index) (w64 ((-1) * x_50.cents))))) (by simp only [Nat.zero_add, List.map_set]; first | done | rfl) ?_
    conv=>whnf
    refine sg ?_
    conv=>whnf
    refine Tr.cond ?_
    conv=>whnf
    refine cB h (fun hb52 h => ?_) (fun hb52 h => ?_)
    ·refine rg ?_
     conv=>whnf
     obtain ⟨x_53, hx_53, h⟩ := bS h
     refine idxA_of hx_53 ?_
     conv=>whnf
     refine elP_of (idxA_idx hx_53) ?_
     conv=>whnf
     refine arS_raw ?_
     conv=>whnf
     obtain ⟨x_54, hx_54, h⟩ := bS h
     refine idxA_of hx_54 ?_
     conv=>whnf
     refine elP_of (idxA_idx hx_54) ?_
     conv=>whnf
     refine lvS_mk (es' := List.map .d (List.map eI (List.set (List.set l_44 (Int.toNat x_50.index) (w64 ((-1) * x_50.cents))) (Int.toNat x_50.index) (w64 (x_53 + (-1)))))) (by simp only [Nat.zero_add, List.map_set]; first | done | rfl) ?_
     conv=>whnf
     refine rg ?_
     conv=>whnf
     refine arS_raw ?_
     conv=>whnf
     refine ⟨((w64 (v_43 + 1)), (List.set (List.set l_44 (Int.toNat x_50.index) (w64 ((-1) * x_50.cents))) (Int.toNat x_50.index) (w64 (x_53 + (-1))))), h, ?_⟩
     exact Wk.mk2 [0, 1, 2] 4 rfl rfl (by decide) rfl ⟨rr, daS_d rfl, daS_d rfl, trivial⟩ ⟨rr, rr, rr, rr, rr, rr, rr, rr, rr, trivial⟩
    refine Tr.skip ?_
    conv=>whnf
    refine rg ?_
    conv=>whnf
    refine arS_raw ?_
    conv=>whnf
    refine ⟨((w64 (v_43 + 1)), (List.set l_44 (Int.toNat x_50.index) (w64 ((-1) * x_50.cents)))), h, ?_⟩
    exact Wk.mk2 [0, 1, 2] 4 rfl rfl (by decide) rfl ⟨rr, daS_d rfl, daS_d rfl, trivial⟩ ⟨rr, rr, rr, rr, rr, rr, rr, rr, rr, trivial⟩
   refine Tr.exit ?_
   conv=>whnf
   cases h
   exact Wk.mk2 [1] 3 rfl rfl (by decide) rfl ⟨daS_d rfl, trivial⟩ ⟨rr, rr, rr, ⟨rfl, (by first | rfl | (simp only [↓hb7, ↓hb8, ↓hb21, ↓hb22, ↓hb49, bl]; done) | (simp only [↓hb7, ↓hb8, ↓hb21, ↓hb22, ↓hb49, bl]; rfl))⟩, trivial⟩
  clear hv55
  conv=>whnf
  refine Tr.weak hw ?_
  refine sg ?_
  conv=>whnf
  refine lnS_map ?_
  conv=>whnf
  obtain ⟨l_56, hl_56, h⟩ := bS h
  refine slcA_of hl_56 (fun hl he hn => ?_)
  conv=>whnf
  refine lenS_mk (by simpa using hl) ?_
  conv=>whnf
  refine rS (es' := List.map .d (List.map eI l_56)) (n' := List.length l_56) (by subst he; simp [List.map_take]) hn ?_
  clear hl he hn
  conv=>whnf
  obtain ⟨r_57, hc58, h⟩ := bS h
  refine PC.ecall_frz ?_ ⟨_, _, func23, rfl, rfl⟩
  conv=>whnf
  refine frE_of (f := eI) (l := l_56) rfl ?_
  conv=>whnf
  refine ⟨_, P54 l_56 r_57 hc58, fun rs hrs => ?_⟩
  subst hrs
  conv=>whnf
  refine Tr.ret ?_
  conv=>whnf
  cases h
  rfl
 refine Tr.skip ?_
 conv=>whnf
 refine sg ?_
 conv=>whnf
 refine arS_raw ?_
 conv=>whnf
 refine sg ?_
 conv=>whnf
 refine rS (es' := List.map .d (List.map eI (List.replicate 256 0))) (n' := 0) (by simp [List.map_replicate, eI]) rfl ?_
 conv=>whnf
 refine sg ?_
 conv=>whnf
 refine Tr.seq ?_
 refine sg ?_
 conv=>whnf
 obtain ⟨⟨c_60, c_61, c_62⟩, hc63, h⟩ := bS h
 refine PC.ecall (P1 ((w64 (1 * amount_1))) weights_2 sum_14 c_60 c_61 c_62 hc63) (fun rs hrs => ?_)
 subst hrs
 conv=>whnf
 obtain ⟨l_64, hl65, h⟩ := bS h
 obtain ⟨⟨v_73, l_74⟩, hv96, h⟩ := bS h
 refine Tr.block ?_
 refine Tr.rangeM layOK rfl (ge := fun a => [(eTmoney_part a)]) rfl (P4 c_60 c_61 c_62 l_64 hl65) (fun _ => rfl) rfl (fun s => [some (.var [(dI s.1)]), some (.arr 1 (List.map .d (List.map eI (List.replicate 256 0)))), some (.var [.sl 3 3 0 (List.length s.2)]), some (.arr 3 (List.map .d (List.map eTmoney_part s.2)))]) M58 ((w64 (1 * amount_1)), (([] : List Tmoney_part))) (v_73, l_74) hv96 (Wk.mk2 [0, 1, 2, 3] 3 rfl rfl (by decide) rfl ⟨⟨rfl, rfl⟩, daS_d rfl, ⟨rfl, (by first | rfl | (simp only [↓hb7, ↓hb8, ↓hb21, ↓hb22, bl]; done) | (simp only [↓hb7, ↓hb8, ↓hb21, ↓hb22, bl]; rfl))⟩, rfl, trivial⟩ trivial) ?_ ?_
 ·clear h hv96
  rintro li y_66 ⟨v_69, l_70⟩ s_71 ha h
  replace h : M58 y_66 (v_69, l_70) = some s_71 := h
  unfold M58 at h
  dsimp only at h
  conv=>whnf
  refine Tr.block ?_
  refine sg ?_
  conv=>whnf
  refine orB_r ?_
  conv=>whnf
  refine frP_no ?_
  conv=>whnf
  refine eqS_mk (by first | rfl | simp) ?_
  conv=>whnf
  obtain ⟨l_72, hl_72, h⟩ := bS h
  refine apS_of hl_72 (aQ (f := eTmoney_part) (l := (([y_66] : List Tmoney_part))) fun _ => rfl) (by first | rfl | simp) (by first | rfl | simp) (fun he => ?_)
  conv=>whnf
  refine rS (es' := List.map .d (List.map eTmoney_part l_72)) (n' := List.length l_72) (by subst he; simp only [List.map_append, List.map_cons, List.map_nil, List.nil_append]; first | done | rfl) (by subst he; simp <;> omega) ?_
  clear he
  conv=>whnf
  refine orB_l ?_
  conv=>whnf
  refine rg ?_
  conv=>whnf
  refine arS_raw ?_
  conv=>whnf
  cases h
  exact Wk.mk2 [0, 1, 2, 5] 6 rfl rfl (by decide) rfl ⟨rr, daS_d rfl, ⟨rfl, (by first | rfl | (simp only [↓hb7, ↓hb8, ↓hb21, ↓hb22, bl]; done) | (simp only [↓hb7, ↓hb8, ↓hb21, ↓hb22, bl]; rfl))⟩, daS_d rfl, trivial⟩ trivial
 clear hv96
 conv=>whnf
 refine sg ?_
 conv=>whnf
 obtain ⟨l_75, hc76, h⟩ := bS h
 refine MC.ecall (P53 l_74 l_75 hc76) [3] (by decide) rfl rfl ?_ (fun rs Bs1 hrs => ?_)
 · exact ⟨⟨⟨_, rfl⟩, rfl⟩, trivial⟩
 obtain ⟨rfl, rfl⟩ := hrs
 conv=>whnf
 obtain ⟨_, hl77, h⟩ := bS h
 refine Tr.seq ?_
 refine sg ?_
 conv=>whnf
 refine lnS_mk (m := List.length l_75) (by first | rfl | simp [lenIs_eq hl77]) ?_
 conv=>whnf
 obtain ⟨l_83, hv92, h⟩ := bS h
 refine Tr.cutQ1 ([(1, .d (.ls (List.map eI weights_2))), (4, .nsl), (5, (dI 0)), (11, .pe 0 1 0 0)]) ([some (.arr 1 (List.map .d (List.map eI l_83)))]) ?_ (fun T1 H1 hw => ?_)
 ·replace h := hv92; clear hv92
  refine Tr.block ?_
  refine Tr.loopM (σ := Int × List Int) (fun n s => M59 v_73 l_75 n s.1 s.2) l_83 (fun s => ([(1, .d (.ls (List.map eI weights_2))), (4, .nsl), (5, (dI 0)), (9, (dI 1)), (10, .pt 0 0), (11, .pe 1 1 0 0), (60, .sl 2 3 0 (List.length l_75)), (61, (dI (((l_75).length : Int)))), (62, (dI s.1))], [some (.var [(dI v_73)]), some (.arr 1 (List.map .d (List.map eI s.2))), some (.arr 3 (List.map .d (List.map eTmoney_part l_75)))])) (((((l_75).length : Int)) - 0 : Int).toNat + 1) (0, (List.replicate 256 0)) h (fun s => rfl) (Wk.mk2 [0, 1, 3] 4 rfl rfl (by decide) rfl ⟨rr, daS_d rfl, daS_d rfl, trivial⟩ ⟨rr, rr, rr, rr, rr, rr, ⟨rfl, (slEq (by first | rfl | simp [lenIs_eq hl77]))⟩, rr, rr, trivial⟩) ?_
  clear h
  rintro n_82 ⟨v_80, l_81⟩ h
  replace h : M59 v_73 l_75 (n_82 + 1) v_80 l_81 = some l_83 := h
  rw [M59] at h
  refine sg ?_
  conv=>whnf
  refine Tr.seq ?_
  refine Tr.cond ?_
  conv=>whnf
  refine cB h (fun hb86 h => ?_) (fun hb86 h => ?_)
  ·refine Tr.skip ?_
   conv=>whnf
   refine Tr.seq ?_
   refine Tr.block ?_
   refine sg ?_
   conv=>whnf
   obtain ⟨x_87, hx_87, h⟩ := bS h
   refine ixS_of hx_87 rfl ?_
   conv=>whnf
   refine elP_of hx_87 ?_
   conv=>whnf
   refine sg ?_
   conv=>whnf
   refine arS_raw ?_
   conv=>whnf
   obtain ⟨x_88, hx_88, h⟩ := bS h
   refine idxA_of hx_88 ?_
   conv=>whnf
   refine elP_of (idxA_idx hx_88) ?_
   conv=>whnf
   refine lvS_mk (es' := List.map .d (List.map eI (List.set l_81 (Int.toNat x_87.index) (w64 (1 * x_87.cents))))) (by simp only [Nat.zero_add, List.map_set]; first | done | rfl) ?_
   conv=>whnf
   refine sg ?_
   conv=>whnf
   refine Tr.cond ?_
   conv=>whnf
   refine cB h (fun hb89 h => ?_) (fun hb89 h => ?_)
   ·refine rg ?_
    conv=>whnf
    obtain ⟨x_90, hx_90, h⟩ := bS h
    refine idxA_of hx_90 ?_
    conv=>whnf
    refine elP_of (idxA_idx hx_90) ?_
    conv=>whnf
    refine arS_raw ?_
    conv=>whnf
    obtain ⟨x_91, hx_91, h⟩ := bS h
    refine idxA_of hx_91 ?_
    conv=>whnf
    refine elP_of (idxA_idx hx_91) ?_
    conv=>whnf
    refine lvS_mk (es' := List.map .d (List.map eI (List.set (List.set l_81 (Int.toNat x_87.index) (w64 (1 * x_87.cents))) (Int.toNat x_87.index) (w64 (x_90 + 1))))) (by simp only [Nat.zero_add, List.map_set]; first | done | rfl) ?_
    conv=>whnf
    refine rg ?_
    conv=>whnf
    refine arS_raw ?_
    conv=>whnf
    refine ⟨((w64 (v_80 + 1)), (List.set (List.set l_81 (Int.toNat x_87.index) (w64 (1 * x_87.cents))) (Int.toNat x_87.index) (w64 (x_90 + 1)))), h, ?_⟩
    exact Wk.mk2 [0, 1, 2] 4 rfl rfl (by decide) rfl ⟨rr, daS_d rfl, daS_d rfl, trivial⟩ ⟨rr, rr, rr, rr, rr, rr, rr, rr, rr, trivial⟩
   refine Tr.skip ?_
   conv=>whnf
   refine rg ?_
   conv=>whnf
   refine arS_raw ?_
   conv=>whnf
   refine ⟨((w64 (v_80 + 1)), (List.set l_81 (Int.toNat x_87.index) (w64 (1 * x_87.cents)))), h, ?_⟩
   exact Wk.mk2 [0, 1, 2] 4 rfl rfl (by decide) rfl ⟨rr, daS_d rfl, daS_d rfl, trivial⟩ ⟨rr, rr, rr, rr, rr, rr, rr, rr, rr, trivial⟩
  refine Tr.exit ?_
  conv=>whnf
  cases h
  exact Wk.mk2 [1] 3 rfl rfl (by decide) rfl ⟨daS_d rfl, trivial⟩ ⟨rr, rr, rr, ⟨rfl, (by first | rfl | (simp only [↓hb7, ↓hb8, ↓hb21, ↓hb22, ↓hb86, bl]; done) | (simp only [↓hb7, ↓hb8, ↓hb21, ↓hb22, ↓hb86, bl]; rfl))⟩, trivial⟩
 clear hv92
 conv=>whnf
 refine Tr.weak hw ?_
 refine sg ?_
 conv=>whnf
 refine lnS_map ?_
 conv=>whnf
 obtain ⟨l_93, hl_93, h⟩ := bS h
 refine slcA_of hl_93 (fun hl he hn => ?_)
 conv=>whnf
 refine lenS_mk (by simpa using hl) ?_
 conv=>whnf
 refine rS (es' := List.map .d (List.map eI l_93)) (n' := List.length l_93) (by subst he; simp [List.map_take]) hn ?_
 clear hl he hn
 conv=>whnf
 obtain ⟨r_94, hc95, h⟩ := bS h
 refine PC.ecall_frz ?_ ⟨_, _, func23, rfl, rfl⟩
 conv=>whnf
 refine frE_of (f := eI) (l := l_93) rfl ?_
 conv=>whnf
 refine ⟨_, P54 l_93 r_94 hc95, fun rs hrs => ?_⟩
 subst hrs
 conv=>whnf
 refine Tr.ret ?_
 conv=>whnf
 cases h
 rfl
theorem P62 (x_1 : Int) (r_9 : ByteArray) (h : M62 x_1 = some r_9) :
    PC prog 24 [(.i .i64 x_1)] (fun rs => rs = [(.s r_9)]) := by
  unfold M62 at h
  split at h
  · rename_i hx
    cases h
    exact PC.of_below (vs := [.int .i64 x_1]) func24 rfl rfl rfl rfl (fun X w ht => (Go.Proofs.Tryd.strconv_Itoa x_1 hx.1 hx.2 w (tab10 ht)).mono (by rintro e w' ⟨rfl, k, os, rfl⟩; exact ⟨rfl, Go.Lib.below_grow _ _ (Nat.le_refl _) _ _⟩))
  · cases h
theorem P63 (s_1 : ByteArray) (n_2 : Int) (r_9 : ByteArray) (h : M63 s_1 n_2 = some r_9) :
    PC prog 25 [(.s s_1), (.i .i64 n_2)] (fun rs => rs = [(.s r_9)]) := by
  unfold M63 at h
  split at h
  · rename_i hx
    obtain ⟨c, rfl⟩ : ∃ c : Nat, n_2 = (c : Int) := ⟨n_2.toNat, by omega⟩
    cases h
    rw [Int.toNat_natCast] at hx ⊢
    exact PC.of_below (vs := [.string s_1, .int .i64 c]) func25 rfl rfl rfl rfl (fun X w _ => Go.Proofs.Tryd.strings_Repeat s_1 c w (by omega) hx.2.2)
  · cases h
theorem P64 (n_1 : Int) (r_2 : ByteArray) (r_3 : Int) (h : M64 n_1 = some (r_2, r_3)) :
    PC prog 13 [(.i .i64 n_1)] (fun rs => rs = [(.s r_2), (.i .i64 r_3)]) := by
 refine PC.of_tr (cx := ⟨38, none, lay, 0⟩) layOK func13 rfl rfl rfl rfl rfl (by simp [f13]) ?_
 unfold M64 at h
 refine sg ?_
 conv=>whnf
 refine Tr.seq ?_
 refine sg ?_
 conv=>whnf
 obtain ⟨r_4, hc5, h⟩ := bS h
 refine PC.ecall (P0 n_1 r_4 hc5) (fun rs hrs => ?_)
 subst hrs
 conv=>whnf
 refine Tr.cond ?_
 conv=>whnf
 refine cB h (fun hb6 h => ?_) (fun hb6 h => ?_)
 ·refine sg ?_
  conv=>whnf
  refine Tr.ret ?_
  conv=>whnf
  cases h
  rfl
 refine Tr.skip ?_
 conv=>whnf
 refine sg ?_
 conv=>whnf
 refine arS_raw ?_
 conv=>whnf
 obtain ⟨r_7, hc8, h⟩ := bS h
 refine PC.ecall (P62 ((maxG n_1 (w64 (0 - n_1)))) r_7 hc8) (fun rs hrs => ?_)
 subst hrs
 conv=>whnf
 refine Tr.seq ?_
 refine sg ?_
 conv=>whnf
 refine Tr.cond ?_
 conv=>whnf
 refine cB h (fun hb9 h => ?_) (fun hb9 h => ?_)
 ·refine rg ?_
  conv=>whnf
  refine arS_raw ?_
  conv=>whnf
  obtain ⟨r_10, hc11, h⟩ := bS h
  refine PC.ecall (P63 (((ByteArray.mk #[48]))) ((w64 (3 - (((r_7.size : Nat) : Int))))) r_10 hc11) (fun rs hrs => ?_)
  subst hrs
  conv=>whnf
  obtain ⟨s_12, hs_12, h⟩ := bS h
  refine catS_of hs_12 ?_
  conv=>whnf
  refine sd [] [(0,1),(1,1),(2,2),(3,1),(4,1),(5,1),(6,1),(7,1),(8,2),(9,1),(10,1),(11,1),(12,1)] ?_
  conv=>whnf
  refine q1 ?_
  conv=>whnf
  refine q1 ?_
  conv=>whnf
  refine q2 ?_
  conv=>whnf
  refine q4 ?_
  conv=>whnf
  obtain ⟨s_13, hs_13, h⟩ := bS h
  refine q1 ?_ (fun _ => slcS_of hs_13 rr)
  conv=>whnf
  obtain ⟨s_14, hs_14, h⟩ := bS h
  refine q1 ?_ (fun _ => catS_of hs_14 rr)
  conv=>whnf
  refine q1 ?_
  conv=>whnf
  refine q1 ?_
  conv=>whnf
  refine q2 ?_
  conv=>whnf
  refine q4 ?_
  conv=>whnf
  obtain ⟨s_15, hs_15, h⟩ := bS h
  refine q1 ?_ (fun _ => slcS_of hs_15 rr)
  conv=>whnf
  obtain ⟨s_16, hs_16, h⟩ := bS h
  refine q1 ?_ (fun _ => catS_of hs_16 rr)
  conv=>whnf
  refine q1 ?_
  conv=>whnf
  refine Tr.seq ?_
  refine sg ?_
  conv=>whnf
  refine Tr.cond ?_
  conv=>whnf
  refine cB h (fun hb17 h => ?_) (fun hb17 h => ?_)
  ·refine rg ?_
   conv=>whnf
   obtain ⟨s_18, hs_18, h⟩ := bS h
   refine catS_of hs_18 ?_
   conv=>whnf
   refine sg ?_
   conv=>whnf
   refine Tr.ret ?_
   conv=>whnf
   cases h
   rfl
  refine Tr.skip ?_
  conv=>whnf
  refine sg ?_
  conv=>whnf
  refine Tr.ret ?_
  conv=>whnf
  cases h
  rfl
 refine Tr.skip ?_
 conv=>whnf
 refine sd [] [(0,1),(1,1),(2,2),(3,1),(4,1),(5,1),(6,1),(7,1),(8,2),(9,1),(10,1),(11,1),(12,1)] ?_
 conv=>whnf
 refine q1 ?_
 conv=>whnf
 refine q1 ?_
 conv=>whnf
 refine q2 ?_
 conv=>whnf
 refine q4 ?_
 conv=>whnf
 obtain ⟨s_19, hs_19, h⟩ := bS h
 refine q1 ?_ (fun _ => slcS_of hs_19 rr)
 conv=>whnf
 obtain ⟨s_20, hs_20, h⟩ := bS h
 refine q1 ?_ (fun _ => catS_of hs_20 rr)
 conv=>whnf
 refine q1 ?_
 conv=>whnf
 refine q1 ?_
 conv=>whnf
 refine q2 ?_
 conv=>whnf
 refine q4 ?_
 conv=>whnf
 obtain ⟨s_21, hs_21, h⟩ := bS h
 refine q1 ?_ (fun _ => slcS_of hs_21 rr)
 conv=>whnf
 obtain ⟨s_22, hs_22, h⟩ := bS h
 refine q1 ?_ (fun _ => catS_of hs_22 rr)
 conv=>whnf
 refine q1 ?_
 conv=>whnf
 refine Tr.seq ?_
 refine sg ?_
 conv=>whnf
 refine Tr.cond ?_
 conv=>whnf
 refine cB h (fun hb23 h => ?_) (fun hb23 h => ?_)
 ·refine rg ?_
  conv=>whnf
  obtain ⟨s_24, hs_24, h⟩ := bS h
  refine catS_of hs_24 ?_
  conv=>whnf
  refine sg ?_
  conv=>whnf
  refine Tr.ret ?_
  conv=>whnf
  cases h
  rfl
 refine Tr.skip ?_
 conv=>whnf
 refine sg ?_
 conv=>whnf
 refine Tr.ret ?_
 conv=>whnf
 cases h
 rfl
theorem P67 (a_1 : List Int) (b_2 : List Int) (r_3 : Bool) (h : M67 a_1 b_2 = some r_3) :
    PC prog 15 [(.ls (List.map eI a_1)), (.ls (List.map eI b_2))] (fun rs => rs = [(.b r_3)]) := by
 refine PC.of_tr (cx := ⟨26, none, lay, 0⟩) layOK func15 rfl rfl rfl rfl rfl (by simp [f15]) ?_
 unfold M67 at h
 refine sg ?_
 conv=>whnf
 refine Tr.seq ?_
 refine sg ?_
 conv=>whnf
 refine lnS_map ?_
 conv=>whnf
 refine lnS_map ?_
 conv=>whnf
 refine Tr.cond ?_
 conv=>whnf
 refine cB h (fun hb4 h => ?_) (fun hb4 h => ?_)
 ·refine sg ?_
  conv=>whnf
  refine Tr.ret ?_
  conv=>whnf
  cases h
  rfl
 refine Tr.skip ?_
 conv=>whnf
 refine Tr.seq ?_
 refine sg ?_
 conv=>whnf
 refine Tr.cutQ (α := Unit) (fun s => ([(4, .d (.b false))], [])) (fun s => M66 s = some r_3) ?_ ?_
 ·refine Tr.block ?_
  refine Tr.loopM (σ := Int) (fun n s => M65 a_1 b_2 M66 n s) r_3 (fun s => ([(0, .d (.ls (List.map eI a_1))), (1, .d (.ls (List.map eI b_2))), (4, .d (.b false)), (5, (dI s))], [])) (((((a_1).length : Int)) - 0 : Int).toNat + 1) (0) h (fun s => rfl) (Wk.mk2 [] 0 rfl rfl (by decide) rfl trivial ⟨rr, rr, rr, rr, trivial⟩) ?_
  clear h
  rintro n_7 i_6 h
  replace h : M65 a_1 b_2 M66 (n_7 + 1) i_6 = some r_3 := h
  rw [M65] at h
  refine Tr.seq ?_
  refine sg ?_
  conv=>whnf
  refine lnS_map ?_
  conv=>whnf
  refine Tr.cond ?_
  conv=>whnf
  refine cB h (fun hb10 h => ?_) (fun hb10 h => ?_)
  ·refine Tr.skip ?_
   conv=>whnf
   refine Tr.seq ?_
   refine Tr.block ?_
   refine sd [] [(0,1),(1,1),(2,2),(3,2),(4,1),(5,1),(6,2),(7,2),(8,1)] ?_
   conv=>whnf
   refine q1 ?_
   conv=>whnf
   refine q1 ?_
   conv=>whnf
   obtain ⟨x_11, hx_11, h⟩ := bS h
   refine q3 (ixP_of hx_11 rr) ?_
   conv=>whnf
   refine q2 ?_
   conv=>whnf
   refine q1 ?_
   conv=>whnf
   refine q1 ?_
   conv=>whnf
   obtain ⟨x_12, hx_12, h⟩ := bS h
   refine q3 (ixP_of hx_12 rr) ?_
   conv=>whnf
   refine q2 ?_
   conv=>whnf
   refine q1 ?_
   conv=>whnf
   refine Tr.cond ?_
   conv=>whnf
   refine cB h (fun hb13 h => ?_) (fun hb13 h => ?_)
   ·refine sg ?_
    conv=>whnf
    refine Tr.ret ?_
    conv=>whnf
    cases h
    rfl
   refine Tr.skip ?_
   conv=>whnf
   refine rg ?_
   conv=>whnf
   refine arS_raw ?_
   conv=>whnf
   refine ⟨((w64 (i_6 + 1))), h, ?_⟩
   exact Wk.mk2 [] 0 rfl rfl (by decide) rfl trivial ⟨rr, rr, rr, rr, trivial⟩
  refine Tr.exit ?_
  conv=>whnf
  refine ⟨(), h, ?_⟩
  exact Wk.mk2 [] 0 rfl rfl (by decide) rfl trivial ⟨rr, trivial⟩
 clear h
 rintro _ h T1 H1 hw
 replace h : M66 () = some r_3 := h
 conv=>whnf
 refine Tr.weak hw ?_
 unfold M66 at h
 refine sg ?_
 conv=>whnf
 refine Tr.ret ?_
 conv=>whnf
 cases h
 rfl
theorem P68 (r_1 : Bool) (h : M68 = some r_1) :
    PC prog 10 [] (fun rs => rs = [(.b r_1)]) := by
 refine PC.of_tr (cx := ⟨63, none, lay, 0⟩) layOK func10 rfl rfl rfl rfl rfl (by simp [f10]) ?_
 unfold M68 at h
 refine sg ?_
 conv=>whnf
 refine sg ?_
 conv=>whnf
 refine orB_r ?_
 conv=>whnf
 obtain ⟨⟨r_2, r_3⟩, hc4, h⟩ := bS h
 refine PC.ecall (P61 100 ((([1, 1, 1] : List Int))) r_2 r_3 hc4) (fun rs hrs => ?_)
 subst hrs
 conv=>whnf
 refine sg ?_
 conv=>whnf
 refine orB_r ?_
 conv=>whnf
 obtain ⟨⟨r_5, r_6⟩, hc7, h⟩ := bS h
 refine PC.ecall (P61 (-5) ((([1, 3] : List Int))) r_5 r_6 hc7) (fun rs hrs => ?_)
 subst hrs
 conv=>whnf
 refine sg ?_
 conv=>whnf
 obtain ⟨⟨r_8, r_9⟩, hc10, h⟩ := bS h
 refine PC.ecall (P64 (-5) r_8 r_9 hc10) (fun rs hrs => ?_)
 subst hrs
 conv=>whnf
 refine sg ?_
 conv=>whnf
 obtain ⟨⟨r_11, r_12⟩, hc13, h⟩ := bS h
 refine PC.ecall (P64 123456 r_11 r_12 hc13) (fun rs hrs => ?_)
 subst hrs
 conv=>whnf
 refine Tr.seq ?_
 obtain ⟨v_14, hv15, h⟩ := bS h
 refine Tr.cutQ1 ([(0, .d (.b v_14))]) ([]) ?_ (fun T1 H1 hw => ?_)
 ·replace h := hv15; clear hv15
  refine rg ?_
  conv=>whnf
  refine cB h (fun hb16 h => ?_) (fun hb16 h => ?_)
  ·conv=>whnf
   refine orB_r ?_
   conv=>whnf
   obtain ⟨r_17, hc18, h⟩ := bS h
   refine PC.ecall (P67 r_2 ((([34, 33, 33] : List Int))) r_17 hc18) (fun rs hrs => ?_)
   subst hrs
   conv=>whnf
   refine cB h (fun hb19 h => ?_) (fun hb19 h => ?_)
   ·conv=>whnf
    refine cB h (fun hb20 h => ?_) (fun hb20 h => ?_)
    ·conv=>whnf
     refine orB_r ?_
     conv=>whnf
     obtain ⟨r_21, hc22, h⟩ := bS h
     refine PC.ecall (P67 r_5 ((([(-1), (-4)] : List Int))) r_21 hc22) (fun rs hrs => ?_)
     subst hrs
     conv=>whnf
     refine cB h (fun hb23 h => ?_) (fun hb23 h => ?_)
     ·conv=>whnf
      refine cB h (fun hb24 h => ?_) (fun hb24 h => ?_)
      ·conv=>whnf
       refine cB h (fun hb25 h => ?_) (fun hb25 h => ?_)
       ·conv=>whnf
        refine cB h (fun hb26 h => ?_) (fun hb26 h => ?_)
        ·conv=>whnf
         refine cB h (fun hb27 h => ?_) (fun hb27 h => ?_)
         ·conv=>whnf
          obtain ⟨r_28, hc29, h⟩ := bS h
          refine PC.ecall (P0 1125899906842625 r_28 hc29) (fun rs hrs => ?_)
          subst hrs
          conv=>whnf
          cases h
          exact Wk.mk2 [] 0 rfl rfl (by decide) rfl trivial ⟨rr, trivial⟩
         conv=>whnf
         cases h
         exact Wk.mk2 [] 0 rfl rfl (by decide) rfl trivial ⟨rr, trivial⟩
        conv=>whnf
        cases h
        exact Wk.mk2 [] 0 rfl rfl (by decide) rfl trivial ⟨rr, trivial⟩
       conv=>whnf
       cases h
       exact Wk.mk2 [] 0 rfl rfl (by decide) rfl trivial ⟨rr, trivial⟩
      conv=>whnf
      cases h
      exact Wk.mk2 [] 0 rfl rfl (by decide) rfl trivial ⟨rr, trivial⟩
     conv=>whnf
     cases h
     exact Wk.mk2 [] 0 rfl rfl (by decide) rfl trivial ⟨rr, trivial⟩
    conv=>whnf
    cases h
    exact Wk.mk2 [] 0 rfl rfl (by decide) rfl trivial ⟨rr, trivial⟩
   conv=>whnf
   cases h
   exact Wk.mk2 [] 0 rfl rfl (by decide) rfl trivial ⟨rr, trivial⟩
  conv=>whnf
  cases h
  exact Wk.mk2 [] 0 rfl rfl (by decide) rfl trivial ⟨rr, trivial⟩
 clear hv15
 conv=>whnf
 refine Tr.weak hw ?_
 refine Tr.ret ?_
 conv=>whnf
 cases h
 rfl
theorem P72 (l_1 : List Int) (r_2 : Int) (r_3 : Int) (h : M72 l_1 = some (r_2, r_3)) :
    PC prog 17 [(.ls (List.map eI l_1))] (fun rs => rs = [(.i .i64 r_2), (.i .i64 r_3)]) := by
 refine PC.of_tr (cx := ⟨27, none, lay, 0⟩) layOK func17 rfl rfl rfl rfl rfl (by simp [f17]) ?_
 unfold M72 at h
 refine sg ?_
 conv=>whnf
 refine Tr.seq ?_
 refine sg ?_
 conv=>whnf
 refine lnS_map ?_
 conv=>whnf
 refine Tr.cutQ (α := Int) (fun s => ([(2, (dI s)), (3, (dI 0))], [])) (fun s => M71 s = some (r_2, r_3)) ?_ ?_
 ·refine Tr.block ?_
  refine Tr.loopM (σ := Int × Int) (fun n s => M70 l_1 M71 n s.1 s.2) (r_2, r_3) (fun s => ([(2, (dI s.1)), (3, (dI 0)), (6, .d (.ls (List.map eI l_1))), (7, (dI (((l_1).length : Int)))), (8, (dI s.2))], [])) (((((l_1).length : Int)) - 0 : Int).toNat + 1) (0, 0) h (fun s => rfl) (Wk.mk2 [] 0 rfl rfl (by decide) rfl trivial ⟨rr, rr, rr, rr, rr, trivial⟩) ?_
  clear h
  rintro n_8 ⟨n_6, v_7⟩ h
  replace h : M70 l_1 M71 (n_8 + 1) n_6 v_7 = some (r_2, r_3) := h
  rw [M70] at h
  refine sg ?_
  conv=>whnf
  refine Tr.seq ?_
  refine Tr.cond ?_
  conv=>whnf
  refine cB h (fun hb12 h => ?_) (fun hb12 h => ?_)
  ·refine Tr.skip ?_
   conv=>whnf
   refine Tr.seq ?_
   refine Tr.block ?_
   refine sg ?_
   conv=>whnf
   obtain ⟨x_13, hx_13, h⟩ := bS h
   refine ixP_of hx_13 ?_
   conv=>whnf
   refine Tr.seq ?_
   refine sg ?_
   conv=>whnf
   obtain ⟨r_14, hc15, h⟩ := bS h
   refine PC.ecall (P0 x_13 r_14 hc15) (fun rs hrs => ?_)
   subst hrs
   conv=>whnf
   refine cB h (fun hb16 h => ?_) (fun hb16 h => ?_)
   ·conv=>whnf
    refine Tr.cond ?_
    conv=>whnf
    refine sg ?_
    conv=>whnf
    refine Tr.ret ?_
    conv=>whnf
    cases h
    rfl
   conv=>whnf
   refine arS_raw ?_
   conv=>whnf
   obtain ⟨r_17, hc18, h⟩ := bS h
   refine PC.ecall (P0 ((w64 (n_6 + x_13))) r_17 hc18) (fun rs hrs => ?_)
   subst hrs
   conv=>whnf
   refine Tr.cond ?_
   conv=>whnf
   refine cB h (fun hb19 h => ?_) (fun hb19 h => ?_)
   ·refine sg ?_
    conv=>whnf
    refine Tr.ret ?_
    conv=>whnf
    cases h
    rfl
   refine Tr.skip ?_
   conv=>whnf
   refine rg ?_
   conv=>whnf
   refine arS_raw ?_
   conv=>whnf
   refine rg ?_
   conv=>whnf
   refine arS_raw ?_
   conv=>whnf
   refine ⟨((w64 (n_6 + x_13)), (w64 (v_7 + 1))), h, ?_⟩
   exact Wk.mk2 [] 0 rfl rfl (by decide) rfl trivial ⟨rr, rr, rr, rr, rr, trivial⟩
  refine Tr.exit ?_
  conv=>whnf
  refine ⟨(n_6), h, ?_⟩
  exact Wk.mk2 [] 0 rfl rfl (by decide) rfl trivial ⟨rr, rr, trivial⟩
 clear h
 rintro n_9 h T1 H1 hw
 replace h : M71 n_9 = some (r_2, r_3) := h
 conv=>whnf
 refine Tr.weak hw ?_
 unfold M71 at h
 refine sg ?_
 conv=>whnf
 refine Tr.ret ?_
 conv=>whnf
 cases h
 rfl
theorem P82 (amount_1 : Int) (weights_2 : List Int) (r_3 : Bool) (h : M82 amount_1 weights_2 = some r_3) :
    PC prog 8 [(.i .i64 amount_1), (.ls (List.map eI weights_2))] (fun rs => rs = [(.b r_3)]) := by
 refine PC.of_tr (cx := ⟨210, none, lay, 0⟩) layOK func8 rfl rfl rfl rfl rfl (by simp [f8]) ?_
 unfold M82 at h
 refine sg ?_
 conv=>whnf
 refine Tr.seq ?_
 refine sg ?_
 conv=>whnf
 obtain ⟨r_4, hc5, h⟩ := bS h
 refine PC.ecall (P68 r_4 hc5) (fun rs hrs => ?_)
 subst hrs
 conv=>whnf
 refine Tr.cond ?_
 conv=>whnf
 refine cB h (fun hb6 h => ?_) (fun hb6 h => ?_)
 ·refine sg ?_
  conv=>whnf
  refine Tr.ret ?_
  conv=>whnf
  cases h
  rfl
 refine Tr.skip ?_
 conv=>whnf
 refine Tr.seq ?_
 refine sg ?_
 conv=>whnf
 refine lnS_map ?_
 conv=>whnf
 refine Tr.cond ?_
 conv=>whnf
 refine cB h (fun hb7 h => ?_) (fun hb7 h => ?_)
 ·refine sg ?_
  conv=>whnf
  refine Tr.ret ?_
  conv=>whnf
  cases h
  rfl
 refine Tr.skip ?_
 conv=>whnf
 refine sg ?_
 conv=>whnf
 obtain ⟨⟨r_8, r_9⟩, hc10, h⟩ := bS h
 refine PC.ecall (P61 amount_1 weights_2 r_8 r_9 hc10) (fun rs hrs => ?_)
 subst hrs
 conv=>whnf
 refine Tr.seq ?_
 refine sg ?_
 conv=>whnf
 refine Tr.cond ?_
 conv=>whnf
 refine cB h (fun hb11 h => ?_) (fun hb11 h => ?_)
 ·refine sg ?_
  conv=>whnf
  refine lnS_map ?_
  conv=>whnf
  refine Tr.ret ?_
  conv=>whnf
  cases h
  rfl
 refine Tr.skip ?_
 conv=>whnf
 refine Tr.seq ?_
 refine sg ?_
 conv=>whnf
 refine lnS_map ?_
 conv=>whnf
 refine lnS_map ?_
 conv=>whnf
 refine Tr.cond ?_
 conv=>whnf
 refine cB h (fun hb12 h => ?_) (fun hb12 h => ?_)
 ·refine sg ?_
  conv=>whnf
  refine Tr.ret ?_
  conv=>whnf
  cases h
  rfl
 refine Tr.skip ?_
 conv=>whnf
 refine sg ?_
 conv=>whnf
 refine Tr.seq ?_
 refine sg ?_
 conv=>whnf
 refine lnS_map ?_
 conv=>whnf
 refine Tr.cutQ (α := Int) (fun s => ([(0, (dI amount_1)), (1, .d (.ls (List.map eI weights_2))), (4, .d (.b false)), (5, .d (.ls (List.map eI r_8))), (7, (dI s)), (8, (dI 0))], [])) (fun s => M81 amount_1 weights_2 r_8 s = some r_3) ?_ ?_
 ·refine Tr.block ?_
  refine Tr.loopM (σ := Int × Int) (fun n s => M76 weights_2 (M81 amount_1 weights_2 r_8) n s.1 s.2) r_3 (fun s => ([(0, (dI amount_1)), (1, .d (.ls (List.map eI weights_2))), (4, .d (.b false)), (5, .d (.ls (List.map eI r_8))), (7, (dI s.1)), (8, (dI 0)), (41, .d (.ls (List.map eI weights_2))), (42, (dI (((weights_2).length : Int)))), (43, (dI s.2))], [])) (((((weights_2).length : Int)) - 0 : Int).toNat + 1) (0, 0) h (fun s => rfl) (Wk.mk2 [] 0 rfl rfl (by decide) rfl trivial ⟨rr, rr, rr, rr, rr, rr, rr, rr, rr, trivial⟩) ?_
  clear h
  rintro n_17 ⟨sum_15, v_16⟩ h
  replace h : M76 weights_2 (M81 amount_1 weights_2 r_8) (n_17 + 1) sum_15 v_16 = some r_3 := h
  rw [M76] at h
  refine sg ?_
  conv=>whnf
  refine Tr.seq ?_
  refine Tr.cond ?_
  conv=>whnf
  refine cB h (fun hb21 h => ?_) (fun hb21 h => ?_)
  ·refine Tr.skip ?_
   conv=>whnf
   refine Tr.seq ?_
   refine Tr.block ?_
   refine sg ?_
   conv=>whnf
   obtain ⟨x_22, hx_22, h⟩ := bS h
   refine ixP_of hx_22 ?_
   conv=>whnf
   refine Tr.seq ?_
   refine sg ?_
   conv=>whnf
   refine cB h (fun hb23 h => ?_) (fun hb23 h => ?_)
   ·conv=>whnf
    refine Tr.cond ?_
    conv=>whnf
    refine sg ?_
    conv=>whnf
    refine Tr.ret ?_
    conv=>whnf
    cases h
    rfl
   conv=>whnf
   refine Tr.cond ?_
   conv=>whnf
   refine cB h (fun hb24 h => ?_) (fun hb24 h => ?_)
   ·refine sg ?_
    conv=>whnf
    refine Tr.ret ?_
    conv=>whnf
    cases h
    rfl
   refine Tr.skip ?_
   conv=>whnf
   refine rg ?_
   conv=>whnf
   refine arS_raw ?_
   conv=>whnf
   refine rg ?_
   conv=>whnf
   refine arS_raw ?_
   conv=>whnf
   refine ⟨((w64 (sum_15 + x_22)), (w64 (v_16 + 1))), h, ?_⟩
   exact Wk.mk2 [] 0 rfl rfl (by decide) rfl trivial ⟨rr, rr, rr, rr, rr, rr, rr, rr, rr, trivial⟩
  refine Tr.exit ?_
  conv=>whnf
  refine ⟨(sum_15), h, ?_⟩
  exact Wk.mk2 [] 0 rfl rfl (by decide) rfl trivial ⟨rr, rr, rr, rr, rr, rr, trivial⟩
 clear h
 rintro sum_18 h T1 H1 hw
 replace h : M81 amount_1 weights_2 r_8 sum_18 = some r_3 := h
 conv=>whnf
 refine Tr.weak hw ?_
 unfold M81 at h
 refine Tr.seq ?_
 refine sg ?_
 conv=>whnf
 refine cB h (fun hb25 h => ?_) (fun hb25 h => ?_)
 ·conv=>whnf
  refine Tr.cond ?_
  conv=>whnf
  refine sg ?_
  conv=>whnf
  refine Tr.ret ?_
  conv=>whnf
  cases h
  rfl
 conv=>whnf
 obtain ⟨r_26, hc27, h⟩ := bS h
 refine PC.ecall (P0 amount_1 r_26 hc27) (fun rs hrs => ?_)
 subst hrs
 conv=>whnf
 refine Tr.cond ?_
 conv=>whnf
 refine cB h (fun hb28 h => ?_) (fun hb28 h => ?_)
 ·refine sg ?_
  conv=>whnf
  refine Tr.ret ?_
  conv=>whnf
  cases h
  rfl
 refine Tr.skip ?_
 conv=>whnf
 refine Tr.seq ?_
 refine sg ?_
 conv=>whnf
 refine lnS_map ?_
 conv=>whnf
 refine Tr.cutQ (α := Int) (fun s => ([(0, (dI amount_1)), (4, .d (.b false)), (5, .d (.ls (List.map eI r_8))), (8, (dI s))], [])) (fun s => M80 amount_1 r_8 s = some r_3) ?_ ?_
 ·refine Tr.block ?_
  refine Tr.loopM (σ := Int × Int) (fun n s => M79 amount_1 weights_2 r_8 sum_18 (M80 amount_1 r_8) n s.1 s.2) r_3 (fun s => ([(0, (dI amount_1)), (1, .d (.ls (List.map eI weights_2))), (4, .d (.b false)), (5, .d (.ls (List.map eI r_8))), (7, (dI sum_18)), (8, (dI s.1)), (64, .d (.ls (List.map eI r_8))), (65, (dI (((r_8).length : Int)))), (66, (dI s.2))], [])) (((((r_8).length : Int)) - 0 : Int).toNat + 1) (0, 0) h (fun s => rfl) (Wk.mk2 [] 0 rfl rfl (by decide) rfl trivial ⟨rr, rr, rr, rr, rr, rr, rr, rr, rr, trivial⟩) ?_
  clear h
  rintro n_33 ⟨n_31, v_32⟩ h
  replace h : M79 amount_1 weights_2 r_8 sum_18 (M80 amount_1 r_8) (n_33 + 1) n_31 v_32 = some r_3 := h
  rw [M79] at h
  refine sg ?_
  conv=>whnf
  refine Tr.seq ?_
  refine Tr.cond ?_
  conv=>whnf
  refine cB h (fun hb37 h => ?_) (fun hb37 h => ?_)
  ·refine Tr.skip ?_
   conv=>whnf
   refine Tr.seq ?_
   refine Tr.block ?_
   refine sg ?_
   conv=>whnf
   obtain ⟨x_38, hx_38, h⟩ := bS h
   refine ixP_of hx_38 ?_
   conv=>whnf
   refine Tr.seq ?_
   refine Tr.seq ?_
   obtain ⟨v_39, hv40, h⟩ := bS h
   refine Tr.cutQ1 ([(0, (dI amount_1)), (1, .d (.ls (List.map eI weights_2))), (4, .d (.b false)), (5, .d (.ls (List.map eI r_8))), (7, (dI sum_18)), (8, (dI n_31)), (11, (dI v_32)), (12, (dI x_38)), (64, .d (.ls (List.map eI r_8))), (65, (dI (((r_8).length : Int)))), (66, (dI v_32)), (100, .d (.b v_39))]) ([]) ?_ (fun T1 H1 hw => ?_)
   ·replace h := hv40; clear hv40
    refine rg ?_
    conv=>whnf
    obtain ⟨r_41, hc42, h⟩ := bS h
    refine PC.ecall (P0 x_38 r_41 hc42) (fun rs hrs => ?_)
    subst hrs
    conv=>whnf
    refine cB h (fun hb43 h => ?_) (fun hb43 h => ?_)
    ·conv=>whnf
     cases h
     exact Wk.mk2 [] 0 rfl rfl (by decide) rfl trivial ⟨rr, rr, rr, rr, rr, rr, rr, rr, rr, rr, rr, rr, trivial⟩
    conv=>whnf
    refine cB h (fun hb44 h => ?_) (fun hb44 h => ?_)
    ·conv=>whnf
     refine cB h (fun hb45 h => ?_) (fun hb45 h => ?_)
     ·conv=>whnf
      cases h
      exact Wk.mk2 [] 0 rfl rfl (by decide) rfl trivial ⟨rr, rr, rr, rr, rr, rr, rr, rr, rr, rr, rr, rr, trivial⟩
     conv=>whnf
     refine cB h (fun hb46 h => ?_) (fun hb46 h => ?_)
     ·conv=>whnf
      refine cB h (fun hb47 h => ?_) (fun hb47 h => ?_)
      ·conv=>whnf
       cases h
       exact Wk.mk2 [] 0 rfl rfl (by decide) rfl trivial ⟨rr, rr, rr, rr, rr, rr, rr, rr, rr, rr, rr, rr, trivial⟩
      conv=>whnf
      obtain ⟨x_48, hx_48, h⟩ := bS h
      refine ixP_of hx_48 ?_
      conv=>whnf
      refine cB h (fun hb49 h => ?_) (fun hb49 h => ?_)
      ·conv=>whnf
       cases h
       exact Wk.mk2 [] 0 rfl rfl (by decide) rfl trivial ⟨rr, rr, rr, rr, rr, rr, rr, rr, rr, rr, rr, rr, trivial⟩
      conv=>whnf
      cases h
      exact Wk.mk2 [] 0 rfl rfl (by decide) rfl trivial ⟨rr, rr, rr, rr, rr, rr, rr, rr, rr, rr, rr, rr, trivial⟩
     conv=>whnf
     obtain ⟨x_50, hx_50, h⟩ := bS h
     refine ixP_of hx_50 ?_
     conv=>whnf
     refine cB h (fun hb51 h => ?_) (fun hb51 h => ?_)
     ·conv=>whnf
      cases h
      exact Wk.mk2 [] 0 rfl rfl (by decide) rfl trivial ⟨rr, rr, rr, rr, rr, rr, rr, rr, rr, rr, rr, rr, trivial⟩
     conv=>whnf
     cases h
     exact Wk.mk2 [] 0 rfl rfl (by decide) rfl trivial ⟨rr, rr, rr, rr, rr, rr, rr, rr, rr, rr, rr, rr, trivial⟩
    conv=>whnf
    refine cB h (fun hb52 h => ?_) (fun hb52 h => ?_)
    ·conv=>whnf
     refine cB h (fun hb53 h => ?_) (fun hb53 h => ?_)
     ·conv=>whnf
      cases h
      exact Wk.mk2 [] 0 rfl rfl (by decide) rfl trivial ⟨rr, rr, rr, rr, rr, rr, rr, rr, rr, rr, rr, rr, trivial⟩
     conv=>whnf
     obtain ⟨x_54, hx_54, h⟩ := bS h
     refine ixP_of hx_54 ?_
     conv=>whnf
     refine cB h (fun hb55 h => ?_) (fun hb55 h => ?_)
     ·conv=>whnf
      cases h
      exact Wk.mk2 [] 0 rfl rfl (by decide) rfl trivial ⟨rr, rr, rr, rr, rr, rr, rr, rr, rr, rr, rr, rr, trivial⟩
     conv=>whnf
     cases h
     exact Wk.mk2 [] 0 rfl rfl (by decide) rfl trivial ⟨rr, rr, rr, rr, rr, rr, rr, rr, rr, rr, rr, rr, trivial⟩
    conv=>whnf
    obtain ⟨x_56, hx_56, h⟩ := bS h
    refine ixP_of hx_56 ?_
    conv=>whnf
    refine cB h (fun hb57 h => ?_) (fun hb57 h => ?_)
    ·conv=>whnf
     cases h
     exact Wk.mk2 [] 0 rfl rfl (by decide) rfl trivial ⟨rr, rr, rr, rr, rr, rr, rr, rr, rr, rr, rr, rr, trivial⟩
    conv=>whnf
    cases h
    exact Wk.mk2 [] 0 rfl rfl (by decide) rfl trivial ⟨rr, rr, rr, rr, rr, rr, rr, rr, rr, rr, rr, rr, trivial⟩
   clear hv40
   conv=>whnf
   refine Tr.weak hw ?_
   refine Tr.cond ?_
   conv=>whnf
   refine cB h (fun hb58 h => ?_) (fun hb58 h => ?_)
   ·refine sg ?_
    conv=>whnf
    refine Tr.ret ?_
    conv=>whnf
    cases h
    rfl
   refine Tr.skip ?_
   conv=>whnf
   refine sg ?_
   conv=>whnf
   refine arS_raw ?_
   conv=>whnf
   obtain ⟨x_59, hx_59, h⟩ := bS h
   refine ixP_of hx_59 ?_
   conv=>whnf
   refine arS_raw ?_
   conv=>whnf
   refine arS_raw ?_
   conv=>whnf
   refine Tr.seq ?_
   refine sg ?_
   conv=>whnf
   obtain ⟨u_60, hu_60, h⟩ := bS h
   refine neS_mk (nz_ne hu_60) ?_
   conv=>whnf
   refine arS_raw ?_
   conv=>whnf
   refine Tr.seq ?_
   obtain ⟨v_61, hv62, h⟩ := bS h
   refine Tr.cutQ1 ([(0, (dI amount_1)), (1, .d (.ls (List.map eI weights_2))), (4, .d (.b false)), (5, .d (.ls (List.map eI r_8))), (7, (dI sum_18)), (8, (dI n_31)), (11, (dI v_32)), (12, (dI x_38)), (64, .d (.ls (List.map eI r_8))), (65, (dI (((r_8).length : Int)))), (66, (dI v_32)), (137, .d (.b v_61))]) ([]) ?_ (fun T1 H1 hw => ?_)
   ·replace h := hv62; clear hv62
    refine rg ?_
    conv=>whnf
    refine cB h (fun hb63 h => ?_) (fun hb63 h => ?_)
    ·conv=>whnf
     cases h
     exact Wk.mk2 [] 0 rfl rfl (by decide) rfl trivial ⟨rr, rr, rr, rr, rr, rr, rr, rr, rr, rr, rr, rr, trivial⟩
    conv=>whnf
    refine arS_raw ?_
    conv=>whnf
    refine cB h (fun hb64 h => ?_) (fun hb64 h => ?_)
    ·conv=>whnf
     cases h
     exact Wk.mk2 [] 0 rfl rfl (by decide) rfl trivial ⟨rr, rr, rr, rr, rr, rr, rr, rr, rr, rr, rr, rr, trivial⟩
    conv=>whnf
    refine arS_raw ?_
    conv=>whnf
    refine cB h (fun hb65 h => ?_) (fun hb65 h => ?_)
    ·conv=>whnf
     obtain ⟨u_66, hu_66, h⟩ := bS h
     refine neS_mk (nz_ne hu_66) ?_
     conv=>whnf
     cases h
     exact Wk.mk2 [] 0 rfl rfl (by decide) rfl trivial ⟨rr, rr, rr, rr, rr, rr, rr, rr, rr, rr, rr, rr, trivial⟩
    conv=>whnf
    cases h
    exact Wk.mk2 [] 0 rfl rfl (by decide) rfl trivial ⟨rr, rr, rr, rr, rr, rr, rr, rr, rr, rr, rr, rr, trivial⟩
   clear hv62
   conv=>whnf
   refine Tr.weak hw ?_
   refine Tr.cond ?_
   conv=>whnf
   refine cB h (fun hb67 h => ?_) (fun hb67 h => ?_)
   ·refine sg ?_
    conv=>whnf
    refine Tr.ret ?_
    conv=>whnf
    cases h
    rfl
   refine Tr.skip ?_
   conv=>whnf
   refine sg ?_
   conv=>whnf
   refine arS_raw ?_
   conv=>whnf
   refine sg ?_
   conv=>whnf
   refine lnS_map ?_
   conv=>whnf
   refine Tr.cutQ (α := Unit) (fun s => ([(0, (dI amount_1)), (1, .d (.ls (List.map eI weights_2))), (4, .d (.b false)), (5, .d (.ls (List.map eI r_8))), (7, (dI sum_18)), (8, (dI (w64 (n_31 + x_38)))), (64, .d (.ls (List.map eI r_8))), (65, (dI (((r_8).length : Int)))), (66, (dI v_32))], [])) (fun s => M78 n_31 v_32 (M79 amount_1 weights_2 r_8 sum_18 (M80 amount_1 r_8) n_33) x_38 s = some r_3) ?_ ?_
   ·refine Tr.block ?_
    refine Tr.loopM (σ := Int) (fun n s => M77 weights_2 r_8 v_32 x_38 (M78 n_31 v_32 (M79 amount_1 weights_2 r_8 sum_18 (M80 amount_1 r_8) n_33) x_38) n s) r_3 (fun s => ([(0, (dI amount_1)), (1, .d (.ls (List.map eI weights_2))), (4, .d (.b false)), (5, .d (.ls (List.map eI r_8))), (7, (dI sum_18)), (8, (dI (w64 (n_31 + x_38)))), (11, (dI v_32)), (12, (dI x_38)), (64, .d (.ls (List.map eI r_8))), (65, (dI (((r_8).length : Int)))), (66, (dI v_32)), (141, .d (.ls (List.map eI r_8))), (142, (dI (((r_8).length : Int)))), (143, (dI s))], [])) (((((r_8).length : Int)) - 0 : Int).toNat + 1) (0) h (fun s => rfl) (Wk.mk2 [] 0 rfl rfl (by decide) rfl trivial ⟨rr, rr, rr, rr, rr, rr, rr, rr, rr, rr, rr, rr, rr, rr, trivial⟩) ?_
    clear h
    rintro n_70 v_69 h
    replace h : M77 weights_2 r_8 v_32 x_38 (M78 n_31 v_32 (M79 amount_1 weights_2 r_8 sum_18 (M80 amount_1 r_8) n_33) x_38) (n_70 + 1) v_69 = some r_3 := h
    rw [M77] at h
    refine sg ?_
    conv=>whnf
    refine Tr.seq ?_
    refine Tr.cond ?_
    conv=>whnf
    refine cB h (fun hb73 h => ?_) (fun hb73 h => ?_)
    ·refine Tr.skip ?_
     conv=>whnf
     refine Tr.seq ?_
     refine Tr.block ?_
     refine sg ?_
     conv=>whnf
     obtain ⟨x_74, hx_74, h⟩ := bS h
     refine ixP_of hx_74 ?_
     conv=>whnf
     refine Tr.seq ?_
     obtain ⟨v_75, hv76, h⟩ := bS h
     refine Tr.cutQ1 ([(0, (dI amount_1)), (1, .d (.ls (List.map eI weights_2))), (4, .d (.b false)), (5, .d (.ls (List.map eI r_8))), (7, (dI sum_18)), (8, (dI (w64 (n_31 + x_38)))), (11, (dI v_32)), (12, (dI x_38)), (64, .d (.ls (List.map eI r_8))), (65, (dI (((r_8).length : Int)))), (66, (dI v_32)), (141, .d (.ls (List.map eI r_8))), (142, (dI (((r_8).length : Int)))), (143, (dI v_69)), (190, .d (.b v_75))]) ([]) ?_ (fun T1 H1 hw => ?_)
     ·replace h := hv76; clear hv76
      refine dq [] [(0,1),(1,1),(2,2),(3,2),(4,1),(5,1),(6,2),(7,2),(8,1),(9,1),(10,1),(11,1),(12,1),(13,1),(14,1),(15,1),(16,1),(17,1),(18,1),(19,1),(20,1),(21,1),(22,1),(23,2),(24,2),(25,1),(26,1),(27,2),(28,2),(29,1),(30,1),(31,1),(32,1),(33,1),(34,1),(35,1),(36,1),(37,1),(38,1),(39,1),(40,1),(41,1),(42,1)] ?_
      conv=>whnf
      refine q1 ?_
      conv=>whnf
      refine q1 ?_
      conv=>whnf
      obtain ⟨x_77, hx_77, h⟩ := bS h
      refine q3 (ixP_of hx_77 rr) ?_
      conv=>whnf
      refine q2 ?_
      conv=>whnf
      refine q1 ?_
      conv=>whnf
      refine q1 ?_
      conv=>whnf
      obtain ⟨x_78, hx_78, h⟩ := bS h
      refine q3 (ixP_of hx_78 rr) ?_
      conv=>whnf
      refine q2 ?_
      conv=>whnf
      refine q1 ?_
      conv=>whnf
      refine q1 ?_
      conv=>whnf
      refine cB h (fun hb79 h => ?_) (fun hb79 h => ?_)
      ·conv=>whnf
       refine q1 ?_
       conv=>whnf
       refine q1 ?_
       conv=>whnf
       refine q4 ?_
       conv=>whnf
       refine q1 ?_
       conv=>whnf
       refine q1 ?_
       conv=>whnf
       refine q1 ?_
       conv=>whnf
       refine q4 ?_
       conv=>whnf
       refine q1 ?_
       conv=>whnf
       refine q1 ?_
       conv=>whnf
       refine q1 ?_
       conv=>whnf
       refine q1 ?_
       conv=>whnf
       refine cB h (fun hb80 h => ?_) (fun hb80 h => ?_)
       ·conv=>whnf
        refine q1 ?_
        conv=>whnf
        cases h
        exact Wk.mk2 [] 0 rfl rfl (by decide) rfl trivial ⟨rr, rr, rr, rr, rr, rr, rr, rr, rr, rr, rr, rr, rr, rr, rr, trivial⟩
       conv=>whnf
       refine q1 ?_
       conv=>whnf
       refine q1 ?_
       conv=>whnf
       obtain ⟨x_81, hx_81, h⟩ := bS h
       refine q3 (ixP_of hx_81 rr) ?_
       conv=>whnf
       refine q2 ?_
       conv=>whnf
       refine q1 ?_
       conv=>whnf
       refine q1 ?_
       conv=>whnf
       obtain ⟨x_82, hx_82, h⟩ := bS h
       refine q3 (ixP_of hx_82 rr) ?_
       conv=>whnf
       refine q2 ?_
       conv=>whnf
       refine q1 ?_
       conv=>whnf
       refine q1 ?_
       conv=>whnf
       refine cB h (fun hb83 h => ?_) (fun hb83 h => ?_)
       ·conv=>whnf
        refine q1 ?_
        conv=>whnf
        refine q1 ?_
        conv=>whnf
        refine q4 ?_
        conv=>whnf
        refine q1 ?_
        conv=>whnf
        refine q1 ?_
        conv=>whnf
        refine cB h (fun hb84 h => ?_) (fun hb84 h => ?_)
        ·conv=>whnf
         refine q1 ?_
         conv=>whnf
         refine q1 ?_
         conv=>whnf
         refine q1 ?_
         conv=>whnf
         cases h
         exact Wk.mk2 [] 0 rfl rfl (by decide) rfl trivial ⟨rr, rr, rr, rr, rr, rr, rr, rr, rr, rr, rr, rr, rr, rr, rr, trivial⟩
        conv=>whnf
        refine q1 ?_
        conv=>whnf
        refine q1 ?_
        conv=>whnf
        refine q4 ?_
        conv=>whnf
        refine q1 ?_
        conv=>whnf
        refine q1 ?_
        conv=>whnf
        refine q1 ?_
        conv=>whnf
        refine q1 ?_
        conv=>whnf
        cases h
        exact Wk.mk2 [] 0 rfl rfl (by decide) rfl trivial ⟨rr, rr, rr, rr, rr, rr, rr, rr, rr, rr, rr, rr, rr, rr, rr, trivial⟩
       conv=>whnf
       refine q1 ?_
       conv=>whnf
       refine q1 ?_
       conv=>whnf
       cases h
       exact Wk.mk2 [] 0 rfl rfl (by decide) rfl trivial ⟨rr, rr, rr, rr, rr, rr, rr, rr, rr, rr, rr, rr, rr, rr, rr, trivial⟩
      conv=>whnf
      refine q1 ?_
      conv=>whnf
      refine q1 ?_
      conv=>whnf
      refine q1 ?_
      conv=>whnf
      refine q1 ?_
      conv=>whnf
      obtain ⟨x_85, hx_85, h⟩ := bS h
      refine q3 (ixP_of hx_85 rr) ?_
      conv=>whnf
      refine q2 ?_
      conv=>whnf
      refine q1 ?_
      conv=>whnf
      refine q1 ?_
      conv=>whnf
      obtain ⟨x_86, hx_86, h⟩ := bS h
      refine q3 (ixP_of hx_86 rr) ?_
      conv=>whnf
      refine q2 ?_
      conv=>whnf
      refine q1 ?_
      conv=>whnf
      refine q1 ?_
      conv=>whnf
      refine cB h (fun hb87 h => ?_) (fun hb87 h => ?_)
      ·conv=>whnf
       refine q1 ?_
       conv=>whnf
       refine q1 ?_
       conv=>whnf
       refine q4 ?_
       conv=>whnf
       refine q1 ?_
       conv=>whnf
       refine q1 ?_
       conv=>whnf
       refine cB h (fun hb88 h => ?_) (fun hb88 h => ?_)
       ·conv=>whnf
        refine q1 ?_
        conv=>whnf
        refine q1 ?_
        conv=>whnf
        refine q1 ?_
        conv=>whnf
        cases h
        exact Wk.mk2 [] 0 rfl rfl (by decide) rfl trivial ⟨rr, rr, rr, rr, rr, rr, rr, rr, rr, rr, rr, rr, rr, rr, rr, trivial⟩
       conv=>whnf
       refine q1 ?_
       conv=>whnf
       refine q1 ?_
       conv=>whnf
       refine q4 ?_
       conv=>whnf
       refine q1 ?_
       conv=>whnf
       refine q1 ?_
       conv=>whnf
       refine q1 ?_
       conv=>whnf
       refine q1 ?_
       conv=>whnf
       cases h
       exact Wk.mk2 [] 0 rfl rfl (by decide) rfl trivial ⟨rr, rr, rr, rr, rr, rr, rr, rr, rr, rr, rr, rr, rr, rr, rr, trivial⟩
      conv=>whnf
      refine q1 ?_
      conv=>whnf
      refine q1 ?_
      conv=>whnf
      cases h
      exact Wk.mk2 [] 0 rfl rfl (by decide) rfl trivial ⟨rr, rr, rr, rr, rr, rr, rr, rr, rr, rr, rr, rr, rr, rr, rr, trivial⟩
     clear hv76
     conv=>whnf
     refine Tr.weak hw ?_
     refine Tr.cond ?_
     conv=>whnf
     refine cB h (fun hb89 h => ?_) (fun hb89 h => ?_)
     ·refine sg ?_
      conv=>whnf
      refine Tr.ret ?_
      conv=>whnf
      cases h
      rfl
     refine Tr.skip ?_
     conv=>whnf
     refine rg ?_
     conv=>whnf
     refine arS_raw ?_
     conv=>whnf
     refine ⟨((w64 (v_69 + 1))), h, ?_⟩
     exact Wk.mk2 [] 0 rfl rfl (by decide) rfl trivial ⟨rr, rr, rr, rr, rr, rr, rr, rr, rr, rr, rr, rr, rr, rr, trivial⟩
    refine Tr.exit ?_
    conv=>whnf
    refine ⟨(), h, ?_⟩
    exact Wk.mk2 [] 0 rfl rfl (by decide) rfl trivial ⟨rr, rr, rr, rr, rr, rr, rr, rr, rr, trivial⟩
   clear h
   rintro _ h T1 H1 hw
   replace h : M78 n_31 v_32 (M79 amount_1 weights_2 r_8 sum_18 (M80 amount_1 r_8) n_33) x_38 () = some r_3 := h
   conv=>whnf
   refine Tr.weak hw ?_
   unfold M78 at h
   refine rg ?_
   conv=>whnf
   refine arS_raw ?_
   conv=>whnf
   refine ⟨((w64 (n_31 + x_38)), (w64 (v_32 + 1))), h, ?_⟩
   exact Wk.mk2 [] 0 rfl rfl (by decide) rfl trivial ⟨rr, rr, rr, rr, rr, rr, rr, rr, rr, trivial⟩
  refine Tr.exit ?_
  conv=>whnf
  refine ⟨(n_31), h, ?_⟩
  exact Wk.mk2 [] 0 rfl rfl (by decide) rfl trivial ⟨rr, rr, rr, rr, trivial⟩
 clear h
 rintro n_34 h T1 H1 hw
 replace h : M80 amount_1 r_8 n_34 = some r_3 := h
 conv=>whnf
 refine Tr.weak hw ?_
 unfold M80 at h
 refine sg ?_
 conv=>whnf
 obtain ⟨⟨r_90, r_91⟩, hc92, h⟩ := bS h
 refine PC.ecall (P72 r_8 r_90 r_91 hc92) (fun rs hrs => ?_)
 subst hrs
 conv=>whnf
 refine sg ?_
 conv=>whnf
 refine cB h (fun hb93 h => ?_) (fun hb93 h => ?_)
 ·conv=>whnf
  refine cB h (fun hb94 h => ?_) (fun hb94 h => ?_)
  ·conv=>whnf
   refine Tr.ret ?_
   conv=>whnf
   cases h
   rfl
  conv=>whnf
  refine Tr.ret ?_
  conv=>whnf
  cases h
  rfl
 conv=>whnf
 refine Tr.ret ?_
 conv=>whnf
 cases h
 rfl
end Go.Proofs.Tryd
