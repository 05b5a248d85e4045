/- Contracts of functions, by program (gen.py). No condition. -/
import Derived.Test.YtbcanffnlgibhaaDoorZL
import Derived.Test.YtbcanffnlgibhaaDoorZM
import Derived.Test.YtbcanffnlgibhaaDoorZCB
import Derived.Test.YtbcanffnlgibhaaDoorZS2
namespace Go.Proofs.Tryd
open Go Go.Abs Go.Stop
set_option maxRecDepth 8000
set_option linter.unusedVariables false
set_option linter.unusedSimpArgs false
theorem P54 (s_1 : List Int) (r_2 : List Int) (h : M54 s_1 = some r_2) :
    PC prog 23 [(.ls (List.map eI s_1))] (fun rs => rs = [(.ls (List.map eI r_2))]) := by
 refine PC.of_tr (cx := ⟨8, none, lay, 0⟩) layOK func23 rfl rfl rfl rfl rfl (by simp [f23]) ?_
 unfold M54 at h
 refine sg ?_
 conv=>whnf
 refine Tr.seq ?_
 refine sg ?_
 conv=>whnf
 intro nb_3 hnb_3
 cases nb_3
 ·conv=>whnf
  refine Tr.cond ?_
  conv=>whnf
  refine Tr.skip ?_
  conv=>whnf
  refine sg ?_
  conv=>whnf
  refine orB_l ?_
  conv=>whnf
  refine frP_no ?_
  conv=>whnf
  refine eqS_mk (by first | rfl | simp) ?_
  conv=>whnf
  obtain ⟨l_4, hl_4, h⟩ := bS h
  refine apS_of hl_4 (aQ (f := eI) (l := s_1) fun _ => rfl) (by first | rfl | simp) (by first | rfl | simp) (fun he => ?_)
  conv=>whnf
  refine rS (es' := List.map .d (List.map eI l_4)) (n' := List.length l_4) (by subst he; simp only [List.map_append, List.map_cons, List.map_nil, List.nil_append]; first | done | rfl) (by subst he; simp <;> omega) ?_
  clear he
  conv=>whnf
  refine Tr.ret ?_
  conv=>whnf
  refine frE_of (f := eI) (l := l_4) rfl ?_
  conv=>whnf
  cases h
  rfl
 replace hnb_3 : s_1 = [] := by simpa using hnb_3 rfl
 subst hnb_3
 replace h : some (([] : List Int)) = some r_2 := by simpa [app] using h
 conv=>whnf
 refine Tr.cond ?_
 conv=>whnf
 refine sg ?_
 conv=>whnf
 refine Tr.ret ?_
 conv=>whnf
 cases h
 rfl
theorem P61 (amount_1 : Int) (weights_2 : List Int) (r_3 : List Int) (r_4 : Int) (h : M61 amount_1 weights_2 = some (r_3, r_4)) :
    PC prog 11 [(.i .i64 amount_1), (.ls (List.map eI weights_2))] (fun rs => rs = [(.ls (List.map eI r_3)), (.i .i64 r_4)]) := by
 refine PC.of_tr (cx := ⟨89, none, lay, 0⟩) layOK func11 rfl rfl rfl rfl rfl (by simp [f11]) ?_
 unfold M61 at h
 refine sg ?_
 conv=>whnf
 refine Tr.seq ?_
 refine sg ?_
 conv=>whnf
 obtain ⟨r_5, hc6, h⟩ := bS h
 refine PC.ecall (P0 amount_1 r_5 hc6) (fun rs hrs => ?_)
 subst hrs
 conv=>whnf
 refine Tr.cond ?_
 conv=>whnf
 refine cB h (fun hb7 h => ?_) (fun hb7 h => ?_)
 ·refine sg ?_
  conv=>whnf
  refine Tr.ret ?_
  conv=>whnf
  cases h
  rfl
 refine Tr.skip ?_
 conv=>whnf
 refine Tr.seq ?_
 refine sg ?_
 conv=>whnf
 refine lnS_map ?_
 conv=>whnf
 refine Tr.cond ?_
 conv=>whnf
 refine cB h (fun hb8 h => ?_) (fun hb8 h => ?_)
 ·refine sg ?_
  conv=>whnf
  refine Tr.ret ?_
  conv=>whnf
  cases h
  rfl
 refine Tr.skip ?_
 conv=>whnf
 refine sg ?_
 conv=>whnf
 refine Tr.seq ?_
 refine sg ?_
 conv=>whnf
 refine lnS_map ?_
 conv=>whnf
 refine Tr.cutQ (α := Int) (fun s => ([(0, (dI amount_1)), (1, .d (.ls (List.map eI weights_2))), (4, .nsl), (5, (dI 0)), (6, (dI s))], [])) (fun s => M60 amount_1 weights_2 s = some (r_3, r_4)) ?_ ?_
 ·refine Tr.block ?_
  refine Tr.loopM (σ := Int × Int) (fun n s => M55 weights_2 (M60 amount_1 weights_2) n s.1 s.2) (r_3, r_4) (fun s => ([(0, (dI amount_1)), (1, .d (.ls (List.map eI weights_2))), (4, .nsl), (5, (dI 0)), (6, (dI s.1)), (22, .d (.ls (List.map eI weights_2))), (23, (dI (((weights_2).length : Int)))), (24, (dI s.2))], [])) (((((weights_2).length : Int)) - 0 : Int).toNat + 1) (0, 0) h (fun s => rfl) (Wk.mk2 [] 0 rfl rfl (by decide) rfl trivial ⟨rr, rr, rr, rr, rr, rr, rr, rr, trivial⟩) ?_
  clear h
  rintro n_13 ⟨sum_11, v_12⟩ h
  replace h : M55 weights_2 (M60 amount_1 weights_2) (n_13 + 1) sum_11 v_12 = some (r_3, r_4) := h
  rw [M55] at h
  refine sg ?_
  conv=>whnf
  refine Tr.seq ?_
  refine Tr.cond ?_
  conv=>whnf
  refine cB h (fun hb17 h => ?_) (fun hb17 h => ?_)
  ·refine Tr.skip ?_
   conv=>whnf
   refine Tr.seq ?_
   refine Tr.block ?_
   refine sg ?_
   conv=>whnf
   obtain ⟨x_18, hx_18, h⟩ := bS h
   refine ixP_of hx_18 ?_
   conv=>whnf
   refine Tr.seq ?_
   refine sg ?_
   conv=>whnf
   refine cB h (fun hb19 h => ?_) (fun hb19 h => ?_)
   ·conv=>whnf
    refine Tr.cond ?_
    conv=>whnf
    refine sg ?_
    conv=>whnf
    refine Tr.ret ?_
    conv=>whnf
    cases h
    rfl
   conv=>whnf
   refine Tr.cond ?_
   conv=>whnf
   refine cB h (fun hb20 h => ?_) (fun hb20 h => ?_)
   ·refine sg ?_
    conv=>whnf
    refine Tr.ret ?_
    conv=>whnf
    cases h
    rfl
   refine Tr.skip ?_
   conv=>whnf
   refine rg ?_
   conv=>whnf
   refine arS_raw ?_
   conv=>whnf
   refine rg ?_
   conv=>whnf
   refine arS_raw ?_
   conv=>whnf
   refine ⟨((w64 (sum_11 + x_18)), (w64 (v_12 + 1))), h, ?_⟩
   exact Wk.mk2 [] 0 rfl rfl (by decide) rfl trivial ⟨rr, rr, rr, rr, rr, rr, rr, rr, trivial⟩
  refine Tr.exit ?_
  conv=>whnf
  refine ⟨(sum_11), h, ?_⟩
  exact Wk.mk2 [] 0 rfl rfl (by decide) rfl trivial ⟨rr, rr, rr, rr, rr, trivial⟩
 clear h
 rintro sum_14 h T1 H1 hw
 replace h : M60 amount_1 weights_2 sum_14 = some (r_3, r_4) := h
 conv=>whnf
 refine Tr.weak hw ?_
 unfold M60 at h
 refine Tr.seq ?_
 refine sg ?_
 conv=>whnf
 refine Tr.cond ?_
 conv=>whnf
 refine cB h (fun hb21 h => ?_) (fun hb21 h => ?_)
 ·refine sg ?_
  conv=>whnf
  refine Tr.ret ?_
  conv=>whnf
  cases h
  rfl
 refine Tr.skip ?_
 conv=>whnf
 refine sg ?_
 conv=>whnf
 refine Tr.seq ?_
 refine sg ?_
 conv=>whnf
 refine Tr.cond ?_
 conv=>whnf
 refine cB h (fun hb22 h => ?_) (fun hb22 h => ?_)
 ·refine rg ?_
  conv=>whnf
  refine sg ?_
  conv=>whnf
  refine arS_raw ?_
  conv=>whnf
  refine sg ?_
  conv=>whnf
  refine rS (es' := List.map .d (List.map eI (List.replicate 256 0))) (n' := 0) (by simp [List.map_replicate, eI]) rfl ?_
  conv=>whnf
  refine sg ?_
  conv=>whnf
  refine Tr.seq ?_
  refine sg ?_
  conv=>whnf
  obtain ⟨⟨c_23, c_24, c_25⟩, hc26, h⟩ := bS h
  refine PC.ecall (P1 ((w64 ((-1) * amount_1))) weights_2 sum_14 c_23 c_24 c_25 hc26) (fun rs hrs => ?_)
  subst hrs
  conv=>whnf
  obtain ⟨l_27, hl28, h⟩ := bS h
  obtain ⟨⟨v_36, l_37⟩, hv59, h⟩ := bS h
  refine Tr.block ?_
  refine Tr.rangeM layOK rfl (ge := fun a => [(eTmoney_part a)]) rfl (P4 c_23 c_24 c_25 l_27 hl28) (fun _ => rfl) rfl (fun s => [some (.var [(dI s.1)]), some (.arr 1 (List.map .d (List.map eI (List.replicate 256 0)))), some (.var [.sl 3 3 0 (List.length s.2)]), some (.arr 3 (List.map .d (List.map eTmoney_part s.2)))]) M56 ((w64 ((-1) * amount_1)), (([] : List Tmoney_part))) (v_36, l_37) hv59 (Wk.mk2 [0, 1, 2, 3] 3 rfl rfl (by decide) rfl ⟨⟨rfl, rfl⟩, daS_d rfl, ⟨rfl, (by first | rfl | (simp only [↓hb7, ↓hb8, ↓hb21, ↓hb22, bl]; done) | (simp only [↓hb7, ↓hb8, ↓hb21, ↓hb22, bl]; rfl))⟩, rfl, trivial⟩ trivial) ?_ ?_
  ·clear h hv59
   rintro li y_29 ⟨v_32, l_33⟩ s_34 ha h
   replace h : M56 y_29 (v_32, l_33) = some s_34 := h
   unfold M56 at h
   dsimp only at h
   conv=>whnf
   refine Tr.block ?_
   refine sg ?_
   conv=>whnf
   refine orB_r ?_
   conv=>whnf
   refine frP_no ?_
   conv=>whnf
   refine eqS_mk (by first | rfl | simp) ?_
   conv=>whnf
   obtain ⟨l_35, hl_35, h⟩ := bS h
   refine apS_of hl_35 (aQ (f := eTmoney_part) (l := (([y_29] : List Tmoney_part))) fun _ => rfl) (by first | rfl | simp) (by first | rfl | simp) (fun he => ?_)
   conv=>whnf
   refine rS (es' := List.map .d (List.map eTmoney_part l_35)) (n' := List.length l_35) (by subst he; simp only [List.map_append, List.map_cons, List.map_nil, List.nil_append]; first | done | rfl) (by subst he; simp <;> omega) ?_
   clear he
   conv=>whnf
   refine orB_l ?_
   conv=>whnf
   refine rg ?_
   conv=>whnf
   refine arS_raw ?_
   conv=>whnf
   cases h
   exact Wk.mk2 [0, 1, 2, 5] 6 rfl rfl (by decide) rfl ⟨rr, daS_d rfl, ⟨rfl, (by first | rfl | (simp only [↓hb7, ↓hb8, ↓hb21, ↓hb22, bl]; done) | (simp only [↓hb7, ↓hb8, ↓hb21, ↓hb22, bl]; rfl))⟩, daS_d rfl, trivial⟩ trivial
  clear hv59
  conv=>whnf
  refine sg ?_
  conv=>whnf
  obtain ⟨l_38, hc39, h⟩ := bS h
  refine MC.ecall (P53 l_37 l_38 hc39) [3] (by decide) rfl rfl ?_ (fun rs Bs1 hrs => ?_)
  · exact ⟨⟨⟨_, rfl⟩, rfl⟩, trivial⟩
  obtain ⟨rfl, rfl⟩ := hrs
  conv=>whnf
  obtain ⟨_, hl40, h⟩ := bS h
  refine Tr.seq ?_
  refine sg ?_
  conv=>whnf
  refine lnS_mk (m := List.length l_38) (by first | rfl | simp [lenIs_eq hl40]) ?_
  conv=>whnf
  obtain ⟨l_46, hv55, h⟩ := bS h
  refine Tr.cutQ1 ([(1, .d (.ls (List.map eI weights_2))), (4, .nsl), (5, (dI 0)), (11, .pe 0 1 0 0)]) ([some (.arr 1 (List.map .d (List.map eI l_46)))]) ?_ (fun T1 H1 hw => ?_)
  ·replace h := hv55; clear hv55
   refine Tr.block ?_
   refine Tr.loopM (σ := Int × List Int) (fun n s => M57 v_36 l_38 n s.1 s.2) l_46 (fun s => ([(1, .d (.ls (List.map eI weights_2))), (4, .nsl), (5, (dI 0)), (9, (dI (-1))), (10, .pt 0 0), (11, .pe 1 1 0 0), (60, .sl 2 3 0 (List.length l_38)), (61, (dI (((l_38).length : Int)))), (62, (dI s.1))], [some (.var [(dI v_36)]), some (.arr 1 (List.map .d (List.map eI s.2))), some (.arr 3 (List.map .d (List.map eTmoney_part l_38)))])) (((((l_38).length : Int)) - 0 : Int).toNat + 1) (0, (List.replicate 256 0)) h (fun s => rfl) (Wk.mk2 [0, 1, 3] 4 rfl rfl (by decide) rfl ⟨rr, daS_d rfl, daS_d rfl, trivial⟩ ⟨rr, rr, rr, rr, rr, rr, ⟨rfl, (slEq (by first | rfl | simp [lenIs_eq hl40]))⟩, rr, rr, trivial⟩) ?_
   clear h
   rintro n_45 ⟨v_43, l_44⟩ h
   replace h : M57 v_36 l_38 (n_45 + 1) v_43 l_44 = some l_46 := h
   rw [M57] at h
   refine sg ?_
   conv=>whnf
   refine Tr.seq ?_
   refine Tr.cond ?_
   conv=>whnf
   refine cB h (fun hb49 h => ?_) (fun hb49 h => ?_)
   ·refine Tr.skip ?_
    conv=>whnf
    refine Tr.seq ?_
    refine Tr.block ?_
    refine sg ?_
    conv=>whnf
    obtain ⟨x_50, hx_50, h⟩ := bS h
    refine ixS_of hx_50 rfl ?_
    conv=>whnf
    refine elP_of hx_50 ?_
    conv=>whnf
    refine sg ?_
    conv=>whnf
    refine arS_raw ?_
    conv=>whnf
    obtain ⟨x_51, hx_51, h⟩ := bS h
    refine idxA_of hx_51 ?_
    conv=>whnf
    refine elP_of (idxA_idx hx_51) ?_
    conv=>whnf
    refine lvS_mk (es' := List.map .d (List.map eI (List.set l_44 (Int.toNat x_50.index) (w64 ((-1) * x_50.cents))))) (by simp only [Nat.zero_add, List.map_set]; first | done | rfl) ?_
    conv=>whnf
    refine sg ?_
    conv=>whnf
    refine Tr.cond ?_
    conv=>whnf
    refine cB h (fun hb52 h => ?_) (fun hb52 h => ?_)
    ·refine rg ?_
     conv=>whnf
     obtain ⟨x_53, hx_53, h⟩ := bS h
     refine idxA_of hx_53 ?_
     conv=>whnf
     refine elP_of (idxA_idx hx_53) ?_
     conv=>whnf
     refine arS_raw ?_
     conv=>whnf
     obtain ⟨x_54, hx_54, h⟩ := bS h
     refine idxA_of hx_54 ?_
     conv=>whnf
     refine elP_of (idxA_idx hx_54) ?_
     conv=>whnf
     refine lvS_mk (es' := List.map .d (List.map eI (List.set (List.set l_44 (Int.toNat x_50.index) (w64 ((-1) * x_50.cents))) (Int.toNat x_50.index) (w64 (x_53 + (-1)))))) (by simp only [Nat.zero_add, List.map_set]; first | done | rfl) ?_
     conv=>whnf
     refine rg ?_
     conv=>whnf
     refine arS_raw ?_
     conv=>whnf
     refine ⟨((w64 (v_43 + 1)), (List.set (List.set l_44 (Int.toNat x_50.index) (w64 ((-1) * x_50.cents))) (Int.toNat x_50.index) (w64 (x_53 + (-1))))), h, ?_⟩
     exact Wk.mk2 [0, 1, 2] 4 rfl rfl (by decide) rfl ⟨rr, daS_d rfl, daS_d rfl, trivial⟩ ⟨rr, rr, rr, rr, rr, rr, rr, rr, rr, trivial⟩
    refine Tr.skip ?_
    conv=>whnf
    refine rg ?_
    conv=>whnf
    refine arS_raw ?_
    conv=>whnf
    refine ⟨((w64 (v_43 + 1)), (List.set l_44 (Int.toNat x_50.index) (w64 ((-1) * x_50.cents)))), h, ?_⟩
    exact Wk.mk2 [0, 1, 2] 4 rfl rfl (by decide) rfl ⟨rr, daS_d rfl, daS_d rfl, trivial⟩ ⟨rr, rr, rr, rr, rr, rr, rr, rr, rr, trivial⟩
   refine Tr.exit ?_
   conv=>whnf
   cases h
   exact Wk.mk2 [1] 3 rfl rfl (by decide) rfl ⟨daS_d rfl, trivial⟩ ⟨rr, rr, rr, ⟨rfl, (by first | rfl | (simp only [↓hb7, ↓hb8, ↓hb21, ↓hb22, ↓hb49, bl]; done) | (simp only [↓hb7, ↓hb8, ↓hb21, ↓hb22, ↓hb49, bl]; rfl))⟩, trivial⟩
  clear hv55
  conv=>whnf
  refine Tr.weak hw ?_
  refine sg ?_
  conv=>whnf
  refine lnS_map ?_
  conv=>whnf
  obtain ⟨l_56, hl_56, h⟩ := bS h
  refine slcA_of hl_56 (fun hl he hn => ?_)
  conv=>whnf
  refine lenS_mk (by simpa using hl) ?_
  conv=>whnf
  refine rS (es' := List.map .d (List.map eI l_56)) (n' := List.length l_56) (by subst he; simp [List.map_take]) hn ?_
  clear hl he hn
  conv=>whnf
  obtain ⟨r_57, hc58, h⟩ := bS h
  refine PC.ecall_frz ?_ ⟨_, _, func23, rfl, rfl⟩
  conv=>whnf
  refine frE_of (f := eI) (l := l_56) rfl ?_
  conv=>whnf
  refine ⟨_, P54 l_56 r_57 hc58, fun rs hrs => ?_⟩
  subst hrs
  conv=>whnf
  refine Tr.ret ?_
  conv=>whnf
  cases h
  rfl
 refine Tr.skip ?_
 conv=>whnf
 refine sg ?_
 conv=>whnf
 refine arS_raw ?_
 conv=>whnf
 refine sg ?_
 conv=>whnf
 refine rS (es' := List.map .d (List.map eI (List.replicate 256 0))) (n' := 0) (by simp [List.map_replicate, eI]) rfl ?_
 conv=>whnf
 refine sg ?_
 conv=>whnf
 refine Tr.seq ?_
 refine sg ?_
 conv=>whnf
 obtain ⟨⟨c_60, c_61, c_62⟩, hc63, h⟩ := bS h
 refine PC.ecall (P1 ((w64 (1 * amount_1))) weights_2 sum_14 c_60 c_61 c_62 hc63) (fun rs hrs => ?_)
 subst hrs
 conv=>whnf
 obtain ⟨l_64, hl65, h⟩ := bS h
 obtain ⟨⟨v_73, l_74⟩, hv96, h⟩ := bS h
 refine Tr.block ?_
 refine Tr.rangeM layOK rfl (ge := fun a => [(eTmoney_part a)]) rfl (P4 c_60 c_61 c_62 l_64 hl65) (fun _ => rfl) rfl (fun s => [some (.var [(dI s.1)]), some (.arr 1 (List.map .d (List.map eI (List.replicate 256 0)))), some (.var [.sl 3 3 0 (List.length s.2)]), some (.arr 3 (List.map .d (List.map eTmoney_part s.2)))]) M58 ((w64 (1 * amount_1)), (([] : List Tmoney_part))) (v_73, l_74) hv96 (Wk.mk2 [0, 1, 2, 3] 3 rfl rfl (by decide) rfl ⟨⟨rfl, rfl⟩, daS_d rfl, ⟨rfl, (by first | rfl | (simp only [↓hb7, ↓hb8, ↓hb21, ↓hb22, bl]; done) | (simp only [↓hb7, ↓hb8, ↓hb21, ↓hb22, bl]; rfl))⟩, rfl, trivial⟩ trivial) ?_ ?_
 ·clear h hv96
  rintro li y_66 ⟨v_69, l_70⟩ s_71 ha h
  replace h : M58 y_66 (v_69, l_70) = some s_71 := h
  unfold M58 at h
  dsimp only at h
  conv=>whnf
  refine Tr.block ?_
  refine sg ?_
  conv=>whnf
  refine orB_r ?_
  conv=>whnf
  refine frP_no ?_
  conv=>whnf
  refine eqS_mk (by first | rfl | simp) ?_
  conv=>whnf
  obtain ⟨l_72, hl_72, h⟩ := bS h
  refine apS_of hl_72 (aQ (f := eTmoney_part) (l := (([y_66] : List Tmoney_part))) fun _ => rfl) (by first | rfl | simp) (by first | rfl | simp) (fun he => ?_)
  conv=>whnf
  refine rS (es' := List.map .d (List.map eTmoney_part l_72)) (n' := List.length l_72) (by subst he; simp only [List.map_append, List.map_cons, List.map_nil, List.nil_append]; first | done | rfl) (by subst he; simp <;> omega) ?_
  clear he
  conv=>whnf
  refine orB_l ?_
  conv=>whnf
  refine rg ?_
  conv=>whnf
  refine arS_raw ?_
  conv=>whnf
  cases h
  exact Wk.mk2 [0, 1, 2, 5] 6 rfl rfl (by decide) rfl ⟨rr, daS_d rfl, ⟨rfl, (by first | rfl | (simp only [↓hb7, ↓hb8, ↓hb21, ↓hb22, bl]; done) | (simp only [↓hb7, ↓hb8, ↓hb21, ↓hb22, bl]; rfl))⟩, daS_d rfl, trivial⟩ trivial
 clear hv96
 conv=>whnf
 refine sg ?_
 conv=>whnf
 obtain ⟨l_75, hc76, h⟩ := bS h
 refine MC.ecall (P53 l_74 l_75 hc76) [3] (by decide) rfl rfl ?_ (fun rs Bs1 hrs => ?_)
 · exact ⟨⟨⟨_, rfl⟩, rfl⟩, trivial⟩
 obtain ⟨rfl, rfl⟩ := hrs
 conv=>whnf
 obtain ⟨_, hl77, h⟩ := bS h
 refine Tr.seq ?_
 refine sg ?_
 conv=>whnf
 refine lnS_mk (m := List.length l_75) (by first | rfl | simp [lenIs_eq hl77]) ?_
 conv=>whnf
 obtain ⟨l_83, hv92, h⟩ := bS h
 refine Tr.cutQ1 ([(1, .d (.ls (List.map eI weights_2))), (4, .nsl), (5, (dI 0)), (11, .pe 0 1 0 0)]) ([some (.arr 1 (List.map .d (List.map eI l_83)))]) ?_ (fun T1 H1 hw => ?_)
 ·replace h := hv92; clear hv92
  refine Tr.block ?_
  refine Tr.loopM (σ := Int × List Int) (fun n s => M59 v_73 l_75 n s.1 s.2) l_83 (fun s => ([(1, .d (.ls (List.map eI weights_2))), (4, .nsl), (5, (dI 0)), (9, (dI 1)), (10, .pt 0 0), (11, .pe 1 1 0 0), (60, .sl 2 3 0 (List.length l_75)), (61, (dI (((l_75).length : Int)))), (62, (dI s.1))], [some (.var [(dI v_73)]), some (.arr 1 (List.map .d (List.map eI s.2))), some (.arr 3 (List.map .d (List.map eTmoney_part l_75)))])) (((((l_75).length : Int)) - 0 : Int).toNat + 1) (0, (List.replicate 256 0)) h (fun s => rfl) (Wk.mk2 [0, 1, 3] 4 rfl rfl (by decide) rfl ⟨rr, daS_d rfl, daS_d rfl, trivial⟩ ⟨rr, rr, rr, rr, rr, rr, ⟨rfl, (slEq (by first | rfl | simp [lenIs_eq hl77]))⟩, rr, rr, trivial⟩) ?_
  clear h
  rintro n_82 ⟨v_80, l_81⟩ h
  replace h : M59 v_73 l_75 (n_82 + 1) v_80 l_81 = some l_83 := h
  rw [M59] at h
  refine sg ?_
  conv=>whnf
  refine Tr.seq ?_
  refine Tr.cond ?_
  conv=>whnf
  refine cB h (fun hb86 h => ?_) (fun hb86 h => ?_)
  ·refine Tr.skip ?_
   conv=>whnf
   refine Tr.seq ?_
   refine Tr.block ?_
   refine sg ?_
   conv=>whnf
   obtain ⟨x_87, hx_87, h⟩ := bS h
   refine ixS_of hx_87 rfl ?_
   conv=>whnf
   refine elP_of hx_87 ?_
   conv=>whnf
   refine sg ?_
   conv=>whnf
   refine arS_raw ?_
   conv=>whnf
   obtain ⟨x_88, hx_88, h⟩ := bS h
   refine idxA_of hx_88 ?_
   conv=>whnf
   refine elP_of (idxA_idx hx_88) ?_
   conv=>whnf
   refine lvS_mk (es' := List.map .d (List.map eI (List.set l_81 (Int.toNat x_87.index) (w64 (1 * x_87.cents))))) (by simp only [Nat.zero_add, List.map_set]; first | done | rfl) ?_
   conv=>whnf
   refine sg ?_
   conv=>whnf
   refine Tr.cond ?_
   conv=>whnf
   refine cB h (fun hb89 h => ?_) (fun hb89 h => ?_)
   ·refine rg ?_
    conv=>whnf
    obtain ⟨x_90, hx_90, h⟩ := bS h
    refine idxA_of hx_90 ?_
    conv=>whnf
    refine elP_of (idxA_idx hx_90) ?_
    conv=>whnf
    refine arS_raw ?_
    conv=>whnf
    obtain ⟨x_91, hx_91, h⟩ := bS h
    refine idxA_of hx_91 ?_
    conv=>whnf
    refine elP_of (idxA_idx hx_91) ?_
    conv=>whnf
    refine lvS_mk (es' := List.map .d (List.map eI (List.set (List.set l_81 (Int.toNat x_87.index) (w64 (1 * x_87.cents))) (Int.toNat x_87.index) (w64 (x_90 + 1))))) (by simp only [Nat.zero_add, List.map_set]; first | done | rfl) ?_
    conv=>whnf
    refine rg ?_
    conv=>whnf
    refine arS_raw ?_
    conv=>whnf
    refine ⟨((w64 (v_80 + 1)), (List.set (List.set l_81 (Int.toNat x_87.index) (w64 (1 * x_87.cents))) (Int.toNat x_87.index) (w64 (x_90 + 1)))), h, ?_⟩
    exact Wk.mk2 [0, 1, 2] 4 rfl rfl (by decide) rfl ⟨rr, daS_d rfl, daS_d rfl, trivial⟩ ⟨rr, rr, rr, rr, rr, rr, rr, rr, rr, trivial⟩
   refine Tr.skip ?_
   conv=>whnf
   refine rg ?_
   conv=>whnf
   refine arS_raw ?_
   conv=>whnf
   refine ⟨((w64 (v_80 + 1)), (List.set l_81 (Int.toNat x_87.index) (w64 (1 * x_87.cents)))), h, ?_⟩
   exact Wk.mk2 [0, 1, 2] 4 rfl rfl (by decide) rfl ⟨rr, daS_d rfl, daS_d rfl, trivial⟩ ⟨rr, rr, rr, rr, rr, rr, rr, rr, rr, trivial⟩
  refine Tr.exit ?_
  conv=>whnf
  cases h
  exact Wk.mk2 [1] 3 rfl rfl (by decide) rfl ⟨daS_d rfl, trivial⟩ ⟨rr, rr, rr, ⟨rfl, (by first | rfl | (simp only [↓hb7, ↓hb8, ↓hb21, ↓hb22, ↓hb86, bl]; done) | (simp only [↓hb7, ↓hb8, ↓hb21, ↓hb22, ↓hb86, bl]; rfl))⟩, trivial⟩
 clear hv92
 conv=>whnf
 refine Tr.weak hw ?_
 refine sg ?_
 conv=>whnf
 refine lnS_map ?_
 conv=>whnf
 obtain ⟨l_93, hl_93, h⟩ := bS h
 refine slcA_of hl_93 (fun hl he hn => ?_)
 conv=>whnf
 refine lenS_mk (by simpa using hl) ?_
 conv=>whnf
 refine rS (es' := List.map .d (List.map eI l_93)) (n' := List.length l_93) (by subst he; simp [List.map_take]) hn ?_
 clear hl he hn
 conv=>whnf
 obtain ⟨r_94, hc95, h⟩ := bS h
 refine PC.ecall_frz ?_ ⟨_, _, func23, rfl, rfl⟩
 conv=>whnf
 refine frE_of (f := eI) (l := l_93) rfl ?_
 conv=>whnf
 refine ⟨_, P54 l_93 r_94 hc95, fun rs hrs => ?_⟩
 subst hrs
 conv=>whnf
 refine Tr.ret ?_
 conv=>whnf
 cases h
 rfl
theorem P62 (x_1 : Int) (r_9 : ByteArray) (h : M62 x_1 = some r_9) :
    PC prog 24 [(.i .i64 x_1)] (fun rs => rs = [(.s r_9)]) := by
  unfold M62 at h
  split at h
  · rename_i hx
    cases h
    exact PC.of_below (vs := [.int .i64 x_1]) func24 rfl rfl rfl rfl (fun X w ht => (Go.Proofs.Tryd.strconv_Itoa x_1 hx.1 hx.2 w (tab10 ht)).mono (by rintro e w' ⟨rfl, k, os, rfl⟩; exact ⟨rfl, Go.Lib.below_grow _ _ (Nat.le_refl _) _ _⟩))
  · cases h
theorem P63 (s_1 : ByteArray) (n_2 : Int) (r_9 : ByteArray) (h : M63 s_1 n_2 = some r_9) :
    PC prog 25 [(.s s_1), (.i .i64 n_2)] (fun rs => rs = [(.s r_9)]) := by
  unfold M63 at h
  split at h
  · rename_i hx
    obtain ⟨c, rfl⟩ : ∃ c : Nat, n_2 = (c : Int) := ⟨n_2.toNat, by omega⟩
    cases h
    rw [Int.toNat_natCast] at hx ⊢
    exact PC.of_below (vs := [.string s_1, .int .i64 c]) func25 rfl rfl rfl rfl (fun X w _ => Go.Proofs.Tryd.strings_Repeat s_1 c w (by omega) hx.2.2)
  · cases h
theorem P64 (n_1 : Int) (r_2 : ByteArray) (r_3 : Int) (h : M64 n_1 = some (r_2, r_3)) :
    PC prog 13 [(.i .i64 n_1)] (fun rs => rs = [(.s r_2), (.i .i64 r_3)]) := by
 refine PC.of_tr (cx := ⟨38, none, lay, 0⟩) layOK func13 rfl rfl rfl rfl rfl (by simp [f13]) ?_
 unfold M64 at h
 refine sg ?_
 conv=>whnf
 refine Tr.seq ?_
 refine sg ?_
 conv=>whnf
 obtain ⟨r_4, hc5, h⟩ := bS h
 refine PC.ecall (P0 n_1 r_4 hc5) (fun rs hrs => ?_)
 subst hrs
 conv=>whnf
 refine Tr.cond ?_
 conv=>whnf
 refine cB h (fun hb6 h => ?_) (fun hb6 h => ?_)
 ·refine sg ?_
  conv=>whnf
  refine Tr.ret ?_
  conv=>whnf
  cases h
  rfl
 refine Tr.skip ?_
 conv=>whnf
 refine sg ?_
 conv=>whnf
 refine arS_raw ?_
 conv=>whnf
 obtain ⟨r_7, hc8, h⟩ := bS h
 refine PC.ecall (P62 ((maxG n_1 (w64 (0 - n_1)))) r_7 hc8) (fun rs hrs => ?_)
 subst hrs
 conv=>whnf
 refine Tr.seq ?_
 refine sg ?_
 conv=>whnf
 refine Tr.cond ?_
 conv=>whnf
 refine cB h (fun hb9 h => ?_) (fun hb9 h => ?_)
 ·refine rg ?_
  conv=>whnf
  refine arS_raw ?_
  conv=>whnf
  obtain ⟨r_10, hc11, h⟩ := bS h
  refine PC.ecall (P63 (((ByteArray.mk #[48]))) ((w64 (3 - (((r_7.size : Nat) : Int))))) r_10 hc11) (fun rs hrs => ?_)
  subst hrs
  conv=>whnf
  obtain ⟨s_12, hs_12, h⟩ := bS h
  refine catS_of hs_12 ?_
  conv=>whnf
  refine sd [] [(0,1),(1,1),(2,2),(3,1),(4,1),(5,1),(6,1),(7,1),(8,2),(9,1),(10,1),(11,1),(12,1)] ?_
  conv=>whnf
  refine q1 ?_
  conv=>whnf
  refine q1 ?_
  conv=>whnf
  refine q2 ?_
  conv=>whnf
  refine q4 ?_
  conv=>whnf
  obtain ⟨s_13, hs_13, h⟩ := bS h
  refine q1 ?_ (fun _ => slcS_of hs_13 rr)
  conv=>whnf
  obtain ⟨s_14, hs_14, h⟩ := bS h
  refine q1 ?_ (fun _ => catS_of hs_14 rr)
  conv=>whnf
  refine q1 ?_
  conv=>whnf
  refine q1 ?_
  conv=>whnf
  refine q2 ?_
  conv=>whnf
  refine q4 ?_
  conv=>whnf
  obtain ⟨s_15, hs_15, h⟩ := bS h
  refine q1 ?_ (fun _ => slcS_of hs_15 rr)
  conv=>whnf
  obtain ⟨s_16, hs_16, h⟩ := bS h
  refine q1 ?_ (fun _ => catS_of hs_16 rr)
  conv=>whnf
  refine q1 ?_
  conv=>whnf
  refine Tr.seq ?_
  refine sg ?_
  conv=>whnf
  refine Tr.cond ?_
  conv=>whnf
  refine cB h (fun hb17 h => ?_) (fun hb17 h => ?_)
  ·refine rg ?_
   conv=>whnf
   obtain ⟨s_18, hs_18, h⟩ := bS h
   refine catS_of hs_18 ?_
   conv=>whnf
   refine sg ?_
   conv=>whnf
   refine Tr.ret ?_
   conv=>whnf
   cases h
   rfl
  refine Tr.skip ?_
  conv=>whnf
  refine sg ?_
  conv=>whnf
  refine Tr.ret ?_
  conv=>whnf
  cases h
  rfl
 refine Tr.skip ?_
 conv=>whnf
 refine sd [] [(0,1),(1,1),(2,2),(3,1),(4,1),(5,1),(6,1),(7,1),(8,2),(9,1),(10,1),(11,1),(12,1)] ?_
 conv=>whnf
 refine q1 ?_
 conv=>whnf
 refine q1 ?_
 conv=>whnf
 refine q2 ?_
 conv=>whnf
 refine q4 ?_
 conv=>whnf
 obtain ⟨s_19, hs_19, h⟩ := bS h
 refine q1 ?_ (fun _ => slcS_of hs_19 rr)
 conv=>whnf
 obtain ⟨s_20, hs_20, h⟩ := bS h
 refine q1 ?_ (fun _ => catS_of hs_20 rr)
 conv=>whnf
 refine q1 ?_
 conv=>whnf
 refine q1 ?_
 conv=>whnf
 refine q2 ?_
 conv=>whnf
 refine q4 ?_
 conv=>whnf
 obtain ⟨s_21, hs_21, h⟩ := bS h
 refine q1 ?_ (fun _ => slcS_of hs_21 rr)
 conv=>whnf
 obtain ⟨s_22, hs_22, h⟩ := bS h
 refine q1 ?_ (fun _ => catS_of hs_22 rr)
 conv=>whnf
 refine q1 ?_
 conv=>whnf
 refine Tr.seq ?_
 refine sg ?_
 conv=>whnf
 refine Tr.cond ?_
 conv=>whnf
 refine cB h (fun hb23 h => ?_) (fun hb23 h => ?_)
 ·refine rg ?_
  conv=>whnf
  obtain ⟨s_24, hs_24, h⟩ := bS h
  refine catS_of hs_24 ?_
  conv=>whnf
  refine sg ?_
  conv=>whnf
  refine Tr.ret ?_
  conv=>whnf
  cases h
  rfl
 refine Tr.skip ?_
 conv=>whnf
 refine sg ?_
 conv=>whnf
 refine Tr.ret ?_
 conv=>whnf
 cases h
 rfl
theorem P67 (a_1 : List Int) (b_2 : List Int) (r_3 : Bool) (h : M67 a_1 b_2 = some r_3) :
    PC prog 15 [(.ls (List.map eI a_1)), (.ls (List.map eI b_2))] (fun rs => rs = [(.b r_3)]) := by
 refine PC.of_tr (cx := ⟨26, none, lay, 0⟩) layOK func15 rfl rfl rfl rfl rfl (by simp [f15]) ?_
 unfold M67 at h
 refine sg ?_
 conv=>whnf
 refine Tr.seq ?_
 refine sg ?_
 conv=>whnf
 refine lnS_map ?_
 conv=>whnf
 refine lnS_map ?_
 conv=>whnf
 refine Tr.cond ?_
 conv=>whnf
 refine cB h (fun hb4 h => ?_) (fun hb4 h => ?_)
 ·refine sg ?_
  conv=>whnf
  refine Tr.ret ?_
  conv=>whnf
  cases h
  rfl
 refine Tr.skip ?_
 conv=>whnf
 refine Tr.seq ?_
 refine sg ?_
 conv=>whnf
 refine Tr.cutQ (α := Unit) (fun s => ([(4, .d (.b false))], [])) (fun s => M66 s = some r_3) ?_ ?_
 ·refine Tr.block ?_
  refine Tr.loopM (σ := Int) (fun n s => M65 a_1 b_2 M66 n s) r_3 (fun s => ([(0, .d (.ls (List.map eI a_1))), (1, .d (.ls (List.map eI b_2))), (4, .d (.b false)), (5, (dI s))], [])) (((((a_1).length : Int)) - 0 : Int).toNat + 1) (0) h (fun s => rfl) (Wk.mk2 [] 0 rfl rfl (by decide) rfl trivial ⟨rr, rr, rr, rr, trivial⟩) ?_
  clear h
  rintro n_7 i_6 h
  replace h : M65 a_1 b_2 M66 (n_7 + 1) i_6 = some r_3 := h
  rw [M65] at h
  refine Tr.seq ?_
  refine sg ?_
  conv=>whnf
  refine lnS_map ?_
  conv=>whnf
  refine Tr.cond ?_
  conv=>whnf
  refine cB h (fun hb10 h => ?_) (fun hb10 h => ?_)
  ·refine Tr.skip ?_
   conv=>whnf
   refine Tr.seq ?_
   refine Tr.block ?_
   refine sd [] [(0,1),(1,1),(2,2),(3,2),(4,1),(5,1),(6,2),(7,2),(8,1)] ?_
   conv=>whnf
   refine q1 ?_
   conv=>whnf
   refine q1 ?_
   conv=>whnf
   obtain ⟨x_11, hx_11, h⟩ := bS h
   refine q3 (ixP_of hx_11 rr) ?_
   conv=>whnf
   refine q2 ?_
   conv=>whnf
   refine q1 ?_
   conv=>whnf
   refine q1 ?_
   conv=>whnf
   obtain ⟨x_12, hx_12, h⟩ := bS h
   refine q3 (ixP_of hx_12 rr) ?_
   conv=>whnf
   refine q2 ?_
   conv=>whnf
   refine q1 ?_
   conv=>whnf
   refine Tr.cond ?_
   conv=>whnf
   refine cB h (fun hb13 h => ?_) (fun hb13 h => ?_)
   ·refine sg ?_
    conv=>whnf
    refine Tr.ret ?_
    conv=>whnf
    cases h
    rfl
   refine Tr.skip ?_
   conv=>whnf
   refine rg ?_
   conv=>whnf
   refine arS_raw ?_
   conv=>whnf
   refine ⟨((w64 (i_6 + 1))), h, ?_⟩
   exact Wk.mk2 [] 0 rfl rfl (by decide) rfl trivial ⟨rr, rr, rr, rr, trivial⟩
  refine Tr.exit ?_
  conv=>whnf
  refine ⟨(), h, ?_⟩
  exact Wk.mk2 [] 0 rfl rfl (by decide) rfl trivial ⟨rr, trivial⟩
 clear h
 rintro _ h T1 H1 hw
 replace h : M66 () = some r_3 := h
 conv=>whnf
 refine Tr.weak hw ?_
 unfold M66 at h
 refine sg ?_
 conv=>whnf
 refine Tr.ret ?_
 conv=>whnf
 cases h
 rfl
theorem P68 (r_1 : Bool) (h : M68 = some r_1) :
    PC prog 10 [] (fun rs => rs = [(.b r_1)]) := by
 refine PC.of_tr (cx := ⟨63, none, lay, 0⟩) layOK func10 rfl rfl rfl rfl rfl (by simp [f10]) ?_
 unfold M68 at h
 refine sg ?_
 conv=>whnf
 refine sg ?_
 conv=>whnf
 refine orB_r ?_
 conv=>whnf
 obtain ⟨⟨r_2, r_3⟩, hc4, h⟩ := bS h
 refine PC.ecall (P61 100 ((([1, 1, 1] : List Int))) r_2 r_3 hc4) (fun rs hrs => ?_)
 subst hrs
 conv=>whnf
 refine sg ?_
 conv=>whnf
 refine orB_r ?_
 conv=>whnf
 obtain ⟨⟨r_5, r_6⟩, hc7, h⟩ := bS h
 refine PC.ecall (P61 (-5) ((([1, 3] : List Int))) r_5 r_6 hc7) (fun rs hrs => ?_)
 subst hrs
 conv=>whnf
 refine sg ?_
 conv=>whnf
 obtain ⟨⟨r_8, r_9⟩, hc10, h⟩ := bS h
 refine PC.ecall (P64 (-5) r_8 r_9 hc10) (fun rs hrs => ?_)
 subst hrs
 conv=>whnf
 refine sg ?_
 conv=>whnf
 obtain ⟨⟨r_11, r_12⟩, hc13, h⟩ := bS h
 refine PC.ecall (P64 123456 r_11 r_12 hc13) (fun rs hrs => ?_)
 subst hrs
 conv=>whnf
 refine Tr.seq ?_
 obtain ⟨v_14, hv15, h⟩ := bS h
 refine Tr.cutQ1 ([(0, .d (.b v_14))]) ([]) ?_ (fun T1 H1 hw => ?_)
 ·replace h := hv15; clear hv15
  refine rg ?_
  conv=>whnf
  refine cB h (fun hb16 h => ?_) (fun hb16 h => ?_)
  ·conv=>whnf
   refine orB_r ?_
   conv=>whnf
   obtain ⟨r_17, hc18, h⟩ := bS h
   refine PC.ecall (P67 r_2 ((([34, 33, 33] : List Int))) r_17 hc18) (fun rs hrs => ?_)
   subst hrs
   conv=>whnf
   refine cB h (fun hb19 h => ?_) (fun hb19 h => ?_)
   ·conv=>whnf
    refine cB h (fun hb20 h => ?_) (fun hb20 h => ?_)
    ·conv=>whnf
     refine orB_r ?_
     conv=>whnf
     obtain ⟨r_21, hc22, h⟩ := bS h
     refine PC.ecall (P67 r_5 ((([(-1), (-4)] : List Int))) r_21 hc22) (fun rs hrs => ?_)
     subst hrs
     conv=>whnf
     refine cB h (fun hb23 h => ?_) (fun hb23 h => ?_)
     ·conv=>whnf
      refine cB h (fun hb24 h => ?_) (fun hb24 h => ?_)
      ·conv=>whnf
       refine cB h (fun hb25 h => ?_) (fun hb25 h => ?_)
       ·conv=>whnf
        refine cB h (fun hb26 h => ?_) (fun hb26 h => ?_)
        ·conv=>whnf
         refine cB h (fun hb27 h => ?_) (fun hb27 h => ?_)
         ·conv=>whnf
          obtain ⟨r_28, hc29, h⟩ := bS h
          refine PC.ecall (P0 1125899906842625 r_28 hc29) (fun rs hrs => ?_)
          subst hrs
          conv=>whnf
          cases h
          exact Wk.mk2 [] 0 rfl rfl (by decide) rfl trivial ⟨rr, trivial⟩
         conv=>whnf
         cases h
         exact Wk.mk2 [] 0 rfl rfl (by decide) rfl trivial ⟨rr, trivial⟩
        conv=>whnf
        cases h
        exact Wk.mk2 [] 0 rfl rfl (by decide) rfl trivial ⟨rr, trivial⟩
       conv=>whnf
       cases h
       exact Wk.mk2 [] 0 rfl rfl (by decide) rfl trivial ⟨rr, trivial⟩
      conv=>whnf
      cases h
      exact Wk.mk2 [] 0 rfl rfl (by decide) rfl trivial ⟨rr, trivial⟩
     conv=>whnf
     cases h
     exact Wk.mk2 [] 0 rfl rfl (by decide) rfl trivial ⟨rr, trivial⟩
    conv=>whnf
    cases h
    exact Wk.mk2 [] 0 rfl rfl (by decide) rfl trivial ⟨rr, trivial⟩
   conv=>whnf
   cases h
   exact Wk.mk2 [] 0 rfl rfl (by decide) rfl trivial ⟨rr, trivial⟩
  conv=>whnf
  cases h
  exact Wk.mk2 [] 0 rfl rfl (by decide) rfl trivial ⟨rr, trivial⟩
 clear hv15
 conv=>whnf
 refine Tr.weak hw ?_
 refine Tr.ret ?_
 conv=>whnf
 cases h
 rfl
theorem P77 (a_1 : Int) (b_2 : Int) (r_3 : Bool) (h : M77 a_1 b_2 = some r_3) :
    PC prog 5 [(.i .i64 a_1), (.i .i64 b_2)] (fun rs => rs = [(.b r_3)]) := by
 refine PC.of_tr (cx := ⟨121, none, lay, 0⟩) layOK func5 rfl rfl rfl rfl rfl (by simp [f5]) ?_
 unfold M77 at h
 refine sg ?_
 conv=>whnf
 refine Tr.seq ?_
 refine sg ?_
 conv=>whnf
 obtain ⟨r_4, hc5, h⟩ := bS h
 refine PC.ecall (P68 r_4 hc5) (fun rs hrs => ?_)
 subst hrs
 conv=>whnf
 refine Tr.cond ?_
 conv=>whnf
 refine cB h (fun hb6 h => ?_) (fun hb6 h => ?_)
 ·refine sg ?_
  conv=>whnf
  refine Tr.ret ?_
  conv=>whnf
  cases h
  rfl
 refine Tr.skip ?_
 conv=>whnf
 refine sg ?_
 conv=>whnf
 obtain ⟨⟨r_7, r_8⟩, hc9, h⟩ := bS h
 refine PC.ecall (P64 a_1 r_7 r_8 hc9) (fun rs hrs => ?_)
 subst hrs
 conv=>whnf
 refine sg ?_
 conv=>whnf
 obtain ⟨⟨r_10, r_11⟩, hc12, h⟩ := bS h
 refine PC.ecall (P64 b_2 r_10 r_11 hc12) (fun rs hrs => ?_)
 subst hrs
 conv=>whnf
 refine Tr.seq ?_
 refine sg ?_
 conv=>whnf
 obtain ⟨r_13, hc14, h⟩ := bS h
 refine PC.ecall (P0 a_1 r_13 hc14) (fun rs hrs => ?_)
 subst hrs
 conv=>whnf
 refine cB h (fun hb15 h => ?_) (fun hb15 h => ?_)
 ·conv=>whnf
  refine Tr.cond ?_
  conv=>whnf
  refine sg ?_
  conv=>whnf
  refine Tr.ret ?_
  conv=>whnf
  cases h
  rfl
 conv=>whnf
 obtain ⟨r_16, hc17, h⟩ := bS h
 refine PC.ecall (P0 b_2 r_16 hc17) (fun rs hrs => ?_)
 subst hrs
 conv=>whnf
 refine Tr.cond ?_
 conv=>whnf
 refine cB h (fun hb18 h => ?_) (fun hb18 h => ?_)
 ·refine sg ?_
  conv=>whnf
  refine Tr.ret ?_
  conv=>whnf
  cases h
  rfl
 refine Tr.skip ?_
 conv=>whnf
 refine Tr.seq ?_
 refine sg ?_
 conv=>whnf
 refine Tr.cond ?_
 conv=>whnf
 refine cB h (fun hb19 h => ?_) (fun hb19 h => ?_)
 ·refine sg ?_
  conv=>whnf
  refine Tr.ret ?_
  conv=>whnf
  cases h
  rfl
 refine Tr.skip ?_
 conv=>whnf
 refine Tr.seq ?_
 refine sg ?_
 conv=>whnf
 refine cB h (fun hb20 h => ?_) (fun hb20 h => ?_)
 ·conv=>whnf
  refine Tr.cond ?_
  conv=>whnf
  refine cB h (fun hb21 h => ?_) (fun hb21 h => ?_)
  ·refine sg ?_
   conv=>whnf
   refine Tr.ret ?_
   conv=>whnf
   cases h
   rfl
  refine Tr.skip ?_
  conv=>whnf
  refine sg ?_
  conv=>whnf
  refine Tr.seq ?_
  refine sg ?_
  conv=>whnf
  refine Tr.cond ?_
  conv=>whnf
  refine cB h (fun hb22 h => ?_) (fun hb22 h => ?_)
  ·refine Tr.seq ?_
   refine sg ?_
   conv=>whnf
   refine cB h (fun hb23 h => ?_) (fun hb23 h => ?_)
   ·conv=>whnf
    refine Tr.cond ?_
    conv=>whnf
    refine sg ?_
    conv=>whnf
    refine Tr.ret ?_
    conv=>whnf
    cases h
    rfl
   conv=>whnf
   obtain ⟨x_24, hx_24, h⟩ := bS h
   refine idxS_of hx_24 ?_
   conv=>whnf
   refine Tr.cond ?_
   conv=>whnf
   refine cB h (fun hb25 h => ?_) (fun hb25 h => ?_)
   ·refine sg ?_
    conv=>whnf
    refine Tr.ret ?_
    conv=>whnf
    cases h
    rfl
   refine Tr.skip ?_
   conv=>whnf
   refine rg ?_
   conv=>whnf
   obtain ⟨s_26, hs_26, h⟩ := bS h
   refine slcS_of hs_26 ?_
   conv=>whnf
   refine sg ?_
   conv=>whnf
   refine Tr.seq ?_
   refine sg ?_
   conv=>whnf
   refine lsS_mk (es' := List.map (eK .u8) (bytS s_26)) (bytD_eq _) ?_
   conv=>whnf
   refine lnS_map ?_
   conv=>whnf
   refine Tr.cutQ (α := Int × Int) (fun s => ([(0, (dI a_1)), (4, .d (.b false)), (9, .d (.s s_26)), (10, (dI s.1)), (11, (dI s.2))], [])) (fun s => M70 a_1 s_26 s.1 s.2 = some r_3) ?_ ?_
   ·refine Tr.block ?_
    refine Tr.loopM (σ := Int × Int × Int) (fun n s => M69 s_26 (M70 a_1 s_26) n s.1 s.2.1 s.2.2) r_3 (fun s => ([(0, (dI a_1)), (4, .d (.b false)), (9, .d (.s s_26)), (10, (dI s.1)), (11, (dI s.2.1)), (64, .d (.ls (List.map (eK .u8) (bytS s_26)))), (65, (dI ((((bytS s_26)).length : Int)))), (66, (dI s.2.2))], [])) ((((((bytS s_26)).length : Int)) - 0 : Int).toNat + 1) (0, (-1), 0) h (fun s => rfl) (Wk.mk2 [] 0 rfl rfl (by decide) rfl trivial ⟨rr, rr, rr, rr, rr, rr, rr, rr, trivial⟩) ?_
    clear h
    rintro n_33 ⟨n_30, point_31, v_32⟩ h
    replace h : M69 s_26 (M70 a_1 s_26) (n_33 + 1) n_30 point_31 v_32 = some r_3 := h
    rw [M69] at h
    refine sg ?_
    conv=>whnf
    refine Tr.seq ?_
    refine Tr.cond ?_
    conv=>whnf
    refine cB h (fun hb38 h => ?_) (fun hb38 h => ?_)
    ·refine Tr.skip ?_
     conv=>whnf
     refine Tr.seq ?_
     refine Tr.block ?_
     refine sg ?_
     conv=>whnf
     obtain ⟨x_39, hx_39, h⟩ := bS h
     refine ixP_of hx_39 ?_
     conv=>whnf
     refine Tr.block ?_
     refine Tr.seq ?_
     refine Tr.cutQ1 ([(0, (dI a_1)), (4, .d (.b false)), (9, .d (.s s_26)), (10, (dI n_30)), (11, (dI point_31)), (12, (dI v_32)), (13, .d (.i .u8 x_39)), (64, .d (.ls (List.map (eK .u8) (bytS s_26)))), (65, (dI ((((bytS s_26)).length : Int)))), (66, (dI v_32)), (77, .d (.b ((x_39 == 46) && (decide (point_31 < 0)))))]) ([]) ?_ (fun T1 H1 hw => ?_)
     ·refine rg ?_
      conv=>whnf
      refine condS_mk (fun hb41 => ?_) (fun hb41 => ?_)
      ·conv=>whnf
       exact Wk.mk2 [] 0 rfl rfl (by decide) rfl trivial ⟨rr, rr, rr, rr, rr, rr, rr, rr, rr, rr, ⟨rfl, (by first | rfl | (simp only [↓hb6, ↓hb15, ↓hb18, ↓hb19, ↓hb20, ↓hb21, ↓hb22, ↓hb23, ↓hb25, ↓hb38, ↓hb41, bl]; done) | (simp only [↓hb6, ↓hb15, ↓hb18, ↓hb19, ↓hb20, ↓hb21, ↓hb22, ↓hb23, ↓hb25, ↓hb38, ↓hb41, bl]; rfl))⟩, trivial⟩
      conv=>whnf
      exact Wk.mk2 [] 0 rfl rfl (by decide) rfl trivial ⟨rr, rr, rr, rr, rr, rr, rr, rr, rr, rr, ⟨rfl, (by first | rfl | (simp only [↓hb6, ↓hb15, ↓hb18, ↓hb19, ↓hb20, ↓hb21, ↓hb22, ↓hb23, ↓hb25, ↓hb38, ↓hb41, bl]; done) | (simp only [↓hb6, ↓hb15, ↓hb18, ↓hb19, ↓hb20, ↓hb21, ↓hb22, ↓hb23, ↓hb25, ↓hb38, ↓hb41, bl]; rfl))⟩, trivial⟩
     conv=>whnf
     refine Tr.weak hw ?_
     refine Tr.cond ?_
     conv=>whnf
     refine cB h (fun hb42 h => ?_) (fun hb42 h => ?_)
     ·refine rg ?_
      conv=>whnf
      refine rg ?_
      conv=>whnf
      refine arS_raw ?_
      conv=>whnf
      refine ⟨(n_30, v_32, (w64 (v_32 + 1))), h, ?_⟩
      exact Wk.mk2 [] 0 rfl rfl (by decide) rfl trivial ⟨rr, rr, rr, rr, rr, rr, rr, rr, trivial⟩
     refine Tr.seq ?_
     refine Tr.cutQ1 ([(0, (dI a_1)), (4, .d (.b false)), (9, .d (.s s_26)), (10, (dI n_30)), (11, (dI point_31)), (13, .d (.i .u8 x_39)), (64, .d (.ls (List.map (eK .u8) (bytS s_26)))), (65, (dI ((((bytS s_26)).length : Int)))), (66, (dI v_32)), (85, .d (.b ((decide (x_39 < 48)) || ((decide (x_39 > 57)) || (decide (n_30 > 2251799813685248))))))]) ([]) ?_ (fun T1 H1 hw => ?_)
     ·refine rg ?_
      conv=>whnf
      refine condS_mk (fun hb44 => ?_) (fun hb44 => ?_)
      ·conv=>whnf
       exact Wk.mk2 [] 0 rfl rfl (by decide) rfl trivial ⟨rr, rr, rr, rr, rr, rr, rr, rr, rr, ⟨rfl, (by first | rfl | (simp only [↓hb6, ↓hb15, ↓hb18, ↓hb19, ↓hb20, ↓hb21, ↓hb22, ↓hb23, ↓hb25, ↓hb38, ↓hb42, ↓hb44, bl]; done) | (simp only [↓hb6, ↓hb15, ↓hb18, ↓hb19, ↓hb20, ↓hb21, ↓hb22, ↓hb23, ↓hb25, ↓hb38, ↓hb42, ↓hb44, bl]; rfl))⟩, trivial⟩
      conv=>whnf
      refine condS_mk (fun hb45 => ?_) (fun hb45 => ?_)
      ·conv=>whnf
       exact Wk.mk2 [] 0 rfl rfl (by decide) rfl trivial ⟨rr, rr, rr, rr, rr, rr, rr, rr, rr, ⟨rfl, (by first | rfl | (simp only [↓hb6, ↓hb15, ↓hb18, ↓hb19, ↓hb20, ↓hb21, ↓hb22, ↓hb23, ↓hb25, ↓hb38, ↓hb42, ↓hb44, ↓hb45, bl]; done) | (simp only [↓hb6, ↓hb15, ↓hb18, ↓hb19, ↓hb20, ↓hb21, ↓hb22, ↓hb23, ↓hb25, ↓hb38, ↓hb42, ↓hb44, ↓hb45, bl]; rfl))⟩, trivial⟩
      conv=>whnf
      exact Wk.mk2 [] 0 rfl rfl (by decide) rfl trivial ⟨rr, rr, rr, rr, rr, rr, rr, rr, rr, ⟨rfl, (by first | rfl | (simp only [↓hb6, ↓hb15, ↓hb18, ↓hb19, ↓hb20, ↓hb21, ↓hb22, ↓hb23, ↓hb25, ↓hb38, ↓hb42, ↓hb44, ↓hb45, bl]; done) | (simp only [↓hb6, ↓hb15, ↓hb18, ↓hb19, ↓hb20, ↓hb21, ↓hb22, ↓hb23, ↓hb25, ↓hb38, ↓hb42, ↓hb44, ↓hb45, bl]; rfl))⟩, trivial⟩
     conv=>whnf
     refine Tr.weak hw ?_
     refine Tr.cond ?_
     conv=>whnf
     refine cB h (fun hb46 h => ?_) (fun hb46 h => ?_)
     ·refine sg ?_
      conv=>whnf
      refine Tr.ret ?_
      conv=>whnf
      cases h
      rfl
     refine rg ?_
     conv=>whnf
     refine arS_raw ?_
     conv=>whnf
     refine arS_raw ?_
     conv=>whnf
     refine arS_raw ?_
     conv=>whnf
     refine arS_raw ?_
     conv=>whnf
     refine rg ?_
     conv=>whnf
     refine arS_raw ?_
     conv=>whnf
     refine ⟨((w64 ((w64 (10 * n_30)) + (w64 (IntKind.wrap .u8 (x_39 - 48))))), point_31, (w64 (v_32 + 1))), h, ?_⟩
     exact Wk.mk2 [] 0 rfl rfl (by decide) rfl trivial ⟨rr, rr, rr, rr, rr, rr, rr, rr, trivial⟩
    refine Tr.exit ?_
    conv=>whnf
    refine ⟨(n_30, point_31), h, ?_⟩
    exact Wk.mk2 [] 0 rfl rfl (by decide) rfl trivial ⟨rr, rr, rr, rr, rr, trivial⟩
   clear h
   rintro ⟨n_34, point_35⟩ h T1 H1 hw
   replace h : M70 a_1 s_26 n_34 point_35 = some r_3 := h
   conv=>whnf
   refine Tr.weak hw ?_
   unfold M70 at h
   refine Tr.seq ?_
   refine Tr.seq ?_
   obtain ⟨v_47, hv48, h⟩ := bS h
   refine Tr.cutQ1 ([(0, (dI a_1)), (4, .d (.b false)), (10, (dI n_34)), (114, .d (.b v_47))]) ([]) ?_ (fun T1 H1 hw => ?_)
   ·replace h := hv48; clear hv48
    refine rg ?_
    conv=>whnf
    refine cB h (fun hb49 h => ?_) (fun hb49 h => ?_)
    ·conv=>whnf
     cases h
     exact Wk.mk2 [] 0 rfl rfl (by decide) rfl trivial ⟨rr, rr, rr, rr, trivial⟩
    conv=>whnf
    refine arS_raw ?_
    conv=>whnf
    refine cB h (fun hb50 h => ?_) (fun hb50 h => ?_)
    ·conv=>whnf
     cases h
     exact Wk.mk2 [] 0 rfl rfl (by decide) rfl trivial ⟨rr, rr, rr, rr, trivial⟩
    conv=>whnf
    refine cB h (fun hb51 h => ?_) (fun hb51 h => ?_)
    ·conv=>whnf
     obtain ⟨x_52, hx_52, h⟩ := bS h
     refine idxS_of hx_52 ?_
     conv=>whnf
     cases h
     exact Wk.mk2 [] 0 rfl rfl (by decide) rfl trivial ⟨rr, rr, rr, rr, trivial⟩
    conv=>whnf
    cases h
    exact Wk.mk2 [] 0 rfl rfl (by decide) rfl trivial ⟨rr, rr, rr, rr, trivial⟩
   clear hv48
   conv=>whnf
   refine Tr.weak hw ?_
   refine Tr.cond ?_
   conv=>whnf
   refine cB h (fun hb53 h => ?_) (fun hb53 h => ?_)
   ·refine sg ?_
    conv=>whnf
    refine Tr.ret ?_
    conv=>whnf
    cases h
    rfl
   refine Tr.skip ?_
   conv=>whnf
   refine sg ?_
   conv=>whnf
   refine arS_raw ?_
   conv=>whnf
   refine Tr.ret ?_
   conv=>whnf
   cases h
   rfl
  refine Tr.skip ?_
  conv=>whnf
  refine sg ?_
  conv=>whnf
  refine Tr.seq ?_
  refine sg ?_
  conv=>whnf
  refine lsS_mk (es' := List.map (eK .u8) (bytS r_7)) (bytD_eq _) ?_
  conv=>whnf
  refine lnS_map ?_
  conv=>whnf
  refine Tr.cutQ (α := Int × Int) (fun s => ([(0, (dI a_1)), (4, .d (.b false)), (9, .d (.s r_7)), (10, (dI s.1)), (11, (dI s.2))], [])) (fun s => M72 a_1 r_7 s.1 s.2 = some r_3) ?_ ?_
  ·refine Tr.block ?_
   refine Tr.loopM (σ := Int × Int × Int) (fun n s => M71 r_7 (M72 a_1 r_7) n s.1 s.2.1 s.2.2) r_3 (fun s => ([(0, (dI a_1)), (4, .d (.b false)), (9, .d (.s r_7)), (10, (dI s.1)), (11, (dI s.2.1)), (64, .d (.ls (List.map (eK .u8) (bytS r_7)))), (65, (dI ((((bytS r_7)).length : Int)))), (66, (dI s.2.2))], [])) ((((((bytS r_7)).length : Int)) - 0 : Int).toNat + 1) (0, (-1), 0) h (fun s => rfl) (Wk.mk2 [] 0 rfl rfl (by decide) rfl trivial ⟨rr, rr, rr, rr, rr, rr, rr, rr, trivial⟩) ?_
   clear h
   rintro n_60 ⟨n_57, point_58, v_59⟩ h
   replace h : M71 r_7 (M72 a_1 r_7) (n_60 + 1) n_57 point_58 v_59 = some r_3 := h
   rw [M71] at h
   refine sg ?_
   conv=>whnf
   refine Tr.seq ?_
   refine Tr.cond ?_
   conv=>whnf
   refine cB h (fun hb65 h => ?_) (fun hb65 h => ?_)
   ·refine Tr.skip ?_
    conv=>whnf
    refine Tr.seq ?_
    refine Tr.block ?_
    refine sg ?_
    conv=>whnf
    obtain ⟨x_66, hx_66, h⟩ := bS h
    refine ixP_of hx_66 ?_
    conv=>whnf
    refine Tr.block ?_
    refine Tr.seq ?_
    refine Tr.cutQ1 ([(0, (dI a_1)), (4, .d (.b false)), (9, .d (.s r_7)), (10, (dI n_57)), (11, (dI point_58)), (12, (dI v_59)), (13, .d (.i .u8 x_66)), (64, .d (.ls (List.map (eK .u8) (bytS r_7)))), (65, (dI ((((bytS r_7)).length : Int)))), (66, (dI v_59)), (77, .d (.b ((x_66 == 46) && (decide (point_58 < 0)))))]) ([]) ?_ (fun T1 H1 hw => ?_)
    ·refine rg ?_
     conv=>whnf
     refine condS_mk (fun hb68 => ?_) (fun hb68 => ?_)
     ·conv=>whnf
      exact Wk.mk2 [] 0 rfl rfl (by decide) rfl trivial ⟨rr, rr, rr, rr, rr, rr, rr, rr, rr, rr, ⟨rfl, (by first | rfl | (simp only [↓hb6, ↓hb15, ↓hb18, ↓hb19, ↓hb20, ↓hb21, ↓hb22, ↓hb65, ↓hb68, bl]; done) | (simp only [↓hb6, ↓hb15, ↓hb18, ↓hb19, ↓hb20, ↓hb21, ↓hb22, ↓hb65, ↓hb68, bl]; rfl))⟩, trivial⟩
     conv=>whnf
     exact Wk.mk2 [] 0 rfl rfl (by decide) rfl trivial ⟨rr, rr, rr, rr, rr, rr, rr, rr, rr, rr, ⟨rfl, (by first | rfl | (simp only [↓hb6, ↓hb15, ↓hb18, ↓hb19, ↓hb20, ↓hb21, ↓hb22, ↓hb65, ↓hb68, bl]; done) | (simp only [↓hb6, ↓hb15, ↓hb18, ↓hb19, ↓hb20, ↓hb21, ↓hb22, ↓hb65, ↓hb68, bl]; rfl))⟩, trivial⟩
    conv=>whnf
    refine Tr.weak hw ?_
    refine Tr.cond ?_
    conv=>whnf
    refine cB h (fun hb69 h => ?_) (fun hb69 h => ?_)
    ·refine rg ?_
     conv=>whnf
     refine rg ?_
     conv=>whnf
     refine arS_raw ?_
     conv=>whnf
     refine ⟨(n_57, v_59, (w64 (v_59 + 1))), h, ?_⟩
     exact Wk.mk2 [] 0 rfl rfl (by decide) rfl trivial ⟨rr, rr, rr, rr, rr, rr, rr, rr, trivial⟩
    refine Tr.seq ?_
    refine Tr.cutQ1 ([(0, (dI a_1)), (4, .d (.b false)), (9, .d (.s r_7)), (10, (dI n_57)), (11, (dI point_58)), (13, .d (.i .u8 x_66)), (64, .d (.ls (List.map (eK .u8) (bytS r_7)))), (65, (dI ((((bytS r_7)).length : Int)))), (66, (dI v_59)), (85, .d (.b ((decide (x_66 < 48)) || ((decide (x_66 > 57)) || (decide (n_57 > 2251799813685248))))))]) ([]) ?_ (fun T1 H1 hw => ?_)
    ·refine rg ?_
     conv=>whnf
     refine condS_mk (fun hb71 => ?_) (fun hb71 => ?_)
     ·conv=>whnf
      exact Wk.mk2 [] 0 rfl rfl (by decide) rfl trivial ⟨rr, rr, rr, rr, rr, rr, rr, rr, rr, ⟨rfl, (by first | rfl | (simp only [↓hb6, ↓hb15, ↓hb18, ↓hb19, ↓hb20, ↓hb21, ↓hb22, ↓hb65, ↓hb69, ↓hb71, bl]; done) | (simp only [↓hb6, ↓hb15, ↓hb18, ↓hb19, ↓hb20, ↓hb21, ↓hb22, ↓hb65, ↓hb69, ↓hb71, bl]; rfl))⟩, trivial⟩
     conv=>whnf
     refine condS_mk (fun hb72 => ?_) (fun hb72 => ?_)
     ·conv=>whnf
      exact Wk.mk2 [] 0 rfl rfl (by decide) rfl trivial ⟨rr, rr, rr, rr, rr, rr, rr, rr, rr, ⟨rfl, (by first | rfl | (simp only [↓hb6, ↓hb15, ↓hb18, ↓hb19, ↓hb20, ↓hb21, ↓hb22, ↓hb65, ↓hb69, ↓hb71, ↓hb72, bl]; done) | (simp only [↓hb6, ↓hb15, ↓hb18, ↓hb19, ↓hb20, ↓hb21, ↓hb22, ↓hb65, ↓hb69, ↓hb71, ↓hb72, bl]; rfl))⟩, trivial⟩
     conv=>whnf
     exact Wk.mk2 [] 0 rfl rfl (by decide) rfl trivial ⟨rr, rr, rr, rr, rr, rr, rr, rr, rr, ⟨rfl, (by first | rfl | (simp only [↓hb6, ↓hb15, ↓hb18, ↓hb19, ↓hb20, ↓hb21, ↓hb22, ↓hb65, ↓hb69, ↓hb71, ↓hb72, bl]; done) | (simp only [↓hb6, ↓hb15, ↓hb18, ↓hb19, ↓hb20, ↓hb21, ↓hb22, ↓hb65, ↓hb69, ↓hb71, ↓hb72, bl]; rfl))⟩, trivial⟩
    conv=>whnf
    refine Tr.weak hw ?_
    refine Tr.cond ?_
    conv=>whnf
    refine cB h (fun hb73 h => ?_) (fun hb73 h => ?_)
    ·refine sg ?_
     conv=>whnf
     refine Tr.ret ?_
     conv=>whnf
     cases h
     rfl
    refine rg ?_
    conv=>whnf
    refine arS_raw ?_
    conv=>whnf
    refine arS_raw ?_
    conv=>whnf
    refine arS_raw ?_
    conv=>whnf
    refine arS_raw ?_
    conv=>whnf
    refine rg ?_
    conv=>whnf
    refine arS_raw ?_
    conv=>whnf
    refine ⟨((w64 ((w64 (10 * n_57)) + (w64 (IntKind.wrap .u8 (x_66 - 48))))), point_58, (w64 (v_59 + 1))), h, ?_⟩
    exact Wk.mk2 [] 0 rfl rfl (by decide) rfl trivial ⟨rr, rr, rr, rr, rr, rr, rr, rr, trivial⟩
   refine Tr.exit ?_
   conv=>whnf
   refine ⟨(n_57, point_58), h, ?_⟩
   exact Wk.mk2 [] 0 rfl rfl (by decide) rfl trivial ⟨rr, rr, rr, rr, rr, trivial⟩
  clear h
  rintro ⟨n_61, point_62⟩ h T1 H1 hw
  replace h : M72 a_1 r_7 n_61 point_62 = some r_3 := h
  conv=>whnf
  refine Tr.weak hw ?_
  unfold M72 at h
  refine Tr.seq ?_
  refine Tr.seq ?_
  obtain ⟨v_74, hv75, h⟩ := bS h
  refine Tr.cutQ1 ([(0, (dI a_1)), (4, .d (.b false)), (10, (dI n_61)), (114, .d (.b v_74))]) ([]) ?_ (fun T1 H1 hw => ?_)
  ·replace h := hv75; clear hv75
   refine rg ?_
   conv=>whnf
   refine cB h (fun hb76 h => ?_) (fun hb76 h => ?_)
   ·conv=>whnf
    cases h
    exact Wk.mk2 [] 0 rfl rfl (by decide) rfl trivial ⟨rr, rr, rr, rr, trivial⟩
   conv=>whnf
   refine arS_raw ?_
   conv=>whnf
   refine cB h (fun hb77 h => ?_) (fun hb77 h => ?_)
   ·conv=>whnf
    cases h
    exact Wk.mk2 [] 0 rfl rfl (by decide) rfl trivial ⟨rr, rr, rr, rr, trivial⟩
   conv=>whnf
   refine cB h (fun hb78 h => ?_) (fun hb78 h => ?_)
   ·conv=>whnf
    obtain ⟨x_79, hx_79, h⟩ := bS h
    refine idxS_of hx_79 ?_
    conv=>whnf
    cases h
    exact Wk.mk2 [] 0 rfl rfl (by decide) rfl trivial ⟨rr, rr, rr, rr, trivial⟩
   conv=>whnf
   cases h
   exact Wk.mk2 [] 0 rfl rfl (by decide) rfl trivial ⟨rr, rr, rr, rr, trivial⟩
  clear hv75
  conv=>whnf
  refine Tr.weak hw ?_
  refine Tr.cond ?_
  conv=>whnf
  refine cB h (fun hb80 h => ?_) (fun hb80 h => ?_)
  ·refine sg ?_
   conv=>whnf
   refine Tr.ret ?_
   conv=>whnf
   cases h
   rfl
  refine Tr.skip ?_
  conv=>whnf
  refine sg ?_
  conv=>whnf
  refine arS_raw ?_
  conv=>whnf
  refine Tr.ret ?_
  conv=>whnf
  cases h
  rfl
 conv=>whnf
 refine Tr.cond ?_
 conv=>whnf
 refine Tr.skip ?_
 conv=>whnf
 refine sg ?_
 conv=>whnf
 refine Tr.seq ?_
 refine sg ?_
 conv=>whnf
 refine Tr.cond ?_
 conv=>whnf
 refine cB h (fun hb81 h => ?_) (fun hb81 h => ?_)
 ·refine Tr.seq ?_
  refine sg ?_
  conv=>whnf
  refine cB h (fun hb82 h => ?_) (fun hb82 h => ?_)
  ·conv=>whnf
   refine Tr.cond ?_
   conv=>whnf
   refine sg ?_
   conv=>whnf
   refine Tr.ret ?_
   conv=>whnf
   cases h
   rfl
  conv=>whnf
  obtain ⟨x_83, hx_83, h⟩ := bS h
  refine idxS_of hx_83 ?_
  conv=>whnf
  refine Tr.cond ?_
  conv=>whnf
  refine cB h (fun hb84 h => ?_) (fun hb84 h => ?_)
  ·refine sg ?_
   conv=>whnf
   refine Tr.ret ?_
   conv=>whnf
   cases h
   rfl
  refine Tr.skip ?_
  conv=>whnf
  refine rg ?_
  conv=>whnf
  obtain ⟨s_85, hs_85, h⟩ := bS h
  refine slcS_of hs_85 ?_
  conv=>whnf
  refine sg ?_
  conv=>whnf
  refine Tr.seq ?_
  refine sg ?_
  conv=>whnf
  refine lsS_mk (es' := List.map (eK .u8) (bytS s_85)) (bytD_eq _) ?_
  conv=>whnf
  refine lnS_map ?_
  conv=>whnf
  refine Tr.cutQ (α := Int × Int) (fun s => ([(0, (dI a_1)), (4, .d (.b false)), (9, .d (.s s_85)), (10, (dI s.1)), (11, (dI s.2))], [])) (fun s => M74 a_1 s_85 s.1 s.2 = some r_3) ?_ ?_
  ·refine Tr.block ?_
   refine Tr.loopM (σ := Int × Int × Int) (fun n s => M73 s_85 (M74 a_1 s_85) n s.1 s.2.1 s.2.2) r_3 (fun s => ([(0, (dI a_1)), (4, .d (.b false)), (9, .d (.s s_85)), (10, (dI s.1)), (11, (dI s.2.1)), (64, .d (.ls (List.map (eK .u8) (bytS s_85)))), (65, (dI ((((bytS s_85)).length : Int)))), (66, (dI s.2.2))], [])) ((((((bytS s_85)).length : Int)) - 0 : Int).toNat + 1) (0, (-1), 0) h (fun s => rfl) (Wk.mk2 [] 0 rfl rfl (by decide) rfl trivial ⟨rr, rr, rr, rr, rr, rr, rr, rr, trivial⟩) ?_
   clear h
   rintro n_92 ⟨n_89, point_90, v_91⟩ h
   replace h : M73 s_85 (M74 a_1 s_85) (n_92 + 1) n_89 point_90 v_91 = some r_3 := h
   rw [M73] at h
   refine sg ?_
   conv=>whnf
   refine Tr.seq ?_
   refine Tr.cond ?_
   conv=>whnf
   refine cB h (fun hb97 h => ?_) (fun hb97 h => ?_)
   ·refine Tr.skip ?_
    conv=>whnf
    refine Tr.seq ?_
    refine Tr.block ?_
    refine sg ?_
    conv=>whnf
    obtain ⟨x_98, hx_98, h⟩ := bS h
    refine ixP_of hx_98 ?_
    conv=>whnf
    refine Tr.block ?_
    refine Tr.seq ?_
    refine Tr.cutQ1 ([(0, (dI a_1)), (4, .d (.b false)), (9, .d (.s s_85)), (10, (dI n_89)), (11, (dI point_90)), (12, (dI v_91)), (13, .d (.i .u8 x_98)), (64, .d (.ls (List.map (eK .u8) (bytS s_85)))), (65, (dI ((((bytS s_85)).length : Int)))), (66, (dI v_91)), (77, .d (.b ((x_98 == 46) && (decide (point_90 < 0)))))]) ([]) ?_ (fun T1 H1 hw => ?_)
    ·refine rg ?_
     conv=>whnf
     refine condS_mk (fun hb100 => ?_) (fun hb100 => ?_)
     ·conv=>whnf
      exact Wk.mk2 [] 0 rfl rfl (by decide) rfl trivial ⟨rr, rr, rr, rr, rr, rr, rr, rr, rr, rr, ⟨rfl, (by first | rfl | (simp only [↓hb6, ↓hb15, ↓hb18, ↓hb19, ↓hb20, ↓hb81, ↓hb82, ↓hb84, ↓hb97, ↓hb100, bl]; done) | (simp only [↓hb6, ↓hb15, ↓hb18, ↓hb19, ↓hb20, ↓hb81, ↓hb82, ↓hb84, ↓hb97, ↓hb100, bl]; rfl))⟩, trivial⟩
     conv=>whnf
     exact Wk.mk2 [] 0 rfl rfl (by decide) rfl trivial ⟨rr, rr, rr, rr, rr, rr, rr, rr, rr, rr, ⟨rfl, (by first | rfl | (simp only [↓hb6, ↓hb15, ↓hb18, ↓hb19, ↓hb20, ↓hb81, ↓hb82, ↓hb84, ↓hb97, ↓hb100, bl]; done) | (simp only [↓hb6, ↓hb15, ↓hb18, ↓hb19, ↓hb20, ↓hb81, ↓hb82, ↓hb84, ↓hb97, ↓hb100, bl]; rfl))⟩, trivial⟩
    conv=>whnf
    refine Tr.weak hw ?_
    refine Tr.cond ?_
    conv=>whnf
    refine cB h (fun hb101 h => ?_) (fun hb101 h => ?_)
    ·refine rg ?_
     conv=>whnf
     refine rg ?_
     conv=>whnf
     refine arS_raw ?_
     conv=>whnf
     refine ⟨(n_89, v_91, (w64 (v_91 + 1))), h, ?_⟩
     exact Wk.mk2 [] 0 rfl rfl (by decide) rfl trivial ⟨rr, rr, rr, rr, rr, rr, rr, rr, trivial⟩
    refine Tr.seq ?_
    refine Tr.cutQ1 ([(0, (dI a_1)), (4, .d (.b false)), (9, .d (.s s_85)), (10, (dI n_89)), (11, (dI point_90)), (13, .d (.i .u8 x_98)), (64, .d (.ls (List.map (eK .u8) (bytS s_85)))), (65, (dI ((((bytS s_85)).length : Int)))), (66, (dI v_91)), (85, .d (.b ((decide (x_98 < 48)) || ((decide (x_98 > 57)) || (decide (n_89 > 2251799813685248))))))]) ([]) ?_ (fun T1 H1 hw => ?_)
    ·refine rg ?_
     conv=>whnf
     refine condS_mk (fun hb103 => ?_) (fun hb103 => ?_)
     ·conv=>whnf
      exact Wk.mk2 [] 0 rfl rfl (by decide) rfl trivial ⟨rr, rr, rr, rr, rr, rr, rr, rr, rr, ⟨rfl, (by first | rfl | (simp only [↓hb6, ↓hb15, ↓hb18, ↓hb19, ↓hb20, ↓hb81, ↓hb82, ↓hb84, ↓hb97, ↓hb101, ↓hb103, bl]; done) | (simp only [↓hb6, ↓hb15, ↓hb18, ↓hb19, ↓hb20, ↓hb81, ↓hb82, ↓hb84, ↓hb97, ↓hb101, ↓hb103, bl]; rfl))⟩, trivial⟩
     conv=>whnf
     refine condS_mk (fun hb104 => ?_) (fun hb104 => ?_)
     ·conv=>whnf
      exact Wk.mk2 [] 0 rfl rfl (by decide) rfl trivial ⟨rr, rr, rr, rr, rr, rr, rr, rr, rr, ⟨rfl, (by first | rfl | (simp only [↓hb6, ↓hb15, ↓hb18, ↓hb19, ↓hb20, ↓hb81, ↓hb82, ↓hb84, ↓hb97, ↓hb101, ↓hb103, ↓hb104, bl]; done) | (simp only [↓hb6, ↓hb15, ↓hb18, ↓hb19, ↓hb20, ↓hb81, ↓hb82, ↓hb84, ↓hb97, ↓hb101, ↓hb103, ↓hb104, bl]; rfl))⟩, trivial⟩
     conv=>whnf
     exact Wk.mk2 [] 0 rfl rfl (by decide) rfl trivial ⟨rr, rr, rr, rr, rr, rr, rr, rr, rr, ⟨rfl, (by first | rfl | (simp only [↓hb6, ↓hb15, ↓hb18, ↓hb19, ↓hb20, ↓hb81, ↓hb82, ↓hb84, ↓hb97, ↓hb101, ↓hb103, ↓hb104, bl]; done) | (simp only [↓hb6, ↓hb15, ↓hb18, ↓hb19, ↓hb20, ↓hb81, ↓hb82, ↓hb84, ↓hb97, ↓hb101, ↓hb103, ↓hb104, bl]; rfl))⟩, trivial⟩
    conv=>whnf
    refine Tr.weak hw ?_
    refine Tr.cond ?_
    conv=>whnf
    refine cB h (fun hb105 h => ?_) (fun hb105 h => ?_)
    ·refine sg ?_
     conv=>whnf
     refine Tr.ret ?_
     conv=>whnf
     cases h
     rfl
    refine rg ?_
    conv=>whnf
    refine arS_raw ?_
    conv=>whnf
    refine arS_raw ?_
    conv=>whnf
    refine arS_raw ?_
    conv=>whnf
    refine arS_raw ?_
    conv=>whnf
    refine rg ?_
    conv=>whnf
    refine arS_raw ?_
    conv=>whnf
    refine ⟨((w64 ((w64 (10 * n_89)) + (w64 (IntKind.wrap .u8 (x_98 - 48))))), point_90, (w64 (v_91 + 1))), h, ?_⟩
    exact Wk.mk2 [] 0 rfl rfl (by decide) rfl trivial ⟨rr, rr, rr, rr, rr, rr, rr, rr, trivial⟩
   refine Tr.exit ?_
   conv=>whnf
   refine ⟨(n_89, point_90), h, ?_⟩
   exact Wk.mk2 [] 0 rfl rfl (by decide) rfl trivial ⟨rr, rr, rr, rr, rr, trivial⟩
  clear h
  rintro ⟨n_93, point_94⟩ h T1 H1 hw
  replace h : M74 a_1 s_85 n_93 point_94 = some r_3 := h
  conv=>whnf
  refine Tr.weak hw ?_
  unfold M74 at h
  refine Tr.seq ?_
  refine Tr.seq ?_
  obtain ⟨v_106, hv107, h⟩ := bS h
  refine Tr.cutQ1 ([(0, (dI a_1)), (4, .d (.b false)), (10, (dI n_93)), (114, .d (.b v_106))]) ([]) ?_ (fun T1 H1 hw => ?_)
  ·replace h := hv107; clear hv107
   refine rg ?_
   conv=>whnf
   refine cB h (fun hb108 h => ?_) (fun hb108 h => ?_)
   ·conv=>whnf
    cases h
    exact Wk.mk2 [] 0 rfl rfl (by decide) rfl trivial ⟨rr, rr, rr, rr, trivial⟩
   conv=>whnf
   refine arS_raw ?_
   conv=>whnf
   refine cB h (fun hb109 h => ?_) (fun hb109 h => ?_)
   ·conv=>whnf
    cases h
    exact Wk.mk2 [] 0 rfl rfl (by decide) rfl trivial ⟨rr, rr, rr, rr, trivial⟩
   conv=>whnf
   refine cB h (fun hb110 h => ?_) (fun hb110 h => ?_)
   ·conv=>whnf
    obtain ⟨x_111, hx_111, h⟩ := bS h
    refine idxS_of hx_111 ?_
    conv=>whnf
    cases h
    exact Wk.mk2 [] 0 rfl rfl (by decide) rfl trivial ⟨rr, rr, rr, rr, trivial⟩
   conv=>whnf
   cases h
   exact Wk.mk2 [] 0 rfl rfl (by decide) rfl trivial ⟨rr, rr, rr, rr, trivial⟩
  clear hv107
  conv=>whnf
  refine Tr.weak hw ?_
  refine Tr.cond ?_
  conv=>whnf
  refine cB h (fun hb112 h => ?_) (fun hb112 h => ?_)
  ·refine sg ?_
   conv=>whnf
   refine Tr.ret ?_
   conv=>whnf
   cases h
   rfl
  refine Tr.skip ?_
  conv=>whnf
  refine sg ?_
  conv=>whnf
  refine arS_raw ?_
  conv=>whnf
  refine Tr.ret ?_
  conv=>whnf
  cases h
  rfl
 refine Tr.skip ?_
 conv=>whnf
 refine sg ?_
 conv=>whnf
 refine Tr.seq ?_
 refine sg ?_
 conv=>whnf
 refine lsS_mk (es' := List.map (eK .u8) (bytS r_7)) (bytD_eq _) ?_
 conv=>whnf
 refine lnS_map ?_
 conv=>whnf
 refine Tr.cutQ (α := Int × Int) (fun s => ([(0, (dI a_1)), (4, .d (.b false)), (9, .d (.s r_7)), (10, (dI s.1)), (11, (dI s.2))], [])) (fun s => M76 a_1 r_7 s.1 s.2 = some r_3) ?_ ?_
 ·refine Tr.block ?_
  refine Tr.loopM (σ := Int × Int × Int) (fun n s => M75 r_7 (M76 a_1 r_7) n s.1 s.2.1 s.2.2) r_3 (fun s => ([(0, (dI a_1)), (4, .d (.b false)), (9, .d (.s r_7)), (10, (dI s.1)), (11, (dI s.2.1)), (64, .d (.ls (List.map (eK .u8) (bytS r_7)))), (65, (dI ((((bytS r_7)).length : Int)))), (66, (dI s.2.2))], [])) ((((((bytS r_7)).length : Int)) - 0 : Int).toNat + 1) (0, (-1), 0) h (fun s => rfl) (Wk.mk2 [] 0 rfl rfl (by decide) rfl trivial ⟨rr, rr, rr, rr, rr, rr, rr, rr, trivial⟩) ?_
  clear h
  rintro n_119 ⟨n_116, point_117, v_118⟩ h
  replace h : M75 r_7 (M76 a_1 r_7) (n_119 + 1) n_116 point_117 v_118 = some r_3 := h
  rw [M75] at h
  refine sg ?_
  conv=>whnf
  refine Tr.seq ?_
  refine Tr.cond ?_
  conv=>whnf
  refine cB h (fun hb124 h => ?_) (fun hb124 h => ?_)
  ·refine Tr.skip ?_
   conv=>whnf
   refine Tr.seq ?_
   refine Tr.block ?_
   refine sg ?_
   conv=>whnf
   obtain ⟨x_125, hx_125, h⟩ := bS h
   refine ixP_of hx_125 ?_
   conv=>whnf
   refine Tr.block ?_
   refine Tr.seq ?_
   refine Tr.cutQ1 ([(0, (dI a_1)), (4, .d (.b false)), (9, .d (.s r_7)), (10, (dI n_116)), (11, (dI point_117)), (12, (dI v_118)), (13, .d (.i .u8 x_125)), (64, .d (.ls (List.map (eK .u8) (bytS r_7)))), (65, (dI ((((bytS r_7)).length : Int)))), (66, (dI v_118)), (77, .d (.b ((x_125 == 46) && (decide (point_117 < 0)))))]) ([]) ?_ (fun T1 H1 hw => ?_)
   ·refine rg ?_
    conv=>whnf
    refine condS_mk (fun hb127 => ?_) (fun hb127 => ?_)
    ·conv=>whnf
     exact Wk.mk2 [] 0 rfl rfl (by decide) rfl trivial ⟨rr, rr, rr, rr, rr, rr, rr, rr, rr, rr, ⟨rfl, (by first | rfl | (simp only [↓hb6, ↓hb15, ↓hb18, ↓hb19, ↓hb20, ↓hb81, ↓hb124, ↓hb127, bl]; done) | (simp only [↓hb6, ↓hb15, ↓hb18, ↓hb19, ↓hb20, ↓hb81, ↓hb124, ↓hb127, bl]; rfl))⟩, trivial⟩
    conv=>whnf
    exact Wk.mk2 [] 0 rfl rfl (by decide) rfl trivial ⟨rr, rr, rr, rr, rr, rr, rr, rr, rr, rr, ⟨rfl, (by first | rfl | (simp only [↓hb6, ↓hb15, ↓hb18, ↓hb19, ↓hb20, ↓hb81, ↓hb124, ↓hb127, bl]; done) | (simp only [↓hb6, ↓hb15, ↓hb18, ↓hb19, ↓hb20, ↓hb81, ↓hb124, ↓hb127, bl]; rfl))⟩, trivial⟩
   conv=>whnf
   refine Tr.weak hw ?_
   refine Tr.cond ?_
   conv=>whnf
   refine cB h (fun hb128 h => ?_) (fun hb128 h => ?_)
   ·refine rg ?_
    conv=>whnf
    refine rg ?_
    conv=>whnf
    refine arS_raw ?_
    conv=>whnf
    refine ⟨(n_116, v_118, (w64 (v_118 + 1))), h, ?_⟩
    exact Wk.mk2 [] 0 rfl rfl (by decide) rfl trivial ⟨rr, rr, rr, rr, rr, rr, rr, rr, trivial⟩
   refine Tr.seq ?_
   refine Tr.cutQ1 ([(0, (dI a_1)), (4, .d (.b false)), (9, .d (.s r_7)), (10, (dI n_116)), (11, (dI point_117)), (13, .d (.i .u8 x_125)), (64, .d (.ls (List.map (eK .u8) (bytS r_7)))), (65, (dI ((((bytS r_7)).length : Int)))), (66, (dI v_118)), (85, .d (.b ((decide (x_125 < 48)) || ((decide (x_125 > 57)) || (decide (n_116 > 2251799813685248))))))]) ([]) ?_ (fun T1 H1 hw => ?_)
   ·refine rg ?_
    conv=>whnf
    refine condS_mk (fun hb130 => ?_) (fun hb130 => ?_)
    ·conv=>whnf
     exact Wk.mk2 [] 0 rfl rfl (by decide) rfl trivial ⟨rr, rr, rr, rr, rr, rr, rr, rr, rr, ⟨rfl, (by first | rfl | (simp only [↓hb6, ↓hb15, ↓hb18, ↓hb19, ↓hb20, ↓hb81, ↓hb124, ↓hb128, ↓hb130, bl]; done) | (simp only [↓hb6, ↓hb15, ↓hb18, ↓hb19, ↓hb20, ↓hb81, ↓hb124, ↓hb128, ↓hb130, bl]; rfl))⟩, trivial⟩
    conv=>whnf
    refine condS_mk (fun hb131 => ?_) (fun hb131 => ?_)
    ·conv=>whnf
     exact Wk.mk2 [] 0 rfl rfl (by decide) rfl trivial ⟨rr, rr, rr, rr, rr, rr, rr, rr, rr, ⟨rfl, (by first | rfl | (simp only [↓hb6, ↓hb15, ↓hb18, ↓hb19, ↓hb20, ↓hb81, ↓hb124, ↓hb128, ↓hb130, ↓hb131, bl]; done) | (simp only [↓hb6, ↓hb15, ↓hb18, ↓hb19, ↓hb20, ↓hb81, ↓hb124, ↓hb128, ↓hb130, ↓hb131, bl]; rfl))⟩, trivial⟩
    conv=>whnf
    exact Wk.mk2 [] 0 rfl rfl (by decide) rfl trivial ⟨rr, rr, rr, rr, rr, rr, rr, rr, rr, ⟨rfl, (by first | rfl | (simp only [↓hb6, ↓hb15, ↓hb18, ↓hb19, ↓hb20, ↓hb81, ↓hb124, ↓hb128, ↓hb130, ↓hb131, bl]; done) | (simp only [↓hb6, ↓hb15, ↓hb18, ↓hb19, ↓hb20, ↓hb81, ↓hb124, ↓hb128, ↓hb130, ↓hb131, bl]; rfl))⟩, trivial⟩
   conv=>whnf
   refine Tr.weak hw ?_
   refine Tr.cond ?_
   conv=>whnf
   refine cB h (fun hb132 h => ?_) (fun hb132 h => ?_)
   ·refine sg ?_
    conv=>whnf
    refine Tr.ret ?_
    conv=>whnf
    cases h
    rfl
   refine rg ?_
   conv=>whnf
   refine arS_raw ?_
   conv=>whnf
   refine arS_raw ?_
   conv=>whnf
   refine arS_raw ?_
   conv=>whnf
   refine arS_raw ?_
   conv=>whnf
   refine rg ?_
   conv=>whnf
   refine arS_raw ?_
   conv=>whnf
   refine ⟨((w64 ((w64 (10 * n_116)) + (w64 (IntKind.wrap .u8 (x_125 - 48))))), point_117, (w64 (v_118 + 1))), h, ?_⟩
   exact Wk.mk2 [] 0 rfl rfl (by decide) rfl trivial ⟨rr, rr, rr, rr, rr, rr, rr, rr, trivial⟩
  refine Tr.exit ?_
  conv=>whnf
  refine ⟨(n_116, point_117), h, ?_⟩
  exact Wk.mk2 [] 0 rfl rfl (by decide) rfl trivial ⟨rr, rr, rr, rr, rr, trivial⟩
 clear h
 rintro ⟨n_120, point_121⟩ h T1 H1 hw
 replace h : M76 a_1 r_7 n_120 point_121 = some r_3 := h
 conv=>whnf
 refine Tr.weak hw ?_
 unfold M76 at h
 refine Tr.seq ?_
 refine Tr.seq ?_
 obtain ⟨v_133, hv134, h⟩ := bS h
 refine Tr.cutQ1 ([(0, (dI a_1)), (4, .d (.b false)), (10, (dI n_120)), (114, .d (.b v_133))]) ([]) ?_ (fun T1 H1 hw => ?_)
 ·replace h := hv134; clear hv134
  refine rg ?_
  conv=>whnf
  refine cB h (fun hb135 h => ?_) (fun hb135 h => ?_)
  ·conv=>whnf
   cases h
   exact Wk.mk2 [] 0 rfl rfl (by decide) rfl trivial ⟨rr, rr, rr, rr, trivial⟩
  conv=>whnf
  refine arS_raw ?_
  conv=>whnf
  refine cB h (fun hb136 h => ?_) (fun hb136 h => ?_)
  ·conv=>whnf
   cases h
   exact Wk.mk2 [] 0 rfl rfl (by decide) rfl trivial ⟨rr, rr, rr, rr, trivial⟩
  conv=>whnf
  refine cB h (fun hb137 h => ?_) (fun hb137 h => ?_)
  ·conv=>whnf
   obtain ⟨x_138, hx_138, h⟩ := bS h
   refine idxS_of hx_138 ?_
   conv=>whnf
   cases h
   exact Wk.mk2 [] 0 rfl rfl (by decide) rfl trivial ⟨rr, rr, rr, rr, trivial⟩
  conv=>whnf
  cases h
  exact Wk.mk2 [] 0 rfl rfl (by decide) rfl trivial ⟨rr, rr, rr, rr, trivial⟩
 clear hv134
 conv=>whnf
 refine Tr.weak hw ?_
 refine Tr.cond ?_
 conv=>whnf
 refine cB h (fun hb139 h => ?_) (fun hb139 h => ?_)
 ·refine sg ?_
  conv=>whnf
  refine Tr.ret ?_
  conv=>whnf
  cases h
  rfl
 refine Tr.skip ?_
 conv=>whnf
 refine sg ?_
 conv=>whnf
 refine arS_raw ?_
 conv=>whnf
 refine Tr.ret ?_
 conv=>whnf
 cases h
 rfl
end Go.Proofs.Tryd
