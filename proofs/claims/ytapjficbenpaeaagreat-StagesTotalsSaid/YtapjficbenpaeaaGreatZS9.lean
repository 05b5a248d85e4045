/- Contracts of functions, by program (gen.py). No condition. -/
import Derived.Test.YtapjficbenpaeaaGreatZL
import Derived.Test.YtapjficbenpaeaaGreatZM
import Derived.Test.YtapjficbenpaeaaGreatZCB
import Derived.Test.YtapjficbenpaeaaGreatZS8
namespace Go.Proofs.Tryz
open Go Go.Abs Go.Stop
set_option maxRecDepth 8000
set_option linter.unusedVariables false
set_option linter.unusedSimpArgs false
theorem P210 (t_1 : TTotal) (r_2 : Int) (h : M210 t_1 = some r_2) :
    PC prog 54 [(eTTotal t_1)] (fun rs => rs = [(.i .i64 r_2)]) := by
 refine PC.of_tr (cx := ⟨5, none, lay, 0⟩) layOK func54 rfl rfl rfl rfl rfl (by simp [f54]) ?_
 unfold M210 at h
 refine sg ?_
 conv=>whnf
 refine sg ?_
 conv=>whnf
 refine Tr.ret ?_
 conv=>whnf
 cases h
 rfl
theorem P212 (l_1 : List TTotal) (c_2 : List TTotal) (r_3 : List Int) (h : M212 l_1 c_2 = some r_3) :
    PC prog 53 [(.ls (List.map eTTotal l_1)), (.fn 54 []), (.fn 55 [(.ro [(.ls (List.map eTTotal c_2))])])] (fun rs => rs = [(.ls (List.map eI r_3))]) := by
 refine PC.of_tr (cx := ⟨27, none, lay, 0⟩) layOK func53 rfl rfl rfl rfl rfl (by simp [f53]) ?_
 unfold M212 at h
 refine sg ?_
 conv=>whnf
 refine Tr.seq ?_
 refine sg ?_
 conv=>whnf
 refine lnS_map ?_
 conv=>whnf
 obtain ⟨l_9, hv20, h⟩ := bS h
 refine Tr.cutQ1 ([(6, .sl 0 1 0 (List.length l_9))]) ([some (.arr 1 (List.map .d (List.map eI l_9)))]) ?_ (fun T1 H1 hw => ?_)
 ·replace h := hv20; clear hv20
  refine Tr.block ?_
  refine Tr.loopM (σ := Int × List Int) (fun n s => M211 l_1 c_2 n s.1 s.2) l_9 (fun s => ([(1, .d (.fn 54 [])), (2, .d (.fn 55 [(.ro [(.ls (List.map eTTotal c_2))])])), (6, .sl 0 1 0 (List.length s.2)), (9, .d (.ls (List.map eTTotal l_1))), (10, (dI (((l_1).length : Int)))), (11, (dI s.1))], [some (.arr 1 (List.map .d (List.map eI s.2)))])) (((((l_1).length : Int)) - 0 : Int).toNat + 1) (0, (([] : List Int))) h (fun s => rfl) (Wk.mk2 [0] 0 rfl rfl (by decide) rfl ⟨rfl, trivial⟩ ⟨rr, rr, ⟨rfl, (by first | rfl | simp)⟩, rr, rr, rr, trivial⟩) ?_
  clear h
  rintro n_8 ⟨v_6, l_7⟩ h
  replace h : M211 l_1 c_2 (n_8 + 1) v_6 l_7 = some l_9 := h
  rw [M211] at h
  refine sg ?_
  conv=>whnf
  refine Tr.seq ?_
  refine Tr.cond ?_
  conv=>whnf
  refine cB h (fun hb12 h => ?_) (fun hb12 h => ?_)
  ·refine Tr.skip ?_
   conv=>whnf
   refine Tr.seq ?_
   refine Tr.block ?_
   refine sg ?_
   conv=>whnf
   obtain ⟨x_13, hx_13, h⟩ := bS h
   refine ixP_of hx_13 ?_
   conv=>whnf
   refine sg ?_
   conv=>whnf
   obtain ⟨r_14, hc15, h⟩ := bS h
   refine PC.ecall (P209 v_6 c_2 r_14 hc15) (fun rs hrs => ?_)
   subst hrs
   conv=>whnf
   refine Tr.cond ?_
   conv=>whnf
   refine cB h (fun hb16 h => ?_) (fun hb16 h => ?_)
   ·refine rg ?_
    conv=>whnf
    obtain ⟨r_17, hc18, h⟩ := bS h
    refine PC.ecall (P210 x_13 r_17 hc18) (fun rs hrs => ?_)
    subst hrs
    conv=>whnf
    refine orB_r ?_
    conv=>whnf
    refine frP_no ?_
    conv=>whnf
    refine eqS_mk (by first | rfl | simp) ?_
    conv=>whnf
    obtain ⟨l_19, hl_19, h⟩ := bS h
    refine apS_of hl_19 (aQ (f := eI) (l := (([r_17] : List Int))) fun _ => rfl) (by first | rfl | simp) (by first | rfl | simp) (fun he => ?_)
    conv=>whnf
    refine rS (es' := List.map .d (List.map eI l_19)) (n' := List.length l_19) (by subst he; simp only [List.map_append, List.map_cons, List.map_nil, List.nil_append]; first | done | rfl) (by subst he; simp <;> omega) ?_
    clear he
    conv=>whnf
    refine rg ?_
    conv=>whnf
    refine arS_raw ?_
    conv=>whnf
    refine ⟨((w64 (v_6 + 1)), l_19), h, ?_⟩
    exact Wk.mk2 [2] 3 rfl rfl (by decide) rfl ⟨daS_d rfl, trivial⟩ ⟨rr, rr, ⟨rfl, (by first | rfl | (simp only [↓hb12, ↓hb16, bl]; done) | (simp only [↓hb12, ↓hb16, bl]; rfl))⟩, rr, rr, rr, trivial⟩
   refine Tr.skip ?_
   conv=>whnf
   refine rg ?_
   conv=>whnf
   refine arS_raw ?_
   conv=>whnf
   refine ⟨((w64 (v_6 + 1)), l_7), h, ?_⟩
   exact Wk.mk2 [0] 2 rfl rfl (by decide) rfl ⟨daS_d rfl, trivial⟩ ⟨rr, rr, rr, rr, rr, rr, trivial⟩
  refine Tr.exit ?_
  conv=>whnf
  cases h
  exact Wk.mk2 [0] 1 rfl rfl (by decide) rfl ⟨daS_d rfl, trivial⟩ ⟨rr, trivial⟩
 clear hv20
 conv=>whnf
 refine Tr.weak hw ?_
 refine sg ?_
 conv=>whnf
 refine Tr.ret ?_
 conv=>whnf
 refine frE_of (f := eI) (l := l_9) rfl ?_
 conv=>whnf
 cases h
 rfl
theorem P213 (l_1 : List TTotal) (r_2 : List Int) (r_3 : Int) (h : M213 l_1 = some (r_2, r_3)) :
    PC prog 23 [(.ls (List.map eTTotal l_1))] (fun rs => rs = [(.ls (List.map eI r_2)), (.i .i64 r_3)]) := by
 refine PC.of_tr (cx := ⟨10, none, lay, 0⟩) layOK func23 rfl rfl rfl rfl rfl (by simp [f23]) ?_
 unfold M213 at h
 refine sg ?_
 conv=>whnf
 refine Tr.seq ?_
 refine sg ?_
 conv=>whnf
 obtain ⟨r_4, hc5, h⟩ := bS h
 refine PC.ecall (P202 l_1 r_4 hc5) (fun rs hrs => ?_)
 subst hrs
 conv=>whnf
 refine Tr.cond ?_
 conv=>whnf
 refine cB h (fun hb6 h => ?_) (fun hb6 h => ?_)
 ·refine sg ?_
  conv=>whnf
  refine Tr.ret ?_
  conv=>whnf
  cases h
  rfl
 refine Tr.skip ?_
 conv=>whnf
 refine Tr.seq ?_
 refine Tr.frz 1 ?_
 conv=>whnf
 refine rg ?_
 conv=>whnf
 obtain ⟨r_7, hc8, h⟩ := bS h
 refine PC.ecall (P212 l_1 l_1 r_7 hc8) (fun rs hrs => ?_)
 subst hrs
 conv=>whnf
 refine Tr.ret ?_
 conv=>whnf
 cases h
 rfl
theorem P214 (h : M214 = some ()) :
    PC prog 61 [] (fun rs => rs = [(.ag [(.fn 89 [])])]) := by
 refine PC.of_tr (cx := ⟨2, none, lay, 0⟩) layOK func61 rfl rfl rfl rfl rfl (by simp [f61]) ?_
 unfold M214 at h
 refine sg ?_
 conv=>whnf
 refine sg ?_
 conv=>whnf
 refine Tr.ret ?_
 conv=>whnf
theorem P215 (a_1 : TTotal) (b_2 : TTotal) (r_3 : Bool) (h : M215 a_1 b_2 = some r_3) :
    PC prog 89 [(eTTotal a_1), (eTTotal b_2)] (fun rs => rs = [(.b r_3)]) := by
 refine PC.of_tr (cx := ⟨10, none, lay, 0⟩) layOK func89 rfl rfl rfl rfl rfl (by simp [f89]) ?_
 unfold M215 at h
 refine sg ?_
 conv=>whnf
 refine sd [] [(0,3),(1,1),(2,4),(3,1),(4,1),(5,1)] ?_
 conv=>whnf
 refine q2 ?_
 conv=>whnf
 obtain ⟨r_4, hc5, h⟩ := bS h
 refine q1 ?_ (fun _ => pe (P205 a_1 r_4 hc5) rr)
 conv=>whnf
 refine q2 ?_
 conv=>whnf
 obtain ⟨r_6, hc7, h⟩ := bS h
 refine q1 ?_ (fun _ => pe (P204 b_2 r_6 hc7) rr)
 conv=>whnf
 refine q1 ?_
 conv=>whnf
 refine q1 ?_
 conv=>whnf
 refine Tr.ret ?_
 conv=>whnf
 cases h
 rfl
theorem P217 (l_1 : List TTotal) (at_2 : Int) (r_3 : Int) (h : M217 l_1 at_2 = some r_3) :
    PC prog 58 [(.ag [(.fn 89 [])]), (.ls (List.map eTTotal l_1)), (.i .i64 at_2)] (fun rs => rs = [(.i .i64 r_3)]) := by
 refine PC.of_tr (cx := ⟨37, none, lay, 0⟩) layOK func58 rfl rfl rfl rfl rfl (by simp [f58]) ?_
 unfold M217 at h
 refine sg ?_
 conv=>whnf
 refine Tr.seq ?_
 refine sg ?_
 conv=>whnf
 refine lnS_map ?_
 conv=>whnf
 obtain ⟨n_9, hv24, h⟩ := bS h
 refine Tr.cutQ1 ([(6, (dI n_9))]) ([]) ?_ (fun T1 H1 hw => ?_)
 ·replace h := hv24; clear hv24
  refine Tr.block ?_
  refine Tr.loopM (σ := Int × Int) (fun n s => M216 l_1 at_2 n s.1 s.2) n_9 (fun s => ([(1, .d (.ls (List.map eTTotal l_1))), (2, (dI at_2)), (3, .pt 0 0), (6, (dI s.1)), (9, .d (.ls (List.map eTTotal l_1))), (10, (dI (((l_1).length : Int)))), (11, (dI s.2))], [some (.var [.d (.fn 89 [])])])) (((((l_1).length : Int)) - 0 : Int).toNat + 1) (0, 0) h (fun s => rfl) (Wk.mk2 [0] 1 rfl rfl (by decide) rfl ⟨rr, trivial⟩ ⟨rr, rr, rr, rr, rr, rr, rr, trivial⟩) ?_
  clear h
  rintro n_8 ⟨n_6, v_7⟩ h
  replace h : M216 l_1 at_2 (n_8 + 1) n_6 v_7 = some n_9 := h
  rw [M216] at h
  refine sg ?_
  conv=>whnf
  refine Tr.seq ?_
  refine Tr.cond ?_
  conv=>whnf
  refine cB h (fun hb12 h => ?_) (fun hb12 h => ?_)
  ·refine Tr.skip ?_
   conv=>whnf
   refine Tr.seq ?_
   obtain ⟨n_13, hv14, h⟩ := bS h
   refine Tr.cutQ1 ([(1, .d (.ls (List.map eTTotal l_1))), (2, (dI at_2)), (3, .pt 0 0), (6, (dI n_13)), (9, .d (.ls (List.map eTTotal l_1))), (10, (dI (((l_1).length : Int)))), (11, (dI v_7))]) ([some (.var [.d (.fn 89 [])])]) ?_ (fun T1 H1 hw => ?_)
   ·replace h := hv14; clear hv14
    refine Tr.block ?_
    refine sg ?_
    conv=>whnf
    obtain ⟨x_15, hx_15, h⟩ := bS h
    refine ixP_of hx_15 ?_
    conv=>whnf
    refine sd [] [(0,1),(1,1),(2,1),(3,1),(4,4),(5,1),(6,1),(7,1),(8,3),(9,3),(10,4),(11,1),(12,1),(13,2),(14,2),(15,1),(16,1)] ?_
    conv=>whnf
    refine q1 ?_
    conv=>whnf
    refine q1 ?_
    conv=>whnf
    refine q1 ?_
    conv=>whnf
    refine q1 ?_
    conv=>whnf
    refine cB h (fun hb16 h => ?_) (fun hb16 h => ?_)
    ·conv=>whnf
     refine q2 ?_
     conv=>whnf
     obtain ⟨r_17, hc18, h⟩ := bS h
     refine q1 ?_ (fun _ => pe (P199 x_15 r_17 hc18) rr)
     conv=>whnf
     refine q1 ?_
     conv=>whnf
     refine q1 ?_
     conv=>whnf
     refine cB h (fun hb19 h => ?_) (fun hb19 h => ?_)
     ·conv=>whnf
      refine q2 ?_
      conv=>whnf
      refine q2 ?_
      conv=>whnf
      refine q2 ?_
      conv=>whnf
      refine q1 ?_
      conv=>whnf
      refine q1 ?_
      conv=>whnf
      obtain ⟨x_20, hx_20, h⟩ := bS h
      refine q3 (ixP_of hx_20 rr) ?_
      conv=>whnf
      refine q2 ?_
      conv=>whnf
      obtain ⟨r_21, hc22, h⟩ := bS h
      refine q1 ?_ (fun _ => pe (P215 x_15 x_20 r_21 hc22) rr)
      conv=>whnf
      refine q1 ?_
      conv=>whnf
      refine Tr.cond ?_
      conv=>whnf
      refine cB h (fun hb23 h => ?_) (fun hb23 h => ?_)
      ·refine rg ?_
       conv=>whnf
       refine arS_raw ?_
       conv=>whnf
       cases h
       exact Wk.mk2 [0] 2 rfl rfl (by decide) rfl ⟨rr, trivial⟩ ⟨rr, rr, rr, rr, rr, rr, rr, trivial⟩
      refine Tr.skip ?_
      conv=>whnf
      cases h
      exact Wk.mk2 [0] 2 rfl rfl (by decide) rfl ⟨rr, trivial⟩ ⟨rr, rr, rr, rr, rr, rr, rr, trivial⟩
     conv=>whnf
     refine q1 ?_
     conv=>whnf
     refine Tr.cond ?_
     conv=>whnf
     refine Tr.skip ?_
     conv=>whnf
     cases h
     exact Wk.mk2 [0] 2 rfl rfl (by decide) rfl ⟨rr, trivial⟩ ⟨rr, rr, rr, rr, rr, rr, rr, trivial⟩
    conv=>whnf
    refine q1 ?_
    conv=>whnf
    refine q1 ?_
    conv=>whnf
    refine q1 ?_
    conv=>whnf
    refine Tr.cond ?_
    conv=>whnf
    refine Tr.skip ?_
    conv=>whnf
    cases h
    exact Wk.mk2 [0] 2 rfl rfl (by decide) rfl ⟨rr, trivial⟩ ⟨rr, rr, rr, rr, rr, rr, rr, trivial⟩
   clear hv14
   conv=>whnf
   refine Tr.weak hw ?_
   refine rg ?_
   conv=>whnf
   refine arS_raw ?_
   conv=>whnf
   refine ⟨(n_13, (w64 (v_7 + 1))), h, ?_⟩
   exact Wk.mk2 [0] 1 rfl rfl (by decide) rfl ⟨rr, trivial⟩ ⟨rr, rr, rr, rr, rr, rr, rr, trivial⟩
  refine Tr.exit ?_
  conv=>whnf
  cases h
  exact Wk.mk2 [] 1 rfl rfl (by decide) rfl trivial ⟨rr, trivial⟩
 clear hv24
 conv=>whnf
 refine Tr.weak hw ?_
 refine sg ?_
 conv=>whnf
 refine Tr.ret ?_
 conv=>whnf
 cases h
 rfl
theorem P218 (i_1 : Int) (c_2 : List TTotal) (c_3 : Int) (r_4 : Bool) (h : M218 i_1 c_2 c_3 = some r_4) :
    PC prog 60 [(.i .i64 i_1), (.ro [(.ls (List.map eTTotal c_2))]), (.ro [(.i .i64 c_3)])] (fun rs => rs = [(.b r_4)]) := by
 refine PC.of_tr (cx := ⟨26, none, lay, 0⟩) layOK func60 rfl rfl rfl rfl rfl (by simp [f60]) ?_
 unfold M218 at h
 refine sg ?_
 conv=>whnf
 refine sd [] [(0,2),(1,1),(2,2),(3,2),(4,1),(5,1),(6,2),(7,1),(8,2),(9,2),(10,2),(11,1),(12,1),(13,1),(14,1),(15,2),(16,1),(17,1),(18,2),(19,1),(20,1),(21,1)] ?_
 conv=>whnf
 refine q2 ?_
 conv=>whnf
 refine q1 ?_
 conv=>whnf
 obtain ⟨x_5, hx_5, h⟩ := bS h
 refine q3 (ixP_of hx_5 rr) ?_
 conv=>whnf
 refine q2 ?_
 conv=>whnf
 obtain ⟨r_6, hc7, h⟩ := bS h
 refine q1 ?_ (fun _ => pe (P199 x_5 r_6 hc7) rr)
 conv=>whnf
 refine q1 ?_
 conv=>whnf
 refine cB h (fun hb8 h => ?_) (fun hb8 h => ?_)
 ·conv=>whnf
  refine q2 ?_
  conv=>whnf
  refine q1 ?_
  conv=>whnf
  obtain ⟨x_9, hx_9, h⟩ := bS h
  refine q3 (ixP_of hx_9 rr) ?_
  conv=>whnf
  refine q2 ?_
  conv=>whnf
  refine q2 ?_
  conv=>whnf
  refine q1 ?_
  conv=>whnf
  refine q1 ?_
  conv=>whnf
  refine q1 ?_
  conv=>whnf
  refine cB h (fun hb10 h => ?_) (fun hb10 h => ?_)
  ·conv=>whnf
   obtain ⟨_, hc11, h⟩ := bS h
   refine q1 ?_ (fun _ => pe (P214  hc11) rr)
   conv=>whnf
   refine q2 ?_
   conv=>whnf
   refine q1 ?_
   conv=>whnf
   obtain ⟨r_12, hc13, h⟩ := bS h
   refine q1 ?_ (fun _ => pe (P217 c_2 i_1 r_12 hc13) rr)
   conv=>whnf
   refine q2 ?_
   conv=>whnf
   refine q1 ?_
   conv=>whnf
   refine q1 ?_
   conv=>whnf
   refine q1 ?_
   conv=>whnf
   refine Tr.ret ?_
   conv=>whnf
   cases h
   rfl
  conv=>whnf
  refine q1 ?_
  conv=>whnf
  refine q1 ?_
  conv=>whnf
  refine Tr.ret ?_
  conv=>whnf
  cases h
  rfl
 conv=>whnf
 refine q1 ?_
 conv=>whnf
 refine q1 ?_
 conv=>whnf
 refine q1 ?_
 conv=>whnf
 refine q1 ?_
 conv=>whnf
 refine Tr.ret ?_
 conv=>whnf
 cases h
 rfl
theorem P220 (l_1 : List TTotal) (c_2 : List TTotal) (c_3 : Int) (r_4 : List Int) (h : M220 l_1 c_2 c_3 = some r_4) :
    PC prog 53 [(.ls (List.map eTTotal l_1)), (.fn 54 []), (.fn 60 [(.ro [(.ls (List.map eTTotal c_2))]), (.ro [(.i .i64 c_3)])])] (fun rs => rs = [(.ls (List.map eI r_4))]) := by
 refine PC.of_tr (cx := ⟨27, none, lay, 0⟩) layOK func53 rfl rfl rfl rfl rfl (by simp [f53]) ?_
 unfold M220 at h
 refine sg ?_
 conv=>whnf
 refine Tr.seq ?_
 refine sg ?_
 conv=>whnf
 refine lnS_map ?_
 conv=>whnf
 obtain ⟨l_10, hv21, h⟩ := bS h
 refine Tr.cutQ1 ([(6, .sl 0 1 0 (List.length l_10))]) ([some (.arr 1 (List.map .d (List.map eI l_10)))]) ?_ (fun T1 H1 hw => ?_)
 ·replace h := hv21; clear hv21
  refine Tr.block ?_
  refine Tr.loopM (σ := Int × List Int) (fun n s => M219 l_1 c_2 c_3 n s.1 s.2) l_10 (fun s => ([(1, .d (.fn 54 [])), (2, .d (.fn 60 [(.ro [(.ls (List.map eTTotal c_2))]), (.ro [(.i .i64 c_3)])])), (6, .sl 0 1 0 (List.length s.2)), (9, .d (.ls (List.map eTTotal l_1))), (10, (dI (((l_1).length : Int)))), (11, (dI s.1))], [some (.arr 1 (List.map .d (List.map eI s.2)))])) (((((l_1).length : Int)) - 0 : Int).toNat + 1) (0, (([] : List Int))) h (fun s => rfl) (Wk.mk2 [0] 0 rfl rfl (by decide) rfl ⟨rfl, trivial⟩ ⟨rr, rr, ⟨rfl, (by first | rfl | simp)⟩, rr, rr, rr, trivial⟩) ?_
  clear h
  rintro n_9 ⟨v_7, l_8⟩ h
  replace h : M219 l_1 c_2 c_3 (n_9 + 1) v_7 l_8 = some l_10 := h
  rw [M219] at h
  refine sg ?_
  conv=>whnf
  refine Tr.seq ?_
  refine Tr.cond ?_
  conv=>whnf
  refine cB h (fun hb13 h => ?_) (fun hb13 h => ?_)
  ·refine Tr.skip ?_
   conv=>whnf
   refine Tr.seq ?_
   refine Tr.block ?_
   refine sg ?_
   conv=>whnf
   obtain ⟨x_14, hx_14, h⟩ := bS h
   refine ixP_of hx_14 ?_
   conv=>whnf
   refine sg ?_
   conv=>whnf
   obtain ⟨r_15, hc16, h⟩ := bS h
   refine PC.ecall (P218 v_7 c_2 c_3 r_15 hc16) (fun rs hrs => ?_)
   subst hrs
   conv=>whnf
   refine Tr.cond ?_
   conv=>whnf
   refine cB h (fun hb17 h => ?_) (fun hb17 h => ?_)
   ·refine rg ?_
    conv=>whnf
    obtain ⟨r_18, hc19, h⟩ := bS h
    refine PC.ecall (P210 x_14 r_18 hc19) (fun rs hrs => ?_)
    subst hrs
    conv=>whnf
    refine orB_r ?_
    conv=>whnf
    refine frP_no ?_
    conv=>whnf
    refine eqS_mk (by first | rfl | simp) ?_
    conv=>whnf
    obtain ⟨l_20, hl_20, h⟩ := bS h
    refine apS_of hl_20 (aQ (f := eI) (l := (([r_18] : List Int))) fun _ => rfl) (by first | rfl | simp) (by first | rfl | simp) (fun he => ?_)
    conv=>whnf
    refine rS (es' := List.map .d (List.map eI l_20)) (n' := List.length l_20) (by subst he; simp only [List.map_append, List.map_cons, List.map_nil, List.nil_append]; first | done | rfl) (by subst he; simp <;> omega) ?_
    clear he
    conv=>whnf
    refine rg ?_
    conv=>whnf
    refine arS_raw ?_
    conv=>whnf
    refine ⟨((w64 (v_7 + 1)), l_20), h, ?_⟩
    exact Wk.mk2 [2] 3 rfl rfl (by decide) rfl ⟨daS_d rfl, trivial⟩ ⟨rr, rr, ⟨rfl, (by first | rfl | (simp only [↓hb13, ↓hb17, bl]; done) | (simp only [↓hb13, ↓hb17, bl]; rfl))⟩, rr, rr, rr, trivial⟩
   refine Tr.skip ?_
   conv=>whnf
   refine rg ?_
   conv=>whnf
   refine arS_raw ?_
   conv=>whnf
   refine ⟨((w64 (v_7 + 1)), l_8), h, ?_⟩
   exact Wk.mk2 [0] 2 rfl rfl (by decide) rfl ⟨daS_d rfl, trivial⟩ ⟨rr, rr, rr, rr, rr, rr, trivial⟩
  refine Tr.exit ?_
  conv=>whnf
  cases h
  exact Wk.mk2 [0] 1 rfl rfl (by decide) rfl ⟨daS_d rfl, trivial⟩ ⟨rr, trivial⟩
 clear hv21
 conv=>whnf
 refine Tr.weak hw ?_
 refine sg ?_
 conv=>whnf
 refine Tr.ret ?_
 conv=>whnf
 refine frE_of (f := eI) (l := l_10) rfl ?_
 conv=>whnf
 cases h
 rfl
theorem P221 (i_1 : Int) (c_2 : List TTotal) (c_3 : Int) (r_4 : Bool) (h : M221 i_1 c_2 c_3 = some r_4) :
    PC prog 62 [(.i .i64 i_1), (.ro [(.ls (List.map eTTotal c_2))]), (.ro [(.i .i64 c_3)])] (fun rs => rs = [(.b r_4)]) := by
 refine PC.of_tr (cx := ⟨18, none, lay, 0⟩) layOK func62 rfl rfl rfl rfl rfl (by simp [f62]) ?_
 unfold M221 at h
 refine sg ?_
 conv=>whnf
 refine sd [] [(0,2),(1,1),(2,2),(3,2),(4,1),(5,1),(6,1),(7,2),(8,1),(9,1),(10,2),(11,1),(12,1),(13,1)] ?_
 conv=>whnf
 refine q2 ?_
 conv=>whnf
 refine q1 ?_
 conv=>whnf
 obtain ⟨x_5, hx_5, h⟩ := bS h
 refine q3 (ixP_of hx_5 rr) ?_
 conv=>whnf
 refine q2 ?_
 conv=>whnf
 obtain ⟨r_6, hc7, h⟩ := bS h
 refine q1 ?_ (fun _ => pe (P199 x_5 r_6 hc7) rr)
 conv=>whnf
 refine q1 ?_
 conv=>whnf
 refine cB h (fun hb8 h => ?_) (fun hb8 h => ?_)
 ·conv=>whnf
  obtain ⟨_, hc9, h⟩ := bS h
  refine q1 ?_ (fun _ => pe (P203  hc9) rr)
  conv=>whnf
  refine q2 ?_
  conv=>whnf
  refine q1 ?_
  conv=>whnf
  obtain ⟨r_10, hc11, h⟩ := bS h
  refine q1 ?_ (fun _ => pe (P208 c_2 i_1 r_10 hc11) rr)
  conv=>whnf
  refine q2 ?_
  conv=>whnf
  refine q1 ?_
  conv=>whnf
  refine q1 ?_
  conv=>whnf
  refine q1 ?_
  conv=>whnf
  refine Tr.ret ?_
  conv=>whnf
  cases h
  rfl
 conv=>whnf
 refine q1 ?_
 conv=>whnf
 refine q1 ?_
 conv=>whnf
 refine Tr.ret ?_
 conv=>whnf
 cases h
 rfl
theorem P223 (l_1 : List TTotal) (c_2 : List TTotal) (c_3 : Int) (r_4 : List Int) (h : M223 l_1 c_2 c_3 = some r_4) :
    PC prog 53 [(.ls (List.map eTTotal l_1)), (.fn 54 []), (.fn 62 [(.ro [(.ls (List.map eTTotal c_2))]), (.ro [(.i .i64 c_3)])])] (fun rs => rs = [(.ls (List.map eI r_4))]) := by
 refine PC.of_tr (cx := ⟨27, none, lay, 0⟩) layOK func53 rfl rfl rfl rfl rfl (by simp [f53]) ?_
 unfold M223 at h
 refine sg ?_
 conv=>whnf
 refine Tr.seq ?_
 refine sg ?_
 conv=>whnf
 refine lnS_map ?_
 conv=>whnf
 obtain ⟨l_10, hv21, h⟩ := bS h
 refine Tr.cutQ1 ([(6, .sl 0 1 0 (List.length l_10))]) ([some (.arr 1 (List.map .d (List.map eI l_10)))]) ?_ (fun T1 H1 hw => ?_)
 ·replace h := hv21; clear hv21
  refine Tr.block ?_
  refine Tr.loopM (σ := Int × List Int) (fun n s => M222 l_1 c_2 c_3 n s.1 s.2) l_10 (fun s => ([(1, .d (.fn 54 [])), (2, .d (.fn 62 [(.ro [(.ls (List.map eTTotal c_2))]), (.ro [(.i .i64 c_3)])])), (6, .sl 0 1 0 (List.length s.2)), (9, .d (.ls (List.map eTTotal l_1))), (10, (dI (((l_1).length : Int)))), (11, (dI s.1))], [some (.arr 1 (List.map .d (List.map eI s.2)))])) (((((l_1).length : Int)) - 0 : Int).toNat + 1) (0, (([] : List Int))) h (fun s => rfl) (Wk.mk2 [0] 0 rfl rfl (by decide) rfl ⟨rfl, trivial⟩ ⟨rr, rr, ⟨rfl, (by first | rfl | simp)⟩, rr, rr, rr, trivial⟩) ?_
  clear h
  rintro n_9 ⟨v_7, l_8⟩ h
  replace h : M222 l_1 c_2 c_3 (n_9 + 1) v_7 l_8 = some l_10 := h
  rw [M222] at h
  refine sg ?_
  conv=>whnf
  refine Tr.seq ?_
  refine Tr.cond ?_
  conv=>whnf
  refine cB h (fun hb13 h => ?_) (fun hb13 h => ?_)
  ·refine Tr.skip ?_
   conv=>whnf
   refine Tr.seq ?_
   refine Tr.block ?_
   refine sg ?_
   conv=>whnf
   obtain ⟨x_14, hx_14, h⟩ := bS h
   refine ixP_of hx_14 ?_
   conv=>whnf
   refine sg ?_
   conv=>whnf
   obtain ⟨r_15, hc16, h⟩ := bS h
   refine PC.ecall (P221 v_7 c_2 c_3 r_15 hc16) (fun rs hrs => ?_)
   subst hrs
   conv=>whnf
   refine Tr.cond ?_
   conv=>whnf
   refine cB h (fun hb17 h => ?_) (fun hb17 h => ?_)
   ·refine rg ?_
    conv=>whnf
    obtain ⟨r_18, hc19, h⟩ := bS h
    refine PC.ecall (P210 x_14 r_18 hc19) (fun rs hrs => ?_)
    subst hrs
    conv=>whnf
    refine orB_r ?_
    conv=>whnf
    refine frP_no ?_
    conv=>whnf
    refine eqS_mk (by first | rfl | simp) ?_
    conv=>whnf
    obtain ⟨l_20, hl_20, h⟩ := bS h
    refine apS_of hl_20 (aQ (f := eI) (l := (([r_18] : List Int))) fun _ => rfl) (by first | rfl | simp) (by first | rfl | simp) (fun he => ?_)
    conv=>whnf
    refine rS (es' := List.map .d (List.map eI l_20)) (n' := List.length l_20) (by subst he; simp only [List.map_append, List.map_cons, List.map_nil, List.nil_append]; first | done | rfl) (by subst he; simp <;> omega) ?_
    clear he
    conv=>whnf
    refine rg ?_
    conv=>whnf
    refine arS_raw ?_
    conv=>whnf
    refine ⟨((w64 (v_7 + 1)), l_20), h, ?_⟩
    exact Wk.mk2 [2] 3 rfl rfl (by decide) rfl ⟨daS_d rfl, trivial⟩ ⟨rr, rr, ⟨rfl, (by first | rfl | (simp only [↓hb13, ↓hb17, bl]; done) | (simp only [↓hb13, ↓hb17, bl]; rfl))⟩, rr, rr, rr, trivial⟩
   refine Tr.skip ?_
   conv=>whnf
   refine rg ?_
   conv=>whnf
   refine arS_raw ?_
   conv=>whnf
   refine ⟨((w64 (v_7 + 1)), l_8), h, ?_⟩
   exact Wk.mk2 [0] 2 rfl rfl (by decide) rfl ⟨daS_d rfl, trivial⟩ ⟨rr, rr, rr, rr, rr, rr, trivial⟩
  refine Tr.exit ?_
  conv=>whnf
  cases h
  exact Wk.mk2 [0] 1 rfl rfl (by decide) rfl ⟨daS_d rfl, trivial⟩ ⟨rr, trivial⟩
 clear hv21
 conv=>whnf
 refine Tr.weak hw ?_
 refine sg ?_
 conv=>whnf
 refine Tr.ret ?_
 conv=>whnf
 refine frE_of (f := eI) (l := l_10) rfl ?_
 conv=>whnf
 cases h
 rfl
theorem P224 (l_1 : List TTotal) (most_2 : Int) (r_3 : List Int) (r_4 : List Int) (r_5 : Int) (h : M224 l_1 most_2 = some (r_3, r_4, r_5)) :
    PC prog 25 [(.ls (List.map eTTotal l_1)), (.i .i64 most_2)] (fun rs => rs = [(.ls (List.map eI r_3)), (.ls (List.map eI r_4)), (.i .i64 r_5)]) := by
 refine PC.of_tr (cx := ⟨24, none, lay, 0⟩) layOK func25 rfl rfl rfl rfl rfl (by simp [f25]) ?_
 unfold M224 at h
 refine sg ?_
 conv=>whnf
 refine Tr.seq ?_
 refine sg ?_
 conv=>whnf
 obtain ⟨r_6, hc7, h⟩ := bS h
 refine PC.ecall (P202 l_1 r_6 hc7) (fun rs hrs => ?_)
 subst hrs
 conv=>whnf
 refine Tr.cond ?_
 conv=>whnf
 refine cB h (fun hb8 h => ?_) (fun hb8 h => ?_)
 ·refine sg ?_
  conv=>whnf
  refine Tr.ret ?_
  conv=>whnf
  cases h
  rfl
 refine Tr.skip ?_
 conv=>whnf
 refine Tr.seq ?_
 refine sg ?_
 conv=>whnf
 refine cB h (fun hb9 h => ?_) (fun hb9 h => ?_)
 ·conv=>whnf
  refine Tr.cond ?_
  conv=>whnf
  refine sg ?_
  conv=>whnf
  refine Tr.ret ?_
  conv=>whnf
  cases h
  rfl
 conv=>whnf
 refine Tr.cond ?_
 conv=>whnf
 refine cB h (fun hb10 h => ?_) (fun hb10 h => ?_)
 ·refine sg ?_
  conv=>whnf
  refine Tr.ret ?_
  conv=>whnf
  cases h
  rfl
 refine Tr.skip ?_
 conv=>whnf
 refine Tr.seq ?_
 refine Tr.frz 2 ?_
 conv=>whnf
 refine Tr.frz 3 ?_
 conv=>whnf
 refine rg ?_
 conv=>whnf
 obtain ⟨r_11, hc12, h⟩ := bS h
 refine PC.ecall (P220 l_1 l_1 most_2 r_11 hc12) (fun rs hrs => ?_)
 subst hrs
 conv=>whnf
 refine sg ?_
 conv=>whnf
 obtain ⟨r_13, hc14, h⟩ := bS h
 refine PC.ecall (P223 l_1 l_1 most_2 r_13 hc14) (fun rs hrs => ?_)
 subst hrs
 conv=>whnf
 refine sg ?_
 conv=>whnf
 refine Tr.ret ?_
 conv=>whnf
 cases h
 rfl
theorem P227 (a_1 : List Int) (b_2 : List Int) (r_3 : Bool) (h : M227 a_1 b_2 = some r_3) :
    PC prog 29 [(.ls (List.map eI a_1)), (.ls (List.map eI b_2))] (fun rs => rs = [(.b r_3)]) := by
 refine PC.of_tr (cx := ⟨26, none, lay, 0⟩) layOK func29 rfl rfl rfl rfl rfl (by simp [f29]) ?_
 unfold M227 at h
 refine sg ?_
 conv=>whnf
 refine Tr.seq ?_
 refine sg ?_
 conv=>whnf
 refine lnS_map ?_
 conv=>whnf
 refine lnS_map ?_
 conv=>whnf
 refine Tr.cond ?_
 conv=>whnf
 refine cB h (fun hb4 h => ?_) (fun hb4 h => ?_)
 ·refine sg ?_
  conv=>whnf
  refine Tr.ret ?_
  conv=>whnf
  cases h
  rfl
 refine Tr.skip ?_
 conv=>whnf
 refine Tr.seq ?_
 refine sg ?_
 conv=>whnf
 refine Tr.cutQ (α := Unit) (fun s => ([(4, .d (.b false))], [])) (fun s => M226 s = some r_3) ?_ ?_
 ·refine Tr.block ?_
  refine Tr.loopM (σ := Int) (fun n s => M225 a_1 b_2 M226 n s) r_3 (fun s => ([(0, .d (.ls (List.map eI a_1))), (1, .d (.ls (List.map eI b_2))), (4, .d (.b false)), (5, (dI s))], [])) (((((a_1).length : Int)) - 0 : Int).toNat + 1) (0) h (fun s => rfl) (Wk.mk2 [] 0 rfl rfl (by decide) rfl trivial ⟨rr, rr, rr, rr, trivial⟩) ?_
  clear h
  rintro n_7 i_6 h
  replace h : M225 a_1 b_2 M226 (n_7 + 1) i_6 = some r_3 := h
  rw [M225] at h
  refine Tr.seq ?_
  refine sg ?_
  conv=>whnf
  refine lnS_map ?_
  conv=>whnf
  refine Tr.cond ?_
  conv=>whnf
  refine cB h (fun hb10 h => ?_) (fun hb10 h => ?_)
  ·refine Tr.skip ?_
   conv=>whnf
   refine Tr.seq ?_
   refine Tr.block ?_
   refine sd [] [(0,1),(1,1),(2,2),(3,2),(4,1),(5,1),(6,2),(7,2),(8,1)] ?_
   conv=>whnf
   refine q1 ?_
   conv=>whnf
   refine q1 ?_
   conv=>whnf
   obtain ⟨x_11, hx_11, h⟩ := bS h
   refine q3 (ixP_of hx_11 rr) ?_
   conv=>whnf
   refine q2 ?_
   conv=>whnf
   refine q1 ?_
   conv=>whnf
   refine q1 ?_
   conv=>whnf
   obtain ⟨x_12, hx_12, h⟩ := bS h
   refine q3 (ixP_of hx_12 rr) ?_
   conv=>whnf
   refine q2 ?_
   conv=>whnf
   refine q1 ?_
   conv=>whnf
   refine Tr.cond ?_
   conv=>whnf
   refine cB h (fun hb13 h => ?_) (fun hb13 h => ?_)
   ·refine sg ?_
    conv=>whnf
    refine Tr.ret ?_
    conv=>whnf
    cases h
    rfl
   refine Tr.skip ?_
   conv=>whnf
   refine rg ?_
   conv=>whnf
   refine arS_raw ?_
   conv=>whnf
   refine ⟨((w64 (i_6 + 1))), h, ?_⟩
   exact Wk.mk2 [] 0 rfl rfl (by decide) rfl trivial ⟨rr, rr, rr, rr, trivial⟩
  refine Tr.exit ?_
  conv=>whnf
  refine ⟨(), h, ?_⟩
  exact Wk.mk2 [] 0 rfl rfl (by decide) rfl trivial ⟨rr, trivial⟩
 clear h
 rintro _ h T1 H1 hw
 replace h : M226 () = some r_3 := h
 conv=>whnf
 refine Tr.weak hw ?_
 unfold M226 at h
 refine sg ?_
 conv=>whnf
 refine Tr.ret ?_
 conv=>whnf
 cases h
 rfl
end Go.Proofs.Tryz
