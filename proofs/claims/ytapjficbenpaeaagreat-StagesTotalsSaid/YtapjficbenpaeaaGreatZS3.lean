/- Contracts of functions, by program (gen.py). No condition. -/
import Derived.Test.YtapjficbenpaeaaGreatZL
import Derived.Test.YtapjficbenpaeaaGreatZM
import Derived.Test.YtapjficbenpaeaaGreatZCB
import Derived.Test.YtapjficbenpaeaaGreatZS2
namespace Go.Proofs.Tryz
open Go Go.Abs Go.Stop
set_option maxRecDepth 8000
set_option linter.unusedVariables false
set_option linter.unusedSimpArgs false
theorem P55 (x_1 : TRunner) (c_2 : Int) (r_3 : Bool) (h : M55 x_1 c_2 = some r_3) :
    PC prog 148 [(eTRunner x_1), (.ro [(.i .i64 c_2)])] (fun rs => rs = [(.b r_3)]) := by
 refine PC.of_tr (cx := ⟨18, none, lay, 0⟩) layOK func148 rfl rfl rfl rfl rfl (by simp [f148]) ?_
 unfold M55 at h
 refine sg ?_
 conv=>whnf
 refine sg ?_
 conv=>whnf
 refine lnS_map ?_
 conv=>whnf
 refine cB h (fun hb4 h => ?_) (fun hb4 h => ?_)
 ·conv=>whnf
  refine Tr.ret ?_
  conv=>whnf
  cases h
  rfl
 conv=>whnf
 obtain ⟨x_5, hx_5, h⟩ := bS h
 refine ixP_of hx_5 ?_
 conv=>whnf
 refine lnS_map ?_
 conv=>whnf
 refine Tr.ret ?_
 conv=>whnf
 cases h
 rfl
theorem P58 (s_1 : List TRunner) (c_2 : Int) (r_3 : Int) (h : M58 s_1 c_2 = some r_3) :
    PC prog 39 [(.ls (List.map eTRunner s_1)), (.fn 148 [(.ro [(.i .i64 c_2)])])] (fun rs => rs = [(.i .i64 r_3)]) := by
 refine PC.of_tr (cx := ⟨19, none, lay, 0⟩) layOK func39 rfl rfl rfl rfl rfl (by simp [f39]) ?_
 unfold M58 at h
 refine sg ?_
 conv=>whnf
 refine Tr.seq ?_
 refine sg ?_
 conv=>whnf
 refine lnS_map ?_
 conv=>whnf
 refine Tr.cutQ (α := Unit) (fun s => ([(4, (dI 0))], [])) (fun s => M57 s = some r_3) ?_ ?_
 ·refine Tr.block ?_
  refine Tr.loopM (σ := Int) (fun n s => M56 s_1 c_2 M57 n s) r_3 (fun s => ([(0, .d (.ls (List.map eTRunner s_1))), (1, .d (.fn 148 [(.ro [(.i .i64 c_2)])])), (4, (dI 0)), (7, (dI (((s_1).length : Int)))), (8, (dI s))], [])) (((((s_1).length : Int)) - 0 : Int).toNat + 1) (0) h (fun s => rfl) (Wk.mk2 [] 0 rfl rfl (by decide) rfl trivial ⟨rr, rr, rr, rr, rr, trivial⟩) ?_
  clear h
  rintro n_6 v_5 h
  replace h : M56 s_1 c_2 M57 (n_6 + 1) v_5 = some r_3 := h
  rw [M56] at h
  refine sg ?_
  conv=>whnf
  refine Tr.seq ?_
  refine Tr.cond ?_
  conv=>whnf
  refine cB h (fun hb9 h => ?_) (fun hb9 h => ?_)
  ·refine Tr.skip ?_
   conv=>whnf
   refine Tr.seq ?_
   refine Tr.block ?_
   refine sg ?_
   conv=>whnf
   refine sg ?_
   conv=>whnf
   obtain ⟨x_10, hx_10, h⟩ := bS h
   refine ixP_of hx_10 ?_
   conv=>whnf
   obtain ⟨r_11, hc12, h⟩ := bS h
   refine PC.ecall (P55 x_10 c_2 r_11 hc12) (fun rs hrs => ?_)
   subst hrs
   conv=>whnf
   refine Tr.cond ?_
   conv=>whnf
   refine cB h (fun hb13 h => ?_) (fun hb13 h => ?_)
   ·refine sg ?_
    conv=>whnf
    refine Tr.ret ?_
    conv=>whnf
    cases h
    rfl
   refine Tr.skip ?_
   conv=>whnf
   refine rg ?_
   conv=>whnf
   refine arS_raw ?_
   conv=>whnf
   refine ⟨((w64 (v_5 + 1))), h, ?_⟩
   exact Wk.mk2 [] 0 rfl rfl (by decide) rfl trivial ⟨rr, rr, rr, rr, rr, trivial⟩
  refine Tr.exit ?_
  conv=>whnf
  refine ⟨(), h, ?_⟩
  exact Wk.mk2 [] 0 rfl rfl (by decide) rfl trivial ⟨rr, trivial⟩
 clear h
 rintro _ h T1 H1 hw
 replace h : M57 () = some r_3 := h
 conv=>whnf
 refine Tr.weak hw ?_
 unfold M57 at h
 refine sg ?_
 conv=>whnf
 refine Tr.ret ?_
 conv=>whnf
 cases h
 rfl
theorem P59 (s_1 : List TRunner) (c_2 : Int) (r_3 : Bool) (h : M59 s_1 c_2 = some r_3) :
    PC prog 102 [(.ls (List.map eTRunner s_1)), (.fn 148 [(.ro [(.i .i64 c_2)])])] (fun rs => rs = [(.b r_3)]) := by
 refine PC.of_tr (cx := ⟨9, none, lay, 0⟩) layOK func102 rfl rfl rfl rfl rfl (by simp [f102]) ?_
 unfold M59 at h
 refine sg ?_
 conv=>whnf
 refine sg ?_
 conv=>whnf
 obtain ⟨r_4, hc5, h⟩ := bS h
 refine PC.ecall (P58 s_1 c_2 r_4 hc5) (fun rs hrs => ?_)
 subst hrs
 conv=>whnf
 refine Tr.ret ?_
 conv=>whnf
 cases h
 rfl
theorem P60 (f_1 : TField) (world_2 : Int) (r_3 : Bool) (h : M60 f_1 world_2 = some r_3) :
    PC prog 108 [(eTField f_1), (.i .i64 world_2)] (fun rs => rs = [(.b r_3)]) := by
 refine PC.of_tr (cx := ⟨10, none, lay, 0⟩) layOK func108 rfl rfl rfl rfl rfl (by simp [f108]) ?_
 unfold M60 at h
 refine sg ?_
 conv=>whnf
 refine sg ?_
 conv=>whnf
 obtain ⟨r_4, hc5, h⟩ := bS h
 refine PC.ecall_lend ?_ ⟨_, _, func102, rfl, rfl⟩
 conv=>whnf
 refine ⟨_, P59 f_1.Runners world_2 r_4 hc5, fun rs hrs => ?_⟩
 subst hrs
 refine ⟨rfl, ?_⟩
 conv=>whnf
 refine Tr.ret ?_
 conv=>whnf
 cases h
 rfl
theorem P61 (k_1 : TClocks) (seg_2 : Int) (x_3 : TSpan) (r_4 : TSpan) (h : M61 k_1 seg_2 x_3 = some r_4) :
    PC prog 147 [(eTClocks k_1), (.i .i64 seg_2), (eTSpan x_3)] (fun rs => rs = [(eTSpan r_4)]) := by
 refine PC.of_tr (cx := ⟨34, none, lay, 0⟩) layOK func147 rfl rfl rfl rfl rfl (by simp [f147]) ?_
 unfold M61 at h
 refine sg ?_
 conv=>whnf
 refine Tr.seq ?_
 refine sg ?_
 conv=>whnf
 refine Tr.cond ?_
 conv=>whnf
 refine cB h (fun hb5 h => ?_) (fun hb5 h => ?_)
 ·refine sg ?_
  conv=>whnf
  refine Tr.ret ?_
  conv=>whnf
  cases h
  rfl
 refine Tr.skip ?_
 conv=>whnf
 refine sg ?_
 conv=>whnf
 refine arS_raw ?_
 conv=>whnf
 refine sd [(21,2)] [(0,4),(1,4),(2,3),(3,3),(4,1),(5,2),(6,2),(7,2),(8,2),(9,1),(10,4),(11,4),(12,3),(13,3),(14,2),(15,2),(16,1),(17,2),(18,2),(19,1),(20,1),(21,0)] ?_
 conv=>whnf
 refine q2 ?_
 conv=>whnf
 refine q2 ?_
 conv=>whnf
 refine q2 ?_
 conv=>whnf
 refine q2 ?_
 conv=>whnf
 refine q1 ?_
 conv=>whnf
 obtain ⟨x_6, hx_6, h⟩ := bS h
 refine q3 (ixP_of hx_6 rr) ?_
 conv=>whnf
 refine q2 ?_
 conv=>whnf
 obtain ⟨x_7, hx_7, h⟩ := bS h
 refine q3 (ixP_of hx_7 rr) ?_
 conv=>whnf
 refine q2 ?_
 conv=>whnf
 refine q4 ?_
 conv=>whnf
 refine q2 ?_
 conv=>whnf
 refine q2 ?_
 conv=>whnf
 refine q2 ?_
 conv=>whnf
 refine q2 ?_
 conv=>whnf
 obtain ⟨x_8, hx_8, h⟩ := bS h
 refine q3 (ixP_of hx_8 rr) ?_
 conv=>whnf
 refine q2 ?_
 conv=>whnf
 refine q1 ?_
 conv=>whnf
 obtain ⟨x_9, hx_9, h⟩ := bS h
 refine q3 (ixP_of hx_9 rr) ?_
 conv=>whnf
 refine q2 ?_
 conv=>whnf
 refine q4 ?_
 conv=>whnf
 refine q1 ?_
 conv=>whnf
 refine ⟨_, _, rr, kp_ok (by repeat (first | exact trivial | refine ⟨trivial, ?_⟩ | refine ⟨rfl, ?_⟩)), ?_⟩
 conv=>whnf
 refine Tr.ret ?_
 conv=>whnf
 cases h
 rfl
theorem P62 (k_1 : TClocks) (x_2 : TOutcome) (r_3 : TSpan) (r_4 : Int) (h : M62 k_1 x_2 = some (r_3, r_4)) :
    PC prog 107 [(eTClocks k_1), (eTOutcome x_2)] (fun rs => rs = [(eTSpan r_3), (.i .i64 r_4)]) := by
 refine PC.of_tr (cx := ⟨26, none, lay, 0⟩) layOK func107 rfl rfl rfl rfl rfl (by simp [f107]) ?_
 unfold M62 at h
 refine sg ?_
 conv=>whnf
 refine Tr.seq ?_
 refine sg ?_
 conv=>whnf
 obtain ⟨r_5, hc6, h⟩ := bS h
 refine PC.ecall (P31 k_1 x_2 r_5 hc6) (fun rs hrs => ?_)
 subst hrs
 conv=>whnf
 refine sg ?_
 conv=>whnf
 refine Tr.cond ?_
 conv=>whnf
 refine cB h (fun hb7 h => ?_) (fun hb7 h => ?_)
 ·refine sg ?_
  conv=>whnf
  refine Tr.ret ?_
  conv=>whnf
  cases h
  rfl
 refine Tr.skip ?_
 conv=>whnf
 refine Tr.seq ?_
 refine sg ?_
 conv=>whnf
 refine Tr.cond ?_
 conv=>whnf
 refine cB h (fun hb8 h => ?_) (fun hb8 h => ?_)
 ·refine sg ?_
  conv=>whnf
  refine Tr.ret ?_
  conv=>whnf
  cases h
  rfl
 refine Tr.skip ?_
 conv=>whnf
 refine sg ?_
 conv=>whnf
 obtain ⟨r_9, hc10, h⟩ := bS h
 refine PC.ecall (P61 k_1 x_2.Seg ({ Lo := x_2.Lo, Hi := x_2.Hi } : TSpan) r_9 hc10) (fun rs hrs => ?_)
 subst hrs
 conv=>whnf
 refine Tr.ret ?_
 conv=>whnf
 cases h
 rfl
theorem P63 (s_1 : TSpan) (r_2 : Int) (h : M63 s_1 = some r_2) :
    PC prog 94 [(eTSpan s_1)] (fun rs => rs = [(.i .i64 r_2)]) := by
 refine PC.of_tr (cx := ⟨18, none, lay, 0⟩) layOK func94 rfl rfl rfl rfl rfl (by simp [f94]) ?_
 unfold M63 at h
 refine sg ?_
 conv=>whnf
 refine Tr.seq ?_
 refine sg ?_
 conv=>whnf
 refine cB h (fun hb3 h => ?_) (fun hb3 h => ?_)
 ·conv=>whnf
  refine Tr.cond ?_
  conv=>whnf
  refine sg ?_
  conv=>whnf
  refine Tr.ret ?_
  conv=>whnf
  cases h
  rfl
 conv=>whnf
 refine cB h (fun hb4 h => ?_) (fun hb4 h => ?_)
 ·conv=>whnf
  refine Tr.cond ?_
  conv=>whnf
  refine sg ?_
  conv=>whnf
  refine Tr.ret ?_
  conv=>whnf
  cases h
  rfl
 conv=>whnf
 refine Tr.cond ?_
 conv=>whnf
 refine cB h (fun hb5 h => ?_) (fun hb5 h => ?_)
 ·refine sg ?_
  conv=>whnf
  refine Tr.ret ?_
  conv=>whnf
  cases h
  rfl
 refine Tr.skip ?_
 conv=>whnf
 refine sg ?_
 conv=>whnf
 refine Tr.ret ?_
 conv=>whnf
 cases h
 rfl
theorem P64 (s_1 : TSpan) (r_2 : Bool) (h : M64 s_1 = some r_2) :
    PC prog 131 [(eTSpan s_1)] (fun rs => rs = [(.b r_2)]) := by
 refine PC.of_tr (cx := ⟨6, none, lay, 0⟩) layOK func131 rfl rfl rfl rfl rfl (by simp [f131]) ?_
 unfold M64 at h
 refine sg ?_
 conv=>whnf
 refine sg ?_
 conv=>whnf
 obtain ⟨r_3, hc4, h⟩ := bS h
 refine PC.ecall (P63 s_1 r_3 hc4) (fun rs hrs => ?_)
 subst hrs
 conv=>whnf
 refine Tr.ret ?_
 conv=>whnf
 cases h
 rfl
theorem P67 (s_1 : List TSpan) (r_2 : Int) (h : M67 s_1 = some r_2) :
    PC prog 76 [(.ls (List.map eTSpan s_1)), (.fn 131 [])] (fun rs => rs = [(.i .i64 r_2)]) := by
 refine PC.of_tr (cx := ⟨19, none, lay, 0⟩) layOK func76 rfl rfl rfl rfl rfl (by simp [f76]) ?_
 unfold M67 at h
 refine sg ?_
 conv=>whnf
 refine Tr.seq ?_
 refine sg ?_
 conv=>whnf
 refine lnS_map ?_
 conv=>whnf
 refine Tr.cutQ (α := Unit) (fun s => ([(4, (dI 0))], [])) (fun s => M66 s = some r_2) ?_ ?_
 ·refine Tr.block ?_
  refine Tr.loopM (σ := Int) (fun n s => M65 s_1 M66 n s) r_2 (fun s => ([(0, .d (.ls (List.map eTSpan s_1))), (1, .d (.fn 131 [])), (4, (dI 0)), (7, (dI (((s_1).length : Int)))), (8, (dI s))], [])) (((((s_1).length : Int)) - 0 : Int).toNat + 1) (0) h (fun s => rfl) (Wk.mk2 [] 0 rfl rfl (by decide) rfl trivial ⟨rr, rr, rr, rr, rr, trivial⟩) ?_
  clear h
  rintro n_5 v_4 h
  replace h : M65 s_1 M66 (n_5 + 1) v_4 = some r_2 := h
  rw [M65] at h
  refine sg ?_
  conv=>whnf
  refine Tr.seq ?_
  refine Tr.cond ?_
  conv=>whnf
  refine cB h (fun hb8 h => ?_) (fun hb8 h => ?_)
  ·refine Tr.skip ?_
   conv=>whnf
   refine Tr.seq ?_
   refine Tr.block ?_
   refine sg ?_
   conv=>whnf
   refine sg ?_
   conv=>whnf
   obtain ⟨x_9, hx_9, h⟩ := bS h
   refine ixP_of hx_9 ?_
   conv=>whnf
   obtain ⟨r_10, hc11, h⟩ := bS h
   refine PC.ecall (P64 x_9 r_10 hc11) (fun rs hrs => ?_)
   subst hrs
   conv=>whnf
   refine Tr.cond ?_
   conv=>whnf
   refine cB h (fun hb12 h => ?_) (fun hb12 h => ?_)
   ·refine sg ?_
    conv=>whnf
    refine Tr.ret ?_
    conv=>whnf
    cases h
    rfl
   refine Tr.skip ?_
   conv=>whnf
   refine rg ?_
   conv=>whnf
   refine arS_raw ?_
   conv=>whnf
   refine ⟨((w64 (v_4 + 1))), h, ?_⟩
   exact Wk.mk2 [] 0 rfl rfl (by decide) rfl trivial ⟨rr, rr, rr, rr, rr, trivial⟩
  refine Tr.exit ?_
  conv=>whnf
  refine ⟨(), h, ?_⟩
  exact Wk.mk2 [] 0 rfl rfl (by decide) rfl trivial ⟨rr, trivial⟩
 clear h
 rintro _ h T1 H1 hw
 replace h : M66 () = some r_2 := h
 conv=>whnf
 refine Tr.weak hw ?_
 unfold M66 at h
 refine sg ?_
 conv=>whnf
 refine Tr.ret ?_
 conv=>whnf
 cases h
 rfl
theorem P68 (s_1 : List TSpan) (r_2 : Bool) (h : M68 s_1 = some r_2) :
    PC prog 45 [(.ls (List.map eTSpan s_1)), (.fn 131 [])] (fun rs => rs = [(.b r_2)]) := by
 refine PC.of_tr (cx := ⟨9, none, lay, 0⟩) layOK func45 rfl rfl rfl rfl rfl (by simp [f45]) ?_
 unfold M68 at h
 refine sg ?_
 conv=>whnf
 refine sg ?_
 conv=>whnf
 obtain ⟨r_3, hc4, h⟩ := bS h
 refine PC.ecall (P67 s_1 r_3 hc4) (fun rs hrs => ?_)
 subst hrs
 conv=>whnf
 refine Tr.ret ?_
 conv=>whnf
 cases h
 rfl
theorem P71 (lists_1 : List (List TSpan)) (r_2 : Int) (h : M71 lists_1 = some r_2) :
    PC prog 92 [(.ls (List.map (eL eTSpan) lists_1))] (fun rs => rs = [(.i .i64 r_2)]) := by
 refine PC.of_tr (cx := ⟨17, none, lay, 0⟩) layOK func92 rfl rfl rfl rfl rfl (by simp [f92]) ?_
 unfold M71 at h
 refine sg ?_
 conv=>whnf
 refine Tr.seq ?_
 refine sg ?_
 conv=>whnf
 refine lnS_map ?_
 conv=>whnf
 refine Tr.cutQ (α := Unit) (fun s => ([(2, (dI 0))], [])) (fun s => M70 s = some r_2) ?_ ?_
 ·refine Tr.block ?_
  refine Tr.loopM (σ := Int) (fun n s => M69 lists_1 M70 n s) r_2 (fun s => ([(2, (dI 0)), (5, .d (.ls (List.map (eL eTSpan) lists_1))), (6, (dI (((lists_1).length : Int)))), (7, (dI s))], [])) (((((lists_1).length : Int)) - 0 : Int).toNat + 1) (0) h (fun s => rfl) (Wk.mk2 [] 0 rfl rfl (by decide) rfl trivial ⟨rr, rr, rr, rr, trivial⟩) ?_
  clear h
  rintro n_5 v_4 h
  replace h : M69 lists_1 M70 (n_5 + 1) v_4 = some r_2 := h
  rw [M69] at h
  refine sg ?_
  conv=>whnf
  refine Tr.seq ?_
  refine Tr.cond ?_
  conv=>whnf
  refine cB h (fun hb8 h => ?_) (fun hb8 h => ?_)
  ·refine Tr.skip ?_
   conv=>whnf
   refine Tr.seq ?_
   refine Tr.block ?_
   refine sg ?_
   conv=>whnf
   obtain ⟨x_9, hx_9, h⟩ := bS h
   refine ixP_of hx_9 ?_
   conv=>whnf
   refine Tr.seq ?_
   refine sg ?_
   conv=>whnf
   refine lnS_map ?_
   conv=>whnf
   refine Tr.cond ?_
   conv=>whnf
   refine cB h (fun hb10 h => ?_) (fun hb10 h => ?_)
   ·refine sg ?_
    conv=>whnf
    refine Tr.ret ?_
    conv=>whnf
    cases h
    rfl
   refine Tr.skip ?_
   conv=>whnf
   refine sg ?_
   conv=>whnf
   obtain ⟨r_11, hc12, h⟩ := bS h
   refine PC.ecall (P68 x_9 r_11 hc12) (fun rs hrs => ?_)
   subst hrs
   conv=>whnf
   refine Tr.cond ?_
   conv=>whnf
   refine cB h (fun hb13 h => ?_) (fun hb13 h => ?_)
   ·refine sg ?_
    conv=>whnf
    refine Tr.ret ?_
    conv=>whnf
    cases h
    rfl
   refine Tr.skip ?_
   conv=>whnf
   refine rg ?_
   conv=>whnf
   refine arS_raw ?_
   conv=>whnf
   refine ⟨((w64 (v_4 + 1))), h, ?_⟩
   exact Wk.mk2 [] 0 rfl rfl (by decide) rfl trivial ⟨rr, rr, rr, rr, trivial⟩
  refine Tr.exit ?_
  conv=>whnf
  refine ⟨(), h, ?_⟩
  exact Wk.mk2 [] 0 rfl rfl (by decide) rfl trivial ⟨rr, trivial⟩
 clear h
 rintro _ h T1 H1 hw
 replace h : M70 () = some r_2 := h
 conv=>whnf
 refine Tr.weak hw ?_
 unfold M70 at h
 refine sg ?_
 conv=>whnf
 refine Tr.ret ?_
 conv=>whnf
 cases h
 rfl
theorem P72 (s_1 : List TSpan) (c_2 : List TSpan) (h : M72 s_1 = some c_2) :
    PC prog 133 [(.ls (List.map eTSpan s_1))] (fun rs => rs = [(.fn 162 [(.ro [(.ls (List.map eTSpan c_2))])])]) := by
 refine PC.of_tr (cx := ⟨4, none, lay, 0⟩) layOK func133 rfl rfl rfl rfl rfl (by simp [f133]) ?_
 unfold M72 at h
 refine sg ?_
 conv=>whnf
 refine sg ?_
 conv=>whnf
 refine Tr.ret ?_
 conv=>whnf
 cases h
 rfl
end Go.Proofs.Tryz
