/- Contracts of functions, by program (gen.py). No condition. -/
import Derived.Test.YtpfihfiimeepfaaGreatDoorZL
import Derived.Test.YtpfihfiimeepfaaGreatDoorZM
import Derived.Test.YtpfihfiimeepfaaGreatDoorZCB
import Derived.Test.YtpfihfiimeepfaaGreatDoorZC7
import Derived.Test.YtpfihfiimeepfaaGreatDoorZS4
namespace Go.Proofs.Tryz
open Go Go.Abs Go.Stop
set_option maxRecDepth 8000
set_option linter.unusedVariables false
set_option linter.unusedSimpArgs false
theorem P108 (t_1 : TTeam) (r_2 : Bool) (h : M108 t_1 = some r_2) :
    PC prog 25 [(eTTeam t_1)] (fun rs => rs = [(.b r_2)]) := by
 refine PC.of_tr (cx := ⟨78, none, lay, 0⟩) layOK func25 rfl rfl rfl rfl rfl (by simp [f25]) ?_
 unfold M108 at h
 refine sg ?_
 conv=>whnf
 refine Tr.seq ?_
 refine Tr.seq ?_
 refine Tr.cutQ1 ([(1, .pt 0 0), (2, .d (.b false)), (38, .d (.b ((decide ((((t_1.Name.size : Nat) : Int)) < 1)) || ((decide ((((t_1.Name.size : Nat) : Int)) > 24)) || ((decide ((((t_1.Bibs).length : Int)) < 1)) || ((decide ((((t_1.Bibs).length : Int)) > 16)) || ((decide (t_1.Best < 1)) || (decide (t_1.Best > (((t_1.Bibs).length : Int)))))))))))]) ([some (.var [.d (.s t_1.Name), .d (.ls (List.map eI t_1.Bibs)), (dI t_1.Best)])]) ?_ (fun T1 H1 hw => ?_)
 ·refine rg ?_
  conv=>whnf
  refine condS_mk (fun hb4 => ?_) (fun hb4 => ?_)
  ·conv=>whnf
   exact Wk.mk2 [0] 1 rfl rfl (by decide) rfl ⟨rr, trivial⟩ ⟨rr, rr, ⟨rfl, (by first | rfl | (simp only [↓hb4, bl]; done) | (simp only [↓hb4, bl]; rfl))⟩, trivial⟩
  conv=>whnf
  refine condS_mk (fun hb5 => ?_) (fun hb5 => ?_)
  ·conv=>whnf
   exact Wk.mk2 [0] 1 rfl rfl (by decide) rfl ⟨rr, trivial⟩ ⟨rr, rr, ⟨rfl, (by first | rfl | (simp only [↓hb4, ↓hb5, bl]; done) | (simp only [↓hb4, ↓hb5, bl]; rfl))⟩, trivial⟩
  conv=>whnf
  refine lnS_map ?_
  conv=>whnf
  refine condS_mk (fun hb6 => ?_) (fun hb6 => ?_)
  ·conv=>whnf
   exact Wk.mk2 [0] 1 rfl rfl (by decide) rfl ⟨rr, trivial⟩ ⟨rr, rr, ⟨rfl, (by first | rfl | (simp only [↓hb4, ↓hb5, ↓hb6, bl]; done) | (simp only [↓hb4, ↓hb5, ↓hb6, bl]; rfl))⟩, trivial⟩
  conv=>whnf
  refine lnS_map ?_
  conv=>whnf
  refine condS_mk (fun hb7 => ?_) (fun hb7 => ?_)
  ·conv=>whnf
   exact Wk.mk2 [0] 1 rfl rfl (by decide) rfl ⟨rr, trivial⟩ ⟨rr, rr, ⟨rfl, (by first | rfl | (simp only [↓hb4, ↓hb5, ↓hb6, ↓hb7, bl]; done) | (simp only [↓hb4, ↓hb5, ↓hb6, ↓hb7, bl]; rfl))⟩, trivial⟩
  conv=>whnf
  refine condS_mk (fun hb8 => ?_) (fun hb8 => ?_)
  ·conv=>whnf
   exact Wk.mk2 [0] 1 rfl rfl (by decide) rfl ⟨rr, trivial⟩ ⟨rr, rr, ⟨rfl, (by first | rfl | (simp only [↓hb4, ↓hb5, ↓hb6, ↓hb7, ↓hb8, bl]; done) | (simp only [↓hb4, ↓hb5, ↓hb6, ↓hb7, ↓hb8, bl]; rfl))⟩, trivial⟩
  conv=>whnf
  refine lnS_map ?_
  conv=>whnf
  exact Wk.mk2 [0] 1 rfl rfl (by decide) rfl ⟨rr, trivial⟩ ⟨rr, rr, ⟨rfl, (by first | rfl | (simp only [↓hb4, ↓hb5, ↓hb6, ↓hb7, ↓hb8, bl]; done) | (simp only [↓hb4, ↓hb5, ↓hb6, ↓hb7, ↓hb8, bl]; rfl))⟩, trivial⟩
 conv=>whnf
 refine Tr.weak hw ?_
 refine Tr.cond ?_
 conv=>whnf
 refine cB h (fun hb9 h => ?_) (fun hb9 h => ?_)
 ·refine sg ?_
  conv=>whnf
  refine Tr.ret ?_
  conv=>whnf
  cases h
  rfl
 refine Tr.skip ?_
 conv=>whnf
 refine Tr.seq ?_
 refine sg ?_
 conv=>whnf
 refine Tr.cutQ (α := Unit) (fun s => ([(2, .d (.b false))], [])) (fun s => M107 s = some r_2) ?_ ?_
 ·refine Tr.block ?_
  refine Tr.loopM (σ := Int) (fun n s => M106 t_1 M107 n s) r_2 (fun s => ([(1, .pt 0 0), (2, .d (.b false)), (3, (dI s))], [some (.var [.d (.s t_1.Name), .d (.ls (List.map eI t_1.Bibs)), (dI t_1.Best)])])) (((((t_1.Bibs).length : Int)) - 0 : Int).toNat + 1) (0) h (fun s => rfl) (Wk.mk2 [0] 1 rfl rfl (by decide) rfl ⟨rr, trivial⟩ ⟨rr, rr, rr, trivial⟩) ?_
  clear h
  rintro n_12 i_11 h
  replace h : M106 t_1 M107 (n_12 + 1) i_11 = some r_2 := h
  rw [M106] at h
  refine Tr.seq ?_
  refine sg ?_
  conv=>whnf
  refine lnS_map ?_
  conv=>whnf
  refine Tr.cond ?_
  conv=>whnf
  refine cB h (fun hb15 h => ?_) (fun hb15 h => ?_)
  ·refine Tr.skip ?_
   conv=>whnf
   refine Tr.seq ?_
   refine Tr.block ?_
   refine Tr.seq ?_
   obtain ⟨v_16, hv17, h⟩ := bS h
   refine Tr.cutQ1 ([(1, .pt 0 0), (2, .d (.b false)), (3, (dI i_11)), (77, .d (.b v_16))]) ([some (.var [.d (.s t_1.Name), .d (.ls (List.map eI t_1.Bibs)), (dI t_1.Best)])]) ?_ (fun T1 H1 hw => ?_)
   ·replace h := hv17; clear hv17
    refine dq [] [(0,3),(1,3),(2,1),(3,2),(4,2),(5,1),(6,1),(7,3),(8,3),(9,1),(10,2),(11,2),(12,1),(13,1),(14,1),(15,1),(16,1),(17,1),(18,3),(19,3),(20,1),(21,2),(22,2),(23,3),(24,3),(25,1),(26,1),(27,2),(28,2),(29,1),(30,1),(31,1)] ?_
    conv=>whnf
    refine q2 ?_
    conv=>whnf
    refine q2 ?_
    conv=>whnf
    refine q1 ?_
    conv=>whnf
    obtain ⟨x_18, hx_18, h⟩ := bS h
    refine q3 (ixP_of hx_18 rr) ?_
    conv=>whnf
    refine q2 ?_
    conv=>whnf
    refine q1 ?_
    conv=>whnf
    refine q1 ?_
    conv=>whnf
    refine cB h (fun hb19 h => ?_) (fun hb19 h => ?_)
    ·conv=>whnf
     refine q1 ?_
     conv=>whnf
     refine q1 ?_
     conv=>whnf
     refine q1 ?_
     conv=>whnf
     cases h
     exact Wk.mk2 [0] 1 rfl rfl (by decide) rfl ⟨rr, trivial⟩ ⟨rr, rr, rr, rr, trivial⟩
    conv=>whnf
    refine q2 ?_
    conv=>whnf
    refine q2 ?_
    conv=>whnf
    refine q1 ?_
    conv=>whnf
    obtain ⟨x_20, hx_20, h⟩ := bS h
    refine q3 (ixP_of hx_20 rr) ?_
    conv=>whnf
    refine q2 ?_
    conv=>whnf
    refine q1 ?_
    conv=>whnf
    refine q1 ?_
    conv=>whnf
    refine q1 ?_
    conv=>whnf
    refine cB h (fun hb21 h => ?_) (fun hb21 h => ?_)
    ·conv=>whnf
     refine q1 ?_
     conv=>whnf
     cases h
     exact Wk.mk2 [0] 1 rfl rfl (by decide) rfl ⟨rr, trivial⟩ ⟨rr, rr, rr, rr, trivial⟩
    conv=>whnf
    refine q1 ?_
    conv=>whnf
    refine q1 ?_
    conv=>whnf
    refine q1 ?_
    conv=>whnf
    refine cB h (fun hb22 h => ?_) (fun hb22 h => ?_)
    ·conv=>whnf
     refine q2 ?_
     conv=>whnf
     refine q2 ?_
     conv=>whnf
     refine q1 ?_
     conv=>whnf
     obtain ⟨x_23, hx_23, h⟩ := bS h
     refine q3 (ixP_of hx_23 rr) ?_
     conv=>whnf
     refine q2 ?_
     conv=>whnf
     refine q2 ?_
     conv=>whnf
     refine q2 ?_
     conv=>whnf
     refine q1 ?_
     conv=>whnf
     refine q4 ?_
     conv=>whnf
     obtain ⟨x_24, hx_24, h⟩ := bS h
     refine q3 (ixP_of hx_24 rr) ?_
     conv=>whnf
     refine q2 ?_
     conv=>whnf
     refine q1 ?_
     conv=>whnf
     refine q1 ?_
     conv=>whnf
     refine q1 ?_
     conv=>whnf
     cases h
     exact Wk.mk2 [0] 1 rfl rfl (by decide) rfl ⟨rr, trivial⟩ ⟨rr, rr, rr, rr, trivial⟩
    conv=>whnf
    refine q1 ?_
    conv=>whnf
    refine q1 ?_
    conv=>whnf
    cases h
    exact Wk.mk2 [0] 1 rfl rfl (by decide) rfl ⟨rr, trivial⟩ ⟨rr, rr, rr, rr, trivial⟩
   clear hv17
   conv=>whnf
   refine Tr.weak hw ?_
   refine Tr.cond ?_
   conv=>whnf
   refine cB h (fun hb25 h => ?_) (fun hb25 h => ?_)
   ·refine sg ?_
    conv=>whnf
    refine Tr.ret ?_
    conv=>whnf
    cases h
    rfl
   refine Tr.skip ?_
   conv=>whnf
   refine rg ?_
   conv=>whnf
   refine arS_raw ?_
   conv=>whnf
   refine ⟨((w64 (i_11 + 1))), h, ?_⟩
   exact Wk.mk2 [0] 1 rfl rfl (by decide) rfl ⟨rr, trivial⟩ ⟨rr, rr, rr, trivial⟩
  refine Tr.exit ?_
  conv=>whnf
  refine ⟨(), h, ?_⟩
  exact Wk.mk2 [] 1 rfl rfl (by decide) rfl trivial ⟨rr, trivial⟩
 clear h
 rintro _ h T1 H1 hw
 replace h : M107 () = some r_2 := h
 conv=>whnf
 refine Tr.weak hw ?_
 unfold M107 at h
 refine sg ?_
 conv=>whnf
 refine Tr.ret ?_
 conv=>whnf
 cases h
 rfl
theorem P111 (l_1 : List Int) (n_2 : Int) (r_3 : Bool) (h : M111 l_1 n_2 = some r_3) :
    PC prog 26 [(.ls (List.map eI l_1)), (.i .i64 n_2)] (fun rs => rs = [(.b r_3)]) := by
 refine PC.of_tr (cx := ⟨18, none, lay, 0⟩) layOK func26 rfl rfl rfl rfl rfl (by simp [f26]) ?_
 unfold M111 at h
 refine sg ?_
 conv=>whnf
 refine Tr.seq ?_
 refine sg ?_
 conv=>whnf
 refine Tr.cutQ (α := Unit) (fun s => ([(4, .d (.b false))], [])) (fun s => M110 s = some r_3) ?_ ?_
 ·refine Tr.block ?_
  refine Tr.loopM (σ := Int) (fun n s => M109 l_1 n_2 M110 n s) r_3 (fun s => ([(0, .d (.ls (List.map eI l_1))), (1, (dI n_2)), (4, .d (.b false)), (5, (dI s))], [])) (((((l_1).length : Int)) - 0 : Int).toNat + 1) (0) h (fun s => rfl) (Wk.mk2 [] 0 rfl rfl (by decide) rfl trivial ⟨rr, rr, rr, rr, trivial⟩) ?_
  clear h
  rintro n_6 i_5 h
  replace h : M109 l_1 n_2 M110 (n_6 + 1) i_5 = some r_3 := h
  rw [M109] at h
  refine Tr.seq ?_
  refine sg ?_
  conv=>whnf
  refine lnS_map ?_
  conv=>whnf
  refine Tr.cond ?_
  conv=>whnf
  refine cB h (fun hb9 h => ?_) (fun hb9 h => ?_)
  ·refine Tr.skip ?_
   conv=>whnf
   refine Tr.seq ?_
   refine Tr.block ?_
   refine sg ?_
   conv=>whnf
   obtain ⟨x_10, hx_10, h⟩ := bS h
   refine ixP_of hx_10 ?_
   conv=>whnf
   refine Tr.cond ?_
   conv=>whnf
   refine cB h (fun hb11 h => ?_) (fun hb11 h => ?_)
   ·refine sg ?_
    conv=>whnf
    refine Tr.ret ?_
    conv=>whnf
    cases h
    rfl
   refine Tr.skip ?_
   conv=>whnf
   refine rg ?_
   conv=>whnf
   refine arS_raw ?_
   conv=>whnf
   refine ⟨((w64 (i_5 + 1))), h, ?_⟩
   exact Wk.mk2 [] 0 rfl rfl (by decide) rfl trivial ⟨rr, rr, rr, rr, trivial⟩
  refine Tr.exit ?_
  conv=>whnf
  refine ⟨(), h, ?_⟩
  exact Wk.mk2 [] 0 rfl rfl (by decide) rfl trivial ⟨rr, trivial⟩
 clear h
 rintro _ h T1 H1 hw
 replace h : M110 () = some r_3 := h
 conv=>whnf
 refine Tr.weak hw ?_
 unfold M110 at h
 refine sg ?_
 conv=>whnf
 refine Tr.ret ?_
 conv=>whnf
 cases h
 rfl
theorem P113 (n_1 : Int) (r_2 : ByteArray) (h : M113 n_1 = some r_2) :
    PC prog 27 [(.i .i64 n_1)] (fun rs => rs = [(.s r_2)]) := by
 refine PC.of_tr (cx := ⟨17, none, lay, 0⟩) layOK func27 rfl rfl rfl rfl rfl (by simp [f27]) ?_
 unfold M113 at h
 refine sg ?_
 conv=>whnf
 refine sg ?_
 conv=>whnf
 refine Tr.seq ?_
 obtain ⟨s_8, hv13, h⟩ := bS h
 refine Tr.cutQ1 ([(2, .d (.s ((ByteArray.mk #[])))), (3, .d (.s s_8))]) ([]) ?_ (fun T1 H1 hw => ?_)
 ·replace h := hv13; clear hv13
  refine Tr.block ?_
  refine Tr.loopM (σ := Int × ByteArray) (fun n s => M112 n s.1 s.2) s_8 (fun s => ([(0, (dI s.1)), (2, .d (.s ((ByteArray.mk #[])))), (3, .d (.s s.2))], [])) ((n_1 - 0 : Int).toNat + 1) (n_1, ((ByteArray.mk #[]))) h (fun s => rfl) (Wk.mk2 [] 0 rfl rfl (by decide) rfl trivial ⟨rr, rr, rr, trivial⟩) ?_
  clear h
  rintro n_7 ⟨n_5, s_6⟩ h
  replace h : M112 (n_7 + 1) n_5 s_6 = some s_8 := h
  rw [M112] at h
  refine Tr.seq ?_
  refine sg ?_
  conv=>whnf
  refine Tr.cond ?_
  conv=>whnf
  refine cB h (fun hb11 h => ?_) (fun hb11 h => ?_)
  ·refine Tr.skip ?_
   conv=>whnf
   refine Tr.block ?_
   refine sg ?_
   conv=>whnf
   refine neS_mk (by decide) ?_
   conv=>whnf
   refine arS_raw ?_
   conv=>whnf
   refine arS_raw ?_
   conv=>whnf
   refine orB_r ?_
   conv=>whnf
   refine cvSS_mk ((([(IntKind.wrap .u8 (48 + (IntKind.wrap .u8 (Int.tmod n_5 10))))] : List Int))) (by first | rfl | simp) ?_
   conv=>whnf
   obtain ⟨s_12, hs_12, h⟩ := bS h
   refine catS_of hs_12 ?_
   conv=>whnf
   refine rg ?_
   conv=>whnf
   refine neS_mk (by decide) ?_
   conv=>whnf
   refine arS_raw ?_
   conv=>whnf
   refine ⟨((w64 (Int.tdiv n_5 10)), s_12), h, ?_⟩
   exact Wk.mk2 [] 0 rfl rfl (by decide) rfl trivial ⟨rr, rr, rr, trivial⟩
  refine Tr.exit ?_
  conv=>whnf
  cases h
  exact Wk.mk2 [] 0 rfl rfl (by decide) rfl trivial ⟨rr, rr, trivial⟩
 clear hv13
 conv=>whnf
 refine Tr.weak hw ?_
 refine sg ?_
 conv=>whnf
 refine Tr.ret ?_
 conv=>whnf
 cases h
 rfl
theorem P121 (x_1 : List TStarter) (best_2 : Int) (r_3 : Bool) (h : M121 x_1 best_2 = some r_3) :
    PC prog 8 [(.ls (List.map eTStarter x_1)), (.i .i64 best_2)] (fun rs => rs = [(.b r_3)]) := by
 refine PC.of_tr (cx := ⟨147, none, lay, 0⟩) layOK func8 rfl rfl rfl rfl rfl (by simp [f8]) ?_
 unfold M121 at h
 refine sg ?_
 conv=>whnf
 refine Tr.seq ?_
 refine sg ?_
 conv=>whnf
 obtain ⟨r_4, hc5, h⟩ := bS h
 refine PC.ecall (P105 r_4 hc5) (fun rs hrs => ?_)
 subst hrs
 conv=>whnf
 refine Tr.cond ?_
 conv=>whnf
 refine cB h (fun hb6 h => ?_) (fun hb6 h => ?_)
 ·refine sg ?_
  conv=>whnf
  refine Tr.ret ?_
  conv=>whnf
  cases h
  rfl
 refine Tr.skip ?_
 conv=>whnf
 refine Tr.seq ?_
 refine sg ?_
 conv=>whnf
 refine lnS_map ?_
 conv=>whnf
 refine Tr.cond ?_
 conv=>whnf
 refine cB h (fun hb7 h => ?_) (fun hb7 h => ?_)
 ·refine sg ?_
  conv=>whnf
  refine Tr.ret ?_
  conv=>whnf
  cases h
  rfl
 refine Tr.skip ?_
 conv=>whnf
 refine sg ?_
 conv=>whnf
 obtain ⟨r_8, hc9, h⟩ := bS h
 refine PC.ecall (P94 x_1 best_2 r_8 hc9) (fun rs hrs => ?_)
 subst hrs
 conv=>whnf
 refine Tr.seq ?_
 refine sg ?_
 conv=>whnf
 refine Tr.cutQ (α := Unit) (fun s => ([(4, .d (.b false))], [])) (fun s => M120 s = some r_3) ?_ ?_
 ·refine Tr.block ?_
  refine Tr.loopM (σ := Int) (fun n s => M119 x_1 best_2 r_8 M120 n s) r_3 (fun s => ([(0, .d (.ls (List.map eTStarter x_1))), (1, (dI best_2)), (4, .d (.b false)), (5, .d (.ls (List.map eTTeam r_8))), (6, (dI s))], [])) (((((r_8).length : Int)) - 0 : Int).toNat + 1) (0) h (fun s => rfl) (Wk.mk2 [] 0 rfl rfl (by decide) rfl trivial ⟨rr, rr, rr, rr, rr, trivial⟩) ?_
  clear h
  rintro n_12 i_11 h
  replace h : M119 x_1 best_2 r_8 M120 (n_12 + 1) i_11 = some r_3 := h
  rw [M119] at h
  refine Tr.seq ?_
  refine sg ?_
  conv=>whnf
  refine lnS_map ?_
  conv=>whnf
  refine Tr.cond ?_
  conv=>whnf
  refine cB h (fun hb15 h => ?_) (fun hb15 h => ?_)
  ·refine Tr.skip ?_
   conv=>whnf
   refine Tr.seq ?_
   refine Tr.block ?_
   refine Tr.seq ?_
   refine sg ?_
   conv=>whnf
   obtain ⟨x_16, hx_16, h⟩ := bS h
   refine ixP_of hx_16 ?_
   conv=>whnf
   obtain ⟨r_17, hc18, h⟩ := bS h
   refine PC.ecall (P108 x_16 r_17 hc18) (fun rs hrs => ?_)
   subst hrs
   conv=>whnf
   refine cB h (fun hb19 h => ?_) (fun hb19 h => ?_)
   ·conv=>whnf
    refine Tr.cond ?_
    conv=>whnf
    refine sg ?_
    conv=>whnf
    refine Tr.ret ?_
    conv=>whnf
    cases h
    rfl
   conv=>whnf
   obtain ⟨x_20, hx_20, h⟩ := bS h
   refine ixP_of hx_20 ?_
   conv=>whnf
   refine Tr.cond ?_
   conv=>whnf
   refine cB h (fun hb21 h => ?_) (fun hb21 h => ?_)
   ·refine sg ?_
    conv=>whnf
    refine Tr.ret ?_
    conv=>whnf
    cases h
    rfl
   refine Tr.skip ?_
   conv=>whnf
   refine Tr.seq ?_
   refine sg ?_
   conv=>whnf
   refine Tr.cutQ (α := Unit) (fun s => ([(0, .d (.ls (List.map eTStarter x_1))), (1, (dI best_2)), (4, .d (.b false)), (5, .d (.ls (List.map eTTeam r_8))), (6, (dI i_11))], [])) (fun s => M118 x_1 r_8 i_11 (M119 x_1 best_2 r_8 M120 n_12) s = some r_3) ?_ ?_
   ·refine Tr.block ?_
    refine Tr.loopM (σ := Int) (fun n s => M114 r_8 i_11 (M118 x_1 r_8 i_11 (M119 x_1 best_2 r_8 M120 n_12)) n s) r_3 (fun s => ([(0, .d (.ls (List.map eTStarter x_1))), (1, (dI best_2)), (4, .d (.b false)), (5, .d (.ls (List.map eTTeam r_8))), (6, (dI i_11)), (7, (dI s))], [])) ((i_11 - 0 : Int).toNat + 1) (0) h (fun s => rfl) (Wk.mk2 [] 0 rfl rfl (by decide) rfl trivial ⟨rr, rr, rr, rr, rr, rr, trivial⟩) ?_
    clear h
    rintro n_24 k_23 h
    replace h : M114 r_8 i_11 (M118 x_1 r_8 i_11 (M119 x_1 best_2 r_8 M120 n_12)) (n_24 + 1) k_23 = some r_3 := h
    rw [M114] at h
    refine Tr.seq ?_
    refine sg ?_
    conv=>whnf
    refine Tr.cond ?_
    conv=>whnf
    refine cB h (fun hb27 h => ?_) (fun hb27 h => ?_)
    ·refine Tr.skip ?_
     conv=>whnf
     refine Tr.seq ?_
     refine Tr.block ?_
     refine sd [] [(0,1),(1,1),(2,2),(3,2),(4,2),(5,1),(6,1),(7,2),(8,2),(9,2),(10,1)] ?_
     conv=>whnf
     refine q1 ?_
     conv=>whnf
     refine q1 ?_
     conv=>whnf
     obtain ⟨x_28, hx_28, h⟩ := bS h
     refine q3 (ixP_of hx_28 rr) ?_
     conv=>whnf
     refine q2 ?_
     conv=>whnf
     refine q2 ?_
     conv=>whnf
     refine q1 ?_
     conv=>whnf
     refine q1 ?_
     conv=>whnf
     obtain ⟨x_29, hx_29, h⟩ := bS h
     refine q3 (ixP_of hx_29 rr) ?_
     conv=>whnf
     refine q2 ?_
     conv=>whnf
     refine q2 ?_
     conv=>whnf
     refine q1 ?_
     conv=>whnf
     refine Tr.cond ?_
     conv=>whnf
     refine cB h (fun hb30 h => ?_) (fun hb30 h => ?_)
     ·refine sg ?_
      conv=>whnf
      refine Tr.ret ?_
      conv=>whnf
      cases h
      rfl
     refine Tr.skip ?_
     conv=>whnf
     refine rg ?_
     conv=>whnf
     refine arS_raw ?_
     conv=>whnf
     refine ⟨((w64 (k_23 + 1))), h, ?_⟩
     exact Wk.mk2 [] 0 rfl rfl (by decide) rfl trivial ⟨rr, rr, rr, rr, rr, rr, trivial⟩
    refine Tr.exit ?_
    conv=>whnf
    refine ⟨(), h, ?_⟩
    exact Wk.mk2 [] 0 rfl rfl (by decide) rfl trivial ⟨rr, rr, rr, rr, rr, trivial⟩
   clear h
   rintro _ h T1 H1 hw
   replace h : M118 x_1 r_8 i_11 (M119 x_1 best_2 r_8 M120 n_12) () = some r_3 := h
   conv=>whnf
   refine Tr.weak hw ?_
   unfold M118 at h
   refine sg ?_
   conv=>whnf
   refine Tr.seq ?_
   refine sg ?_
   conv=>whnf
   obtain ⟨number_36, hv54, h⟩ := bS h
   refine Tr.cutQ1 ([(0, .d (.ls (List.map eTStarter x_1))), (1, (dI best_2)), (4, .d (.b false)), (5, .d (.ls (List.map eTTeam r_8))), (6, (dI i_11)), (8, (dI number_36))]) ([]) ?_ (fun T1 H1 hw => ?_)
   ·replace h := hv54; clear hv54
    refine Tr.block ?_
    refine Tr.loopM (σ := Int × Int) (fun n s => M115 x_1 r_8 i_11 n s.1 s.2) number_36 (fun s => ([(0, .d (.ls (List.map eTStarter x_1))), (1, (dI best_2)), (4, .d (.b false)), (5, .d (.ls (List.map eTTeam r_8))), (6, (dI i_11)), (8, (dI s.1)), (9, (dI s.2))], [])) (((((x_1).length : Int)) - 0 : Int).toNat + 1) (0, 0) h (fun s => rfl) (Wk.mk2 [] 0 rfl rfl (by decide) rfl trivial ⟨rr, rr, rr, rr, rr, rr, rr, trivial⟩) ?_
    clear h
    rintro n_35 ⟨number_33, k_34⟩ h
    replace h : M115 x_1 r_8 i_11 (n_35 + 1) number_33 k_34 = some number_36 := h
    rw [M115] at h
    refine Tr.seq ?_
    refine sg ?_
    conv=>whnf
    refine lnS_map ?_
    conv=>whnf
    refine Tr.cond ?_
    conv=>whnf
    refine cB h (fun hb39 h => ?_) (fun hb39 h => ?_)
    ·refine Tr.skip ?_
     conv=>whnf
     refine Tr.seq ?_
     refine Tr.block ?_
     refine Tr.seq ?_
     obtain ⟨v_40, hv41, h⟩ := bS h
     refine Tr.cutQ1 ([(0, .d (.ls (List.map eTStarter x_1))), (1, (dI best_2)), (4, .d (.b false)), (5, .d (.ls (List.map eTTeam r_8))), (6, (dI i_11)), (8, (dI number_33)), (9, (dI k_34)), (96, .d (.b v_40))]) ([]) ?_ (fun T1 H1 hw => ?_)
     ·replace h := hv41; clear hv41
      refine dq [] [(0,1),(1,1),(2,2),(3,2),(4,2),(5,1),(6,1),(7,1),(8,1),(9,2),(10,2),(11,2),(12,1),(13,1),(14,2),(15,2),(16,2),(17,2),(18,2),(19,1),(20,1),(21,1),(22,1),(23,1),(24,2),(25,2),(26,2),(27,1),(28,1),(29,1),(30,2),(31,2),(32,2),(33,1),(34,1)] ?_
      conv=>whnf
      refine q1 ?_
      conv=>whnf
      refine q1 ?_
      conv=>whnf
      obtain ⟨x_42, hx_42, h⟩ := bS h
      refine q3 (ixP_of hx_42 rr) ?_
      conv=>whnf
      refine q2 ?_
      conv=>whnf
      refine q2 ?_
      conv=>whnf
      refine q1 ?_
      conv=>whnf
      refine q1 ?_
      conv=>whnf
      refine cB h (fun hb43 h => ?_) (fun hb43 h => ?_)
      ·conv=>whnf
       refine q1 ?_
       conv=>whnf
       refine q1 ?_
       conv=>whnf
       obtain ⟨x_44, hx_44, h⟩ := bS h
       refine q3 (ixP_of hx_44 rr) ?_
       conv=>whnf
       refine q2 ?_
       conv=>whnf
       refine q2 ?_
       conv=>whnf
       refine q1 ?_
       conv=>whnf
       refine q1 ?_
       conv=>whnf
       obtain ⟨x_45, hx_45, h⟩ := bS h
       refine q3 (ixP_of hx_45 rr) ?_
       conv=>whnf
       refine q2 ?_
       conv=>whnf
       refine q2 ?_
       conv=>whnf
       obtain ⟨x_46, hx_46, h⟩ := bS h
       refine q3 (ixP_of hx_46 rr) ?_
       conv=>whnf
       refine q2 ?_
       conv=>whnf
       refine q1 ?_
       conv=>whnf
       refine q1 ?_
       conv=>whnf
       refine q1 ?_
       conv=>whnf
       refine cB h (fun hb47 h => ?_) (fun hb47 h => ?_)
       ·conv=>whnf
        refine q1 ?_
        conv=>whnf
        refine q1 ?_
        conv=>whnf
        obtain ⟨x_48, hx_48, h⟩ := bS h
        refine q3 (ixP_of hx_48 rr) ?_
        conv=>whnf
        refine q2 ?_
        conv=>whnf
        refine q2 ?_
        conv=>whnf
        obtain ⟨r_49, hc50, h⟩ := bS h
        refine q1 ?_ (fun _ => pe (P113 x_48.Team r_49 hc50) rr)
        conv=>whnf
        refine q1 ?_
        conv=>whnf
        refine q1 ?_
        conv=>whnf
        obtain ⟨x_51, hx_51, h⟩ := bS h
        refine q3 (ixP_of hx_51 rr) ?_
        conv=>whnf
        refine q2 ?_
        conv=>whnf
        refine q2 ?_
        conv=>whnf
        refine q1 ?_
        conv=>whnf
        refine q1 ?_
        conv=>whnf
        cases h
        exact Wk.mk2 [] 0 rfl rfl (by decide) rfl trivial ⟨rr, rr, rr, rr, rr, rr, rr, rr, trivial⟩
       conv=>whnf
       refine q1 ?_
       conv=>whnf
       cases h
       exact Wk.mk2 [] 0 rfl rfl (by decide) rfl trivial ⟨rr, rr, rr, rr, rr, rr, rr, rr, trivial⟩
      conv=>whnf
      refine q1 ?_
      conv=>whnf
      refine q1 ?_
      conv=>whnf
      refine q1 ?_
      conv=>whnf
      cases h
      exact Wk.mk2 [] 0 rfl rfl (by decide) rfl trivial ⟨rr, rr, rr, rr, rr, rr, rr, rr, trivial⟩
     clear hv41
     conv=>whnf
     refine Tr.weak hw ?_
     refine Tr.cond ?_
     conv=>whnf
     refine cB h (fun hb52 h => ?_) (fun hb52 h => ?_)
     ·refine rg ?_
      conv=>whnf
      obtain ⟨x_53, hx_53, h⟩ := bS h
      refine ixP_of hx_53 ?_
      conv=>whnf
      refine rg ?_
      conv=>whnf
      refine arS_raw ?_
      conv=>whnf
      refine ⟨(x_53.Team, (w64 (k_34 + 1))), h, ?_⟩
      exact Wk.mk2 [] 0 rfl rfl (by decide) rfl trivial ⟨rr, rr, rr, rr, rr, rr, rr, trivial⟩
     refine Tr.skip ?_
     conv=>whnf
     refine rg ?_
     conv=>whnf
     refine arS_raw ?_
     conv=>whnf
     refine ⟨(number_33, (w64 (k_34 + 1))), h, ?_⟩
     exact Wk.mk2 [] 0 rfl rfl (by decide) rfl trivial ⟨rr, rr, rr, rr, rr, rr, rr, trivial⟩
    refine Tr.exit ?_
    conv=>whnf
    cases h
    exact Wk.mk2 [] 0 rfl rfl (by decide) rfl trivial ⟨rr, rr, rr, rr, rr, rr, trivial⟩
   clear hv54
   conv=>whnf
   refine Tr.weak hw ?_
   refine Tr.seq ?_
   refine sg ?_
   conv=>whnf
   refine Tr.cond ?_
   conv=>whnf
   refine cB h (fun hb55 h => ?_) (fun hb55 h => ?_)
   ·refine sg ?_
    conv=>whnf
    refine Tr.ret ?_
    conv=>whnf
    cases h
    rfl
   refine Tr.skip ?_
   conv=>whnf
   refine sg ?_
   conv=>whnf
   refine Tr.cutQ (α := Unit) (fun s => ([(0, .d (.ls (List.map eTStarter x_1))), (1, (dI best_2)), (4, .d (.b false)), (5, .d (.ls (List.map eTTeam r_8))), (6, (dI i_11))], [])) (fun s => M117 i_11 (M119 x_1 best_2 r_8 M120 n_12) s = some r_3) ?_ ?_
   ·refine Tr.block ?_
    refine Tr.loopM (σ := Int) (fun n s => M116 x_1 r_8 i_11 number_36 (M117 i_11 (M119 x_1 best_2 r_8 M120 n_12)) n s) r_3 (fun s => ([(0, .d (.ls (List.map eTStarter x_1))), (1, (dI best_2)), (4, .d (.b false)), (5, .d (.ls (List.map eTTeam r_8))), (6, (dI i_11)), (8, (dI number_36)), (10, (dI s))], [])) (((((x_1).length : Int)) - 0 : Int).toNat + 1) (0) h (fun s => rfl) (Wk.mk2 [] 0 rfl rfl (by decide) rfl trivial ⟨rr, rr, rr, rr, rr, rr, rr, trivial⟩) ?_
    clear h
    rintro n_58 k_57 h
    replace h : M116 x_1 r_8 i_11 number_36 (M117 i_11 (M119 x_1 best_2 r_8 M120 n_12)) (n_58 + 1) k_57 = some r_3 := h
    rw [M116] at h
    refine Tr.seq ?_
    refine sg ?_
    conv=>whnf
    refine lnS_map ?_
    conv=>whnf
    refine Tr.cond ?_
    conv=>whnf
    refine cB h (fun hb61 h => ?_) (fun hb61 h => ?_)
    ·refine Tr.skip ?_
     conv=>whnf
     refine Tr.seq ?_
     refine Tr.block ?_
     refine Tr.seq ?_
     obtain ⟨v_62, hv63, h⟩ := bS h
     refine Tr.cutQ1 ([(0, .d (.ls (List.map eTStarter x_1))), (1, (dI best_2)), (4, .d (.b false)), (5, .d (.ls (List.map eTTeam r_8))), (6, (dI i_11)), (8, (dI number_36)), (10, (dI k_57)), (146, .d (.b v_62))]) ([]) ?_ (fun T1 H1 hw => ?_)
     ·replace h := hv63; clear hv63
      refine dq [] [(0,1),(1,1),(2,2),(3,2),(4,2),(5,1),(6,1),(7,1),(8,1),(9,1),(10,2),(11,2),(12,2),(13,1),(14,1),(15,1),(16,1),(17,1),(18,2),(19,2),(20,2),(21,1),(22,1),(23,1),(24,1),(25,1),(26,2),(27,2),(28,2),(29,1),(30,1),(31,2),(32,2),(33,2),(34,1),(35,1),(36,1)] ?_
      conv=>whnf
      refine q1 ?_
      conv=>whnf
      refine q1 ?_
      conv=>whnf
      obtain ⟨x_64, hx_64, h⟩ := bS h
      refine q3 (ixP_of hx_64 rr) ?_
      conv=>whnf
      refine q2 ?_
      conv=>whnf
      refine q2 ?_
      conv=>whnf
      refine q1 ?_
      conv=>whnf
      refine q1 ?_
      conv=>whnf
      refine q1 ?_
      conv=>whnf
      refine cB h (fun hb65 h => ?_) (fun hb65 h => ?_)
      ·conv=>whnf
       refine q1 ?_
       conv=>whnf
       refine q1 ?_
       conv=>whnf
       obtain ⟨x_66, hx_66, h⟩ := bS h
       refine q3 (ixP_of hx_66 rr) ?_
       conv=>whnf
       refine q2 ?_
       conv=>whnf
       refine q2 ?_
       conv=>whnf
       refine q1 ?_
       conv=>whnf
       refine q1 ?_
       conv=>whnf
       refine q1 ?_
       conv=>whnf
       refine cB h (fun hb67 h => ?_) (fun hb67 h => ?_)
       ·conv=>whnf
        refine q1 ?_
        conv=>whnf
        refine q1 ?_
        conv=>whnf
        obtain ⟨x_68, hx_68, h⟩ := bS h
        refine q3 (ixP_of hx_68 rr) ?_
        conv=>whnf
        refine q2 ?_
        conv=>whnf
        refine q2 ?_
        conv=>whnf
        refine q1 ?_
        conv=>whnf
        refine q1 ?_
        conv=>whnf
        refine q1 ?_
        conv=>whnf
        refine cB h (fun hb69 h => ?_) (fun hb69 h => ?_)
        ·conv=>whnf
         refine q1 ?_
         conv=>whnf
         refine q1 ?_
         conv=>whnf
         obtain ⟨x_70, hx_70, h⟩ := bS h
         refine q3 (ixP_of hx_70 rr) ?_
         conv=>whnf
         refine q2 ?_
         conv=>whnf
         refine q2 ?_
         conv=>whnf
         refine q1 ?_
         conv=>whnf
         refine q1 ?_
         conv=>whnf
         obtain ⟨x_71, hx_71, h⟩ := bS h
         refine q3 (ixP_of hx_71 rr) ?_
         conv=>whnf
         refine q2 ?_
         conv=>whnf
         refine q2 ?_
         conv=>whnf
         obtain ⟨r_72, hc73, h⟩ := bS h
         refine q1 ?_ (fun _ => pe (P111 x_70.Bibs x_71.Bib r_72 hc73) rr)
         conv=>whnf
         refine q1 ?_
         conv=>whnf
         refine q1 ?_
         conv=>whnf
         cases h
         exact Wk.mk2 [] 0 rfl rfl (by decide) rfl trivial ⟨rr, rr, rr, rr, rr, rr, rr, rr, trivial⟩
        conv=>whnf
        refine q1 ?_
        conv=>whnf
        cases h
        exact Wk.mk2 [] 0 rfl rfl (by decide) rfl trivial ⟨rr, rr, rr, rr, rr, rr, rr, rr, trivial⟩
       conv=>whnf
       refine q1 ?_
       conv=>whnf
       refine q1 ?_
       conv=>whnf
       refine q1 ?_
       conv=>whnf
       cases h
       exact Wk.mk2 [] 0 rfl rfl (by decide) rfl trivial ⟨rr, rr, rr, rr, rr, rr, rr, rr, trivial⟩
      conv=>whnf
      refine q1 ?_
      conv=>whnf
      refine q1 ?_
      conv=>whnf
      refine q1 ?_
      conv=>whnf
      refine q1 ?_
      conv=>whnf
      refine q1 ?_
      conv=>whnf
      cases h
      exact Wk.mk2 [] 0 rfl rfl (by decide) rfl trivial ⟨rr, rr, rr, rr, rr, rr, rr, rr, trivial⟩
     clear hv63
     conv=>whnf
     refine Tr.weak hw ?_
     refine Tr.cond ?_
     conv=>whnf
     refine cB h (fun hb74 h => ?_) (fun hb74 h => ?_)
     ·refine sg ?_
      conv=>whnf
      refine Tr.ret ?_
      conv=>whnf
      cases h
      rfl
     refine Tr.skip ?_
     conv=>whnf
     refine rg ?_
     conv=>whnf
     refine arS_raw ?_
     conv=>whnf
     refine ⟨((w64 (k_57 + 1))), h, ?_⟩
     exact Wk.mk2 [] 0 rfl rfl (by decide) rfl trivial ⟨rr, rr, rr, rr, rr, rr, rr, trivial⟩
    refine Tr.exit ?_
    conv=>whnf
    refine ⟨(), h, ?_⟩
    exact Wk.mk2 [] 0 rfl rfl (by decide) rfl trivial ⟨rr, rr, rr, rr, rr, trivial⟩
   clear h
   rintro _ h T1 H1 hw
   replace h : M117 i_11 (M119 x_1 best_2 r_8 M120 n_12) () = some r_3 := h
   conv=>whnf
   refine Tr.weak hw ?_
   unfold M117 at h
   refine rg ?_
   conv=>whnf
   refine arS_raw ?_
   conv=>whnf
   refine ⟨((w64 (i_11 + 1))), h, ?_⟩
   exact Wk.mk2 [] 0 rfl rfl (by decide) rfl trivial ⟨rr, rr, rr, rr, rr, trivial⟩
  refine Tr.exit ?_
  conv=>whnf
  refine ⟨(), h, ?_⟩
  exact Wk.mk2 [] 0 rfl rfl (by decide) rfl trivial ⟨rr, trivial⟩
 clear h
 rintro _ h T1 H1 hw
 replace h : M120 () = some r_3 := h
 conv=>whnf
 refine Tr.weak hw ?_
 unfold M120 at h
 refine sg ?_
 conv=>whnf
 refine Tr.ret ?_
 conv=>whnf
 cases h
 rfl
end Go.Proofs.Tryz
