/- Contracts of functions, by program (gen.py). No condition. -/
import Derived.Test.YtapjficbenpaeaaGreatZL
import Derived.Test.YtapjficbenpaeaaGreatZM
import Derived.Test.YtapjficbenpaeaaGreatZCB
import Derived.Test.YtapjficbenpaeaaGreatZS11
namespace Go.Proofs.Tryz
open Go Go.Abs Go.Stop
set_option maxRecDepth 8000
set_option linter.unusedVariables false
set_option linter.unusedSimpArgs false
theorem P347 (f_1 : TField) (h_2 : THistory) (runner_3 : Int) (r_4 : Int) (r_5 : Bool) (r_6 : Int) (h : M347 f_1 h_2 runner_3 = some (r_4, r_5, r_6)) :
    PC prog 14 [(eTField f_1), (eTHistory h_2), (.i .i64 runner_3)] (fun rs => rs = [(.i .i64 r_4), (.b r_5), (.i .i64 r_6)]) := by
 refine PC.of_tr (cx := ⟨28, none, lay, 0⟩) layOK func14 rfl rfl rfl rfl rfl (by simp [f14]) ?_
 unfold M347 at h
 refine sg ?_
 conv=>whnf
 refine sg ?_
 conv=>whnf
 obtain ⟨⟨r_7, r_8⟩, hc9, h⟩ := bS h
 refine PC.ecall (P345 f_1 h_2 runner_3 r_7 r_8 hc9) (fun rs hrs => ?_)
 subst hrs
 conv=>whnf
 refine Tr.seq ?_
 refine sg ?_
 conv=>whnf
 refine Tr.cond ?_
 conv=>whnf
 refine cB h (fun hb10 h => ?_) (fun hb10 h => ?_)
 ·refine sg ?_
  conv=>whnf
  refine Tr.ret ?_
  conv=>whnf
  cases h
  rfl
 refine Tr.skip ?_
 conv=>whnf
 refine sg ?_
 conv=>whnf
 obtain ⟨⟨r_11, r_12⟩, hc13, h⟩ := bS h
 refine PC.ecall (P346 r_7 runner_3 r_11 r_12 hc13) (fun rs hrs => ?_)
 subst hrs
 conv=>whnf
 refine sg ?_
 conv=>whnf
 refine Tr.ret ?_
 conv=>whnf
 cases h
 rfl
theorem P348 (s_1 : TSpan) (c_2 : Int) (r_3 : Bool) (h : M348 s_1 c_2 = some r_3) :
    PC prog 46 [(eTSpan s_1), (.ro [(.i .i64 c_2)])] (fun rs => rs = [(.b r_3)]) := by
 refine PC.of_tr (cx := ⟨14, none, lay, 0⟩) layOK func46 rfl rfl rfl rfl rfl (by simp [f46]) ?_
 unfold M348 at h
 refine sg ?_
 conv=>whnf
 refine sg ?_
 conv=>whnf
 refine cB h (fun hb4 h => ?_) (fun hb4 h => ?_)
 ·conv=>whnf
  refine Tr.ret ?_
  conv=>whnf
  cases h
  rfl
 conv=>whnf
 refine Tr.ret ?_
 conv=>whnf
 cases h
 rfl
theorem P351 (s_1 : List TSpan) (c_2 : Int) (r_3 : Int) (h : M351 s_1 c_2 = some r_3) :
    PC prog 76 [(.ls (List.map eTSpan s_1)), (.fn 46 [(.ro [(.i .i64 c_2)])])] (fun rs => rs = [(.i .i64 r_3)]) := by
 refine PC.of_tr (cx := ⟨19, none, lay, 0⟩) layOK func76 rfl rfl rfl rfl rfl (by simp [f76]) ?_
 unfold M351 at h
 refine sg ?_
 conv=>whnf
 refine Tr.seq ?_
 refine sg ?_
 conv=>whnf
 refine lnS_map ?_
 conv=>whnf
 refine Tr.cutQ (α := Unit) (fun s => ([(4, (dI 0))], [])) (fun s => M350 s = some r_3) ?_ ?_
 ·refine Tr.block ?_
  refine Tr.loopM (σ := Int) (fun n s => M349 s_1 c_2 M350 n s) r_3 (fun s => ([(0, .d (.ls (List.map eTSpan s_1))), (1, .d (.fn 46 [(.ro [(.i .i64 c_2)])])), (4, (dI 0)), (7, (dI (((s_1).length : Int)))), (8, (dI s))], [])) (((((s_1).length : Int)) - 0 : Int).toNat + 1) (0) h (fun s => rfl) (Wk.mk2 [] 0 rfl rfl (by decide) rfl trivial ⟨rr, rr, rr, rr, rr, trivial⟩) ?_
  clear h
  rintro n_6 v_5 h
  replace h : M349 s_1 c_2 M350 (n_6 + 1) v_5 = some r_3 := h
  rw [M349] at h
  refine sg ?_
  conv=>whnf
  refine Tr.seq ?_
  refine Tr.cond ?_
  conv=>whnf
  refine cB h (fun hb9 h => ?_) (fun hb9 h => ?_)
  ·refine Tr.skip ?_
   conv=>whnf
   refine Tr.seq ?_
   refine Tr.block ?_
   refine sg ?_
   conv=>whnf
   refine sg ?_
   conv=>whnf
   obtain ⟨x_10, hx_10, h⟩ := bS h
   refine ixP_of hx_10 ?_
   conv=>whnf
   obtain ⟨r_11, hc12, h⟩ := bS h
   refine PC.ecall (P348 x_10 c_2 r_11 hc12) (fun rs hrs => ?_)
   subst hrs
   conv=>whnf
   refine Tr.cond ?_
   conv=>whnf
   refine cB h (fun hb13 h => ?_) (fun hb13 h => ?_)
   ·refine sg ?_
    conv=>whnf
    refine Tr.ret ?_
    conv=>whnf
    cases h
    rfl
   refine Tr.skip ?_
   conv=>whnf
   refine rg ?_
   conv=>whnf
   refine arS_raw ?_
   conv=>whnf
   refine ⟨((w64 (v_5 + 1))), h, ?_⟩
   exact Wk.mk2 [] 0 rfl rfl (by decide) rfl trivial ⟨rr, rr, rr, rr, rr, trivial⟩
  refine Tr.exit ?_
  conv=>whnf
  refine ⟨(), h, ?_⟩
  exact Wk.mk2 [] 0 rfl rfl (by decide) rfl trivial ⟨rr, trivial⟩
 clear h
 rintro _ h T1 H1 hw
 replace h : M350 () = some r_3 := h
 conv=>whnf
 refine Tr.weak hw ?_
 unfold M350 at h
 refine sg ?_
 conv=>whnf
 refine Tr.ret ?_
 conv=>whnf
 cases h
 rfl
theorem P352 (s_1 : List TSpan) (c_2 : Int) (r_3 : Bool) (h : M352 s_1 c_2 = some r_3) :
    PC prog 45 [(.ls (List.map eTSpan s_1)), (.fn 46 [(.ro [(.i .i64 c_2)])])] (fun rs => rs = [(.b r_3)]) := by
 refine PC.of_tr (cx := ⟨9, none, lay, 0⟩) layOK func45 rfl rfl rfl rfl rfl (by simp [f45]) ?_
 unfold M352 at h
 refine sg ?_
 conv=>whnf
 refine sg ?_
 conv=>whnf
 obtain ⟨r_4, hc5, h⟩ := bS h
 refine PC.ecall (P351 s_1 c_2 r_4 hc5) (fun rs hrs => ?_)
 subst hrs
 conv=>whnf
 refine Tr.ret ?_
 conv=>whnf
 cases h
 rfl
theorem P353 (a_1 : List TSpan) (t_2 : Int) (r_3 : Bool) (h : M353 a_1 t_2 = some r_3) :
    PC prog 16 [(.ls (List.map eTSpan a_1)), (.i .i64 t_2)] (fun rs => rs = [(.b r_3)]) := by
 refine PC.of_tr (cx := ⟨8, none, lay, 0⟩) layOK func16 rfl rfl rfl rfl rfl (by simp [f16]) ?_
 unfold M353 at h
 refine sg ?_
 conv=>whnf
 refine sg ?_
 conv=>whnf
 obtain ⟨r_4, hc5, h⟩ := bS h
 refine PC.ecall_lend ?_ ⟨_, _, func45, rfl, rfl⟩
 conv=>whnf
 refine ⟨_, P352 a_1 t_2 r_4 hc5, fun rs hrs => ?_⟩
 subst hrs
 refine ⟨rfl, ?_⟩
 conv=>whnf
 refine Tr.ret ?_
 conv=>whnf
 cases h
 rfl
theorem P356 (f_1 : List TField) (h_2 : List THistory) (bib_3 : Int) (r_4 : Bool) (h : M356 f_1 h_2 bib_3 = some r_4) :
    PC prog 3 [(.ls (List.map eTField f_1)), (.ls (List.map eTHistory h_2)), (.i .i64 bib_3)] (fun rs => rs = [(.b r_4)]) := by
 refine PC.of_tr (cx := ⟨109, none, lay, 0⟩) layOK func3 rfl rfl rfl rfl rfl (by simp [f3]) ?_
 unfold M356 at h
 refine sg ?_
 conv=>whnf
 refine Tr.seq ?_
 refine sg ?_
 conv=>whnf
 obtain ⟨r_5, hc6, h⟩ := bS h
 refine PC.ecall (P243 r_5 hc6) (fun rs hrs => ?_)
 subst hrs
 conv=>whnf
 refine Tr.cond ?_
 conv=>whnf
 refine cB h (fun hb7 h => ?_) (fun hb7 h => ?_)
 ·refine sg ?_
  conv=>whnf
  refine Tr.ret ?_
  conv=>whnf
  cases h
  rfl
 refine Tr.skip ?_
 conv=>whnf
 refine Tr.seq ?_
 refine sg ?_
 conv=>whnf
 obtain ⟨r_8, hc9, h⟩ := bS h
 refine PC.ecall (P253 f_1 r_8 hc9) (fun rs hrs => ?_)
 subst hrs
 conv=>whnf
 refine cB h (fun hb10 h => ?_) (fun hb10 h => ?_)
 ·conv=>whnf
  refine Tr.cond ?_
  conv=>whnf
  refine sg ?_
  conv=>whnf
  refine Tr.ret ?_
  conv=>whnf
  cases h
  rfl
 conv=>whnf
 refine lnS_map ?_
 conv=>whnf
 refine lnS_map ?_
 conv=>whnf
 refine Tr.cond ?_
 conv=>whnf
 refine cB h (fun hb11 h => ?_) (fun hb11 h => ?_)
 ·refine sg ?_
  conv=>whnf
  refine Tr.ret ?_
  conv=>whnf
  cases h
  rfl
 refine Tr.skip ?_
 conv=>whnf
 refine sg ?_
 conv=>whnf
 refine sg ?_
 conv=>whnf
 refine Tr.seq ?_
 refine sg ?_
 conv=>whnf
 refine Tr.cutQ (α := Int × Bool) (fun s => ([(0, .d (.ls (List.map eTField f_1))), (2, (dI bib_3)), (6, .d (.b false)), (7, (dI s.1)), (8, .d (.b s.2))], [])) (fun s => M355 f_1 bib_3 s.1 s.2 = some r_4) ?_ ?_
 ·refine Tr.block ?_
  refine Tr.loopM (σ := Int × Bool × Int) (fun n s => M354 f_1 h_2 bib_3 (M355 f_1 bib_3) n s.1 s.2.1 s.2.2) r_4 (fun s => ([(0, .d (.ls (List.map eTField f_1))), (1, .d (.ls (List.map eTHistory h_2))), (2, (dI bib_3)), (6, .d (.b false)), (7, (dI s.1)), (8, .d (.b s.2.1)), (9, (dI s.2.2))], [])) (((((f_1).length : Int)) - 0 : Int).toNat + 1) (0, false, 0) h (fun s => rfl) (Wk.mk2 [] 0 rfl rfl (by decide) rfl trivial ⟨rr, rr, rr, rr, rr, rr, rr, trivial⟩) ?_
  clear h
  rintro n_18 ⟨sum_15, out_16, i_17⟩ h
  replace h : M354 f_1 h_2 bib_3 (M355 f_1 bib_3) (n_18 + 1) sum_15 out_16 i_17 = some r_4 := h
  rw [M354] at h
  refine Tr.seq ?_
  refine sg ?_
  conv=>whnf
  refine lnS_map ?_
  conv=>whnf
  refine Tr.cond ?_
  conv=>whnf
  refine cB h (fun hb23 h => ?_) (fun hb23 h => ?_)
  ·refine Tr.skip ?_
   conv=>whnf
   refine Tr.seq ?_
   refine Tr.block ?_
   refine Tr.seq ?_
   refine sd [] [(0,1),(1,1),(2,2),(3,2),(4,1),(5,1),(6,2),(7,2),(8,1),(9,1)] ?_
   conv=>whnf
   refine q1 ?_
   conv=>whnf
   refine q1 ?_
   conv=>whnf
   obtain ⟨x_24, hx_24, h⟩ := bS h
   refine q3 (ixP_of hx_24 rr) ?_
   conv=>whnf
   refine q2 ?_
   conv=>whnf
   refine q1 ?_
   conv=>whnf
   refine q1 ?_
   conv=>whnf
   obtain ⟨x_25, hx_25, h⟩ := bS h
   refine q3 (ixP_of hx_25 rr) ?_
   conv=>whnf
   refine q2 ?_
   conv=>whnf
   obtain ⟨r_26, hc27, h⟩ := bS h
   refine q1 ?_ (fun _ => pe (P344 x_24 x_25 r_26 hc27) rr)
   conv=>whnf
   refine q1 ?_
   conv=>whnf
   refine Tr.cond ?_
   conv=>whnf
   refine cB h (fun hb28 h => ?_) (fun hb28 h => ?_)
   ·refine sg ?_
    conv=>whnf
    refine Tr.ret ?_
    conv=>whnf
    cases h
    rfl
   refine Tr.skip ?_
   conv=>whnf
   refine sg ?_
   conv=>whnf
   obtain ⟨x_29, hx_29, h⟩ := bS h
   refine ixP_of hx_29 ?_
   conv=>whnf
   obtain ⟨⟨r_30, r_31⟩, hc32, h⟩ := bS h
   refine PC.ecall (P54 x_29 bib_3 r_30 r_31 hc32) (fun rs hrs => ?_)
   subst hrs
   conv=>whnf
   refine Tr.seq ?_
   refine sg ?_
   conv=>whnf
   refine Tr.cond ?_
   conv=>whnf
   refine cB h (fun hb33 h => ?_) (fun hb33 h => ?_)
   ·refine sg ?_
    conv=>whnf
    refine Tr.exit ?_
    conv=>whnf
    refine rg ?_
    conv=>whnf
    refine arS_raw ?_
    conv=>whnf
    refine ⟨(sum_15, true, (w64 (i_17 + 1))), h, ?_⟩
    exact Wk.mk2 [] 0 rfl rfl (by decide) rfl trivial ⟨rr, rr, rr, rr, rr, rr, rr, trivial⟩
   refine Tr.skip ?_
   conv=>whnf
   refine sd [] [(0,1),(1,1),(2,2),(3,2),(4,1),(5,1),(6,2),(7,2),(8,1),(9,1),(10,1),(11,1),(12,1),(13,1),(14,1),(15,1),(16,1)] ?_
   conv=>whnf
   refine q1 ?_
   conv=>whnf
   refine q1 ?_
   conv=>whnf
   obtain ⟨x_34, hx_34, h⟩ := bS h
   refine q3 (ixP_of hx_34 rr) ?_
   conv=>whnf
   refine q2 ?_
   conv=>whnf
   refine q1 ?_
   conv=>whnf
   refine q1 ?_
   conv=>whnf
   obtain ⟨x_35, hx_35, h⟩ := bS h
   refine q3 (ixP_of hx_35 rr) ?_
   conv=>whnf
   refine q2 ?_
   conv=>whnf
   refine q1 ?_
   conv=>whnf
   obtain ⟨⟨r_36, r_37, r_38⟩, hc39, h⟩ := bS h
   refine q1 ?_ (fun _ => pe (P347 x_34 x_35 r_30 r_36 r_37 r_38 hc39) rr)
   conv=>whnf
   refine q1 ?_
   conv=>whnf
   refine q1 ?_
   conv=>whnf
   refine q1 ?_
   conv=>whnf
   refine q1 ?_
   conv=>whnf
   refine q1 ?_
   conv=>whnf
   refine q1 ?_
   conv=>whnf
   refine q1 ?_
   conv=>whnf
   refine Tr.seq ?_
   refine sg ?_
   conv=>whnf
   refine Tr.cond ?_
   conv=>whnf
   refine cB h (fun hb40 h => ?_) (fun hb40 h => ?_)
   ·refine sg ?_
    conv=>whnf
    refine Tr.ret ?_
    conv=>whnf
    cases h
    rfl
   refine Tr.skip ?_
   conv=>whnf
   refine sg ?_
   conv=>whnf
   refine cB h (fun hb41 h => ?_) (fun hb41 h => ?_)
   ·conv=>whnf
    refine rg ?_
    conv=>whnf
    refine arS_raw ?_
    conv=>whnf
    refine rg ?_
    conv=>whnf
    refine arS_raw ?_
    conv=>whnf
    refine ⟨((w64 (sum_15 + r_36)), true, (w64 (i_17 + 1))), h, ?_⟩
    exact Wk.mk2 [] 0 rfl rfl (by decide) rfl trivial ⟨rr, rr, rr, rr, rr, rr, rr, trivial⟩
   conv=>whnf
   refine rg ?_
   conv=>whnf
   refine arS_raw ?_
   conv=>whnf
   refine rg ?_
   conv=>whnf
   refine arS_raw ?_
   conv=>whnf
   refine ⟨((w64 (sum_15 + r_36)), (!r_37), (w64 (i_17 + 1))), h, ?_⟩
   exact Wk.mk2 [] 0 rfl rfl (by decide) rfl trivial ⟨rr, rr, rr, rr, rr, rr, rr, trivial⟩
  refine Tr.exit ?_
  conv=>whnf
  refine ⟨(sum_15, out_16), h, ?_⟩
  exact Wk.mk2 [] 0 rfl rfl (by decide) rfl trivial ⟨rr, rr, rr, rr, rr, trivial⟩
 clear h
 rintro ⟨sum_19, out_20⟩ h T1 H1 hw
 replace h : M355 f_1 bib_3 sum_19 out_20 = some r_4 := h
 conv=>whnf
 refine Tr.weak hw ?_
 unfold M355 at h
 refine sg ?_
 conv=>whnf
 obtain ⟨⟨r_42, r_43⟩, hc44, h⟩ := bS h
 refine PC.ecall (P145 f_1 bib_3 r_42 r_43 hc44) (fun rs hrs => ?_)
 subst hrs
 conv=>whnf
 refine Tr.seq ?_
 refine sg ?_
 conv=>whnf
 refine Tr.cond ?_
 conv=>whnf
 refine cB h (fun hb45 h => ?_) (fun hb45 h => ?_)
 ·refine Tr.seq ?_
  refine Tr.cutQ1 ([(6, .d (.b ((r_43 == 330) || ((r_43 == 250) || ((r_43 == 2) || (r_43 == 10)))))), (7, (dI sum_19)), (8, .d (.b out_20)), (15, .pt 0 0)]) ([some (.var [(dI r_42.Bib), .d (.ls (List.map eTSpan r_42.Sums)), .d (.b r_42.Out)])]) ?_ (fun T1 H1 hw => ?_)
  ·refine rg ?_
   conv=>whnf
   refine condS_mk (fun hb47 => ?_) (fun hb47 => ?_)
   ·conv=>whnf
    exact Wk.mk2 [0] 1 rfl rfl (by decide) rfl ⟨rr, trivial⟩ ⟨⟨rfl, (by first | rfl | (simp only [↓hb7, ↓hb10, ↓hb11, ↓hb45, ↓hb47, bl]; done) | (simp only [↓hb7, ↓hb10, ↓hb11, ↓hb45, ↓hb47, bl]; rfl))⟩, rr, rr, rr, trivial⟩
   conv=>whnf
   refine condS_mk (fun hb48 => ?_) (fun hb48 => ?_)
   ·conv=>whnf
    exact Wk.mk2 [0] 1 rfl rfl (by decide) rfl ⟨rr, trivial⟩ ⟨⟨rfl, (by first | rfl | (simp only [↓hb7, ↓hb10, ↓hb11, ↓hb45, ↓hb47, ↓hb48, bl]; done) | (simp only [↓hb7, ↓hb10, ↓hb11, ↓hb45, ↓hb47, ↓hb48, bl]; rfl))⟩, rr, rr, rr, trivial⟩
   conv=>whnf
   refine condS_mk (fun hb49 => ?_) (fun hb49 => ?_)
   ·conv=>whnf
    exact Wk.mk2 [0] 1 rfl rfl (by decide) rfl ⟨rr, trivial⟩ ⟨⟨rfl, (by first | rfl | (simp only [↓hb7, ↓hb10, ↓hb11, ↓hb45, ↓hb47, ↓hb48, ↓hb49, bl]; done) | (simp only [↓hb7, ↓hb10, ↓hb11, ↓hb45, ↓hb47, ↓hb48, ↓hb49, bl]; rfl))⟩, rr, rr, rr, trivial⟩
   conv=>whnf
   exact Wk.mk2 [0] 1 rfl rfl (by decide) rfl ⟨rr, trivial⟩ ⟨⟨rfl, (by first | rfl | (simp only [↓hb7, ↓hb10, ↓hb11, ↓hb45, ↓hb47, ↓hb48, ↓hb49, bl]; done) | (simp only [↓hb7, ↓hb10, ↓hb11, ↓hb45, ↓hb47, ↓hb48, ↓hb49, bl]; rfl))⟩, rr, rr, rr, trivial⟩
  conv=>whnf
  refine Tr.weak hw ?_
  refine Tr.ret ?_
  conv=>whnf
  cases h
  rfl
 refine Tr.skip ?_
 conv=>whnf
 refine Tr.seq ?_
 refine sg ?_
 conv=>whnf
 refine Tr.cond ?_
 conv=>whnf
 refine cB h (fun hb50 h => ?_) (fun hb50 h => ?_)
 ·refine sg ?_
  conv=>whnf
  refine Tr.ret ?_
  conv=>whnf
  cases h
  rfl
 refine Tr.skip ?_
 conv=>whnf
 refine sg ?_
 conv=>whnf
 obtain ⟨r_51, hc52, h⟩ := bS h
 refine PC.ecall (P353 r_42.Sums sum_19 r_51 hc52) (fun rs hrs => ?_)
 subst hrs
 conv=>whnf
 refine Tr.ret ?_
 conv=>whnf
 cases h
 rfl
end Go.Proofs.Tryz
