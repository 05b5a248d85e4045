/- Contracts of functions, by program (gen.py). No condition. -/
import Derived.Test.YtolclhjojfcipaaGreatZL
import Derived.Test.YtolclhjojfcipaaGreatZM
import Derived.Test.YtolclhjojfcipaaGreatZS9
namespace Go.Proofs.Tryz
open Go Go.Abs Go.Stop
set_option maxRecDepth 8000
set_option linter.unusedVariables false
set_option linter.unusedSimpArgs false
theorem P227 (s_1 : List TOutcome) (c_2 : List (List Int)) (c_3 : Int) (c_4 : List Int) (c_5 : List (List TOutcome)) (c_6 : Int) (c_7 : List Int) (c_8 : List (List TOutcome)) (c_9 : Bool) (c_10 : Int) (c_11 : Int) (c_12 : Int) (r_13 : Int) (h : M227 s_1 c_2 c_3 c_4 c_5 c_6 c_7 c_8 c_9 c_10 c_11 c_12 = some r_13) :
    PC prog 63 [(.ls (List.map eTOutcome s_1)), (.fn 52 [(.ro [(.ls (List.map (eL eI) c_2)), (.i .i64 c_3), (.ls (List.map eI c_4)), (.ls (List.map (eL eTOutcome) c_5)), (.i .i64 c_6), (.ls (List.map eI c_7)), (.ls (List.map (eL eTOutcome) c_8)), (.b c_9), (.i .i64 c_10), (.i .i64 c_11), (.i .i64 c_12)])])] (fun rs => rs = [(.i .i64 r_13)]) := by
 refine PC.of_tr (cx := ⟨19, none, lay, 0⟩) layOK func63 rfl rfl rfl rfl rfl (by simp [f63]) ?_
 unfold M227 at h
 refine Tr.seq ?_
 refine rg ?_
 conv => whnf
 refine Tr.seq ?_
 refine Tr.seq ?_
 refine rg ?_
 conv => whnf
 refine lnS_map ?_
 conv => whnf
 refine Tr.cutQ (α := Unit) (fun s => ([(4, (dI 0))], [])) (fun s => M226 s = some r_13) ?_ ?_
 ·refine Tr.block ?_
  refine Tr.loopM (σ := Int) (fun n s => M225 s_1 c_2 c_3 c_4 c_5 c_6 c_7 c_8 c_9 c_10 c_11 c_12 M226 n s) r_13 (fun s => ([(0, .d (.ls (List.map eTOutcome s_1))), (1, .d (.fn 52 [(.ro [(.ls (List.map (eL eI) c_2)), (.i .i64 c_3), (.ls (List.map eI c_4)), (.ls (List.map (eL eTOutcome) c_5)), (.i .i64 c_6), (.ls (List.map eI c_7)), (.ls (List.map (eL eTOutcome) c_8)), (.b c_9), (.i .i64 c_10), (.i .i64 c_11), (.i .i64 c_12)])])), (4, (dI 0)), (7, (dI (((s_1).length : Int)))), (8, (dI s))], [])) (((((s_1).length : Int)) - 0 : Int).toNat + 1) (0) h (fun s => rfl) (Wk.mk2 [] 0 rfl rfl (by decide) rfl trivial ⟨rr, rr, rr, rr, rr, trivial⟩) ?_
  clear h
  rintro n_16 v_15 h
  replace h : M225 s_1 c_2 c_3 c_4 c_5 c_6 c_7 c_8 c_9 c_10 c_11 c_12 M226 (n_16 + 1) v_15 = some r_13 := h
  rw [M225] at h
  refine Tr.seq ?_
  refine rg ?_
  conv => whnf
  refine Tr.seq ?_
  refine Tr.cond ?_
  conv => whnf
  refine cB h (fun hb19 h => ?_) (fun hb19 h => ?_)
  ·refine Tr.skip ?_
   conv => whnf
   refine Tr.seq ?_
   refine Tr.block ?_
   refine Tr.seq ?_
   refine rg ?_
   conv => whnf
   refine Tr.seq ?_
   refine rg ?_
   conv => whnf
   obtain ⟨x_20, hx_20, h⟩ := bS h
   refine ixP_of hx_20 ?_
   conv => whnf
   obtain ⟨r_21, hc22, h⟩ := bS h
   refine PC.ecall (P224 x_20 c_2 c_3 c_4 c_5 c_6 c_7 c_8 c_9 c_10 c_11 c_12 r_21 hc22) (fun rs hrs => ?_)
   subst hrs
   conv => whnf
   refine Tr.cond ?_
   conv => whnf
   refine cB h (fun hb23 h => ?_) (fun hb23 h => ?_)
   ·refine Tr.seq ?_
    refine rg ?_
    conv => whnf
    refine Tr.ret ?_
    conv => whnf
    cases h
    rfl
   refine Tr.skip ?_
   conv => whnf
   refine rg ?_
   conv => whnf
   refine arS_raw ?_
   conv => whnf
   refine ⟨((w64 (v_15 + 1))), h, ?_⟩
   exact Wk.mk2 [] 0 rfl rfl (by decide) rfl trivial ⟨rr, rr, rr, rr, rr, trivial⟩
  refine Tr.exit ?_
  conv => whnf
  refine ⟨(), h, ?_⟩
  exact Wk.mk2 [] 0 rfl rfl (by decide) rfl trivial ⟨rr, trivial⟩
 clear h
 rintro _ h T1 H1 hw
 replace h : M226 () = some r_13 := h
 conv => whnf
 refine Tr.weak hw ?_
 unfold M226 at h
 refine Tr.seq ?_
 refine rg ?_
 conv => whnf
 refine Tr.ret ?_
 conv => whnf
 cases h
 rfl
theorem P228 (s_1 : List TOutcome) (c_2 : List (List Int)) (c_3 : Int) (c_4 : List Int) (c_5 : List (List TOutcome)) (c_6 : Int) (c_7 : List Int) (c_8 : List (List TOutcome)) (c_9 : Bool) (c_10 : Int) (c_11 : Int) (c_12 : Int) (r_13 : Bool) (h : M228 s_1 c_2 c_3 c_4 c_5 c_6 c_7 c_8 c_9 c_10 c_11 c_12 = some r_13) :
    PC prog 51 [(.ls (List.map eTOutcome s_1)), (.fn 52 [(.ro [(.ls (List.map (eL eI) c_2)), (.i .i64 c_3), (.ls (List.map eI c_4)), (.ls (List.map (eL eTOutcome) c_5)), (.i .i64 c_6), (.ls (List.map eI c_7)), (.ls (List.map (eL eTOutcome) c_8)), (.b c_9), (.i .i64 c_10), (.i .i64 c_11), (.i .i64 c_12)])])] (fun rs => rs = [(.b r_13)]) := by
 refine PC.of_tr (cx := ⟨9, none, lay, 0⟩) layOK func51 rfl rfl rfl rfl rfl (by simp [f51]) ?_
 unfold M228 at h
 refine Tr.seq ?_
 refine rg ?_
 conv => whnf
 refine Tr.seq ?_
 refine rg ?_
 conv => whnf
 obtain ⟨r_14, hc15, h⟩ := bS h
 refine PC.ecall (P227 s_1 c_2 c_3 c_4 c_5 c_6 c_7 c_8 c_9 c_10 c_11 c_12 r_14 hc15) (fun rs hrs => ?_)
 subst hrs
 conv => whnf
 refine Tr.ret ?_
 conv => whnf
 cases h
 rfl
theorem P229 (d_1 : Twitness_duel) (y_2 : TOutcome) (r_3 : Bool) (h : M229 d_1 y_2 = some r_3) :
    PC prog 54 [(eTwitness_duel d_1), (eTOutcome y_2)] (fun rs => rs = [(.b r_3)]) := by
 refine PC.of_tr (cx := ⟨32, none, lay, 0⟩) layOK func54 rfl rfl rfl rfl rfl (by simp [f54]) ?_
 unfold M229 at h
 refine Tr.seq ?_
 refine rg ?_
 conv => whnf
 refine Tr.seq ?_
 refine Tr.draw (DrawP.seqQ layOK mixed [] [(0, 4), (1, 4), (2, 1), (3, 1), (4, 3), (5, 4), (6, 4), (7, 3), (8, 3), (9, 3), (10, 1), (11, 3), (12, 3), (13, 4), (14, 4), (15, 1), (16, 2), (17, 2), (18, 3), (19, 3), (20, 3), (21, 1), (22, 2), (23, 2), (24, 1), (25, 1), (26, 1), (27, 1)] (by kernel_rfl) ?_)
 conv => whnf
 refine ⟨_, ⟨rfl, rfl, rr⟩, ?_⟩
 conv => whnf
 refine ⟨_, ⟨rfl, rfl, rr⟩, ?_⟩
 conv => whnf
 refine ⟨_, (fun _ => rr), ?_⟩
 conv => whnf
 refine ⟨_, (fun _ => rr), ?_⟩
 conv => whnf
 refine cB h (fun hb4 h => ?_) (fun hb4 h => ?_)
 ·conv => whnf
  refine ⟨_, ⟨rfl, rfl, rr⟩, ?_⟩
  conv => whnf
  refine ⟨_, ⟨rfl, rfl, rr⟩, ?_⟩
  conv => whnf
  refine ⟨_, ⟨rfl, rfl, rr⟩, ?_⟩
  conv => whnf
  refine ⟨_, ⟨rfl, rfl, rr⟩, ?_⟩
  conv => whnf
  refine ⟨_, ⟨rfl, rfl, rr⟩, ?_⟩
  conv => whnf
  refine ⟨_, ⟨rfl, rfl, rr⟩, ?_⟩
  conv => whnf
  refine ⟨_, (fun _ => by (conv => whnf); (refine arS_raw ?_); (conv => whnf); (exact rr)), ?_⟩
  conv => whnf
  refine ⟨_, ⟨rfl, rfl, rr⟩, ?_⟩
  conv => whnf
  refine ⟨_, ⟨rfl, rfl, rr⟩, ?_⟩
  conv => whnf
  refine ⟨_, ⟨rfl, rfl, rr⟩, ?_⟩
  conv => whnf
  refine ⟨_, ⟨rfl, rfl, rr⟩, ?_⟩
  conv => whnf
  refine ⟨_, (fun _ => by (conv => whnf); (refine arS_raw ?_); (conv => whnf); (exact rr)), ?_⟩
  conv => whnf
  obtain ⟨x_5, hx_5, h⟩ := bS h
  refine ⟨_, ⟨rfl, rfl, (by (conv => whnf); (refine ixP_of hx_5 ?_); (conv => whnf); (exact rr))⟩, ?_⟩
  conv => whnf
  refine ⟨_, ⟨rfl, rfl, rr⟩, ?_⟩
  conv => whnf
  refine ⟨_, ⟨rfl, rfl, rr⟩, ?_⟩
  conv => whnf
  refine ⟨_, ⟨rfl, rfl, rr⟩, ?_⟩
  conv => whnf
  refine ⟨_, ⟨rfl, rfl, rr⟩, ?_⟩
  conv => whnf
  refine ⟨_, (fun _ => by (conv => whnf); (refine arS_raw ?_); (conv => whnf); (exact rr)), ?_⟩
  conv => whnf
  obtain ⟨x_6, hx_6, h⟩ := bS h
  refine ⟨_, ⟨rfl, rfl, (by (conv => whnf); (refine ixP_of hx_6 ?_); (conv => whnf); (exact rr))⟩, ?_⟩
  conv => whnf
  refine ⟨_, ⟨rfl, rfl, rr⟩, ?_⟩
  conv => whnf
  refine ⟨_, (fun _ => by (conv => whnf); (refine arS_raw ?_); (conv => whnf); (exact rr)), ?_⟩
  conv => whnf
  obtain ⟨r_7, hc8, h⟩ := bS h
  refine ⟨_, (fun _ => by (conv => whnf); (refine PC.ecall (P222 d_1 ((w64 ((w64 (y_2.Lo - d_1.x.Hi)) - x_6))) r_7 hc8) (fun rs hrs => ?_)); (subst hrs); (conv => whnf); (exact rr)), ?_⟩
  conv => whnf
  refine ⟨_, (fun _ => rr), ?_⟩
  conv => whnf
  refine ⟨_, (fun _ => rr), ?_⟩
  conv => whnf
  refine Tr.ret ?_
  conv => whnf
  cases h
  rfl
 conv => whnf
 refine ⟨_, (fun _ => rr), ?_⟩
 conv => whnf
 refine ⟨_, (fun _ => rr), ?_⟩
 conv => whnf
 refine Tr.ret ?_
 conv => whnf
 cases h
 rfl
theorem P232 (s_1 : List TOutcome) (c_2 : Twitness_duel) (r_3 : Int) (h : M232 s_1 c_2 = some r_3) :
    PC prog 63 [(.ls (List.map eTOutcome s_1)), (.fm 54 [(eTwitness_duel c_2)])] (fun rs => rs = [(.i .i64 r_3)]) := by
 refine PC.of_tr (cx := ⟨19, none, lay, 0⟩) layOK func63 rfl rfl rfl rfl rfl (by simp [f63]) ?_
 unfold M232 at h
 refine Tr.seq ?_
 refine rg ?_
 conv => whnf
 refine Tr.seq ?_
 refine Tr.seq ?_
 refine rg ?_
 conv => whnf
 refine lnS_map ?_
 conv => whnf
 refine Tr.cutQ (α := Unit) (fun s => ([(4, (dI 0))], [])) (fun s => M231 s = some r_3) ?_ ?_
 ·refine Tr.block ?_
  refine Tr.loopM (σ := Int) (fun n s => M230 s_1 c_2 M231 n s) r_3 (fun s => ([(0, .d (.ls (List.map eTOutcome s_1))), (1, .d (.fm 54 [(eTwitness_duel c_2)])), (4, (dI 0)), (7, (dI (((s_1).length : Int)))), (8, (dI s))], [])) (((((s_1).length : Int)) - 0 : Int).toNat + 1) (0) h (fun s => rfl) (Wk.mk2 [] 0 rfl rfl (by decide) rfl trivial ⟨rr, rr, rr, rr, rr, trivial⟩) ?_
  clear h
  rintro n_6 v_5 h
  replace h : M230 s_1 c_2 M231 (n_6 + 1) v_5 = some r_3 := h
  rw [M230] at h
  refine Tr.seq ?_
  refine rg ?_
  conv => whnf
  refine Tr.seq ?_
  refine Tr.cond ?_
  conv => whnf
  refine cB h (fun hb9 h => ?_) (fun hb9 h => ?_)
  ·refine Tr.skip ?_
   conv => whnf
   refine Tr.seq ?_
   refine Tr.block ?_
   refine Tr.seq ?_
   refine rg ?_
   conv => whnf
   refine Tr.seq ?_
   refine rg ?_
   conv => whnf
   obtain ⟨x_10, hx_10, h⟩ := bS h
   refine ixP_of hx_10 ?_
   conv => whnf
   obtain ⟨r_11, hc12, h⟩ := bS h
   refine PC.ecall (P229 c_2 x_10 r_11 hc12) (fun rs hrs => ?_)
   subst hrs
   conv => whnf
   refine Tr.cond ?_
   conv => whnf
   refine cB h (fun hb13 h => ?_) (fun hb13 h => ?_)
   ·refine Tr.seq ?_
    refine rg ?_
    conv => whnf
    refine Tr.ret ?_
    conv => whnf
    cases h
    rfl
   refine Tr.skip ?_
   conv => whnf
   refine rg ?_
   conv => whnf
   refine arS_raw ?_
   conv => whnf
   refine ⟨((w64 (v_5 + 1))), h, ?_⟩
   exact Wk.mk2 [] 0 rfl rfl (by decide) rfl trivial ⟨rr, rr, rr, rr, rr, trivial⟩
  refine Tr.exit ?_
  conv => whnf
  refine ⟨(), h, ?_⟩
  exact Wk.mk2 [] 0 rfl rfl (by decide) rfl trivial ⟨rr, trivial⟩
 clear h
 rintro _ h T1 H1 hw
 replace h : M231 () = some r_3 := h
 conv => whnf
 refine Tr.weak hw ?_
 unfold M231 at h
 refine Tr.seq ?_
 refine rg ?_
 conv => whnf
 refine Tr.ret ?_
 conv => whnf
 cases h
 rfl
theorem P233 (s_1 : List TOutcome) (c_2 : Twitness_duel) (r_3 : Bool) (h : M233 s_1 c_2 = some r_3) :
    PC prog 51 [(.ls (List.map eTOutcome s_1)), (.fm 54 [(eTwitness_duel c_2)])] (fun rs => rs = [(.b r_3)]) := by
 refine PC.of_tr (cx := ⟨9, none, lay, 0⟩) layOK func51 rfl rfl rfl rfl rfl (by simp [f51]) ?_
 unfold M233 at h
 refine Tr.seq ?_
 refine rg ?_
 conv => whnf
 refine Tr.seq ?_
 refine rg ?_
 conv => whnf
 obtain ⟨r_4, hc5, h⟩ := bS h
 refine PC.ecall (P232 s_1 c_2 r_4 hc5) (fun rs hrs => ?_)
 subst hrs
 conv => whnf
 refine Tr.ret ?_
 conv => whnf
 cases h
 rfl
theorem P238 (f_1 : TField) (r_2 : TRank) (r_3 : Int) (h : M238 f_1 r_2 = some r_3) :
    PC prog 20 [(eTField f_1), (eTRank r_2)] (fun rs => rs = [(.i .i64 r_3)]) := by
 refine PC.of_tr (cx := ⟨101, none, lay, 0⟩) layOK func20 rfl rfl rfl rfl rfl (by simp [f20]) ?_
 unfold M238 at h
 refine Tr.seq ?_
 refine rg ?_
 conv => whnf
 refine Tr.seq ?_
 refine Tr.seq ?_
 refine rg ?_
 conv => whnf
 obtain ⟨r_4, hc5, h⟩ := bS h
 refine PC.ecall (P46 f_1 r_4 hc5) (fun rs hrs => ?_)
 subst hrs
 conv => whnf
 refine Tr.cond ?_
 conv => whnf
 refine cB h (fun hb6 h => ?_) (fun hb6 h => ?_)
 ·refine Tr.seq ?_
  refine rg ?_
  conv => whnf
  refine Tr.ret ?_
  conv => whnf
  cases h
  rfl
 refine Tr.skip ?_
 conv => whnf
 refine Tr.seq ?_
 refine rg ?_
 conv => whnf
 obtain ⟨⟨r_7, r_8⟩, hc9, h⟩ := bS h
 refine PC.ecall (P191 f_1 r_2.Bib r_7 r_8 hc9) (fun rs hrs => ?_)
 subst hrs
 conv => whnf
 refine Tr.seq ?_
 refine Tr.seq ?_
 refine rg ?_
 conv => whnf
 refine Tr.cond ?_
 conv => whnf
 refine cB h (fun hb10 h => ?_) (fun hb10 h => ?_)
 ·refine Tr.seq ?_
  refine rg ?_
  conv => whnf
  refine Tr.ret ?_
  conv => whnf
  cases h
  rfl
 refine Tr.skip ?_
 conv => whnf
 refine Tr.seq ?_
 refine Tr.seq ?_
 refine rg ?_
 conv => whnf
 obtain ⟨⟨c_11, c_12, c_13, c_14⟩, hc15, h⟩ := bS h
 refine PC.ecall (P102 f_1 c_11 c_12 c_13 c_14 hc15) (fun rs hrs => ?_)
 subst hrs
 conv => whnf
 obtain ⟨l_16, hl17, h⟩ := bS h
 obtain ⟨q_63, hv62, h⟩ := bS h
 refine Tr.block ?_
 refine Tr.rangeE layOK rfl (ge := fun a => [(.i .i64 a)]) rfl (P110 c_11 c_12 c_13 c_14 l_16 hl17) (fun _ => rfl) rfl (fun s => [some (.var [.d (.ls (List.map eTSegment f_1.Clocks.Segments)), .d (.ls (List.map (eL eI) f_1.Clocks.Far)), .d (.ls (List.map eTPair f_1.Pairs)), .d (.ls (List.map eTRunner f_1.Runners))]), some (.var [(dI r_2.Bib), (dI r_2.Kind), (dI r_2.Lo), (dI r_2.Hi), .d (.b r_2.Out)]), some (.var [(dI 0)]), some (.var [(dI r_7)])]) (fun s => [some (.var [.d (.ls (List.map eTSegment f_1.Clocks.Segments)), .d (.ls (List.map (eL eI) f_1.Clocks.Far)), .d (.ls (List.map eTPair f_1.Pairs)), .d (.ls (List.map eTRunner f_1.Runners))]), some (.var [(dI r_2.Bib), (dI r_2.Kind), (dI r_2.Lo), (dI r_2.Hi), .d (.b r_2.Out)]), some (.var [(dI 270)]), some (.var [(dI r_7)])]) .ret (.inl rfl) (M237 f_1 r_2 r_7) () q_63 hv62 (Wk.mk2 [0, 1, 2, 3] 4 rfl rfl (by decide) rfl ⟨⟨rfl, rfl⟩, ⟨rfl, rfl⟩, ⟨rfl, rfl⟩, ⟨rfl, rfl⟩, trivial⟩ trivial) ?_ ?_
 ·clear h hv62
  rintro li y_18 ⟨⟩ s_19 ha h
  replace h : (M237 f_1 r_2 r_7) y_18 () = some s_19 := h
  unfold M237 at h
  dsimp only at h
  conv => whnf
  refine Tr.block ?_
  refine Tr.seq ?_
  refine rg ?_
  conv => whnf
  obtain ⟨x_20, hx_20, h⟩ := bS h
  refine ixP_of hx_20 ?_
  conv => whnf
  obtain ⟨x_21, hx_21, h⟩ := bS h
  refine ixP_of hx_21 ?_
  conv => whnf
  refine lnS_map ?_
  conv => whnf
  refine Tr.cutQ (α := Unit) (fun s => ([], [some (.var [.d (.ls (List.map eTSegment f_1.Clocks.Segments)), .d (.ls (List.map (eL eI) f_1.Clocks.Far)), .d (.ls (List.map eTPair f_1.Pairs)), .d (.ls (List.map eTRunner f_1.Runners))]), some (.var [(dI r_2.Bib), (dI r_2.Kind), (dI r_2.Lo), (dI r_2.Hi), .d (.b r_2.Out)]), some (.var [(dI 0)]), some (.var [(dI r_7)])])) (fun s => M236 s = some s_19) ?_ ?_
  ·refine Tr.block ?_
   refine Tr.loopM (σ := Int) (fun n s => M235 f_1 r_2 r_7 y_18 x_21 M236 n s) s_19 (fun s => ([(2, .pt 0 0), (3, .pt 1 0), (4, .pt 2 0), (5, .pt 3 0), (7, (dI y_18)), (39, .d (.ls (List.map eTOutcome x_21))), (40, (dI (((x_21).length : Int)))), (41, (dI s))], [some (.var [.d (.ls (List.map eTSegment f_1.Clocks.Segments)), .d (.ls (List.map (eL eI) f_1.Clocks.Far)), .d (.ls (List.map eTPair f_1.Pairs)), .d (.ls (List.map eTRunner f_1.Runners))]), some (.var [(dI r_2.Bib), (dI r_2.Kind), (dI r_2.Lo), (dI r_2.Hi), .d (.b r_2.Out)]), some (.var [(dI 0)]), some (.var [(dI r_7)])])) (((((x_21).length : Int)) - 0 : Int).toNat + 1) (0) h (fun s => rfl) (Wk.mk2 [0, 1, 2, 3] 4 rfl rfl (by decide) rfl ⟨rr, rr, rr, rr, trivial⟩ ⟨rr, rr, rr, rr, rr, rr, rr, rr, trivial⟩) ?_
   clear h
   rintro n_24 v_23 h
   replace h : M235 f_1 r_2 r_7 y_18 x_21 M236 (n_24 + 1) v_23 = some s_19 := h
   rw [M235] at h
   refine Tr.seq ?_
   refine rg ?_
   conv => whnf
   refine Tr.seq ?_
   refine Tr.cond ?_
   conv => whnf
   refine cB h (fun hb27 h => ?_) (fun hb27 h => ?_)
   ·refine Tr.skip ?_
    conv => whnf
    refine Tr.seq ?_
    refine Tr.block ?_
    refine Tr.seq ?_
    refine rg ?_
    conv => whnf
    obtain ⟨x_28, hx_28, h⟩ := bS h
    refine ixP_of hx_28 ?_
    conv => whnf
    refine Tr.seq ?_
    refine Tr.seq ?_
    refine rg ?_
    conv => whnf
    refine Tr.cond ?_
    conv => whnf
    refine cB h (fun hb29 h => ?_) (fun hb29 h => ?_)
    ·refine Tr.seq ?_
     refine Tr.seq ?_
     refine rg ?_
     conv => whnf
     refine Tr.cond ?_
     conv => whnf
     refine cB h (fun hb30 h => ?_) (fun hb30 h => ?_)
     ·refine Tr.seq ?_
      refine rg ?_
      conv => whnf
      refine Tr.ret ?_
      conv => whnf
      cases h
      refine ⟨rfl, ?_⟩
      exact Wk.mk2 [0, 1, 2, 3] 5 rfl rfl (by decide) rfl ⟨rr, rr, rr, rr, trivial⟩ trivial
     refine Tr.skip ?_
     conv => whnf
     refine Tr.exit ?_
     conv => whnf
     refine rg ?_
     conv => whnf
     refine arS_raw ?_
     conv => whnf
     refine ⟨((w64 (v_23 + 1))), h, ?_⟩
     exact Wk.mk2 [0, 1, 2, 3] 5 rfl rfl (by decide) rfl ⟨rr, rr, rr, rr, trivial⟩ ⟨rr, rr, rr, rr, rr, rr, rr, rr, trivial⟩
    refine Tr.skip ?_
    conv => whnf
    refine Tr.seq ?_
    refine rg ?_
    conv => whnf
    refine Tr.seq ?_
    refine Tr.seq ?_
    refine rg ?_
    conv => whnf
    refine lnS_map ?_
    conv => whnf
    obtain ⟨⟨low_38, high_39⟩, hv59, h⟩ := bS h
    refine Tr.cutQ1 ([(2, .pt 0 0), (3, .pt 1 0), (4, .pt 2 0), (5, .pt 3 0), (7, (dI y_18)), (10, (dI low_38)), (11, (dI high_39)), (39, .d (.ls (List.map eTOutcome x_21))), (40, (dI (((x_21).length : Int)))), (41, (dI v_23))]) ([some (.var [.d (.ls (List.map eTSegment f_1.Clocks.Segments)), .d (.ls (List.map (eL eI) f_1.Clocks.Far)), .d (.ls (List.map eTPair f_1.Pairs)), .d (.ls (List.map eTRunner f_1.Runners))]), some (.var [(dI r_2.Bib), (dI r_2.Kind), (dI r_2.Lo), (dI r_2.Hi), .d (.b r_2.Out)]), some (.var [(dI 0)]), some (.var [(dI r_7)])]) ?_ (fun T1 H1 hw => ?_)
    ·replace h := hv59; clear hv59
     refine Tr.block ?_
     refine Tr.loopM (σ := Int × Int × Int) (fun n s => M234 f_1 r_7 y_18 x_28 n s.1 s.2.1 s.2.2) (low_38, high_39) (fun s => ([(2, .pt 0 0), (3, .pt 1 0), (4, .pt 2 0), (5, .pt 3 0), (7, (dI y_18)), (9, .pt 4 0), (10, (dI s.1)), (11, (dI s.2.1)), (39, .d (.ls (List.map eTOutcome x_21))), (40, (dI (((x_21).length : Int)))), (41, (dI v_23)), (51, .d (.ls (List.map eTRunner f_1.Runners))), (52, (dI (((f_1.Runners).length : Int)))), (53, (dI s.2.2))], [some (.var [.d (.ls (List.map eTSegment f_1.Clocks.Segments)), .d (.ls (List.map (eL eI) f_1.Clocks.Far)), .d (.ls (List.map eTPair f_1.Pairs)), .d (.ls (List.map eTRunner f_1.Runners))]), some (.var [(dI r_2.Bib), (dI r_2.Kind), (dI r_2.Lo), (dI r_2.Hi), .d (.b r_2.Out)]), some (.var [(dI 0)]), some (.var [(dI r_7)]), some (.var [.d (.b x_28.Out), (dI x_28.Seg), (dI x_28.Lo), (dI x_28.Hi)])])) (((((f_1.Runners).length : Int)) - 0 : Int).toNat + 1) (1, 1, 0) h (fun s => rfl) (Wk.mk2 [0, 1, 2, 3, 4] 5 rfl rfl (by decide) rfl ⟨rr, rr, rr, rr, rr, trivial⟩ ⟨rr, rr, rr, rr, rr, rr, rr, rr, rr, rr, rr, rr, rr, rr, trivial⟩) ?_
     clear h
     rintro n_37 ⟨low_34, high_35, v_36⟩ h
     replace h : M234 f_1 r_7 y_18 x_28 (n_37 + 1) low_34 high_35 v_36 = some (low_38, high_39) := h
     rw [M234] at h
     refine Tr.seq ?_
     refine rg ?_
     conv => whnf
     refine Tr.seq ?_
     refine Tr.cond ?_
     conv => whnf
     refine cB h (fun hb42 h => ?_) (fun hb42 h => ?_)
     ·refine Tr.skip ?_
      conv => whnf
      refine Tr.seq ?_
      obtain ⟨⟨low_43, high_44⟩, hv45, h⟩ := bS h
      refine Tr.cutQ1 ([(2, .pt 0 0), (3, .pt 1 0), (4, .pt 2 0), (5, .pt 3 0), (7, (dI y_18)), (9, .pt 4 0), (10, (dI low_43)), (11, (dI high_44)), (39, .d (.ls (List.map eTOutcome x_21))), (40, (dI (((x_21).length : Int)))), (41, (dI v_23)), (51, .d (.ls (List.map eTRunner f_1.Runners))), (52, (dI (((f_1.Runners).length : Int)))), (53, (dI v_36))]) ([some (.var [.d (.ls (List.map eTSegment f_1.Clocks.Segments)), .d (.ls (List.map (eL eI) f_1.Clocks.Far)), .d (.ls (List.map eTPair f_1.Pairs)), .d (.ls (List.map eTRunner f_1.Runners))]), some (.var [(dI r_2.Bib), (dI r_2.Kind), (dI r_2.Lo), (dI r_2.Hi), .d (.b r_2.Out)]), some (.var [(dI 0)]), some (.var [(dI r_7)]), some (.var [.d (.b x_28.Out), (dI x_28.Seg), (dI x_28.Lo), (dI x_28.Hi)])]) ?_ (fun T1 H1 hw => ?_)
      ·replace h := hv45; clear hv45
       refine Tr.block ?_
       refine Tr.seq ?_
       refine rg ?_
       conv => whnf
       obtain ⟨x_46, hx_46, h⟩ := bS h
       refine ixP_of hx_46 ?_
       conv => whnf
       refine Tr.seq ?_
       refine Tr.seq ?_
       refine rg ?_
       conv => whnf
       refine Tr.cond ?_
       conv => whnf
       refine cB h (fun hb47 h => ?_) (fun hb47 h => ?_)
       ·refine Tr.exit ?_
        conv => whnf
        cases h
        exact Wk.mk2 [0, 1, 2, 3, 4] 6 rfl rfl (by decide) rfl ⟨rr, rr, rr, rr, rr, trivial⟩ ⟨rr, rr, rr, rr, rr, rr, rr, rr, rr, rr, rr, rr, rr, rr, trivial⟩
       refine Tr.skip ?_
       conv => whnf
       refine Tr.seq ?_
       refine Tr.draw (DrawP.seqQ layOK mixed [(12, 6)] [(0, 3), (1, 3), (2, 3), (3, 8), (4, 3), (5, 3), (6, 6), (7, 2), (8, 2), (9, 7), (10, 1), (11, 0), (12, 0)] (by kernel_rfl) ?_)
       conv => whnf
       refine ⟨_, ⟨rfl, rfl, rr⟩, ?_⟩
       conv => whnf
       refine ⟨_, ⟨rfl, rfl, rr⟩, ?_⟩
       conv => whnf
       refine ⟨_, ⟨rfl, rfl, rr⟩, ?_⟩
       conv => whnf
       refine ⟨_, ⟨rfl, rfl, rr⟩, ?_⟩
       conv => whnf
       refine ⟨_, ⟨rfl, rfl, rr⟩, ?_⟩
       conv => whnf
       refine ⟨_, ⟨rfl, rfl, rr⟩, ?_⟩
       conv => whnf
       refine ⟨_, ⟨rfl, rfl, rr⟩, ?_⟩
       conv => whnf
       obtain ⟨x_48, hx_48, h⟩ := bS h
       refine ⟨_, ⟨rfl, rfl, (by (conv => whnf); (refine ixP_of hx_48 ?_); (conv => whnf); (exact rr))⟩, ?_⟩
       conv => whnf
       refine ⟨_, ⟨rfl, rfl, rr⟩, ?_⟩
       conv => whnf
       refine ⟨_, ⟨rfl, rfl, rr⟩, ?_⟩
       conv => whnf
       refine ⟨_, (fun _ => rr), ?_⟩
       conv => whnf
       refine ⟨_, _, rr, kp_ok (by repeat (first | exact trivial | refine ⟨trivial, ?_⟩ | refine ⟨rfl, ?_⟩)), ?_⟩
       conv => whnf
       refine ⟨_, _, rr, kp_ok (by repeat (first | exact trivial | refine ⟨trivial, ?_⟩ | refine ⟨rfl, ?_⟩)), ?_⟩
       conv => whnf
       refine Tr.seq ?_
       refine rg ?_
       conv => whnf
       obtain ⟨x_49, hx_49, h⟩ := bS h
       refine ixP_of hx_49 ?_
       conv => whnf
       refine Tr.seq ?_
       refine Tr.seq ?_
       refine rg ?_
       conv => whnf
       obtain ⟨r_50, hc51, h⟩ := bS h
       refine PC.ecall_lend ?_ ⟨_, _, func51, rfl, rfl⟩
       conv => whnf
       refine ⟨_, P228 x_49 f_1.Clocks.Far x_46.Bib x_46.Keys x_46.Worlds x_48.Bib x_48.Keys x_48.Worlds x_28.Out x_28.Seg x_28.Lo x_28.Hi r_50 hc51, fun rs hrs => ?_⟩
       subst hrs
       refine ⟨rfl, ?_⟩
       conv => whnf
       refine Tr.cond ?_
       conv => whnf
       refine cB h (fun hb52 h => ?_) (fun hb52 h => ?_)
       ·refine rg ?_
        conv => whnf
        refine arS_raw ?_
        conv => whnf
        refine Tr.seq ?_
        refine rg ?_
        conv => whnf
        obtain ⟨r_53, hc54, h⟩ := bS h
        refine PC.ecall (P233 x_49 ({ far := f_1.Clocks.Far, rival := x_46, runner := x_48, x := x_28 } : Twitness_duel) r_53 hc54) (fun rs hrs => ?_)
        subst hrs
        conv => whnf
        refine Tr.cond ?_
        conv => whnf
        refine cB h (fun hb55 h => ?_) (fun hb55 h => ?_)
        ·refine rg ?_
         conv => whnf
         refine arS_raw ?_
         conv => whnf
         cases h
         exact Wk.mk2 [0, 1, 2, 3, 4] 7 rfl rfl (by decide) rfl ⟨rr, rr, rr, rr, rr, trivial⟩ ⟨rr, rr, rr, rr, rr, rr, rr, rr, rr, rr, rr, rr, rr, rr, trivial⟩
        refine Tr.skip ?_
        conv => whnf
        cases h
        exact Wk.mk2 [0, 1, 2, 3, 4] 7 rfl rfl (by decide) rfl ⟨rr, rr, rr, rr, rr, trivial⟩ ⟨rr, rr, rr, rr, rr, rr, rr, rr, rr, rr, rr, rr, rr, rr, trivial⟩
       refine Tr.skip ?_
       conv => whnf
       refine Tr.seq ?_
       refine rg ?_
       conv => whnf
       obtain ⟨r_56, hc57, h⟩ := bS h
       refine PC.ecall (P233 x_49 ({ far := f_1.Clocks.Far, rival := x_46, runner := x_48, x := x_28 } : Twitness_duel) r_56 hc57) (fun rs hrs => ?_)
       subst hrs
       conv => whnf
       refine Tr.cond ?_
       conv => whnf
       refine cB h (fun hb58 h => ?_) (fun hb58 h => ?_)
       ·refine rg ?_
        conv => whnf
        refine arS_raw ?_
        conv => whnf
        cases h
        exact Wk.mk2 [0, 1, 2, 3, 4] 7 rfl rfl (by decide) rfl ⟨rr, rr, rr, rr, rr, trivial⟩ ⟨rr, rr, rr, rr, rr, rr, rr, rr, rr, rr, rr, rr, rr, rr, trivial⟩
       refine Tr.skip ?_
       conv => whnf
       cases h
       exact Wk.mk2 [0, 1, 2, 3, 4] 7 rfl rfl (by decide) rfl ⟨rr, rr, rr, rr, rr, trivial⟩ ⟨rr, rr, rr, rr, rr, rr, rr, rr, rr, rr, rr, rr, rr, rr, trivial⟩
      clear hv45
      conv => whnf
      refine Tr.weak hw ?_
      refine rg ?_
      conv => whnf
      refine arS_raw ?_
      conv => whnf
      refine ⟨(low_43, high_44, (w64 (v_36 + 1))), h, ?_⟩
      exact Wk.mk2 [0, 1, 2, 3, 4] 5 rfl rfl (by decide) rfl ⟨rr, rr, rr, rr, rr, trivial⟩ ⟨rr, rr, rr, rr, rr, rr, rr, rr, rr, rr, rr, rr, rr, rr, trivial⟩
     refine Tr.exit ?_
     conv => whnf
     cases h
     exact Wk.mk2 [0, 1, 2, 3] 5 rfl rfl (by decide) rfl ⟨rr, rr, rr, rr, trivial⟩ ⟨rr, rr, rr, rr, rr, rr, rr, rr, rr, rr, trivial⟩
    clear hv59
    conv => whnf
    refine Tr.weak hw ?_
    refine Tr.seq ?_
    refine rg ?_
    conv => whnf
    refine cB h (fun hb60 h => ?_) (fun hb60 h => ?_)
    ·conv => whnf
     refine Tr.cond ?_
     conv => whnf
     refine Tr.seq ?_
     refine rg ?_
     conv => whnf
     refine Tr.ret ?_
     conv => whnf
     cases h
     refine ⟨rfl, ?_⟩
     exact Wk.mk2 [0, 1, 2, 3] 4 rfl rfl (by decide) rfl ⟨rr, rr, rr, rr, trivial⟩ trivial
    conv => whnf
    refine Tr.cond ?_
    conv => whnf
    refine cB h (fun hb61 h => ?_) (fun hb61 h => ?_)
    ·refine Tr.seq ?_
     refine rg ?_
     conv => whnf
     refine Tr.ret ?_
     conv => whnf
     cases h
     refine ⟨rfl, ?_⟩
     exact Wk.mk2 [0, 1, 2, 3] 4 rfl rfl (by decide) rfl ⟨rr, rr, rr, rr, trivial⟩ trivial
    refine Tr.skip ?_
    conv => whnf
    refine rg ?_
    conv => whnf
    refine arS_raw ?_
    conv => whnf
    refine ⟨((w64 (v_23 + 1))), h, ?_⟩
    exact Wk.mk2 [0, 1, 2, 3] 4 rfl rfl (by decide) rfl ⟨rr, rr, rr, rr, trivial⟩ ⟨rr, rr, rr, rr, rr, rr, rr, rr, trivial⟩
   refine Tr.exit ?_
   conv => whnf
   refine ⟨(), h, ?_⟩
   exact Wk.mk2 [0, 1, 2, 3] 4 rfl rfl (by decide) rfl ⟨rr, rr, rr, rr, trivial⟩ trivial
  clear h
  rintro _ h T1 H1 hw
  replace h : M236 () = some s_19 := h
  conv => whnf
  unfold M236 at h
  cases h
  refine ⟨rfl, ?_⟩
  refine Wk.trans (F := 4) hw ?_
  exact Wk.mk2 [0, 1, 2, 3] 4 rfl rfl (by decide) rfl ⟨rr, rr, rr, rr, trivial⟩ trivial
 clear hv62
 rcases q_63 with ⟨⟩ | ⟨⟩
 ·dsimp only at h
  conv => whnf
  refine Tr.seq ?_
  refine rg ?_
  conv => whnf
  refine Tr.ret ?_
  conv => whnf
  cases h
  rfl
 dsimp only at h
 conv => whnf
 cases h
 rfl
theorem P239 (f_1 : TField) (h_2 : THistory) (r_3 : Int) (h : M239 f_1 h_2 = some r_3) :
    PC prog 23 [(eTField f_1), (eTHistory h_2)] (fun rs => rs = [(.i .i64 r_3)]) := by
 refine PC.of_tr (cx := ⟨12, none, lay, 0⟩) layOK func23 rfl rfl rfl rfl rfl (by simp [f23]) ?_
 unfold M239 at h
 refine Tr.seq ?_
 refine rg ?_
 conv => whnf
 refine Tr.seq ?_
 refine rg ?_
 conv => whnf
 obtain ⟨⟨r_4, r_5⟩, hc6, h⟩ := bS h
 refine PC.ecall (P212 f_1 h_2 r_4 r_5 hc6) (fun rs hrs => ?_)
 subst hrs
 conv => whnf
 refine Tr.seq ?_
 refine rg ?_
 conv => whnf
 refine Tr.ret ?_
 conv => whnf
 cases h
 rfl
theorem P242 (a_1 : Int) (b_2 : Int) (c_3 : Thistory_view) (l_4 : List Thistory_pair_int_int) (l_5 : List Thistory_pair_int_int) (h : M242 a_1 b_2 c_3 l_4 = some l_5) :
    MC prog 129 [.sl 0 2 0 (List.length l_4), (dI a_1), (dI b_2), .d (.fm 58 [(eThistory_view c_3)])] [.arr 2 (List.map .d (List.map eThistory_pair_int_int l_4))] (fun rs Bs => rs = [] ∧ Bs = [.arr 2 (List.map .d (List.map eThistory_pair_int_int l_5))]) := by
 refine MC.of_tr (cx := ⟨53, none, lay, 1⟩) layOK func129 rfl rfl rfl rfl rfl (by simp [f129]) ?_
 refine Tr.unW ?_
 unfold M242 at h
 refine Tr.seq ?_
 refine rg ?_
 conv => whnf
 refine arS_raw ?_
 conv => whnf
 obtain ⟨l_11, hv34, h⟩ := bS h
 refine Tr.cutQ1 ([]) ([some (.arr 2 (List.map .d (List.map eThistory_pair_int_int l_11)))]) ?_ (fun T1 H1 hw => ?_)
 ·replace h := hv34; clear hv34
  refine Tr.block ?_
  refine Tr.loopM (σ := Int × List Thistory_pair_int_int) (fun n s => M241 a_1 b_2 c_3 n s.1 s.2) l_11 (fun s => ([(0, .sl 0 2 0 (List.length s.2)), (1, (dI a_1)), (2, (dI b_2)), (3, .d (.fm 58 [(eThistory_view c_3)])), (8, (dI s.1))], [some (.arr 2 (List.map .d (List.map eThistory_pair_int_int s.2)))])) ((b_2 - (w64 (a_1 + 1)) : Int).toNat + 1) ((w64 (a_1 + 1)), l_4) h (fun s => rfl) (Wk.mk2 [0] 1 rfl rfl (by decide) rfl ⟨daS_d rfl, trivial⟩ ⟨rr, rr, rr, rr, rr, trivial⟩) ?_
  clear h
  rintro n_10 ⟨i_8, l_9⟩ h
  replace h : M241 a_1 b_2 c_3 (n_10 + 1) i_8 l_9 = some l_11 := h
  rw [M241] at h
  refine Tr.seq ?_
  refine Tr.seq ?_
  refine rg ?_
  conv => whnf
  refine Tr.cond ?_
  conv => whnf
  refine cB h (fun hb14 h => ?_) (fun hb14 h => ?_)
  ·refine Tr.skip ?_
   conv => whnf
   refine Tr.seq ?_
   refine Tr.block ?_
   refine Tr.seq ?_
   refine rg ?_
   conv => whnf
   obtain ⟨l_20, hv33, h⟩ := bS h
   refine Tr.cutQ1 ([(0, .sl 0 2 0 (List.length l_20)), (1, (dI a_1)), (2, (dI b_2)), (3, .d (.fm 58 [(eThistory_view c_3)])), (8, (dI i_8))]) ([some (.arr 2 (List.map .d (List.map eThistory_pair_int_int l_20)))]) ?_ (fun T1 H1 hw => ?_)
   ·replace h := hv33; clear hv33
    refine Tr.block ?_
    refine Tr.loopM (σ := Int × List Thistory_pair_int_int) (fun n s => M240 a_1 c_3 n s.1 s.2) l_20 (fun s => ([(0, .sl 0 2 0 (List.length s.2)), (1, (dI a_1)), (2, (dI b_2)), (3, .d (.fm 58 [(eThistory_view c_3)])), (8, (dI i_8)), (9, (dI s.1))], [some (.arr 2 (List.map .d (List.map eThistory_pair_int_int s.2)))])) ((i_8 - a_1 : Int).toNat + 1) (i_8, l_9) h (fun s => rfl) (Wk.mk2 [0] 1 rfl rfl (by decide) rfl ⟨daS_d rfl, trivial⟩ ⟨rr, rr, rr, rr, rr, rr, trivial⟩) ?_
    clear h
    rintro n_19 ⟨j_17, l_18⟩ h
    replace h : M240 a_1 c_3 (n_19 + 1) j_17 l_18 = some l_20 := h
    rw [M240] at h
    refine Tr.seq ?_
    refine Tr.seq ?_
    refine Tr.draw (DrawP.seqQ layOK mixed [] [(0, 1), (1, 1), (2, 1), (3, 1), (4, 1), (5, 1), (6, 1), (7, 3), (8, 3), (9, 1), (10, 1), (11, 1), (12, 3), (13, 3), (14, 1), (15, 1), (16, 1)] (by kernel_rfl) ?_)
    conv => whnf
    refine ⟨_, (fun _ => rr), ?_⟩
    conv => whnf
    refine ⟨_, (fun _ => rr), ?_⟩
    conv => whnf
    refine ⟨_, (fun _ => rr), ?_⟩
    conv => whnf
    refine ⟨_, (fun _ => rr), ?_⟩
    conv => whnf
    refine cB h (fun hb23 h => ?_) (fun hb23 h => ?_)
    ·conv => whnf
     refine ⟨_, (fun _ => rr), ?_⟩
     conv => whnf
     refine ⟨_, (fun _ => rr), ?_⟩
     conv => whnf
     refine ⟨_, (fun _ => rr), ?_⟩
     conv => whnf
     obtain ⟨x_24, hx_24, h⟩ := bS h
     refine ⟨_, ⟨rfl, rfl, (by (conv => whnf); (refine ixS_of hx_24 rfl ?_); (conv => whnf); (exact rr))⟩, ?_⟩
     conv => whnf
     refine ⟨_, ⟨rfl, rfl, (by (conv => whnf); (refine elP_of hx_24 ?_); (conv => whnf); (exact rr))⟩, ?_⟩
     conv => whnf
     refine ⟨_, (fun _ => rr), ?_⟩
     conv => whnf
     refine ⟨_, (fun _ => rr), ?_⟩
     conv => whnf
     refine ⟨_, (fun _ => by (conv => whnf); (refine arS_raw ?_); (conv => whnf); (exact rr)), ?_⟩
     conv => whnf
     obtain ⟨x_25, hx_25, h⟩ := bS h
     refine ⟨_, ⟨rfl, rfl, (by (conv => whnf); (refine ixS_of hx_25 rfl ?_); (conv => whnf); (exact rr))⟩, ?_⟩
     conv => whnf
     refine ⟨_, ⟨rfl, rfl, (by (conv => whnf); (refine elP_of hx_25 ?_); (conv => whnf); (exact rr))⟩, ?_⟩
     conv => whnf
     obtain ⟨r_26, hc27, h⟩ := bS h
     refine ⟨_, (fun _ => by (conv => whnf); (refine PC.ecall (P217 c_3 x_24 x_25 r_26 hc27) (fun rs hrs => ?_)); (subst hrs); (conv => whnf); (exact rr)), ?_⟩
     conv => whnf
     refine ⟨_, (fun _ => rr), ?_⟩
     conv => whnf
     refine ⟨_, (fun _ => rr), ?_⟩
     conv => whnf
     refine Tr.cond ?_
     conv => whnf
     refine cB h (fun hb28 h => ?_) (fun hb28 h => ?_)
     ·refine Tr.skip ?_
      conv => whnf
      refine Tr.seq ?_
      refine Tr.block ?_
      refine Tr.draw (DrawP.seqQ layOK mixed [(15, 0), (17, 0)] [(0, 1), (1, 1), (2, 1), (3, 1), (4, 1), (5, 1), (6, 1), (7, 1), (8, 3), (9, 3), (10, 1), (11, 1), (12, 3), (13, 3), (14, 3), (15, 0), (16, 3), (17, 0)] (by kernel_rfl) ?_)
      conv => whnf
      refine ⟨_, (fun _ => rr), ?_⟩
      conv => whnf
      refine ⟨_, (fun _ => rr), ?_⟩
      conv => whnf
      refine ⟨_, (fun _ => rr), ?_⟩
      conv => whnf
      refine ⟨_, (fun _ => rr), ?_⟩
      conv => whnf
      refine ⟨_, (fun _ => by (conv => whnf); (refine arS_raw ?_); (conv => whnf); (exact rr)), ?_⟩
      conv => whnf
      refine ⟨_, (fun _ => rr), ?_⟩
      conv => whnf
      refine ⟨_, (fun _ => rr), ?_⟩
      conv => whnf
      refine ⟨_, (fun _ => by (conv => whnf); (refine arS_raw ?_); (conv => whnf); (exact rr)), ?_⟩
      conv => whnf
      obtain ⟨x_29, hx_29, h⟩ := bS h
      refine ⟨_, ⟨rfl, rfl, (by (conv => whnf); (refine ixS_of hx_29 rfl ?_); (conv => whnf); (exact rr))⟩, ?_⟩
      conv => whnf
      refine ⟨_, ⟨rfl, rfl, (by (conv => whnf); (refine elP_of hx_29 ?_); (conv => whnf); (exact rr))⟩, ?_⟩
      conv => whnf
      refine ⟨_, (fun _ => rr), ?_⟩
      conv => whnf
      refine ⟨_, (fun _ => rr), ?_⟩
      conv => whnf
      obtain ⟨x_30, hx_30, h⟩ := bS h
      refine ⟨_, ⟨rfl, rfl, (by (conv => whnf); (refine ixS_of hx_30 rfl ?_); (conv => whnf); (exact rr))⟩, ?_⟩
      conv => whnf
      refine ⟨_, ⟨rfl, rfl, (by (conv => whnf); (refine elP_of hx_30 ?_); (conv => whnf); (exact rr))⟩, ?_⟩
      conv => whnf
      obtain ⟨x_31, hx_31, h⟩ := bS h
      refine ⟨_, ⟨rfl, rfl, (by (conv => whnf); (refine ixS_of hx_31 rfl ?_); (conv => whnf); (exact rr))⟩, ?_⟩
      conv => whnf
      refine ⟨_, _, (by (conv => whnf); (refine elP_of hx_31 ?_); (conv => whnf); (refine lvS_mk (es' := List.map .d (List.map eThistory_pair_int_int (List.set l_18 (Int.toNat j_17) x_29))) (by simp only [Nat.zero_add, List.map_set]; first | done | rfl) ?_); (conv => whnf); (exact rr)), kp_ok (by repeat (first | exact trivial | refine ⟨trivial, ?_⟩ | refine ⟨rfl, ?_⟩)), ?_⟩
      conv => whnf
      obtain ⟨x_32, hx_32, h⟩ := bS h
      refine ⟨_, ⟨rfl, rfl, (by (conv => whnf); (refine ixS_of hx_32 (by first | rfl | simp) ?_); (conv => whnf); (exact rr))⟩, ?_⟩
      conv => whnf
      refine ⟨_, _, (by (conv => whnf); (refine elP_of hx_32 ?_); (conv => whnf); (refine lvS_mk (es' := List.map .d (List.map eThistory_pair_int_int (List.set (List.set l_18 (Int.toNat j_17) x_29) (Int.toNat (w64 (j_17 - 1))) x_30))) (by simp only [Nat.zero_add, List.map_set]; first | done | rfl) ?_); (conv => whnf); (exact rr)), kp_ok (by repeat (first | exact trivial | refine ⟨trivial, ?_⟩ | refine ⟨rfl, ?_⟩)), ?_⟩
      conv => whnf
      refine rg ?_
      conv => whnf
      refine arS_raw ?_
      conv => whnf
      refine ⟨((w64 (j_17 - 1)), (List.set (List.set l_18 (Int.toNat j_17) x_29) (Int.toNat (w64 (j_17 - 1))) x_30)), h, ?_⟩
      exact Wk.mk2 [0] 1 rfl rfl (by decide) rfl ⟨daS_d rfl, trivial⟩ ⟨⟨rfl, (slEq (by first | rfl | simp))⟩, rr, rr, rr, rr, rr, trivial⟩
     refine Tr.exit ?_
     conv => whnf
     cases h
     exact Wk.mk2 [0] 1 rfl rfl (by decide) rfl ⟨daS_d rfl, trivial⟩ ⟨rr, rr, rr, rr, rr, trivial⟩
    conv => whnf
    refine ⟨_, (fun _ => rr), ?_⟩
    conv => whnf
    refine Tr.cond ?_
    conv => whnf
    refine Tr.exit ?_
    conv => whnf
    cases h
    exact Wk.mk2 [0] 1 rfl rfl (by decide) rfl ⟨daS_d rfl, trivial⟩ ⟨rr, rr, rr, rr, rr, trivial⟩
   clear hv33
   conv => whnf
   refine Tr.weak hw ?_
   refine rg ?_
   conv => whnf
   refine arS_raw ?_
   conv => whnf
   refine ⟨((w64 (i_8 + 1)), l_20), h, ?_⟩
   exact Wk.mk2 [0] 1 rfl rfl (by decide) rfl ⟨daS_d rfl, trivial⟩ ⟨rr, rr, rr, rr, rr, trivial⟩
  refine Tr.exit ?_
  conv => whnf
  cases h
  exact Wk.mk2 [0] 1 rfl rfl (by decide) rfl ⟨daS_d rfl, trivial⟩ trivial
 clear hv34
 conv => whnf
 refine endW hw ?_
 conv => whnf
 cases h
 exact endB rfl rfl rfl ⟨⟨_, rfl⟩, trivial⟩
theorem P246 (n_1 : Int) (c_2 : Thistory_view) (l_3 : List Thistory_pair_int_int) (l_4 : List Thistory_pair_int_int) (h : M246 n_1 c_2 l_3 = some l_4) :
    MC prog 99 [.sl 0 2 0 (List.length l_3), (dI n_1), .d (.fm 58 [(eThistory_view c_2)])] [.arr 2 (List.map .d (List.map eThistory_pair_int_int l_3))] (fun rs Bs => rs = [] ∧ Bs = [.arr 2 (List.map .d (List.map eThistory_pair_int_int l_4))]) := by
 refine MC.of_tr (cx := ⟨63, none, lay, 1⟩) layOK func99 rfl rfl rfl rfl rfl (by simp [f99]) ?_
 refine Tr.unW ?_
 unfold M246 at h
 refine Tr.seq ?_
 refine rg ?_
 conv => whnf
 refine Tr.seq ?_
 refine rg ?_
 conv => whnf
 refine Tr.seq ?_
 obtain ⟨⟨a_12, l_13⟩, hv20, h⟩ := bS h
 refine Tr.cutQ1 ([(0, .sl 0 2 0 (List.length l_13)), (1, (dI n_1)), (2, .d (.fm 58 [(eThistory_view c_2)])), (6, (dI 20)), (7, (dI a_12))]) ([some (.arr 2 (List.map .d (List.map eThistory_pair_int_int l_13)))]) ?_ (fun T1 H1 hw => ?_)
 ·replace h := hv20; clear hv20
  refine Tr.block ?_
  refine Tr.loopM (σ := Int × Int × List Thistory_pair_int_int) (fun n s => M243 n_1 c_2 n s.1 s.2.1 s.2.2) (a_12, l_13) (fun s => ([(0, .sl 0 2 0 (List.length s.2.2)), (1, (dI n_1)), (2, .d (.fm 58 [(eThistory_view c_2)])), (6, (dI 20)), (7, (dI s.1)), (8, (dI s.2.1))], [some (.arr 2 (List.map .d (List.map eThistory_pair_int_int s.2.2)))])) ((n_1 + 1 - 20 : Int).toNat + 1) (0, 20, l_3) h (fun s => rfl) (Wk.mk2 [0] 1 rfl rfl (by decide) rfl ⟨daS_d rfl, trivial⟩ ⟨rr, rr, rr, rr, rr, rr, trivial⟩) ?_
  clear h
  rintro n_11 ⟨a_8, b_9, l_10⟩ h
  replace h : M243 n_1 c_2 (n_11 + 1) a_8 b_9 l_10 = some (a_12, l_13) := h
  rw [M243] at h
  refine Tr.seq ?_
  refine Tr.seq ?_
  refine rg ?_
  conv => whnf
  refine Tr.cond ?_
  conv => whnf
  refine cB h (fun hb16 h => ?_) (fun hb16 h => ?_)
  ·refine Tr.skip ?_
   conv => whnf
   refine Tr.block ?_
   refine Tr.seq ?_
   refine rg ?_
   conv => whnf
   obtain ⟨l_17, hc18, h⟩ := bS h
   refine MC.ecall (P242 a_8 b_9 c_2 l_10 l_17 hc18) [0] (by decide) rfl rfl ?_ (fun rs Bs1 hrs => ?_)
   · exact ⟨⟨⟨_, rfl⟩, rfl⟩, trivial⟩
   obtain ⟨rfl, rfl⟩ := hrs
   conv => whnf
   obtain ⟨_, hl19, h⟩ := bS h
   refine Tr.seq ?_
   refine rg ?_
   conv => whnf
   refine rg ?_
   conv => whnf
   refine arS_raw ?_
   conv => whnf
   refine ⟨(b_9, (w64 (b_9 + 20)), l_17), h, ?_⟩
   exact Wk.mk2 [0] 1 rfl rfl (by decide) rfl ⟨daS_d rfl, trivial⟩ ⟨⟨rfl, (slEq (by first | rfl | simp [lenIs_eq hl19]))⟩, rr, rr, rr, rr, rr, trivial⟩
  refine Tr.exit ?_
  conv => whnf
  cases h
  exact Wk.mk2 [0] 1 rfl rfl (by decide) rfl ⟨daS_d rfl, trivial⟩ ⟨rr, rr, rr, rr, rr, trivial⟩
 clear hv20
 conv => whnf
 refine Tr.weak hw ?_
 refine Tr.seq ?_
 refine rg ?_
 conv => whnf
 obtain ⟨l_21, hc22, h⟩ := bS h
 refine MC.ecall (P242 a_12 n_1 c_2 l_13 l_21 hc22) [0] (by decide) rfl rfl ?_ (fun rs Bs1 hrs => ?_)
 · exact ⟨⟨⟨_, rfl⟩, rfl⟩, trivial⟩
 obtain ⟨rfl, rfl⟩ := hrs
 conv => whnf
 obtain ⟨_, hl23, h⟩ := bS h
 obtain ⟨_, hv33, h⟩ := bS h
 refine Tr.cutQ1 ([]) ([some (.arr 2 (List.map .d (List.map eThistory_pair_int_int l_21)))]) ?_ (fun T1 H1 hw => ?_)
 ·replace h := hv33; clear hv33
  refine Tr.block ?_
  refine Tr.loopM (σ := Unit) (fun n s => M245 n_1 n) () (fun s => ([(0, .sl 0 2 0 (List.length l_21)), (1, (dI n_1)), (2, .d (.fm 58 [(eThistory_view c_2)])), (6, (dI 20))], [some (.arr 2 (List.map .d (List.map eThistory_pair_int_int l_21)))])) ((n_1 - 20 : Int).toNat + 1) () h (fun s => rfl) (Wk.mk2 [0] 1 rfl rfl (by decide) rfl ⟨daS_d rfl, trivial⟩ ⟨⟨rfl, (slEq (by first | rfl | simp [lenIs_eq hl23]))⟩, rr, rr, rr, trivial⟩) ?_
  clear h
  rintro n_24 _ h
  replace h : M245 n_1 (n_24 + 1) = some () := h
  rw [M245] at h
  refine Tr.seq ?_
  refine Tr.seq ?_
  refine rg ?_
  conv => whnf
  refine Tr.cond ?_
  conv => whnf
  refine cB h (fun hb27 h => ?_) (fun hb27 h => ?_)
  ·refine Tr.skip ?_
   conv => whnf
   refine Tr.block ?_
   refine Tr.seq ?_
   refine rg ?_
   conv => whnf
   refine arS_raw ?_
   conv => whnf
   refine Tr.seq ?_
   obtain ⟨_, hv32, h⟩ := bS h
   refine Tr.cutQ1 ([(0, .sl 0 2 0 (List.length l_21)), (1, (dI n_1)), (2, .d (.fm 58 [(eThistory_view c_2)])), (6, (dI 20)), (7, (dI 0))]) ([some (.arr 2 (List.map .d (List.map eThistory_pair_int_int l_21)))]) ?_ (fun T1 H1 hw => ?_)
   ·replace h := hv32; clear hv32
    refine Tr.block ?_
    refine Tr.loopM (σ := Unit) (fun n s => M244 n_1 n) () (fun s => ([(0, .sl 0 2 0 (List.length l_21)), (1, (dI n_1)), (2, .d (.fm 58 [(eThistory_view c_2)])), (6, (dI 20)), (7, (dI 0)), (8, (dI 40))], [some (.arr 2 (List.map .d (List.map eThistory_pair_int_int l_21)))])) ((n_1 + 1 - 40 : Int).toNat + 1) () h (fun s => rfl) (Wk.mk2 [0] 1 rfl rfl (by decide) rfl ⟨daS_d rfl, trivial⟩ ⟨rr, rr, rr, rr, rr, rr, trivial⟩) ?_
    clear h
    rintro n_28 _ h
    replace h : M244 n_1 (n_28 + 1) = some () := h
    rw [M244] at h
    refine Tr.seq ?_
    refine Tr.seq ?_
    refine rg ?_
    conv => whnf
    refine Tr.cond ?_
    conv => whnf
    refine cB h (fun hb31 h => ?_) (fun hb31 h => ?_)
    ·refine Tr.skip ?_
     conv => whnf
     refine Tr.block ?_
     refine Tr.seq ?_
     refine rg ?_
     conv => whnf
     refine arS_raw ?_
     conv => whnf
     cases h
    refine Tr.exit ?_
    conv => whnf
    exact Wk.mk2 [0] 1 rfl rfl (by decide) rfl ⟨daS_d rfl, trivial⟩ ⟨rr, rr, rr, rr, rr, trivial⟩
   clear hv32
   conv => whnf
   refine Tr.weak hw ?_
   refine Tr.seq ?_
   refine Tr.seq ?_
   refine rg ?_
   conv => whnf
   refine arS_raw ?_
   conv => whnf
   refine Tr.seq ?_
   refine rg ?_
   conv => whnf
   refine Tr.cond ?_
   conv => whnf
   refine condS_kt hb27 ?_
   refine rg ?_
   conv => whnf
   cases h
  refine Tr.exit ?_
  conv => whnf
  exact Wk.mk2 [0] 1 rfl rfl (by decide) rfl ⟨daS_d rfl, trivial⟩ trivial
 clear hv33
 conv => whnf
 refine endW hw ?_
 conv => whnf
 cases h
 exact endB rfl rfl rfl ⟨⟨_, rfl⟩, trivial⟩
theorem P247 (c_1 : Thistory_view) (l_2 : List Thistory_pair_int_int) (l_3 : List Thistory_pair_int_int) (h : M247 c_1 l_2 = some l_3) :
    MC prog 60 [.sl 0 2 0 (List.length l_2), .d (.fm 58 [(eThistory_view c_1)])] [.arr 2 (List.map .d (List.map eThistory_pair_int_int l_2))] (fun rs Bs => rs = [] ∧ Bs = [.arr 2 (List.map .d (List.map eThistory_pair_int_int l_3))]) := by
 refine MC.of_tr (cx := ⟨9, none, lay, 1⟩) layOK func60 rfl rfl rfl rfl rfl (by simp [f60]) ?_
 refine Tr.unW ?_
 unfold M247 at h
 refine rg ?_
 conv => whnf
 refine lnS_mk rfl ?_
 conv => whnf
 obtain ⟨l_4, hc5, h⟩ := bS h
 refine MC.ecall (P246 ((((l_2).length : Int))) c_1 l_2 l_4 hc5) [0] (by decide) rfl rfl ?_ (fun rs Bs1 hrs => ?_)
 · exact ⟨⟨⟨_, rfl⟩, rfl⟩, trivial⟩
 obtain ⟨rfl, rfl⟩ := hrs
 conv => whnf
 obtain ⟨_, hl6, h⟩ := bS h
 refine endH ?_
 conv => whnf
 cases h
 exact endB rfl rfl rfl ⟨⟨_, rfl⟩, trivial⟩
theorem P250 (f_1 : TField) (h_2 : THistory) (r_3 : List Int) (r_4 : Int) (h : M250 f_1 h_2 = some (r_3, r_4)) :
    PC prog 26 [(eTField f_1), (eTHistory h_2)] (fun rs => rs = [(.ls (List.map eI r_3)), (.i .i64 r_4)]) := by
 refine PC.of_tr (cx := ⟨38, none, lay, 0⟩) layOK func26 rfl rfl rfl rfl rfl (by simp [f26]) ?_
 unfold M250 at h
 refine Tr.seq ?_
 refine rg ?_
 conv => whnf
 refine Tr.seq ?_
 refine rg ?_
 conv => whnf
 obtain ⟨⟨r_5, r_6⟩, hc7, h⟩ := bS h
 refine PC.ecall (P212 f_1 h_2 r_5 r_6 hc7) (fun rs hrs => ?_)
 subst hrs
 conv => whnf
 refine Tr.seq ?_
 refine Tr.seq ?_
 refine rg ?_
 conv => whnf
 refine Tr.cond ?_
 conv => whnf
 refine cB h (fun hb8 h => ?_) (fun hb8 h => ?_)
 ·refine Tr.seq ?_
  refine rg ?_
  conv => whnf
  refine Tr.ret ?_
  conv => whnf
  cases h
  rfl
 refine Tr.skip ?_
 conv => whnf
 refine Tr.seq ?_
 refine rg ?_
 conv => whnf
 refine ECall.of_tr (cx := ⟨28, none, lay, 3⟩) layOK func57 rfl rfl rfl rfl rfl (by simp [f57]) ?_
 refine Tr.seq ?_
 refine rg ?_
 conv => whnf
 refine Tr.seq ?_
 refine Tr.seq ?_
 refine rg ?_
 conv => whnf
 refine lnS_map ?_
 conv => whnf
 obtain ⟨l_14, hv23, h⟩ := bS h
 refine Tr.cutQ1 ([(2, .sl 3 2 0 (List.length l_14))]) ([some (.var [.d (.ls (List.map eTSegment f_1.Clocks.Segments)), .d (.ls (List.map (eL eI) f_1.Clocks.Far)), .d (.ls (List.map eTPair f_1.Pairs)), .d (.ls (List.map eTRunner f_1.Runners))]), some (.var [(dI h_2.World), .d (.ls (List.map eI h_2.Offsets)), .d (.ls (List.map eTChoice h_2.Choices))]), some (.var [.d (.ls (List.map eTSegment r_5.f.Clocks.Segments)), .d (.ls (List.map (eL eI) r_5.f.Clocks.Far)), .d (.ls (List.map eTPair r_5.f.Pairs)), .d (.ls (List.map eTRunner r_5.f.Runners)), (dI r_5.h.World), .d (.ls (List.map eI r_5.h.Offsets)), .d (.ls (List.map eTChoice r_5.h.Choices))]), some (.arr 2 (List.map .d (List.map eThistory_pair_int_int l_14)))]) ?_ (fun T1 H1 hw => ?_)
 ·replace h := hv23; clear hv23
  refine Tr.block ?_
  refine Tr.loopM (σ := Int × List Thistory_pair_int_int) (fun n s => M248 r_5 n s.1 s.2) l_14 (fun s => ([(1, .pt 3 0), (2, .sl 4 2 0 (List.length s.2)), (9, (dI (((r_5.f.Runners).length : Int)))), (10, (dI s.1))], [some (.var [.d (.ls (List.map eTSegment f_1.Clocks.Segments)), .d (.ls (List.map (eL eI) f_1.Clocks.Far)), .d (.ls (List.map eTPair f_1.Pairs)), .d (.ls (List.map eTRunner f_1.Runners))]), some (.var [(dI h_2.World), .d (.ls (List.map eI h_2.Offsets)), .d (.ls (List.map eTChoice h_2.Choices))]), some (.var [.d (.ls (List.map eTSegment r_5.f.Clocks.Segments)), .d (.ls (List.map (eL eI) r_5.f.Clocks.Far)), .d (.ls (List.map eTPair r_5.f.Pairs)), .d (.ls (List.map eTRunner r_5.f.Runners)), (dI r_5.h.World), .d (.ls (List.map eI r_5.h.Offsets)), .d (.ls (List.map eTChoice r_5.h.Choices))]), some (.var [.d (.ls (List.map eTSegment r_5.f.Clocks.Segments)), .d (.ls (List.map (eL eI) r_5.f.Clocks.Far)), .d (.ls (List.map eTPair r_5.f.Pairs)), .d (.ls (List.map eTRunner r_5.f.Runners)), (dI r_5.h.World), .d (.ls (List.map eI r_5.h.Offsets)), .d (.ls (List.map eTChoice r_5.h.Choices))]), some (.arr 2 (List.map .d (List.map eThistory_pair_int_int s.2)))])) (((((r_5.f.Runners).length : Int)) - 0 : Int).toNat + 1) (0, (([] : List Thistory_pair_int_int))) h (fun s => rfl) (Wk.mk2 [0, 1, 2, 3, 4] 4 rfl rfl (by decide) rfl ⟨rr, rr, rr, rr, rfl, trivial⟩ ⟨rr, ⟨rfl, (by first | rfl | (simp only [↓hb8, bl]; done) | (simp only [↓hb8, bl]; rfl))⟩, rr, rr, trivial⟩) ?_
  clear h
  rintro n_13 ⟨v_11, l_12⟩ h
  replace h : M248 r_5 (n_13 + 1) v_11 l_12 = some l_14 := h
  rw [M248] at h
  refine Tr.seq ?_
  refine rg ?_
  conv => whnf
  refine Tr.seq ?_
  refine Tr.cond ?_
  conv => whnf
  refine cB h (fun hb17 h => ?_) (fun hb17 h => ?_)
  ·refine Tr.skip ?_
   conv => whnf
   refine Tr.seq ?_
   refine Tr.block ?_
   refine Tr.seq ?_
   refine rg ?_
   conv => whnf
   refine Tr.seq ?_
   refine rg ?_
   conv => whnf
   obtain ⟨⟨r_18, r_19⟩, hc20, h⟩ := bS h
   refine PC.ecall (P214 r_5 v_11 r_18 r_19 hc20) (fun rs hrs => ?_)
   subst hrs
   conv => whnf
   refine Tr.seq ?_
   refine rg ?_
   conv => whnf
   refine Tr.cond ?_
   conv => whnf
   refine cB h (fun hb21 h => ?_) (fun hb21 h => ?_)
   ·refine rg ?_
    conv => whnf
    refine orB_r ?_
    conv => whnf
    refine frP_no ?_
    conv => whnf
    refine eqS_mk (by first | rfl | simp) ?_
    conv => whnf
    obtain ⟨l_22, hl_22, h⟩ := bS h
    refine apS_of hl_22 (aQ (f := eThistory_pair_int_int) (l := (([({ first := v_11, second := r_18 } : Thistory_pair_int_int)] : List Thistory_pair_int_int))) fun _ => rfl) (by first | rfl | simp) (by first | rfl | simp) (fun he => ?_)
    conv => whnf
    refine rS (es' := List.map .d (List.map eThistory_pair_int_int l_22)) (n' := List.length l_22) (by subst he; simp only [List.map_append, List.map_cons, List.map_nil, List.nil_append]; first | done | rfl) (by subst he; simp <;> omega) ?_
    clear he
    conv => whnf
    refine rg ?_
    conv => whnf
    refine arS_raw ?_
    conv => whnf
    refine ⟨((w64 (v_11 + 1)), l_22), h, ?_⟩
    exact Wk.mk2 [0, 1, 2, 3, 5] 6 rfl rfl (by decide) rfl ⟨rr, rr, rr, rr, daS_d rfl, trivial⟩ ⟨rr, ⟨rfl, (by first | rfl | (simp only [↓hb8, ↓hb17, ↓hb21, bl]; done) | (simp only [↓hb8, ↓hb17, ↓hb21, bl]; rfl))⟩, rr, rr, trivial⟩
   refine Tr.skip ?_
   conv => whnf
   refine rg ?_
   conv => whnf
   refine arS_raw ?_
   conv => whnf
   refine ⟨((w64 (v_11 + 1)), l_12), h, ?_⟩
   exact Wk.mk2 [0, 1, 2, 3, 4] 5 rfl rfl (by decide) rfl ⟨rr, rr, rr, rr, daS_d rfl, trivial⟩ ⟨rr, rr, rr, rr, trivial⟩
  refine Tr.exit ?_
  conv => whnf
  cases h
  exact Wk.mk2 [0, 1, 2, 4] 5 rfl rfl (by decide) rfl ⟨rr, rr, rr, daS_d rfl, trivial⟩ ⟨⟨rfl, (by first | rfl | (simp only [↓hb8, ↓hb17, bl]; done) | (simp only [↓hb8, ↓hb17, bl]; rfl))⟩, trivial⟩
 clear hv23
 conv => whnf
 refine Tr.weak hw ?_
 refine Tr.seq ?_
 refine rg ?_
 conv => whnf
 refine Tr.ret ?_
 conv => whnf
 refine Tr.seq ?_
 refine rg ?_
 conv => whnf
 obtain ⟨l_24, hc25, h⟩ := bS h
 refine MC.ecall (P247 r_5 l_14 l_24 hc25) [3] (by decide) rfl rfl ?_ (fun rs Bs1 hrs => ?_)
 · exact ⟨⟨⟨_, rfl⟩, rfl⟩, trivial⟩
 obtain ⟨rfl, rfl⟩ := hrs
 conv => whnf
 obtain ⟨_, hl26, h⟩ := bS h
 refine Tr.seq ?_
 refine Tr.seq ?_
 refine rg ?_
 conv => whnf
 refine lnS_mk (m := List.length l_24) (by first | rfl | simp [lenIs_eq hl26]) ?_
 conv => whnf
 obtain ⟨l_32, hv38, h⟩ := bS h
 refine Tr.cutQ1 ([(4, .sl 0 1 0 (List.length l_32)), (5, (dI r_6))]) ([some (.arr 1 (List.map .d (List.map eI l_32)))]) ?_ (fun T1 H1 hw => ?_)
 ·replace h := hv38; clear hv38
  refine Tr.block ?_
  refine Tr.loopM (σ := Int × List Int) (fun n s => M249 l_24 n s.1 s.2) l_32 (fun s => ([(4, .sl 0 1 0 (List.length s.2)), (5, (dI r_6)), (25, .sl 1 2 0 (List.length l_24)), (26, (dI (((l_24).length : Int)))), (27, (dI s.1))], [some (.arr 1 (List.map .d (List.map eI s.2))), some (.arr 2 (List.map .d (List.map eThistory_pair_int_int l_24)))])) (((((l_24).length : Int)) - 0 : Int).toNat + 1) (0, (([] : List Int))) h (fun s => rfl) (Wk.mk2 [4, 3] 4 rfl rfl (by decide) rfl ⟨rfl, daS_d rfl, trivial⟩ ⟨⟨rfl, (by first | rfl | (simp only [↓hb8, bl]; done) | (simp only [↓hb8, bl]; rfl))⟩, rr, ⟨rfl, (slEq (by first | rfl | simp [lenIs_eq hl26]))⟩, rr, rr, trivial⟩) ?_
  clear h
  rintro n_31 ⟨v_29, l_30⟩ h
  replace h : M249 l_24 (n_31 + 1) v_29 l_30 = some l_32 := h
  rw [M249] at h
  refine Tr.seq ?_
  refine rg ?_
  conv => whnf
  refine Tr.seq ?_
  refine Tr.cond ?_
  conv => whnf
  refine cB h (fun hb35 h => ?_) (fun hb35 h => ?_)
  ·refine Tr.skip ?_
   conv => whnf
   refine Tr.seq ?_
   refine Tr.block ?_
   refine Tr.seq ?_
   refine rg ?_
   conv => whnf
   obtain ⟨x_36, hx_36, h⟩ := bS h
   refine ixS_of hx_36 rfl ?_
   conv => whnf
   refine elP_of hx_36 ?_
   conv => whnf
   refine rg ?_
   conv => whnf
   refine orB_r ?_
   conv => whnf
   refine frP_no ?_
   conv => whnf
   refine eqS_mk (by first | rfl | simp) ?_
   conv => whnf
   obtain ⟨l_37, hl_37, h⟩ := bS h
   refine apS_of hl_37 (aQ (f := eI) (l := (([x_36.first] : List Int))) fun _ => rfl) (by first | rfl | simp) (by first | rfl | simp) (fun he => ?_)
   conv => whnf
   refine rS (es' := List.map .d (List.map eI l_37)) (n' := List.length l_37) (by subst he; simp only [List.map_append, List.map_cons, List.map_nil, List.nil_append]; first | done | rfl) (by subst he; simp <;> omega) ?_
   clear he
   conv => whnf
   refine rg ?_
   conv => whnf
   refine arS_raw ?_
   conv => whnf
   refine ⟨((w64 (v_29 + 1)), l_37), h, ?_⟩
   exact Wk.mk2 [3, 1] 4 rfl rfl (by decide) rfl ⟨daS_d rfl, daS_d rfl, trivial⟩ ⟨⟨rfl, (by first | rfl | (simp only [↓hb8, ↓hb35, bl]; done) | (simp only [↓hb8, ↓hb35, bl]; rfl))⟩, rr, rr, rr, rr, trivial⟩
  refine Tr.exit ?_
  conv => whnf
  cases h
  exact Wk.mk2 [0] 2 rfl rfl (by decide) rfl ⟨daS_d rfl, trivial⟩ ⟨rr, rr, trivial⟩
 clear hv38
 conv => whnf
 refine Tr.weak hw ?_
 refine Tr.seq ?_
 refine rg ?_
 conv => whnf
 refine Tr.ret ?_
 conv => whnf
 refine frE_of (f := eI) (l := l_32) rfl ?_
 conv => whnf
 cases h
 rfl
theorem P251 (s_1 : List Int) (c_2 : List Int) (h : M251 s_1 = some c_2) :
    PC prog 42 [(.ls (List.map eI s_1))] (fun rs => rs = [(.fn 78 [(.ro [(.ls (List.map eI c_2))])])]) := by
 refine PC.of_tr (cx := ⟨4, none, lay, 0⟩) layOK func42 rfl rfl rfl rfl rfl (by simp [f42]) ?_
 unfold M251 at h
 refine Tr.seq ?_
 refine rg ?_
 conv => whnf
 refine Tr.seq ?_
 refine rg ?_
 conv => whnf
 refine Tr.ret ?_
 conv => whnf
 cases h
 rfl
end Go.Proofs.Tryz
