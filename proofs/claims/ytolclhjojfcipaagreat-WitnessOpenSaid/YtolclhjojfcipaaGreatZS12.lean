/- Contracts of functions, by program (gen.py). No condition. -/
import Derived.Test.YtolclhjojfcipaaGreatZL
import Derived.Test.YtolclhjojfcipaaGreatZM
import Derived.Test.YtolclhjojfcipaaGreatZS11
namespace Go.Proofs.Tryz
open Go Go.Abs Go.Stop
set_option maxRecDepth 8000
set_option linter.unusedVariables false
set_option linter.unusedSimpArgs false
theorem P307 (f_1 : TField) (runner_2 : Int) (r_3 : Bool) (h : M307 f_1 runner_2 = some r_3) :
    PC prog 5 [(eTField f_1), (.i .u8 runner_2)] (fun rs => rs = [(.b r_3)]) := by
 refine PC.of_tr (cx := ⟨175, none, lay, 0⟩) layOK func5 rfl rfl rfl rfl rfl (by simp [f5]) ?_
 unfold M307 at h
 refine Tr.seq ?_
 refine rg ?_
 conv => whnf
 refine Tr.seq ?_
 refine Tr.seq ?_
 refine rg ?_
 conv => whnf
 obtain ⟨r_4, hc5, h⟩ := bS h
 refine PC.ecall (P271 r_4 hc5) (fun rs hrs => ?_)
 subst hrs
 conv => whnf
 refine Tr.cond ?_
 conv => whnf
 refine cB h (fun hb6 h => ?_) (fun hb6 h => ?_)
 ·refine Tr.seq ?_
  refine rg ?_
  conv => whnf
  refine Tr.ret ?_
  conv => whnf
  cases h
  rfl
 refine Tr.skip ?_
 conv => whnf
 refine Tr.seq ?_
 refine Tr.seq ?_
 refine rg ?_
 conv => whnf
 obtain ⟨r_7, hc8, h⟩ := bS h
 refine PC.ecall (P278 f_1 r_7 hc8) (fun rs hrs => ?_)
 subst hrs
 conv => whnf
 refine cB h (fun hb9 h => ?_) (fun hb9 h => ?_)
 ·conv => whnf
  refine Tr.cond ?_
  conv => whnf
  refine Tr.seq ?_
  refine rg ?_
  conv => whnf
  refine Tr.ret ?_
  conv => whnf
  cases h
  rfl
 conv => whnf
 obtain ⟨r_10, hc11, h⟩ := bS h
 refine PC.ecall (P160 f_1 r_10 hc11) (fun rs hrs => ?_)
 subst hrs
 conv => whnf
 refine Tr.cond ?_
 conv => whnf
 refine cB h (fun hb12 h => ?_) (fun hb12 h => ?_)
 ·refine Tr.seq ?_
  refine rg ?_
  conv => whnf
  refine Tr.ret ?_
  conv => whnf
  cases h
  rfl
 refine Tr.skip ?_
 conv => whnf
 refine Tr.seq ?_
 refine rg ?_
 conv => whnf
 refine arS_raw ?_
 conv => whnf
 refine lnS_map ?_
 conv => whnf
 obtain ⟨u_13, hu_13, h⟩ := bS h
 refine neS_mk (nz_ne hu_13) ?_
 conv => whnf
 refine Tr.seq ?_
 refine rg ?_
 conv => whnf
 obtain ⟨⟨r_14, r_15⟩, hc16, h⟩ := bS h
 refine PC.ecall (P93 f_1 ((Int.tmod (w64 runner_2) (((f_1.Runners).length : Int)))) r_14 r_15 hc16) (fun rs hrs => ?_)
 subst hrs
 conv => whnf
 refine Tr.seq ?_
 refine rg ?_
 conv => whnf
 obtain ⟨⟨r_17, r_18⟩, hc19, h⟩ := bS h
 refine PC.ecall (P127 f_1 ((Int.tmod (w64 runner_2) (((f_1.Runners).length : Int)))) r_17 r_18 hc19) (fun rs hrs => ?_)
 subst hrs
 conv => whnf
 refine Tr.seq ?_
 refine Tr.seq ?_
 refine rg ?_
 conv => whnf
 refine cB h (fun hb20 h => ?_) (fun hb20 h => ?_)
 ·conv => whnf
  refine Tr.cond ?_
  conv => whnf
  refine Tr.seq ?_
  refine rg ?_
  conv => whnf
  refine Tr.ret ?_
  conv => whnf
  cases h
  rfl
 conv => whnf
 refine cB h (fun hb21 h => ?_) (fun hb21 h => ?_)
 ·conv => whnf
  refine Tr.cond ?_
  conv => whnf
  refine Tr.seq ?_
  refine rg ?_
  conv => whnf
  refine Tr.ret ?_
  conv => whnf
  cases h
  rfl
 conv => whnf
 obtain ⟨r_22, hc23, h⟩ := bS h
 refine PC.ecall (P238 f_1 r_14 r_22 hc23) (fun rs hrs => ?_)
 subst hrs
 conv => whnf
 refine Tr.cond ?_
 conv => whnf
 refine cB h (fun hb24 h => ?_) (fun hb24 h => ?_)
 ·refine Tr.seq ?_
  refine rg ?_
  conv => whnf
  refine Tr.ret ?_
  conv => whnf
  cases h
  rfl
 refine Tr.skip ?_
 conv => whnf
 refine Tr.seq ?_
 refine Tr.seq ?_
 refine rg ?_
 conv => whnf
 refine Tr.cond ?_
 conv => whnf
 refine cB h (fun hb25 h => ?_) (fun hb25 h => ?_)
 ·refine Tr.seq ?_
  refine rg ?_
  conv => whnf
  refine arS_raw ?_
  conv => whnf
  refine arS_raw ?_
  conv => whnf
  refine orB_r ?_
  conv => whnf
  refine lnS_map (f := eTRank) (l := (([({ Bib := r_14.Bib, Kind := r_14.Kind, Lo := (w64 (r_14.Lo + 1)), Hi := r_14.Hi, Out := r_14.Out } : TRank), ({ Bib := r_14.Bib, Kind := r_14.Kind, Lo := r_14.Lo, Hi := (w64 (r_14.Hi - 1)), Out := r_14.Out } : TRank)] : List TRank))) ?_
  conv => whnf
  refine Tr.cutQ (α := Unit) (fun s => ([(2, .pt 0 0), (4, .d (.b false)), (5, (dI (Int.tmod (w64 runner_2) (((f_1.Runners).length : Int))))), (6, .pt 1 0), (8, .pt 2 0), (9, (dI r_18))], [some (.var [.d (.ls (List.map eTSegment f_1.Clocks.Segments)), .d (.ls (List.map (eL eI) f_1.Clocks.Far)), .d (.ls (List.map eTPair f_1.Pairs)), .d (.ls (List.map eTRunner f_1.Runners))]), some (.var [(dI r_14.Bib), (dI r_14.Kind), (dI r_14.Lo), (dI r_14.Hi), .d (.b r_14.Out)]), some (.var [(dI r_17.Bib), (dI r_17.A.World), .d (.ls (List.map eI r_17.A.Offsets)), .d (.ls (List.map eTChoice r_17.A.Choices)), (dI r_17.B.World), .d (.ls (List.map eI r_17.B.Offsets)), .d (.ls (List.map eTChoice r_17.B.Choices))])])) (fun s => M306 f_1 runner_2 r_14 r_17 r_18 s = some r_3) ?_ ?_
  ·refine Tr.block ?_
   refine Tr.loopM (σ := Int) (fun n s => M305 f_1 r_14 (M306 f_1 runner_2 r_14 r_17 r_18) n s) r_3 (fun s => ([(2, .pt 0 0), (4, .d (.b false)), (5, (dI (Int.tmod (w64 runner_2) (((f_1.Runners).length : Int))))), (6, .pt 1 0), (8, .pt 2 0), (9, (dI r_18)), (89, .d (.ls (List.map eTRank (([({ Bib := r_14.Bib, Kind := r_14.Kind, Lo := (w64 (r_14.Lo + 1)), Hi := r_14.Hi, Out := r_14.Out } : TRank), ({ Bib := r_14.Bib, Kind := r_14.Kind, Lo := r_14.Lo, Hi := (w64 (r_14.Hi - 1)), Out := r_14.Out } : TRank)] : List TRank))))), (90, (dI 2)), (91, (dI s))], [some (.var [.d (.ls (List.map eTSegment f_1.Clocks.Segments)), .d (.ls (List.map (eL eI) f_1.Clocks.Far)), .d (.ls (List.map eTPair f_1.Pairs)), .d (.ls (List.map eTRunner f_1.Runners))]), some (.var [(dI r_14.Bib), (dI r_14.Kind), (dI r_14.Lo), (dI r_14.Hi), .d (.b r_14.Out)]), some (.var [(dI r_17.Bib), (dI r_17.A.World), .d (.ls (List.map eI r_17.A.Offsets)), .d (.ls (List.map eTChoice r_17.A.Choices)), (dI r_17.B.World), .d (.ls (List.map eI r_17.B.Offsets)), .d (.ls (List.map eTChoice r_17.B.Choices))])])) ((2 - 0 : Int).toNat + 1) (0) h (fun s => rfl) (Wk.mk2 [0, 1, 2] 3 rfl rfl (by decide) rfl ⟨rr, rr, rr, trivial⟩ ⟨rr, rr, rr, rr, rr, rr, rr, rr, rr, trivial⟩) ?_
   clear h
   rintro n_28 v_27 h
   replace h : M305 f_1 r_14 (M306 f_1 runner_2 r_14 r_17 r_18) (n_28 + 1) v_27 = some r_3 := h
   rw [M305] at h
   refine Tr.seq ?_
   refine rg ?_
   conv => whnf
   refine Tr.seq ?_
   refine Tr.cond ?_
   conv => whnf
   refine cB h (fun hb31 h => ?_) (fun hb31 h => ?_)
   ·refine Tr.skip ?_
    conv => whnf
    refine Tr.seq ?_
    refine Tr.block ?_
    refine Tr.seq ?_
    refine rg ?_
    conv => whnf
    obtain ⟨x_32, hx_32, h⟩ := bS h
    refine ixP_of hx_32 ?_
    conv => whnf
    refine Tr.seq ?_
    refine rg ?_
    conv => whnf
    obtain ⟨r_33, hc34, h⟩ := bS h
    refine PC.ecall (P238 f_1 x_32 r_33 hc34) (fun rs hrs => ?_)
    subst hrs
    conv => whnf
    refine Tr.cond ?_
    conv => whnf
    refine cB h (fun hb35 h => ?_) (fun hb35 h => ?_)
    ·refine Tr.seq ?_
     refine rg ?_
     conv => whnf
     refine Tr.ret ?_
     conv => whnf
     cases h
     rfl
    refine Tr.skip ?_
    conv => whnf
    refine rg ?_
    conv => whnf
    refine arS_raw ?_
    conv => whnf
    refine ⟨((w64 (v_27 + 1))), h, ?_⟩
    exact Wk.mk2 [0, 1, 2] 4 rfl rfl (by decide) rfl ⟨rr, rr, rr, trivial⟩ ⟨rr, rr, rr, rr, rr, rr, rr, rr, rr, trivial⟩
   refine Tr.exit ?_
   conv => whnf
   refine ⟨(), h, ?_⟩
   exact Wk.mk2 [0, 1, 2] 3 rfl rfl (by decide) rfl ⟨rr, rr, rr, trivial⟩ ⟨rr, rr, rr, rr, rr, rr, trivial⟩
  clear h
  rintro _ h T1 H1 hw
  replace h : M306 f_1 runner_2 r_14 r_17 r_18 () = some r_3 := h
  conv => whnf
  refine Tr.weak hw ?_
  unfold M306 at h
  refine Tr.seq ?_
  refine Tr.seq ?_
  refine rg ?_
  conv => whnf
  refine Tr.cond ?_
  conv => whnf
  refine cB h (fun hb36 h => ?_) (fun hb36 h => ?_)
  ·refine Tr.seq ?_
   refine rg ?_
   conv => whnf
   refine Tr.seq ?_
   refine rg ?_
   conv => whnf
   refine Tr.seq ?_
   refine rg ?_
   conv => whnf
   obtain ⟨r_37, hc38, h⟩ := bS h
   refine PC.ecall (P238 f_1 ({ Bib := r_14.Bib, Kind := r_14.Kind, Lo := r_14.Lo, Hi := r_14.Hi, Out := false } : TRank) r_37 hc38) (fun rs hrs => ?_)
   subst hrs
   conv => whnf
   refine Tr.cond ?_
   conv => whnf
   refine cB h (fun hb39 h => ?_) (fun hb39 h => ?_)
   ·refine Tr.seq ?_
    refine rg ?_
    conv => whnf
    refine Tr.ret ?_
    conv => whnf
    cases h
    rfl
   refine Tr.skip ?_
   conv => whnf
   refine Tr.seq ?_
   refine Tr.seq ?_
   refine rg ?_
   conv => whnf
   refine Tr.cond ?_
   conv => whnf
   refine cB h (fun hb40 h => ?_) (fun hb40 h => ?_)
   ·refine Tr.seq ?_
    refine rg ?_
    conv => whnf
    refine Tr.ret ?_
    conv => whnf
    cases h
    rfl
   refine Tr.skip ?_
   conv => whnf
   refine Tr.seq ?_
   refine rg ?_
   conv => whnf
   obtain ⟨⟨r_41, r_42⟩, hc43, h⟩ := bS h
   refine PC.ecall (P219 f_1 r_17.A ((Int.tmod (w64 runner_2) (((f_1.Runners).length : Int)))) r_41 r_42 hc43) (fun rs hrs => ?_)
   subst hrs
   conv => whnf
   refine Tr.seq ?_
   refine rg ?_
   conv => whnf
   obtain ⟨⟨r_44, r_45⟩, hc46, h⟩ := bS h
   refine PC.ecall (P219 f_1 r_17.B ((Int.tmod (w64 runner_2) (((f_1.Runners).length : Int)))) r_44 r_45 hc46) (fun rs hrs => ?_)
   subst hrs
   conv => whnf
   refine Tr.seq ?_
   refine rg ?_
   conv => whnf
   refine Tr.seq ?_
   refine Tr.seq ?_
   refine rg ?_
   conv => whnf
   refine Tr.cond ?_
   conv => whnf
   refine cB h (fun hb47 h => ?_) (fun hb47 h => ?_)
   ·refine rg ?_
    conv => whnf
    refine Tr.seq ?_
    obtain ⟨v_48, hv49, h⟩ := bS h
    refine Tr.cutQ1 ([(4, .d (.b v_48))]) ([]) ?_ (fun T1 H1 hw => ?_)
    ·replace h := hv49; clear hv49
     refine Tr.draw (DrawP.seqQ layOK mixed [] [(0, 3), (1, 4), (2, 5), (3, 1), (4, 1), (5, 1), (6, 5), (7, 5), (8, 3), (9, 3), (10, 1), (11, 2), (12, 2), (13, 2), (14, 1), (15, 1), (16, 1), (17, 1), (18, 1), (19, 1), (20, 1), (21, 1), (22, 1), (23, 1), (24, 1), (25, 1), (26, 4), (27, 4), (28, 1), (29, 1), (30, 1), (31, 1), (32, 1), (33, 1), (34, 1), (35, 1), (36, 1), (37, 1), (38, 1), (39, 1), (40, 1)] (by kernel_rfl) ?_)
     conv => whnf
     refine ⟨_, ⟨rfl, rfl, rr⟩, ?_⟩
     conv => whnf
     refine ⟨_, ⟨rfl, rfl, rr⟩, ?_⟩
     conv => whnf
     refine ⟨_, ⟨rfl, rfl, rr⟩, ?_⟩
     conv => whnf
     obtain ⟨r_50, hc51, h⟩ := bS h
     refine ⟨_, (fun _ => by (conv => whnf); (refine PC.ecall (P220 f_1 r_14 r_17 r_50 hc51) (fun rs hrs => ?_)); (subst hrs); (conv => whnf); (exact rr)), ?_⟩
     conv => whnf
     refine ⟨_, (fun _ => rr), ?_⟩
     conv => whnf
     refine ⟨_, (fun _ => rr), ?_⟩
     conv => whnf
     refine cB h (fun hb52 h => ?_) (fun hb52 h => ?_)
     ·conv => whnf
      refine ⟨_, ⟨rfl, rfl, rr⟩, ?_⟩
      conv => whnf
      refine ⟨_, ⟨rfl, rfl, rr⟩, ?_⟩
      conv => whnf
      refine ⟨_, ⟨rfl, rfl, rr⟩, ?_⟩
      conv => whnf
      refine ⟨_, ⟨rfl, rfl, rr⟩, ?_⟩
      conv => whnf
      refine ⟨_, (fun _ => rr), ?_⟩
      conv => whnf
      obtain ⟨x_53, hx_53, h⟩ := bS h
      refine ⟨_, ⟨rfl, rfl, (by (conv => whnf); (refine ixP_of hx_53 ?_); (conv => whnf); (exact rr))⟩, ?_⟩
      conv => whnf
      refine ⟨_, ⟨rfl, rfl, rr⟩, ?_⟩
      conv => whnf
      refine ⟨_, ⟨rfl, rfl, rr⟩, ?_⟩
      conv => whnf
      refine ⟨_, (fun _ => rr), ?_⟩
      conv => whnf
      refine ⟨_, (fun _ => rr), ?_⟩
      conv => whnf
      refine ⟨_, (fun _ => rr), ?_⟩
      conv => whnf
      refine cB h (fun hb54 h => ?_) (fun hb54 h => ?_)
      ·conv => whnf
       refine ⟨_, (fun _ => rr), ?_⟩
       conv => whnf
       refine ⟨_, (fun _ => rr), ?_⟩
       conv => whnf
       refine ⟨_, (fun _ => rr), ?_⟩
       conv => whnf
       refine ⟨_, (fun _ => rr), ?_⟩
       conv => whnf
       refine cB h (fun hb55 h => ?_) (fun hb55 h => ?_)
       ·conv => whnf
        refine ⟨_, (fun _ => rr), ?_⟩
        conv => whnf
        refine ⟨_, (fun _ => rr), ?_⟩
        conv => whnf
        refine ⟨_, (fun _ => rr), ?_⟩
        conv => whnf
        refine ⟨_, (fun _ => rr), ?_⟩
        conv => whnf
        refine cB h (fun hb56 h => ?_) (fun hb56 h => ?_)
        ·conv => whnf
         refine ⟨_, (fun _ => rr), ?_⟩
         conv => whnf
         refine ⟨_, ⟨rfl, rfl, rr⟩, ?_⟩
         conv => whnf
         refine ⟨_, ⟨rfl, rfl, rr⟩, ?_⟩
         conv => whnf
         refine ⟨_, (fun _ => rr), ?_⟩
         conv => whnf
         refine ⟨_, (fun _ => rr), ?_⟩
         conv => whnf
         refine ⟨_, (fun _ => rr), ?_⟩
         conv => whnf
         refine cB h (fun hb57 h => ?_) (fun hb57 h => ?_)
         ·conv => whnf
          refine ⟨_, (fun _ => rr), ?_⟩
          conv => whnf
          refine ⟨_, (fun _ => rr), ?_⟩
          conv => whnf
          refine ⟨_, (fun _ => rr), ?_⟩
          conv => whnf
          refine ⟨_, (fun _ => rr), ?_⟩
          conv => whnf
          refine ⟨_, (fun _ => rr), ?_⟩
          conv => whnf
          refine cB h (fun hb58 h => ?_) (fun hb58 h => ?_)
          ·conv => whnf
           refine ⟨_, (fun _ => rr), ?_⟩
           conv => whnf
           refine ⟨_, (fun _ => rr), ?_⟩
           conv => whnf
           refine ⟨_, (fun _ => rr), ?_⟩
           conv => whnf
           refine ⟨_, (fun _ => rr), ?_⟩
           conv => whnf
           refine ⟨_, (fun _ => rr), ?_⟩
           conv => whnf
           cases h
           exact Wk.mk2 [] 4 rfl rfl (by decide) rfl trivial ⟨rr, trivial⟩
          conv => whnf
          refine ⟨_, (fun _ => rr), ?_⟩
          conv => whnf
          refine ⟨_, (fun _ => rr), ?_⟩
          conv => whnf
          cases h
          exact Wk.mk2 [] 4 rfl rfl (by decide) rfl trivial ⟨rr, trivial⟩
         conv => whnf
         refine ⟨_, (fun _ => rr), ?_⟩
         conv => whnf
         refine ⟨_, (fun _ => rr), ?_⟩
         conv => whnf
         refine ⟨_, (fun _ => rr), ?_⟩
         conv => whnf
         refine ⟨_, (fun _ => rr), ?_⟩
         conv => whnf
         cases h
         exact Wk.mk2 [] 4 rfl rfl (by decide) rfl trivial ⟨rr, trivial⟩
        conv => whnf
        refine ⟨_, (fun _ => rr), ?_⟩
        conv => whnf
        refine ⟨_, (fun _ => rr), ?_⟩
        conv => whnf
        refine ⟨_, (fun _ => rr), ?_⟩
        conv => whnf
        refine ⟨_, (fun _ => rr), ?_⟩
        conv => whnf
        refine ⟨_, (fun _ => rr), ?_⟩
        conv => whnf
        refine ⟨_, (fun _ => rr), ?_⟩
        conv => whnf
        cases h
        exact Wk.mk2 [] 4 rfl rfl (by decide) rfl trivial ⟨rr, trivial⟩
       conv => whnf
       refine ⟨_, (fun _ => rr), ?_⟩
       conv => whnf
       refine ⟨_, (fun _ => rr), ?_⟩
       conv => whnf
       refine ⟨_, (fun _ => rr), ?_⟩
       conv => whnf
       refine ⟨_, (fun _ => rr), ?_⟩
       conv => whnf
       refine ⟨_, (fun _ => rr), ?_⟩
       conv => whnf
       refine ⟨_, (fun _ => rr), ?_⟩
       conv => whnf
       refine ⟨_, (fun _ => rr), ?_⟩
       conv => whnf
       refine ⟨_, (fun _ => rr), ?_⟩
       conv => whnf
       cases h
       exact Wk.mk2 [] 4 rfl rfl (by decide) rfl trivial ⟨rr, trivial⟩
      conv => whnf
      refine ⟨_, (fun _ => rr), ?_⟩
      conv => whnf
      refine ⟨_, (fun _ => rr), ?_⟩
      conv => whnf
      refine ⟨_, (fun _ => rr), ?_⟩
      conv => whnf
      refine ⟨_, (fun _ => rr), ?_⟩
      conv => whnf
      refine ⟨_, (fun _ => rr), ?_⟩
      conv => whnf
      refine ⟨_, (fun _ => rr), ?_⟩
      conv => whnf
      refine ⟨_, (fun _ => rr), ?_⟩
      conv => whnf
      refine ⟨_, (fun _ => rr), ?_⟩
      conv => whnf
      refine ⟨_, (fun _ => rr), ?_⟩
      conv => whnf
      refine ⟨_, (fun _ => rr), ?_⟩
      conv => whnf
      cases h
      exact Wk.mk2 [] 4 rfl rfl (by decide) rfl trivial ⟨rr, trivial⟩
     conv => whnf
     refine ⟨_, (fun _ => rr), ?_⟩
     conv => whnf
     refine ⟨_, (fun _ => rr), ?_⟩
     conv => whnf
     refine ⟨_, (fun _ => rr), ?_⟩
     conv => whnf
     refine ⟨_, (fun _ => rr), ?_⟩
     conv => whnf
     refine ⟨_, (fun _ => rr), ?_⟩
     conv => whnf
     refine ⟨_, (fun _ => rr), ?_⟩
     conv => whnf
     refine ⟨_, (fun _ => rr), ?_⟩
     conv => whnf
     refine ⟨_, (fun _ => rr), ?_⟩
     conv => whnf
     refine ⟨_, (fun _ => rr), ?_⟩
     conv => whnf
     refine ⟨_, (fun _ => rr), ?_⟩
     conv => whnf
     refine ⟨_, (fun _ => rr), ?_⟩
     conv => whnf
     refine ⟨_, (fun _ => rr), ?_⟩
     conv => whnf
     cases h
     exact Wk.mk2 [] 4 rfl rfl (by decide) rfl trivial ⟨rr, trivial⟩
    clear hv49
    conv => whnf
    refine Tr.weak hw ?_
    refine Tr.ret ?_
    conv => whnf
    cases h
    rfl
   refine Tr.skip ?_
   conv => whnf
   refine Tr.seq ?_
   obtain ⟨v_59, hv60, h⟩ := bS h
   refine Tr.cutQ1 ([(4, .d (.b v_59))]) ([]) ?_ (fun T1 H1 hw => ?_)
   ·replace h := hv60; clear hv60
    refine Tr.draw (DrawP.seqQ layOK mixed [] [(0, 3), (1, 4), (2, 5), (3, 1), (4, 1), (5, 1), (6, 5), (7, 5), (8, 3), (9, 3), (10, 1), (11, 2), (12, 2), (13, 2), (14, 1), (15, 1), (16, 1), (17, 1), (18, 1), (19, 1), (20, 1), (21, 1), (22, 1), (23, 1), (24, 1), (25, 1), (26, 4), (27, 4), (28, 1), (29, 1), (30, 1), (31, 1), (32, 1), (33, 1), (34, 1), (35, 1), (36, 1), (37, 1), (38, 1), (39, 1), (40, 1)] (by kernel_rfl) ?_)
    conv => whnf
    refine ⟨_, ⟨rfl, rfl, rr⟩, ?_⟩
    conv => whnf
    refine ⟨_, ⟨rfl, rfl, rr⟩, ?_⟩
    conv => whnf
    refine ⟨_, ⟨rfl, rfl, rr⟩, ?_⟩
    conv => whnf
    obtain ⟨r_61, hc62, h⟩ := bS h
    refine ⟨_, (fun _ => by (conv => whnf); (refine PC.ecall (P220 f_1 r_14 r_17 r_61 hc62) (fun rs hrs => ?_)); (subst hrs); (conv => whnf); (exact rr)), ?_⟩
    conv => whnf
    refine ⟨_, (fun _ => rr), ?_⟩
    conv => whnf
    refine ⟨_, (fun _ => rr), ?_⟩
    conv => whnf
    refine cB h (fun hb63 h => ?_) (fun hb63 h => ?_)
    ·conv => whnf
     refine ⟨_, ⟨rfl, rfl, rr⟩, ?_⟩
     conv => whnf
     refine ⟨_, ⟨rfl, rfl, rr⟩, ?_⟩
     conv => whnf
     refine ⟨_, ⟨rfl, rfl, rr⟩, ?_⟩
     conv => whnf
     refine ⟨_, ⟨rfl, rfl, rr⟩, ?_⟩
     conv => whnf
     refine ⟨_, (fun _ => rr), ?_⟩
     conv => whnf
     obtain ⟨x_64, hx_64, h⟩ := bS h
     refine ⟨_, ⟨rfl, rfl, (by (conv => whnf); (refine ixP_of hx_64 ?_); (conv => whnf); (exact rr))⟩, ?_⟩
     conv => whnf
     refine ⟨_, ⟨rfl, rfl, rr⟩, ?_⟩
     conv => whnf
     refine ⟨_, ⟨rfl, rfl, rr⟩, ?_⟩
     conv => whnf
     refine ⟨_, (fun _ => rr), ?_⟩
     conv => whnf
     refine ⟨_, (fun _ => rr), ?_⟩
     conv => whnf
     refine ⟨_, (fun _ => rr), ?_⟩
     conv => whnf
     refine cB h (fun hb65 h => ?_) (fun hb65 h => ?_)
     ·conv => whnf
      refine ⟨_, (fun _ => rr), ?_⟩
      conv => whnf
      refine ⟨_, (fun _ => rr), ?_⟩
      conv => whnf
      refine ⟨_, (fun _ => rr), ?_⟩
      conv => whnf
      refine ⟨_, (fun _ => rr), ?_⟩
      conv => whnf
      refine cB h (fun hb66 h => ?_) (fun hb66 h => ?_)
      ·conv => whnf
       refine ⟨_, (fun _ => rr), ?_⟩
       conv => whnf
       refine ⟨_, (fun _ => rr), ?_⟩
       conv => whnf
       refine ⟨_, (fun _ => rr), ?_⟩
       conv => whnf
       refine ⟨_, (fun _ => rr), ?_⟩
       conv => whnf
       refine cB h (fun hb67 h => ?_) (fun hb67 h => ?_)
       ·conv => whnf
        refine ⟨_, (fun _ => rr), ?_⟩
        conv => whnf
        refine ⟨_, ⟨rfl, rfl, rr⟩, ?_⟩
        conv => whnf
        refine ⟨_, ⟨rfl, rfl, rr⟩, ?_⟩
        conv => whnf
        refine ⟨_, (fun _ => rr), ?_⟩
        conv => whnf
        refine ⟨_, (fun _ => rr), ?_⟩
        conv => whnf
        refine ⟨_, (fun _ => rr), ?_⟩
        conv => whnf
        refine cB h (fun hb68 h => ?_) (fun hb68 h => ?_)
        ·conv => whnf
         refine ⟨_, (fun _ => rr), ?_⟩
         conv => whnf
         refine ⟨_, (fun _ => rr), ?_⟩
         conv => whnf
         refine ⟨_, (fun _ => rr), ?_⟩
         conv => whnf
         refine ⟨_, (fun _ => rr), ?_⟩
         conv => whnf
         refine ⟨_, (fun _ => rr), ?_⟩
         conv => whnf
         refine cB h (fun hb69 h => ?_) (fun hb69 h => ?_)
         ·conv => whnf
          refine ⟨_, (fun _ => rr), ?_⟩
          conv => whnf
          refine ⟨_, (fun _ => rr), ?_⟩
          conv => whnf
          refine ⟨_, (fun _ => rr), ?_⟩
          conv => whnf
          refine ⟨_, (fun _ => rr), ?_⟩
          conv => whnf
          refine ⟨_, (fun _ => rr), ?_⟩
          conv => whnf
          cases h
          exact Wk.mk2 [] 4 rfl rfl (by decide) rfl trivial ⟨rr, trivial⟩
         conv => whnf
         refine ⟨_, (fun _ => rr), ?_⟩
         conv => whnf
         refine ⟨_, (fun _ => rr), ?_⟩
         conv => whnf
         cases h
         exact Wk.mk2 [] 4 rfl rfl (by decide) rfl trivial ⟨rr, trivial⟩
        conv => whnf
        refine ⟨_, (fun _ => rr), ?_⟩
        conv => whnf
        refine ⟨_, (fun _ => rr), ?_⟩
        conv => whnf
        refine ⟨_, (fun _ => rr), ?_⟩
        conv => whnf
        refine ⟨_, (fun _ => rr), ?_⟩
        conv => whnf
        cases h
        exact Wk.mk2 [] 4 rfl rfl (by decide) rfl trivial ⟨rr, trivial⟩
       conv => whnf
       refine ⟨_, (fun _ => rr), ?_⟩
       conv => whnf
       refine ⟨_, (fun _ => rr), ?_⟩
       conv => whnf
       refine ⟨_, (fun _ => rr), ?_⟩
       conv => whnf
       refine ⟨_, (fun _ => rr), ?_⟩
       conv => whnf
       refine ⟨_, (fun _ => rr), ?_⟩
       conv => whnf
       refine ⟨_, (fun _ => rr), ?_⟩
       conv => whnf
       cases h
       exact Wk.mk2 [] 4 rfl rfl (by decide) rfl trivial ⟨rr, trivial⟩
      conv => whnf
      refine ⟨_, (fun _ => rr), ?_⟩
      conv => whnf
      refine ⟨_, (fun _ => rr), ?_⟩
      conv => whnf
      refine ⟨_, (fun _ => rr), ?_⟩
      conv => whnf
      refine ⟨_, (fun _ => rr), ?_⟩
      conv => whnf
      refine ⟨_, (fun _ => rr), ?_⟩
      conv => whnf
      refine ⟨_, (fun _ => rr), ?_⟩
      conv => whnf
      refine ⟨_, (fun _ => rr), ?_⟩
      conv => whnf
      refine ⟨_, (fun _ => rr), ?_⟩
      conv => whnf
      cases h
      exact Wk.mk2 [] 4 rfl rfl (by decide) rfl trivial ⟨rr, trivial⟩
     conv => whnf
     refine ⟨_, (fun _ => rr), ?_⟩
     conv => whnf
     refine ⟨_, (fun _ => rr), ?_⟩
     conv => whnf
     refine ⟨_, (fun _ => rr), ?_⟩
     conv => whnf
     refine ⟨_, (fun _ => rr), ?_⟩
     conv => whnf
     refine ⟨_, (fun _ => rr), ?_⟩
     conv => whnf
     refine ⟨_, (fun _ => rr), ?_⟩
     conv => whnf
     refine ⟨_, (fun _ => rr), ?_⟩
     conv => whnf
     refine ⟨_, (fun _ => rr), ?_⟩
     conv => whnf
     refine ⟨_, (fun _ => rr), ?_⟩
     conv => whnf
     refine ⟨_, (fun _ => rr), ?_⟩
     conv => whnf
     cases h
     exact Wk.mk2 [] 4 rfl rfl (by decide) rfl trivial ⟨rr, trivial⟩
    conv => whnf
    refine ⟨_, (fun _ => rr), ?_⟩
    conv => whnf
    refine ⟨_, (fun _ => rr), ?_⟩
    conv => whnf
    refine ⟨_, (fun _ => rr), ?_⟩
    conv => whnf
    refine ⟨_, (fun _ => rr), ?_⟩
    conv => whnf
    refine ⟨_, (fun _ => rr), ?_⟩
    conv => whnf
    refine ⟨_, (fun _ => rr), ?_⟩
    conv => whnf
    refine ⟨_, (fun _ => rr), ?_⟩
    conv => whnf
    refine ⟨_, (fun _ => rr), ?_⟩
    conv => whnf
    refine ⟨_, (fun _ => rr), ?_⟩
    conv => whnf
    refine ⟨_, (fun _ => rr), ?_⟩
    conv => whnf
    refine ⟨_, (fun _ => rr), ?_⟩
    conv => whnf
    refine ⟨_, (fun _ => rr), ?_⟩
    conv => whnf
    cases h
    exact Wk.mk2 [] 4 rfl rfl (by decide) rfl trivial ⟨rr, trivial⟩
   clear hv60
   conv => whnf
   refine Tr.weak hw ?_
   refine Tr.ret ?_
   conv => whnf
   cases h
   rfl
  refine Tr.skip ?_
  conv => whnf
  refine Tr.seq ?_
  refine Tr.seq ?_
  refine rg ?_
  conv => whnf
  refine Tr.cond ?_
  conv => whnf
  refine cB h (fun hb70 h => ?_) (fun hb70 h => ?_)
  ·refine Tr.seq ?_
   refine rg ?_
   conv => whnf
   refine Tr.ret ?_
   conv => whnf
   cases h
   rfl
  refine Tr.skip ?_
  conv => whnf
  refine Tr.seq ?_
  refine rg ?_
  conv => whnf
  obtain ⟨⟨r_71, r_72⟩, hc73, h⟩ := bS h
  refine PC.ecall (P219 f_1 r_17.A ((Int.tmod (w64 runner_2) (((f_1.Runners).length : Int)))) r_71 r_72 hc73) (fun rs hrs => ?_)
  subst hrs
  conv => whnf
  refine Tr.seq ?_
  refine rg ?_
  conv => whnf
  obtain ⟨⟨r_74, r_75⟩, hc76, h⟩ := bS h
  refine PC.ecall (P219 f_1 r_17.B ((Int.tmod (w64 runner_2) (((f_1.Runners).length : Int)))) r_74 r_75 hc76) (fun rs hrs => ?_)
  subst hrs
  conv => whnf
  refine Tr.seq ?_
  refine rg ?_
  conv => whnf
  refine Tr.seq ?_
  refine Tr.seq ?_
  refine rg ?_
  conv => whnf
  refine Tr.cond ?_
  conv => whnf
  refine cB h (fun hb77 h => ?_) (fun hb77 h => ?_)
  ·refine rg ?_
   conv => whnf
   refine Tr.seq ?_
   obtain ⟨v_78, hv79, h⟩ := bS h
   refine Tr.cutQ1 ([(4, .d (.b v_78))]) ([]) ?_ (fun T1 H1 hw => ?_)
   ·replace h := hv79; clear hv79
    refine Tr.draw (DrawP.seqQ layOK mixed [] [(0, 3), (1, 4), (2, 5), (3, 1), (4, 1), (5, 1), (6, 5), (7, 5), (8, 3), (9, 3), (10, 1), (11, 2), (12, 2), (13, 2), (14, 1), (15, 1), (16, 1), (17, 1), (18, 1), (19, 1), (20, 1), (21, 1), (22, 1), (23, 1), (24, 1), (25, 1), (26, 4), (27, 4), (28, 1), (29, 1), (30, 1), (31, 1), (32, 1), (33, 1), (34, 1), (35, 1), (36, 1), (37, 1), (38, 1), (39, 1), (40, 1)] (by kernel_rfl) ?_)
    conv => whnf
    refine ⟨_, ⟨rfl, rfl, rr⟩, ?_⟩
    conv => whnf
    refine ⟨_, ⟨rfl, rfl, rr⟩, ?_⟩
    conv => whnf
    refine ⟨_, ⟨rfl, rfl, rr⟩, ?_⟩
    conv => whnf
    obtain ⟨r_80, hc81, h⟩ := bS h
    refine ⟨_, (fun _ => by (conv => whnf); (refine PC.ecall (P220 f_1 r_14 r_17 r_80 hc81) (fun rs hrs => ?_)); (subst hrs); (conv => whnf); (exact rr)), ?_⟩
    conv => whnf
    refine ⟨_, (fun _ => rr), ?_⟩
    conv => whnf
    refine ⟨_, (fun _ => rr), ?_⟩
    conv => whnf
    refine cB h (fun hb82 h => ?_) (fun hb82 h => ?_)
    ·conv => whnf
     refine ⟨_, ⟨rfl, rfl, rr⟩, ?_⟩
     conv => whnf
     refine ⟨_, ⟨rfl, rfl, rr⟩, ?_⟩
     conv => whnf
     refine ⟨_, ⟨rfl, rfl, rr⟩, ?_⟩
     conv => whnf
     refine ⟨_, ⟨rfl, rfl, rr⟩, ?_⟩
     conv => whnf
     refine ⟨_, (fun _ => rr), ?_⟩
     conv => whnf
     obtain ⟨x_83, hx_83, h⟩ := bS h
     refine ⟨_, ⟨rfl, rfl, (by (conv => whnf); (refine ixP_of hx_83 ?_); (conv => whnf); (exact rr))⟩, ?_⟩
     conv => whnf
     refine ⟨_, ⟨rfl, rfl, rr⟩, ?_⟩
     conv => whnf
     refine ⟨_, ⟨rfl, rfl, rr⟩, ?_⟩
     conv => whnf
     refine ⟨_, (fun _ => rr), ?_⟩
     conv => whnf
     refine ⟨_, (fun _ => rr), ?_⟩
     conv => whnf
     refine ⟨_, (fun _ => rr), ?_⟩
     conv => whnf
     refine cB h (fun hb84 h => ?_) (fun hb84 h => ?_)
     ·conv => whnf
      refine ⟨_, (fun _ => rr), ?_⟩
      conv => whnf
      refine ⟨_, (fun _ => rr), ?_⟩
      conv => whnf
      refine ⟨_, (fun _ => rr), ?_⟩
      conv => whnf
      refine ⟨_, (fun _ => rr), ?_⟩
      conv => whnf
      refine cB h (fun hb85 h => ?_) (fun hb85 h => ?_)
      ·conv => whnf
       refine ⟨_, (fun _ => rr), ?_⟩
       conv => whnf
       refine ⟨_, (fun _ => rr), ?_⟩
       conv => whnf
       refine ⟨_, (fun _ => rr), ?_⟩
       conv => whnf
       refine ⟨_, (fun _ => rr), ?_⟩
       conv => whnf
       refine cB h (fun hb86 h => ?_) (fun hb86 h => ?_)
       ·conv => whnf
        refine ⟨_, (fun _ => rr), ?_⟩
        conv => whnf
        refine ⟨_, ⟨rfl, rfl, rr⟩, ?_⟩
        conv => whnf
        refine ⟨_, ⟨rfl, rfl, rr⟩, ?_⟩
        conv => whnf
        refine ⟨_, (fun _ => rr), ?_⟩
        conv => whnf
        refine ⟨_, (fun _ => rr), ?_⟩
        conv => whnf
        refine ⟨_, (fun _ => rr), ?_⟩
        conv => whnf
        refine cB h (fun hb87 h => ?_) (fun hb87 h => ?_)
        ·conv => whnf
         refine ⟨_, (fun _ => rr), ?_⟩
         conv => whnf
         refine ⟨_, (fun _ => rr), ?_⟩
         conv => whnf
         refine ⟨_, (fun _ => rr), ?_⟩
         conv => whnf
         refine ⟨_, (fun _ => rr), ?_⟩
         conv => whnf
         refine ⟨_, (fun _ => rr), ?_⟩
         conv => whnf
         refine cB h (fun hb88 h => ?_) (fun hb88 h => ?_)
         ·conv => whnf
          refine ⟨_, (fun _ => rr), ?_⟩
          conv => whnf
          refine ⟨_, (fun _ => rr), ?_⟩
          conv => whnf
          refine ⟨_, (fun _ => rr), ?_⟩
          conv => whnf
          refine ⟨_, (fun _ => rr), ?_⟩
          conv => whnf
          refine ⟨_, (fun _ => rr), ?_⟩
          conv => whnf
          cases h
          exact Wk.mk2 [] 3 rfl rfl (by decide) rfl trivial ⟨rr, trivial⟩
         conv => whnf
         refine ⟨_, (fun _ => rr), ?_⟩
         conv => whnf
         refine ⟨_, (fun _ => rr), ?_⟩
         conv => whnf
         cases h
         exact Wk.mk2 [] 3 rfl rfl (by decide) rfl trivial ⟨rr, trivial⟩
        conv => whnf
        refine ⟨_, (fun _ => rr), ?_⟩
        conv => whnf
        refine ⟨_, (fun _ => rr), ?_⟩
        conv => whnf
        refine ⟨_, (fun _ => rr), ?_⟩
        conv => whnf
        refine ⟨_, (fun _ => rr), ?_⟩
        conv => whnf
        cases h
        exact Wk.mk2 [] 3 rfl rfl (by decide) rfl trivial ⟨rr, trivial⟩
       conv => whnf
       refine ⟨_, (fun _ => rr), ?_⟩
       conv => whnf
       refine ⟨_, (fun _ => rr), ?_⟩
       conv => whnf
       refine ⟨_, (fun _ => rr), ?_⟩
       conv => whnf
       refine ⟨_, (fun _ => rr), ?_⟩
       conv => whnf
       refine ⟨_, (fun _ => rr), ?_⟩
       conv => whnf
       refine ⟨_, (fun _ => rr), ?_⟩
       conv => whnf
       cases h
       exact Wk.mk2 [] 3 rfl rfl (by decide) rfl trivial ⟨rr, trivial⟩
      conv => whnf
      refine ⟨_, (fun _ => rr), ?_⟩
      conv => whnf
      refine ⟨_, (fun _ => rr), ?_⟩
      conv => whnf
      refine ⟨_, (fun _ => rr), ?_⟩
      conv => whnf
      refine ⟨_, (fun _ => rr), ?_⟩
      conv => whnf
      refine ⟨_, (fun _ => rr), ?_⟩
      conv => whnf
      refine ⟨_, (fun _ => rr), ?_⟩
      conv => whnf
      refine ⟨_, (fun _ => rr), ?_⟩
      conv => whnf
      refine ⟨_, (fun _ => rr), ?_⟩
      conv => whnf
      cases h
      exact Wk.mk2 [] 3 rfl rfl (by decide) rfl trivial ⟨rr, trivial⟩
     conv => whnf
     refine ⟨_, (fun _ => rr), ?_⟩
     conv => whnf
     refine ⟨_, (fun _ => rr), ?_⟩
     conv => whnf
     refine ⟨_, (fun _ => rr), ?_⟩
     conv => whnf
     refine ⟨_, (fun _ => rr), ?_⟩
     conv => whnf
     refine ⟨_, (fun _ => rr), ?_⟩
     conv => whnf
     refine ⟨_, (fun _ => rr), ?_⟩
     conv => whnf
     refine ⟨_, (fun _ => rr), ?_⟩
     conv => whnf
     refine ⟨_, (fun _ => rr), ?_⟩
     conv => whnf
     refine ⟨_, (fun _ => rr), ?_⟩
     conv => whnf
     refine ⟨_, (fun _ => rr), ?_⟩
     conv => whnf
     cases h
     exact Wk.mk2 [] 3 rfl rfl (by decide) rfl trivial ⟨rr, trivial⟩
    conv => whnf
    refine ⟨_, (fun _ => rr), ?_⟩
    conv => whnf
    refine ⟨_, (fun _ => rr), ?_⟩
    conv => whnf
    refine ⟨_, (fun _ => rr), ?_⟩
    conv => whnf
    refine ⟨_, (fun _ => rr), ?_⟩
    conv => whnf
    refine ⟨_, (fun _ => rr), ?_⟩
    conv => whnf
    refine ⟨_, (fun _ => rr), ?_⟩
    conv => whnf
    refine ⟨_, (fun _ => rr), ?_⟩
    conv => whnf
    refine ⟨_, (fun _ => rr), ?_⟩
    conv => whnf
    refine ⟨_, (fun _ => rr), ?_⟩
    conv => whnf
    refine ⟨_, (fun _ => rr), ?_⟩
    conv => whnf
    refine ⟨_, (fun _ => rr), ?_⟩
    conv => whnf
    refine ⟨_, (fun _ => rr), ?_⟩
    conv => whnf
    cases h
    exact Wk.mk2 [] 3 rfl rfl (by decide) rfl trivial ⟨rr, trivial⟩
   clear hv79
   conv => whnf
   refine Tr.weak hw ?_
   refine Tr.ret ?_
   conv => whnf
   cases h
   rfl
  refine Tr.skip ?_
  conv => whnf
  refine Tr.seq ?_
  obtain ⟨v_89, hv90, h⟩ := bS h
  refine Tr.cutQ1 ([(4, .d (.b v_89))]) ([]) ?_ (fun T1 H1 hw => ?_)
  ·replace h := hv90; clear hv90
   refine Tr.draw (DrawP.seqQ layOK mixed [] [(0, 3), (1, 4), (2, 5), (3, 1), (4, 1), (5, 1), (6, 5), (7, 5), (8, 3), (9, 3), (10, 1), (11, 2), (12, 2), (13, 2), (14, 1), (15, 1), (16, 1), (17, 1), (18, 1), (19, 1), (20, 1), (21, 1), (22, 1), (23, 1), (24, 1), (25, 1), (26, 4), (27, 4), (28, 1), (29, 1), (30, 1), (31, 1), (32, 1), (33, 1), (34, 1), (35, 1), (36, 1), (37, 1), (38, 1), (39, 1), (40, 1)] (by kernel_rfl) ?_)
   conv => whnf
   refine ⟨_, ⟨rfl, rfl, rr⟩, ?_⟩
   conv => whnf
   refine ⟨_, ⟨rfl, rfl, rr⟩, ?_⟩
   conv => whnf
   refine ⟨_, ⟨rfl, rfl, rr⟩, ?_⟩
   conv => whnf
   obtain ⟨r_91, hc92, h⟩ := bS h
   refine ⟨_, (fun _ => by (conv => whnf); (refine PC.ecall (P220 f_1 r_14 r_17 r_91 hc92) (fun rs hrs => ?_)); (subst hrs); (conv => whnf); (exact rr)), ?_⟩
   conv => whnf
   refine ⟨_, (fun _ => rr), ?_⟩
   conv => whnf
   refine ⟨_, (fun _ => rr), ?_⟩
   conv => whnf
   refine cB h (fun hb93 h => ?_) (fun hb93 h => ?_)
   ·conv => whnf
    refine ⟨_, ⟨rfl, rfl, rr⟩, ?_⟩
    conv => whnf
    refine ⟨_, ⟨rfl, rfl, rr⟩, ?_⟩
    conv => whnf
    refine ⟨_, ⟨rfl, rfl, rr⟩, ?_⟩
    conv => whnf
    refine ⟨_, ⟨rfl, rfl, rr⟩, ?_⟩
    conv => whnf
    refine ⟨_, (fun _ => rr), ?_⟩
    conv => whnf
    obtain ⟨x_94, hx_94, h⟩ := bS h
    refine ⟨_, ⟨rfl, rfl, (by (conv => whnf); (refine ixP_of hx_94 ?_); (conv => whnf); (exact rr))⟩, ?_⟩
    conv => whnf
    refine ⟨_, ⟨rfl, rfl, rr⟩, ?_⟩
    conv => whnf
    refine ⟨_, ⟨rfl, rfl, rr⟩, ?_⟩
    conv => whnf
    refine ⟨_, (fun _ => rr), ?_⟩
    conv => whnf
    refine ⟨_, (fun _ => rr), ?_⟩
    conv => whnf
    refine ⟨_, (fun _ => rr), ?_⟩
    conv => whnf
    refine cB h (fun hb95 h => ?_) (fun hb95 h => ?_)
    ·conv => whnf
     refine ⟨_, (fun _ => rr), ?_⟩
     conv => whnf
     refine ⟨_, (fun _ => rr), ?_⟩
     conv => whnf
     refine ⟨_, (fun _ => rr), ?_⟩
     conv => whnf
     refine ⟨_, (fun _ => rr), ?_⟩
     conv => whnf
     refine cB h (fun hb96 h => ?_) (fun hb96 h => ?_)
     ·conv => whnf
      refine ⟨_, (fun _ => rr), ?_⟩
      conv => whnf
      refine ⟨_, (fun _ => rr), ?_⟩
      conv => whnf
      refine ⟨_, (fun _ => rr), ?_⟩
      conv => whnf
      refine ⟨_, (fun _ => rr), ?_⟩
      conv => whnf
      refine cB h (fun hb97 h => ?_) (fun hb97 h => ?_)
      ·conv => whnf
       refine ⟨_, (fun _ => rr), ?_⟩
       conv => whnf
       refine ⟨_, ⟨rfl, rfl, rr⟩, ?_⟩
       conv => whnf
       refine ⟨_, ⟨rfl, rfl, rr⟩, ?_⟩
       conv => whnf
       refine ⟨_, (fun _ => rr), ?_⟩
       conv => whnf
       refine ⟨_, (fun _ => rr), ?_⟩
       conv => whnf
       refine ⟨_, (fun _ => rr), ?_⟩
       conv => whnf
       refine cB h (fun hb98 h => ?_) (fun hb98 h => ?_)
       ·conv => whnf
        refine ⟨_, (fun _ => rr), ?_⟩
        conv => whnf
        refine ⟨_, (fun _ => rr), ?_⟩
        conv => whnf
        refine ⟨_, (fun _ => rr), ?_⟩
        conv => whnf
        refine ⟨_, (fun _ => rr), ?_⟩
        conv => whnf
        refine ⟨_, (fun _ => rr), ?_⟩
        conv => whnf
        refine cB h (fun hb99 h => ?_) (fun hb99 h => ?_)
        ·conv => whnf
         refine ⟨_, (fun _ => rr), ?_⟩
         conv => whnf
         refine ⟨_, (fun _ => rr), ?_⟩
         conv => whnf
         refine ⟨_, (fun _ => rr), ?_⟩
         conv => whnf
         refine ⟨_, (fun _ => rr), ?_⟩
         conv => whnf
         refine ⟨_, (fun _ => rr), ?_⟩
         conv => whnf
         cases h
         exact Wk.mk2 [] 3 rfl rfl (by decide) rfl trivial ⟨rr, trivial⟩
        conv => whnf
        refine ⟨_, (fun _ => rr), ?_⟩
        conv => whnf
        refine ⟨_, (fun _ => rr), ?_⟩
        conv => whnf
        cases h
        exact Wk.mk2 [] 3 rfl rfl (by decide) rfl trivial ⟨rr, trivial⟩
       conv => whnf
       refine ⟨_, (fun _ => rr), ?_⟩
       conv => whnf
       refine ⟨_, (fun _ => rr), ?_⟩
       conv => whnf
       refine ⟨_, (fun _ => rr), ?_⟩
       conv => whnf
       refine ⟨_, (fun _ => rr), ?_⟩
       conv => whnf
       cases h
       exact Wk.mk2 [] 3 rfl rfl (by decide) rfl trivial ⟨rr, trivial⟩
      conv => whnf
      refine ⟨_, (fun _ => rr), ?_⟩
      conv => whnf
      refine ⟨_, (fun _ => rr), ?_⟩
      conv => whnf
      refine ⟨_, (fun _ => rr), ?_⟩
      conv => whnf
      refine ⟨_, (fun _ => rr), ?_⟩
      conv => whnf
      refine ⟨_, (fun _ => rr), ?_⟩
      conv => whnf
      refine ⟨_, (fun _ => rr), ?_⟩
      conv => whnf
      cases h
      exact Wk.mk2 [] 3 rfl rfl (by decide) rfl trivial ⟨rr, trivial⟩
     conv => whnf
     refine ⟨_, (fun _ => rr), ?_⟩
     conv => whnf
     refine ⟨_, (fun _ => rr), ?_⟩
     conv => whnf
     refine ⟨_, (fun _ => rr), ?_⟩
     conv => whnf
     refine ⟨_, (fun _ => rr), ?_⟩
     conv => whnf
     refine ⟨_, (fun _ => rr), ?_⟩
     conv => whnf
     refine ⟨_, (fun _ => rr), ?_⟩
     conv => whnf
     refine ⟨_, (fun _ => rr), ?_⟩
     conv => whnf
     refine ⟨_, (fun _ => rr), ?_⟩
     conv => whnf
     cases h
     exact Wk.mk2 [] 3 rfl rfl (by decide) rfl trivial ⟨rr, trivial⟩
    conv => whnf
    refine ⟨_, (fun _ => rr), ?_⟩
    conv => whnf
    refine ⟨_, (fun _ => rr), ?_⟩
    conv => whnf
    refine ⟨_, (fun _ => rr), ?_⟩
    conv => whnf
    refine ⟨_, (fun _ => rr), ?_⟩
    conv => whnf
    refine ⟨_, (fun _ => rr), ?_⟩
    conv => whnf
    refine ⟨_, (fun _ => rr), ?_⟩
    conv => whnf
    refine ⟨_, (fun _ => rr), ?_⟩
    conv => whnf
    refine ⟨_, (fun _ => rr), ?_⟩
    conv => whnf
    refine ⟨_, (fun _ => rr), ?_⟩
    conv => whnf
    refine ⟨_, (fun _ => rr), ?_⟩
    conv => whnf
    cases h
    exact Wk.mk2 [] 3 rfl rfl (by decide) rfl trivial ⟨rr, trivial⟩
   conv => whnf
   refine ⟨_, (fun _ => rr), ?_⟩
   conv => whnf
   refine ⟨_, (fun _ => rr), ?_⟩
   conv => whnf
   refine ⟨_, (fun _ => rr), ?_⟩
   conv => whnf
   refine ⟨_, (fun _ => rr), ?_⟩
   conv => whnf
   refine ⟨_, (fun _ => rr), ?_⟩
   conv => whnf
   refine ⟨_, (fun _ => rr), ?_⟩
   conv => whnf
   refine ⟨_, (fun _ => rr), ?_⟩
   conv => whnf
   refine ⟨_, (fun _ => rr), ?_⟩
   conv => whnf
   refine ⟨_, (fun _ => rr), ?_⟩
   conv => whnf
   refine ⟨_, (fun _ => rr), ?_⟩
   conv => whnf
   refine ⟨_, (fun _ => rr), ?_⟩
   conv => whnf
   refine ⟨_, (fun _ => rr), ?_⟩
   conv => whnf
   cases h
   exact Wk.mk2 [] 3 rfl rfl (by decide) rfl trivial ⟨rr, trivial⟩
  clear hv90
  conv => whnf
  refine Tr.weak hw ?_
  refine Tr.ret ?_
  conv => whnf
  cases h
  rfl
 refine Tr.skip ?_
 conv => whnf
 refine Tr.seq ?_
 refine Tr.seq ?_
 refine rg ?_
 conv => whnf
 refine Tr.cond ?_
 conv => whnf
 refine cB h (fun hb100 h => ?_) (fun hb100 h => ?_)
 ·refine Tr.seq ?_
  refine rg ?_
  conv => whnf
  refine Tr.seq ?_
  refine rg ?_
  conv => whnf
  refine Tr.seq ?_
  refine rg ?_
  conv => whnf
  obtain ⟨r_101, hc102, h⟩ := bS h
  refine PC.ecall (P238 f_1 ({ Bib := r_14.Bib, Kind := r_14.Kind, Lo := r_14.Lo, Hi := r_14.Hi, Out := false } : TRank) r_101 hc102) (fun rs hrs => ?_)
  subst hrs
  conv => whnf
  refine Tr.cond ?_
  conv => whnf
  refine cB h (fun hb103 h => ?_) (fun hb103 h => ?_)
  ·refine Tr.seq ?_
   refine rg ?_
   conv => whnf
   refine Tr.ret ?_
   conv => whnf
   cases h
   rfl
  refine Tr.skip ?_
  conv => whnf
  refine Tr.seq ?_
  refine Tr.seq ?_
  refine rg ?_
  conv => whnf
  refine Tr.cond ?_
  conv => whnf
  refine cB h (fun hb104 h => ?_) (fun hb104 h => ?_)
  ·refine Tr.seq ?_
   refine rg ?_
   conv => whnf
   refine Tr.ret ?_
   conv => whnf
   cases h
   rfl
  refine Tr.skip ?_
  conv => whnf
  refine Tr.seq ?_
  refine rg ?_
  conv => whnf
  obtain ⟨⟨r_105, r_106⟩, hc107, h⟩ := bS h
  refine PC.ecall (P219 f_1 r_17.A ((Int.tmod (w64 runner_2) (((f_1.Runners).length : Int)))) r_105 r_106 hc107) (fun rs hrs => ?_)
  subst hrs
  conv => whnf
  refine Tr.seq ?_
  refine rg ?_
  conv => whnf
  obtain ⟨⟨r_108, r_109⟩, hc110, h⟩ := bS h
  refine PC.ecall (P219 f_1 r_17.B ((Int.tmod (w64 runner_2) (((f_1.Runners).length : Int)))) r_108 r_109 hc110) (fun rs hrs => ?_)
  subst hrs
  conv => whnf
  refine Tr.seq ?_
  refine rg ?_
  conv => whnf
  refine Tr.seq ?_
  refine Tr.seq ?_
  refine rg ?_
  conv => whnf
  refine Tr.cond ?_
  conv => whnf
  refine cB h (fun hb111 h => ?_) (fun hb111 h => ?_)
  ·refine rg ?_
   conv => whnf
   refine Tr.seq ?_
   obtain ⟨v_112, hv113, h⟩ := bS h
   refine Tr.cutQ1 ([(4, .d (.b v_112))]) ([]) ?_ (fun T1 H1 hw => ?_)
   ·replace h := hv113; clear hv113
    refine Tr.draw (DrawP.seqQ layOK mixed [] [(0, 3), (1, 4), (2, 5), (3, 1), (4, 1), (5, 1), (6, 5), (7, 5), (8, 3), (9, 3), (10, 1), (11, 2), (12, 2), (13, 2), (14, 1), (15, 1), (16, 1), (17, 1), (18, 1), (19, 1), (20, 1), (21, 1), (22, 1), (23, 1), (24, 1), (25, 1), (26, 4), (27, 4), (28, 1), (29, 1), (30, 1), (31, 1), (32, 1), (33, 1), (34, 1), (35, 1), (36, 1), (37, 1), (38, 1), (39, 1), (40, 1)] (by kernel_rfl) ?_)
    conv => whnf
    refine ⟨_, ⟨rfl, rfl, rr⟩, ?_⟩
    conv => whnf
    refine ⟨_, ⟨rfl, rfl, rr⟩, ?_⟩
    conv => whnf
    refine ⟨_, ⟨rfl, rfl, rr⟩, ?_⟩
    conv => whnf
    obtain ⟨r_114, hc115, h⟩ := bS h
    refine ⟨_, (fun _ => by (conv => whnf); (refine PC.ecall (P220 f_1 r_14 r_17 r_114 hc115) (fun rs hrs => ?_)); (subst hrs); (conv => whnf); (exact rr)), ?_⟩
    conv => whnf
    refine ⟨_, (fun _ => rr), ?_⟩
    conv => whnf
    refine ⟨_, (fun _ => rr), ?_⟩
    conv => whnf
    refine cB h (fun hb116 h => ?_) (fun hb116 h => ?_)
    ·conv => whnf
     refine ⟨_, ⟨rfl, rfl, rr⟩, ?_⟩
     conv => whnf
     refine ⟨_, ⟨rfl, rfl, rr⟩, ?_⟩
     conv => whnf
     refine ⟨_, ⟨rfl, rfl, rr⟩, ?_⟩
     conv => whnf
     refine ⟨_, ⟨rfl, rfl, rr⟩, ?_⟩
     conv => whnf
     refine ⟨_, (fun _ => rr), ?_⟩
     conv => whnf
     obtain ⟨x_117, hx_117, h⟩ := bS h
     refine ⟨_, ⟨rfl, rfl, (by (conv => whnf); (refine ixP_of hx_117 ?_); (conv => whnf); (exact rr))⟩, ?_⟩
     conv => whnf
     refine ⟨_, ⟨rfl, rfl, rr⟩, ?_⟩
     conv => whnf
     refine ⟨_, ⟨rfl, rfl, rr⟩, ?_⟩
     conv => whnf
     refine ⟨_, (fun _ => rr), ?_⟩
     conv => whnf
     refine ⟨_, (fun _ => rr), ?_⟩
     conv => whnf
     refine ⟨_, (fun _ => rr), ?_⟩
     conv => whnf
     refine cB h (fun hb118 h => ?_) (fun hb118 h => ?_)
     ·conv => whnf
      refine ⟨_, (fun _ => rr), ?_⟩
      conv => whnf
      refine ⟨_, (fun _ => rr), ?_⟩
      conv => whnf
      refine ⟨_, (fun _ => rr), ?_⟩
      conv => whnf
      refine ⟨_, (fun _ => rr), ?_⟩
      conv => whnf
      refine cB h (fun hb119 h => ?_) (fun hb119 h => ?_)
      ·conv => whnf
       refine ⟨_, (fun _ => rr), ?_⟩
       conv => whnf
       refine ⟨_, (fun _ => rr), ?_⟩
       conv => whnf
       refine ⟨_, (fun _ => rr), ?_⟩
       conv => whnf
       refine ⟨_, (fun _ => rr), ?_⟩
       conv => whnf
       refine cB h (fun hb120 h => ?_) (fun hb120 h => ?_)
       ·conv => whnf
        refine ⟨_, (fun _ => rr), ?_⟩
        conv => whnf
        refine ⟨_, ⟨rfl, rfl, rr⟩, ?_⟩
        conv => whnf
        refine ⟨_, ⟨rfl, rfl, rr⟩, ?_⟩
        conv => whnf
        refine ⟨_, (fun _ => rr), ?_⟩
        conv => whnf
        refine ⟨_, (fun _ => rr), ?_⟩
        conv => whnf
        refine ⟨_, (fun _ => rr), ?_⟩
        conv => whnf
        refine cB h (fun hb121 h => ?_) (fun hb121 h => ?_)
        ·conv => whnf
         refine ⟨_, (fun _ => rr), ?_⟩
         conv => whnf
         refine ⟨_, (fun _ => rr), ?_⟩
         conv => whnf
         refine ⟨_, (fun _ => rr), ?_⟩
         conv => whnf
         refine ⟨_, (fun _ => rr), ?_⟩
         conv => whnf
         refine ⟨_, (fun _ => rr), ?_⟩
         conv => whnf
         refine cB h (fun hb122 h => ?_) (fun hb122 h => ?_)
         ·conv => whnf
          refine ⟨_, (fun _ => rr), ?_⟩
          conv => whnf
          refine ⟨_, (fun _ => rr), ?_⟩
          conv => whnf
          refine ⟨_, (fun _ => rr), ?_⟩
          conv => whnf
          refine ⟨_, (fun _ => rr), ?_⟩
          conv => whnf
          refine ⟨_, (fun _ => rr), ?_⟩
          conv => whnf
          cases h
          exact Wk.mk2 [] 4 rfl rfl (by decide) rfl trivial ⟨rr, trivial⟩
         conv => whnf
         refine ⟨_, (fun _ => rr), ?_⟩
         conv => whnf
         refine ⟨_, (fun _ => rr), ?_⟩
         conv => whnf
         cases h
         exact Wk.mk2 [] 4 rfl rfl (by decide) rfl trivial ⟨rr, trivial⟩
        conv => whnf
        refine ⟨_, (fun _ => rr), ?_⟩
        conv => whnf
        refine ⟨_, (fun _ => rr), ?_⟩
        conv => whnf
        refine ⟨_, (fun _ => rr), ?_⟩
        conv => whnf
        refine ⟨_, (fun _ => rr), ?_⟩
        conv => whnf
        cases h
        exact Wk.mk2 [] 4 rfl rfl (by decide) rfl trivial ⟨rr, trivial⟩
       conv => whnf
       refine ⟨_, (fun _ => rr), ?_⟩
       conv => whnf
       refine ⟨_, (fun _ => rr), ?_⟩
       conv => whnf
       refine ⟨_, (fun _ => rr), ?_⟩
       conv => whnf
       refine ⟨_, (fun _ => rr), ?_⟩
       conv => whnf
       refine ⟨_, (fun _ => rr), ?_⟩
       conv => whnf
       refine ⟨_, (fun _ => rr), ?_⟩
       conv => whnf
       cases h
       exact Wk.mk2 [] 4 rfl rfl (by decide) rfl trivial ⟨rr, trivial⟩
      conv => whnf
      refine ⟨_, (fun _ => rr), ?_⟩
      conv => whnf
      refine ⟨_, (fun _ => rr), ?_⟩
      conv => whnf
      refine ⟨_, (fun _ => rr), ?_⟩
      conv => whnf
      refine ⟨_, (fun _ => rr), ?_⟩
      conv => whnf
      refine ⟨_, (fun _ => rr), ?_⟩
      conv => whnf
      refine ⟨_, (fun _ => rr), ?_⟩
      conv => whnf
      refine ⟨_, (fun _ => rr), ?_⟩
      conv => whnf
      refine ⟨_, (fun _ => rr), ?_⟩
      conv => whnf
      cases h
      exact Wk.mk2 [] 4 rfl rfl (by decide) rfl trivial ⟨rr, trivial⟩
     conv => whnf
     refine ⟨_, (fun _ => rr), ?_⟩
     conv => whnf
     refine ⟨_, (fun _ => rr), ?_⟩
     conv => whnf
     refine ⟨_, (fun _ => rr), ?_⟩
     conv => whnf
     refine ⟨_, (fun _ => rr), ?_⟩
     conv => whnf
     refine ⟨_, (fun _ => rr), ?_⟩
     conv => whnf
     refine ⟨_, (fun _ => rr), ?_⟩
     conv => whnf
     refine ⟨_, (fun _ => rr), ?_⟩
     conv => whnf
     refine ⟨_, (fun _ => rr), ?_⟩
     conv => whnf
     refine ⟨_, (fun _ => rr), ?_⟩
     conv => whnf
     refine ⟨_, (fun _ => rr), ?_⟩
     conv => whnf
     cases h
     exact Wk.mk2 [] 4 rfl rfl (by decide) rfl trivial ⟨rr, trivial⟩
    conv => whnf
    refine ⟨_, (fun _ => rr), ?_⟩
    conv => whnf
    refine ⟨_, (fun _ => rr), ?_⟩
    conv => whnf
    refine ⟨_, (fun _ => rr), ?_⟩
    conv => whnf
    refine ⟨_, (fun _ => rr), ?_⟩
    conv => whnf
    refine ⟨_, (fun _ => rr), ?_⟩
    conv => whnf
    refine ⟨_, (fun _ => rr), ?_⟩
    conv => whnf
    refine ⟨_, (fun _ => rr), ?_⟩
    conv => whnf
    refine ⟨_, (fun _ => rr), ?_⟩
    conv => whnf
    refine ⟨_, (fun _ => rr), ?_⟩
    conv => whnf
    refine ⟨_, (fun _ => rr), ?_⟩
    conv => whnf
    refine ⟨_, (fun _ => rr), ?_⟩
    conv => whnf
    refine ⟨_, (fun _ => rr), ?_⟩
    conv => whnf
    cases h
    exact Wk.mk2 [] 4 rfl rfl (by decide) rfl trivial ⟨rr, trivial⟩
   clear hv113
   conv => whnf
   refine Tr.weak hw ?_
   refine Tr.ret ?_
   conv => whnf
   cases h
   rfl
  refine Tr.skip ?_
  conv => whnf
  refine Tr.seq ?_
  obtain ⟨v_123, hv124, h⟩ := bS h
  refine Tr.cutQ1 ([(4, .d (.b v_123))]) ([]) ?_ (fun T1 H1 hw => ?_)
  ·replace h := hv124; clear hv124
   refine Tr.draw (DrawP.seqQ layOK mixed [] [(0, 3), (1, 4), (2, 5), (3, 1), (4, 1), (5, 1), (6, 5), (7, 5), (8, 3), (9, 3), (10, 1), (11, 2), (12, 2), (13, 2), (14, 1), (15, 1), (16, 1), (17, 1), (18, 1), (19, 1), (20, 1), (21, 1), (22, 1), (23, 1), (24, 1), (25, 1), (26, 4), (27, 4), (28, 1), (29, 1), (30, 1), (31, 1), (32, 1), (33, 1), (34, 1), (35, 1), (36, 1), (37, 1), (38, 1), (39, 1), (40, 1)] (by kernel_rfl) ?_)
   conv => whnf
   refine ⟨_, ⟨rfl, rfl, rr⟩, ?_⟩
   conv => whnf
   refine ⟨_, ⟨rfl, rfl, rr⟩, ?_⟩
   conv => whnf
   refine ⟨_, ⟨rfl, rfl, rr⟩, ?_⟩
   conv => whnf
   obtain ⟨r_125, hc126, h⟩ := bS h
   refine ⟨_, (fun _ => by (conv => whnf); (refine PC.ecall (P220 f_1 r_14 r_17 r_125 hc126) (fun rs hrs => ?_)); (subst hrs); (conv => whnf); (exact rr)), ?_⟩
   conv => whnf
   refine ⟨_, (fun _ => rr), ?_⟩
   conv => whnf
   refine ⟨_, (fun _ => rr), ?_⟩
   conv => whnf
   refine cB h (fun hb127 h => ?_) (fun hb127 h => ?_)
   ·conv => whnf
    refine ⟨_, ⟨rfl, rfl, rr⟩, ?_⟩
    conv => whnf
    refine ⟨_, ⟨rfl, rfl, rr⟩, ?_⟩
    conv => whnf
    refine ⟨_, ⟨rfl, rfl, rr⟩, ?_⟩
    conv => whnf
    refine ⟨_, ⟨rfl, rfl, rr⟩, ?_⟩
    conv => whnf
    refine ⟨_, (fun _ => rr), ?_⟩
    conv => whnf
    obtain ⟨x_128, hx_128, h⟩ := bS h
    refine ⟨_, ⟨rfl, rfl, (by (conv => whnf); (refine ixP_of hx_128 ?_); (conv => whnf); (exact rr))⟩, ?_⟩
    conv => whnf
    refine ⟨_, ⟨rfl, rfl, rr⟩, ?_⟩
    conv => whnf
    refine ⟨_, ⟨rfl, rfl, rr⟩, ?_⟩
    conv => whnf
    refine ⟨_, (fun _ => rr), ?_⟩
    conv => whnf
    refine ⟨_, (fun _ => rr), ?_⟩
    conv => whnf
    refine ⟨_, (fun _ => rr), ?_⟩
    conv => whnf
    refine cB h (fun hb129 h => ?_) (fun hb129 h => ?_)
    ·conv => whnf
     refine ⟨_, (fun _ => rr), ?_⟩
     conv => whnf
     refine ⟨_, (fun _ => rr), ?_⟩
     conv => whnf
     refine ⟨_, (fun _ => rr), ?_⟩
     conv => whnf
     refine ⟨_, (fun _ => rr), ?_⟩
     conv => whnf
     refine cB h (fun hb130 h => ?_) (fun hb130 h => ?_)
     ·conv => whnf
      refine ⟨_, (fun _ => rr), ?_⟩
      conv => whnf
      refine ⟨_, (fun _ => rr), ?_⟩
      conv => whnf
      refine ⟨_, (fun _ => rr), ?_⟩
      conv => whnf
      refine ⟨_, (fun _ => rr), ?_⟩
      conv => whnf
      refine cB h (fun hb131 h => ?_) (fun hb131 h => ?_)
      ·conv => whnf
       refine ⟨_, (fun _ => rr), ?_⟩
       conv => whnf
       refine ⟨_, ⟨rfl, rfl, rr⟩, ?_⟩
       conv => whnf
       refine ⟨_, ⟨rfl, rfl, rr⟩, ?_⟩
       conv => whnf
       refine ⟨_, (fun _ => rr), ?_⟩
       conv => whnf
       refine ⟨_, (fun _ => rr), ?_⟩
       conv => whnf
       refine ⟨_, (fun _ => rr), ?_⟩
       conv => whnf
       refine cB h (fun hb132 h => ?_) (fun hb132 h => ?_)
       ·conv => whnf
        refine ⟨_, (fun _ => rr), ?_⟩
        conv => whnf
        refine ⟨_, (fun _ => rr), ?_⟩
        conv => whnf
        refine ⟨_, (fun _ => rr), ?_⟩
        conv => whnf
        refine ⟨_, (fun _ => rr), ?_⟩
        conv => whnf
        refine ⟨_, (fun _ => rr), ?_⟩
        conv => whnf
        refine cB h (fun hb133 h => ?_) (fun hb133 h => ?_)
        ·conv => whnf
         refine ⟨_, (fun _ => rr), ?_⟩
         conv => whnf
         refine ⟨_, (fun _ => rr), ?_⟩
         conv => whnf
         refine ⟨_, (fun _ => rr), ?_⟩
         conv => whnf
         refine ⟨_, (fun _ => rr), ?_⟩
         conv => whnf
         refine ⟨_, (fun _ => rr), ?_⟩
         conv => whnf
         cases h
         exact Wk.mk2 [] 4 rfl rfl (by decide) rfl trivial ⟨rr, trivial⟩
        conv => whnf
        refine ⟨_, (fun _ => rr), ?_⟩
        conv => whnf
        refine ⟨_, (fun _ => rr), ?_⟩
        conv => whnf
        cases h
        exact Wk.mk2 [] 4 rfl rfl (by decide) rfl trivial ⟨rr, trivial⟩
       conv => whnf
       refine ⟨_, (fun _ => rr), ?_⟩
       conv => whnf
       refine ⟨_, (fun _ => rr), ?_⟩
       conv => whnf
       refine ⟨_, (fun _ => rr), ?_⟩
       conv => whnf
       refine ⟨_, (fun _ => rr), ?_⟩
       conv => whnf
       cases h
       exact Wk.mk2 [] 4 rfl rfl (by decide) rfl trivial ⟨rr, trivial⟩
      conv => whnf
      refine ⟨_, (fun _ => rr), ?_⟩
      conv => whnf
      refine ⟨_, (fun _ => rr), ?_⟩
      conv => whnf
      refine ⟨_, (fun _ => rr), ?_⟩
      conv => whnf
      refine ⟨_, (fun _ => rr), ?_⟩
      conv => whnf
      refine ⟨_, (fun _ => rr), ?_⟩
      conv => whnf
      refine ⟨_, (fun _ => rr), ?_⟩
      conv => whnf
      cases h
      exact Wk.mk2 [] 4 rfl rfl (by decide) rfl trivial ⟨rr, trivial⟩
     conv => whnf
     refine ⟨_, (fun _ => rr), ?_⟩
     conv => whnf
     refine ⟨_, (fun _ => rr), ?_⟩
     conv => whnf
     refine ⟨_, (fun _ => rr), ?_⟩
     conv => whnf
     refine ⟨_, (fun _ => rr), ?_⟩
     conv => whnf
     refine ⟨_, (fun _ => rr), ?_⟩
     conv => whnf
     refine ⟨_, (fun _ => rr), ?_⟩
     conv => whnf
     refine ⟨_, (fun _ => rr), ?_⟩
     conv => whnf
     refine ⟨_, (fun _ => rr), ?_⟩
     conv => whnf
     cases h
     exact Wk.mk2 [] 4 rfl rfl (by decide) rfl trivial ⟨rr, trivial⟩
    conv => whnf
    refine ⟨_, (fun _ => rr), ?_⟩
    conv => whnf
    refine ⟨_, (fun _ => rr), ?_⟩
    conv => whnf
    refine ⟨_, (fun _ => rr), ?_⟩
    conv => whnf
    refine ⟨_, (fun _ => rr), ?_⟩
    conv => whnf
    refine ⟨_, (fun _ => rr), ?_⟩
    conv => whnf
    refine ⟨_, (fun _ => rr), ?_⟩
    conv => whnf
    refine ⟨_, (fun _ => rr), ?_⟩
    conv => whnf
    refine ⟨_, (fun _ => rr), ?_⟩
    conv => whnf
    refine ⟨_, (fun _ => rr), ?_⟩
    conv => whnf
    refine ⟨_, (fun _ => rr), ?_⟩
    conv => whnf
    cases h
    exact Wk.mk2 [] 4 rfl rfl (by decide) rfl trivial ⟨rr, trivial⟩
   conv => whnf
   refine ⟨_, (fun _ => rr), ?_⟩
   conv => whnf
   refine ⟨_, (fun _ => rr), ?_⟩
   conv => whnf
   refine ⟨_, (fun _ => rr), ?_⟩
   conv => whnf
   refine ⟨_, (fun _ => rr), ?_⟩
   conv => whnf
   refine ⟨_, (fun _ => rr), ?_⟩
   conv => whnf
   refine ⟨_, (fun _ => rr), ?_⟩
   conv => whnf
   refine ⟨_, (fun _ => rr), ?_⟩
   conv => whnf
   refine ⟨_, (fun _ => rr), ?_⟩
   conv => whnf
   refine ⟨_, (fun _ => rr), ?_⟩
   conv => whnf
   refine ⟨_, (fun _ => rr), ?_⟩
   conv => whnf
   refine ⟨_, (fun _ => rr), ?_⟩
   conv => whnf
   refine ⟨_, (fun _ => rr), ?_⟩
   conv => whnf
   cases h
   exact Wk.mk2 [] 4 rfl rfl (by decide) rfl trivial ⟨rr, trivial⟩
  clear hv124
  conv => whnf
  refine Tr.weak hw ?_
  refine Tr.ret ?_
  conv => whnf
  cases h
  rfl
 refine Tr.skip ?_
 conv => whnf
 refine Tr.seq ?_
 refine Tr.seq ?_
 refine rg ?_
 conv => whnf
 refine Tr.cond ?_
 conv => whnf
 refine cB h (fun hb134 h => ?_) (fun hb134 h => ?_)
 ·refine Tr.seq ?_
  refine rg ?_
  conv => whnf
  refine Tr.ret ?_
  conv => whnf
  cases h
  rfl
 refine Tr.skip ?_
 conv => whnf
 refine Tr.seq ?_
 refine rg ?_
 conv => whnf
 obtain ⟨⟨r_135, r_136⟩, hc137, h⟩ := bS h
 refine PC.ecall (P219 f_1 r_17.A ((Int.tmod (w64 runner_2) (((f_1.Runners).length : Int)))) r_135 r_136 hc137) (fun rs hrs => ?_)
 subst hrs
 conv => whnf
 refine Tr.seq ?_
 refine rg ?_
 conv => whnf
 obtain ⟨⟨r_138, r_139⟩, hc140, h⟩ := bS h
 refine PC.ecall (P219 f_1 r_17.B ((Int.tmod (w64 runner_2) (((f_1.Runners).length : Int)))) r_138 r_139 hc140) (fun rs hrs => ?_)
 subst hrs
 conv => whnf
 refine Tr.seq ?_
 refine rg ?_
 conv => whnf
 refine Tr.seq ?_
 refine Tr.seq ?_
 refine rg ?_
 conv => whnf
 refine Tr.cond ?_
 conv => whnf
 refine cB h (fun hb141 h => ?_) (fun hb141 h => ?_)
 ·refine rg ?_
  conv => whnf
  refine Tr.seq ?_
  obtain ⟨v_142, hv143, h⟩ := bS h
  refine Tr.cutQ1 ([(4, .d (.b v_142))]) ([]) ?_ (fun T1 H1 hw => ?_)
  ·replace h := hv143; clear hv143
   refine Tr.draw (DrawP.seqQ layOK mixed [] [(0, 3), (1, 4), (2, 5), (3, 1), (4, 1), (5, 1), (6, 5), (7, 5), (8, 3), (9, 3), (10, 1), (11, 2), (12, 2), (13, 2), (14, 1), (15, 1), (16, 1), (17, 1), (18, 1), (19, 1), (20, 1), (21, 1), (22, 1), (23, 1), (24, 1), (25, 1), (26, 4), (27, 4), (28, 1), (29, 1), (30, 1), (31, 1), (32, 1), (33, 1), (34, 1), (35, 1), (36, 1), (37, 1), (38, 1), (39, 1), (40, 1)] (by kernel_rfl) ?_)
   conv => whnf
   refine ⟨_, ⟨rfl, rfl, rr⟩, ?_⟩
   conv => whnf
   refine ⟨_, ⟨rfl, rfl, rr⟩, ?_⟩
   conv => whnf
   refine ⟨_, ⟨rfl, rfl, rr⟩, ?_⟩
   conv => whnf
   obtain ⟨r_144, hc145, h⟩ := bS h
   refine ⟨_, (fun _ => by (conv => whnf); (refine PC.ecall (P220 f_1 r_14 r_17 r_144 hc145) (fun rs hrs => ?_)); (subst hrs); (conv => whnf); (exact rr)), ?_⟩
   conv => whnf
   refine ⟨_, (fun _ => rr), ?_⟩
   conv => whnf
   refine ⟨_, (fun _ => rr), ?_⟩
   conv => whnf
   refine cB h (fun hb146 h => ?_) (fun hb146 h => ?_)
   ·conv => whnf
    refine ⟨_, ⟨rfl, rfl, rr⟩, ?_⟩
    conv => whnf
    refine ⟨_, ⟨rfl, rfl, rr⟩, ?_⟩
    conv => whnf
    refine ⟨_, ⟨rfl, rfl, rr⟩, ?_⟩
    conv => whnf
    refine ⟨_, ⟨rfl, rfl, rr⟩, ?_⟩
    conv => whnf
    refine ⟨_, (fun _ => rr), ?_⟩
    conv => whnf
    obtain ⟨x_147, hx_147, h⟩ := bS h
    refine ⟨_, ⟨rfl, rfl, (by (conv => whnf); (refine ixP_of hx_147 ?_); (conv => whnf); (exact rr))⟩, ?_⟩
    conv => whnf
    refine ⟨_, ⟨rfl, rfl, rr⟩, ?_⟩
    conv => whnf
    refine ⟨_, ⟨rfl, rfl, rr⟩, ?_⟩
    conv => whnf
    refine ⟨_, (fun _ => rr), ?_⟩
    conv => whnf
    refine ⟨_, (fun _ => rr), ?_⟩
    conv => whnf
    refine ⟨_, (fun _ => rr), ?_⟩
    conv => whnf
    refine cB h (fun hb148 h => ?_) (fun hb148 h => ?_)
    ·conv => whnf
     refine ⟨_, (fun _ => rr), ?_⟩
     conv => whnf
     refine ⟨_, (fun _ => rr), ?_⟩
     conv => whnf
     refine ⟨_, (fun _ => rr), ?_⟩
     conv => whnf
     refine ⟨_, (fun _ => rr), ?_⟩
     conv => whnf
     refine cB h (fun hb149 h => ?_) (fun hb149 h => ?_)
     ·conv => whnf
      refine ⟨_, (fun _ => rr), ?_⟩
      conv => whnf
      refine ⟨_, (fun _ => rr), ?_⟩
      conv => whnf
      refine ⟨_, (fun _ => rr), ?_⟩
      conv => whnf
      refine ⟨_, (fun _ => rr), ?_⟩
      conv => whnf
      refine cB h (fun hb150 h => ?_) (fun hb150 h => ?_)
      ·conv => whnf
       refine ⟨_, (fun _ => rr), ?_⟩
       conv => whnf
       refine ⟨_, ⟨rfl, rfl, rr⟩, ?_⟩
       conv => whnf
       refine ⟨_, ⟨rfl, rfl, rr⟩, ?_⟩
       conv => whnf
       refine ⟨_, (fun _ => rr), ?_⟩
       conv => whnf
       refine ⟨_, (fun _ => rr), ?_⟩
       conv => whnf
       refine ⟨_, (fun _ => rr), ?_⟩
       conv => whnf
       refine cB h (fun hb151 h => ?_) (fun hb151 h => ?_)
       ·conv => whnf
        refine ⟨_, (fun _ => rr), ?_⟩
        conv => whnf
        refine ⟨_, (fun _ => rr), ?_⟩
        conv => whnf
        refine ⟨_, (fun _ => rr), ?_⟩
        conv => whnf
        refine ⟨_, (fun _ => rr), ?_⟩
        conv => whnf
        refine ⟨_, (fun _ => rr), ?_⟩
        conv => whnf
        refine cB h (fun hb152 h => ?_) (fun hb152 h => ?_)
        ·conv => whnf
         refine ⟨_, (fun _ => rr), ?_⟩
         conv => whnf
         refine ⟨_, (fun _ => rr), ?_⟩
         conv => whnf
         refine ⟨_, (fun _ => rr), ?_⟩
         conv => whnf
         refine ⟨_, (fun _ => rr), ?_⟩
         conv => whnf
         refine ⟨_, (fun _ => rr), ?_⟩
         conv => whnf
         cases h
         exact Wk.mk2 [] 3 rfl rfl (by decide) rfl trivial ⟨rr, trivial⟩
        conv => whnf
        refine ⟨_, (fun _ => rr), ?_⟩
        conv => whnf
        refine ⟨_, (fun _ => rr), ?_⟩
        conv => whnf
        cases h
        exact Wk.mk2 [] 3 rfl rfl (by decide) rfl trivial ⟨rr, trivial⟩
       conv => whnf
       refine ⟨_, (fun _ => rr), ?_⟩
       conv => whnf
       refine ⟨_, (fun _ => rr), ?_⟩
       conv => whnf
       refine ⟨_, (fun _ => rr), ?_⟩
       conv => whnf
       refine ⟨_, (fun _ => rr), ?_⟩
       conv => whnf
       cases h
       exact Wk.mk2 [] 3 rfl rfl (by decide) rfl trivial ⟨rr, trivial⟩
      conv => whnf
      refine ⟨_, (fun _ => rr), ?_⟩
      conv => whnf
      refine ⟨_, (fun _ => rr), ?_⟩
      conv => whnf
      refine ⟨_, (fun _ => rr), ?_⟩
      conv => whnf
      refine ⟨_, (fun _ => rr), ?_⟩
      conv => whnf
      refine ⟨_, (fun _ => rr), ?_⟩
      conv => whnf
      refine ⟨_, (fun _ => rr), ?_⟩
      conv => whnf
      cases h
      exact Wk.mk2 [] 3 rfl rfl (by decide) rfl trivial ⟨rr, trivial⟩
     conv => whnf
     refine ⟨_, (fun _ => rr), ?_⟩
     conv => whnf
     refine ⟨_, (fun _ => rr), ?_⟩
     conv => whnf
     refine ⟨_, (fun _ => rr), ?_⟩
     conv => whnf
     refine ⟨_, (fun _ => rr), ?_⟩
     conv => whnf
     refine ⟨_, (fun _ => rr), ?_⟩
     conv => whnf
     refine ⟨_, (fun _ => rr), ?_⟩
     conv => whnf
     refine ⟨_, (fun _ => rr), ?_⟩
     conv => whnf
     refine ⟨_, (fun _ => rr), ?_⟩
     conv => whnf
     cases h
     exact Wk.mk2 [] 3 rfl rfl (by decide) rfl trivial ⟨rr, trivial⟩
    conv => whnf
    refine ⟨_, (fun _ => rr), ?_⟩
    conv => whnf
    refine ⟨_, (fun _ => rr), ?_⟩
    conv => whnf
    refine ⟨_, (fun _ => rr), ?_⟩
    conv => whnf
    refine ⟨_, (fun _ => rr), ?_⟩
    conv => whnf
    refine ⟨_, (fun _ => rr), ?_⟩
    conv => whnf
    refine ⟨_, (fun _ => rr), ?_⟩
    conv => whnf
    refine ⟨_, (fun _ => rr), ?_⟩
    conv => whnf
    refine ⟨_, (fun _ => rr), ?_⟩
    conv => whnf
    refine ⟨_, (fun _ => rr), ?_⟩
    conv => whnf
    refine ⟨_, (fun _ => rr), ?_⟩
    conv => whnf
    cases h
    exact Wk.mk2 [] 3 rfl rfl (by decide) rfl trivial ⟨rr, trivial⟩
   conv => whnf
   refine ⟨_, (fun _ => rr), ?_⟩
   conv => whnf
   refine ⟨_, (fun _ => rr), ?_⟩
   conv => whnf
   refine ⟨_, (fun _ => rr), ?_⟩
   conv => whnf
   refine ⟨_, (fun _ => rr), ?_⟩
   conv => whnf
   refine ⟨_, (fun _ => rr), ?_⟩
   conv => whnf
   refine ⟨_, (fun _ => rr), ?_⟩
   conv => whnf
   refine ⟨_, (fun _ => rr), ?_⟩
   conv => whnf
   refine ⟨_, (fun _ => rr), ?_⟩
   conv => whnf
   refine ⟨_, (fun _ => rr), ?_⟩
   conv => whnf
   refine ⟨_, (fun _ => rr), ?_⟩
   conv => whnf
   refine ⟨_, (fun _ => rr), ?_⟩
   conv => whnf
   refine ⟨_, (fun _ => rr), ?_⟩
   conv => whnf
   cases h
   exact Wk.mk2 [] 3 rfl rfl (by decide) rfl trivial ⟨rr, trivial⟩
  clear hv143
  conv => whnf
  refine Tr.weak hw ?_
  refine Tr.ret ?_
  conv => whnf
  cases h
  rfl
 refine Tr.skip ?_
 conv => whnf
 refine Tr.seq ?_
 obtain ⟨v_153, hv154, h⟩ := bS h
 refine Tr.cutQ1 ([(4, .d (.b v_153))]) ([]) ?_ (fun T1 H1 hw => ?_)
 ·replace h := hv154; clear hv154
  refine Tr.draw (DrawP.seqQ layOK mixed [] [(0, 3), (1, 4), (2, 5), (3, 1), (4, 1), (5, 1), (6, 5), (7, 5), (8, 3), (9, 3), (10, 1), (11, 2), (12, 2), (13, 2), (14, 1), (15, 1), (16, 1), (17, 1), (18, 1), (19, 1), (20, 1), (21, 1), (22, 1), (23, 1), (24, 1), (25, 1), (26, 4), (27, 4), (28, 1), (29, 1), (30, 1), (31, 1), (32, 1), (33, 1), (34, 1), (35, 1), (36, 1), (37, 1), (38, 1), (39, 1), (40, 1)] (by kernel_rfl) ?_)
  conv => whnf
  refine ⟨_, ⟨rfl, rfl, rr⟩, ?_⟩
  conv => whnf
  refine ⟨_, ⟨rfl, rfl, rr⟩, ?_⟩
  conv => whnf
  refine ⟨_, ⟨rfl, rfl, rr⟩, ?_⟩
  conv => whnf
  obtain ⟨r_155, hc156, h⟩ := bS h
  refine ⟨_, (fun _ => by (conv => whnf); (refine PC.ecall (P220 f_1 r_14 r_17 r_155 hc156) (fun rs hrs => ?_)); (subst hrs); (conv => whnf); (exact rr)), ?_⟩
  conv => whnf
  refine ⟨_, (fun _ => rr), ?_⟩
  conv => whnf
  refine ⟨_, (fun _ => rr), ?_⟩
  conv => whnf
  refine cB h (fun hb157 h => ?_) (fun hb157 h => ?_)
  ·conv => whnf
   refine ⟨_, ⟨rfl, rfl, rr⟩, ?_⟩
   conv => whnf
   refine ⟨_, ⟨rfl, rfl, rr⟩, ?_⟩
   conv => whnf
   refine ⟨_, ⟨rfl, rfl, rr⟩, ?_⟩
   conv => whnf
   refine ⟨_, ⟨rfl, rfl, rr⟩, ?_⟩
   conv => whnf
   refine ⟨_, (fun _ => rr), ?_⟩
   conv => whnf
   obtain ⟨x_158, hx_158, h⟩ := bS h
   refine ⟨_, ⟨rfl, rfl, (by (conv => whnf); (refine ixP_of hx_158 ?_); (conv => whnf); (exact rr))⟩, ?_⟩
   conv => whnf
   refine ⟨_, ⟨rfl, rfl, rr⟩, ?_⟩
   conv => whnf
   refine ⟨_, ⟨rfl, rfl, rr⟩, ?_⟩
   conv => whnf
   refine ⟨_, (fun _ => rr), ?_⟩
   conv => whnf
   refine ⟨_, (fun _ => rr), ?_⟩
   conv => whnf
   refine ⟨_, (fun _ => rr), ?_⟩
   conv => whnf
   refine cB h (fun hb159 h => ?_) (fun hb159 h => ?_)
   ·conv => whnf
    refine ⟨_, (fun _ => rr), ?_⟩
    conv => whnf
    refine ⟨_, (fun _ => rr), ?_⟩
    conv => whnf
    refine ⟨_, (fun _ => rr), ?_⟩
    conv => whnf
    refine ⟨_, (fun _ => rr), ?_⟩
    conv => whnf
    refine cB h (fun hb160 h => ?_) (fun hb160 h => ?_)
    ·conv => whnf
     refine ⟨_, (fun _ => rr), ?_⟩
     conv => whnf
     refine ⟨_, (fun _ => rr), ?_⟩
     conv => whnf
     refine ⟨_, (fun _ => rr), ?_⟩
     conv => whnf
     refine ⟨_, (fun _ => rr), ?_⟩
     conv => whnf
     refine cB h (fun hb161 h => ?_) (fun hb161 h => ?_)
     ·conv => whnf
      refine ⟨_, (fun _ => rr), ?_⟩
      conv => whnf
      refine ⟨_, ⟨rfl, rfl, rr⟩, ?_⟩
      conv => whnf
      refine ⟨_, ⟨rfl, rfl, rr⟩, ?_⟩
      conv => whnf
      refine ⟨_, (fun _ => rr), ?_⟩
      conv => whnf
      refine ⟨_, (fun _ => rr), ?_⟩
      conv => whnf
      refine ⟨_, (fun _ => rr), ?_⟩
      conv => whnf
      refine cB h (fun hb162 h => ?_) (fun hb162 h => ?_)
      ·conv => whnf
       refine ⟨_, (fun _ => rr), ?_⟩
       conv => whnf
       refine ⟨_, (fun _ => rr), ?_⟩
       conv => whnf
       refine ⟨_, (fun _ => rr), ?_⟩
       conv => whnf
       refine ⟨_, (fun _ => rr), ?_⟩
       conv => whnf
       refine ⟨_, (fun _ => rr), ?_⟩
       conv => whnf
       refine cB h (fun hb163 h => ?_) (fun hb163 h => ?_)
       ·conv => whnf
        refine ⟨_, (fun _ => rr), ?_⟩
        conv => whnf
        refine ⟨_, (fun _ => rr), ?_⟩
        conv => whnf
        refine ⟨_, (fun _ => rr), ?_⟩
        conv => whnf
        refine ⟨_, (fun _ => rr), ?_⟩
        conv => whnf
        refine ⟨_, (fun _ => rr), ?_⟩
        conv => whnf
        cases h
        exact Wk.mk2 [] 3 rfl rfl (by decide) rfl trivial ⟨rr, trivial⟩
       conv => whnf
       refine ⟨_, (fun _ => rr), ?_⟩
       conv => whnf
       refine ⟨_, (fun _ => rr), ?_⟩
       conv => whnf
       cases h
       exact Wk.mk2 [] 3 rfl rfl (by decide) rfl trivial ⟨rr, trivial⟩
      conv => whnf
      refine ⟨_, (fun _ => rr), ?_⟩
      conv => whnf
      refine ⟨_, (fun _ => rr), ?_⟩
      conv => whnf
      refine ⟨_, (fun _ => rr), ?_⟩
      conv => whnf
      refine ⟨_, (fun _ => rr), ?_⟩
      conv => whnf
      cases h
      exact Wk.mk2 [] 3 rfl rfl (by decide) rfl trivial ⟨rr, trivial⟩
     conv => whnf
     refine ⟨_, (fun _ => rr), ?_⟩
     conv => whnf
     refine ⟨_, (fun _ => rr), ?_⟩
     conv => whnf
     refine ⟨_, (fun _ => rr), ?_⟩
     conv => whnf
     refine ⟨_, (fun _ => rr), ?_⟩
     conv => whnf
     refine ⟨_, (fun _ => rr), ?_⟩
     conv => whnf
     refine ⟨_, (fun _ => rr), ?_⟩
     conv => whnf
     cases h
     exact Wk.mk2 [] 3 rfl rfl (by decide) rfl trivial ⟨rr, trivial⟩
    conv => whnf
    refine ⟨_, (fun _ => rr), ?_⟩
    conv => whnf
    refine ⟨_, (fun _ => rr), ?_⟩
    conv => whnf
    refine ⟨_, (fun _ => rr), ?_⟩
    conv => whnf
    refine ⟨_, (fun _ => rr), ?_⟩
    conv => whnf
    refine ⟨_, (fun _ => rr), ?_⟩
    conv => whnf
    refine ⟨_, (fun _ => rr), ?_⟩
    conv => whnf
    refine ⟨_, (fun _ => rr), ?_⟩
    conv => whnf
    refine ⟨_, (fun _ => rr), ?_⟩
    conv => whnf
    cases h
    exact Wk.mk2 [] 3 rfl rfl (by decide) rfl trivial ⟨rr, trivial⟩
   conv => whnf
   refine ⟨_, (fun _ => rr), ?_⟩
   conv => whnf
   refine ⟨_, (fun _ => rr), ?_⟩
   conv => whnf
   refine ⟨_, (fun _ => rr), ?_⟩
   conv => whnf
   refine ⟨_, (fun _ => rr), ?_⟩
   conv => whnf
   refine ⟨_, (fun _ => rr), ?_⟩
   conv => whnf
   refine ⟨_, (fun _ => rr), ?_⟩
   conv => whnf
   refine ⟨_, (fun _ => rr), ?_⟩
   conv => whnf
   refine ⟨_, (fun _ => rr), ?_⟩
   conv => whnf
   refine ⟨_, (fun _ => rr), ?_⟩
   conv => whnf
   refine ⟨_, (fun _ => rr), ?_⟩
   conv => whnf
   cases h
   exact Wk.mk2 [] 3 rfl rfl (by decide) rfl trivial ⟨rr, trivial⟩
  conv => whnf
  refine ⟨_, (fun _ => rr), ?_⟩
  conv => whnf
  refine ⟨_, (fun _ => rr), ?_⟩
  conv => whnf
  refine ⟨_, (fun _ => rr), ?_⟩
  conv => whnf
  refine ⟨_, (fun _ => rr), ?_⟩
  conv => whnf
  refine ⟨_, (fun _ => rr), ?_⟩
  conv => whnf
  refine ⟨_, (fun _ => rr), ?_⟩
  conv => whnf
  refine ⟨_, (fun _ => rr), ?_⟩
  conv => whnf
  refine ⟨_, (fun _ => rr), ?_⟩
  conv => whnf
  refine ⟨_, (fun _ => rr), ?_⟩
  conv => whnf
  refine ⟨_, (fun _ => rr), ?_⟩
  conv => whnf
  refine ⟨_, (fun _ => rr), ?_⟩
  conv => whnf
  refine ⟨_, (fun _ => rr), ?_⟩
  conv => whnf
  cases h
  exact Wk.mk2 [] 3 rfl rfl (by decide) rfl trivial ⟨rr, trivial⟩
 clear hv154
 conv => whnf
 refine Tr.weak hw ?_
 refine Tr.ret ?_
 conv => whnf
 cases h
 rfl
end Go.Proofs.Tryz
