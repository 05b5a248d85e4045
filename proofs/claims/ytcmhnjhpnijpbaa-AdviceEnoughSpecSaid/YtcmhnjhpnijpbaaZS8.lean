/- Contracts of functions, by program (gen.py). No condition. -/
import Derived.Test.YtcmhnjhpnijpbaaZL
import Derived.Test.YtcmhnjhpnijpbaaZM
import Derived.Test.YtcmhnjhpnijpbaaZCB
import Derived.Test.YtcmhnjhpnijpbaaZS7
namespace Go.Proofs.Try
open Go Go.Abs Go.Stop
set_option maxRecDepth 8000
set_option linter.unusedVariables false
set_option linter.unusedSimpArgs false
theorem P211 (q_1 : TQuestion) (r_2 : Bool) (h : M211 q_1 = some r_2) :
    PC prog 59 [(eTQuestion q_1)] (fun rs => rs = [(.b r_2)]) := by
 refine PC.of_tr (cx := ⟨16, none, lay, 0⟩) layOK func59 rfl rfl rfl rfl rfl (by simp [f59]) ?_
 unfold M211 at h
 refine sg ?_
 conv=>whnf
 refine sg ?_
 conv=>whnf
 obtain ⟨⟨r_3, r_4⟩, hc5, h⟩ := bS h
 refine PC.ecall (P210 q_1.Field q_1.Runner r_3 r_4 hc5) (fun rs hrs => ?_)
 subst hrs
 conv=>whnf
 refine sg ?_
 conv=>whnf
 refine Tr.ret ?_
 conv=>whnf
 cases h
 rfl
theorem P214 (l_1 : List Int) (n_2 : Int) (r_3 : Bool) (h : M214 l_1 n_2 = some r_3) :
    PC prog 60 [(.ls (List.map eI l_1)), (.i .i64 n_2)] (fun rs => rs = [(.b r_3)]) := by
 refine PC.of_tr (cx := ⟨18, none, lay, 0⟩) layOK func60 rfl rfl rfl rfl rfl (by simp [f60]) ?_
 unfold M214 at h
 refine sg ?_
 conv=>whnf
 refine Tr.seq ?_
 refine sg ?_
 conv=>whnf
 refine Tr.cutQ (α := Unit) (fun s => ([(4, .d (.b false))], [])) (fun s => M213 s = some r_3) ?_ ?_
 ·refine Tr.block ?_
  refine Tr.loopM (σ := Int) (fun n s => M212 l_1 n_2 M213 n s) r_3 (fun s => ([(0, .d (.ls (List.map eI l_1))), (1, (dI n_2)), (4, .d (.b false)), (5, (dI s))], [])) (((((l_1).length : Int)) - 0 : Int).toNat + 1) (0) h (fun s => rfl) (Wk.mk2 [] 0 rfl rfl (by decide) rfl trivial ⟨rr, rr, rr, rr, trivial⟩) ?_
  clear h
  rintro n_6 i_5 h
  replace h : M212 l_1 n_2 M213 (n_6 + 1) i_5 = some r_3 := h
  rw [M212] at h
  refine Tr.seq ?_
  refine sg ?_
  conv=>whnf
  refine lnS_map ?_
  conv=>whnf
  refine Tr.cond ?_
  conv=>whnf
  refine cB h (fun hb9 h => ?_) (fun hb9 h => ?_)
  ·refine Tr.skip ?_
   conv=>whnf
   refine Tr.seq ?_
   refine Tr.block ?_
   refine sg ?_
   conv=>whnf
   obtain ⟨x_10, hx_10, h⟩ := bS h
   refine ixP_of hx_10 ?_
   conv=>whnf
   refine Tr.cond ?_
   conv=>whnf
   refine cB h (fun hb11 h => ?_) (fun hb11 h => ?_)
   ·refine sg ?_
    conv=>whnf
    refine Tr.ret ?_
    conv=>whnf
    cases h
    rfl
   refine Tr.skip ?_
   conv=>whnf
   refine rg ?_
   conv=>whnf
   refine arS_raw ?_
   conv=>whnf
   refine ⟨((w64 (i_5 + 1))), h, ?_⟩
   exact Wk.mk2 [] 0 rfl rfl (by decide) rfl trivial ⟨rr, rr, rr, rr, trivial⟩
  refine Tr.exit ?_
  conv=>whnf
  refine ⟨(), h, ?_⟩
  exact Wk.mk2 [] 0 rfl rfl (by decide) rfl trivial ⟨rr, trivial⟩
 clear h
 rintro _ h T1 H1 hw
 replace h : M213 () = some r_3 := h
 conv=>whnf
 refine Tr.weak hw ?_
 unfold M213 at h
 refine sg ?_
 conv=>whnf
 refine Tr.ret ?_
 conv=>whnf
 cases h
 rfl
theorem P219 (f_1 : TField) (x_2 : TLook) (answer_3 : Int) (r_4 : TField) (r_5 : Bool) (h : M219 f_1 x_2 answer_3 = some (r_4, r_5)) :
    PC prog 61 [(eTField f_1), (eTLook x_2), (.i .i64 answer_3)] (fun rs => rs = [(eTField r_4), (.b r_5)]) := by
 refine PC.of_tr (cx := ⟨113, none, lay, 0⟩) layOK func61 rfl rfl rfl rfl rfl (by simp [f61]) ?_
 unfold M219 at h
 refine sg ?_
 conv=>whnf
 refine sg ?_
 conv=>whnf
 obtain ⟨x_6, hx_6, h⟩ := bS h
 refine ixP_of hx_6 ?_
 conv=>whnf
 refine sg ?_
 conv=>whnf
 refine sg ?_
 conv=>whnf
 refine orB_l ?_
 conv=>whnf
 refine frP_no ?_
 conv=>whnf
 refine eqS_mk (by first | rfl | simp) ?_
 conv=>whnf
 obtain ⟨l_7, hl_7, h⟩ := bS h
 refine apS_of hl_7 (aQ (f := eTRunner) (l := f_1.Runners) fun _ => rfl) (by first | rfl | simp) (by first | rfl | simp) (fun he => ?_)
 conv=>whnf
 refine rS (es' := List.map .d (List.map eTRunner l_7)) (n' := List.length l_7) (by subst he; simp only [List.map_append, List.map_cons, List.map_nil, List.nil_append]; first | done | rfl) (by subst he; simp <;> omega) ?_
 clear he
 conv=>whnf
 refine orB_l ?_
 conv=>whnf
 refine sg ?_
 conv=>whnf
 refine orB_l ?_
 conv=>whnf
 refine Tr.seq ?_
 refine sg ?_
 conv=>whnf
 obtain ⟨l_13, hv36, h⟩ := bS h
 refine Tr.cutQ1 ([(4, .pt 0 0), (6, .pt 1 0), (7, .d (.b false)), (9, .pt 2 0), (10, .sl 3 1 0 (List.length l_13))]) ([some (.var [(dI x_2.Runner), .d (.ls (List.map eTSpan x_2.Answers))]), some (.var [.nsl, .nsl, .nsl, .nsl]), some (.var [.d (.ls (List.map eTSegment f_1.Clocks.Segments)), .d (.ls (List.map (eL eI) f_1.Clocks.Far)), .d (.ls (List.map eTPair f_1.Pairs)), .sl 4 3 0 (List.length l_7)]), some (.arr 1 (List.map .d (List.map (eL eTOutcome) l_13))), some (.arr 3 (List.map .d (List.map eTRunner l_7)))]) ?_ (fun T1 H1 hw => ?_)
 ·replace h := hv36; clear hv36
  refine Tr.block ?_
  refine Tr.loopM (σ := Int × List (List TOutcome)) (fun n s => M216 x_2 x_6 l_7 n s.1 s.2) l_13 (fun s => ([(4, .pt 0 0), (6, .pt 1 0), (7, .d (.b false)), (8, .pt 2 0), (9, .pt 3 0), (10, .sl 4 1 0 (List.length s.2)), (11, (dI s.1))], [some (.var [(dI x_2.Runner), .d (.ls (List.map eTSpan x_2.Answers))]), some (.var [.nsl, .nsl, .nsl, .nsl]), some (.var [(dI x_6.Lo), (dI x_6.Hi)]), some (.var [.d (.ls (List.map eTSegment f_1.Clocks.Segments)), .d (.ls (List.map (eL eI) f_1.Clocks.Far)), .d (.ls (List.map eTPair f_1.Pairs)), .sl 5 3 0 (List.length l_7)]), some (.arr 1 (List.map .d (List.map (eL eTOutcome) s.2))), some (.arr 3 (List.map .d (List.map eTRunner l_7)))])) ((((((Option.getD (idx l_7 x_2.Runner) default).Worlds).length : Int)) - 0 : Int).toNat + 1) (0, (([] : List (List TOutcome)))) h (fun s => rfl) (Wk.mk2 [1, 2, 3, 4, 7, 6] 8 rfl rfl (by decide) rfl ⟨rr, rr, rr, ⟨rfl, (by first | rfl | (simp only [List.length_set]; rfl) | simp)⟩, daS_d rfl, daS_d rfl, trivial⟩ ⟨⟨rfl, (by first | rfl | (simp only [List.length_set]; rfl) | simp)⟩, ⟨rfl, (by first | rfl | (simp only [List.length_set]; rfl) | simp)⟩, rr, ⟨rfl, (by first | rfl | (simp only [List.length_set]; rfl) | simp)⟩, ⟨rfl, (by first | rfl | (simp only [List.length_set]; rfl) | simp)⟩, ⟨rfl, (by first | rfl | (simp only [List.length_set]; rfl) | simp)⟩, rr, trivial⟩) ?_
  clear h
  rintro n_12 ⟨w_10, l_11⟩ h
  replace h : M216 x_2 x_6 l_7 (n_12 + 1) w_10 l_11 = some l_13 := h
  rw [M216] at h
  refine Tr.seq ?_
  refine sg ?_
  conv=>whnf
  obtain ⟨x_16, hx_16, h⟩ := bS h
  refine ixS_of hx_16 rfl ?_
  conv=>whnf
  refine elP_of hx_16 ?_
  conv=>whnf
  refine lnS_map ?_
  conv=>whnf
  refine Tr.cond ?_
  conv=>whnf
  refine cB h (fun hb17 h => ?_) (fun hb17 h => ?_)
  ·refine Tr.skip ?_
   conv=>whnf
   refine Tr.seq ?_
   refine Tr.block ?_
   refine sg ?_
   conv=>whnf
   refine orB_l ?_
   conv=>whnf
   refine Tr.seq ?_
   refine sg ?_
   conv=>whnf
   obtain ⟨l_23, hv34, h⟩ := bS h
   refine Tr.cutQ1 ([(4, .pt 0 0), (6, .pt 1 0), (7, .d (.b false)), (8, .pt 2 0), (9, .pt 3 0), (10, .sl 4 1 0 (List.length l_11)), (11, (dI w_10)), (12, .sl 5 4 0 (List.length l_23))]) ([some (.var [(dI x_2.Runner), .d (.ls (List.map eTSpan x_2.Answers))]), some (.var [.nsl, .nsl, .nsl, .nsl]), some (.var [(dI x_6.Lo), (dI x_6.Hi)]), some (.var [.d (.ls (List.map eTSegment f_1.Clocks.Segments)), .d (.ls (List.map (eL eI) f_1.Clocks.Far)), .d (.ls (List.map eTPair f_1.Pairs)), .sl 6 3 0 (List.length l_7)]), some (.arr 1 (List.map .d (List.map (eL eTOutcome) l_11))), some (.arr 4 (List.map .d (List.map eTOutcome l_23))), some (.arr 3 (List.map .d (List.map eTRunner l_7)))]) ?_ (fun T1 H1 hw => ?_)
   ·replace h := hv34; clear hv34
    refine Tr.block ?_
    refine Tr.loopM (σ := Int × List TOutcome) (fun n s => M215 x_2 x_6 l_7 w_10 n s.1 s.2) l_23 (fun s => ([(4, .pt 0 0), (6, .pt 1 0), (7, .d (.b false)), (8, .pt 2 0), (9, .pt 3 0), (10, .sl 4 1 0 (List.length l_11)), (11, (dI w_10)), (12, .sl 5 4 0 (List.length s.2)), (13, (dI s.1))], [some (.var [(dI x_2.Runner), .d (.ls (List.map eTSpan x_2.Answers))]), some (.var [.nsl, .nsl, .nsl, .nsl]), some (.var [(dI x_6.Lo), (dI x_6.Hi)]), some (.var [.d (.ls (List.map eTSegment f_1.Clocks.Segments)), .d (.ls (List.map (eL eI) f_1.Clocks.Far)), .d (.ls (List.map eTPair f_1.Pairs)), .sl 6 3 0 (List.length l_7)]), some (.arr 1 (List.map .d (List.map (eL eTOutcome) l_11))), some (.arr 4 (List.map .d (List.map eTOutcome s.2))), some (.arr 3 (List.map .d (List.map eTRunner l_7)))])) ((((((Option.getD (idx (Option.getD (idx l_7 x_2.Runner) default).Worlds w_10) default)).length : Int)) - 0 : Int).toNat + 1) (0, (([] : List TOutcome))) h (fun s => rfl) (Wk.mk2 [0, 1, 2, 3, 4, 6, 5] 7 rfl rfl (by decide) rfl ⟨rr, rr, rr, ⟨rfl, (by first | rfl | (simp only [↓hb17, bl, List.length_set]; done) | (simp only [↓hb17, bl, List.length_set]; rfl))⟩, daS_d rfl, daS_d rfl, daS_d rfl, trivial⟩ ⟨rr, rr, rr, rr, rr, rr, rr, ⟨rfl, (by first | rfl | (simp only [↓hb17, bl, List.length_set]; done) | (simp only [↓hb17, bl, List.length_set]; rfl))⟩, rr, trivial⟩) ?_
    clear h
    rintro n_22 ⟨i_20, l_21⟩ h
    replace h : M215 x_2 x_6 l_7 w_10 (n_22 + 1) i_20 l_21 = some l_23 := h
    rw [M215] at h
    refine Tr.seq ?_
    refine sg ?_
    conv=>whnf
    obtain ⟨x_26, hx_26, h⟩ := bS h
    refine ixS_of hx_26 rfl ?_
    conv=>whnf
    refine elP_of hx_26 ?_
    conv=>whnf
    obtain ⟨x_27, hx_27, h⟩ := bS h
    refine ixP_of hx_27 ?_
    conv=>whnf
    refine lnS_map ?_
    conv=>whnf
    refine Tr.cond ?_
    conv=>whnf
    refine cB h (fun hb28 h => ?_) (fun hb28 h => ?_)
    ·refine Tr.skip ?_
     conv=>whnf
     refine Tr.seq ?_
     refine Tr.block ?_
     refine sg ?_
     conv=>whnf
     obtain ⟨x_29, hx_29, h⟩ := bS h
     refine ixS_of hx_29 rfl ?_
     conv=>whnf
     refine elP_of hx_29 ?_
     conv=>whnf
     obtain ⟨x_30, hx_30, h⟩ := bS h
     refine ixP_of hx_30 ?_
     conv=>whnf
     obtain ⟨x_31, hx_31, h⟩ := bS h
     refine ixP_of hx_31 ?_
     conv=>whnf
     refine sg ?_
     conv=>whnf
     refine sg ?_
     conv=>whnf
     refine sg ?_
     conv=>whnf
     refine Tr.cond ?_
     conv=>whnf
     refine cB h (fun hb32 h => ?_) (fun hb32 h => ?_)
     ·refine rg ?_
      conv=>whnf
      refine orB_r ?_
      conv=>whnf
      refine frP_no ?_
      conv=>whnf
      refine eqS_mk (by first | rfl | simp) ?_
      conv=>whnf
      obtain ⟨l_33, hl_33, h⟩ := bS h
      refine apS_of hl_33 (aQ (f := eTOutcome) (l := (([({ Out := x_31.Out, Seg := x_31.Seg, Lo := (maxG x_31.Lo x_6.Lo), Hi := (minG x_31.Hi x_6.Hi) } : TOutcome)] : List TOutcome))) fun _ => rfl) (by first | rfl | simp) (by first | rfl | simp) (fun he => ?_)
      conv=>whnf
      refine rS (es' := List.map .d (List.map eTOutcome l_33)) (n' := List.length l_33) (by subst he; simp only [List.map_append, List.map_cons, List.map_nil, List.nil_append]; first | done | rfl) (by subst he; simp <;> omega) ?_
      clear he
      conv=>whnf
      refine rg ?_
      conv=>whnf
      refine arS_raw ?_
      conv=>whnf
      refine ⟨((w64 (i_20 + 1)), l_33), h, ?_⟩
      exact Wk.mk2 [0, 1, 2, 3, 4, 8, 6] 9 rfl rfl (by decide) rfl ⟨rr, rr, rr, rr, daS_d rfl, daS_d rfl, daS_d rfl, trivial⟩ ⟨rr, rr, rr, rr, rr, rr, rr, ⟨rfl, (by first | rfl | (simp only [↓hb17, ↓hb28, ↓hb32, bl, List.length_set]; done) | (simp only [↓hb17, ↓hb28, ↓hb32, bl, List.length_set]; rfl))⟩, rr, trivial⟩
     refine Tr.skip ?_
     conv=>whnf
     refine rg ?_
     conv=>whnf
     refine arS_raw ?_
     conv=>whnf
     refine ⟨((w64 (i_20 + 1)), l_21), h, ?_⟩
     exact Wk.mk2 [0, 1, 2, 3, 4, 5, 6] 8 rfl rfl (by decide) rfl ⟨rr, rr, rr, rr, daS_d rfl, daS_d rfl, daS_d rfl, trivial⟩ ⟨rr, rr, rr, rr, rr, rr, rr, rr, rr, trivial⟩
    refine Tr.exit ?_
    conv=>whnf
    cases h
    exact Wk.mk2 [0, 1, 2, 3, 4, 5, 6] 7 rfl rfl (by decide) rfl ⟨rr, rr, rr, rr, daS_d rfl, daS_d rfl, daS_d rfl, trivial⟩ ⟨rr, rr, rr, rr, rr, rr, rr, rr, trivial⟩
   clear hv34
   conv=>whnf
   refine Tr.weak hw ?_
   refine rg ?_
   conv=>whnf
   refine orB_r ?_
   conv=>whnf
   refine frE_of (f := eTOutcome) (l := l_23) rfl ?_
   conv=>whnf
   refine frP_no ?_
   conv=>whnf
   refine eqS_mk (by first | rfl | simp) ?_
   conv=>whnf
   obtain ⟨l_35, hl_35, h⟩ := bS h
   refine apS_of hl_35 (aQ (f := (eL eTOutcome)) (l := (([l_23] : List (List TOutcome)))) fun _ => rfl) (by first | rfl | simp) (by first | rfl | simp) (fun he => ?_)
   conv=>whnf
   refine rS (es' := List.map .d (List.map (eL eTOutcome) l_35)) (n' := List.length l_35) (by subst he; simp only [List.map_append, List.map_cons, List.map_nil, List.nil_append]; first | done | rfl) (by subst he; simp <;> omega) ?_
   clear he
   conv=>whnf
   refine rg ?_
   conv=>whnf
   refine arS_raw ?_
   conv=>whnf
   refine ⟨((w64 (w_10 + 1)), l_35), h, ?_⟩
   exact Wk.mk2 [0, 1, 2, 3, 7, 6] 8 rfl rfl (by decide) rfl ⟨rr, rr, rr, ⟨rfl, (by first | rfl | (simp only [↓hb17, bl, List.length_set]; done) | (simp only [↓hb17, bl, List.length_set]; rfl))⟩, daS_d rfl, daS_d rfl, trivial⟩ ⟨rr, rr, rr, rr, rr, ⟨rfl, (by first | rfl | (simp only [↓hb17, bl, List.length_set]; done) | (simp only [↓hb17, bl, List.length_set]; rfl))⟩, rr, trivial⟩
  refine Tr.exit ?_
  conv=>whnf
  cases h
  exact Wk.mk2 [0, 1, 3, 4, 5] 6 rfl rfl (by decide) rfl ⟨rr, rr, ⟨rfl, (by first | rfl | (simp only [↓hb17, bl, List.length_set]; done) | (simp only [↓hb17, bl, List.length_set]; rfl))⟩, daS_d rfl, daS_d rfl, trivial⟩ ⟨rr, rr, rr, ⟨rfl, (by first | rfl | (simp only [↓hb17, bl, List.length_set]; done) | (simp only [↓hb17, bl, List.length_set]; rfl))⟩, ⟨rfl, (by first | rfl | (simp only [↓hb17, bl, List.length_set]; done) | (simp only [↓hb17, bl, List.length_set]; rfl))⟩, trivial⟩
 clear hv36
 conv=>whnf
 refine Tr.weak hw ?_
 refine sg ?_
 conv=>whnf
 obtain ⟨x_37, hx_37, h⟩ := bS h
 refine ixS_of hx_37 rfl ?_
 conv=>whnf
 refine orB_r ?_
 conv=>whnf
 refine frE_of (f := (eL eTOutcome)) (l := l_13) rfl ?_
 conv=>whnf
 refine elP_of hx_37 ?_
 conv=>whnf
 refine lvS_mk (es' := List.map .d (List.map eTRunner (List.set l_7 (Int.toNat x_2.Runner) ({ Bib := x_37.Bib, Keys := x_37.Keys, Worlds := l_13 } : TRunner)))) (by simp only [Nat.zero_add, List.map_set]; first | done | rfl) ?_
 conv=>whnf
 refine Tr.seq ?_
 refine sg ?_
 conv=>whnf
 refine Tr.cutQ (α := Unit) (fun s => ([(6, .pt 0 0), (7, .d (.b false)), (9, .pt 1 0)], [some (.var [.nsl, .nsl, .nsl, .nsl]), some (.var [.d (.ls (List.map eTSegment f_1.Clocks.Segments)), .d (.ls (List.map (eL eI) f_1.Clocks.Far)), .d (.ls (List.map eTPair f_1.Pairs)), .sl 2 3 0 (List.length (List.set l_7 (Int.toNat x_2.Runner) ({ Bib := x_37.Bib, Keys := x_37.Keys, Worlds := l_13 } : TRunner)))]), some (.arr 3 (List.map .d (List.map eTRunner (List.set l_7 (Int.toNat x_2.Runner) ({ Bib := x_37.Bib, Keys := x_37.Keys, Worlds := l_13 } : TRunner)))))])) (fun s => M218 f_1 x_2 l_7 l_13 x_37 s = some (r_4, r_5)) ?_ ?_
 ·refine Tr.block ?_
  refine Tr.loopM (σ := Int) (fun n s => M217 f_1 x_2 l_7 l_13 x_37 (M218 f_1 x_2 l_7 l_13 x_37) n s) (r_4, r_5) (fun s => ([(6, .pt 0 0), (7, .d (.b false)), (9, .pt 1 0), (15, (dI s))], [some (.var [.nsl, .nsl, .nsl, .nsl]), some (.var [.d (.ls (List.map eTSegment f_1.Clocks.Segments)), .d (.ls (List.map (eL eI) f_1.Clocks.Far)), .d (.ls (List.map eTPair f_1.Pairs)), .sl 2 3 0 (List.length (List.set l_7 (Int.toNat x_2.Runner) ({ Bib := x_37.Bib, Keys := x_37.Keys, Worlds := l_13 } : TRunner)))]), some (.arr 3 (List.map .d (List.map eTRunner (List.set l_7 (Int.toNat x_2.Runner) ({ Bib := x_37.Bib, Keys := x_37.Keys, Worlds := l_13 } : TRunner)))))])) (((((f_1.Pairs).length : Int)) + 1 - 0 : Int).toNat + 1) (0) h (fun s => rfl) (Wk.mk2 [1, 2, 4] 5 rfl rfl (by decide) rfl ⟨rr, ⟨rfl, (by first | rfl | (simp only [List.length_set]; rfl) | simp)⟩, daS_d rfl, trivial⟩ ⟨⟨rfl, (by first | rfl | (simp only [List.length_set]; rfl) | simp)⟩, rr, ⟨rfl, (by first | rfl | (simp only [List.length_set]; rfl) | simp)⟩, rr, trivial⟩) ?_
  clear h
  rintro n_40 w_39 h
  replace h : M217 f_1 x_2 l_7 l_13 x_37 (M218 f_1 x_2 l_7 l_13 x_37) (n_40 + 1) w_39 = some (r_4, r_5) := h
  rw [M217] at h
  refine Tr.seq ?_
  refine sg ?_
  conv=>whnf
  refine lnS_map ?_
  conv=>whnf
  refine Tr.cond ?_
  conv=>whnf
  refine cB h (fun hb43 h => ?_) (fun hb43 h => ?_)
  ·refine Tr.skip ?_
   conv=>whnf
   refine Tr.seq ?_
   refine Tr.block ?_
   refine sg ?_
   conv=>whnf
   obtain ⟨r_44, hc45, h⟩ := bS h
   refine PC.ecall_lend ?_ ⟨_, _, func81, rfl, rfl⟩
   conv=>whnf
   refine frE_of (f := eTRunner) (l := (List.set l_7 (Int.toNat x_2.Runner) ({ Bib := x_37.Bib, Keys := x_37.Keys, Worlds := l_13 } : TRunner))) rfl ?_
   conv=>whnf
   refine ⟨_, P165 (({ Clocks := f_1.Clocks, Pairs := f_1.Pairs, Runners := (List.set l_7 (Int.toNat x_2.Runner) ({ Bib := x_37.Bib, Keys := x_37.Keys, Worlds := l_13 } : TRunner)) } : TField)) w_39 r_44 hc45, fun rs hrs => ?_⟩
   subst hrs
   refine ⟨rfl, ?_⟩
   conv=>whnf
   refine Tr.cond ?_
   conv=>whnf
   refine cB h (fun hb46 h => ?_) (fun hb46 h => ?_)
   ·refine sg ?_
    conv=>whnf
    refine orB_l ?_
    conv=>whnf
    refine Tr.ret ?_
    conv=>whnf
    refine frE_of (f := eTRunner) (l := (List.set l_7 (Int.toNat x_2.Runner) ({ Bib := x_37.Bib, Keys := x_37.Keys, Worlds := l_13 } : TRunner))) rfl ?_
    conv=>whnf
    cases h
    rfl
   refine Tr.skip ?_
   conv=>whnf
   refine rg ?_
   conv=>whnf
   refine arS_raw ?_
   conv=>whnf
   refine ⟨((w64 (w_39 + 1))), h, ?_⟩
   exact Wk.mk2 [0, 1, 2] 3 rfl rfl (by decide) rfl ⟨rr, rr, daS_d rfl, trivial⟩ ⟨rr, rr, rr, rr, trivial⟩
  refine Tr.exit ?_
  conv=>whnf
  refine ⟨(), h, ?_⟩
  exact Wk.mk2 [0, 1, 2] 3 rfl rfl (by decide) rfl ⟨rr, rr, daS_d rfl, trivial⟩ ⟨rr, rr, rr, trivial⟩
 clear h
 rintro _ h T1 H1 hw
 replace h : M218 f_1 x_2 l_7 l_13 x_37 () = some (r_4, r_5) := h
 conv=>whnf
 refine Tr.weak hw ?_
 unfold M218 at h
 refine sg ?_
 conv=>whnf
 refine orB_l ?_
 conv=>whnf
 refine Tr.ret ?_
 conv=>whnf
 refine frE_of (f := eTRunner) (l := (List.set l_7 (Int.toNat x_2.Runner) ({ Bib := x_37.Bib, Keys := x_37.Keys, Worlds := l_13 } : TRunner))) rfl ?_
 conv=>whnf
 cases h
 rfl
theorem P223 (rc_9095 : TQuestion → Int → (List Int) → Int → Int → Bool → Option (Bool × Int × Bool)) (ih_9095 : ∀ (q_1 : TQuestion) (left_2 : Int) (used_3 : List Int) (v_4 : Int) (v_5 : Int) (v_6 : Bool) (r_7 : Bool) (b_8 : Int) (b_9 : Bool), rc_9095 q_1 left_2 used_3 v_4 v_5 v_6 = some (r_7, b_8, b_9) → MC prog 39 [.pt 0 0, .d (eTQuestion q_1), (dI left_2), .d (.ls (List.map eI used_3))] [.var [(dI v_4), (dI v_5), .d (.b v_6)]] (fun rs Bs => rs = [(.b r_7)] ∧ Bs = [.var [(dI v_4), (dI b_8), .d (.b b_9)]])) (q_1 : TQuestion) (left_2 : Int) (used_3 : List Int) (v_4 : Int) (v_5 : Int) (v_6 : Bool) (r_7 : Bool) (b_8 : Int) (b_9 : Bool) (h : M223 rc_9095 q_1 left_2 used_3 v_4 v_5 v_6 = some (r_7, b_8, b_9)) :
    MC prog 39 [.pt 0 0, .d (eTQuestion q_1), (dI left_2), .d (.ls (List.map eI used_3))] [.var [(dI v_4), (dI v_5), .d (.b v_6)]] (fun rs Bs => rs = [(.b r_7)] ∧ Bs = [.var [(dI v_4), (dI b_8), .d (.b b_9)]]) := by
 refine MC.of_tr (cx := ⟨109, none, lay, 1⟩) layOK func39 rfl rfl rfl rfl rfl (by simp [f39]) ?_
 refine Tr.unW ?_
 unfold M223 at h
 refine sg ?_
 conv=>whnf
 refine Tr.seq ?_
 refine sd [] [(0,1),(1,3),(2,3),(3,3),(4,1),(5,3),(6,3),(7,3),(8,1)] ?_
 conv=>whnf
 refine q1 ?_
 conv=>whnf
 refine q2 ?_
 conv=>whnf
 refine q2 ?_
 conv=>whnf
 refine q2 ?_
 conv=>whnf
 refine q1 ?_
 conv=>whnf
 refine q2 ?_
 conv=>whnf
 refine q2 ?_
 conv=>whnf
 refine q2 ?_
 conv=>whnf
 refine q1 ?_
 conv=>whnf
 refine Tr.cond ?_
 conv=>whnf
 refine cB h (fun hb10 h => ?_) (fun hb10 h => ?_)
 ·refine rg ?_
  conv=>whnf
  refine Tr.seq ?_
  refine sg ?_
  conv=>whnf
  refine Tr.cond ?_
  conv=>whnf
  refine sg ?_
  conv=>whnf
  refine Tr.ret ?_
  conv=>whnf
  refine endH ?_
  conv=>whnf
  cases h
  exact endB rfl rfl rfl ⟨rfl, trivial⟩
 refine Tr.skip ?_
 conv=>whnf
 refine Tr.seq ?_
 refine sg ?_
 conv=>whnf
 refine Tr.cond ?_
 conv=>whnf
 refine cB h (fun hb11 h => ?_) (fun hb11 h => ?_)
 ·refine sg ?_
  conv=>whnf
  refine Tr.ret ?_
  conv=>whnf
  refine endH ?_
  conv=>whnf
  cases h
  exact endB rfl rfl rfl ⟨rfl, trivial⟩
 refine Tr.skip ?_
 conv=>whnf
 refine sg ?_
 conv=>whnf
 refine arS_raw ?_
 conv=>whnf
 refine Tr.seq ?_
 refine sg ?_
 conv=>whnf
 obtain ⟨r_12, hc13, h⟩ := bS h
 refine PC.ecall (P211 q_1 r_12 hc13) (fun rs hrs => ?_)
 subst hrs
 conv=>whnf
 refine Tr.cond ?_
 conv=>whnf
 refine cB h (fun hb14 h => ?_) (fun hb14 h => ?_)
 ·refine sg ?_
  conv=>whnf
  refine Tr.ret ?_
  conv=>whnf
  refine endH ?_
  conv=>whnf
  cases h
  exact endB rfl rfl rfl ⟨rfl, trivial⟩
 refine Tr.skip ?_
 conv=>whnf
 refine Tr.seq ?_
 refine sg ?_
 conv=>whnf
 refine Tr.cond ?_
 conv=>whnf
 refine cB h (fun hb15 h => ?_) (fun hb15 h => ?_)
 ·refine sg ?_
  conv=>whnf
  refine Tr.ret ?_
  conv=>whnf
  refine endH ?_
  conv=>whnf
  cases h
  exact endB rfl rfl rfl ⟨rfl, trivial⟩
 refine Tr.skip ?_
 conv=>whnf
 refine Tr.seq ?_
 refine sg ?_
 conv=>whnf
 refine Tr.cutQ (α := Int × Bool) (fun s => ([(8, .d (.b false))], [some (.var [(dI v_4), (dI s.1), .d (.b s.2)])])) (fun s => M222 s.1 s.2 = some (r_7, b_8, b_9)) ?_ ?_
 ·refine Tr.block ?_
  refine Tr.loopM (σ := Int × Int × Bool) (fun n s => M221 q_1 left_2 used_3 v_4 rc_9095 M222 n s.1 s.2.1 s.2.2) (r_7, b_8, b_9) (fun s => ([(0, .pt 0 0), (2, (dI left_2)), (3, .d (.ls (List.map eI used_3))), (5, .pt 1 0), (8, .d (.b false)), (9, (dI s.1))], [some (.var [(dI v_4), (dI s.2.1), .d (.b s.2.2)]), some (.var [.d (.ls (List.map eTSegment q_1.Field.Clocks.Segments)), .d (.ls (List.map (eL eI) q_1.Field.Clocks.Far)), .d (.ls (List.map eTPair q_1.Field.Pairs)), .d (.ls (List.map eTRunner q_1.Field.Runners)), (dI q_1.Runner), .d (.ls (List.map eTLook q_1.Looks))])])) (((((q_1.Looks).length : Int)) - 0 : Int).toNat + 1) (0, (w64 (v_5 + 1)), v_6) h (fun s => rfl) (Wk.mk2 [0, 1] 2 rfl rfl (by decide) rfl ⟨rr, rr, trivial⟩ ⟨rr, rr, rr, rr, rr, rr, trivial⟩) ?_
  clear h
  rintro n_22 ⟨i_19, v_20, v_21⟩ h
  replace h : M221 q_1 left_2 used_3 v_4 rc_9095 M222 (n_22 + 1) i_19 v_20 v_21 = some (r_7, b_8, b_9) := h
  rw [M221] at h
  refine Tr.seq ?_
  refine sg ?_
  conv=>whnf
  refine lnS_map ?_
  conv=>whnf
  refine cB h (fun hb27 h => ?_) (fun hb27 h => ?_)
  ·conv=>whnf
   refine Tr.cond ?_
   conv=>whnf
   refine cB h (fun hb28 h => ?_) (fun hb28 h => ?_)
   ·refine Tr.skip ?_
    conv=>whnf
    refine Tr.seq ?_
    refine Tr.block ?_
    refine Tr.seq ?_
    refine sg ?_
    conv=>whnf
    obtain ⟨r_29, hc30, h⟩ := bS h
    refine PC.ecall (P214 used_3 i_19 r_29 hc30) (fun rs hrs => ?_)
    subst hrs
    conv=>whnf
    refine Tr.cond ?_
    conv=>whnf
    refine cB h (fun hb31 h => ?_) (fun hb31 h => ?_)
    ·refine Tr.exit ?_
     conv=>whnf
     refine rg ?_
     conv=>whnf
     refine arS_raw ?_
     conv=>whnf
     refine ⟨((w64 (i_19 + 1)), v_20, v_21), h, ?_⟩
     exact Wk.mk2 [0, 1] 2 rfl rfl (by decide) rfl ⟨rr, rr, trivial⟩ ⟨rr, rr, rr, rr, rr, rr, trivial⟩
    refine Tr.skip ?_
    conv=>whnf
    refine sg ?_
    conv=>whnf
    refine Tr.seq ?_
    refine sg ?_
    conv=>whnf
    obtain ⟨⟨all_41, v_42, v_43⟩, hv60, h⟩ := bS h
    refine Tr.cutQ1 ([(0, .pt 0 0), (2, (dI left_2)), (3, .d (.ls (List.map eI used_3))), (5, .pt 1 0), (8, .d (.b false)), (9, (dI i_19)), (10, .d (.b all_41))]) ([some (.var [(dI v_4), (dI v_42), .d (.b v_43)]), some (.var [.d (.ls (List.map eTSegment q_1.Field.Clocks.Segments)), .d (.ls (List.map (eL eI) q_1.Field.Clocks.Far)), .d (.ls (List.map eTPair q_1.Field.Pairs)), .d (.ls (List.map eTRunner q_1.Field.Runners)), (dI q_1.Runner), .d (.ls (List.map eTLook q_1.Looks))])]) ?_ (fun T1 H1 hw => ?_)
    ·replace h := hv60; clear hv60
     refine Tr.block ?_
     refine Tr.loopM (σ := Bool × Int × Int × Bool) (fun n s => M220 q_1 left_2 used_3 v_4 i_19 rc_9095 n s.1 s.2.1 s.2.2.1 s.2.2.2) (all_41, v_42, v_43) (fun s => ([(0, .pt 0 0), (2, (dI left_2)), (3, .d (.ls (List.map eI used_3))), (5, .pt 1 0), (8, .d (.b false)), (9, (dI i_19)), (10, .d (.b s.1)), (11, (dI s.2.1))], [some (.var [(dI v_4), (dI s.2.2.1), .d (.b s.2.2.2)]), some (.var [.d (.ls (List.map eTSegment q_1.Field.Clocks.Segments)), .d (.ls (List.map (eL eI) q_1.Field.Clocks.Far)), .d (.ls (List.map eTPair q_1.Field.Pairs)), .d (.ls (List.map eTRunner q_1.Field.Runners)), (dI q_1.Runner), .d (.ls (List.map eTLook q_1.Looks))])])) ((((((Option.getD (idx q_1.Looks i_19) default).Answers).length : Int)) - 0 : Int).toNat + 1) (true, 0, v_20, v_21) h (fun s => rfl) (Wk.mk2 [0, 1] 2 rfl rfl (by decide) rfl ⟨rr, rr, trivial⟩ ⟨rr, rr, rr, rr, rr, rr, rr, rr, trivial⟩) ?_
     clear h
     rintro n_40 ⟨all_36, k_37, v_38, v_39⟩ h
     replace h : M220 q_1 left_2 used_3 v_4 i_19 rc_9095 (n_40 + 1) all_36 k_37 v_38 v_39 = some (all_41, v_42, v_43) := h
     rw [M220] at h
     refine Tr.seq ?_
     refine sg ?_
     conv=>whnf
     obtain ⟨x_46, hx_46, h⟩ := bS h
     refine ixP_of hx_46 ?_
     conv=>whnf
     refine lnS_map ?_
     conv=>whnf
     refine cB h (fun hb47 h => ?_) (fun hb47 h => ?_)
     ·conv=>whnf
      refine Tr.cond ?_
      conv=>whnf
      refine cB h (fun hb48 h => ?_) (fun hb48 h => ?_)
      ·refine Tr.skip ?_
       conv=>whnf
       refine Tr.seq ?_
       refine Tr.block ?_
       refine sd [(13,2)] [(0,4),(1,4),(2,4),(3,4),(4,1),(5,2),(6,2),(7,1),(8,1),(9,1),(10,1),(11,1),(12,0),(13,0),(14,1)] ?_
       conv=>whnf
       refine q2 ?_
       conv=>whnf
       refine q2 ?_
       conv=>whnf
       refine q2 ?_
       conv=>whnf
       refine q2 ?_
       conv=>whnf
       refine q1 ?_
       conv=>whnf
       obtain ⟨x_49, hx_49, h⟩ := bS h
       refine q3 (ixP_of hx_49 rr) ?_
       conv=>whnf
       refine q2 ?_
       conv=>whnf
       refine q1 ?_
       conv=>whnf
       obtain ⟨⟨r_50, r_51⟩, hc52, h⟩ := bS h
       refine q1 ?_ (fun _ => pe (P219 q_1.Field x_49 k_37 r_50 r_51 hc52) rr)
       conv=>whnf
       refine q1 ?_
       conv=>whnf
       refine q1 ?_
       conv=>whnf
       refine q1 ?_
       conv=>whnf
       refine ⟨_, _, rr, kp_ok (by repeat (first | exact trivial | refine ⟨trivial, ?_⟩ | refine ⟨rfl, ?_⟩)), ?_⟩
       conv=>whnf
       refine ⟨_, _, rr, kp_ok (by repeat (first | exact trivial | refine ⟨trivial, ?_⟩ | refine ⟨rfl, ?_⟩)), ?_⟩
       conv=>whnf
       refine q1 ?_
       conv=>whnf
       refine Tr.seq ?_
       refine sg ?_
       conv=>whnf
       refine Tr.cond ?_
       conv=>whnf
       refine cB h (fun hb53 h => ?_) (fun hb53 h => ?_)
       ·refine Tr.exit ?_
        conv=>whnf
        refine rg ?_
        conv=>whnf
        refine arS_raw ?_
        conv=>whnf
        refine ⟨(all_36, (w64 (k_37 + 1)), v_38, v_39), h, ?_⟩
        exact Wk.mk2 [0, 1] 3 rfl rfl (by decide) rfl ⟨rr, rr, trivial⟩ ⟨rr, rr, rr, rr, rr, rr, rr, rr, trivial⟩
       refine Tr.skip ?_
       conv=>whnf
       refine sg ?_
       conv=>whnf
       refine sg ?_
       conv=>whnf
       refine dq [(6,4),(9,5),(10,0),(10,6)] [(0,1),(1,6),(2,1),(3,1),(5,1),(7,1),(8,1),(4,0),(6,0),(9,0),(10,0),(11,1)] ?_
       conv=>whnf
       refine q1 ?_
       conv=>whnf
       refine q2 ?_
       conv=>whnf
       refine q1 ?_
       conv=>whnf
       refine q4 ?_
       conv=>whnf
       refine q1 ?_
       conv=>whnf
       refine q1 ?_
       conv=>whnf
       refine q1 ?_ (fun _ => orB_r rr)
       conv=>whnf
       refine ⟨_, _, (by (conv=>whnf); (refine orB_l ?_); (conv=>whnf); (exact rr)), kp_ok (by repeat (first | exact trivial | refine ⟨trivial, ?_⟩ | refine ⟨rfl, ?_⟩)), ?_⟩
       conv=>whnf
       obtain ⟨l_54, hl_54, h⟩ := bS h
       refine ⟨_, _, (by (conv=>whnf); (refine frP_no ?_); (conv=>whnf); (refine eqS_mk (by first | rfl | simp) ?_); (conv=>whnf); (refine apS_of hl_54 (aQ (f := eI) (l := used_3) fun _ => rfl) (by first | rfl | simp) (by first | rfl | simp) (fun he => ?_)); (conv=>whnf); (refine rS (es' := List.map .d (List.map eI l_54)) (n' := List.length l_54) (by subst he; simp only [List.map_append, List.map_cons, List.map_nil, List.nil_append]; first | done | rfl) (by subst he; simp <;> omega) ?_); (clear he); (conv=>whnf); (exact rr)), kp_ok (by repeat (first | exact trivial | refine ⟨trivial, ?_⟩ | refine ⟨rfl, ?_⟩)), ?_⟩
       conv=>whnf
       obtain ⟨l_55, hl_55, h⟩ := bS h
       refine ⟨_, _, (by (conv=>whnf); (refine frP_no ?_); (conv=>whnf); (refine eqS_mk (by first | rfl | simp) ?_); (conv=>whnf); (refine apS_of hl_55 (aQ (f := eI) (l := (([i_19] : List Int))) fun _ => rfl) (by first | rfl | simp) (by first | rfl | simp) (fun he => ?_)); (conv=>whnf); (refine rS (es' := List.map .d (List.map eI l_55)) (n' := List.length l_55) (by subst he; simp only [List.map_append, List.map_cons, List.map_nil, List.nil_append]; first | done | rfl) (by subst he; simp <;> omega) ?_); (clear he); (conv=>whnf); (exact rr)), kp_ok (by repeat (first | exact trivial | refine ⟨trivial, ?_⟩ | refine ⟨rfl, ?_⟩)), ?_⟩
       conv=>whnf
       obtain ⟨⟨r_56, b_57, b_58⟩, hc59, h⟩ := bS h
       refine ⟨_, _, (by (conv=>whnf); (refine ECall.frzAt 3 ⟨_, _, func39, rfl, rfl⟩ ?_); (conv=>whnf); (refine frE_of (f := eI) (l := l_55) rfl ?_); (conv=>whnf); (refine MC.ecall (ih_9095 ({ Field := r_50, Runner := q_1.Runner, Looks := q_1.Looks } : TQuestion) ((w64 (left_2 - 1))) l_55 v_4 v_38 v_39 r_56 b_57 b_58 hc59) [0] (by decide) rfl rfl ?_ (fun rs Bs1 hrs => ?_)); (· exact ⟨⟨rfl, rfl⟩, trivial⟩); (obtain ⟨rfl, rfl⟩ := hrs); (conv=>whnf); (exact rr)), kp_ok (by repeat (first | exact trivial | refine ⟨trivial, ?_⟩ | refine ⟨rfl, ?_⟩)), ?_⟩
       conv=>whnf
       refine q1 ?_
       conv=>whnf
       refine rg ?_
       conv=>whnf
       refine arS_raw ?_
       conv=>whnf
       refine ⟨(r_56, (w64 (k_37 + 1)), b_57, b_58), h, ?_⟩
       exact Wk.mk2 [0, 1] 7 rfl rfl (by decide) rfl ⟨rr, rr, trivial⟩ ⟨rr, rr, rr, rr, rr, rr, rr, rr, trivial⟩
      refine Tr.exit ?_
      conv=>whnf
      cases h
      exact Wk.mk2 [0, 1] 2 rfl rfl (by decide) rfl ⟨rr, rr, trivial⟩ ⟨rr, rr, rr, rr, rr, rr, rr, trivial⟩
     conv=>whnf
     refine Tr.cond ?_
     conv=>whnf
     refine Tr.exit ?_
     conv=>whnf
     cases h
     exact Wk.mk2 [0, 1] 2 rfl rfl (by decide) rfl ⟨rr, rr, trivial⟩ ⟨rr, rr, rr, rr, rr, rr, rr, trivial⟩
    clear hv60
    conv=>whnf
    refine Tr.weak hw ?_
    refine sg ?_
    conv=>whnf
    refine cB h (fun hb61 h => ?_) (fun hb61 h => ?_)
    ·conv=>whnf
     refine Tr.cond ?_
     conv=>whnf
     refine cB h (fun hb62 h => ?_) (fun hb62 h => ?_)
     ·refine sg ?_
      conv=>whnf
      refine Tr.ret ?_
      conv=>whnf
      refine endH ?_
      conv=>whnf
      cases h
      exact endB rfl rfl rfl ⟨rfl, trivial⟩
     refine Tr.skip ?_
     conv=>whnf
     refine rg ?_
     conv=>whnf
     refine arS_raw ?_
     conv=>whnf
     refine ⟨((w64 (i_19 + 1)), v_42, v_43), h, ?_⟩
     exact Wk.mk2 [0, 1] 2 rfl rfl (by decide) rfl ⟨rr, rr, trivial⟩ ⟨rr, rr, rr, rr, rr, rr, trivial⟩
    conv=>whnf
    refine Tr.cond ?_
    conv=>whnf
    refine Tr.skip ?_
    conv=>whnf
    refine rg ?_
    conv=>whnf
    refine arS_raw ?_
    conv=>whnf
    refine ⟨((w64 (i_19 + 1)), v_42, v_43), h, ?_⟩
    exact Wk.mk2 [0, 1] 2 rfl rfl (by decide) rfl ⟨rr, rr, trivial⟩ ⟨rr, rr, rr, rr, rr, rr, trivial⟩
   refine Tr.exit ?_
   conv=>whnf
   refine ⟨(v_20, v_21), h, ?_⟩
   exact Wk.mk2 [0] 2 rfl rfl (by decide) rfl ⟨rr, trivial⟩ ⟨rr, trivial⟩
  conv=>whnf
  refine Tr.cond ?_
  conv=>whnf
  refine Tr.exit ?_
  conv=>whnf
  refine ⟨(v_20, v_21), h, ?_⟩
  exact Wk.mk2 [0] 2 rfl rfl (by decide) rfl ⟨rr, trivial⟩ ⟨rr, trivial⟩
 clear h
 rintro ⟨v_23, v_24⟩ h T1 H1 hw
 replace h : M222 v_23 v_24 = some (r_7, b_8, b_9) := h
 conv=>whnf
 refine Tr.weak hw ?_
 unfold M222 at h
 refine sg ?_
 conv=>whnf
 refine Tr.ret ?_
 conv=>whnf
 refine endH ?_
 conv=>whnf
 cases h
 exact endB rfl rfl rfl ⟨rfl, trivial⟩
theorem P224 (n : Nat) : ∀ (q_1 : TQuestion) (left_2 : Int) (used_3 : List Int) (v_4 : Int) (v_5 : Int) (v_6 : Bool) (r_7 : Bool) (b_8 : Int) (b_9 : Bool), M224 n q_1 left_2 used_3 v_4 v_5 v_6 = some (r_7, b_8, b_9) → MC prog 39 [.pt 0 0, .d (eTQuestion q_1), (dI left_2), .d (.ls (List.map eI used_3))] [.var [(dI v_4), (dI v_5), .d (.b v_6)]] (fun rs Bs => rs = [(.b r_7)] ∧ Bs = [.var [(dI v_4), (dI b_8), .d (.b b_9)]]) := by
  induction n with
  | zero =>
    intros
    rename_i h
    cases h
  | succ n ih => exact P223 (M224 n) ih
theorem P225 (q_1 : TQuestion) (looks_2 : Int) (budget_3 : Int) (r_4 : Bool) (r_5 : Int) (h : M225 q_1 looks_2 budget_3 = some (r_4, r_5)) :
    PC prog 20 [(eTQuestion q_1), (.i .i64 looks_2), (.i .i64 budget_3)] (fun rs => rs = [(.b r_4), (.i .i64 r_5)]) := by
 refine PC.of_tr (cx := ⟨39, none, lay, 0⟩) layOK func20 rfl rfl rfl rfl rfl (by simp [f20]) ?_
 unfold M225 at h
 refine sg ?_
 conv=>whnf
 refine Tr.seq ?_
 refine sg ?_
 conv=>whnf
 obtain ⟨r_6, hc7, h⟩ := bS h
 refine PC.ecall (P190 q_1 r_6 hc7) (fun rs hrs => ?_)
 subst hrs
 conv=>whnf
 refine Tr.cond ?_
 conv=>whnf
 refine cB h (fun hb8 h => ?_) (fun hb8 h => ?_)
 ·refine sg ?_
  conv=>whnf
  refine Tr.ret ?_
  conv=>whnf
  cases h
  rfl
 refine Tr.skip ?_
 conv=>whnf
 refine Tr.seq ?_
 refine Tr.seq ?_
 refine Tr.cutQ1 ([(1, (dI looks_2)), (2, (dI budget_3)), (3, .pt 0 0), (6, .d (.b false)), (7, (dI 0)), (26, .d (.b ((decide (looks_2 < 0)) || ((decide (looks_2 > 6)) || ((decide (budget_3 < 0)) || (decide (budget_3 > 1073741824)))))))]) ([some (.var [.d (.ls (List.map eTSegment q_1.Field.Clocks.Segments)), .d (.ls (List.map (eL eI) q_1.Field.Clocks.Far)), .d (.ls (List.map eTPair q_1.Field.Pairs)), .d (.ls (List.map eTRunner q_1.Field.Runners)), (dI q_1.Runner), .d (.ls (List.map eTLook q_1.Looks))])]) ?_ (fun T1 H1 hw => ?_)
 ·refine rg ?_
  conv=>whnf
  refine condS_mk (fun hb10 => ?_) (fun hb10 => ?_)
  ·conv=>whnf
   exact Wk.mk2 [0] 1 rfl rfl (by decide) rfl ⟨rr, trivial⟩ ⟨rr, rr, rr, rr, rr, ⟨rfl, (by first | rfl | (simp only [↓hb8, ↓hb10, bl, List.length_set]; done) | (simp only [↓hb8, ↓hb10, bl, List.length_set]; rfl))⟩, trivial⟩
  conv=>whnf
  refine condS_mk (fun hb11 => ?_) (fun hb11 => ?_)
  ·conv=>whnf
   exact Wk.mk2 [0] 1 rfl rfl (by decide) rfl ⟨rr, trivial⟩ ⟨rr, rr, rr, rr, rr, ⟨rfl, (by first | rfl | (simp only [↓hb8, ↓hb10, ↓hb11, bl, List.length_set]; done) | (simp only [↓hb8, ↓hb10, ↓hb11, bl, List.length_set]; rfl))⟩, trivial⟩
  conv=>whnf
  refine condS_mk (fun hb12 => ?_) (fun hb12 => ?_)
  ·conv=>whnf
   exact Wk.mk2 [0] 1 rfl rfl (by decide) rfl ⟨rr, trivial⟩ ⟨rr, rr, rr, rr, rr, ⟨rfl, (by first | rfl | (simp only [↓hb8, ↓hb10, ↓hb11, ↓hb12, bl, List.length_set]; done) | (simp only [↓hb8, ↓hb10, ↓hb11, ↓hb12, bl, List.length_set]; rfl))⟩, trivial⟩
  conv=>whnf
  exact Wk.mk2 [0] 1 rfl rfl (by decide) rfl ⟨rr, trivial⟩ ⟨rr, rr, rr, rr, rr, ⟨rfl, (by first | rfl | (simp only [↓hb8, ↓hb10, ↓hb11, ↓hb12, bl, List.length_set]; done) | (simp only [↓hb8, ↓hb10, ↓hb11, ↓hb12, bl, List.length_set]; rfl))⟩, trivial⟩
 conv=>whnf
 refine Tr.weak hw ?_
 refine Tr.cond ?_
 conv=>whnf
 refine cB h (fun hb13 h => ?_) (fun hb13 h => ?_)
 ·refine sg ?_
  conv=>whnf
  refine Tr.ret ?_
  conv=>whnf
  cases h
  rfl
 refine Tr.skip ?_
 conv=>whnf
 refine sg ?_
 conv=>whnf
 refine sg ?_
 conv=>whnf
 refine ECall.frzAt 3 ⟨_, _, func39, rfl, rfl⟩ ?_
 conv=>whnf
 obtain ⟨⟨r_14, b_15, b_16⟩, hc17, h⟩ := bS h
 refine MC.ecall (P224 1000 q_1 looks_2 ((([] : List Int))) budget_3 0 false r_14 b_15 b_16 hc17) [1] (by decide) rfl rfl ?_ (fun rs Bs1 hrs => ?_)
 · exact ⟨⟨rfl, rfl⟩, trivial⟩
 obtain ⟨rfl, rfl⟩ := hrs
 conv=>whnf
 refine Tr.seq ?_
 refine sg ?_
 conv=>whnf
 refine Tr.cond ?_
 conv=>whnf
 refine cB h (fun hb18 h => ?_) (fun hb18 h => ?_)
 ·refine sg ?_
  conv=>whnf
  refine Tr.ret ?_
  conv=>whnf
  cases h
  rfl
 refine Tr.skip ?_
 conv=>whnf
 refine sg ?_
 conv=>whnf
 refine Tr.ret ?_
 conv=>whnf
 cases h
 rfl
theorem P226 (q_1 : TQuestion) (n_2 : Int) (budget_3 : Int) (r_4 : Bool) (h : M226 q_1 n_2 budget_3 = some r_4) :
    PC prog 5 [(eTQuestion q_1), (.i .i64 n_2), (.i .i64 budget_3)] (fun rs => rs = [(.b r_4)]) := by
 refine PC.of_tr (cx := ⟨45, none, lay, 0⟩) layOK func5 rfl rfl rfl rfl rfl (by simp [f5]) ?_
 unfold M226 at h
 refine sg ?_
 conv=>whnf
 refine Tr.seq ?_
 refine sg ?_
 conv=>whnf
 obtain ⟨r_5, hc6, h⟩ := bS h
 refine PC.ecall (P131 r_5 hc6) (fun rs hrs => ?_)
 subst hrs
 conv=>whnf
 refine Tr.cond ?_
 conv=>whnf
 refine cB h (fun hb7 h => ?_) (fun hb7 h => ?_)
 ·refine sg ?_
  conv=>whnf
  refine Tr.ret ?_
  conv=>whnf
  cases h
  rfl
 refine Tr.skip ?_
 conv=>whnf
 refine Tr.seq ?_
 refine sg ?_
 conv=>whnf
 obtain ⟨r_8, hc9, h⟩ := bS h
 refine PC.ecall_lend ?_ ⟨_, _, func12, rfl, rfl⟩
 conv=>whnf
 refine ⟨_, P144 q_1 (({ Look := 0, After := (([] : List TPlan0)) } : TPlan)) r_8 hc9, fun rs hrs => ?_⟩
 subst hrs
 refine ⟨rfl, ?_⟩
 conv=>whnf
 refine Tr.cond ?_
 conv=>whnf
 refine cB h (fun hb10 h => ?_) (fun hb10 h => ?_)
 ·refine sg ?_
  conv=>whnf
  refine Tr.ret ?_
  conv=>whnf
  cases h
  rfl
 refine Tr.skip ?_
 conv=>whnf
 refine Tr.seq ?_
 refine sg ?_
 conv=>whnf
 refine cB h (fun hb11 h => ?_) (fun hb11 h => ?_)
 ·conv=>whnf
  refine Tr.cond ?_
  conv=>whnf
  refine cB h (fun hb12 h => ?_) (fun hb12 h => ?_)
  ·refine rg ?_
   conv=>whnf
   refine sg ?_
   conv=>whnf
   obtain ⟨⟨r_13, r_14⟩, hc15, h⟩ := bS h
   refine PC.ecall (P122 q_1 n_2 200 r_13 r_14 hc15) (fun rs hrs => ?_)
   subst hrs
   conv=>whnf
   refine sg ?_
   conv=>whnf
   obtain ⟨⟨r_16, r_17⟩, hc18, h⟩ := bS h
   refine PC.ecall (P225 q_1 n_2 200 r_16 r_17 hc18) (fun rs hrs => ?_)
   subst hrs
   conv=>whnf
   refine sg ?_
   conv=>whnf
   refine cB h (fun hb19 h => ?_) (fun hb19 h => ?_)
   ·conv=>whnf
    refine Tr.ret ?_
    conv=>whnf
    cases h
    rfl
   conv=>whnf
   refine Tr.ret ?_
   conv=>whnf
   cases h
   rfl
  refine Tr.skip ?_
  conv=>whnf
  refine sg ?_
  conv=>whnf
  obtain ⟨⟨r_20, r_21⟩, hc22, h⟩ := bS h
  refine PC.ecall (P122 q_1 n_2 budget_3 r_20 r_21 hc22) (fun rs hrs => ?_)
  subst hrs
  conv=>whnf
  refine sg ?_
  conv=>whnf
  obtain ⟨⟨r_23, r_24⟩, hc25, h⟩ := bS h
  refine PC.ecall (P225 q_1 n_2 budget_3 r_23 r_24 hc25) (fun rs hrs => ?_)
  subst hrs
  conv=>whnf
  refine sg ?_
  conv=>whnf
  refine cB h (fun hb26 h => ?_) (fun hb26 h => ?_)
  ·conv=>whnf
   refine Tr.ret ?_
   conv=>whnf
   cases h
   rfl
  conv=>whnf
  refine Tr.ret ?_
  conv=>whnf
  cases h
  rfl
 conv=>whnf
 refine Tr.cond ?_
 conv=>whnf
 refine Tr.skip ?_
 conv=>whnf
 refine sg ?_
 conv=>whnf
 obtain ⟨⟨r_27, r_28⟩, hc29, h⟩ := bS h
 refine PC.ecall (P122 q_1 n_2 budget_3 r_27 r_28 hc29) (fun rs hrs => ?_)
 subst hrs
 conv=>whnf
 refine sg ?_
 conv=>whnf
 obtain ⟨⟨r_30, r_31⟩, hc32, h⟩ := bS h
 refine PC.ecall (P225 q_1 n_2 budget_3 r_30 r_31 hc32) (fun rs hrs => ?_)
 subst hrs
 conv=>whnf
 refine sg ?_
 conv=>whnf
 refine cB h (fun hb33 h => ?_) (fun hb33 h => ?_)
 ·conv=>whnf
  refine Tr.ret ?_
  conv=>whnf
  cases h
  rfl
 conv=>whnf
 refine Tr.ret ?_
 conv=>whnf
 cases h
 rfl
end Go.Proofs.Try
