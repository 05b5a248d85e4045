/- Contracts of functions, by program (gen.py). No condition. -/
import Derived.Test.YthandbiapckgkaaZL
import Derived.Test.YthandbiapckgkaaZM
import Derived.Test.YthandbiapckgkaaZCB
import Derived.Test.YthandbiapckgkaaZS4
namespace Go.Proofs.Try
open Go Go.Abs Go.Stop
set_option maxRecDepth 8000
set_option linter.unusedVariables false
set_option linter.unusedSimpArgs false
theorem P138 (f_1:TField) (r_2:Int) (h:M138 f_1=some r_2) :
    PC prog 15 [(eTField f_1)] (fun rs=>rs=[(.i .i64 r_2)]):=by
 refine PC.of_tr (cx:=⟨182,none,lay,0⟩) layOK func15 rfl rfl rfl rfl rfl (by simp [f15]) ?_
 unfold M138 at h
 refine sg ?_
 conv=>whnf
 refine Tr.seq ?_
 refine Tr.seq ?_
 obtain ⟨v_3,hv4,h⟩:=bS h
 refine Tr.cutQ1 ([(1,.pt 0 0),(2,(dI 0)),(30,.d (.b v_3))]) ([some (.var [.d (.ls (List.map eTSegment f_1.Clocks.Segments)),.d (.ls (List.map (eL eI) f_1.Clocks.Far)),.d (.ls (List.map eTPair f_1.Pairs)),.d (.ls (List.map eTRunner f_1.Runners))])]) ?_ (fun T1 H1 hw=>?_)
 ·replace h:=hv4; clear hv4
  refine rg ?_
  conv=>whnf
  obtain ⟨r_5,hc6,h⟩:=bS h
  refine PC.ecall (P120 f_1.Clocks r_5 hc6) (fun rs hrs=>?_)
  subst hrs
  conv=>whnf
  refine cB h (fun hb7 h=>?_) (fun hb7 h=>?_)
  ·conv=>whnf
   cases h
   exact Wk.mk2 [0] 1 rfl rfl (by decide) rfl ⟨rr,trivial⟩ ⟨rr,rr,rr,trivial⟩
  conv=>whnf
  refine lnS_map ?_
  conv=>whnf
  refine cB h (fun hb8 h=>?_) (fun hb8 h=>?_)
  ·conv=>whnf
   cases h
   exact Wk.mk2 [0] 1 rfl rfl (by decide) rfl ⟨rr,trivial⟩ ⟨rr,rr,rr,trivial⟩
  conv=>whnf
  refine lnS_map ?_
  conv=>whnf
  refine cB h (fun hb9 h=>?_) (fun hb9 h=>?_)
  ·conv=>whnf
   cases h
   exact Wk.mk2 [0] 1 rfl rfl (by decide) rfl ⟨rr,trivial⟩ ⟨rr,rr,rr,trivial⟩
  conv=>whnf
  refine lnS_map ?_
  conv=>whnf
  cases h
  exact Wk.mk2 [0] 1 rfl rfl (by decide) rfl ⟨rr,trivial⟩ ⟨rr,rr,rr,trivial⟩
 clear hv4
 conv=>whnf
 refine Tr.weak hw ?_
 refine Tr.cond ?_
 conv=>whnf
 refine cB h (fun hb10 h=>?_) (fun hb10 h=>?_)
 ·refine sg ?_
  conv=>whnf
  refine Tr.ret ?_
  conv=>whnf
  cases h
  rfl
 refine Tr.skip ?_
 conv=>whnf
 refine Tr.seq ?_
 refine sg ?_
 conv=>whnf
 refine Tr.cutQ (α:=Unit) (fun s=>([(1,.pt 0 0),(2,(dI 0))],[some (.var [.d (.ls (List.map eTSegment f_1.Clocks.Segments)),.d (.ls (List.map (eL eI) f_1.Clocks.Far)),.d (.ls (List.map eTPair f_1.Pairs)),.d (.ls (List.map eTRunner f_1.Runners))])])) (fun s=>M137 f_1 s=some r_2) ?_ ?_
 ·refine Tr.block ?_
  refine Tr.loopM (σ:=Int) (fun n s=>M130 f_1 (M137 f_1) n s) r_2 (fun s=>([(1,.pt 0 0),(2,(dI 0)),(3,(dI s))],[some (.var [.d (.ls (List.map eTSegment f_1.Clocks.Segments)),.d (.ls (List.map (eL eI) f_1.Clocks.Far)),.d (.ls (List.map eTPair f_1.Pairs)),.d (.ls (List.map eTRunner f_1.Runners))])])) (((((f_1.Pairs).length:Int)) - 0:Int).toNat+1) (0) h (fun s=>rfl) (Wk.mk2 [0] 1 rfl rfl (by decide) rfl ⟨rr,trivial⟩ ⟨rr,rr,rr,trivial⟩) ?_
  clear h
  rintro n_13 i_12 h
  replace h:M130 f_1 (M137 f_1) (n_13+1) i_12=some r_2:=h
  rw [M130] at h
  refine Tr.seq ?_
  refine sg ?_
  conv=>whnf
  refine lnS_map ?_
  conv=>whnf
  refine Tr.cond ?_
  conv=>whnf
  refine cB h (fun hb16 h=>?_) (fun hb16 h=>?_)
  ·refine Tr.skip ?_
   conv=>whnf
   refine Tr.seq ?_
   refine Tr.block ?_
   refine sg ?_
   conv=>whnf
   obtain ⟨x_17,hx_17,h⟩:=bS h
   refine ixP_of hx_17 ?_
   conv=>whnf
   refine Tr.seq ?_
   refine sg ?_
   conv=>whnf
   refine cB h (fun hb18 h=>?_) (fun hb18 h=>?_)
   ·conv=>whnf
    refine Tr.cond ?_
    conv=>whnf
    refine sg ?_
    conv=>whnf
    refine Tr.ret ?_
    conv=>whnf
    cases h
    rfl
   conv=>whnf
   refine cB h (fun hb19 h=>?_) (fun hb19 h=>?_)
   ·conv=>whnf
    refine Tr.cond ?_
    conv=>whnf
    refine sg ?_
    conv=>whnf
    refine Tr.ret ?_
    conv=>whnf
    cases h
    rfl
   conv=>whnf
   refine Tr.cond ?_
   conv=>whnf
   refine cB h (fun hb20 h=>?_) (fun hb20 h=>?_)
   ·refine sg ?_
    conv=>whnf
    refine Tr.ret ?_
    conv=>whnf
    cases h
    rfl
   refine Tr.skip ?_
   conv=>whnf
   refine Tr.seq ?_
   obtain ⟨v_21,hv22,h⟩:=bS h
   refine Tr.cutQ1 ([(1,.pt 0 0),(2,(dI 0)),(3,(dI i_12)),(95,.d (.b v_21))]) ([some (.var [.d (.ls (List.map eTSegment f_1.Clocks.Segments)),.d (.ls (List.map (eL eI) f_1.Clocks.Far)),.d (.ls (List.map eTPair f_1.Pairs)),.d (.ls (List.map eTRunner f_1.Runners))])]) ?_ (fun T1 H1 hw=>?_)
   ·replace h:=hv22; clear hv22
    refine dq [] [(0,1),(1,1),(2,1),(3,3),(4,3),(5,1),(6,1),(7,2),(8,2),(9,2),(10,4),(11,4),(12,1),(13,1),(14,3),(15,3),(16,1),(17,1),(18,2),(19,2),(20,2),(21,4),(22,4),(23,1),(24,1),(25,3),(26,3),(27,1),(28,1),(29,2),(30,2),(31,2),(32,4),(33,4),(34,1),(35,1),(36,1),(37,1)] ?_
    conv=>whnf
    refine q1 ?_
    conv=>whnf
    refine q1 ?_
    conv=>whnf
    refine q1 ?_
    conv=>whnf
    refine cB h (fun hb23 h=>?_) (fun hb23 h=>?_)
    ·conv=>whnf
     refine q2 ?_
     conv=>whnf
     refine q2 ?_
     conv=>whnf
     refine q1 ?_
     conv=>whnf
     refine q4 ?_
     conv=>whnf
     obtain ⟨x_24,hx_24,h⟩:=bS h
     refine q3 (ixP_of hx_24 rr) ?_
     conv=>whnf
     refine q2 ?_
     conv=>whnf
     refine q2 ?_
     conv=>whnf
     refine q2 ?_
     conv=>whnf
     refine q2 ?_
     conv=>whnf
     refine q1 ?_
     conv=>whnf
     refine q1 ?_
     conv=>whnf
     refine cB h (fun hb25 h=>?_) (fun hb25 h=>?_)
     ·conv=>whnf
      refine q1 ?_
      conv=>whnf
      refine q1 ?_
      conv=>whnf
      cases h
      exact Wk.mk2 [0] 2 rfl rfl (by decide) rfl ⟨rr,trivial⟩ ⟨rr,rr,rr,rr,trivial⟩
     conv=>whnf
     refine q2 ?_
     conv=>whnf
     refine q2 ?_
     conv=>whnf
     refine q1 ?_
     conv=>whnf
     refine q4 ?_
     conv=>whnf
     obtain ⟨x_26,hx_26,h⟩:=bS h
     refine q3 (ixP_of hx_26 rr) ?_
     conv=>whnf
     refine q2 ?_
     conv=>whnf
     refine q2 ?_
     conv=>whnf
     refine q2 ?_
     conv=>whnf
     refine q2 ?_
     conv=>whnf
     refine q1 ?_
     conv=>whnf
     refine q1 ?_
     conv=>whnf
     refine cB h (fun hb27 h=>?_) (fun hb27 h=>?_)
     ·conv=>whnf
      refine q2 ?_
      conv=>whnf
      refine q2 ?_
      conv=>whnf
      refine q1 ?_
      conv=>whnf
      refine q4 ?_
      conv=>whnf
      obtain ⟨x_28,hx_28,h⟩:=bS h
      refine q3 (ixP_of hx_28 rr) ?_
      conv=>whnf
      refine q2 ?_
      conv=>whnf
      refine q2 ?_
      conv=>whnf
      refine q2 ?_
      conv=>whnf
      refine q2 ?_
      conv=>whnf
      refine q1 ?_
      conv=>whnf
      refine q1 ?_
      conv=>whnf
      refine q1 ?_
      conv=>whnf
      refine q1 ?_
      conv=>whnf
      cases h
      exact Wk.mk2 [0] 2 rfl rfl (by decide) rfl ⟨rr,trivial⟩ ⟨rr,rr,rr,rr,trivial⟩
     conv=>whnf
     refine q1 ?_
     conv=>whnf
     refine q1 ?_
     conv=>whnf
     refine q1 ?_
     conv=>whnf
     cases h
     exact Wk.mk2 [0] 2 rfl rfl (by decide) rfl ⟨rr,trivial⟩ ⟨rr,rr,rr,rr,trivial⟩
    conv=>whnf
    refine q1 ?_
    conv=>whnf
    cases h
    exact Wk.mk2 [0] 2 rfl rfl (by decide) rfl ⟨rr,trivial⟩ ⟨rr,rr,rr,rr,trivial⟩
   clear hv22
   conv=>whnf
   refine Tr.weak hw ?_
   refine Tr.cond ?_
   conv=>whnf
   refine cB h (fun hb29 h=>?_) (fun hb29 h=>?_)
   ·refine sg ?_
    conv=>whnf
    refine Tr.ret ?_
    conv=>whnf
    cases h
    rfl
   refine Tr.skip ?_
   conv=>whnf
   refine rg ?_
   conv=>whnf
   refine arS_raw ?_
   conv=>whnf
   refine ⟨((w64 (i_12+1))),h,?_⟩
   exact Wk.mk2 [0] 1 rfl rfl (by decide) rfl ⟨rr,trivial⟩ ⟨rr,rr,rr,trivial⟩
  refine Tr.exit ?_
  conv=>whnf
  refine ⟨(),h,?_⟩
  exact Wk.mk2 [0] 1 rfl rfl (by decide) rfl ⟨rr,trivial⟩ ⟨rr,rr,trivial⟩
 clear h
 rintro _ h T1 H1 hw
 replace h:M137 f_1 ()=some r_2:=h
 conv=>whnf
 refine Tr.weak hw ?_
 unfold M137 at h
 refine Tr.seq ?_
 refine sg ?_
 conv=>whnf
 refine Tr.cutQ (α:=Unit) (fun s=>([(1,.pt 0 0),(2,(dI 0))],[some (.var [.d (.ls (List.map eTSegment f_1.Clocks.Segments)),.d (.ls (List.map (eL eI) f_1.Clocks.Far)),.d (.ls (List.map eTPair f_1.Pairs)),.d (.ls (List.map eTRunner f_1.Runners))])])) (fun s=>M136 f_1 s=some r_2) ?_ ?_
 ·refine Tr.block ?_
  refine Tr.loopM (σ:=Int) (fun n s=>M135 f_1 (M136 f_1) n s) r_2 (fun s=>([(1,.pt 0 0),(2,(dI 0)),(5,(dI s))],[some (.var [.d (.ls (List.map eTSegment f_1.Clocks.Segments)),.d (.ls (List.map (eL eI) f_1.Clocks.Far)),.d (.ls (List.map eTPair f_1.Pairs)),.d (.ls (List.map eTRunner f_1.Runners))])])) (((((f_1.Runners).length:Int)) - 0:Int).toNat+1) (0) h (fun s=>rfl) (Wk.mk2 [0] 1 rfl rfl (by decide) rfl ⟨rr,trivial⟩ ⟨rr,rr,rr,trivial⟩) ?_
  clear h
  rintro n_32 i_31 h
  replace h:M135 f_1 (M136 f_1) (n_32+1) i_31=some r_2:=h
  rw [M135] at h
  refine Tr.seq ?_
  refine sg ?_
  conv=>whnf
  refine lnS_map ?_
  conv=>whnf
  refine Tr.cond ?_
  conv=>whnf
  refine cB h (fun hb35 h=>?_) (fun hb35 h=>?_)
  ·refine Tr.skip ?_
   conv=>whnf
   refine Tr.seq ?_
   refine Tr.block ?_
   refine sg ?_
   conv=>whnf
   obtain ⟨x_36,hx_36,h⟩:=bS h
   refine ixP_of hx_36 ?_
   conv=>whnf
   refine Tr.seq ?_
   refine Tr.seq ?_
   obtain ⟨v_37,hv38,h⟩:=bS h
   refine Tr.cutQ1 ([(1,.pt 0 0),(2,(dI 0)),(5,(dI i_31)),(6,.pt 1 0),(149,.d (.b v_37))]) ([some (.var [.d (.ls (List.map eTSegment f_1.Clocks.Segments)),.d (.ls (List.map (eL eI) f_1.Clocks.Far)),.d (.ls (List.map eTPair f_1.Pairs)),.d (.ls (List.map eTRunner f_1.Runners))]),some (.var [(dI x_36.Bib),.d (.ls (List.map eI x_36.Keys)),.d (.ls (List.map (eL eTOutcome) x_36.Worlds))])]) ?_ (fun T1 H1 hw=>?_)
   ·replace h:=hv38; clear hv38
    refine dq [] [(0,4),(1,4),(2,1),(3,1),(4,1),(5,1),(6,1),(7,1),(8,3),(9,3),(10,1),(11,1),(12,2),(13,2),(14,2),(15,4),(16,4),(17,1),(18,1),(19,1),(20,1),(21,4),(22,4),(23,2),(24,3),(25,3),(26,2),(27,2),(28,2),(29,2),(30,1),(31,1),(32,1),(33,4),(34,4),(35,2),(36,3),(37,3),(38,2),(39,1),(40,1),(41,1)] ?_
    conv=>whnf
    refine q2 ?_
    conv=>whnf
    refine q2 ?_
    conv=>whnf
    obtain ⟨r_39,hc40,h⟩:=bS h
    refine q1 ?_ (fun _=>pe (P122 x_36.Bib r_39 hc40) rr)
    conv=>whnf
    refine q1 ?_
    conv=>whnf
    refine q1 ?_
    conv=>whnf
    refine cB h (fun hb41 h=>?_) (fun hb41 h=>?_)
    ·conv=>whnf
     refine q1 ?_
     conv=>whnf
     refine q1 ?_
     conv=>whnf
     refine q1 ?_
     conv=>whnf
     refine q1 ?_
     conv=>whnf
     refine q1 ?_
     conv=>whnf
     cases h
     exact Wk.mk2 [0,1] 2 rfl rfl (by decide) rfl ⟨rr,rr,trivial⟩ ⟨rr,rr,rr,rr,rr,trivial⟩
    conv=>whnf
    refine q1 ?_
    conv=>whnf
    refine q1 ?_
    conv=>whnf
    refine q1 ?_
    conv=>whnf
    refine cB h (fun hb42 h=>?_) (fun hb42 h=>?_)
    ·conv=>whnf
     refine q2 ?_
     conv=>whnf
     refine q2 ?_
     conv=>whnf
     refine q1 ?_
     conv=>whnf
     refine q4 ?_
     conv=>whnf
     obtain ⟨x_43,hx_43,h⟩:=bS h
     refine q3 (ixP_of hx_43 rr) ?_
     conv=>whnf
     refine q2 ?_
     conv=>whnf
     refine q2 ?_
     conv=>whnf
     refine q2 ?_
     conv=>whnf
     refine q2 ?_
     conv=>whnf
     refine q1 ?_
     conv=>whnf
     refine q1 ?_
     conv=>whnf
     refine q1 ?_
     conv=>whnf
     refine q1 ?_
     conv=>whnf
     refine cB h (fun hb44 h=>?_) (fun hb44 h=>?_)
     ·conv=>whnf
      refine q1 ?_
      conv=>whnf
      refine q1 ?_
      conv=>whnf
      refine q1 ?_
      conv=>whnf
      cases h
      exact Wk.mk2 [0,1] 2 rfl rfl (by decide) rfl ⟨rr,rr,trivial⟩ ⟨rr,rr,rr,rr,rr,trivial⟩
     conv=>whnf
     refine q2 ?_
     conv=>whnf
     refine q2 ?_
     conv=>whnf
     refine q3 (lnS_map rr) ?_
     conv=>whnf
     refine q2 ?_
     conv=>whnf
     refine q2 ?_
     conv=>whnf
     obtain ⟨x_45,hx_45,h⟩:=bS h
     refine q3 (ixP_of hx_45 rr) ?_
     conv=>whnf
     refine q2 ?_
     conv=>whnf
     refine q2 ?_
     conv=>whnf
     refine q3 (lnS_map rr) ?_
     conv=>whnf
     refine q1 ?_
     conv=>whnf
     refine q1 ?_
     conv=>whnf
     refine q1 ?_
     conv=>whnf
     refine cB h (fun hb46 h=>?_) (fun hb46 h=>?_)
     ·conv=>whnf
      refine q1 ?_
      conv=>whnf
      cases h
      exact Wk.mk2 [0,1] 2 rfl rfl (by decide) rfl ⟨rr,rr,trivial⟩ ⟨rr,rr,rr,rr,rr,trivial⟩
     conv=>whnf
     refine q2 ?_
     conv=>whnf
     refine q2 ?_
     conv=>whnf
     refine q3 (lnS_map rr) ?_
     conv=>whnf
     refine q2 ?_
     conv=>whnf
     refine q2 ?_
     conv=>whnf
     refine q3 (lnS_map rr) ?_
     conv=>whnf
     refine q4 ?_
     conv=>whnf
     refine q1 ?_
     conv=>whnf
     refine q1 ?_
     conv=>whnf
     cases h
     exact Wk.mk2 [0,1] 2 rfl rfl (by decide) rfl ⟨rr,rr,trivial⟩ ⟨rr,rr,rr,rr,rr,trivial⟩
    conv=>whnf
    refine q1 ?_
    conv=>whnf
    refine q1 ?_
    conv=>whnf
    refine q1 ?_
    conv=>whnf
    refine q2 ?_
    conv=>whnf
    refine q2 ?_
    conv=>whnf
    refine q3 (lnS_map rr) ?_
    conv=>whnf
    refine q2 ?_
    conv=>whnf
    refine q2 ?_
    conv=>whnf
    obtain ⟨x_47,hx_47,h⟩:=bS h
    refine q3 (ixP_of hx_47 rr) ?_
    conv=>whnf
    refine q2 ?_
    conv=>whnf
    refine q2 ?_
    conv=>whnf
    refine q3 (lnS_map rr) ?_
    conv=>whnf
    refine q1 ?_
    conv=>whnf
    refine q1 ?_
    conv=>whnf
    refine q1 ?_
    conv=>whnf
    refine cB h (fun hb48 h=>?_) (fun hb48 h=>?_)
    ·conv=>whnf
     refine q1 ?_
     conv=>whnf
     cases h
     exact Wk.mk2 [0,1] 2 rfl rfl (by decide) rfl ⟨rr,rr,trivial⟩ ⟨rr,rr,rr,rr,rr,trivial⟩
    conv=>whnf
    refine q2 ?_
    conv=>whnf
    refine q2 ?_
    conv=>whnf
    refine q3 (lnS_map rr) ?_
    conv=>whnf
    refine q2 ?_
    conv=>whnf
    refine q2 ?_
    conv=>whnf
    refine q3 (lnS_map rr) ?_
    conv=>whnf
    refine q4 ?_
    conv=>whnf
    refine q1 ?_
    conv=>whnf
    refine q1 ?_
    conv=>whnf
    cases h
    exact Wk.mk2 [0,1] 2 rfl rfl (by decide) rfl ⟨rr,rr,trivial⟩ ⟨rr,rr,rr,rr,rr,trivial⟩
   clear hv38
   conv=>whnf
   refine Tr.weak hw ?_
   refine Tr.cond ?_
   conv=>whnf
   refine cB h (fun hb49 h=>?_) (fun hb49 h=>?_)
   ·refine sg ?_
    conv=>whnf
    refine Tr.ret ?_
    conv=>whnf
    cases h
    rfl
   refine Tr.skip ?_
   conv=>whnf
   refine sg ?_
   conv=>whnf
   refine Tr.cutQ (α:=Unit) (fun s=>([(1,.pt 0 0),(2,(dI 0)),(5,(dI i_31))],[some (.var [.d (.ls (List.map eTSegment f_1.Clocks.Segments)),.d (.ls (List.map (eL eI) f_1.Clocks.Far)),.d (.ls (List.map eTPair f_1.Pairs)),.d (.ls (List.map eTRunner f_1.Runners))])])) (fun s=>M134 i_31 (M135 f_1 (M136 f_1) n_32) s=some r_2) ?_ ?_
   ·refine Tr.block ?_
    refine Tr.loopM (σ:=Int) (fun n s=>M133 f_1 x_36 (M134 i_31 (M135 f_1 (M136 f_1) n_32)) n s) r_2 (fun s=>([(1,.pt 0 0),(2,(dI 0)),(5,(dI i_31)),(6,.pt 1 0),(7,(dI s))],[some (.var [.d (.ls (List.map eTSegment f_1.Clocks.Segments)),.d (.ls (List.map (eL eI) f_1.Clocks.Far)),.d (.ls (List.map eTPair f_1.Pairs)),.d (.ls (List.map eTRunner f_1.Runners))]),some (.var [(dI x_36.Bib),.d (.ls (List.map eI x_36.Keys)),.d (.ls (List.map (eL eTOutcome) x_36.Worlds))])])) (((((x_36.Worlds).length:Int)) - 0:Int).toNat+1) (0) h (fun s=>rfl) (Wk.mk2 [0,1] 2 rfl rfl (by decide) rfl ⟨rr,rr,trivial⟩ ⟨rr,rr,rr,rr,rr,trivial⟩) ?_
    clear h
    rintro n_52 w_51 h
    replace h:M133 f_1 x_36 (M134 i_31 (M135 f_1 (M136 f_1) n_32)) (n_52+1) w_51=some r_2:=h
    rw [M133] at h
    refine Tr.seq ?_
    refine sg ?_
    conv=>whnf
    refine lnS_map ?_
    conv=>whnf
    refine Tr.cond ?_
    conv=>whnf
    refine cB h (fun hb55 h=>?_) (fun hb55 h=>?_)
    ·refine Tr.skip ?_
     conv=>whnf
     refine Tr.seq ?_
     refine Tr.block ?_
     refine sg ?_
     conv=>whnf
     refine Tr.cutQ (α:=Unit) (fun s=>([(1,.pt 0 0),(2,(dI 0)),(5,(dI i_31)),(6,.pt 1 0),(7,(dI w_51))],[some (.var [.d (.ls (List.map eTSegment f_1.Clocks.Segments)),.d (.ls (List.map (eL eI) f_1.Clocks.Far)),.d (.ls (List.map eTPair f_1.Pairs)),.d (.ls (List.map eTRunner f_1.Runners))]),some (.var [(dI x_36.Bib),.d (.ls (List.map eI x_36.Keys)),.d (.ls (List.map (eL eTOutcome) x_36.Worlds))])])) (fun s=>M132 w_51 (M133 f_1 x_36 (M134 i_31 (M135 f_1 (M136 f_1) n_32)) n_52) s=some r_2) ?_ ?_
     ·refine Tr.block ?_
      refine Tr.loopM (σ:=Int) (fun n s=>M131 f_1 x_36 w_51 (M132 w_51 (M133 f_1 x_36 (M134 i_31 (M135 f_1 (M136 f_1) n_32)) n_52)) n s) r_2 (fun s=>([(1,.pt 0 0),(2,(dI 0)),(5,(dI i_31)),(6,.pt 1 0),(7,(dI w_51)),(8,(dI s))],[some (.var [.d (.ls (List.map eTSegment f_1.Clocks.Segments)),.d (.ls (List.map (eL eI) f_1.Clocks.Far)),.d (.ls (List.map eTPair f_1.Pairs)),.d (.ls (List.map eTRunner f_1.Runners))]),some (.var [(dI x_36.Bib),.d (.ls (List.map eI x_36.Keys)),.d (.ls (List.map (eL eTOutcome) x_36.Worlds))])])) ((((((Option.getD (idx x_36.Worlds w_51) default)).length:Int)) - 0:Int).toNat+1) (0) h (fun s=>rfl) (Wk.mk2 [0,1] 2 rfl rfl (by decide) rfl ⟨rr,rr,trivial⟩ ⟨rr,rr,rr,rr,rr,rr,trivial⟩) ?_
      clear h
      rintro n_58 n_57 h
      replace h:M131 f_1 x_36 w_51 (M132 w_51 (M133 f_1 x_36 (M134 i_31 (M135 f_1 (M136 f_1) n_32)) n_52)) (n_58+1) n_57=some r_2:=h
      rw [M131] at h
      refine Tr.seq ?_
      refine sg ?_
      conv=>whnf
      obtain ⟨x_61,hx_61,h⟩:=bS h
      refine ixP_of hx_61 ?_
      conv=>whnf
      refine lnS_map ?_
      conv=>whnf
      refine Tr.cond ?_
      conv=>whnf
      refine cB h (fun hb62 h=>?_) (fun hb62 h=>?_)
      ·refine Tr.skip ?_
       conv=>whnf
       refine Tr.seq ?_
       refine Tr.block ?_
       refine sd [] [(0,3),(1,3),(2,4),(3,4),(4,1),(5,2),(6,2),(7,1),(8,2),(9,2),(10,1),(11,1)] ?_
       conv=>whnf
       refine q2 ?_
       conv=>whnf
       refine q2 ?_
       conv=>whnf
       refine q2 ?_
       conv=>whnf
       refine q2 ?_
       conv=>whnf
       refine q1 ?_
       conv=>whnf
       obtain ⟨x_63,hx_63,h⟩:=bS h
       refine q3 (ixP_of hx_63 rr) ?_
       conv=>whnf
       refine q2 ?_
       conv=>whnf
       refine q1 ?_
       conv=>whnf
       obtain ⟨x_64,hx_64,h⟩:=bS h
       refine q3 (ixP_of hx_64 rr) ?_
       conv=>whnf
       refine q2 ?_
       conv=>whnf
       obtain ⟨r_65,hc66,h⟩:=bS h
       refine q1 ?_ (fun _=>pe (P123 f_1.Clocks x_64 r_65 hc66) rr)
       conv=>whnf
       refine q1 ?_
       conv=>whnf
       refine Tr.cond ?_
       conv=>whnf
       refine cB h (fun hb67 h=>?_) (fun hb67 h=>?_)
       ·refine sg ?_
        conv=>whnf
        refine Tr.ret ?_
        conv=>whnf
        cases h
        rfl
       refine Tr.skip ?_
       conv=>whnf
       refine rg ?_
       conv=>whnf
       refine arS_raw ?_
       conv=>whnf
       refine ⟨((w64 (n_57+1))),h,?_⟩
       exact Wk.mk2 [0,1] 2 rfl rfl (by decide) rfl ⟨rr,rr,trivial⟩ ⟨rr,rr,rr,rr,rr,rr,trivial⟩
      refine Tr.exit ?_
      conv=>whnf
      refine ⟨(),h,?_⟩
      exact Wk.mk2 [0,1] 2 rfl rfl (by decide) rfl ⟨rr,rr,trivial⟩ ⟨rr,rr,rr,rr,rr,trivial⟩
     clear h
     rintro _ h T1 H1 hw
     replace h:M132 w_51 (M133 f_1 x_36 (M134 i_31 (M135 f_1 (M136 f_1) n_32)) n_52) ()=some r_2:=h
     conv=>whnf
     refine Tr.weak hw ?_
     unfold M132 at h
     refine rg ?_
     conv=>whnf
     refine arS_raw ?_
     conv=>whnf
     refine ⟨((w64 (w_51+1))),h,?_⟩
     exact Wk.mk2 [0,1] 2 rfl rfl (by decide) rfl ⟨rr,rr,trivial⟩ ⟨rr,rr,rr,rr,rr,trivial⟩
    refine Tr.exit ?_
    conv=>whnf
    refine ⟨(),h,?_⟩
    exact Wk.mk2 [0] 2 rfl rfl (by decide) rfl ⟨rr,trivial⟩ ⟨rr,rr,rr,trivial⟩
   clear h
   rintro _ h T1 H1 hw
   replace h:M134 i_31 (M135 f_1 (M136 f_1) n_32) ()=some r_2:=h
   conv=>whnf
   refine Tr.weak hw ?_
   unfold M134 at h
   refine rg ?_
   conv=>whnf
   refine arS_raw ?_
   conv=>whnf
   refine ⟨((w64 (i_31+1))),h,?_⟩
   exact Wk.mk2 [0] 1 rfl rfl (by decide) rfl ⟨rr,trivial⟩ ⟨rr,rr,rr,trivial⟩
  refine Tr.exit ?_
  conv=>whnf
  refine ⟨(),h,?_⟩
  exact Wk.mk2 [0] 1 rfl rfl (by decide) rfl ⟨rr,trivial⟩ ⟨rr,rr,trivial⟩
 clear h
 rintro _ h T1 H1 hw
 replace h:M136 f_1 ()=some r_2:=h
 conv=>whnf
 refine Tr.weak hw ?_
 unfold M136 at h
 refine Tr.seq ?_
 refine sg ?_
 conv=>whnf
 obtain ⟨r_68,hc69,h⟩:=bS h
 refine PC.ecall (P129 f_1 r_68 hc69) (fun rs hrs=>?_)
 subst hrs
 conv=>whnf
 refine Tr.cond ?_
 conv=>whnf
 refine cB h (fun hb70 h=>?_) (fun hb70 h=>?_)
 ·refine sg ?_
  conv=>whnf
  refine Tr.ret ?_
  conv=>whnf
  cases h
  rfl
 refine Tr.skip ?_
 conv=>whnf
 refine sg ?_
 conv=>whnf
 refine Tr.ret ?_
 conv=>whnf
 cases h
 rfl
theorem P143 (f_1:TField) (r_2:Int) (h:M143 f_1=some r_2) :
    PC prog 21 [(eTField f_1)] (fun rs=>rs=[(.i .i64 r_2)]):=by
 refine PC.of_tr (cx:=⟨89,none,lay,0⟩) layOK func21 rfl rfl rfl rfl rfl (by simp [f21]) ?_
 unfold M143 at h
 refine sg ?_
 conv=>whnf
 refine sg ?_
 conv=>whnf
 refine Tr.seq ?_
 refine sg ?_
 conv=>whnf
 refine lnS_map ?_
 conv=>whnf
 refine arS_raw ?_
 conv=>whnf
 obtain ⟨all_8,hv49,h⟩:=bS h
 refine Tr.cutQ1 ([(2,(dI 0)),(3,(dI all_8))]) ([]) ?_ (fun T1 H1 hw=>?_)
 ·replace h:=hv49; clear hv49
  refine Tr.block ?_
  refine Tr.loopM (σ:=Int × Int) (fun n s=>M142 f_1 n s.1 s.2) all_8 (fun s=>([(1,.pt 0 0),(2,(dI 0)),(3,(dI s.1)),(15,(dI (w64 ((((f_1.Pairs).length:Int))+1)))),(16,(dI s.2))],[some (.var [.d (.ls (List.map eTSegment f_1.Clocks.Segments)),.d (.ls (List.map (eL eI) f_1.Clocks.Far)),.d (.ls (List.map eTPair f_1.Pairs)),.d (.ls (List.map eTRunner f_1.Runners))])])) (((w64 ((((f_1.Pairs).length:Int))+1)) - 0:Int).toNat+1) (0,0) h (fun s=>rfl) (Wk.mk2 [0] 1 rfl rfl (by decide) rfl ⟨rr,trivial⟩ ⟨rr,rr,rr,rr,rr,trivial⟩) ?_
  clear h
  rintro n_7 ⟨all_5,v_6⟩ h
  replace h:M142 f_1 (n_7+1) all_5 v_6=some all_8:=h
  rw [M142] at h
  refine sg ?_
  conv=>whnf
  refine Tr.seq ?_
  refine Tr.cond ?_
  conv=>whnf
  refine cB h (fun hb11 h=>?_) (fun hb11 h=>?_)
  ·refine Tr.skip ?_
   conv=>whnf
   refine Tr.seq ?_
   refine Tr.block ?_
   refine sg ?_
   conv=>whnf
   refine sg ?_
   conv=>whnf
   refine Tr.seq ?_
   refine sg ?_
   conv=>whnf
   refine lnS_map ?_
   conv=>whnf
   obtain ⟨n_17,hv25,h⟩:=bS h
   refine Tr.cutQ1 ([(1,.pt 0 0),(2,(dI 0)),(3,(dI all_5)),(4,(dI v_6)),(5,(dI n_17)),(15,(dI (w64 ((((f_1.Pairs).length:Int))+1)))),(16,(dI v_6))]) ([some (.var [.d (.ls (List.map eTSegment f_1.Clocks.Segments)),.d (.ls (List.map (eL eI) f_1.Clocks.Far)),.d (.ls (List.map eTPair f_1.Pairs)),.d (.ls (List.map eTRunner f_1.Runners))])]) ?_ (fun T1 H1 hw=>?_)
   ·replace h:=hv25; clear hv25
    refine Tr.block ?_
    refine Tr.loopM (σ:=Int × Int) (fun n s=>M139 f_1 n s.1 s.2) n_17 (fun s=>([(1,.pt 0 0),(2,(dI 0)),(3,(dI all_5)),(4,(dI v_6)),(5,(dI s.1)),(15,(dI (w64 ((((f_1.Pairs).length:Int))+1)))),(16,(dI v_6)),(22,(dI (((f_1.Clocks.Segments).length:Int)))),(23,(dI s.2))],[some (.var [.d (.ls (List.map eTSegment f_1.Clocks.Segments)),.d (.ls (List.map (eL eI) f_1.Clocks.Far)),.d (.ls (List.map eTPair f_1.Pairs)),.d (.ls (List.map eTRunner f_1.Runners))])])) (((((f_1.Clocks.Segments).length:Int)) - 0:Int).toNat+1) (1,0) h (fun s=>rfl) (Wk.mk2 [0] 1 rfl rfl (by decide) rfl ⟨rr,trivial⟩ ⟨rr,rr,rr,rr,rr,rr,rr,rr,rr,trivial⟩) ?_
    clear h
    rintro n_16 ⟨n_14,v_15⟩ h
    replace h:M139 f_1 (n_16+1) n_14 v_15=some n_17:=h
    rw [M139] at h
    refine sg ?_
    conv=>whnf
    refine Tr.seq ?_
    refine Tr.cond ?_
    conv=>whnf
    refine cB h (fun hb20 h=>?_) (fun hb20 h=>?_)
    ·refine Tr.skip ?_
     conv=>whnf
     refine Tr.seq ?_
     refine Tr.block ?_
     refine sg ?_
     conv=>whnf
     refine dq [] [(0,1),(1,3),(2,3),(3,3),(4,2),(5,2),(6,1),(7,1),(8,2),(9,2),(10,3),(11,3),(12,3),(13,1),(14,1),(15,2),(16,2),(17,2),(18,2),(19,1),(20,1),(21,1),(22,1),(23,1),(24,1),(25,1)] ?_
     conv=>whnf
     refine q1 ?_
     conv=>whnf
     refine q2 ?_
     conv=>whnf
     refine q2 ?_
     conv=>whnf
     refine q2 ?_
     conv=>whnf
     obtain ⟨x_21,hx_21,h⟩:=bS h
     refine q3 (ixP_of hx_21 rr) ?_
     conv=>whnf
     refine q2 ?_
     conv=>whnf
     refine q1 ?_
     conv=>whnf
     refine q4 ?_
     conv=>whnf
     obtain ⟨x_22,hx_22,h⟩:=bS h
     refine q3 (ixP_of hx_22 rr) ?_
     conv=>whnf
     refine q2 ?_
     conv=>whnf
     refine q2 ?_
     conv=>whnf
     refine q2 ?_
     conv=>whnf
     refine q2 ?_
     conv=>whnf
     refine q1 ?_
     conv=>whnf
     refine q4 ?_
     conv=>whnf
     obtain ⟨x_23,hx_23,h⟩:=bS h
     refine q3 (ixP_of hx_23 rr) ?_
     conv=>whnf
     refine q2 ?_
     conv=>whnf
     obtain ⟨x_24,hx_24,h⟩:=bS h
     refine q3 (ixP_of hx_24 rr) ?_
     conv=>whnf
     refine q2 ?_
     conv=>whnf
     refine q4 ?_
     conv=>whnf
     refine q4 ?_
     conv=>whnf
     refine q1 ?_
     conv=>whnf
     refine q1 ?_
     conv=>whnf
     refine q4 ?_
     conv=>whnf
     refine q1 ?_
     conv=>whnf
     refine q1 ?_
     conv=>whnf
     refine rg ?_
     conv=>whnf
     refine arS_raw ?_
     conv=>whnf
     refine ⟨((minG 1048576 (w64 (n_14 * (maxG 0 (minG 1048576 (w64 ((w64 (x_22+x_24))+1))))))),(w64 (v_15+1))),h,?_⟩
     exact Wk.mk2 [0] 1 rfl rfl (by decide) rfl ⟨rr,trivial⟩ ⟨rr,rr,rr,rr,rr,rr,rr,rr,rr,trivial⟩
    refine Tr.exit ?_
    conv=>whnf
    cases h
    exact Wk.mk2 [0] 1 rfl rfl (by decide) rfl ⟨rr,trivial⟩ ⟨rr,rr,rr,rr,rr,rr,rr,trivial⟩
   clear hv25
   conv=>whnf
   refine Tr.weak hw ?_
   refine Tr.seq ?_
   refine sg ?_
   conv=>whnf
   refine lnS_map ?_
   conv=>whnf
   obtain ⟨n_31,hv48,h⟩:=bS h
   refine Tr.cutQ1 ([(1,.pt 0 0),(2,(dI 0)),(3,(dI all_5)),(5,(dI n_31)),(15,(dI (w64 ((((f_1.Pairs).length:Int))+1)))),(16,(dI v_6))]) ([some (.var [.d (.ls (List.map eTSegment f_1.Clocks.Segments)),.d (.ls (List.map (eL eI) f_1.Clocks.Far)),.d (.ls (List.map eTPair f_1.Pairs)),.d (.ls (List.map eTRunner f_1.Runners))])]) ?_ (fun T1 H1 hw=>?_)
   ·replace h:=hv48; clear hv48
    refine Tr.block ?_
    refine Tr.loopM (σ:=Int × Int) (fun n s=>M141 f_1 v_6 n s.1 s.2) n_31 (fun s=>([(1,.pt 0 0),(2,(dI 0)),(3,(dI all_5)),(4,(dI v_6)),(5,(dI s.1)),(15,(dI (w64 ((((f_1.Pairs).length:Int))+1)))),(16,(dI v_6)),(53,.d (.ls (List.map eTRunner f_1.Runners))),(54,(dI (((f_1.Runners).length:Int)))),(55,(dI s.2))],[some (.var [.d (.ls (List.map eTSegment f_1.Clocks.Segments)),.d (.ls (List.map (eL eI) f_1.Clocks.Far)),.d (.ls (List.map eTPair f_1.Pairs)),.d (.ls (List.map eTRunner f_1.Runners))])])) (((((f_1.Runners).length:Int)) - 0:Int).toNat+1) (n_17,0) h (fun s=>rfl) (Wk.mk2 [0] 1 rfl rfl (by decide) rfl ⟨rr,trivial⟩ ⟨rr,rr,rr,rr,rr,rr,rr,rr,rr,rr,trivial⟩) ?_
    clear h
    rintro n_30 ⟨n_28,v_29⟩ h
    replace h:M141 f_1 v_6 (n_30+1) n_28 v_29=some n_31:=h
    rw [M141] at h
    refine sg ?_
    conv=>whnf
    refine Tr.seq ?_
    refine Tr.cond ?_
    conv=>whnf
    refine cB h (fun hb34 h=>?_) (fun hb34 h=>?_)
    ·refine Tr.skip ?_
     conv=>whnf
     refine Tr.seq ?_
     refine Tr.block ?_
     refine sg ?_
     conv=>whnf
     obtain ⟨x_35,hx_35,h⟩:=bS h
     refine ixP_of hx_35 ?_
     conv=>whnf
     refine sg ?_
     conv=>whnf
     refine Tr.seq ?_
     refine sg ?_
     conv=>whnf
     obtain ⟨x_36,hx_36,h⟩:=bS h
     refine ixP_of hx_36 ?_
     conv=>whnf
     refine lnS_map ?_
     conv=>whnf
     obtain ⟨m_42,hv47,h⟩:=bS h
     refine Tr.cutQ1 ([(1,.pt 0 0),(2,(dI 0)),(3,(dI all_5)),(4,(dI v_6)),(5,(dI n_28)),(9,(dI m_42)),(15,(dI (w64 ((((f_1.Pairs).length:Int))+1)))),(16,(dI v_6)),(53,.d (.ls (List.map eTRunner f_1.Runners))),(54,(dI (((f_1.Runners).length:Int)))),(55,(dI v_29))]) ([some (.var [.d (.ls (List.map eTSegment f_1.Clocks.Segments)),.d (.ls (List.map (eL eI) f_1.Clocks.Far)),.d (.ls (List.map eTPair f_1.Pairs)),.d (.ls (List.map eTRunner f_1.Runners))])]) ?_ (fun T1 H1 hw=>?_)
     ·replace h:=hv47; clear hv47
      refine Tr.block ?_
      refine Tr.loopM (σ:=Int × Int) (fun n s=>M140 x_36 n s.1 s.2) m_42 (fun s=>([(1,.pt 0 0),(2,(dI 0)),(3,(dI all_5)),(4,(dI v_6)),(5,(dI n_28)),(9,(dI s.1)),(15,(dI (w64 ((((f_1.Pairs).length:Int))+1)))),(16,(dI v_6)),(53,.d (.ls (List.map eTRunner f_1.Runners))),(54,(dI (((f_1.Runners).length:Int)))),(55,(dI v_29)),(63,.d (.ls (List.map eTOutcome x_36))),(64,(dI (((x_36).length:Int)))),(65,(dI s.2))],[some (.var [.d (.ls (List.map eTSegment f_1.Clocks.Segments)),.d (.ls (List.map (eL eI) f_1.Clocks.Far)),.d (.ls (List.map eTPair f_1.Pairs)),.d (.ls (List.map eTRunner f_1.Runners))])])) (((((x_36).length:Int)) - 0:Int).toNat+1) (0,0) h (fun s=>rfl) (Wk.mk2 [0] 2 rfl rfl (by decide) rfl ⟨rr,trivial⟩ ⟨rr,rr,rr,rr,rr,rr,rr,rr,rr,rr,rr,rr,rr,rr,trivial⟩) ?_
      clear h
      rintro n_41 ⟨m_39,v_40⟩ h
      replace h:M140 x_36 (n_41+1) m_39 v_40=some m_42:=h
      rw [M140] at h
      refine sg ?_
      conv=>whnf
      refine Tr.seq ?_
      refine Tr.cond ?_
      conv=>whnf
      refine cB h (fun hb45 h=>?_) (fun hb45 h=>?_)
      ·refine Tr.skip ?_
       conv=>whnf
       refine Tr.seq ?_
       refine Tr.block ?_
       refine sg ?_
       conv=>whnf
       obtain ⟨x_46,hx_46,h⟩:=bS h
       refine ixP_of hx_46 ?_
       conv=>whnf
       refine rg ?_
       conv=>whnf
       refine arS_raw ?_
       conv=>whnf
       refine arS_raw ?_
       conv=>whnf
       refine arS_raw ?_
       conv=>whnf
       refine rg ?_
       conv=>whnf
       refine arS_raw ?_
       conv=>whnf
       refine ⟨((minG 1048576 (w64 ((w64 ((w64 (m_39+x_46.Hi)) - x_46.Lo))+1))),(w64 (v_40+1))),h,?_⟩
       exact Wk.mk2 [0] 2 rfl rfl (by decide) rfl ⟨rr,trivial⟩ ⟨rr,rr,rr,rr,rr,rr,rr,rr,rr,rr,rr,rr,rr,rr,trivial⟩
      refine Tr.exit ?_
      conv=>whnf
      cases h
      exact Wk.mk2 [0] 1 rfl rfl (by decide) rfl ⟨rr,trivial⟩ ⟨rr,rr,rr,rr,rr,rr,rr,rr,rr,rr,rr,trivial⟩
     clear hv47
     conv=>whnf
     refine Tr.weak hw ?_
     refine rg ?_
     conv=>whnf
     refine arS_raw ?_
     conv=>whnf
     refine rg ?_
     conv=>whnf
     refine arS_raw ?_
     conv=>whnf
     refine ⟨((minG 1048576 (w64 (n_28 * m_42))),(w64 (v_29+1))),h,?_⟩
     exact Wk.mk2 [0] 1 rfl rfl (by decide) rfl ⟨rr,trivial⟩ ⟨rr,rr,rr,rr,rr,rr,rr,rr,rr,rr,trivial⟩
    refine Tr.exit ?_
    conv=>whnf
    cases h
    exact Wk.mk2 [0] 1 rfl rfl (by decide) rfl ⟨rr,trivial⟩ ⟨rr,rr,rr,rr,rr,rr,trivial⟩
   clear hv48
   conv=>whnf
   refine Tr.weak hw ?_
   refine rg ?_
   conv=>whnf
   refine arS_raw ?_
   conv=>whnf
   refine rg ?_
   conv=>whnf
   refine arS_raw ?_
   conv=>whnf
   refine ⟨((w64 (all_5+n_31)),(w64 (v_6+1))),h,?_⟩
   exact Wk.mk2 [0] 1 rfl rfl (by decide) rfl ⟨rr,trivial⟩ ⟨rr,rr,rr,rr,rr,trivial⟩
  refine Tr.exit ?_
  conv=>whnf
  cases h
  exact Wk.mk2 [] 1 rfl rfl (by decide) rfl trivial ⟨rr,rr,trivial⟩
 clear hv49
 conv=>whnf
 refine Tr.weak hw ?_
 refine sg ?_
 conv=>whnf
 refine Tr.ret ?_
 conv=>whnf
 cases h
 rfl
theorem P146 (f_1:TField) (world_2:Int) (r_3:Bool) (h:M146 f_1 world_2=some r_3) :
    PC prog 22 [(eTField f_1),(.i .i64 world_2)] (fun rs=>rs=[(.b r_3)]):=by
 refine PC.of_tr (cx:=⟨44,none,lay,0⟩) layOK func22 rfl rfl rfl rfl rfl (by simp [f22]) ?_
 unfold M146 at h
 refine sg ?_
 conv=>whnf
 refine Tr.seq ?_
 refine sg ?_
 conv=>whnf
 refine cB h (fun hb4 h=>?_) (fun hb4 h=>?_)
 ·conv=>whnf
  refine Tr.cond ?_
  conv=>whnf
  refine sg ?_
  conv=>whnf
  refine Tr.ret ?_
  conv=>whnf
  cases h
  rfl
 conv=>whnf
 refine lnS_map ?_
 conv=>whnf
 refine Tr.cond ?_
 conv=>whnf
 refine cB h (fun hb5 h=>?_) (fun hb5 h=>?_)
 ·refine sg ?_
  conv=>whnf
  refine Tr.ret ?_
  conv=>whnf
  cases h
  rfl
 refine Tr.skip ?_
 conv=>whnf
 refine Tr.seq ?_
 refine sg ?_
 conv=>whnf
 refine Tr.cutQ (α:=Unit) (fun s=>([(4,.d (.b false))],[])) (fun s=>M145 s=some r_3) ?_ ?_
 ·refine Tr.block ?_
  refine Tr.loopM (σ:=Int) (fun n s=>M144 f_1 world_2 M145 n s) r_3 (fun s=>([(1,(dI world_2)),(2,.pt 0 0),(4,.d (.b false)),(5,(dI s))],[some (.var [.d (.ls (List.map eTSegment f_1.Clocks.Segments)),.d (.ls (List.map (eL eI) f_1.Clocks.Far)),.d (.ls (List.map eTPair f_1.Pairs)),.d (.ls (List.map eTRunner f_1.Runners))])])) (((((f_1.Runners).length:Int)) - 0:Int).toNat+1) (0) h (fun s=>rfl) (Wk.mk2 [0] 1 rfl rfl (by decide) rfl ⟨rr,trivial⟩ ⟨rr,rr,rr,rr,trivial⟩) ?_
  clear h
  rintro n_8 i_7 h
  replace h:M144 f_1 world_2 M145 (n_8+1) i_7=some r_3:=h
  rw [M144] at h
  refine Tr.seq ?_
  refine sg ?_
  conv=>whnf
  refine lnS_map ?_
  conv=>whnf
  refine Tr.cond ?_
  conv=>whnf
  refine cB h (fun hb11 h=>?_) (fun hb11 h=>?_)
  ·refine Tr.skip ?_
   conv=>whnf
   refine Tr.seq ?_
   refine Tr.block ?_
   refine sg ?_
   conv=>whnf
   obtain ⟨x_12,hx_12,h⟩:=bS h
   refine ixP_of hx_12 ?_
   conv=>whnf
   refine lnS_map ?_
   conv=>whnf
   refine cB h (fun hb13 h=>?_) (fun hb13 h=>?_)
   ·conv=>whnf
    refine Tr.cond ?_
    conv=>whnf
    refine sg ?_
    conv=>whnf
    refine Tr.ret ?_
    conv=>whnf
    cases h
    rfl
   conv=>whnf
   obtain ⟨x_14,hx_14,h⟩:=bS h
   refine ixP_of hx_14 ?_
   conv=>whnf
   obtain ⟨x_15,hx_15,h⟩:=bS h
   refine ixP_of hx_15 ?_
   conv=>whnf
   refine lnS_map ?_
   conv=>whnf
   refine Tr.cond ?_
   conv=>whnf
   refine cB h (fun hb16 h=>?_) (fun hb16 h=>?_)
   ·refine sg ?_
    conv=>whnf
    refine Tr.ret ?_
    conv=>whnf
    cases h
    rfl
   refine Tr.skip ?_
   conv=>whnf
   refine rg ?_
   conv=>whnf
   refine arS_raw ?_
   conv=>whnf
   refine ⟨((w64 (i_7+1))),h,?_⟩
   exact Wk.mk2 [0] 1 rfl rfl (by decide) rfl ⟨rr,trivial⟩ ⟨rr,rr,rr,rr,trivial⟩
  refine Tr.exit ?_
  conv=>whnf
  refine ⟨(),h,?_⟩
  exact Wk.mk2 [] 1 rfl rfl (by decide) rfl trivial ⟨rr,trivial⟩
 clear h
 rintro _ h T1 H1 hw
 replace h:M145 ()=some r_3:=h
 conv=>whnf
 refine Tr.weak hw ?_
 unfold M145 at h
 refine sg ?_
 conv=>whnf
 refine Tr.ret ?_
 conv=>whnf
 cases h
 rfl
theorem P155 (f_1:TField) (h_2:THistory) (r_3:Bool) (h:M155 f_1 h_2=some r_3) :
    PC prog 17 [(eTField f_1),(eTHistory h_2)] (fun rs=>rs=[(.b r_3)]):=by
 refine PC.of_tr (cx:=⟨153,none,lay,0⟩) layOK func17 rfl rfl rfl rfl rfl (by simp [f17]) ?_
 unfold M155 at h
 refine sg ?_
 conv=>whnf
 refine Tr.seq ?_
 refine sg ?_
 conv=>whnf
 obtain ⟨r_4,hc5,h⟩:=bS h
 refine PC.ecall (P146 f_1 h_2.World r_4 hc5) (fun rs hrs=>?_)
 subst hrs
 conv=>whnf
 refine cB h (fun hb6 h=>?_) (fun hb6 h=>?_)
 ·conv=>whnf
  refine Tr.cond ?_
  conv=>whnf
  refine sg ?_
  conv=>whnf
  refine Tr.ret ?_
  conv=>whnf
  cases h
  rfl
 conv=>whnf
 refine lnS_map ?_
 conv=>whnf
 refine lnS_map ?_
 conv=>whnf
 refine cB h (fun hb7 h=>?_) (fun hb7 h=>?_)
 ·conv=>whnf
  refine Tr.cond ?_
  conv=>whnf
  refine sg ?_
  conv=>whnf
  refine Tr.ret ?_
  conv=>whnf
  cases h
  rfl
 conv=>whnf
 refine lnS_map ?_
 conv=>whnf
 refine lnS_map ?_
 conv=>whnf
 refine Tr.cond ?_
 conv=>whnf
 refine cB h (fun hb8 h=>?_) (fun hb8 h=>?_)
 ·refine sg ?_
  conv=>whnf
  refine Tr.ret ?_
  conv=>whnf
  cases h
  rfl
 refine Tr.skip ?_
 conv=>whnf
 refine sg ?_
 conv=>whnf
 refine orB_l ?_
 conv=>whnf
 refine frP_no ?_
 conv=>whnf
 refine eqS_mk (by first | rfl | simp) ?_
 conv=>whnf
 obtain ⟨l_9,hl_9,h⟩:=bS h
 refine apS_of hl_9 (aQ (f:=eI) (l:=h_2.Offsets) fun _=>rfl) (by first | rfl | simp) (by first | rfl | simp) (fun he=>?_)
 conv=>whnf
 refine rS (es':=List.map .d (List.map eI l_9)) (n':=List.length l_9) (by subst he; simp only [List.map_append,List.map_cons,List.map_nil,List.nil_append]; first | done | rfl) (by subst he; simp <;> omega) ?_
 clear he
 conv=>whnf
 refine Tr.seq ?_
 refine sg ?_
 conv=>whnf
 refine Tr.cutQ (α:=Unit) (fun s=>([(2,.pt 0 0),(3,.pt 1 0),(4,.d (.b false)),(5,.sl 2 1 0 (List.length l_9))],[some (.var [.d (.ls (List.map eTSegment f_1.Clocks.Segments)),.d (.ls (List.map (eL eI) f_1.Clocks.Far)),.d (.ls (List.map eTPair f_1.Pairs)),.d (.ls (List.map eTRunner f_1.Runners))]),some (.var [(dI h_2.World),.d (.ls (List.map eI h_2.Offsets)),.d (.ls (List.map eTChoice h_2.Choices))]),some (.arr 1 (List.map .d (List.map eI l_9)))])) (fun s=>M154 f_1 h_2 l_9 s=some r_3) ?_ ?_
 ·refine Tr.block ?_
  refine Tr.loopM (σ:=Int) (fun n s=>M147 l_9 (M154 f_1 h_2 l_9) n s) r_3 (fun s=>([(2,.pt 0 0),(3,.pt 1 0),(4,.d (.b false)),(5,.sl 2 1 0 (List.length l_9)),(6,(dI s))],[some (.var [.d (.ls (List.map eTSegment f_1.Clocks.Segments)),.d (.ls (List.map (eL eI) f_1.Clocks.Far)),.d (.ls (List.map eTPair f_1.Pairs)),.d (.ls (List.map eTRunner f_1.Runners))]),some (.var [(dI h_2.World),.d (.ls (List.map eI h_2.Offsets)),.d (.ls (List.map eTChoice h_2.Choices))]),some (.arr 1 (List.map .d (List.map eI l_9)))])) (((((l_9).length:Int)) - 0:Int).toNat+1) (0) h (fun s=>rfl) (Wk.mk2 [0,1,3] 4 rfl rfl (by decide) rfl ⟨rr,rr,daS_d rfl,trivial⟩ ⟨rr,rr,rr,⟨rfl,(by first | rfl | (simp only [↓hb6,↓hb7,↓hb8,bl]; done) | (simp only [↓hb6,↓hb7,↓hb8,bl]; rfl))⟩,rr,trivial⟩) ?_
  clear h
  rintro n_12 i_11 h
  replace h:M147 l_9 (M154 f_1 h_2 l_9) (n_12+1) i_11=some r_3:=h
  rw [M147] at h
  refine Tr.seq ?_
  refine sg ?_
  conv=>whnf
  refine lnS_mk rfl ?_
  conv=>whnf
  refine Tr.cond ?_
  conv=>whnf
  refine cB h (fun hb15 h=>?_) (fun hb15 h=>?_)
  ·refine Tr.skip ?_
   conv=>whnf
   refine Tr.seq ?_
   refine Tr.block ?_
   refine sg ?_
   conv=>whnf
   obtain ⟨x_16,hx_16,h⟩:=bS h
   refine ixS_of hx_16 rfl ?_
   conv=>whnf
   refine elP_of hx_16 ?_
   conv=>whnf
   refine cB h (fun hb17 h=>?_) (fun hb17 h=>?_)
   ·conv=>whnf
    refine Tr.cond ?_
    conv=>whnf
    refine sg ?_
    conv=>whnf
    refine Tr.ret ?_
    conv=>whnf
    cases h
    rfl
   conv=>whnf
   obtain ⟨x_18,hx_18,h⟩:=bS h
   refine ixS_of hx_18 rfl ?_
   conv=>whnf
   refine elP_of hx_18 ?_
   conv=>whnf
   refine Tr.cond ?_
   conv=>whnf
   refine cB h (fun hb19 h=>?_) (fun hb19 h=>?_)
   ·refine sg ?_
    conv=>whnf
    refine Tr.ret ?_
    conv=>whnf
    cases h
    rfl
   refine Tr.skip ?_
   conv=>whnf
   refine rg ?_
   conv=>whnf
   refine arS_raw ?_
   conv=>whnf
   refine ⟨((w64 (i_11+1))),h,?_⟩
   exact Wk.mk2 [0,1,2] 3 rfl rfl (by decide) rfl ⟨rr,rr,daS_d rfl,trivial⟩ ⟨rr,rr,rr,rr,rr,trivial⟩
  refine Tr.exit ?_
  conv=>whnf
  refine ⟨(),h,?_⟩
  exact Wk.mk2 [0,1,2] 3 rfl rfl (by decide) rfl ⟨rr,rr,daS_d rfl,trivial⟩ ⟨rr,rr,rr,rr,trivial⟩
 clear h
 rintro _ h T1 H1 hw
 replace h:M154 f_1 h_2 l_9 ()=some r_3:=h
 conv=>whnf
 refine Tr.weak hw ?_
 unfold M154 at h
 refine Tr.seq ?_
 refine sg ?_
 conv=>whnf
 refine Tr.cutQ (α:=Unit) (fun s=>([(2,.pt 0 0),(3,.pt 1 0),(4,.d (.b false))],[some (.var [.d (.ls (List.map eTSegment f_1.Clocks.Segments)),.d (.ls (List.map (eL eI) f_1.Clocks.Far)),.d (.ls (List.map eTPair f_1.Pairs)),.d (.ls (List.map eTRunner f_1.Runners))]),some (.var [(dI h_2.World),.d (.ls (List.map eI h_2.Offsets)),.d (.ls (List.map eTChoice h_2.Choices))])])) (fun s=>M153 f_1 h_2 s=some r_3) ?_ ?_
 ·refine Tr.block ?_
  refine Tr.loopM (σ:=Int) (fun n s=>M150 f_1 l_9 (M153 f_1 h_2) n s) r_3 (fun s=>([(2,.pt 0 0),(3,.pt 1 0),(4,.d (.b false)),(5,.sl 2 1 0 (List.length l_9)),(7,(dI s))],[some (.var [.d (.ls (List.map eTSegment f_1.Clocks.Segments)),.d (.ls (List.map (eL eI) f_1.Clocks.Far)),.d (.ls (List.map eTPair f_1.Pairs)),.d (.ls (List.map eTRunner f_1.Runners))]),some (.var [(dI h_2.World),.d (.ls (List.map eI h_2.Offsets)),.d (.ls (List.map eTChoice h_2.Choices))]),some (.arr 1 (List.map .d (List.map eI l_9)))])) (((((l_9).length:Int)) - 0:Int).toNat+1) (0) h (fun s=>rfl) (Wk.mk2 [0,1,2] 3 rfl rfl (by decide) rfl ⟨rr,rr,daS_d rfl,trivial⟩ ⟨rr,rr,rr,rr,rr,trivial⟩) ?_
  clear h
  rintro n_22 i_21 h
  replace h:M150 f_1 l_9 (M153 f_1 h_2) (n_22+1) i_21=some r_3:=h
  rw [M150] at h
  refine Tr.seq ?_
  refine sg ?_
  conv=>whnf
  refine lnS_mk rfl ?_
  conv=>whnf
  refine Tr.cond ?_
  conv=>whnf
  refine cB h (fun hb25 h=>?_) (fun hb25 h=>?_)
  ·refine Tr.skip ?_
   conv=>whnf
   refine Tr.seq ?_
   refine Tr.block ?_
   refine sg ?_
   conv=>whnf
   refine Tr.cutQ (α:=Unit) (fun s=>([(2,.pt 0 0),(3,.pt 1 0),(4,.d (.b false)),(5,.sl 2 1 0 (List.length l_9)),(7,(dI i_21))],[some (.var [.d (.ls (List.map eTSegment f_1.Clocks.Segments)),.d (.ls (List.map (eL eI) f_1.Clocks.Far)),.d (.ls (List.map eTPair f_1.Pairs)),.d (.ls (List.map eTRunner f_1.Runners))]),some (.var [(dI h_2.World),.d (.ls (List.map eI h_2.Offsets)),.d (.ls (List.map eTChoice h_2.Choices))]),some (.arr 1 (List.map .d (List.map eI l_9)))])) (fun s=>M149 i_21 (M150 f_1 l_9 (M153 f_1 h_2) n_22) s=some r_3) ?_ ?_
   ·refine Tr.block ?_
    refine Tr.loopM (σ:=Int) (fun n s=>M148 f_1 l_9 i_21 (M149 i_21 (M150 f_1 l_9 (M153 f_1 h_2) n_22)) n s) r_3 (fun s=>([(2,.pt 0 0),(3,.pt 1 0),(4,.d (.b false)),(5,.sl 2 1 0 (List.length l_9)),(7,(dI i_21)),(8,(dI s))],[some (.var [.d (.ls (List.map eTSegment f_1.Clocks.Segments)),.d (.ls (List.map (eL eI) f_1.Clocks.Far)),.d (.ls (List.map eTPair f_1.Pairs)),.d (.ls (List.map eTRunner f_1.Runners))]),some (.var [(dI h_2.World),.d (.ls (List.map eI h_2.Offsets)),.d (.ls (List.map eTChoice h_2.Choices))]),some (.arr 1 (List.map .d (List.map eI l_9)))])) (((((l_9).length:Int)) - 0:Int).toNat+1) (0) h (fun s=>rfl) (Wk.mk2 [0,1,2] 3 rfl rfl (by decide) rfl ⟨rr,rr,daS_d rfl,trivial⟩ ⟨rr,rr,rr,rr,rr,rr,trivial⟩) ?_
    clear h
    rintro n_28 k_27 h
    replace h:M148 f_1 l_9 i_21 (M149 i_21 (M150 f_1 l_9 (M153 f_1 h_2) n_22)) (n_28+1) k_27=some r_3:=h
    rw [M148] at h
    refine Tr.seq ?_
    refine sg ?_
    conv=>whnf
    refine lnS_mk rfl ?_
    conv=>whnf
    refine Tr.cond ?_
    conv=>whnf
    refine cB h (fun hb31 h=>?_) (fun hb31 h=>?_)
    ·refine Tr.skip ?_
     conv=>whnf
     refine Tr.seq ?_
     refine Tr.block ?_
     refine sd [] [(0,1),(1,1),(2,5),(3,5),(4,1),(5,1),(6,5),(7,5),(8,1),(9,3),(10,3),(11,3),(12,1),(13,2),(14,2),(15,1),(16,2),(17,2),(18,1)] ?_
     conv=>whnf
     refine q1 ?_
     conv=>whnf
     refine q1 ?_
     conv=>whnf
     obtain ⟨x_32,hx_32,h⟩:=bS h
     refine q3 (ixS_of hx_32 rfl rr) ?_
     conv=>whnf
     refine q3 (elP_of hx_32 rr) ?_
     conv=>whnf
     refine q1 ?_
     conv=>whnf
     refine q1 ?_
     conv=>whnf
     obtain ⟨x_33,hx_33,h⟩:=bS h
     refine q3 (ixS_of hx_33 rfl rr) ?_
     conv=>whnf
     refine q3 (elP_of hx_33 rr) ?_
     conv=>whnf
     refine q4 ?_
     conv=>whnf
     refine q2 ?_
     conv=>whnf
     refine q2 ?_
     conv=>whnf
     refine q2 ?_
     conv=>whnf
     refine q1 ?_
     conv=>whnf
     obtain ⟨x_34,hx_34,h⟩:=bS h
     refine q3 (ixP_of hx_34 rr) ?_
     conv=>whnf
     refine q2 ?_
     conv=>whnf
     refine q1 ?_
     conv=>whnf
     obtain ⟨x_35,hx_35,h⟩:=bS h
     refine q3 (ixP_of hx_35 rr) ?_
     conv=>whnf
     refine q2 ?_
     conv=>whnf
     refine q1 ?_
     conv=>whnf
     refine Tr.cond ?_
     conv=>whnf
     refine cB h (fun hb36 h=>?_) (fun hb36 h=>?_)
     ·refine sg ?_
      conv=>whnf
      refine Tr.ret ?_
      conv=>whnf
      cases h
      rfl
     refine Tr.skip ?_
     conv=>whnf
     refine rg ?_
     conv=>whnf
     refine arS_raw ?_
     conv=>whnf
     refine ⟨((w64 (k_27+1))),h,?_⟩
     exact Wk.mk2 [0,1,2] 3 rfl rfl (by decide) rfl ⟨rr,rr,daS_d rfl,trivial⟩ ⟨rr,rr,rr,rr,rr,rr,trivial⟩
    refine Tr.exit ?_
    conv=>whnf
    refine ⟨(),h,?_⟩
    exact Wk.mk2 [0,1,2] 3 rfl rfl (by decide) rfl ⟨rr,rr,daS_d rfl,trivial⟩ ⟨rr,rr,rr,rr,rr,trivial⟩
   clear h
   rintro _ h T1 H1 hw
   replace h:M149 i_21 (M150 f_1 l_9 (M153 f_1 h_2) n_22) ()=some r_3:=h
   conv=>whnf
   refine Tr.weak hw ?_
   unfold M149 at h
   refine rg ?_
   conv=>whnf
   refine arS_raw ?_
   conv=>whnf
   refine ⟨((w64 (i_21+1))),h,?_⟩
   exact Wk.mk2 [0,1,2] 3 rfl rfl (by decide) rfl ⟨rr,rr,daS_d rfl,trivial⟩ ⟨rr,rr,rr,rr,rr,trivial⟩
  refine Tr.exit ?_
  conv=>whnf
  refine ⟨(),h,?_⟩
  exact Wk.mk2 [0,1] 3 rfl rfl (by decide) rfl ⟨rr,rr,trivial⟩ ⟨rr,rr,rr,trivial⟩
 clear h
 rintro _ h T1 H1 hw
 replace h:M153 f_1 h_2 ()=some r_3:=h
 conv=>whnf
 refine Tr.weak hw ?_
 unfold M153 at h
 refine Tr.seq ?_
 refine sg ?_
 conv=>whnf
 refine Tr.cutQ (α:=Unit) (fun s=>([(4,.d (.b false))],[])) (fun s=>M152 s=some r_3) ?_ ?_
 ·refine Tr.block ?_
  refine Tr.loopM (σ:=Int) (fun n s=>M151 f_1 h_2 M152 n s) r_3 (fun s=>([(2,.pt 0 0),(3,.pt 1 0),(4,.d (.b false)),(9,(dI s))],[some (.var [.d (.ls (List.map eTSegment f_1.Clocks.Segments)),.d (.ls (List.map (eL eI) f_1.Clocks.Far)),.d (.ls (List.map eTPair f_1.Pairs)),.d (.ls (List.map eTRunner f_1.Runners))]),some (.var [(dI h_2.World),.d (.ls (List.map eI h_2.Offsets)),.d (.ls (List.map eTChoice h_2.Choices))])])) (((((h_2.Choices).length:Int)) - 0:Int).toNat+1) (0) h (fun s=>rfl) (Wk.mk2 [0,1] 2 rfl rfl (by decide) rfl ⟨rr,rr,trivial⟩ ⟨rr,rr,rr,rr,trivial⟩) ?_
  clear h
  rintro n_39 i_38 h
  replace h:M151 f_1 h_2 M152 (n_39+1) i_38=some r_3:=h
  rw [M151] at h
  refine Tr.seq ?_
  refine sg ?_
  conv=>whnf
  refine lnS_map ?_
  conv=>whnf
  refine Tr.cond ?_
  conv=>whnf
  refine cB h (fun hb42 h=>?_) (fun hb42 h=>?_)
  ·refine Tr.skip ?_
   conv=>whnf
   refine Tr.seq ?_
   refine Tr.block ?_
   refine sd [] [(0,3),(1,3),(2,1),(3,2),(4,2),(5,2),(6,4),(7,4),(8,2),(9,2),(10,1)] ?_
   conv=>whnf
   refine q2 ?_
   conv=>whnf
   refine q2 ?_
   conv=>whnf
   refine q1 ?_
   conv=>whnf
   obtain ⟨x_43,hx_43,h⟩:=bS h
   refine q3 (ixP_of hx_43 rr) ?_
   conv=>whnf
   refine q2 ?_
   conv=>whnf
   refine q2 ?_
   conv=>whnf
   refine q2 ?_
   conv=>whnf
   refine q2 ?_
   conv=>whnf
   obtain ⟨x_44,hx_44,h⟩:=bS h
   refine q3 (ixP_of hx_44 rr) ?_
   conv=>whnf
   refine q2 ?_
   conv=>whnf
   refine q1 ?_
   conv=>whnf
   refine sg ?_
   conv=>whnf
   obtain ⟨x_45,hx_45,h⟩:=bS h
   refine ixP_of hx_45 ?_
   conv=>whnf
   refine Tr.seq ?_
   refine sg ?_
   conv=>whnf
   refine cB h (fun hb46 h=>?_) (fun hb46 h=>?_)
   ·conv=>whnf
    refine Tr.cond ?_
    conv=>whnf
    refine sg ?_
    conv=>whnf
    refine Tr.ret ?_
    conv=>whnf
    cases h
    rfl
   conv=>whnf
   refine lnS_map ?_
   conv=>whnf
   refine Tr.cond ?_
   conv=>whnf
   refine cB h (fun hb47 h=>?_) (fun hb47 h=>?_)
   ·refine sg ?_
    conv=>whnf
    refine Tr.ret ?_
    conv=>whnf
    cases h
    rfl
   refine Tr.skip ?_
   conv=>whnf
   refine sg ?_
   conv=>whnf
   obtain ⟨x_48,hx_48,h⟩:=bS h
   refine ixP_of hx_48 ?_
   conv=>whnf
   refine Tr.seq ?_
   refine Tr.cutQ1 ([(2,.pt 0 0),(3,.pt 1 0),(4,.d (.b false)),(9,(dI i_38)),(152,.d (.b (bif x_48.Out then (x_45.X != 0) else ((decide (x_45.X < x_48.Lo)) || (decide (x_45.X > x_48.Hi))))))]) ([some (.var [.d (.ls (List.map eTSegment f_1.Clocks.Segments)),.d (.ls (List.map (eL eI) f_1.Clocks.Far)),.d (.ls (List.map eTPair f_1.Pairs)),.d (.ls (List.map eTRunner f_1.Runners))]),some (.var [(dI h_2.World),.d (.ls (List.map eI h_2.Offsets)),.d (.ls (List.map eTChoice h_2.Choices))])]) ?_ (fun T1 H1 hw=>?_)
   ·refine rg ?_
    conv=>whnf
    refine condS_mk (fun hb50=>?_) (fun hb50=>?_)
    ·conv=>whnf
     refine condS_mk (fun hb51=>?_) (fun hb51=>?_)
     ·conv=>whnf
      exact Wk.mk2 [0,1] 4 rfl rfl (by decide) rfl ⟨rr,rr,trivial⟩ ⟨rr,rr,rr,rr,⟨rfl,(by first | rfl | (simp only [↓hb6,↓hb7,↓hb8,↓hb42,↓hb46,↓hb47,↓hb50,↓hb51,bl]; done) | (simp only [↓hb6,↓hb7,↓hb8,↓hb42,↓hb46,↓hb47,↓hb50,↓hb51,bl]; rfl))⟩,trivial⟩
     conv=>whnf
     refine condS_kf (by rw [hb50]; rfl) ?_
     conv=>whnf
     exact Wk.mk2 [0,1] 4 rfl rfl (by decide) rfl ⟨rr,rr,trivial⟩ ⟨rr,rr,rr,rr,⟨rfl,(by first | rfl | (simp only [↓hb6,↓hb7,↓hb8,↓hb42,↓hb46,↓hb47,↓hb50,↓hb51,bl]; done) | (simp only [↓hb6,↓hb7,↓hb8,↓hb42,↓hb46,↓hb47,↓hb50,↓hb51,bl]; rfl))⟩,trivial⟩
    conv=>whnf
    refine condS_kt (by rw [hb50]; rfl) ?_
    conv=>whnf
    refine condS_mk (fun hb52=>?_) (fun hb52=>?_)
    ·conv=>whnf
     exact Wk.mk2 [0,1] 4 rfl rfl (by decide) rfl ⟨rr,rr,trivial⟩ ⟨rr,rr,rr,rr,⟨rfl,(by first | rfl | (simp only [↓hb6,↓hb7,↓hb8,↓hb42,↓hb46,↓hb47,↓hb50,↓hb52,bl]; done) | (simp only [↓hb6,↓hb7,↓hb8,↓hb42,↓hb46,↓hb47,↓hb50,↓hb52,bl]; rfl))⟩,trivial⟩
    conv=>whnf
    exact Wk.mk2 [0,1] 4 rfl rfl (by decide) rfl ⟨rr,rr,trivial⟩ ⟨rr,rr,rr,rr,⟨rfl,(by first | rfl | (simp only [↓hb6,↓hb7,↓hb8,↓hb42,↓hb46,↓hb47,↓hb50,↓hb52,bl]; done) | (simp only [↓hb6,↓hb7,↓hb8,↓hb42,↓hb46,↓hb47,↓hb50,↓hb52,bl]; rfl))⟩,trivial⟩
   conv=>whnf
   refine Tr.weak hw ?_
   refine Tr.cond ?_
   conv=>whnf
   refine cB h (fun hb53 h=>?_) (fun hb53 h=>?_)
   ·refine sg ?_
    conv=>whnf
    refine Tr.ret ?_
    conv=>whnf
    cases h
    rfl
   refine Tr.skip ?_
   conv=>whnf
   refine rg ?_
   conv=>whnf
   refine arS_raw ?_
   conv=>whnf
   refine ⟨((w64 (i_38+1))),h,?_⟩
   exact Wk.mk2 [0,1] 2 rfl rfl (by decide) rfl ⟨rr,rr,trivial⟩ ⟨rr,rr,rr,rr,trivial⟩
  refine Tr.exit ?_
  conv=>whnf
  refine ⟨(),h,?_⟩
  exact Wk.mk2 [] 2 rfl rfl (by decide) rfl trivial ⟨rr,trivial⟩
 clear h
 rintro _ h T1 H1 hw
 replace h:M152 ()=some r_3:=h
 conv=>whnf
 refine Tr.weak hw ?_
 unfold M152 at h
 refine sg ?_
 conv=>whnf
 refine Tr.ret ?_
 conv=>whnf
 cases h
 rfl
theorem P156 (f_1:TField) (h_2:THistory) (runner_3:Int) (r_4:TOutcome) (h:M156 f_1 h_2 runner_3=some r_4) :
    PC prog 69 [(eTField f_1),(eTHistory h_2),(.i .i64 runner_3)] (fun rs=>rs=[(eTOutcome r_4)]):=by
 refine PC.of_tr (cx:=⟨25,none,lay,0⟩) layOK func69 rfl rfl rfl rfl rfl (by simp [f69]) ?_
 unfold M156 at h
 refine sg ?_
 conv=>whnf
 refine sd [(18,2)] [(0,3),(1,3),(2,1),(3,2),(4,2),(5,2),(6,4),(7,4),(8,2),(9,2),(10,4),(11,4),(12,1),(13,2),(14,2),(15,2),(16,2),(17,2),(18,0)] ?_
 conv=>whnf
 refine q2 ?_
 conv=>whnf
 refine q2 ?_
 conv=>whnf
 refine q1 ?_
 conv=>whnf
 obtain ⟨x_5,hx_5,h⟩:=bS h
 refine q3 (ixP_of hx_5 rr) ?_
 conv=>whnf
 refine q2 ?_
 conv=>whnf
 refine q2 ?_
 conv=>whnf
 refine q2 ?_
 conv=>whnf
 refine q2 ?_
 conv=>whnf
 obtain ⟨x_6,hx_6,h⟩:=bS h
 refine q3 (ixP_of hx_6 rr) ?_
 conv=>whnf
 refine q2 ?_
 conv=>whnf
 refine q2 ?_
 conv=>whnf
 refine q2 ?_
 conv=>whnf
 refine q1 ?_
 conv=>whnf
 obtain ⟨x_7,hx_7,h⟩:=bS h
 refine q3 (ixP_of hx_7 rr) ?_
 conv=>whnf
 refine q2 ?_
 conv=>whnf
 refine q2 ?_
 conv=>whnf
 obtain ⟨x_8,hx_8,h⟩:=bS h
 refine q3 (ixP_of hx_8 rr) ?_
 conv=>whnf
 refine q2 ?_
 conv=>whnf
 refine ⟨_,_,rr,kp_ok (by repeat (first | exact trivial | refine ⟨trivial,?_⟩ | refine ⟨rfl,?_⟩)),?_⟩
 conv=>whnf
 refine Tr.ret ?_
 conv=>whnf
 cases h
 rfl
theorem P157 (h_1:THistory) (x_2:TOutcome) (r_3:Int) (h:M157 h_1 x_2=some r_3) :
    PC prog 70 [(eTHistory h_1),(eTOutcome x_2)] (fun rs=>rs=[(.i .i64 r_3)]):=by
 refine PC.of_tr (cx:=⟨14,none,lay,0⟩) layOK func70 rfl rfl rfl rfl rfl (by simp [f70]) ?_
 unfold M157 at h
 refine sg ?_
 conv=>whnf
 refine Tr.seq ?_
 refine sg ?_
 conv=>whnf
 refine Tr.cond ?_
 conv=>whnf
 refine cB h (fun hb4 h=>?_) (fun hb4 h=>?_)
 ·refine sg ?_
  conv=>whnf
  refine Tr.ret ?_
  conv=>whnf
  cases h
  rfl
 refine Tr.skip ?_
 conv=>whnf
 refine sg ?_
 conv=>whnf
 obtain ⟨x_5,hx_5,h⟩:=bS h
 refine ixP_of hx_5 ?_
 conv=>whnf
 refine Tr.ret ?_
 conv=>whnf
 cases h
 rfl
theorem P158 (f_1:TField) (h_2:THistory) (runner_3:Int) (r_4:Int) (r_5:Bool) (h:M158 f_1 h_2 runner_3=some (r_4,r_5)) :
    PC prog 47 [(eTField f_1),(eTHistory h_2),(.i .i64 runner_3)] (fun rs=>rs=[(.i .i64 r_4),(.b r_5)]):=by
 refine PC.of_tr (cx:=⟨25,none,lay,0⟩) layOK func47 rfl rfl rfl rfl rfl (by simp [f47]) ?_
 unfold M158 at h
 refine sg ?_
 conv=>whnf
 refine sg ?_
 conv=>whnf
 obtain ⟨r_6,hc7,h⟩:=bS h
 refine PC.ecall (P156 f_1 h_2 runner_3 r_6 hc7) (fun rs hrs=>?_)
 subst hrs
 conv=>whnf
 refine Tr.seq ?_
 refine sg ?_
 conv=>whnf
 refine Tr.cond ?_
 conv=>whnf
 refine cB h (fun hb8 h=>?_) (fun hb8 h=>?_)
 ·refine sg ?_
  conv=>whnf
  refine Tr.ret ?_
  conv=>whnf
  cases h
  rfl
 refine Tr.skip ?_
 conv=>whnf
 refine sd [] [(0,4),(1,4),(2,1),(3,2),(4,2),(5,2),(6,4),(7,5),(8,1),(9,1),(10,1),(11,1)] ?_
 conv=>whnf
 refine q2 ?_
 conv=>whnf
 refine q2 ?_
 conv=>whnf
 refine q1 ?_
 conv=>whnf
 obtain ⟨x_9,hx_9,h⟩:=bS h
 refine q3 (ixP_of hx_9 rr) ?_
 conv=>whnf
 refine q2 ?_
 conv=>whnf
 refine q2 ?_
 conv=>whnf
 refine q2 ?_
 conv=>whnf
 refine q2 ?_
 conv=>whnf
 obtain ⟨r_10,hc11,h⟩:=bS h
 refine q1 ?_ (fun _=>pe (P157 h_2 r_6 r_10 hc11) rr)
 conv=>whnf
 refine q4 ?_
 conv=>whnf
 refine q1 ?_
 conv=>whnf
 refine q1 ?_
 conv=>whnf
 refine Tr.ret ?_
 conv=>whnf
 cases h
 rfl
theorem P161 (a_1:List Int) (b_2:List Int) (r_3:Bool) (h:M161 a_1 b_2=some r_3) :
    PC prog 48 [(.ls (List.map eI a_1)),(.ls (List.map eI b_2))] (fun rs=>rs=[(.b r_3)]):=by
 refine PC.of_tr (cx:=⟨41,none,lay,0⟩) layOK func48 rfl rfl rfl rfl rfl (by simp [f48]) ?_
 unfold M161 at h
 refine sg ?_
 conv=>whnf
 refine Tr.seq ?_
 refine sg ?_
 conv=>whnf
 refine Tr.cutQ (α:=Unit) (fun s=>([(0,.d (.ls (List.map eI a_1))),(1,.d (.ls (List.map eI b_2))),(4,.d (.b false))],[])) (fun s=>M160 a_1 b_2 s=some r_3) ?_ ?_
 ·refine Tr.block ?_
  refine Tr.loopM (σ:=Int) (fun n s=>M159 a_1 b_2 (M160 a_1 b_2) n s) r_3 (fun s=>([(0,.d (.ls (List.map eI a_1))),(1,.d (.ls (List.map eI b_2))),(4,.d (.b false)),(5,(dI s))],[])) (((((a_1).length:Int)) - 0:Int).toNat+1) (0) h (fun s=>rfl) (Wk.mk2 [] 0 rfl rfl (by decide) rfl trivial ⟨rr,rr,rr,rr,trivial⟩) ?_
  clear h
  rintro n_6 i_5 h
  replace h:M159 a_1 b_2 (M160 a_1 b_2) (n_6+1) i_5=some r_3:=h
  rw [M159] at h
  refine Tr.seq ?_
  refine sg ?_
  conv=>whnf
  refine lnS_map ?_
  conv=>whnf
  refine cB h (fun hb9 h=>?_) (fun hb9 h=>?_)
  ·conv=>whnf
   refine lnS_map ?_
   conv=>whnf
   refine Tr.cond ?_
   conv=>whnf
   refine cB h (fun hb10 h=>?_) (fun hb10 h=>?_)
   ·refine Tr.skip ?_
    conv=>whnf
    refine Tr.seq ?_
    refine Tr.block ?_
    refine sd [] [(0,1),(1,1),(2,2),(3,2),(4,1),(5,1),(6,2),(7,2),(8,1)] ?_
    conv=>whnf
    refine q1 ?_
    conv=>whnf
    refine q1 ?_
    conv=>whnf
    obtain ⟨x_11,hx_11,h⟩:=bS h
    refine q3 (ixP_of hx_11 rr) ?_
    conv=>whnf
    refine q2 ?_
    conv=>whnf
    refine q1 ?_
    conv=>whnf
    refine q1 ?_
    conv=>whnf
    obtain ⟨x_12,hx_12,h⟩:=bS h
    refine q3 (ixP_of hx_12 rr) ?_
    conv=>whnf
    refine q2 ?_
    conv=>whnf
    refine q1 ?_
    conv=>whnf
    refine Tr.cond ?_
    conv=>whnf
    refine cB h (fun hb13 h=>?_) (fun hb13 h=>?_)
    ·refine sd [] [(0,1),(1,1),(2,2),(3,2),(4,1),(5,1),(6,2),(7,2),(8,1),(9,1)] ?_
     conv=>whnf
     refine q1 ?_
     conv=>whnf
     refine q1 ?_
     conv=>whnf
     obtain ⟨x_14,hx_14,h⟩:=bS h
     refine q3 (ixP_of hx_14 rr) ?_
     conv=>whnf
     refine q2 ?_
     conv=>whnf
     refine q1 ?_
     conv=>whnf
     refine q1 ?_
     conv=>whnf
     obtain ⟨x_15,hx_15,h⟩:=bS h
     refine q3 (ixP_of hx_15 rr) ?_
     conv=>whnf
     refine q2 ?_
     conv=>whnf
     refine q1 ?_
     conv=>whnf
     refine q1 ?_
     conv=>whnf
     refine Tr.ret ?_
     conv=>whnf
     cases h
     rfl
    refine Tr.skip ?_
    conv=>whnf
    refine rg ?_
    conv=>whnf
    refine arS_raw ?_
    conv=>whnf
    refine ⟨((w64 (i_5+1))),h,?_⟩
    exact Wk.mk2 [] 0 rfl rfl (by decide) rfl trivial ⟨rr,rr,rr,rr,trivial⟩
   refine Tr.exit ?_
   conv=>whnf
   refine ⟨(),h,?_⟩
   exact Wk.mk2 [] 0 rfl rfl (by decide) rfl trivial ⟨rr,rr,rr,trivial⟩
  conv=>whnf
  refine Tr.cond ?_
  conv=>whnf
  refine Tr.exit ?_
  conv=>whnf
  refine ⟨(),h,?_⟩
  exact Wk.mk2 [] 0 rfl rfl (by decide) rfl trivial ⟨rr,rr,rr,trivial⟩
 clear h
 rintro _ h T1 H1 hw
 replace h:M160 a_1 b_2 ()=some r_3:=h
 conv=>whnf
 refine Tr.weak hw ?_
 unfold M160 at h
 refine sg ?_
 conv=>whnf
 refine lnS_map ?_
 conv=>whnf
 refine lnS_map ?_
 conv=>whnf
 refine Tr.ret ?_
 conv=>whnf
 cases h
 rfl
theorem P162 (f_1:TField) (h_2:THistory) (a_3:Int) (b_4:Int) (r_5:Bool) (h:M162 f_1 h_2 a_3 b_4=some r_5) :
    PC prog 20 [(eTField f_1),(eTHistory h_2),(.i .i64 a_3),(.i .i64 b_4)] (fun rs=>rs=[(.b r_5)]):=by
 refine PC.of_tr (cx:=⟨57,none,lay,0⟩) layOK func20 rfl rfl rfl rfl rfl (by simp [f20]) ?_
 unfold M162 at h
 refine sg ?_
 conv=>whnf
 refine sg ?_
 conv=>whnf
 obtain ⟨⟨r_6,r_7⟩,hc8,h⟩:=bS h
 refine PC.ecall (P158 f_1 h_2 a_3 r_6 r_7 hc8) (fun rs hrs=>?_)
 subst hrs
 conv=>whnf
 refine sg ?_
 conv=>whnf
 obtain ⟨⟨r_9,r_10⟩,hc11,h⟩:=bS h
 refine PC.ecall (P158 f_1 h_2 b_4 r_9 r_10 hc11) (fun rs hrs=>?_)
 subst hrs
 conv=>whnf
 refine Tr.seq ?_
 refine sg ?_
 conv=>whnf
 refine cB h (fun hb12 h=>?_) (fun hb12 h=>?_)
 ·conv=>whnf
  refine Tr.cond ?_
  conv=>whnf
  refine sg ?_
  conv=>whnf
  refine Tr.ret ?_
  conv=>whnf
  cases h
  rfl
 conv=>whnf
 refine Tr.cond ?_
 conv=>whnf
 refine cB h (fun hb13 h=>?_) (fun hb13 h=>?_)
 ·refine sg ?_
  conv=>whnf
  refine Tr.ret ?_
  conv=>whnf
  cases h
  rfl
 refine Tr.skip ?_
 conv=>whnf
 refine sd [] [(0,1),(1,1),(2,1),(3,1),(4,1),(5,1),(6,1),(7,1),(8,3),(9,3),(10,1),(11,2),(12,2),(13,2),(14,3),(15,3),(16,1),(17,2),(18,2),(19,2),(20,1),(21,1),(22,1),(23,1)] ?_
 conv=>whnf
 refine q1 ?_
 conv=>whnf
 refine q1 ?_
 conv=>whnf
 refine q1 ?_
 conv=>whnf
 refine q1 ?_
 conv=>whnf
 refine cB h (fun hb14 h=>?_) (fun hb14 h=>?_)
 ·conv=>whnf
  refine q1 ?_
  conv=>whnf
  refine q1 ?_
  conv=>whnf
  refine Tr.ret ?_
  conv=>whnf
  cases h
  rfl
 conv=>whnf
 refine q1 ?_
 conv=>whnf
 refine q1 ?_
 conv=>whnf
 refine q1 ?_
 conv=>whnf
 refine q1 ?_
 conv=>whnf
 refine cB h (fun hb15 h=>?_) (fun hb15 h=>?_)
 ·conv=>whnf
  refine q2 ?_
  conv=>whnf
  refine q2 ?_
  conv=>whnf
  refine q1 ?_
  conv=>whnf
  obtain ⟨x_16,hx_16,h⟩:=bS h
  refine q3 (ixP_of hx_16 rr) ?_
  conv=>whnf
  refine q2 ?_
  conv=>whnf
  refine q2 ?_
  conv=>whnf
  refine q2 ?_
  conv=>whnf
  refine q2 ?_
  conv=>whnf
  refine q1 ?_
  conv=>whnf
  obtain ⟨x_17,hx_17,h⟩:=bS h
  refine q3 (ixP_of hx_17 rr) ?_
  conv=>whnf
  refine q2 ?_
  conv=>whnf
  refine q2 ?_
  conv=>whnf
  obtain ⟨r_18,hc19,h⟩:=bS h
  refine q1 ?_ (fun _=>pe (P161 x_16.Keys x_17.Keys r_18 hc19) rr)
  conv=>whnf
  refine q1 ?_
  conv=>whnf
  refine q1 ?_
  conv=>whnf
  refine q1 ?_
  conv=>whnf
  refine Tr.ret ?_
  conv=>whnf
  cases h
  rfl
 conv=>whnf
 refine q1 ?_
 conv=>whnf
 refine q1 ?_
 conv=>whnf
 refine q1 ?_
 conv=>whnf
 refine Tr.ret ?_
 conv=>whnf
 cases h
 rfl
theorem P164 (f_1:TField) (h_2:THistory) (runner_3:Int) (r_4:Int) (h:M164 f_1 h_2 runner_3=some r_4) :
    PC prog 19 [(eTField f_1),(eTHistory h_2),(.i .i64 runner_3)] (fun rs=>rs=[(.i .i64 r_4)]):=by
 refine PC.of_tr (cx:=⟨35,none,lay,0⟩) layOK func19 rfl rfl rfl rfl rfl (by simp [f19]) ?_
 unfold M164 at h
 refine sg ?_
 conv=>whnf
 refine sg ?_
 conv=>whnf
 obtain ⟨⟨r_5,r_6⟩,hc7,h⟩:=bS h
 refine PC.ecall (P158 f_1 h_2 runner_3 r_5 r_6 hc7) (fun rs hrs=>?_)
 subst hrs
 conv=>whnf
 refine Tr.seq ?_
 refine sg ?_
 conv=>whnf
 refine Tr.cond ?_
 conv=>whnf
 refine cB h (fun hb8 h=>?_) (fun hb8 h=>?_)
 ·refine sg ?_
  conv=>whnf
  refine Tr.ret ?_
  conv=>whnf
  cases h
  rfl
 refine Tr.skip ?_
 conv=>whnf
 refine sg ?_
 conv=>whnf
 refine Tr.seq ?_
 refine sg ?_
 conv=>whnf
 obtain ⟨n_14,hv21,h⟩:=bS h
 refine Tr.cutQ1 ([(6,(dI 0)),(9,(dI n_14))]) ([]) ?_ (fun T1 H1 hw=>?_)
 ·replace h:=hv21; clear hv21
  refine Tr.block ?_
  refine Tr.loopM (σ:=Int × Int) (fun n s=>M163 f_1 h_2 runner_3 n s.1 s.2) n_14 (fun s=>([(2,(dI runner_3)),(3,.pt 0 0),(4,.pt 1 0),(6,(dI 0)),(9,(dI s.1)),(10,(dI s.2))],[some (.var [.d (.ls (List.map eTSegment f_1.Clocks.Segments)),.d (.ls (List.map (eL eI) f_1.Clocks.Far)),.d (.ls (List.map eTPair f_1.Pairs)),.d (.ls (List.map eTRunner f_1.Runners))]),some (.var [(dI h_2.World),.d (.ls (List.map eI h_2.Offsets)),.d (.ls (List.map eTChoice h_2.Choices))])])) (((((f_1.Runners).length:Int)) - 0:Int).toNat+1) (1,0) h (fun s=>rfl) (Wk.mk2 [0,1] 2 rfl rfl (by decide) rfl ⟨rr,rr,trivial⟩ ⟨rr,rr,rr,rr,rr,rr,trivial⟩) ?_
  clear h
  rintro n_13 ⟨n_11,i_12⟩ h
  replace h:M163 f_1 h_2 runner_3 (n_13+1) n_11 i_12=some n_14:=h
  rw [M163] at h
  refine Tr.seq ?_
  refine sg ?_
  conv=>whnf
  refine lnS_map ?_
  conv=>whnf
  refine Tr.cond ?_
  conv=>whnf
  refine cB h (fun hb17 h=>?_) (fun hb17 h=>?_)
  ·refine Tr.skip ?_
   conv=>whnf
   refine Tr.seq ?_
   refine Tr.block ?_
   refine sg ?_
   conv=>whnf
   obtain ⟨r_18,hc19,h⟩:=bS h
   refine PC.ecall (P162 f_1 h_2 i_12 runner_3 r_18 hc19) (fun rs hrs=>?_)
   subst hrs
   conv=>whnf
   refine Tr.cond ?_
   conv=>whnf
   refine cB h (fun hb20 h=>?_) (fun hb20 h=>?_)
   ·refine rg ?_
    conv=>whnf
    refine arS_raw ?_
    conv=>whnf
    refine rg ?_
    conv=>whnf
    refine arS_raw ?_
    conv=>whnf
    refine ⟨((w64 (n_11+1)),(w64 (i_12+1))),h,?_⟩
    exact Wk.mk2 [0,1] 2 rfl rfl (by decide) rfl ⟨rr,rr,trivial⟩ ⟨rr,rr,rr,rr,rr,rr,trivial⟩
   refine Tr.skip ?_
   conv=>whnf
   refine rg ?_
   conv=>whnf
   refine arS_raw ?_
   conv=>whnf
   refine ⟨(n_11,(w64 (i_12+1))),h,?_⟩
   exact Wk.mk2 [0,1] 2 rfl rfl (by decide) rfl ⟨rr,rr,trivial⟩ ⟨rr,rr,rr,rr,rr,rr,trivial⟩
  refine Tr.exit ?_
  conv=>whnf
  cases h
  exact Wk.mk2 [] 2 rfl rfl (by decide) rfl trivial ⟨rr,rr,trivial⟩
 clear hv21
 conv=>whnf
 refine Tr.weak hw ?_
 refine sg ?_
 conv=>whnf
 refine Tr.ret ?_
 conv=>whnf
 cases h
 rfl
theorem P168 (rc_9060:TField→Int→Int→(List Int)→(List TChoice)→(List TSegment)→(List (List Int))→(List TPair)→(List TRunner)→Int→Bool→Int→Int→Option (List Int × List TChoice × Bool × Int × Int)) (ih_9060:∀ (f_1:TField) (at_2:Int) (v_3:Int) (l_4:List Int) (l_5:List TChoice) (v_6:List TSegment) (v_7:List (List Int)) (v_8:List TPair) (v_9:List TRunner) (v_10:Int) (v_11:Bool) (v_12:Int) (v_13:Int) (l_14:List Int) (l_15:List TChoice) (b_16:Bool) (b_17:Int) (b_18:Int),rc_9060 f_1 at_2 v_3 l_4 l_5 v_6 v_7 v_8 v_9 v_10 v_11 v_12 v_13=some (l_14,l_15,b_16,b_17,b_18)→MC prog 23 [.d (eTField f_1),.pt 0 0,(dI at_2),.fn 24 [.pt 3 0,.pt 0 0,.pt 4 0,.pt 5 0,.pt 6 0,.pt 7 0]] [.var [(dI v_3),.sl 1 1 0 (List.length l_4),.sl 2 2 0 (List.length l_5)],.arr 1 (List.map .d (List.map eI l_4)),.arr 2 (List.map .d (List.map eTChoice l_5)),.var [.d (.ls (List.map eTSegment v_6)),.d (.ls (List.map (eL eI) v_7)),.d (.ls (List.map eTPair v_8)),.d (.ls (List.map eTRunner v_9))],.var [(dI v_10)],.var [.d (.b v_11)],.var [(dI v_12)],.var [(dI v_13)]] (fun rs Bs=>rs=[]∧Bs=[.var [(dI v_3),.sl 1 1 0 (List.length l_4),.sl 2 2 0 (List.length l_5)],.arr 1 (List.map .d (List.map eI l_14)),.arr 2 (List.map .d (List.map eTChoice l_15)),.var [.d (.ls (List.map eTSegment v_6)),.d (.ls (List.map (eL eI) v_7)),.d (.ls (List.map eTPair v_8)),.d (.ls (List.map eTRunner v_9))],.var [(dI v_10)],.var [.d (.b b_16)],.var [(dI b_17)],.var [(dI b_18)]])) (f_1:TField) (at_2:Int) (v_3:Int) (l_4:List Int) (l_5:List TChoice) (v_6:List TSegment) (v_7:List (List Int)) (v_8:List TPair) (v_9:List TRunner) (v_10:Int) (v_11:Bool) (v_12:Int) (v_13:Int) (l_14:List Int) (l_15:List TChoice) (b_16:Bool) (b_17:Int) (b_18:Int) (h:M168 rc_9060 f_1 at_2 v_3 l_4 l_5 v_6 v_7 v_8 v_9 v_10 v_11 v_12 v_13=some (l_14,l_15,b_16,b_17,b_18)) :
    MC prog 23 [.d (eTField f_1),.pt 0 0,(dI at_2),.fn 24 [.pt 3 0,.pt 0 0,.pt 4 0,.pt 5 0,.pt 6 0,.pt 7 0]] [.var [(dI v_3),.sl 1 1 0 (List.length l_4),.sl 2 2 0 (List.length l_5)],.arr 1 (List.map .d (List.map eI l_4)),.arr 2 (List.map .d (List.map eTChoice l_5)),.var [.d (.ls (List.map eTSegment v_6)),.d (.ls (List.map (eL eI) v_7)),.d (.ls (List.map eTPair v_8)),.d (.ls (List.map eTRunner v_9))],.var [(dI v_10)],.var [.d (.b v_11)],.var [(dI v_12)],.var [(dI v_13)]] (fun rs Bs=>rs=[]∧Bs=[.var [(dI v_3),.sl 1 1 0 (List.length l_4),.sl 2 2 0 (List.length l_5)],.arr 1 (List.map .d (List.map eI l_14)),.arr 2 (List.map .d (List.map eTChoice l_15)),.var [.d (.ls (List.map eTSegment v_6)),.d (.ls (List.map (eL eI) v_7)),.d (.ls (List.map eTPair v_8)),.d (.ls (List.map eTRunner v_9))],.var [(dI v_10)],.var [.d (.b b_16)],.var [(dI b_17)],.var [(dI b_18)]]):=by
 refine MC.of_tr (cx:=⟨111,none,lay,8⟩) layOK func23 rfl rfl rfl rfl rfl (by simp [f23]) ?_
 refine Tr.unW ?_
 unfold M168 at h
 refine sg ?_
 conv=>whnf
 refine sg ?_
 conv=>whnf
 refine lnS_map ?_
 conv=>whnf
 refine Tr.seq ?_
 refine sg ?_
 conv=>whnf
 refine lnS_map ?_
 conv=>whnf
 refine arS_raw ?_
 conv=>whnf
 refine Tr.cond ?_
 conv=>whnf
 refine cB h (fun hb19 h=>?_) (fun hb19 h=>?_)
 ·refine sg ?_
  conv=>whnf
  refine ECall.of_tr (cx:=⟨28,none,lay,9⟩) layOK func24 rfl rfl rfl rfl rfl (by simp [f24]) ?_
  refine Tr.seq ?_
  refine sg ?_
  conv=>whnf
  obtain ⟨r_20,hc21,h⟩:=bS h
  refine PC.ecall_lend ?_ ⟨_,_,func17,rfl,rfl⟩
  conv=>whnf
  refine frE_of (f:=eI) (l:=l_4) rfl ?_
  conv=>whnf
  refine frE_of (f:=eTChoice) (l:=l_5) rfl ?_
  conv=>whnf
  refine ⟨_,P155 (({ Clocks:=({ Segments:=v_6,Far:=v_7 }:TClocks),Pairs:=v_8,Runners:=v_9 }:TField)) ({ World:=v_3,Offsets:=l_4,Choices:=l_5 }:THistory) r_20 hc21,fun rs hrs=>?_⟩
  subst hrs
  refine ⟨rfl,?_⟩
  conv=>whnf
  refine Tr.cond ?_
  conv=>whnf
  refine cB h (fun hb22 h=>?_) (fun hb22 h=>?_)
  ·refine Tr.ret ?_
   conv=>whnf
   refine Tr.ret ?_
   conv=>whnf
   refine endH ?_
   conv=>whnf
   cases h
   exact endB rfl rfl rfl ⟨rfl,⟨_,rfl⟩,⟨_,rfl⟩,rfl,rfl,rfl,rfl,rfl,trivial⟩
  refine Tr.skip ?_
  conv=>whnf
  refine sg ?_
  conv=>whnf
  obtain ⟨r_23,hc24,h⟩:=bS h
  refine PC.ecall_lend ?_ ⟨_,_,func19,rfl,rfl⟩
  conv=>whnf
  refine frE_of (f:=eI) (l:=l_4) rfl ?_
  conv=>whnf
  refine frE_of (f:=eTChoice) (l:=l_5) rfl ?_
  conv=>whnf
  refine ⟨_,P164 (({ Clocks:=({ Segments:=v_6,Far:=v_7 }:TClocks),Pairs:=v_8,Runners:=v_9 }:TField)) ({ World:=v_3,Offsets:=l_4,Choices:=l_5 }:THistory) v_10 r_23 hc24,fun rs hrs=>?_⟩
  subst hrs
  refine ⟨rfl,?_⟩
  conv=>whnf
  refine Tr.seq ?_
  refine sg ?_
  conv=>whnf
  refine Tr.cond ?_
  conv=>whnf
  refine cB h (fun hb25 h=>?_) (fun hb25 h=>?_)
  ·refine sg ?_
   conv=>whnf
   refine Tr.ret ?_
   conv=>whnf
   refine Tr.ret ?_
   conv=>whnf
   refine endH ?_
   conv=>whnf
   cases h
   exact endB rfl rfl rfl ⟨rfl,⟨_,rfl⟩,⟨_,rfl⟩,rfl,rfl,rfl,rfl,rfl,trivial⟩
  refine Tr.skip ?_
  conv=>whnf
  refine Tr.seq ?_
  refine sg ?_
  conv=>whnf
  refine cB h (fun hb26 h=>?_) (fun hb26 h=>?_)
  ·conv=>whnf
   refine Tr.cond ?_
   conv=>whnf
   refine rg ?_
   conv=>whnf
   refine rg ?_
   conv=>whnf
   refine Tr.ret ?_
   conv=>whnf
   refine endH ?_
   conv=>whnf
   cases h
   exact endB rfl rfl rfl ⟨rfl,⟨_,rfl⟩,⟨_,rfl⟩,rfl,rfl,rfl,rfl,rfl,trivial⟩
  conv=>whnf
  refine Tr.cond ?_
  conv=>whnf
  refine cB h (fun hb27 h=>?_) (fun hb27 h=>?_)
  ·refine rg ?_
   conv=>whnf
   refine rg ?_
   conv=>whnf
   refine Tr.ret ?_
   conv=>whnf
   refine endH ?_
   conv=>whnf
   cases h
   exact endB rfl rfl rfl ⟨rfl,⟨_,rfl⟩,⟨_,rfl⟩,rfl,rfl,rfl,rfl,rfl,trivial⟩
  refine Tr.skip ?_
  conv=>whnf
  refine rg ?_
  conv=>whnf
  refine Tr.ret ?_
  conv=>whnf
  refine endH ?_
  conv=>whnf
  cases h
  exact endB rfl rfl rfl ⟨rfl,⟨_,rfl⟩,⟨_,rfl⟩,rfl,rfl,rfl,rfl,rfl,trivial⟩
 refine Tr.skip ?_
 conv=>whnf
 refine Tr.seq ?_
 refine sg ?_
 conv=>whnf
 refine Tr.cond ?_
 conv=>whnf
 refine cB h (fun hb28 h=>?_) (fun hb28 h=>?_)
 ·refine Tr.seq ?_
  refine sg ?_
  conv=>whnf
  refine arS_raw ?_
  conv=>whnf
  obtain ⟨x_29,hx_29,h⟩:=bS h
  refine ixP_of hx_29 ?_
  conv=>whnf
  obtain ⟨x_30,hx_30,h⟩:=bS h
  refine ixP_of hx_30 ?_
  conv=>whnf
  refine arS_raw ?_
  conv=>whnf
  obtain ⟨⟨l_44,l_45,v_46,v_47,v_48⟩,hv63,h⟩:=bS h
  refine Tr.cutQ1 ([(1,.pt 0 0),(2,(dI at_2)),(3,.fn 24 [.pt 3 0,.pt 0 0,.pt 4 0,.pt 5 0,.pt 6 0,.pt 7 0]),(4,.pt 8 0),(8,(dI (((f_1.Clocks.Segments).length:Int))))]) ([some (.var [(dI v_3),.sl 1 1 0 (List.length l_44),.sl 2 2 0 (List.length l_45)]),some (.arr 1 (List.map .d (List.map eI l_44))),some (.arr 2 (List.map .d (List.map eTChoice l_45))),some (.var [.d (.ls (List.map eTSegment v_6)),.d (.ls (List.map (eL eI) v_7)),.d (.ls (List.map eTPair v_8)),.d (.ls (List.map eTRunner v_9))]),some (.var [(dI v_10)]),some (.var [.d (.b v_46)]),some (.var [(dI v_47)]),some (.var [(dI v_48)]),some (.var [.d (.ls (List.map eTSegment f_1.Clocks.Segments)),.d (.ls (List.map (eL eI) f_1.Clocks.Far)),.d (.ls (List.map eTPair f_1.Pairs)),.d (.ls (List.map eTRunner f_1.Runners))])]) ?_ (fun T1 H1 hw=>?_)
  ·replace h:=hv63; clear hv63
   refine Tr.block ?_
   refine Tr.loopM (σ:=Int × List Int × List TChoice × Bool × Int × Int) (fun n s=>M165 f_1 at_2 v_3 v_6 v_7 v_8 v_9 v_10 rc_9060 n s.1 s.2.1 s.2.2.1 s.2.2.2.1 s.2.2.2.2.1 s.2.2.2.2.2) (l_44,l_45,v_46,v_47,v_48) (fun s=>([(1,.pt 0 0),(2,(dI at_2)),(3,.fn 24 [.pt 3 0,.pt 0 0,.pt 4 0,.pt 5 0,.pt 6 0,.pt 7 0]),(4,.pt 8 0),(8,(dI (((f_1.Clocks.Segments).length:Int)))),(9,(dI s.1))],[some (.var [(dI v_3),.sl 1 1 0 (List.length s.2.1),.sl 2 2 0 (List.length s.2.2.1)]),some (.arr 1 (List.map .d (List.map eI s.2.1))),some (.arr 2 (List.map .d (List.map eTChoice s.2.2.1))),some (.var [.d (.ls (List.map eTSegment v_6)),.d (.ls (List.map (eL eI) v_7)),.d (.ls (List.map eTPair v_8)),.d (.ls (List.map eTRunner v_9))]),some (.var [(dI v_10)]),some (.var [.d (.b s.2.2.2.1)]),some (.var [(dI s.2.2.2.2.1)]),some (.var [(dI s.2.2.2.2.2)]),some (.var [.d (.ls (List.map eTSegment f_1.Clocks.Segments)),.d (.ls (List.map (eL eI) f_1.Clocks.Far)),.d (.ls (List.map eTPair f_1.Pairs)),.d (.ls (List.map eTRunner f_1.Runners))])])) (((Option.getD (idx (Option.getD (idx f_1.Clocks.Far 0) default) (w64 (at_2+1))) default)+1 - (w64 (0 - x_30)):Int).toNat+1) ((w64 (0 - x_30)),l_4,l_5,v_11,v_12,v_13) h (fun s=>rfl) (Wk.mk2 [0,1,2,3,4,5,6,7,8] 9 rfl rfl (by decide) rfl ⟨rr,daS_d rfl,daS_d rfl,rr,rr,rr,rr,rr,rr,trivial⟩ ⟨rr,rr,rr,rr,rr,rr,trivial⟩) ?_
   clear h
   rintro n_43 ⟨o_37,l_38,l_39,v_40,v_41,v_42⟩ h
   replace h:M165 f_1 at_2 v_3 v_6 v_7 v_8 v_9 v_10 rc_9060 (n_43+1) o_37 l_38 l_39 v_40 v_41 v_42=some (l_44,l_45,v_46,v_47,v_48):=h
   rw [M165] at h
   refine Tr.seq ?_
   refine sg ?_
   conv=>whnf
   obtain ⟨x_51,hx_51,h⟩:=bS h
   refine ixP_of hx_51 ?_
   conv=>whnf
   refine arS_raw ?_
   conv=>whnf
   obtain ⟨x_52,hx_52,h⟩:=bS h
   refine ixP_of hx_52 ?_
   conv=>whnf
   refine Tr.cond ?_
   conv=>whnf
   refine cB h (fun hb53 h=>?_) (fun hb53 h=>?_)
   ·refine Tr.skip ?_
    conv=>whnf
    refine Tr.seq ?_
    refine Tr.block ?_
    refine sg ?_
    conv=>whnf
    obtain ⟨x_54,hx_54,h⟩:=bS h
    refine ixS_of hx_54 rfl ?_
    conv=>whnf
    refine elP_of hx_54 ?_
    conv=>whnf
    refine lvS_mk (es':=List.map .d (List.map eI (List.set l_38 (Int.toNat at_2) o_37))) (by simp only [Nat.zero_add,List.map_set]; first | done | rfl) ?_
    conv=>whnf
    refine rg ?_
    conv=>whnf
    refine arS_raw ?_
    conv=>whnf
    obtain ⟨⟨l_55,l_56,b_57,b_58,b_59⟩,hc60,h⟩:=bS h
    refine MC.ecall (ih_9060 f_1 ((w64 (at_2+1))) v_3 ((List.set l_38 (Int.toNat at_2) o_37)) l_39 v_6 v_7 v_8 v_9 v_10 v_40 v_41 v_42 l_55 l_56 b_57 b_58 b_59 hc60) [0,1,2,3,4,5,6,7] (by decide) (by first | rfl | (simp only [List.length_set]; rfl)) rfl ?_ (fun rs Bs1 hrs=>?_)
    · exact ⟨⟨rfl,(by first | exact rfl | (simp only [List.length_set]; exact rfl))⟩,⟨⟨_,rfl⟩,rfl⟩,⟨⟨_,rfl⟩,rfl⟩,⟨rfl,rfl⟩,⟨rfl,rfl⟩,⟨rfl,rfl⟩,⟨rfl,rfl⟩,⟨rfl,rfl⟩,trivial⟩
    obtain ⟨rfl,rfl⟩:=hrs
    conv=>whnf
    obtain ⟨_,hl61,h⟩:=bS h
    obtain ⟨_,hl62,h⟩:=bS h
    refine rg ?_
    conv=>whnf
    refine arS_raw ?_
    conv=>whnf
    refine ⟨((w64 (o_37+1)),l_55,l_56,b_57,b_58,b_59),h,?_⟩
    exact Wk.mk2 [0,1,2,3,4,5,6,7,8] 9 rfl rfl (by decide) rfl ⟨⟨rfl,(by first | rfl | (simp only [List.length_set,lenIs_eq hl61,lenIs_eq hl62]; done) | (simp only [List.length_set,lenIs_eq hl61,lenIs_eq hl62]; rfl) | simp [List.length_set,lenIs_eq hl61,lenIs_eq hl62])⟩,daS_d rfl,daS_d rfl,rr,rr,rr,rr,rr,rr,trivial⟩ ⟨rr,rr,rr,rr,rr,rr,trivial⟩
   refine Tr.exit ?_
   conv=>whnf
   cases h
   exact Wk.mk2 [0,1,2,3,4,5,6,7,8] 9 rfl rfl (by decide) rfl ⟨rr,daS_d rfl,daS_d rfl,rr,rr,rr,rr,rr,rr,trivial⟩ ⟨rr,rr,rr,rr,rr,trivial⟩
  clear hv63
  conv=>whnf
  refine Tr.weak hw ?_
  refine Tr.ret ?_
  conv=>whnf
  obtain ⟨_,hl64,h⟩:=bS h
  obtain ⟨_,hl65,h⟩:=bS h
  refine endH ?_
  conv=>whnf
  cases h
  exact endB rfl rfl (by simp only [List.length_set,lenIs_eq hl64,lenIs_eq hl65]; first | done | rfl) ⟨rfl,⟨_,rfl⟩,⟨_,rfl⟩,rfl,rfl,rfl,rfl,rfl,trivial⟩
 refine Tr.skip ?_
 conv=>whnf
 refine sd [] [(0,11),(1,11),(2,1),(3,1),(4,1),(5,2),(6,2),(7,2),(8,1),(9,3),(10,3),(11,3),(12,2),(13,2),(14,2),(15,1)] ?_
 conv=>whnf
 refine q2 ?_
 conv=>whnf
 refine q2 ?_
 conv=>whnf
 refine q1 ?_
 conv=>whnf
 refine q1 ?_
 conv=>whnf
 refine q4 ?_
 conv=>whnf
 obtain ⟨x_66,hx_66,h⟩:=bS h
 refine q3 (ixP_of hx_66 rr) ?_
 conv=>whnf
 refine q2 ?_
 conv=>whnf
 refine q2 ?_
 conv=>whnf
 refine q1 ?_
 conv=>whnf
 refine q2 ?_
 conv=>whnf
 refine q2 ?_
 conv=>whnf
 refine q2 ?_
 conv=>whnf
 obtain ⟨x_67,hx_67,h⟩:=bS h
 refine q3 (ixP_of hx_67 rr) ?_
 conv=>whnf
 refine q2 ?_
 conv=>whnf
 refine q3 (lnS_map rr) ?_
 conv=>whnf
 refine q1 ?_
 conv=>whnf
 obtain ⟨⟨l_81,l_82,v_83,v_84,v_85⟩,hv121,h⟩:=bS h
 refine Tr.cutQ1 ([]) ([some (.var [(dI v_3),.sl 1 1 0 (List.length l_81),.sl 2 2 0 (List.length l_82)]),some (.arr 1 (List.map .d (List.map eI l_81))),some (.arr 2 (List.map .d (List.map eTChoice l_82))),some (.var [.d (.ls (List.map eTSegment v_6)),.d (.ls (List.map (eL eI) v_7)),.d (.ls (List.map eTPair v_8)),.d (.ls (List.map eTRunner v_9))]),some (.var [(dI v_10)]),some (.var [.d (.b v_83)]),some (.var [(dI v_84)]),some (.var [(dI v_85)])]) ?_ (fun T1 H1 hw=>?_)
 ·replace h:=hv121; clear hv121
  refine Tr.block ?_
  refine Tr.loopM (σ:=Int × List Int × List TChoice × Bool × Int × Int) (fun n s=>M167 f_1 at_2 v_3 v_6 v_7 v_8 v_9 v_10 x_67 rc_9060 n s.1 s.2.1 s.2.2.1 s.2.2.2.1 s.2.2.2.2.1 s.2.2.2.2.2) (l_81,l_82,v_83,v_84,v_85) (fun s=>([(1,.pt 0 0),(2,(dI at_2)),(3,.fn 24 [.pt 3 0,.pt 0 0,.pt 4 0,.pt 5 0,.pt 6 0,.pt 7 0]),(4,.pt 8 0),(8,(dI (((f_1.Clocks.Segments).length:Int)))),(78,.d (.ls (List.map eTOutcome x_67))),(79,(dI (((x_67).length:Int)))),(80,(dI s.1))],[some (.var [(dI v_3),.sl 1 1 0 (List.length s.2.1),.sl 2 2 0 (List.length s.2.2.1)]),some (.arr 1 (List.map .d (List.map eI s.2.1))),some (.arr 2 (List.map .d (List.map eTChoice s.2.2.1))),some (.var [.d (.ls (List.map eTSegment v_6)),.d (.ls (List.map (eL eI) v_7)),.d (.ls (List.map eTPair v_8)),.d (.ls (List.map eTRunner v_9))]),some (.var [(dI v_10)]),some (.var [.d (.b s.2.2.2.1)]),some (.var [(dI s.2.2.2.2.1)]),some (.var [(dI s.2.2.2.2.2)]),some (.var [.d (.ls (List.map eTSegment f_1.Clocks.Segments)),.d (.ls (List.map (eL eI) f_1.Clocks.Far)),.d (.ls (List.map eTPair f_1.Pairs)),.d (.ls (List.map eTRunner f_1.Runners))])])) (((((x_67).length:Int)) - 0:Int).toNat+1) (0,l_4,l_5,v_11,v_12,v_13) h (fun s=>rfl) (Wk.mk2 [0,1,2,3,4,5,6,7,8] 9 rfl rfl (by decide) rfl ⟨rr,daS_d rfl,daS_d rfl,rr,rr,rr,rr,rr,rr,trivial⟩ ⟨rr,rr,rr,rr,rr,rr,rr,rr,trivial⟩) ?_
  clear h
  rintro n_80 ⟨v_74,l_75,l_76,v_77,v_78,v_79⟩ h
  replace h:M167 f_1 at_2 v_3 v_6 v_7 v_8 v_9 v_10 x_67 rc_9060 (n_80+1) v_74 l_75 l_76 v_77 v_78 v_79=some (l_81,l_82,v_83,v_84,v_85):=h
  rw [M167] at h
  refine sg ?_
  conv=>whnf
  refine Tr.seq ?_
  refine Tr.cond ?_
  conv=>whnf
  refine cB h (fun hb88 h=>?_) (fun hb88 h=>?_)
  ·refine Tr.skip ?_
   conv=>whnf
   refine Tr.seq ?_
   refine Tr.block ?_
   refine sg ?_
   conv=>whnf
   obtain ⟨x_89,hx_89,h⟩:=bS h
   refine ixP_of hx_89 ?_
   conv=>whnf
   refine sg ?_
   conv=>whnf
   obtain ⟨⟨l_103,l_104,v_105,v_106,v_107⟩,hv120,h⟩:=bS h
   refine Tr.cutQ1 ([(1,.pt 0 0),(2,(dI at_2)),(3,.fn 24 [.pt 3 0,.pt 0 0,.pt 4 0,.pt 5 0,.pt 6 0,.pt 7 0]),(4,.pt 8 0),(8,(dI (((f_1.Clocks.Segments).length:Int)))),(78,.d (.ls (List.map eTOutcome x_67))),(79,(dI (((x_67).length:Int)))),(80,(dI v_74))]) ([some (.var [(dI v_3),.sl 1 1 0 (List.length l_103),.sl 2 2 0 (List.length l_104)]),some (.arr 1 (List.map .d (List.map eI l_103))),some (.arr 2 (List.map .d (List.map eTChoice l_104))),some (.var [.d (.ls (List.map eTSegment v_6)),.d (.ls (List.map (eL eI) v_7)),.d (.ls (List.map eTPair v_8)),.d (.ls (List.map eTRunner v_9))]),some (.var [(dI v_10)]),some (.var [.d (.b v_105)]),some (.var [(dI v_106)]),some (.var [(dI v_107)]),some (.var [.d (.ls (List.map eTSegment f_1.Clocks.Segments)),.d (.ls (List.map (eL eI) f_1.Clocks.Far)),.d (.ls (List.map eTPair f_1.Pairs)),.d (.ls (List.map eTRunner f_1.Runners))])]) ?_ (fun T1 H1 hw=>?_)
   ·replace h:=hv120; clear hv120
    refine Tr.block ?_
    refine Tr.loopM (σ:=Int × List Int × List TChoice × Bool × Int × Int) (fun n s=>M166 f_1 at_2 v_3 v_6 v_7 v_8 v_9 v_10 v_74 x_89 rc_9060 n s.1 s.2.1 s.2.2.1 s.2.2.2.1 s.2.2.2.2.1 s.2.2.2.2.2) (l_103,l_104,v_105,v_106,v_107) (fun s=>([(1,.pt 0 0),(2,(dI at_2)),(3,.fn 24 [.pt 3 0,.pt 0 0,.pt 4 0,.pt 5 0,.pt 6 0,.pt 7 0]),(4,.pt 8 0),(8,(dI (((f_1.Clocks.Segments).length:Int)))),(10,(dI v_74)),(11,.pt 9 0),(12,(dI s.1)),(78,.d (.ls (List.map eTOutcome x_67))),(79,(dI (((x_67).length:Int)))),(80,(dI v_74))],[some (.var [(dI v_3),.sl 1 1 0 (List.length s.2.1),.sl 2 2 0 (List.length s.2.2.1)]),some (.arr 1 (List.map .d (List.map eI s.2.1))),some (.arr 2 (List.map .d (List.map eTChoice s.2.2.1))),some (.var [.d (.ls (List.map eTSegment v_6)),.d (.ls (List.map (eL eI) v_7)),.d (.ls (List.map eTPair v_8)),.d (.ls (List.map eTRunner v_9))]),some (.var [(dI v_10)]),some (.var [.d (.b s.2.2.2.1)]),some (.var [(dI s.2.2.2.2.1)]),some (.var [(dI s.2.2.2.2.2)]),some (.var [.d (.ls (List.map eTSegment f_1.Clocks.Segments)),.d (.ls (List.map (eL eI) f_1.Clocks.Far)),.d (.ls (List.map eTPair f_1.Pairs)),.d (.ls (List.map eTRunner f_1.Runners))]),some (.var [.d (.b x_89.Out),(dI x_89.Seg),(dI x_89.Lo),(dI x_89.Hi)])])) ((x_89.Hi+1 - x_89.Lo:Int).toNat+1) (x_89.Lo,l_75,l_76,v_77,v_78,v_79) h (fun s=>rfl) (Wk.mk2 [0,1,2,3,4,5,6,7,8,9] 10 rfl rfl (by decide) rfl ⟨rr,daS_d rfl,daS_d rfl,rr,rr,rr,rr,rr,rr,rr,trivial⟩ ⟨rr,rr,rr,rr,rr,rr,rr,rr,rr,rr,rr,trivial⟩) ?_
    clear h
    rintro n_102 ⟨t_96,l_97,l_98,v_99,v_100,v_101⟩ h
    replace h:M166 f_1 at_2 v_3 v_6 v_7 v_8 v_9 v_10 v_74 x_89 rc_9060 (n_102+1) t_96 l_97 l_98 v_99 v_100 v_101=some (l_103,l_104,v_105,v_106,v_107):=h
    rw [M166] at h
    refine Tr.seq ?_
    refine sg ?_
    conv=>whnf
    refine Tr.cond ?_
    conv=>whnf
    refine cB h (fun hb110 h=>?_) (fun hb110 h=>?_)
    ·refine Tr.skip ?_
     conv=>whnf
     refine Tr.seq ?_
     refine Tr.block ?_
     refine sg ?_
     conv=>whnf
     refine arS_raw ?_
     conv=>whnf
     obtain ⟨x_111,hx_111,h⟩:=bS h
     refine ixS_of hx_111 rfl ?_
     conv=>whnf
     refine elP_of hx_111 ?_
     conv=>whnf
     refine lvS_mk (es':=List.map .d (List.map eTChoice (List.set l_98 (Int.toNat (w64 (at_2 - (((f_1.Clocks.Segments).length:Int))))) ({ Outcome:=v_74,X:=t_96 }:TChoice)))) (by simp only [Nat.zero_add,List.map_set]; first | done | rfl) ?_
     conv=>whnf
     refine rg ?_
     conv=>whnf
     refine arS_raw ?_
     conv=>whnf
     obtain ⟨⟨l_112,l_113,b_114,b_115,b_116⟩,hc117,h⟩:=bS h
     refine MC.ecall (ih_9060 f_1 ((w64 (at_2+1))) v_3 l_97 ((List.set l_98 (Int.toNat (w64 (at_2 - (((f_1.Clocks.Segments).length:Int))))) ({ Outcome:=v_74,X:=t_96 }:TChoice))) v_6 v_7 v_8 v_9 v_10 v_99 v_100 v_101 l_112 l_113 b_114 b_115 b_116 hc117) [0,1,2,3,4,5,6,7] (by decide) (by first | rfl | (simp only [List.length_set]; rfl)) rfl ?_ (fun rs Bs1 hrs=>?_)
     · exact ⟨⟨rfl,(by first | exact rfl | (simp only [List.length_set]; exact rfl))⟩,⟨⟨_,rfl⟩,rfl⟩,⟨⟨_,rfl⟩,rfl⟩,⟨rfl,rfl⟩,⟨rfl,rfl⟩,⟨rfl,rfl⟩,⟨rfl,rfl⟩,⟨rfl,rfl⟩,trivial⟩
     obtain ⟨rfl,rfl⟩:=hrs
     conv=>whnf
     obtain ⟨_,hl118,h⟩:=bS h
     obtain ⟨_,hl119,h⟩:=bS h
     refine rg ?_
     conv=>whnf
     refine arS_raw ?_
     conv=>whnf
     refine ⟨((w64 (t_96+1)),l_112,l_113,b_114,b_115,b_116),h,?_⟩
     exact Wk.mk2 [0,1,2,3,4,5,6,7,8,9] 10 rfl rfl (by decide) rfl ⟨⟨rfl,(by first | rfl | (simp only [List.length_set,lenIs_eq hl118,lenIs_eq hl119]; done) | (simp only [List.length_set,lenIs_eq hl118,lenIs_eq hl119]; rfl) | simp [List.length_set,lenIs_eq hl118,lenIs_eq hl119])⟩,daS_d rfl,daS_d rfl,rr,rr,rr,rr,rr,rr,rr,trivial⟩ ⟨rr,rr,rr,rr,rr,rr,rr,rr,rr,rr,rr,trivial⟩
    refine Tr.exit ?_
    conv=>whnf
    cases h
    exact Wk.mk2 [0,1,2,3,4,5,6,7,8] 10 rfl rfl (by decide) rfl ⟨rr,daS_d rfl,daS_d rfl,rr,rr,rr,rr,rr,rr,trivial⟩ ⟨rr,rr,rr,rr,rr,rr,rr,rr,trivial⟩
   clear hv120
   conv=>whnf
   refine Tr.weak hw ?_
   refine rg ?_
   conv=>whnf
   refine arS_raw ?_
   conv=>whnf
   refine ⟨((w64 (v_74+1)),l_103,l_104,v_105,v_106,v_107),h,?_⟩
   exact Wk.mk2 [0,1,2,3,4,5,6,7,8] 9 rfl rfl (by decide) rfl ⟨rr,daS_d rfl,daS_d rfl,rr,rr,rr,rr,rr,rr,trivial⟩ ⟨rr,rr,rr,rr,rr,rr,rr,rr,trivial⟩
  refine Tr.exit ?_
  conv=>whnf
  cases h
  exact Wk.mk2 [0,1,2,3,4,5,6,7] 9 rfl rfl (by decide) rfl ⟨rr,daS_d rfl,daS_d rfl,rr,rr,rr,rr,rr,trivial⟩ trivial
 clear hv121
 conv=>whnf
 obtain ⟨_,hl122,h⟩:=bS h
 obtain ⟨_,hl123,h⟩:=bS h
 refine endW hw ?_
 conv=>whnf
 cases h
 exact endB rfl rfl (by simp only [List.length_set,lenIs_eq hl122,lenIs_eq hl123]; first | done | rfl) ⟨rfl,⟨_,rfl⟩,⟨_,rfl⟩,rfl,rfl,rfl,rfl,rfl,trivial⟩
theorem P169 (n:Nat):∀ (f_1:TField) (at_2:Int) (v_3:Int) (l_4:List Int) (l_5:List TChoice) (v_6:List TSegment) (v_7:List (List Int)) (v_8:List TPair) (v_9:List TRunner) (v_10:Int) (v_11:Bool) (v_12:Int) (v_13:Int) (l_14:List Int) (l_15:List TChoice) (b_16:Bool) (b_17:Int) (b_18:Int),M169 n f_1 at_2 v_3 l_4 l_5 v_6 v_7 v_8 v_9 v_10 v_11 v_12 v_13=some (l_14,l_15,b_16,b_17,b_18)→MC prog 23 [.d (eTField f_1),.pt 0 0,(dI at_2),.fn 24 [.pt 3 0,.pt 0 0,.pt 4 0,.pt 5 0,.pt 6 0,.pt 7 0]] [.var [(dI v_3),.sl 1 1 0 (List.length l_4),.sl 2 2 0 (List.length l_5)],.arr 1 (List.map .d (List.map eI l_4)),.arr 2 (List.map .d (List.map eTChoice l_5)),.var [.d (.ls (List.map eTSegment v_6)),.d (.ls (List.map (eL eI) v_7)),.d (.ls (List.map eTPair v_8)),.d (.ls (List.map eTRunner v_9))],.var [(dI v_10)],.var [.d (.b v_11)],.var [(dI v_12)],.var [(dI v_13)]] (fun rs Bs=>rs=[]∧Bs=[.var [(dI v_3),.sl 1 1 0 (List.length l_4),.sl 2 2 0 (List.length l_5)],.arr 1 (List.map .d (List.map eI l_14)),.arr 2 (List.map .d (List.map eTChoice l_15)),.var [.d (.ls (List.map eTSegment v_6)),.d (.ls (List.map (eL eI) v_7)),.d (.ls (List.map eTPair v_8)),.d (.ls (List.map eTRunner v_9))],.var [(dI v_10)],.var [.d (.b b_16)],.var [(dI b_17)],.var [(dI b_18)]]):=by
 induction n with
 | zero =>
  intros
  rename_i h
  cases h
 | succ n ih=>exact P168 (M169 n) ih
theorem P171 (f_1:TField) (runner_2:Int) (r_3:Bool) (h:M171 f_1 runner_2=some r_3) :
    PC prog 5 [(eTField f_1),(.i .i64 runner_2)] (fun rs=>rs=[(.b r_3)]):=by
 refine PC.of_tr (cx:=⟨88,none,lay,0⟩) layOK func5 rfl rfl rfl rfl rfl (by simp [f5]) ?_
 unfold M171 at h
 refine sg ?_
 conv=>whnf
 refine Tr.seq ?_
 refine sg ?_
 conv=>whnf
 obtain ⟨r_4,hc5,h⟩:=bS h
 refine PC.ecall (P98 r_4 hc5) (fun rs hrs=>?_)
 subst hrs
 conv=>whnf
 refine Tr.cond ?_
 conv=>whnf
 refine cB h (fun hb6 h=>?_) (fun hb6 h=>?_)
 ·refine sg ?_
  conv=>whnf
  refine Tr.ret ?_
  conv=>whnf
  cases h
  rfl
 refine Tr.skip ?_
 conv=>whnf
 refine Tr.seq ?_
 refine Tr.seq ?_
 obtain ⟨v_7,hv8,h⟩:=bS h
 refine Tr.cutQ1 ([(2,.pt 0 0),(3,.pt 1 0),(4,.d (.b false)),(37,.d (.b v_7))]) ([some (.var [.d (.ls (List.map eTSegment f_1.Clocks.Segments)),.d (.ls (List.map (eL eI) f_1.Clocks.Far)),.d (.ls (List.map eTPair f_1.Pairs)),.d (.ls (List.map eTRunner f_1.Runners))]),some (.var [(dI runner_2)])]) ?_ (fun T1 H1 hw=>?_)
 ·replace h:=hv8; clear hv8
  refine rg ?_
  conv=>whnf
  obtain ⟨r_9,hc10,h⟩:=bS h
  refine PC.ecall (P105 f_1 r_9 hc10) (fun rs hrs=>?_)
  subst hrs
  conv=>whnf
  refine cB h (fun hb11 h=>?_) (fun hb11 h=>?_)
  ·conv=>whnf
   cases h
   exact Wk.mk2 [0,1] 2 rfl rfl (by decide) rfl ⟨rr,rr,trivial⟩ ⟨rr,rr,rr,rr,trivial⟩
  conv=>whnf
  obtain ⟨r_12,hc13,h⟩:=bS h
  refine PC.ecall (P138 f_1 r_12 hc13) (fun rs hrs=>?_)
  subst hrs
  conv=>whnf
  refine cB h (fun hb14 h=>?_) (fun hb14 h=>?_)
  ·conv=>whnf
   cases h
   exact Wk.mk2 [0,1] 2 rfl rfl (by decide) rfl ⟨rr,rr,trivial⟩ ⟨rr,rr,rr,rr,trivial⟩
  conv=>whnf
  refine cB h (fun hb15 h=>?_) (fun hb15 h=>?_)
  ·conv=>whnf
   cases h
   exact Wk.mk2 [0,1] 2 rfl rfl (by decide) rfl ⟨rr,rr,trivial⟩ ⟨rr,rr,rr,rr,trivial⟩
  conv=>whnf
  refine lnS_map ?_
  conv=>whnf
  refine cB h (fun hb16 h=>?_) (fun hb16 h=>?_)
  ·conv=>whnf
   cases h
   exact Wk.mk2 [0,1] 2 rfl rfl (by decide) rfl ⟨rr,rr,trivial⟩ ⟨rr,rr,rr,rr,trivial⟩
  conv=>whnf
  obtain ⟨r_17,hc18,h⟩:=bS h
  refine PC.ecall (P143 f_1 r_17 hc18) (fun rs hrs=>?_)
  subst hrs
  conv=>whnf
  cases h
  exact Wk.mk2 [0,1] 2 rfl rfl (by decide) rfl ⟨rr,rr,trivial⟩ ⟨rr,rr,rr,rr,trivial⟩
 clear hv8
 conv=>whnf
 refine Tr.weak hw ?_
 refine Tr.cond ?_
 conv=>whnf
 refine cB h (fun hb19 h=>?_) (fun hb19 h=>?_)
 ·refine sg ?_
  conv=>whnf
  refine Tr.ret ?_
  conv=>whnf
  cases h
  rfl
 refine Tr.skip ?_
 conv=>whnf
 refine sg ?_
 conv=>whnf
 obtain ⟨⟨r_20,r_21⟩,hc22,h⟩:=bS h
 refine PC.ecall (P93 f_1 runner_2 r_20 r_21 hc22) (fun rs hrs=>?_)
 subst hrs
 conv=>whnf
 refine Tr.seq ?_
 refine sg ?_
 conv=>whnf
 refine Tr.cond ?_
 conv=>whnf
 refine cB h (fun hb23 h=>?_) (fun hb23 h=>?_)
 ·refine sg ?_
  conv=>whnf
  refine Tr.ret ?_
  conv=>whnf
  cases h
  rfl
 refine Tr.skip ?_
 conv=>whnf
 refine sg ?_
 conv=>whnf
 refine Tr.seq ?_
 refine sg ?_
 conv=>whnf
 refine lnS_map ?_
 conv=>whnf
 refine arS_raw ?_
 conv=>whnf
 obtain ⟨⟨v_33,v_34,v_35⟩,hv111,h⟩:=bS h
 refine Tr.cutQ1 ([(4,.d (.b false)),(5,.pt 0 0),(7,.pt 1 0),(8,.pt 2 0),(9,.pt 3 0)]) ([some (.var [(dI r_20.Bib),(dI r_20.Kind),(dI r_20.Lo),(dI r_20.Hi),.d (.b r_20.Out)]),some (.var [(dI v_33)]),some (.var [(dI v_34)]),some (.var [.d (.b v_35)])]) ?_ (fun T1 H1 hw=>?_)
 ·replace h:=hv111; clear hv111
  refine Tr.block ?_
  refine Tr.loopM (σ:=Int × Int × Int × Bool) (fun n s=>M170 f_1 runner_2 n s.1 s.2.1 s.2.2.1 s.2.2.2) (v_33,v_34,v_35) (fun s=>([(2,.pt 0 0),(3,.pt 1 0),(4,.d (.b false)),(5,.pt 2 0),(7,.pt 3 0),(8,.pt 4 0),(9,.pt 5 0),(49,(dI (w64 ((((f_1.Pairs).length:Int))+1)))),(50,(dI s.1))],[some (.var [.d (.ls (List.map eTSegment f_1.Clocks.Segments)),.d (.ls (List.map (eL eI) f_1.Clocks.Far)),.d (.ls (List.map eTPair f_1.Pairs)),.d (.ls (List.map eTRunner f_1.Runners))]),some (.var [(dI runner_2)]),some (.var [(dI r_20.Bib),(dI r_20.Kind),(dI r_20.Lo),(dI r_20.Hi),.d (.b r_20.Out)]),some (.var [(dI s.2.1)]),some (.var [(dI s.2.2.1)]),some (.var [.d (.b s.2.2.2)])])) (((w64 ((((f_1.Pairs).length:Int))+1)) - 0:Int).toNat+1) (0,0,0,false) h (fun s=>rfl) (Wk.mk2 [0,1,2,3,4,5] 6 rfl rfl (by decide) rfl ⟨rr,rr,rr,rr,rr,rr,trivial⟩ ⟨rr,rr,rr,rr,rr,rr,rr,rr,rr,trivial⟩) ?_
  clear h
  rintro n_32 ⟨v_28,v_29,v_30,v_31⟩ h
  replace h:M170 f_1 runner_2 (n_32+1) v_28 v_29 v_30 v_31=some (v_33,v_34,v_35):=h
  rw [M170] at h
  refine sg ?_
  conv=>whnf
  refine Tr.seq ?_
  refine Tr.cond ?_
  conv=>whnf
  refine cB h (fun hb38 h=>?_) (fun hb38 h=>?_)
  ·refine Tr.skip ?_
   conv=>whnf
   refine Tr.seq ?_
   obtain ⟨⟨v_39,v_40,v_41⟩,hv42,h⟩:=bS h
   refine Tr.cutQ1 ([(2,.pt 0 0),(3,.pt 1 0),(4,.d (.b false)),(5,.pt 2 0),(7,.pt 3 0),(8,.pt 4 0),(9,.pt 5 0),(49,(dI (w64 ((((f_1.Pairs).length:Int))+1)))),(50,(dI v_28))]) ([some (.var [.d (.ls (List.map eTSegment f_1.Clocks.Segments)),.d (.ls (List.map (eL eI) f_1.Clocks.Far)),.d (.ls (List.map eTPair f_1.Pairs)),.d (.ls (List.map eTRunner f_1.Runners))]),some (.var [(dI runner_2)]),some (.var [(dI r_20.Bib),(dI r_20.Kind),(dI r_20.Lo),(dI r_20.Hi),.d (.b r_20.Out)]),some (.var [(dI v_39)]),some (.var [(dI v_40)]),some (.var [.d (.b v_41)])]) ?_ (fun T1 H1 hw=>?_)
   ·replace h:=hv42; clear hv42
    refine Tr.block ?_
    refine sg ?_
    conv=>whnf
    refine Tr.seq ?_
    refine Tr.draw (DrawP.treeQ layOK mixed [(12,6),(12,7),(12,8)] (.one 0 1 (.one 1 3 (.one 2 3 (.one 3 3 (.one 4 2 (.one 6 3 (.one 7 3 (.one 8 2 (.three 5 (.two 9 (.one 10 1 (.one 11 0 (.one 12 0 .nil))) 11 (.one 9 0 (.one 10 1 (.one 12 0 .nil)))) 9 (.two 5 (.one 10 1 (.one 11 0 (.one 12 0 .nil))) 11 (.one 5 0 (.one 10 1 (.one 12 0 .nil)))) 11 (.two 5 (.one 9 0 (.one 10 1 (.one 12 0 .nil))) 9 (.one 5 0 (.one 10 1 (.one 12 0 .nil))))))))))))) (by kernel_rfl) ?_)
    conv=>whnf
    refine q1 ?_
    conv=>whnf
    refine q2 ?_
    conv=>whnf
    refine q2 ?_
    conv=>whnf
    refine q2 ?_
    conv=>whnf
    refine q3 (lnS_map rr) ?_
    conv=>whnf
    refine q2 ?_
    conv=>whnf
    refine q2 ?_
    conv=>whnf
    refine q3 (lnS_map rr) ?_
    conv=>whnf
    obtain ⟨n_43,hn_43,h⟩:=bS h
    obtain ⟨n_44,hn_44,h⟩:=bS h
    refine ⟨?_,?_,?_⟩
    ·conv=>whnf
     refine ⟨_,_,(by (conv=>whnf); (refine msS_of hn_43 rfl ?_); (conv=>whnf); (refine rS (es':=List.map .d (List.map eI (List.replicate n_43 0))) (n':=List.length ((List.replicate n_43 0):List Int)) (by simp only [List.map_replicate]; first | done | rfl) (by simp) ?_); (conv=>whnf); (exact rr)),kp_ok (by repeat (first | exact trivial | refine ⟨trivial,?_⟩ | refine ⟨rfl,?_⟩)),?_⟩
     conv=>whnf
     refine ⟨?_,?_⟩
     ·conv=>whnf
      refine ⟨_,_,(by (conv=>whnf); (refine msS_of hn_44 rfl ?_); (conv=>whnf); (refine rS (es':=List.map .d (List.map eTChoice (List.replicate n_44 ({ Outcome:=0,X:=0 }:TChoice)))) (n':=List.length ((List.replicate n_44 ({ Outcome:=0,X:=0 }:TChoice)):List TChoice)) (by simp only [List.map_replicate]; first | done | rfl) (by simp) ?_); (conv=>whnf); (exact rr)),kp_ok (by repeat (first | exact trivial | refine ⟨trivial,?_⟩ | refine ⟨rfl,?_⟩)),?_⟩
      conv=>whnf
      refine q1 ?_
      conv=>whnf
      refine ⟨_,_,rr,kp_ok (by repeat (first | exact trivial | refine ⟨trivial,?_⟩ | refine ⟨rfl,?_⟩)),?_⟩
      conv=>whnf
      refine ⟨_,_,(by (conv=>whnf); (refine orB_l ?_); (conv=>whnf); (exact rr)),kp_ok (by repeat (first | exact trivial | refine ⟨trivial,?_⟩ | refine ⟨rfl,?_⟩)),?_⟩
      conv=>whnf
      refine Tr.seq ?_
      refine sg ?_
      conv=>whnf
      obtain ⟨r_45,hc46,h⟩:=bS h
      refine PC.ecall (P146 f_1 v_28 r_45 hc46) (fun rs hrs=>?_)
      subst hrs
      conv=>whnf
      refine Tr.cond ?_
      conv=>whnf
      refine cB h (fun hb47 h=>?_) (fun hb47 h=>?_)
      ·refine Tr.exit ?_
       conv=>whnf
       cases h
       exact Wk.mk2 [0,1,2,3,4,5] 9 rfl rfl (by decide) rfl ⟨rr,rr,rr,rr,rr,rr,trivial⟩ ⟨rr,rr,rr,rr,rr,rr,rr,rr,rr,trivial⟩
      refine Tr.skip ?_
      conv=>whnf
      refine rg ?_
      conv=>whnf
      obtain ⟨⟨l_48,l_49,b_50,b_51,b_52⟩,hc53,h⟩:=bS h
      refine MC.ecall (P169 1000 f_1 0 v_28 (List.replicate n_43 0) ((List.replicate n_44 ({ Outcome:=0,X:=0 }:TChoice))) f_1.Clocks.Segments f_1.Clocks.Far f_1.Pairs f_1.Runners runner_2 v_31 v_29 v_30 l_48 l_49 b_50 b_51 b_52 hc53) [8,6,7,0,1,5,3,4] (by decide) rfl rfl ?_ (fun rs Bs1 hrs=>?_)
      · exact ⟨⟨rfl,rfl⟩,⟨⟨_,rfl⟩,rfl⟩,⟨⟨_,rfl⟩,rfl⟩,⟨rfl,rfl⟩,⟨rfl,rfl⟩,⟨rfl,rfl⟩,⟨rfl,rfl⟩,⟨rfl,rfl⟩,trivial⟩
      obtain ⟨rfl,rfl⟩:=hrs
      conv=>whnf
      obtain ⟨_,hl54,h⟩:=bS h
      obtain ⟨_,hl55,h⟩:=bS h
      cases h
      exact Wk.mk2 [0,1,2,3,4,5] 9 rfl rfl (by decide) rfl ⟨rr,rr,rr,rr,rr,rr,trivial⟩ ⟨rr,rr,rr,rr,rr,rr,rr,rr,rr,trivial⟩
     ·conv=>whnf
      refine ⟨_,_,rr,kp_ok (by repeat (first | exact trivial | refine ⟨trivial,?_⟩ | refine ⟨rfl,?_⟩)),?_⟩
      conv=>whnf
      refine ⟨_,_,(by (conv=>whnf); (refine msS_of hn_44 rfl ?_); (conv=>whnf); (refine rS (es':=List.map .d (List.map eTChoice (List.replicate n_44 ({ Outcome:=0,X:=0 }:TChoice)))) (n':=List.length ((List.replicate n_44 ({ Outcome:=0,X:=0 }:TChoice)):List TChoice)) (by simp only [List.map_replicate]; first | done | rfl) (by simp) ?_); (conv=>whnf); (exact rr)),kp_ok (by repeat (first | exact trivial | refine ⟨trivial,?_⟩ | refine ⟨rfl,?_⟩)),?_⟩
      conv=>whnf
      refine q1 ?_
      conv=>whnf
      refine ⟨_,_,(by (conv=>whnf); (refine orB_l ?_); (conv=>whnf); (exact rr)),kp_ok (by repeat (first | exact trivial | refine ⟨trivial,?_⟩ | refine ⟨rfl,?_⟩)),?_⟩
      conv=>whnf
      refine Tr.seq ?_
      refine sg ?_
      conv=>whnf
      obtain ⟨r_56,hc57,h⟩:=bS h
      refine PC.ecall (P146 f_1 v_28 r_56 hc57) (fun rs hrs=>?_)
      subst hrs
      conv=>whnf
      refine Tr.cond ?_
      conv=>whnf
      refine cB h (fun hb58 h=>?_) (fun hb58 h=>?_)
      ·refine Tr.exit ?_
       conv=>whnf
       cases h
       exact Wk.mk2 [0,1,2,3,4,5] 9 rfl rfl (by decide) rfl ⟨rr,rr,rr,rr,rr,rr,trivial⟩ ⟨rr,rr,rr,rr,rr,rr,rr,rr,rr,trivial⟩
      refine Tr.skip ?_
      conv=>whnf
      refine rg ?_
      conv=>whnf
      obtain ⟨⟨l_59,l_60,b_61,b_62,b_63⟩,hc64,h⟩:=bS h
      refine MC.ecall (P169 1000 f_1 0 v_28 (List.replicate n_43 0) ((List.replicate n_44 ({ Outcome:=0,X:=0 }:TChoice))) f_1.Clocks.Segments f_1.Clocks.Far f_1.Pairs f_1.Runners runner_2 v_31 v_29 v_30 l_59 l_60 b_61 b_62 b_63 hc64) [7,6,8,0,1,5,3,4] (by decide) rfl rfl ?_ (fun rs Bs1 hrs=>?_)
      · exact ⟨⟨rfl,rfl⟩,⟨⟨_,rfl⟩,rfl⟩,⟨⟨_,rfl⟩,rfl⟩,⟨rfl,rfl⟩,⟨rfl,rfl⟩,⟨rfl,rfl⟩,⟨rfl,rfl⟩,⟨rfl,rfl⟩,trivial⟩
      obtain ⟨rfl,rfl⟩:=hrs
      conv=>whnf
      obtain ⟨_,hl65,h⟩:=bS h
      obtain ⟨_,hl66,h⟩:=bS h
      cases h
      exact Wk.mk2 [0,1,2,3,4,5] 9 rfl rfl (by decide) rfl ⟨rr,rr,rr,rr,rr,rr,trivial⟩ ⟨rr,rr,rr,rr,rr,rr,rr,rr,rr,trivial⟩
    ·conv=>whnf
     refine ⟨_,_,(by (conv=>whnf); (refine msS_of hn_44 rfl ?_); (conv=>whnf); (refine rS (es':=List.map .d (List.map eTChoice (List.replicate n_44 ({ Outcome:=0,X:=0 }:TChoice)))) (n':=List.length ((List.replicate n_44 ({ Outcome:=0,X:=0 }:TChoice)):List TChoice)) (by simp only [List.map_replicate]; first | done | rfl) (by simp) ?_); (conv=>whnf); (exact rr)),kp_ok (by repeat (first | exact trivial | refine ⟨trivial,?_⟩ | refine ⟨rfl,?_⟩)),?_⟩
     conv=>whnf
     refine ⟨?_,?_⟩
     ·conv=>whnf
      refine ⟨_,_,(by (conv=>whnf); (refine msS_of hn_43 rfl ?_); (conv=>whnf); (refine rS (es':=List.map .d (List.map eI (List.replicate n_43 0))) (n':=List.length ((List.replicate n_43 0):List Int)) (by simp only [List.map_replicate]; first | done | rfl) (by simp) ?_); (conv=>whnf); (exact rr)),kp_ok (by repeat (first | exact trivial | refine ⟨trivial,?_⟩ | refine ⟨rfl,?_⟩)),?_⟩
      conv=>whnf
      refine q1 ?_
      conv=>whnf
      refine ⟨_,_,rr,kp_ok (by repeat (first | exact trivial | refine ⟨trivial,?_⟩ | refine ⟨rfl,?_⟩)),?_⟩
      conv=>whnf
      refine ⟨_,_,(by (conv=>whnf); (refine orB_l ?_); (conv=>whnf); (exact rr)),kp_ok (by repeat (first | exact trivial | refine ⟨trivial,?_⟩ | refine ⟨rfl,?_⟩)),?_⟩
      conv=>whnf
      refine Tr.seq ?_
      refine sg ?_
      conv=>whnf
      obtain ⟨r_67,hc68,h⟩:=bS h
      refine PC.ecall (P146 f_1 v_28 r_67 hc68) (fun rs hrs=>?_)
      subst hrs
      conv=>whnf
      refine Tr.cond ?_
      conv=>whnf
      refine cB h (fun hb69 h=>?_) (fun hb69 h=>?_)
      ·refine Tr.exit ?_
       conv=>whnf
       cases h
       exact Wk.mk2 [0,1,2,3,4,5] 9 rfl rfl (by decide) rfl ⟨rr,rr,rr,rr,rr,rr,trivial⟩ ⟨rr,rr,rr,rr,rr,rr,rr,rr,rr,trivial⟩
      refine Tr.skip ?_
      conv=>whnf
      refine rg ?_
      conv=>whnf
      obtain ⟨⟨l_70,l_71,b_72,b_73,b_74⟩,hc75,h⟩:=bS h
      refine MC.ecall (P169 1000 f_1 0 v_28 (List.replicate n_43 0) ((List.replicate n_44 ({ Outcome:=0,X:=0 }:TChoice))) f_1.Clocks.Segments f_1.Clocks.Far f_1.Pairs f_1.Runners runner_2 v_31 v_29 v_30 l_70 l_71 b_72 b_73 b_74 hc75) [8,7,6,0,1,5,3,4] (by decide) rfl rfl ?_ (fun rs Bs1 hrs=>?_)
      · exact ⟨⟨rfl,rfl⟩,⟨⟨_,rfl⟩,rfl⟩,⟨⟨_,rfl⟩,rfl⟩,⟨rfl,rfl⟩,⟨rfl,rfl⟩,⟨rfl,rfl⟩,⟨rfl,rfl⟩,⟨rfl,rfl⟩,trivial⟩
      obtain ⟨rfl,rfl⟩:=hrs
      conv=>whnf
      obtain ⟨_,hl76,h⟩:=bS h
      obtain ⟨_,hl77,h⟩:=bS h
      cases h
      exact Wk.mk2 [0,1,2,3,4,5] 9 rfl rfl (by decide) rfl ⟨rr,rr,rr,rr,rr,rr,trivial⟩ ⟨rr,rr,rr,rr,rr,rr,rr,rr,rr,trivial⟩
     ·conv=>whnf
      refine ⟨_,_,rr,kp_ok (by repeat (first | exact trivial | refine ⟨trivial,?_⟩ | refine ⟨rfl,?_⟩)),?_⟩
      conv=>whnf
      refine ⟨_,_,(by (conv=>whnf); (refine msS_of hn_43 rfl ?_); (conv=>whnf); (refine rS (es':=List.map .d (List.map eI (List.replicate n_43 0))) (n':=List.length ((List.replicate n_43 0):List Int)) (by simp only [List.map_replicate]; first | done | rfl) (by simp) ?_); (conv=>whnf); (exact rr)),kp_ok (by repeat (first | exact trivial | refine ⟨trivial,?_⟩ | refine ⟨rfl,?_⟩)),?_⟩
      conv=>whnf
      refine q1 ?_
      conv=>whnf
      refine ⟨_,_,(by (conv=>whnf); (refine orB_l ?_); (conv=>whnf); (exact rr)),kp_ok (by repeat (first | exact trivial | refine ⟨trivial,?_⟩ | refine ⟨rfl,?_⟩)),?_⟩
      conv=>whnf
      refine Tr.seq ?_
      refine sg ?_
      conv=>whnf
      obtain ⟨r_78,hc79,h⟩:=bS h
      refine PC.ecall (P146 f_1 v_28 r_78 hc79) (fun rs hrs=>?_)
      subst hrs
      conv=>whnf
      refine Tr.cond ?_
      conv=>whnf
      refine cB h (fun hb80 h=>?_) (fun hb80 h=>?_)
      ·refine Tr.exit ?_
       conv=>whnf
       cases h
       exact Wk.mk2 [0,1,2,3,4,5] 9 rfl rfl (by decide) rfl ⟨rr,rr,rr,rr,rr,rr,trivial⟩ ⟨rr,rr,rr,rr,rr,rr,rr,rr,rr,trivial⟩
      refine Tr.skip ?_
      conv=>whnf
      refine rg ?_
      conv=>whnf
      obtain ⟨⟨l_81,l_82,b_83,b_84,b_85⟩,hc86,h⟩:=bS h
      refine MC.ecall (P169 1000 f_1 0 v_28 (List.replicate n_43 0) ((List.replicate n_44 ({ Outcome:=0,X:=0 }:TChoice))) f_1.Clocks.Segments f_1.Clocks.Far f_1.Pairs f_1.Runners runner_2 v_31 v_29 v_30 l_81 l_82 b_83 b_84 b_85 hc86) [7,8,6,0,1,5,3,4] (by decide) rfl rfl ?_ (fun rs Bs1 hrs=>?_)
      · exact ⟨⟨rfl,rfl⟩,⟨⟨_,rfl⟩,rfl⟩,⟨⟨_,rfl⟩,rfl⟩,⟨rfl,rfl⟩,⟨rfl,rfl⟩,⟨rfl,rfl⟩,⟨rfl,rfl⟩,⟨rfl,rfl⟩,trivial⟩
      obtain ⟨rfl,rfl⟩:=hrs
      conv=>whnf
      obtain ⟨_,hl87,h⟩:=bS h
      obtain ⟨_,hl88,h⟩:=bS h
      cases h
      exact Wk.mk2 [0,1,2,3,4,5] 9 rfl rfl (by decide) rfl ⟨rr,rr,rr,rr,rr,rr,trivial⟩ ⟨rr,rr,rr,rr,rr,rr,rr,rr,rr,trivial⟩
    ·conv=>whnf
     refine ⟨_,_,rr,kp_ok (by repeat (first | exact trivial | refine ⟨trivial,?_⟩ | refine ⟨rfl,?_⟩)),?_⟩
     conv=>whnf
     refine ⟨?_,?_⟩
     ·conv=>whnf
      refine ⟨_,_,(by (conv=>whnf); (refine msS_of hn_43 rfl ?_); (conv=>whnf); (refine rS (es':=List.map .d (List.map eI (List.replicate n_43 0))) (n':=List.length ((List.replicate n_43 0):List Int)) (by simp only [List.map_replicate]; first | done | rfl) (by simp) ?_); (conv=>whnf); (exact rr)),kp_ok (by repeat (first | exact trivial | refine ⟨trivial,?_⟩ | refine ⟨rfl,?_⟩)),?_⟩
      conv=>whnf
      refine ⟨_,_,(by (conv=>whnf); (refine msS_of hn_44 rfl ?_); (conv=>whnf); (refine rS (es':=List.map .d (List.map eTChoice (List.replicate n_44 ({ Outcome:=0,X:=0 }:TChoice)))) (n':=List.length ((List.replicate n_44 ({ Outcome:=0,X:=0 }:TChoice)):List TChoice)) (by simp only [List.map_replicate]; first | done | rfl) (by simp) ?_); (conv=>whnf); (exact rr)),kp_ok (by repeat (first | exact trivial | refine ⟨trivial,?_⟩ | refine ⟨rfl,?_⟩)),?_⟩
      conv=>whnf
      refine q1 ?_
      conv=>whnf
      refine ⟨_,_,(by (conv=>whnf); (refine orB_l ?_); (conv=>whnf); (exact rr)),kp_ok (by repeat (first | exact trivial | refine ⟨trivial,?_⟩ | refine ⟨rfl,?_⟩)),?_⟩
      conv=>whnf
      refine Tr.seq ?_
      refine sg ?_
      conv=>whnf
      obtain ⟨r_89,hc90,h⟩:=bS h
      refine PC.ecall (P146 f_1 v_28 r_89 hc90) (fun rs hrs=>?_)
      subst hrs
      conv=>whnf
      refine Tr.cond ?_
      conv=>whnf
      refine cB h (fun hb91 h=>?_) (fun hb91 h=>?_)
      ·refine Tr.exit ?_
       conv=>whnf
       cases h
       exact Wk.mk2 [0,1,2,3,4,5] 9 rfl rfl (by decide) rfl ⟨rr,rr,rr,rr,rr,rr,trivial⟩ ⟨rr,rr,rr,rr,rr,rr,rr,rr,rr,trivial⟩
      refine Tr.skip ?_
      conv=>whnf
      refine rg ?_
      conv=>whnf
      obtain ⟨⟨l_92,l_93,b_94,b_95,b_96⟩,hc97,h⟩:=bS h
      refine MC.ecall (P169 1000 f_1 0 v_28 (List.replicate n_43 0) ((List.replicate n_44 ({ Outcome:=0,X:=0 }:TChoice))) f_1.Clocks.Segments f_1.Clocks.Far f_1.Pairs f_1.Runners runner_2 v_31 v_29 v_30 l_92 l_93 b_94 b_95 b_96 hc97) [6,7,8,0,1,5,3,4] (by decide) rfl rfl ?_ (fun rs Bs1 hrs=>?_)
      · exact ⟨⟨rfl,rfl⟩,⟨⟨_,rfl⟩,rfl⟩,⟨⟨_,rfl⟩,rfl⟩,⟨rfl,rfl⟩,⟨rfl,rfl⟩,⟨rfl,rfl⟩,⟨rfl,rfl⟩,⟨rfl,rfl⟩,trivial⟩
      obtain ⟨rfl,rfl⟩:=hrs
      conv=>whnf
      obtain ⟨_,hl98,h⟩:=bS h
      obtain ⟨_,hl99,h⟩:=bS h
      cases h
      exact Wk.mk2 [0,1,2,3,4,5] 9 rfl rfl (by decide) rfl ⟨rr,rr,rr,rr,rr,rr,trivial⟩ ⟨rr,rr,rr,rr,rr,rr,rr,rr,rr,trivial⟩
     ·conv=>whnf
      refine ⟨_,_,(by (conv=>whnf); (refine msS_of hn_44 rfl ?_); (conv=>whnf); (refine rS (es':=List.map .d (List.map eTChoice (List.replicate n_44 ({ Outcome:=0,X:=0 }:TChoice)))) (n':=List.length ((List.replicate n_44 ({ Outcome:=0,X:=0 }:TChoice)):List TChoice)) (by simp only [List.map_replicate]; first | done | rfl) (by simp) ?_); (conv=>whnf); (exact rr)),kp_ok (by repeat (first | exact trivial | refine ⟨trivial,?_⟩ | refine ⟨rfl,?_⟩)),?_⟩
      conv=>whnf
      refine ⟨_,_,(by (conv=>whnf); (refine msS_of hn_43 rfl ?_); (conv=>whnf); (refine rS (es':=List.map .d (List.map eI (List.replicate n_43 0))) (n':=List.length ((List.replicate n_43 0):List Int)) (by simp only [List.map_replicate]; first | done | rfl) (by simp) ?_); (conv=>whnf); (exact rr)),kp_ok (by repeat (first | exact trivial | refine ⟨trivial,?_⟩ | refine ⟨rfl,?_⟩)),?_⟩
      conv=>whnf
      refine q1 ?_
      conv=>whnf
      refine ⟨_,_,(by (conv=>whnf); (refine orB_l ?_); (conv=>whnf); (exact rr)),kp_ok (by repeat (first | exact trivial | refine ⟨trivial,?_⟩ | refine ⟨rfl,?_⟩)),?_⟩
      conv=>whnf
      refine Tr.seq ?_
      refine sg ?_
      conv=>whnf
      obtain ⟨r_100,hc101,h⟩:=bS h
      refine PC.ecall (P146 f_1 v_28 r_100 hc101) (fun rs hrs=>?_)
      subst hrs
      conv=>whnf
      refine Tr.cond ?_
      conv=>whnf
      refine cB h (fun hb102 h=>?_) (fun hb102 h=>?_)
      ·refine Tr.exit ?_
       conv=>whnf
       cases h
       exact Wk.mk2 [0,1,2,3,4,5] 9 rfl rfl (by decide) rfl ⟨rr,rr,rr,rr,rr,rr,trivial⟩ ⟨rr,rr,rr,rr,rr,rr,rr,rr,rr,trivial⟩
      refine Tr.skip ?_
      conv=>whnf
      refine rg ?_
      conv=>whnf
      obtain ⟨⟨l_103,l_104,b_105,b_106,b_107⟩,hc108,h⟩:=bS h
      refine MC.ecall (P169 1000 f_1 0 v_28 (List.replicate n_43 0) ((List.replicate n_44 ({ Outcome:=0,X:=0 }:TChoice))) f_1.Clocks.Segments f_1.Clocks.Far f_1.Pairs f_1.Runners runner_2 v_31 v_29 v_30 l_103 l_104 b_105 b_106 b_107 hc108) [6,8,7,0,1,5,3,4] (by decide) rfl rfl ?_ (fun rs Bs1 hrs=>?_)
      · exact ⟨⟨rfl,rfl⟩,⟨⟨_,rfl⟩,rfl⟩,⟨⟨_,rfl⟩,rfl⟩,⟨rfl,rfl⟩,⟨rfl,rfl⟩,⟨rfl,rfl⟩,⟨rfl,rfl⟩,⟨rfl,rfl⟩,trivial⟩
      obtain ⟨rfl,rfl⟩:=hrs
      conv=>whnf
      obtain ⟨_,hl109,h⟩:=bS h
      obtain ⟨_,hl110,h⟩:=bS h
      cases h
      exact Wk.mk2 [0,1,2,3,4,5] 9 rfl rfl (by decide) rfl ⟨rr,rr,rr,rr,rr,rr,trivial⟩ ⟨rr,rr,rr,rr,rr,rr,rr,rr,rr,trivial⟩
   clear hv42
   conv=>whnf
   refine Tr.weak hw ?_
   refine rg ?_
   conv=>whnf
   refine arS_raw ?_
   conv=>whnf
   refine ⟨((w64 (v_28+1)),v_39,v_40,v_41),h,?_⟩
   exact Wk.mk2 [0,1,2,3,4,5] 6 rfl rfl (by decide) rfl ⟨rr,rr,rr,rr,rr,rr,trivial⟩ ⟨rr,rr,rr,rr,rr,rr,rr,rr,rr,trivial⟩
  refine Tr.exit ?_
  conv=>whnf
  cases h
  exact Wk.mk2 [2,3,4,5] 6 rfl rfl (by decide) rfl ⟨rr,rr,rr,rr,trivial⟩ ⟨rr,⟨rfl,(by first | rfl | (simp only [↓hb6,↓hb19,↓hb23,↓hb38,bl]; done) | (simp only [↓hb6,↓hb19,↓hb23,↓hb38,bl]; rfl))⟩,⟨rfl,(by first | rfl | (simp only [↓hb6,↓hb19,↓hb23,↓hb38,bl]; done) | (simp only [↓hb6,↓hb19,↓hb23,↓hb38,bl]; rfl))⟩,⟨rfl,(by first | rfl | (simp only [↓hb6,↓hb19,↓hb23,↓hb38,bl]; done) | (simp only [↓hb6,↓hb19,↓hb23,↓hb38,bl]; rfl))⟩,⟨rfl,(by first | rfl | (simp only [↓hb6,↓hb19,↓hb23,↓hb38,bl]; done) | (simp only [↓hb6,↓hb19,↓hb23,↓hb38,bl]; rfl))⟩,trivial⟩
 clear hv111
 conv=>whnf
 refine Tr.weak hw ?_
 refine sg ?_
 conv=>whnf
 refine cB h (fun hb112 h=>?_) (fun hb112 h=>?_)
 ·conv=>whnf
  refine cB h (fun hb113 h=>?_) (fun hb113 h=>?_)
  ·conv=>whnf
   refine Tr.ret ?_
   conv=>whnf
   cases h
   rfl
  conv=>whnf
  refine Tr.ret ?_
  conv=>whnf
  cases h
  rfl
 conv=>whnf
 refine Tr.ret ?_
 conv=>whnf
 cases h
 rfl
end Go.Proofs.Try
