/- Contracts of functions, by program (gen.py). No condition. -/
import Derived.Test.YthandbiapckgkaaZL
import Derived.Test.YthandbiapckgkaaZM
import Derived.Test.YthandbiapckgkaaZCB
import Derived.Test.YthandbiapckgkaaZS4
namespace Go.Proofs.Try
open Go Go.Abs Go.Stop
set_option maxRecDepth 8000
set_option linter.unusedVariables false
set_option linter.unusedSimpArgs false
theorem P138 (f_1:TField) (r_2:Int) (h:M138 f_1=some r_2) :
    PC prog 15 [(eTField f_1)] (fun rs=>rs=[(.i .i64 r_2)]):=by
 refine PC.of_tr (cx:=⟨182,none,lay,0⟩) layOK func15 rfl rfl rfl rfl rfl (by simp [f15]) ?_
 unfold M138 at h
 refine sg ?_
 conv=>whnf
 refine Tr.seq ?_
 refine Tr.seq ?_
 obtain ⟨v_3,hv4,h⟩:=bS h
 refine Tr.cutQ1 ([(1,.pt 0 0),(2,(dI 0)),(30,.d (.b v_3))]) ([some (.var [.d (.ls (List.map eTSegment f_1.Clocks.Segments)),.d (.ls (List.map (eL eI) f_1.Clocks.Far)),.d (.ls (List.map eTPair f_1.Pairs)),.d (.ls (List.map eTRunner f_1.Runners))])]) ?_ (fun T1 H1 hw=>?_)
 ·replace h:=hv4; clear hv4
  refine rg ?_
  conv=>whnf
  obtain ⟨r_5,hc6,h⟩:=bS h
  refine PC.ecall (P120 f_1.Clocks r_5 hc6) (fun rs hrs=>?_)
  subst hrs
  conv=>whnf
  refine cB h (fun hb7 h=>?_) (fun hb7 h=>?_)
  ·conv=>whnf
   cases h
   exact Wk.mk2 [0] 1 rfl rfl (by decide) rfl ⟨rr,trivial⟩ ⟨rr,rr,rr,trivial⟩
  conv=>whnf
  refine lnS_map ?_
  conv=>whnf
  refine cB h (fun hb8 h=>?_) (fun hb8 h=>?_)
  ·conv=>whnf
   cases h
   exact Wk.mk2 [0] 1 rfl rfl (by decide) rfl ⟨rr,trivial⟩ ⟨rr,rr,rr,trivial⟩
  conv=>whnf
  refine lnS_map ?_
  conv=>whnf
  refine cB h (fun hb9 h=>?_) (fun hb9 h=>?_)
  ·conv=>whnf
   cases h
   exact Wk.mk2 [0] 1 rfl rfl (by decide) rfl ⟨rr,trivial⟩ ⟨rr,rr,rr,trivial⟩
  conv=>whnf
  refine lnS_map ?_
  conv=>whnf
  cases h
  exact Wk.mk2 [0] 1 rfl rfl (by decide) rfl ⟨rr,trivial⟩ ⟨rr,rr,rr,trivial⟩
 clear hv4
 conv=>whnf
 refine Tr.weak hw ?_
 refine Tr.cond ?_
 conv=>whnf
 refine cB h (fun hb10 h=>?_) (fun hb10 h=>?_)
 ·refine sg ?_
  conv=>whnf
  refine Tr.ret ?_
  conv=>whnf
  cases h
  rfl
 refine Tr.skip ?_
 conv=>whnf
 refine Tr.seq ?_
 refine sg ?_
 conv=>whnf
 refine Tr.cutQ (α:=Unit) (fun s=>([(1,.pt 0 0),(2,(dI 0))],[some (.var [.d (.ls (List.map eTSegment f_1.Clocks.Segments)),.d (.ls (List.map (eL eI) f_1.Clocks.Far)),.d (.ls (List.map eTPair f_1.Pairs)),.d (.ls (List.map eTRunner f_1.Runners))])])) (fun s=>M137 f_1 s=some r_2) ?_ ?_
 ·refine Tr.block ?_
  refine Tr.loopM (σ:=Int) (fun n s=>M130 f_1 (M137 f_1) n s) r_2 (fun s=>([(1,.pt 0 0),(2,(dI 0)),(3,(dI s))],[some (.var [.d (.ls (List.map eTSegment f_1.Clocks.Segments)),.d (.ls (List.map (eL eI) f_1.Clocks.Far)),.d (.ls (List.map eTPair f_1.Pairs)),.d (.ls (List.map eTRunner f_1.Runners))])])) (((((f_1.Pairs).length:Int)) - 0:Int).toNat+1) (0) h (fun s=>rfl) (Wk.mk2 [0] 1 rfl rfl (by decide) rfl ⟨rr,trivial⟩ ⟨rr,rr,rr,trivial⟩) ?_
  clear h
  rintro n_13 i_12 h
  replace h:M130 f_1 (M137 f_1) (n_13+1) i_12=some r_2:=h
  rw [M130] at h
  refine Tr.seq ?_
  refine sg ?_
  conv=>whnf
  refine lnS_map ?_
  conv=>whnf
  refine Tr.cond ?_
  conv=>whnf
  refine cB h (fun hb16 h=>?_) (fun hb16 h=>?_)
  ·refine Tr.skip ?_
   conv=>whnf
   refine Tr.seq ?_
   refine Tr.block ?_
   refine sg ?_
   conv=>whnf
   obtain ⟨x_17,hx_17,h⟩:=bS h
   refine ixP_of hx_17 ?_
   conv=>whnf
   refine Tr.seq ?_
   refine sg ?_
   conv=>whnf
   refine cB h (fun hb18 h=>?_) (fun hb18 h=>?_)
   ·conv=>whnf
    refine Tr.cond ?_
    conv=>whnf
    refine sg ?_
    conv=>whnf
    refine Tr.ret ?_
    conv=>whnf
    cases h
    rfl
   conv=>whnf
   refine cB h (fun hb19 h=>?_) (fun hb19 h=>?_)
   ·conv=>whnf
    refine Tr.cond ?_
    conv=>whnf
    refine sg ?_
    conv=>whnf
    refine Tr.ret ?_
    conv=>whnf
    cases h
    rfl
   conv=>whnf
   refine Tr.cond ?_
   conv=>whnf
   refine cB h (fun hb20 h=>?_) (fun hb20 h=>?_)
   ·refine sg ?_
    conv=>whnf
    refine Tr.ret ?_
    conv=>whnf
    cases h
    rfl
   refine Tr.skip ?_
   conv=>whnf
   refine Tr.seq ?_
   obtain ⟨v_21,hv22,h⟩:=bS h
   refine Tr.cutQ1 ([(1,.pt 0 0),(2,(dI 0)),(3,(dI i_12)),(95,.d (.b v_21))]) ([some (.var [.d (.ls (List.map eTSegment f_1.Clocks.Segments)),.d (.ls (List.map (eL eI) f_1.Clocks.Far)),.d (.ls (List.map eTPair f_1.Pairs)),.d (.ls (List.map eTRunner f_1.Runners))])]) ?_ (fun T1 H1 hw=>?_)
   ·replace h:=hv22; clear hv22
    refine dq [] [(0,1),(1,1),(2,1),(3,3),(4,3),(5,1),(6,1),(7,2),(8,2),(9,2),(10,4),(11,4),(12,1),(13,1),(14,3),(15,3),(16,1),(17,1),(18,2),(19,2),(20,2),(21,4),(22,4),(23,1),(24,1),(25,3),(26,3),(27,1),(28,1),(29,2),(30,2),(31,2),(32,4),(33,4),(34,1),(35,1),(36,1),(37,1)] ?_
    conv=>whnf
    refine q1 ?_
    conv=>whnf
    refine q1 ?_
    conv=>whnf
    refine q1 ?_
    conv=>whnf
    refine cB h (fun hb23 h=>?_) (fun hb23 h=>?_)
    ·conv=>whnf
     refine q2 ?_
     conv=>whnf
     refine q2 ?_
     conv=>whnf
     refine q1 ?_
     conv=>whnf
     refine q4 ?_
     conv=>whnf
     obtain ⟨x_24,hx_24,h⟩:=bS h
     refine q3 (ixP_of hx_24 rr) ?_
     conv=>whnf
     refine q2 ?_
     conv=>whnf
     refine q2 ?_
     conv=>whnf
     refine q2 ?_
     conv=>whnf
     refine q2 ?_
     conv=>whnf
     refine q1 ?_
     conv=>whnf
     refine q1 ?_
     conv=>whnf
     refine cB h (fun hb25 h=>?_) (fun hb25 h=>?_)
     ·conv=>whnf
      refine q1 ?_
      conv=>whnf
      refine q1 ?_
      conv=>whnf
      cases h
      exact Wk.mk2 [0] 2 rfl rfl (by decide) rfl ⟨rr,trivial⟩ ⟨rr,rr,rr,rr,trivial⟩
     conv=>whnf
     refine q2 ?_
     conv=>whnf
     refine q2 ?_
     conv=>whnf
     refine q1 ?_
     conv=>whnf
     refine q4 ?_
     conv=>whnf
     obtain ⟨x_26,hx_26,h⟩:=bS h
     refine q3 (ixP_of hx_26 rr) ?_
     conv=>whnf
     refine q2 ?_
     conv=>whnf
     refine q2 ?_
     conv=>whnf
     refine q2 ?_
     conv=>whnf
     refine q2 ?_
     conv=>whnf
     refine q1 ?_
     conv=>whnf
     refine q1 ?_
     conv=>whnf
     refine cB h (fun hb27 h=>?_) (fun hb27 h=>?_)
     ·conv=>whnf
      refine q2 ?_
      conv=>whnf
      refine q2 ?_
      conv=>whnf
      refine q1 ?_
      conv=>whnf
      refine q4 ?_
      conv=>whnf
      obtain ⟨x_28,hx_28,h⟩:=bS h
      refine q3 (ixP_of hx_28 rr) ?_
      conv=>whnf
      refine q2 ?_
      conv=>whnf
      refine q2 ?_
      conv=>whnf
      refine q2 ?_
      conv=>whnf
      refine q2 ?_
      conv=>whnf
      refine q1 ?_
      conv=>whnf
      refine q1 ?_
      conv=>whnf
      refine q1 ?_
      conv=>whnf
      refine q1 ?_
      conv=>whnf
      cases h
      exact Wk.mk2 [0] 2 rfl rfl (by decide) rfl ⟨rr,trivial⟩ ⟨rr,rr,rr,rr,trivial⟩
     conv=>whnf
     refine q1 ?_
     conv=>whnf
     refine q1 ?_
     conv=>whnf
     refine q1 ?_
     conv=>whnf
     cases h
     exact Wk.mk2 [0] 2 rfl rfl (by decide) rfl ⟨rr,trivial⟩ ⟨rr,rr,rr,rr,trivial⟩
    conv=>whnf
    refine q1 ?_
    conv=>whnf
    cases h
    exact Wk.mk2 [0] 2 rfl rfl (by decide) rfl ⟨rr,trivial⟩ ⟨rr,rr,rr,rr,trivial⟩
   clear hv22
   conv=>whnf
   refine Tr.weak hw ?_
   refine Tr.cond ?_
   conv=>whnf
   refine cB h (fun hb29 h=>?_) (fun hb29 h=>?_)
   ·refine sg ?_
    conv=>whnf
    refine Tr.ret ?_
    conv=>whnf
    cases h
    rfl
   refine Tr.skip ?_
   conv=>whnf
   refine rg ?_
   conv=>whnf
   refine arS_raw ?_
   conv=>whnf
   refine ⟨((w64 (i_12+1))),h,?_⟩
   exact Wk.mk2 [0] 1 rfl rfl (by decide) rfl ⟨rr,trivial⟩ ⟨rr,rr,rr,trivial⟩
  refine Tr.exit ?_
  conv=>whnf
  refine ⟨(),h,?_⟩
  exact Wk.mk2 [0] 1 rfl rfl (by decide) rfl ⟨rr,trivial⟩ ⟨rr,rr,trivial⟩
 clear h
 rintro _ h T1 H1 hw
 replace h:M137 f_1 ()=some r_2:=h
 conv=>whnf
 refine Tr.weak hw ?_
 unfold M137 at h
 refine Tr.seq ?_
 refine sg ?_
 conv=>whnf
 refine Tr.cutQ (α:=Unit) (fun s=>([(1,.pt 0 0),(2,(dI 0))],[some (.var [.d (.ls (List.map eTSegment f_1.Clocks.Segments)),.d (.ls (List.map (eL eI) f_1.Clocks.Far)),.d (.ls (List.map eTPair f_1.Pairs)),.d (.ls (List.map eTRunner f_1.Runners))])])) (fun s=>M136 f_1 s=some r_2) ?_ ?_
 ·refine Tr.block ?_
  refine Tr.loopM (σ:=Int) (fun n s=>M135 f_1 (M136 f_1) n s) r_2 (fun s=>([(1,.pt 0 0),(2,(dI 0)),(5,(dI s))],[some (.var [.d (.ls (List.map eTSegment f_1.Clocks.Segments)),.d (.ls (List.map (eL eI) f_1.Clocks.Far)),.d (.ls (List.map eTPair f_1.Pairs)),.d (.ls (List.map eTRunner f_1.Runners))])])) (((((f_1.Runners).length:Int)) - 0:Int).toNat+1) (0) h (fun s=>rfl) (Wk.mk2 [0] 1 rfl rfl (by decide) rfl ⟨rr,trivial⟩ ⟨rr,rr,rr,trivial⟩) ?_
  clear h
  rintro n_32 i_31 h
  replace h:M135 f_1 (M136 f_1) (n_32+1) i_31=some r_2:=h
  rw [M135] at h
  refine Tr.seq ?_
  refine sg ?_
  conv=>whnf
  refine lnS_map ?_
  conv=>whnf
  refine Tr.cond ?_
  conv=>whnf
  refine cB h (fun hb35 h=>?_) (fun hb35 h=>?_)
  ·refine Tr.skip ?_
   conv=>whnf
   refine Tr.seq ?_
   refine Tr.block ?_
   refine sg ?_
   conv=>whnf
   obtain ⟨x_36,hx_36,h⟩:=bS h
   refine ixP_of hx_36 ?_
   conv=>whnf
   refine Tr.seq ?_
   refine Tr.seq ?_
   obtain ⟨v_37,hv38,h⟩:=bS h
   refine Tr.cutQ1 ([(1,.pt 0 0),(2,(dI 0)),(5,(dI i_31)),(6,.pt 1 0),(149,.d (.b v_37))]) ([some (.var [.d (.ls (List.map eTSegment f_1.Clocks.Segments)),.d (.ls (List.map (eL eI) f_1.Clocks.Far)),.d (.ls (List.map eTPair f_1.Pairs)),.d (.ls (List.map eTRunner f_1.Runners))]),some (.var [(dI x_36.Bib),.d (.ls (List.map eI x_36.Keys)),.d (.ls (List.map (eL eTOutcome) x_36.Worlds))])]) ?_ (fun T1 H1 hw=>?_)
   ·replace h:=hv38; clear hv38
    refine dq [] [(0,4),(1,4),(2,1),(3,1),(4,1),(5,1),(6,1),(7,1),(8,3),(9,3),(10,1),(11,1),(12,2),(13,2),(14,2),(15,4),(16,4),(17,1),(18,1),(19,1),(20,1),(21,4),(22,4),(23,2),(24,3),(25,3),(26,2),(27,2),(28,2),(29,2),(30,1),(31,1),(32,1),(33,4),(34,4),(35,2),(36,3),(37,3),(38,2),(39,1),(40,1),(41,1)] ?_
    conv=>whnf
    refine q2 ?_
    conv=>whnf
    refine q2 ?_
    conv=>whnf
    obtain ⟨r_39,hc40,h⟩:=bS h
    refine q1 ?_ (fun _=>pe (P122 x_36.Bib r_39 hc40) rr)
    conv=>whnf
    refine q1 ?_
    conv=>whnf
    refine q1 ?_
    conv=>whnf
    refine cB h (fun hb41 h=>?_) (fun hb41 h=>?_)
    ·conv=>whnf
     refine q1 ?_
     conv=>whnf
     refine q1 ?_
     conv=>whnf
     refine q1 ?_
     conv=>whnf
     refine q1 ?_
     conv=>whnf
     refine q1 ?_
     conv=>whnf
     cases h
     exact Wk.mk2 [0,1] 2 rfl rfl (by decide) rfl ⟨rr,rr,trivial⟩ ⟨rr,rr,rr,rr,rr,trivial⟩
    conv=>whnf
    refine q1 ?_
    conv=>whnf
    refine q1 ?_
    conv=>whnf
    refine q1 ?_
    conv=>whnf
    refine cB h (fun hb42 h=>?_) (fun hb42 h=>?_)
    ·conv=>whnf
     refine q2 ?_
     conv=>whnf
     refine q2 ?_
     conv=>whnf
     refine q1 ?_
     conv=>whnf
     refine q4 ?_
     conv=>whnf
     obtain ⟨x_43,hx_43,h⟩:=bS h
     refine q3 (ixP_of hx_43 rr) ?_
     conv=>whnf
     refine q2 ?_
     conv=>whnf
     refine q2 ?_
     conv=>whnf
     refine q2 ?_
     conv=>whnf
     refine q2 ?_
     conv=>whnf
     refine q1 ?_
     conv=>whnf
     refine q1 ?_
     conv=>whnf
     refine q1 ?_
     conv=>whnf
     refine q1 ?_
     conv=>whnf
     refine cB h (fun hb44 h=>?_) (fun hb44 h=>?_)
     ·conv=>whnf
      refine q1 ?_
      conv=>whnf
      refine q1 ?_
      conv=>whnf
      refine q1 ?_
      conv=>whnf
      cases h
      exact Wk.mk2 [0,1] 2 rfl rfl (by decide) rfl ⟨rr,rr,trivial⟩ ⟨rr,rr,rr,rr,rr,trivial⟩
     conv=>whnf
     refine q2 ?_
     conv=>whnf
     refine q2 ?_
     conv=>whnf
     refine q3 (lnS_map rr) ?_
     conv=>whnf
     refine q2 ?_
     conv=>whnf
     refine q2 ?_
     conv=>whnf
     obtain ⟨x_45,hx_45,h⟩:=bS h
     refine q3 (ixP_of hx_45 rr) ?_
     conv=>whnf
     refine q2 ?_
     conv=>whnf
     refine q2 ?_
     conv=>whnf
     refine q3 (lnS_map rr) ?_
     conv=>whnf
     refine q1 ?_
     conv=>whnf
     refine q1 ?_
     conv=>whnf
     refine q1 ?_
     conv=>whnf
     refine cB h (fun hb46 h=>?_) (fun hb46 h=>?_)
     ·conv=>whnf
      refine q1 ?_
      conv=>whnf
      cases h
      exact Wk.mk2 [0,1] 2 rfl rfl (by decide) rfl ⟨rr,rr,trivial⟩ ⟨rr,rr,rr,rr,rr,trivial⟩
     conv=>whnf
     refine q2 ?_
     conv=>whnf
     refine q2 ?_
     conv=>whnf
     refine q3 (lnS_map rr) ?_
     conv=>whnf
     refine q2 ?_
     conv=>whnf
     refine q2 ?_
     conv=>whnf
     refine q3 (lnS_map rr) ?_
     conv=>whnf
     refine q4 ?_
     conv=>whnf
     refine q1 ?_
     conv=>whnf
     refine q1 ?_
     conv=>whnf
     cases h
     exact Wk.mk2 [0,1] 2 rfl rfl (by decide) rfl ⟨rr,rr,trivial⟩ ⟨rr,rr,rr,rr,rr,trivial⟩
    conv=>whnf
    refine q1 ?_
    conv=>whnf
    refine q1 ?_
    conv=>whnf
    refine q1 ?_
    conv=>whnf
    refine q2 ?_
    conv=>whnf
    refine q2 ?_
    conv=>whnf
    refine q3 (lnS_map rr) ?_
    conv=>whnf
    refine q2 ?_
    conv=>whnf
    refine q2 ?_
    conv=>whnf
    obtain ⟨x_47,hx_47,h⟩:=bS h
    refine q3 (ixP_of hx_47 rr) ?_
    conv=>whnf
    refine q2 ?_
    conv=>whnf
    refine q2 ?_
    conv=>whnf
    refine q3 (lnS_map rr) ?_
    conv=>whnf
    refine q1 ?_
    conv=>whnf
    refine q1 ?_
    conv=>whnf
    refine q1 ?_
    conv=>whnf
    refine cB h (fun hb48 h=>?_) (fun hb48 h=>?_)
    ·conv=>whnf
     refine q1 ?_
     conv=>whnf
     cases h
     exact Wk.mk2 [0,1] 2 rfl rfl (by decide) rfl ⟨rr,rr,trivial⟩ ⟨rr,rr,rr,rr,rr,trivial⟩
    conv=>whnf
    refine q2 ?_
    conv=>whnf
    refine q2 ?_
    conv=>whnf
    refine q3 (lnS_map rr) ?_
    conv=>whnf
    refine q2 ?_
    conv=>whnf
    refine q2 ?_
    conv=>whnf
    refine q3 (lnS_map rr) ?_
    conv=>whnf
    refine q4 ?_
    conv=>whnf
    refine q1 ?_
    conv=>whnf
    refine q1 ?_
    conv=>whnf
    cases h
    exact Wk.mk2 [0,1] 2 rfl rfl (by decide) rfl ⟨rr,rr,trivial⟩ ⟨rr,rr,rr,rr,rr,trivial⟩
   clear hv38
   conv=>whnf
   refine Tr.weak hw ?_
   refine Tr.cond ?_
   conv=>whnf
   refine cB h (fun hb49 h=>?_) (fun hb49 h=>?_)
   ·refine sg ?_
    conv=>whnf
    refine Tr.ret ?_
    conv=>whnf
    cases h
    rfl
   refine Tr.skip ?_
   conv=>whnf
   refine sg ?_
   conv=>whnf
   refine Tr.cutQ (α:=Unit) (fun s=>([(1,.pt 0 0),(2,(dI 0)),(5,(dI i_31))],[some (.var [.d (.ls (List.map eTSegment f_1.Clocks.Segments)),.d (.ls (List.map (eL eI) f_1.Clocks.Far)),.d (.ls (List.map eTPair f_1.Pairs)),.d (.ls (List.map eTRunner f_1.Runners))])])) (fun s=>M134 i_31 (M135 f_1 (M136 f_1) n_32) s=some r_2) ?_ ?_
   ·refine Tr.block ?_
    refine Tr.loopM (σ:=Int) (fun n s=>M133 f_1 x_36 (M134 i_31 (M135 f_1 (M136 f_1) n_32)) n s) r_2 (fun s=>([(1,.pt 0 0),(2,(dI 0)),(5,(dI i_31)),(6,.pt 1 0),(7,(dI s))],[some (.var [.d (.ls (List.map eTSegment f_1.Clocks.Segments)),.d (.ls (List.map (eL eI) f_1.Clocks.Far)),.d (.ls (List.map eTPair f_1.Pairs)),.d (.ls (List.map eTRunner f_1.Runners))]),some (.var [(dI x_36.Bib),.d (.ls (List.map eI x_36.Keys)),.d (.ls (List.map (eL eTOutcome) x_36.Worlds))])])) (((((x_36.Worlds).length:Int)) - 0:Int).toNat+1) (0) h (fun s=>rfl) (Wk.mk2 [0,1] 2 rfl rfl (by decide) rfl ⟨rr,rr,trivial⟩ ⟨rr,rr,rr,rr,rr,trivial⟩) ?_
    clear h
    rintro n_52 w_51 h
    replace h:M133 f_1 x_36 (M134 i_31 (M135 f_1 (M136 f_1) n_32)) (n_52+1) w_51=some r_2:=h
    rw [M133] at h
    refine Tr.seq ?_
    refine sg ?_
    conv=>whnf
    refine lnS_map ?_
    conv=>whnf
    refine Tr.cond ?_
    conv=>whnf
    refine cB h (fun hb55 h=>?_) (fun hb55 h=>?_)
    ·refine Tr.skip ?_
     conv=>whnf
     refine Tr.seq ?_
     refine Tr.block ?_
     refine sg ?_
     conv=>whnf
     refine Tr.cutQ (α:=Unit) (fun s=>([(1,.pt 0 0),(2,(dI 0)),(5,(dI i_31)),(6,.pt 1 0),(7,(dI w_51))],[some (.var [.d (.ls (List.map eTSegment f_1.Clocks.Segments)),.d (.ls (List.map (eL eI) f_1.Clocks.Far)),.d (.ls (List.map eTPair f_1.Pairs)),.d (.ls (List.map eTRunner f_1.Runners))]),some (.var [(dI x_36.Bib),.d (.ls (List.map eI x_36.Keys)),.d (.ls (List.map (eL eTOutcome) x_36.Worlds))])])) (fun s=>M132 w_51 (M133 f_1 x_36 (M134 i_31 (M135 f_1 (M136 f_1) n_32)) n_52) s=some r_2) ?_ ?_
     ·refine Tr.block ?_
      refine Tr.loopM (σ:=Int) (fun n s=>M131 f_1 x_36 w_51 (M132 w_51 (M133 f_1 x_36 (M134 i_31 (M135 f_1 (M136 f_1) n_32)) n_52)) n s) r_2 (fun s=>([(1,.pt 0 0),(2,(dI 0)),(5,(dI i_31)),(6,.pt 1 0),(7,(dI w_51)),(8,(dI s))],[some (.var [.d (.ls (List.map eTSegment f_1.Clocks.Segments)),.d (.ls (List.map (eL eI) f_1.Clocks.Far)),.d (.ls (List.map eTPair f_1.Pairs)),.d (.ls (List.map eTRunner f_1.Runners))]),some (.var [(dI x_36.Bib),.d (.ls (List.map eI x_36.Keys)),.d (.ls (List.map (eL eTOutcome) x_36.Worlds))])])) ((((((Option.getD (idx x_36.Worlds w_51) default)).length:Int)) - 0:Int).toNat+1) (0) h (fun s=>rfl) (Wk.mk2 [0,1] 2 rfl rfl (by decide) rfl ⟨rr,rr,trivial⟩ ⟨rr,rr,rr,rr,rr,rr,trivial⟩) ?_
      clear h
      rintro n_58 n_57 h
      replace h:M131 f_1 x_36 w_51 (M132 w_51 (M133 f_1 x_36 (M134 i_31 (M135 f_1 (M136 f_1) n_32)) n_52)) (n_58+1) n_57=some r_2:=h
      rw [M131] at h
      refine Tr.seq ?_
      refine sg ?_
      conv=>whnf
      obtain ⟨x_61,hx_61,h⟩:=bS h
      refine ixP_of hx_61 ?_
      conv=>whnf
      refine lnS_map ?_
      conv=>whnf
      refine Tr.cond ?_
      conv=>whnf
      refine cB h (fun hb62 h=>?_) (fun hb62 h=>?_)
      ·refine Tr.skip ?_
       conv=>whnf
       refine Tr.seq ?_
       refine Tr.block ?_
       refine sd [] [(0,3),(1,3),(2,4),(3,4),(4,1),(5,2),(6,2),(7,1),(8,2),(9,2),(10,1),(11,1)] ?_
       conv=>whnf
       refine q2 ?_
       conv=>whnf
       refine q2 ?_
       conv=>whnf
       refine q2 ?_
       conv=>whnf
       refine q2 ?_
       conv=>whnf
       refine q1 ?_
       conv=>whnf
       obtain ⟨x_63,hx_63,h⟩:=bS h
       refine q3 (ixP_of hx_63 rr) ?_
       conv=>whnf
       refine q2 ?_
       conv=>whnf
       refine q1 ?_
       conv=>whnf
       obtain ⟨x_64,hx_64,h⟩:=bS h
       refine q3 (ixP_of hx_64 rr) ?_
       conv=>whnf
       refine q2 ?_
       conv=>whnf
       obtain ⟨r_65,hc66,h⟩:=bS h
       refine q1 ?_ (fun _=>pe (P123 f_1.Clocks x_64 r_65 hc66) rr)
       conv=>whnf
       refine q1 ?_
       conv=>whnf
       refine Tr.cond ?_
       conv=>whnf
       refine cB h (fun hb67 h=>?_) (fun hb67 h=>?_)
       ·refine sg ?_
        conv=>whnf
        refine Tr.ret ?_
        conv=>whnf
        cases h
        rfl
       refine Tr.skip ?_
       conv=>whnf
       refine rg ?_
       conv=>whnf
       refine arS_raw ?_
       conv=>whnf
       refine ⟨((w64 (n_57+1))),h,?_⟩
       exact Wk.mk2 [0,1] 2 rfl rfl (by decide) rfl ⟨rr,rr,trivial⟩ ⟨rr,rr,rr,rr,rr,rr,trivial⟩
      refine Tr.exit ?_
      conv=>whnf
      refine ⟨(),h,?_⟩
      exact Wk.mk2 [0,1] 2 rfl rfl (by decide) rfl ⟨rr,rr,trivial⟩ ⟨rr,rr,rr,rr,rr,trivial⟩
     clear h
     rintro _ h T1 H1 hw
     replace h:M132 w_51 (M133 f_1 x_36 (M134 i_31 (M135 f_1 (M136 f_1) n_32)) n_52) ()=some r_2:=h
     conv=>whnf
     refine Tr.weak hw ?_
     unfold M132 at h
     refine rg ?_
     conv=>whnf
     refine arS_raw ?_
     conv=>whnf
     refine ⟨((w64 (w_51+1))),h,?_⟩
     exact Wk.mk2 [0,1] 2 rfl rfl (by decide) rfl ⟨rr,rr,trivial⟩ ⟨rr,rr,rr,rr,rr,trivial⟩
    refine Tr.exit ?_
    conv=>whnf
    refine ⟨(),h,?_⟩
    exact Wk.mk2 [0] 2 rfl rfl (by decide) rfl ⟨rr,trivial⟩ ⟨rr,rr,rr,trivial⟩
   clear h
   rintro _ h T1 H1 hw
   replace h:M134 i_31 (M135 f_1 (M136 f_1) n_32) ()=some r_2:=h
   conv=>whnf
   refine Tr.weak hw ?_
   unfold M134 at h
   refine rg ?_
   conv=>whnf
   refine arS_raw ?_
   conv=>whnf
   refine ⟨((w64 (i_31+1))),h,?_⟩
   exact Wk.mk2 [0] 1 rfl rfl (by decide) rfl ⟨rr,trivial⟩ ⟨rr,rr,rr,trivial⟩
  refine Tr.exit ?_
  conv=>whnf
  refine ⟨(),h,?_⟩
  exact Wk.mk2 [0] 1 rfl rfl (by decide) rfl ⟨rr,trivial⟩ ⟨rr,rr,trivial⟩
 clear h
 rintro _ h T1 H1 hw
 replace h:M136 f_1 ()=some r_2:=h
 conv=>whnf
 refine Tr.weak hw ?_
 unfold M136 at h
 refine Tr.seq ?_
 refine sg ?_
 conv=>whnf
 obtain ⟨r_68,hc69,h⟩:=bS h
 refine PC.ecall (P129 f_1 r_68 hc69) (fun rs hrs=>?_)
 subst hrs
 conv=>whnf
 refine Tr.cond ?_
 conv=>whnf
 refine cB h (fun hb70 h=>?_) (fun hb70 h=>?_)
 ·refine sg ?_
  conv=>whnf
  refine Tr.ret ?_
  conv=>whnf
  cases h
  rfl
 refine Tr.skip ?_
 conv=>whnf
 refine sg ?_
 conv=>whnf
 refine Tr.ret ?_
 conv=>whnf
 cases h
 rfl
theorem P140 (f_1:TField) (r_2:List TRank) (r_3:Int) (h:M140 f_1=some (r_2,r_3)) :
    PC prog 26 [(eTField f_1)] (fun rs=>rs=[(.ls (List.map eTRank r_2)),(.i .i64 r_3)]):=by
 refine PC.of_tr (cx:=⟨25,none,lay,0⟩) layOK func26 rfl rfl rfl rfl rfl (by simp [f26]) ?_
 unfold M140 at h
 refine sg ?_
 conv=>whnf
 refine Tr.seq ?_
 refine sg ?_
 conv=>whnf
 obtain ⟨r_4,hc5,h⟩:=bS h
 refine PC.ecall_lend ?_ ⟨_,_,func33,rfl,rfl⟩
 conv=>whnf
 refine ⟨_,P49 f_1 ((([]:List Int))) r_4 hc5,fun rs hrs=>?_⟩
 subst hrs
 refine ⟨rfl,?_⟩
 conv=>whnf
 refine sg ?_
 conv=>whnf
 refine Tr.cond ?_
 conv=>whnf
 refine cB h (fun hb6 h=>?_) (fun hb6 h=>?_)
 ·refine sg ?_
  conv=>whnf
  refine Tr.ret ?_
  conv=>whnf
  cases h
  rfl
 refine Tr.skip ?_
 conv=>whnf
 refine Tr.seq ?_
 refine sg ?_
 conv=>whnf
 refine lnS_map ?_
 conv=>whnf
 obtain ⟨l_12,hv19,h⟩:=bS h
 refine Tr.cutQ1 ([(2,.sl 0 5 0 (List.length l_12)),(3,(dI 0))]) ([some (.arr 5 (List.map .d (List.map eTRank l_12)))]) ?_ (fun T1 H1 hw=>?_)
 ·replace h:=hv19; clear hv19
  refine Tr.block ?_
  refine Tr.loopM (σ:=Int × List TRank) (fun n s=>M139 f_1 n s.1 s.2) l_12 (fun s=>([(1,.pt 0 0),(2,.sl 1 5 0 (List.length s.2)),(3,(dI 0)),(13,(dI (((f_1.Runners).length:Int)))),(14,(dI s.1))],[some (.var [.d (.ls (List.map eTSegment f_1.Clocks.Segments)),.d (.ls (List.map (eL eI) f_1.Clocks.Far)),.d (.ls (List.map eTPair f_1.Pairs)),.d (.ls (List.map eTRunner f_1.Runners))]),some (.arr 5 (List.map .d (List.map eTRank s.2)))])) (((((f_1.Runners).length:Int)) - 0:Int).toNat+1) (0,(([]:List TRank))) h (fun s=>rfl) (Wk.mk2 [0,1] 1 rfl rfl (by decide) rfl ⟨rr,rfl,trivial⟩ ⟨rr,⟨rfl,(by first | rfl | (simp only [↓hb6,bl]; done) | (simp only [↓hb6,bl]; rfl))⟩,rr,rr,rr,trivial⟩) ?_
  clear h
  rintro n_11 ⟨v_9,l_10⟩ h
  replace h:M139 f_1 (n_11+1) v_9 l_10=some l_12:=h
  rw [M139] at h
  refine sg ?_
  conv=>whnf
  refine Tr.seq ?_
  refine Tr.cond ?_
  conv=>whnf
  refine cB h (fun hb15 h=>?_) (fun hb15 h=>?_)
  ·refine Tr.skip ?_
   conv=>whnf
   refine Tr.seq ?_
   refine Tr.block ?_
   refine sg ?_
   conv=>whnf
   refine rg ?_
   conv=>whnf
   obtain ⟨r_16,hc17,h⟩:=bS h
   refine PC.ecall (P92 f_1 v_9 r_16 hc17) (fun rs hrs=>?_)
   subst hrs
   conv=>whnf
   refine orB_r ?_
   conv=>whnf
   refine frP_no ?_
   conv=>whnf
   refine eqS_mk (by first | rfl | simp) ?_
   conv=>whnf
   obtain ⟨l_18,hl_18,h⟩:=bS h
   refine apS_of hl_18 (aQ (f:=eTRank) (l:=(([r_16]:List TRank))) fun _=>rfl) (by first | rfl | simp) (by first | rfl | simp) (fun he=>?_)
   conv=>whnf
   refine rS (es':=List.map .d (List.map eTRank l_18)) (n':=List.length l_18) (by subst he; simp only [List.map_append,List.map_cons,List.map_nil,List.nil_append]; first | done | rfl) (by subst he; simp <;> omega) ?_
   clear he
   conv=>whnf
   refine rg ?_
   conv=>whnf
   refine arS_raw ?_
   conv=>whnf
   refine ⟨((w64 (v_9+1)),l_18),h,?_⟩
   exact Wk.mk2 [0,2] 3 rfl rfl (by decide) rfl ⟨rr,daS_d rfl,trivial⟩ ⟨rr,⟨rfl,(by first | rfl | (simp only [↓hb6,↓hb15,bl]; done) | (simp only [↓hb6,↓hb15,bl]; rfl))⟩,rr,rr,rr,trivial⟩
  refine Tr.exit ?_
  conv=>whnf
  cases h
  exact Wk.mk2 [1] 2 rfl rfl (by decide) rfl ⟨daS_d rfl,trivial⟩ ⟨⟨rfl,(by first | rfl | (simp only [↓hb6,↓hb15,bl]; done) | (simp only [↓hb6,↓hb15,bl]; rfl))⟩,rr,trivial⟩
 clear hv19
 conv=>whnf
 refine Tr.weak hw ?_
 refine sg ?_
 conv=>whnf
 refine Tr.ret ?_
 conv=>whnf
 refine frE_of (f:=eTRank) (l:=l_12) rfl ?_
 conv=>whnf
 cases h
 rfl
theorem P143 (f_1:TField) (runner_2:Int) (world_3:Int) (which_4:Int) (r_5:Bool) (h:M143 f_1 runner_2 world_3 which_4=some r_5) :
    PC prog 8 [(eTField f_1),(.i .i64 runner_2),(.i .i64 world_3),(.i .i64 which_4)] (fun rs=>rs=[(.b r_5)]):=by
 refine PC.of_tr (cx:=⟨218,none,lay,0⟩) layOK func8 rfl rfl rfl rfl rfl (by simp [f8]) ?_
 unfold M143 at h
 refine sg ?_
 conv=>whnf
 refine Tr.seq ?_
 refine sg ?_
 conv=>whnf
 obtain ⟨r_6,hc7,h⟩:=bS h
 refine PC.ecall (P98 r_6 hc7) (fun rs hrs=>?_)
 subst hrs
 conv=>whnf
 refine Tr.cond ?_
 conv=>whnf
 refine cB h (fun hb8 h=>?_) (fun hb8 h=>?_)
 ·refine sg ?_
  conv=>whnf
  refine Tr.ret ?_
  conv=>whnf
  cases h
  rfl
 refine Tr.skip ?_
 conv=>whnf
 refine Tr.seq ?_
 refine Tr.seq ?_
 obtain ⟨v_9,hv10,h⟩:=bS h
 refine Tr.cutQ1 ([(1,(dI runner_2)),(2,(dI world_3)),(3,(dI which_4)),(4,.pt 0 0),(8,.d (.b false)),(79,.d (.b v_9))]) ([some (.var [.d (.ls (List.map eTSegment f_1.Clocks.Segments)),.d (.ls (List.map (eL eI) f_1.Clocks.Far)),.d (.ls (List.map eTPair f_1.Pairs)),.d (.ls (List.map eTRunner f_1.Runners))])]) ?_ (fun T1 H1 hw=>?_)
 ·replace h:=hv10; clear hv10
  refine rg ?_
  conv=>whnf
  obtain ⟨r_11,hc12,h⟩:=bS h
  refine PC.ecall (P105 f_1 r_11 hc12) (fun rs hrs=>?_)
  subst hrs
  conv=>whnf
  refine cB h (fun hb13 h=>?_) (fun hb13 h=>?_)
  ·conv=>whnf
   cases h
   exact Wk.mk2 [0] 1 rfl rfl (by decide) rfl ⟨rr,trivial⟩ ⟨rr,rr,rr,rr,rr,rr,trivial⟩
  conv=>whnf
  obtain ⟨r_14,hc15,h⟩:=bS h
  refine PC.ecall (P138 f_1 r_14 hc15) (fun rs hrs=>?_)
  subst hrs
  conv=>whnf
  refine cB h (fun hb16 h=>?_) (fun hb16 h=>?_)
  ·conv=>whnf
   cases h
   exact Wk.mk2 [0] 1 rfl rfl (by decide) rfl ⟨rr,trivial⟩ ⟨rr,rr,rr,rr,rr,rr,trivial⟩
  conv=>whnf
  refine cB h (fun hb17 h=>?_) (fun hb17 h=>?_)
  ·conv=>whnf
   cases h
   exact Wk.mk2 [0] 1 rfl rfl (by decide) rfl ⟨rr,trivial⟩ ⟨rr,rr,rr,rr,rr,rr,trivial⟩
  conv=>whnf
  refine lnS_map ?_
  conv=>whnf
  refine cB h (fun hb18 h=>?_) (fun hb18 h=>?_)
  ·conv=>whnf
   cases h
   exact Wk.mk2 [0] 1 rfl rfl (by decide) rfl ⟨rr,trivial⟩ ⟨rr,rr,rr,rr,rr,rr,trivial⟩
  conv=>whnf
  refine cB h (fun hb19 h=>?_) (fun hb19 h=>?_)
  ·conv=>whnf
   cases h
   exact Wk.mk2 [0] 1 rfl rfl (by decide) rfl ⟨rr,trivial⟩ ⟨rr,rr,rr,rr,rr,rr,trivial⟩
  conv=>whnf
  refine lnS_map ?_
  conv=>whnf
  refine cB h (fun hb20 h=>?_) (fun hb20 h=>?_)
  ·conv=>whnf
   cases h
   exact Wk.mk2 [0] 1 rfl rfl (by decide) rfl ⟨rr,trivial⟩ ⟨rr,rr,rr,rr,rr,rr,trivial⟩
  conv=>whnf
  refine cB h (fun hb21 h=>?_) (fun hb21 h=>?_)
  ·conv=>whnf
   cases h
   exact Wk.mk2 [0] 1 rfl rfl (by decide) rfl ⟨rr,trivial⟩ ⟨rr,rr,rr,rr,rr,rr,trivial⟩
  conv=>whnf
  obtain ⟨x_22,hx_22,h⟩:=bS h
  refine ixP_of hx_22 ?_
  conv=>whnf
  obtain ⟨x_23,hx_23,h⟩:=bS h
  refine ixP_of hx_23 ?_
  conv=>whnf
  refine lnS_map ?_
  conv=>whnf
  refine cB h (fun hb24 h=>?_) (fun hb24 h=>?_)
  ·conv=>whnf
   cases h
   exact Wk.mk2 [0] 1 rfl rfl (by decide) rfl ⟨rr,trivial⟩ ⟨rr,rr,rr,rr,rr,rr,trivial⟩
  conv=>whnf
  obtain ⟨x_25,hx_25,h⟩:=bS h
  refine ixP_of hx_25 ?_
  conv=>whnf
  obtain ⟨x_26,hx_26,h⟩:=bS h
  refine ixP_of hx_26 ?_
  conv=>whnf
  refine lnS_map ?_
  conv=>whnf
  cases h
  exact Wk.mk2 [0] 1 rfl rfl (by decide) rfl ⟨rr,trivial⟩ ⟨rr,rr,rr,rr,rr,rr,trivial⟩
 clear hv10
 conv=>whnf
 refine Tr.weak hw ?_
 refine Tr.cond ?_
 conv=>whnf
 refine cB h (fun hb27 h=>?_) (fun hb27 h=>?_)
 ·refine sg ?_
  conv=>whnf
  refine Tr.ret ?_
  conv=>whnf
  cases h
  rfl
 refine Tr.skip ?_
 conv=>whnf
 refine sg ?_
 conv=>whnf
 refine sg ?_
 conv=>whnf
 refine orB_l ?_
 conv=>whnf
 refine frP_no ?_
 conv=>whnf
 refine eqS_mk (by first | rfl | simp) ?_
 conv=>whnf
 obtain ⟨l_28,hl_28,h⟩:=bS h
 refine apS_of hl_28 (aQ (f:=eTRunner) (l:=f_1.Runners) fun _=>rfl) (by first | rfl | simp) (by first | rfl | simp) (fun he=>?_)
 conv=>whnf
 refine rS (es':=List.map .d (List.map eTRunner l_28)) (n':=List.length l_28) (by subst he; simp only [List.map_append,List.map_cons,List.map_nil,List.nil_append]; first | done | rfl) (by subst he; simp <;> omega) ?_
 clear he
 conv=>whnf
 refine orB_l ?_
 conv=>whnf
 refine sg ?_
 conv=>whnf
 obtain ⟨x_29,hx_29,h⟩:=bS h
 refine ixS_of hx_29 rfl ?_
 conv=>whnf
 refine sg ?_
 conv=>whnf
 refine orB_l ?_
 conv=>whnf
 refine elP_of hx_29 ?_
 conv=>whnf
 refine frP_no ?_
 conv=>whnf
 refine eqS_mk (by first | rfl | simp) ?_
 conv=>whnf
 obtain ⟨l_30,hl_30,h⟩:=bS h
 refine apS_of hl_30 (aQ (f:=(eL eTOutcome)) (l:=x_29.Worlds) fun _=>rfl) (by first | rfl | simp) (by first | rfl | simp) (fun he=>?_)
 conv=>whnf
 refine rS (es':=List.map .d (List.map (eL eTOutcome) l_30)) (n':=List.length l_30) (by subst he; simp only [List.map_append,List.map_cons,List.map_nil,List.nil_append]; first | done | rfl) (by subst he; simp <;> omega) ?_
 clear he
 conv=>whnf
 refine orB_l ?_
 conv=>whnf
 refine elP_of hx_29 ?_
 conv=>whnf
 refine lvS_mk (es':=List.set (List.map .d (List.map eTRunner l_28)) (Int.toNat runner_2) (.ag [(dI x_29.Bib),.d (.ls (List.map eI x_29.Keys)),.sl 5 1 0 (List.length l_30)])) (by simp only [Nat.zero_add]; first | done | rfl) ?_
 conv=>whnf
 refine sg ?_
 conv=>whnf
 refine elP_set hx_29 ?_
 conv=>whnf
 obtain ⟨x_31,hx_31,h⟩:=bS h
 refine ixS_of hx_31 rfl ?_
 conv=>whnf
 refine elP_of hx_31 ?_
 conv=>whnf
 refine sd [(9,6),(14,7),(16,5),(16,8)] [(0,1),(1,6),(2,6),(3,6),(4,1),(6,1),(7,1),(8,1),(10,1),(11,1),(12,1),(13,1),(5,0),(9,0),(14,0),(15,8),(16,0)] ?_
 conv=>whnf
 refine q1 ?_
 conv=>whnf
 refine q2 ?_
 conv=>whnf
 refine q2 ?_
 conv=>whnf
 refine q3 (elP_set hx_29 rr) ?_
 conv=>whnf
 refine q1 ?_
 conv=>whnf
 refine q1 ?_
 conv=>whnf
 refine q1 ?_
 conv=>whnf
 obtain ⟨l_32,hl_32,h⟩:=bS h
 refine ⟨_,(fun _=>by (conv=>whnf); (refine szS_mk (szq_map fun _=>rfl) ?_); (conv=>whnf); (refine slS_to hl_32 (by simp) rfl (fun he=>?_)); (conv=>whnf); (refine lsS_mk (es':=List.map eTOutcome l_32) (by subst he; simp [List.map_take,List.map_drop]) ?_); (clear he); (conv=>whnf); (exact rr)),?_⟩
 conv=>whnf
 refine q1 ?_
 conv=>whnf
 refine q1 ?_
 conv=>whnf
 refine q4 ?_
 conv=>whnf
 obtain ⟨l_33,hl_33,h⟩:=bS h
 refine ⟨_,(fun _=>by (conv=>whnf); (refine szS_mk (szq_map fun _=>rfl) ?_); (conv=>whnf); (refine slS_from hl_33 (by simp) rfl (fun he=>?_)); (conv=>whnf); (refine lsS_mk (es':=List.map eTOutcome l_33) (by subst he; simp [List.map_take,List.map_drop]) ?_); (clear he); (conv=>whnf); (exact rr)),?_⟩
 conv=>whnf
 refine ⟨_,_,(by (conv=>whnf); (refine orB_l ?_); (conv=>whnf); (exact rr)),kp_ok (by repeat (first | exact trivial | refine ⟨trivial,?_⟩ | refine ⟨rfl,?_⟩)),?_⟩
 conv=>whnf
 obtain ⟨l_34,hl_34,h⟩:=bS h
 refine ⟨_,_,(by (conv=>whnf); (refine frP_no ?_); (conv=>whnf); (refine eqS_mk (by first | rfl | simp) ?_); (conv=>whnf); (refine apS_of hl_34 (aQ (f:=eTOutcome) (l:=l_32) fun _=>rfl) (by first | rfl | simp) (by first | rfl | simp) (fun he=>?_)); (conv=>whnf); (refine rS (es':=List.map .d (List.map eTOutcome l_34)) (n':=List.length l_34) (by subst he; simp only [List.map_append,List.map_cons,List.map_nil,List.nil_append]; first | done | rfl) (by subst he; simp <;> omega) ?_); (clear he); (conv=>whnf); (exact rr)),kp_ok (by repeat (first | exact trivial | refine ⟨trivial,?_⟩ | refine ⟨rfl,?_⟩)),?_⟩
 conv=>whnf
 obtain ⟨l_35,hl_35,h⟩:=bS h
 refine ⟨_,_,(by (conv=>whnf); (refine frP_no ?_); (conv=>whnf); (refine eqS_mk (by first | rfl | simp) ?_); (conv=>whnf); (refine apS_of hl_35 (aQ (f:=eTOutcome) (l:=l_33) fun _=>rfl) (by first | rfl | simp) (by first | rfl | simp) (fun he=>?_)); (conv=>whnf); (refine rS (es':=List.map .d (List.map eTOutcome l_35)) (n':=List.length l_35) (by subst he; simp only [List.map_append,List.map_cons,List.map_nil,List.nil_append]; first | done | rfl) (by subst he; simp <;> omega) ?_); (clear he); (conv=>whnf); (exact rr)),kp_ok (by repeat (first | exact trivial | refine ⟨trivial,?_⟩ | refine ⟨rfl,?_⟩)),?_⟩
 conv=>whnf
 obtain ⟨x_36,hx_36,h⟩:=bS h
 refine q3 (ixS_of hx_36 rfl rr) ?_
 conv=>whnf
 refine ⟨_,_,(by (conv=>whnf); (refine orB_r ?_); (conv=>whnf); (refine frE_of (f:=eTOutcome) (l:=l_35) rfl ?_); (conv=>whnf); (refine elP_of hx_36 ?_); (conv=>whnf); (refine lvS_mk (es':=List.map .d (List.map (eL eTOutcome) (List.set l_30 (Int.toNat world_3) l_35))) (by simp only [Nat.zero_add,List.map_set]; first | done | rfl) ?_); (conv=>whnf); (exact rr)),kp_ok (by repeat (first | exact trivial | refine ⟨trivial,?_⟩ | refine ⟨rfl,?_⟩)),?_⟩
 conv=>whnf
 refine Tr.seq ?_
 refine sg ?_
 conv=>whnf
 obtain ⟨r_37,hc38,h⟩:=bS h
 refine PC.ecall_lend ?_ ⟨_,_,func15,rfl,rfl⟩
 conv=>whnf
 refine frE_set (f:=eTRunner) (l:=l_28) rfl hx_29 ?_
 conv=>whnf
 refine frE_of (f:=(eL eTOutcome)) (l:=(List.set l_30 (Int.toNat world_3) l_35)) (by first | rfl | simp) ?_
 conv=>whnf
 refine lsS_mk (es':=List.map eTRunner ((List.set l_28 (Int.toNat runner_2) ({ Bib:=x_29.Bib,Keys:=x_29.Keys,Worlds:=(List.set l_30 (Int.toNat world_3) l_35) }:TRunner)))) (by simp only [eTRunner,List.map_set]; first | done | rfl) ?_
 conv=>whnf
 refine ⟨_,P138 (({ Clocks:=f_1.Clocks,Pairs:=f_1.Pairs,Runners:=(List.set l_28 (Int.toNat runner_2) ({ Bib:=x_29.Bib,Keys:=x_29.Keys,Worlds:=(List.set l_30 (Int.toNat world_3) l_35) }:TRunner)) }:TField)) r_37 hc38,fun rs hrs=>?_⟩
 subst hrs
 refine ⟨rfl,?_⟩
 conv=>whnf
 refine Tr.cond ?_
 conv=>whnf
 refine cB h (fun hb39 h=>?_) (fun hb39 h=>?_)
 ·refine sg ?_
  conv=>whnf
  refine Tr.ret ?_
  conv=>whnf
  cases h
  rfl
 refine Tr.skip ?_
 conv=>whnf
 refine sg ?_
 conv=>whnf
 obtain ⟨⟨r_40,r_41⟩,hc42,h⟩:=bS h
 refine PC.ecall (P140 f_1 r_40 r_41 hc42) (fun rs hrs=>?_)
 subst hrs
 conv=>whnf
 refine sg ?_
 conv=>whnf
 obtain ⟨⟨r_43,r_44⟩,hc45,h⟩:=bS h
 refine PC.ecall_frz ?_ ⟨_,_,func26,rfl,rfl⟩
 conv=>whnf
 refine frE_set (f:=eTRunner) (l:=l_28) rfl hx_29 ?_
 conv=>whnf
 refine frE_of (f:=(eL eTOutcome)) (l:=(List.set l_30 (Int.toNat world_3) l_35)) (by first | rfl | simp) ?_
 conv=>whnf
 refine lsS_mk (es':=List.map eTRunner ((List.set l_28 (Int.toNat runner_2) ({ Bib:=x_29.Bib,Keys:=x_29.Keys,Worlds:=(List.set l_30 (Int.toNat world_3) l_35) }:TRunner)))) (by simp only [eTRunner,List.map_set]; first | done | rfl) ?_
 conv=>whnf
 refine ⟨_,P140 (({ Clocks:=f_1.Clocks,Pairs:=f_1.Pairs,Runners:=(List.set l_28 (Int.toNat runner_2) ({ Bib:=x_29.Bib,Keys:=x_29.Keys,Worlds:=(List.set l_30 (Int.toNat world_3) l_35) }:TRunner)) }:TField)) r_43 r_44 hc45,fun rs hrs=>?_⟩
 subst hrs
 conv=>whnf
 refine Tr.seq ?_
 refine Tr.seq ?_
 refine Tr.cutQ1 ([(8,.d (.b false)),(12,.d (.ls (List.map eTRank r_40))),(14,.d (.ls (List.map eTRank r_43))),(156,.d (.b ((r_41 != 0) || ((r_44 != 0) || (((((r_40).length:Int)) != (((f_1.Runners).length:Int))) || ((((r_43).length:Int)) != (((f_1.Runners).length:Int))))))))]) ([]) ?_ (fun T1 H1 hw=>?_)
 ·refine rg ?_
  conv=>whnf
  refine condS_mk (fun hb47=>?_) (fun hb47=>?_)
  ·conv=>whnf
   exact Wk.mk2 [] 9 rfl rfl (by decide) rfl trivial ⟨rr,rr,rr,⟨rfl,(by first | rfl | (simp only [↓hb8,↓hb27,↓hb39,↓hb47,bl]; done) | (simp only [↓hb8,↓hb27,↓hb39,↓hb47,bl]; rfl))⟩,trivial⟩
  conv=>whnf
  refine condS_mk (fun hb48=>?_) (fun hb48=>?_)
  ·conv=>whnf
   exact Wk.mk2 [] 9 rfl rfl (by decide) rfl trivial ⟨rr,rr,rr,⟨rfl,(by first | rfl | (simp only [↓hb8,↓hb27,↓hb39,↓hb47,↓hb48,bl]; done) | (simp only [↓hb8,↓hb27,↓hb39,↓hb47,↓hb48,bl]; rfl))⟩,trivial⟩
  conv=>whnf
  refine lnS_map ?_
  conv=>whnf
  refine lnS_map ?_
  conv=>whnf
  refine condS_mk (fun hb49=>?_) (fun hb49=>?_)
  ·conv=>whnf
   exact Wk.mk2 [] 9 rfl rfl (by decide) rfl trivial ⟨rr,rr,rr,⟨rfl,(by first | rfl | (simp only [↓hb8,↓hb27,↓hb39,↓hb47,↓hb48,↓hb49,bl]; done) | (simp only [↓hb8,↓hb27,↓hb39,↓hb47,↓hb48,↓hb49,bl]; rfl))⟩,trivial⟩
  conv=>whnf
  refine lnS_map ?_
  conv=>whnf
  refine lnS_map ?_
  conv=>whnf
  exact Wk.mk2 [] 9 rfl rfl (by decide) rfl trivial ⟨rr,rr,rr,⟨rfl,(by first | rfl | (simp only [↓hb8,↓hb27,↓hb39,↓hb47,↓hb48,↓hb49,bl]; done) | (simp only [↓hb8,↓hb27,↓hb39,↓hb47,↓hb48,↓hb49,bl]; rfl))⟩,trivial⟩
 conv=>whnf
 refine Tr.weak hw ?_
 refine Tr.cond ?_
 conv=>whnf
 refine cB h (fun hb50 h=>?_) (fun hb50 h=>?_)
 ·refine sg ?_
  conv=>whnf
  refine Tr.ret ?_
  conv=>whnf
  cases h
  rfl
 refine Tr.skip ?_
 conv=>whnf
 refine Tr.seq ?_
 refine sg ?_
 conv=>whnf
 refine lnS_map ?_
 conv=>whnf
 refine Tr.cutQ (α:=Unit) (fun s=>([(8,.d (.b false))],[])) (fun s=>M142 s=some r_5) ?_ ?_
 ·refine Tr.block ?_
  refine Tr.loopM (σ:=Int) (fun n s=>M141 r_40 r_43 M142 n s) r_5 (fun s=>([(8,.d (.b false)),(12,.d (.ls (List.map eTRank r_40))),(14,.d (.ls (List.map eTRank r_43))),(158,(dI (((r_40).length:Int)))),(159,(dI s))],[])) (((((r_40).length:Int)) - 0:Int).toNat+1) (0) h (fun s=>rfl) (Wk.mk2 [] 0 rfl rfl (by decide) rfl trivial ⟨rr,rr,rr,rr,rr,trivial⟩) ?_
  clear h
  rintro n_53 v_52 h
  replace h:M141 r_40 r_43 M142 (n_53+1) v_52=some r_5:=h
  rw [M141] at h
  refine sg ?_
  conv=>whnf
  refine Tr.seq ?_
  refine Tr.cond ?_
  conv=>whnf
  refine cB h (fun hb56 h=>?_) (fun hb56 h=>?_)
  ·refine Tr.skip ?_
   conv=>whnf
   refine Tr.seq ?_
   refine Tr.block ?_
   refine sg ?_
   conv=>whnf
   refine Tr.seq ?_
   obtain ⟨v_57,hv58,h⟩:=bS h
   refine Tr.cutQ1 ([(8,.d (.b false)),(12,.d (.ls (List.map eTRank r_40))),(14,.d (.ls (List.map eTRank r_43))),(158,(dI (((r_40).length:Int)))),(159,(dI v_52)),(216,.d (.b v_57))]) ([]) ?_ (fun T1 H1 hw=>?_)
   ·replace h:=hv58; clear hv58
    refine dq [] [(0,1),(1,1),(2,2),(3,2),(4,2),(5,1),(6,1),(7,1),(8,2),(9,2),(10,2),(11,1),(12,1),(13,1),(14,1),(15,1),(16,2),(17,2),(18,2),(19,1),(20,1),(21,1),(22,1),(23,2),(24,2),(25,2),(26,1),(27,1),(28,1),(29,1),(30,2),(31,2),(32,2),(33,1),(34,1),(35,2),(36,2),(37,2),(38,1),(39,1),(40,1),(41,1),(42,1),(43,2),(44,2),(45,2),(46,1),(47,1),(48,2),(49,2),(50,2),(51,1),(52,1),(53,1),(54,1)] ?_
    conv=>whnf
    refine q1 ?_
    conv=>whnf
    refine q1 ?_
    conv=>whnf
    obtain ⟨x_59,hx_59,h⟩:=bS h
    refine q3 (ixP_of hx_59 rr) ?_
    conv=>whnf
    refine q2 ?_
    conv=>whnf
    refine q2 ?_
    conv=>whnf
    refine q1 ?_
    conv=>whnf
    refine cB h (fun hb60 h=>?_) (fun hb60 h=>?_)
    ·conv=>whnf
     refine q1 ?_
     conv=>whnf
     refine q1 ?_
     conv=>whnf
     obtain ⟨x_61,hx_61,h⟩:=bS h
     refine q3 (ixP_of hx_61 rr) ?_
     conv=>whnf
     refine q2 ?_
     conv=>whnf
     refine q2 ?_
     conv=>whnf
     refine q1 ?_
     conv=>whnf
     refine q1 ?_
     conv=>whnf
     refine q1 ?_
     conv=>whnf
     refine cB h (fun hb62 h=>?_) (fun hb62 h=>?_)
     ·conv=>whnf
      refine q1 ?_
      conv=>whnf
      cases h
      exact Wk.mk2 [] 0 rfl rfl (by decide) rfl trivial ⟨rr,rr,rr,rr,rr,rr,trivial⟩
     conv=>whnf
     refine q1 ?_
     conv=>whnf
     refine q1 ?_
     conv=>whnf
     obtain ⟨x_63,hx_63,h⟩:=bS h
     refine q3 (ixP_of hx_63 rr) ?_
     conv=>whnf
     refine q2 ?_
     conv=>whnf
     refine q2 ?_
     conv=>whnf
     refine q1 ?_
     conv=>whnf
     refine q1 ?_
     conv=>whnf
     refine cB h (fun hb64 h=>?_) (fun hb64 h=>?_)
     ·conv=>whnf
      refine q1 ?_
      conv=>whnf
      refine q1 ?_
      conv=>whnf
      obtain ⟨x_65,hx_65,h⟩:=bS h
      refine q3 (ixP_of hx_65 rr) ?_
      conv=>whnf
      refine q2 ?_
      conv=>whnf
      refine q2 ?_
      conv=>whnf
      refine q1 ?_
      conv=>whnf
      refine q1 ?_
      conv=>whnf
      refine cB h (fun hb66 h=>?_) (fun hb66 h=>?_)
      ·conv=>whnf
       refine q1 ?_
       conv=>whnf
       refine q1 ?_
       conv=>whnf
       refine q1 ?_
       conv=>whnf
       refine q1 ?_
       conv=>whnf
       refine q1 ?_
       conv=>whnf
       cases h
       exact Wk.mk2 [] 0 rfl rfl (by decide) rfl trivial ⟨rr,rr,rr,rr,rr,rr,trivial⟩
      conv=>whnf
      refine q1 ?_
      conv=>whnf
      refine q1 ?_
      conv=>whnf
      obtain ⟨x_67,hx_67,h⟩:=bS h
      refine q3 (ixP_of hx_67 rr) ?_
      conv=>whnf
      refine q2 ?_
      conv=>whnf
      refine q2 ?_
      conv=>whnf
      refine q1 ?_
      conv=>whnf
      refine q1 ?_
      conv=>whnf
      obtain ⟨x_68,hx_68,h⟩:=bS h
      refine q3 (ixP_of hx_68 rr) ?_
      conv=>whnf
      refine q2 ?_
      conv=>whnf
      refine q2 ?_
      conv=>whnf
      refine q1 ?_
      conv=>whnf
      refine q1 ?_
      conv=>whnf
      refine q1 ?_
      conv=>whnf
      refine cB h (fun hb69 h=>?_) (fun hb69 h=>?_)
      ·conv=>whnf
       refine q1 ?_
       conv=>whnf
       refine q1 ?_
       conv=>whnf
       refine q1 ?_
       conv=>whnf
       cases h
       exact Wk.mk2 [] 0 rfl rfl (by decide) rfl trivial ⟨rr,rr,rr,rr,rr,rr,trivial⟩
      conv=>whnf
      refine q1 ?_
      conv=>whnf
      refine q1 ?_
      conv=>whnf
      obtain ⟨x_70,hx_70,h⟩:=bS h
      refine q3 (ixP_of hx_70 rr) ?_
      conv=>whnf
      refine q2 ?_
      conv=>whnf
      refine q2 ?_
      conv=>whnf
      refine q1 ?_
      conv=>whnf
      refine q1 ?_
      conv=>whnf
      obtain ⟨x_71,hx_71,h⟩:=bS h
      refine q3 (ixP_of hx_71 rr) ?_
      conv=>whnf
      refine q2 ?_
      conv=>whnf
      refine q2 ?_
      conv=>whnf
      refine q1 ?_
      conv=>whnf
      refine q1 ?_
      conv=>whnf
      refine q1 ?_
      conv=>whnf
      refine q1 ?_
      conv=>whnf
      cases h
      exact Wk.mk2 [] 0 rfl rfl (by decide) rfl trivial ⟨rr,rr,rr,rr,rr,rr,trivial⟩
     conv=>whnf
     refine q1 ?_
     conv=>whnf
     refine q1 ?_
     conv=>whnf
     cases h
     exact Wk.mk2 [] 0 rfl rfl (by decide) rfl trivial ⟨rr,rr,rr,rr,rr,rr,trivial⟩
    conv=>whnf
    refine q1 ?_
    conv=>whnf
    refine q1 ?_
    conv=>whnf
    refine q1 ?_
    conv=>whnf
    refine q1 ?_
    conv=>whnf
    obtain ⟨x_72,hx_72,h⟩:=bS h
    refine q3 (ixP_of hx_72 rr) ?_
    conv=>whnf
    refine q2 ?_
    conv=>whnf
    refine q2 ?_
    conv=>whnf
    refine q1 ?_
    conv=>whnf
    refine q1 ?_
    conv=>whnf
    refine cB h (fun hb73 h=>?_) (fun hb73 h=>?_)
    ·conv=>whnf
     refine q1 ?_
     conv=>whnf
     refine q1 ?_
     conv=>whnf
     obtain ⟨x_74,hx_74,h⟩:=bS h
     refine q3 (ixP_of hx_74 rr) ?_
     conv=>whnf
     refine q2 ?_
     conv=>whnf
     refine q2 ?_
     conv=>whnf
     refine q1 ?_
     conv=>whnf
     refine q1 ?_
     conv=>whnf
     refine cB h (fun hb75 h=>?_) (fun hb75 h=>?_)
     ·conv=>whnf
      refine q1 ?_
      conv=>whnf
      refine q1 ?_
      conv=>whnf
      refine q1 ?_
      conv=>whnf
      refine q1 ?_
      conv=>whnf
      refine q1 ?_
      conv=>whnf
      cases h
      exact Wk.mk2 [] 0 rfl rfl (by decide) rfl trivial ⟨rr,rr,rr,rr,rr,rr,trivial⟩
     conv=>whnf
     refine q1 ?_
     conv=>whnf
     refine q1 ?_
     conv=>whnf
     obtain ⟨x_76,hx_76,h⟩:=bS h
     refine q3 (ixP_of hx_76 rr) ?_
     conv=>whnf
     refine q2 ?_
     conv=>whnf
     refine q2 ?_
     conv=>whnf
     refine q1 ?_
     conv=>whnf
     refine q1 ?_
     conv=>whnf
     obtain ⟨x_77,hx_77,h⟩:=bS h
     refine q3 (ixP_of hx_77 rr) ?_
     conv=>whnf
     refine q2 ?_
     conv=>whnf
     refine q2 ?_
     conv=>whnf
     refine q1 ?_
     conv=>whnf
     refine q1 ?_
     conv=>whnf
     refine q1 ?_
     conv=>whnf
     refine cB h (fun hb78 h=>?_) (fun hb78 h=>?_)
     ·conv=>whnf
      refine q1 ?_
      conv=>whnf
      refine q1 ?_
      conv=>whnf
      refine q1 ?_
      conv=>whnf
      cases h
      exact Wk.mk2 [] 0 rfl rfl (by decide) rfl trivial ⟨rr,rr,rr,rr,rr,rr,trivial⟩
     conv=>whnf
     refine q1 ?_
     conv=>whnf
     refine q1 ?_
     conv=>whnf
     obtain ⟨x_79,hx_79,h⟩:=bS h
     refine q3 (ixP_of hx_79 rr) ?_
     conv=>whnf
     refine q2 ?_
     conv=>whnf
     refine q2 ?_
     conv=>whnf
     refine q1 ?_
     conv=>whnf
     refine q1 ?_
     conv=>whnf
     obtain ⟨x_80,hx_80,h⟩:=bS h
     refine q3 (ixP_of hx_80 rr) ?_
     conv=>whnf
     refine q2 ?_
     conv=>whnf
     refine q2 ?_
     conv=>whnf
     refine q1 ?_
     conv=>whnf
     refine q1 ?_
     conv=>whnf
     refine q1 ?_
     conv=>whnf
     refine q1 ?_
     conv=>whnf
     cases h
     exact Wk.mk2 [] 0 rfl rfl (by decide) rfl trivial ⟨rr,rr,rr,rr,rr,rr,trivial⟩
    conv=>whnf
    refine q1 ?_
    conv=>whnf
    refine q1 ?_
    conv=>whnf
    cases h
    exact Wk.mk2 [] 0 rfl rfl (by decide) rfl trivial ⟨rr,rr,rr,rr,rr,rr,trivial⟩
   clear hv58
   conv=>whnf
   refine Tr.weak hw ?_
   refine Tr.cond ?_
   conv=>whnf
   refine cB h (fun hb81 h=>?_) (fun hb81 h=>?_)
   ·refine sg ?_
    conv=>whnf
    refine Tr.ret ?_
    conv=>whnf
    cases h
    rfl
   refine Tr.skip ?_
   conv=>whnf
   refine rg ?_
   conv=>whnf
   refine arS_raw ?_
   conv=>whnf
   refine ⟨((w64 (v_52+1))),h,?_⟩
   exact Wk.mk2 [] 0 rfl rfl (by decide) rfl trivial ⟨rr,rr,rr,rr,rr,trivial⟩
  refine Tr.exit ?_
  conv=>whnf
  refine ⟨(),h,?_⟩
  exact Wk.mk2 [] 0 rfl rfl (by decide) rfl trivial ⟨rr,trivial⟩
 clear h
 rintro _ h T1 H1 hw
 replace h:M142 ()=some r_5:=h
 conv=>whnf
 refine Tr.weak hw ?_
 unfold M142 at h
 refine sg ?_
 conv=>whnf
 refine Tr.ret ?_
 conv=>whnf
 cases h
 rfl
end Go.Proofs.Try
