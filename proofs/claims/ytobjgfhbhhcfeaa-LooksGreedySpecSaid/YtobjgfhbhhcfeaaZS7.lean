/- Contracts of functions, by program (gen.py). No condition. -/
import Derived.Test.YtobjgfhbhhcfeaaZL
import Derived.Test.YtobjgfhbhhcfeaaZM
import Derived.Test.YtobjgfhbhhcfeaaZCB
import Derived.Test.YtobjgfhbhhcfeaaZS6
namespace Go.Proofs.Try
open Go Go.Abs Go.Stop
set_option maxRecDepth 8000
set_option linter.unusedVariables false
set_option linter.unusedSimpArgs false
theorem P214 (f_1:TField) (world_2:Int) (x_3:TOutcome) (runner_4:Int) (rival_5:Int) (r_6:Bool) (h:M214 f_1 world_2 x_3 runner_4 rival_5=some r_6) :
    PC prog 130 [(eTField f_1),(.i .i64 world_2),(eTOutcome x_3),(.i .i64 runner_4),(.i .i64 rival_5)] (fun rs=>rs=[(.b r_6)]):=by
 refine PC.of_tr (cx:=⟨37,none,lay,0⟩) layOK func130 rfl rfl rfl rfl rfl (by simp [f130]) ?_
 unfold M214 at h
 refine sg ?_
 conv=>whnf
 refine sg ?_
 conv=>whnf
 obtain ⟨x_7,hx_7,h⟩:=bS h
 refine ixP_of hx_7 ?_
 conv=>whnf
 obtain ⟨x_8,hx_8,h⟩:=bS h
 refine ixP_of hx_8 ?_
 conv=>whnf
 refine Tr.seq ?_
 refine sg ?_
 conv=>whnf
 refine Tr.cutQ (α:=Unit) (fun s=>([(10,.d (.b false))],[])) (fun s=>M213 s=some r_6) ?_ ?_
 ·refine Tr.block ?_
  refine Tr.loopM (σ:=Int) (fun n s=>M212 f_1 x_3 runner_4 rival_5 x_8 M213 n s) r_6 (fun s=>([(3,(dI runner_4)),(4,(dI rival_5)),(5,.pt 0 0),(7,.pt 1 0),(10,.d (.b false)),(11,.d (.ls (List.map eTOutcome x_8))),(12,(dI s))],[some (.var [.d (.ls (List.map eTSegment f_1.Clocks.Segments)),.d (.ls (List.map (eL eI) f_1.Clocks.Far)),.d (.ls (List.map eTPair f_1.Pairs)),.d (.ls (List.map eTRunner f_1.Runners))]),some (.var [.d (.b x_3.Out),(dI x_3.Seg),(dI x_3.Lo),(dI x_3.Hi)])])) (((((x_8).length:Int)) - 0:Int).toNat+1) (0) h (fun s=>rfl) (Wk.mk2 [0,1] 2 rfl rfl (by decide) rfl ⟨rr,rr,trivial⟩ ⟨rr,rr,rr,rr,rr,rr,rr,trivial⟩) ?_
  clear h
  rintro n_11 i_10 h
  replace h:M212 f_1 x_3 runner_4 rival_5 x_8 M213 (n_11+1) i_10=some r_6:=h
  rw [M212] at h
  refine Tr.seq ?_
  refine sg ?_
  conv=>whnf
  refine lnS_map ?_
  conv=>whnf
  refine Tr.cond ?_
  conv=>whnf
  refine cB h (fun hb14 h=>?_) (fun hb14 h=>?_)
  ·refine Tr.skip ?_
   conv=>whnf
   refine Tr.seq ?_
   refine Tr.block ?_
   refine sd [] [(0,3),(1,4),(2,1),(3,1),(4,1),(5,2),(6,2),(7,1),(8,1)] ?_
   conv=>whnf
   refine q2 ?_
   conv=>whnf
   refine q2 ?_
   conv=>whnf
   refine q1 ?_
   conv=>whnf
   refine q1 ?_
   conv=>whnf
   refine q1 ?_
   conv=>whnf
   obtain ⟨x_15,hx_15,h⟩:=bS h
   refine q3 (ixP_of hx_15 rr) ?_
   conv=>whnf
   refine q2 ?_
   conv=>whnf
   refine q1 ?_
   conv=>whnf
   obtain ⟨r_16,hc17,h⟩:=bS h
   refine q1 ?_ (fun _=>pe (P211 f_1 x_3 runner_4 x_15 rival_5 r_16 hc17) rr)
   conv=>whnf
   refine Tr.cond ?_
   conv=>whnf
   refine cB h (fun hb18 h=>?_) (fun hb18 h=>?_)
   ·refine sg ?_
    conv=>whnf
    refine Tr.ret ?_
    conv=>whnf
    cases h
    rfl
   refine Tr.skip ?_
   conv=>whnf
   refine rg ?_
   conv=>whnf
   refine arS_raw ?_
   conv=>whnf
   refine ⟨((w64 (i_10+1))),h,?_⟩
   exact Wk.mk2 [0,1] 2 rfl rfl (by decide) rfl ⟨rr,rr,trivial⟩ ⟨rr,rr,rr,rr,rr,rr,rr,trivial⟩
  refine Tr.exit ?_
  conv=>whnf
  refine ⟨(),h,?_⟩
  exact Wk.mk2 [] 2 rfl rfl (by decide) rfl trivial ⟨rr,trivial⟩
 clear h
 rintro _ h T1 H1 hw
 replace h:M213 ()=some r_6:=h
 conv=>whnf
 refine Tr.weak hw ?_
 unfold M213 at h
 refine sg ?_
 conv=>whnf
 refine Tr.ret ?_
 conv=>whnf
 cases h
 rfl
theorem P215 (f_1:TField) (x_2:TOutcome) (runner_3:Int) (y_4:TOutcome) (rival_5:Int) (r_6:Bool) (h:M215 f_1 x_2 runner_3 y_4 rival_5=some r_6) :
    PC prog 133 [(eTField f_1),(eTOutcome x_2),(.i .i64 runner_3),(eTOutcome y_4),(.i .i64 rival_5)] (fun rs=>rs=[(.b r_6)]):=by
 refine PC.of_tr (cx:=⟨54,none,lay,0⟩) layOK func133 rfl rfl rfl rfl rfl (by simp [f133]) ?_
 unfold M215 at h
 refine sg ?_
 conv=>whnf
 refine Tr.seq ?_
 refine sg ?_
 conv=>whnf
 refine Tr.cond ?_
 conv=>whnf
 refine cB h (fun hb7 h=>?_) (fun hb7 h=>?_)
 ·refine sg ?_
  conv=>whnf
  refine Tr.ret ?_
  conv=>whnf
  cases h
  rfl
 refine Tr.skip ?_
 conv=>whnf
 refine sd [] [(0,5),(1,5),(2,3),(3,3),(4,3),(5,5),(6,5),(7,1),(8,2),(9,2),(10,4),(11,4),(12,1),(13,2),(14,2),(15,1),(16,4),(17,4),(18,1),(19,1)] ?_
 conv=>whnf
 refine q2 ?_
 conv=>whnf
 refine q2 ?_
 conv=>whnf
 refine q2 ?_
 conv=>whnf
 refine q2 ?_
 conv=>whnf
 refine q2 ?_
 conv=>whnf
 refine q2 ?_
 conv=>whnf
 refine q2 ?_
 conv=>whnf
 refine q4 ?_
 conv=>whnf
 obtain ⟨x_8,hx_8,h⟩:=bS h
 refine q3 (ixP_of hx_8 rr) ?_
 conv=>whnf
 refine q2 ?_
 conv=>whnf
 refine q2 ?_
 conv=>whnf
 refine q2 ?_
 conv=>whnf
 refine q4 ?_
 conv=>whnf
 obtain ⟨x_9,hx_9,h⟩:=bS h
 refine q3 (ixP_of hx_9 rr) ?_
 conv=>whnf
 refine q2 ?_
 conv=>whnf
 refine q4 ?_
 conv=>whnf
 refine q2 ?_
 conv=>whnf
 refine q2 ?_
 conv=>whnf
 refine q4 ?_
 conv=>whnf
 refine q1 ?_
 conv=>whnf
 refine sd [] [(0,1),(1,1),(2,1),(3,1),(4,1),(5,1),(6,3),(7,3),(8,1),(9,2),(10,2),(11,2),(12,3),(13,3),(14,1),(15,2),(16,2),(17,2),(18,1),(19,1),(20,1),(21,1)] ?_
 conv=>whnf
 refine q1 ?_
 conv=>whnf
 refine q1 ?_
 conv=>whnf
 refine q1 ?_
 conv=>whnf
 refine cB h (fun hb10 h=>?_) (fun hb10 h=>?_)
 ·conv=>whnf
  refine q1 ?_
  conv=>whnf
  refine q1 ?_
  conv=>whnf
  refine Tr.ret ?_
  conv=>whnf
  cases h
  rfl
 conv=>whnf
 refine q1 ?_
 conv=>whnf
 refine q1 ?_
 conv=>whnf
 refine q1 ?_
 conv=>whnf
 refine cB h (fun hb11 h=>?_) (fun hb11 h=>?_)
 ·conv=>whnf
  refine q2 ?_
  conv=>whnf
  refine q2 ?_
  conv=>whnf
  refine q1 ?_
  conv=>whnf
  obtain ⟨x_12,hx_12,h⟩:=bS h
  refine q3 (ixP_of hx_12 rr) ?_
  conv=>whnf
  refine q2 ?_
  conv=>whnf
  refine q2 ?_
  conv=>whnf
  refine q2 ?_
  conv=>whnf
  refine q2 ?_
  conv=>whnf
  refine q1 ?_
  conv=>whnf
  obtain ⟨x_13,hx_13,h⟩:=bS h
  refine q3 (ixP_of hx_13 rr) ?_
  conv=>whnf
  refine q2 ?_
  conv=>whnf
  refine q2 ?_
  conv=>whnf
  obtain ⟨r_14,hc15,h⟩:=bS h
  refine q1 ?_ (fun _=>pe (P210 x_12.Keys x_13.Keys r_14 hc15) rr)
  conv=>whnf
  refine q1 ?_
  conv=>whnf
  refine q1 ?_
  conv=>whnf
  refine q1 ?_
  conv=>whnf
  refine Tr.ret ?_
  conv=>whnf
  cases h
  rfl
 conv=>whnf
 refine q1 ?_
 conv=>whnf
 refine q1 ?_
 conv=>whnf
 refine q1 ?_
 conv=>whnf
 refine Tr.ret ?_
 conv=>whnf
 cases h
 rfl
theorem P218 (f_1:TField) (world_2:Int) (x_3:TOutcome) (runner_4:Int) (rival_5:Int) (r_6:Bool) (h:M218 f_1 world_2 x_3 runner_4 rival_5=some r_6) :
    PC prog 131 [(eTField f_1),(.i .i64 world_2),(eTOutcome x_3),(.i .i64 runner_4),(.i .i64 rival_5)] (fun rs=>rs=[(.b r_6)]):=by
 refine PC.of_tr (cx:=⟨37,none,lay,0⟩) layOK func131 rfl rfl rfl rfl rfl (by simp [f131]) ?_
 unfold M218 at h
 refine sg ?_
 conv=>whnf
 refine sg ?_
 conv=>whnf
 obtain ⟨x_7,hx_7,h⟩:=bS h
 refine ixP_of hx_7 ?_
 conv=>whnf
 obtain ⟨x_8,hx_8,h⟩:=bS h
 refine ixP_of hx_8 ?_
 conv=>whnf
 refine Tr.seq ?_
 refine sg ?_
 conv=>whnf
 refine Tr.cutQ (α:=Unit) (fun s=>([(10,.d (.b false))],[])) (fun s=>M217 s=some r_6) ?_ ?_
 ·refine Tr.block ?_
  refine Tr.loopM (σ:=Int) (fun n s=>M216 f_1 x_3 runner_4 rival_5 x_8 M217 n s) r_6 (fun s=>([(3,(dI runner_4)),(4,(dI rival_5)),(5,.pt 0 0),(7,.pt 1 0),(10,.d (.b false)),(11,.d (.ls (List.map eTOutcome x_8))),(12,(dI s))],[some (.var [.d (.ls (List.map eTSegment f_1.Clocks.Segments)),.d (.ls (List.map (eL eI) f_1.Clocks.Far)),.d (.ls (List.map eTPair f_1.Pairs)),.d (.ls (List.map eTRunner f_1.Runners))]),some (.var [.d (.b x_3.Out),(dI x_3.Seg),(dI x_3.Lo),(dI x_3.Hi)])])) (((((x_8).length:Int)) - 0:Int).toNat+1) (0) h (fun s=>rfl) (Wk.mk2 [0,1] 2 rfl rfl (by decide) rfl ⟨rr,rr,trivial⟩ ⟨rr,rr,rr,rr,rr,rr,rr,trivial⟩) ?_
  clear h
  rintro n_11 i_10 h
  replace h:M216 f_1 x_3 runner_4 rival_5 x_8 M217 (n_11+1) i_10=some r_6:=h
  rw [M216] at h
  refine Tr.seq ?_
  refine sg ?_
  conv=>whnf
  refine lnS_map ?_
  conv=>whnf
  refine Tr.cond ?_
  conv=>whnf
  refine cB h (fun hb14 h=>?_) (fun hb14 h=>?_)
  ·refine Tr.skip ?_
   conv=>whnf
   refine Tr.seq ?_
   refine Tr.block ?_
   refine sd [] [(0,3),(1,4),(2,1),(3,1),(4,1),(5,2),(6,2),(7,1),(8,1)] ?_
   conv=>whnf
   refine q2 ?_
   conv=>whnf
   refine q2 ?_
   conv=>whnf
   refine q1 ?_
   conv=>whnf
   refine q1 ?_
   conv=>whnf
   refine q1 ?_
   conv=>whnf
   obtain ⟨x_15,hx_15,h⟩:=bS h
   refine q3 (ixP_of hx_15 rr) ?_
   conv=>whnf
   refine q2 ?_
   conv=>whnf
   refine q1 ?_
   conv=>whnf
   obtain ⟨r_16,hc17,h⟩:=bS h
   refine q1 ?_ (fun _=>pe (P215 f_1 x_3 runner_4 x_15 rival_5 r_16 hc17) rr)
   conv=>whnf
   refine Tr.cond ?_
   conv=>whnf
   refine cB h (fun hb18 h=>?_) (fun hb18 h=>?_)
   ·refine sg ?_
    conv=>whnf
    refine Tr.ret ?_
    conv=>whnf
    cases h
    rfl
   refine Tr.skip ?_
   conv=>whnf
   refine rg ?_
   conv=>whnf
   refine arS_raw ?_
   conv=>whnf
   refine ⟨((w64 (i_10+1))),h,?_⟩
   exact Wk.mk2 [0,1] 2 rfl rfl (by decide) rfl ⟨rr,rr,trivial⟩ ⟨rr,rr,rr,rr,rr,rr,rr,trivial⟩
  refine Tr.exit ?_
  conv=>whnf
  refine ⟨(),h,?_⟩
  exact Wk.mk2 [] 2 rfl rfl (by decide) rfl trivial ⟨rr,trivial⟩
 clear h
 rintro _ h T1 H1 hw
 replace h:M217 ()=some r_6:=h
 conv=>whnf
 refine Tr.weak hw ?_
 unfold M217 at h
 refine sg ?_
 conv=>whnf
 refine Tr.ret ?_
 conv=>whnf
 cases h
 rfl
theorem P220 (f_1:TField) (world_2:Int) (x_3:TOutcome) (runner_4:Int) (r_5:Int) (r_6:Int) (h:M220 f_1 world_2 x_3 runner_4=some (r_5,r_6)) :
    PC prog 126 [(eTField f_1),(.i .i64 world_2),(eTOutcome x_3),(.i .i64 runner_4)] (fun rs=>rs=[(.i .i64 r_5),(.i .i64 r_6)]):=by
 refine PC.of_tr (cx:=⟨42,none,lay,0⟩) layOK func126 rfl rfl rfl rfl rfl (by simp [f126]) ?_
 unfold M220 at h
 refine sg ?_
 conv=>whnf
 refine sg ?_
 conv=>whnf
 refine sg ?_
 conv=>whnf
 refine Tr.seq ?_
 refine sg ?_
 conv=>whnf
 obtain ⟨⟨best_14,worst_15⟩,hv32,h⟩:=bS h
 refine Tr.cutQ1 ([(8,(dI 0)),(9,(dI 0)),(10,(dI best_14)),(11,(dI worst_15))]) ([]) ?_ (fun T1 H1 hw=>?_)
 ·replace h:=hv32; clear hv32
  refine Tr.block ?_
  refine Tr.loopM (σ:=Int × Int × Int) (fun n s=>M219 f_1 world_2 x_3 runner_4 n s.1 s.2.1 s.2.2) (best_14,worst_15) (fun s=>([(1,(dI world_2)),(3,(dI runner_4)),(4,.pt 0 0),(6,.pt 1 0),(8,(dI 0)),(9,(dI 0)),(10,(dI s.1)),(11,(dI s.2.1)),(12,(dI s.2.2))],[some (.var [.d (.ls (List.map eTSegment f_1.Clocks.Segments)),.d (.ls (List.map (eL eI) f_1.Clocks.Far)),.d (.ls (List.map eTPair f_1.Pairs)),.d (.ls (List.map eTRunner f_1.Runners))]),some (.var [.d (.b x_3.Out),(dI x_3.Seg),(dI x_3.Lo),(dI x_3.Hi)])])) (((((f_1.Runners).length:Int)) - 0:Int).toNat+1) (1,1,0) h (fun s=>rfl) (Wk.mk2 [0,1] 2 rfl rfl (by decide) rfl ⟨rr,rr,trivial⟩ ⟨rr,rr,rr,rr,rr,rr,rr,rr,rr,trivial⟩) ?_
  clear h
  rintro n_13 ⟨best_10,worst_11,i_12⟩ h
  replace h:M219 f_1 world_2 x_3 runner_4 (n_13+1) best_10 worst_11 i_12=some (best_14,worst_15):=h
  rw [M219] at h
  refine Tr.seq ?_
  refine sg ?_
  conv=>whnf
  refine lnS_map ?_
  conv=>whnf
  refine Tr.cond ?_
  conv=>whnf
  refine cB h (fun hb18 h=>?_) (fun hb18 h=>?_)
  ·refine Tr.skip ?_
   conv=>whnf
   refine Tr.seq ?_
   obtain ⟨⟨best_19,worst_20⟩,hv21,h⟩:=bS h
   refine Tr.cutQ1 ([(1,(dI world_2)),(3,(dI runner_4)),(4,.pt 0 0),(6,.pt 1 0),(8,(dI 0)),(9,(dI 0)),(10,(dI best_19)),(11,(dI worst_20)),(12,(dI i_12))]) ([some (.var [.d (.ls (List.map eTSegment f_1.Clocks.Segments)),.d (.ls (List.map (eL eI) f_1.Clocks.Far)),.d (.ls (List.map eTPair f_1.Pairs)),.d (.ls (List.map eTRunner f_1.Runners))]),some (.var [.d (.b x_3.Out),(dI x_3.Seg),(dI x_3.Lo),(dI x_3.Hi)])]) ?_ (fun T1 H1 hw=>?_)
   ·replace h:=hv21; clear hv21
    refine Tr.block ?_
    refine Tr.seq ?_
    refine sg ?_
    conv=>whnf
    refine Tr.cond ?_
    conv=>whnf
    refine cB h (fun hb22 h=>?_) (fun hb22 h=>?_)
    ·refine Tr.exit ?_
     conv=>whnf
     cases h
     exact Wk.mk2 [0,1] 2 rfl rfl (by decide) rfl ⟨rr,rr,trivial⟩ ⟨rr,rr,rr,rr,rr,rr,rr,rr,rr,trivial⟩
    refine Tr.skip ?_
    conv=>whnf
    refine Tr.seq ?_
    refine sg ?_
    conv=>whnf
    obtain ⟨r_23,hc24,h⟩:=bS h
    refine PC.ecall (P214 f_1 world_2 x_3 runner_4 i_12 r_23 hc24) (fun rs hrs=>?_)
    subst hrs
    conv=>whnf
    refine Tr.cond ?_
    conv=>whnf
    refine cB h (fun hb25 h=>?_) (fun hb25 h=>?_)
    ·refine rg ?_
     conv=>whnf
     refine arS_raw ?_
     conv=>whnf
     refine sg ?_
     conv=>whnf
     obtain ⟨r_26,hc27,h⟩:=bS h
     refine PC.ecall (P218 f_1 world_2 x_3 runner_4 i_12 r_26 hc27) (fun rs hrs=>?_)
     subst hrs
     conv=>whnf
     refine Tr.cond ?_
     conv=>whnf
     refine cB h (fun hb28 h=>?_) (fun hb28 h=>?_)
     ·refine rg ?_
      conv=>whnf
      refine arS_raw ?_
      conv=>whnf
      cases h
      exact Wk.mk2 [0,1] 2 rfl rfl (by decide) rfl ⟨rr,rr,trivial⟩ ⟨rr,rr,rr,rr,rr,rr,rr,rr,rr,trivial⟩
     refine Tr.skip ?_
     conv=>whnf
     cases h
     exact Wk.mk2 [0,1] 2 rfl rfl (by decide) rfl ⟨rr,rr,trivial⟩ ⟨rr,rr,rr,rr,rr,rr,rr,rr,rr,trivial⟩
    refine Tr.skip ?_
    conv=>whnf
    refine sg ?_
    conv=>whnf
    obtain ⟨r_29,hc30,h⟩:=bS h
    refine PC.ecall (P218 f_1 world_2 x_3 runner_4 i_12 r_29 hc30) (fun rs hrs=>?_)
    subst hrs
    conv=>whnf
    refine Tr.cond ?_
    conv=>whnf
    refine cB h (fun hb31 h=>?_) (fun hb31 h=>?_)
    ·refine rg ?_
     conv=>whnf
     refine arS_raw ?_
     conv=>whnf
     cases h
     exact Wk.mk2 [0,1] 2 rfl rfl (by decide) rfl ⟨rr,rr,trivial⟩ ⟨rr,rr,rr,rr,rr,rr,rr,rr,rr,trivial⟩
    refine Tr.skip ?_
    conv=>whnf
    cases h
    exact Wk.mk2 [0,1] 2 rfl rfl (by decide) rfl ⟨rr,rr,trivial⟩ ⟨rr,rr,rr,rr,rr,rr,rr,rr,rr,trivial⟩
   clear hv21
   conv=>whnf
   refine Tr.weak hw ?_
   refine rg ?_
   conv=>whnf
   refine arS_raw ?_
   conv=>whnf
   refine ⟨(best_19,worst_20,(w64 (i_12+1))),h,?_⟩
   exact Wk.mk2 [0,1] 2 rfl rfl (by decide) rfl ⟨rr,rr,trivial⟩ ⟨rr,rr,rr,rr,rr,rr,rr,rr,rr,trivial⟩
  refine Tr.exit ?_
  conv=>whnf
  cases h
  exact Wk.mk2 [] 2 rfl rfl (by decide) rfl trivial ⟨rr,rr,rr,rr,trivial⟩
 clear hv32
 conv=>whnf
 refine Tr.weak hw ?_
 refine sg ?_
 conv=>whnf
 refine Tr.ret ?_
 conv=>whnf
 cases h
 rfl
theorem P223 (f_1:TField) (runner_2:Int) (r_3:TRank) (r_4:Int) (h:M223 f_1 runner_2=some (r_3,r_4)) :
    PC prog 107 [(eTField f_1),(.i .i64 runner_2)] (fun rs=>rs=[(eTRank r_3),(.i .i64 r_4)]):=by
 refine PC.of_tr (cx:=⟨106,none,lay,0⟩) layOK func107 rfl rfl rfl rfl rfl (by simp [f107]) ?_
 unfold M223 at h
 refine sg ?_
 conv=>whnf
 refine sg ?_
 conv=>whnf
 obtain ⟨r_5,hc6,h⟩:=bS h
 refine PC.ecall (P204 f_1 runner_2 r_5 hc6) (fun rs hrs=>?_)
 subst hrs
 conv=>whnf
 refine Tr.seq ?_
 refine sg ?_
 conv=>whnf
 refine Tr.cond ?_
 conv=>whnf
 refine cB h (fun hb7 h=>?_) (fun hb7 h=>?_)
 ·refine sg ?_
  conv=>whnf
  refine Tr.ret ?_
  conv=>whnf
  cases h
  rfl
 refine Tr.skip ?_
 conv=>whnf
 refine sg ?_
 conv=>whnf
 obtain ⟨x_8,hx_8,h⟩:=bS h
 refine ixP_of hx_8 ?_
 conv=>whnf
 refine Tr.seq ?_
 refine sg ?_
 conv=>whnf
 obtain ⟨⟨v_18,v_19,v_20⟩,hv57,h⟩:=bS h
 refine Tr.cutQ1 ([(4,.pt 0 0),(5,(dI 0)),(7,.pt 1 0)]) ([some (.var [(dI 0),(dI 0),(dI 0),(dI 0),.d (.b false)]),some (.var [(dI x_8.Bib),(dI 0),(dI v_18),(dI v_19),.d (.b v_20)])]) ?_ (fun T1 H1 hw=>?_)
 ·replace h:=hv57; clear hv57
  refine Tr.block ?_
  refine Tr.loopM (σ:=Int × Int × Int × Bool) (fun n s=>M222 f_1 runner_2 n s.1 s.2.1 s.2.2.1 s.2.2.2) (v_18,v_19,v_20) (fun s=>([(1,(dI runner_2)),(2,.pt 0 0),(4,.pt 1 0),(5,(dI 0)),(7,.pt 2 0),(8,(dI s.1))],[some (.var [.d (.ls (List.map eTSegment f_1.Clocks.Segments)),.d (.ls (List.map (eL eI) f_1.Clocks.Far)),.d (.ls (List.map eTPair f_1.Pairs)),.d (.ls (List.map eTRunner f_1.Runners))]),some (.var [(dI 0),(dI 0),(dI 0),(dI 0),.d (.b false)]),some (.var [(dI x_8.Bib),(dI 0),(dI s.2.1),(dI s.2.2.1),.d (.b s.2.2.2)])])) (((((f_1.Pairs).length:Int))+1 - 0:Int).toNat+1) (0,0,0,false) h (fun s=>rfl) (Wk.mk2 [0,1,2] 3 rfl rfl (by decide) rfl ⟨rr,rr,rr,trivial⟩ ⟨rr,rr,rr,rr,rr,rr,trivial⟩) ?_
  clear h
  rintro n_17 ⟨w_13,v_14,v_15,v_16⟩ h
  replace h:M222 f_1 runner_2 (n_17+1) w_13 v_14 v_15 v_16=some (v_18,v_19,v_20):=h
  rw [M222] at h
  refine Tr.seq ?_
  refine sg ?_
  conv=>whnf
  refine lnS_map ?_
  conv=>whnf
  refine Tr.cond ?_
  conv=>whnf
  refine cB h (fun hb23 h=>?_) (fun hb23 h=>?_)
  ·refine Tr.skip ?_
   conv=>whnf
   refine Tr.seq ?_
   refine Tr.block ?_
   refine sg ?_
   conv=>whnf
   obtain ⟨x_24,hx_24,h⟩:=bS h
   refine ixP_of hx_24 ?_
   conv=>whnf
   obtain ⟨x_25,hx_25,h⟩:=bS h
   refine ixP_of hx_25 ?_
   conv=>whnf
   refine sg ?_
   conv=>whnf
   obtain ⟨⟨v_35,v_36,v_37⟩,hv56,h⟩:=bS h
   refine Tr.cutQ1 ([(1,(dI runner_2)),(2,.pt 0 0),(4,.pt 1 0),(5,(dI 0)),(7,.pt 2 0),(8,(dI w_13))]) ([some (.var [.d (.ls (List.map eTSegment f_1.Clocks.Segments)),.d (.ls (List.map (eL eI) f_1.Clocks.Far)),.d (.ls (List.map eTPair f_1.Pairs)),.d (.ls (List.map eTRunner f_1.Runners))]),some (.var [(dI 0),(dI 0),(dI 0),(dI 0),.d (.b false)]),some (.var [(dI x_8.Bib),(dI 0),(dI v_35),(dI v_36),.d (.b v_37)])]) ?_ (fun T1 H1 hw=>?_)
   ·replace h:=hv56; clear hv56
    refine Tr.block ?_
    refine Tr.loopM (σ:=Int × Int × Int × Bool) (fun n s=>M221 f_1 runner_2 w_13 x_25 n s.1 s.2.1 s.2.2.1 s.2.2.2) (v_35,v_36,v_37) (fun s=>([(1,(dI runner_2)),(2,.pt 0 0),(4,.pt 1 0),(5,(dI 0)),(7,.pt 2 0),(8,(dI w_13)),(9,.d (.ls (List.map eTOutcome x_25))),(10,(dI s.1))],[some (.var [.d (.ls (List.map eTSegment f_1.Clocks.Segments)),.d (.ls (List.map (eL eI) f_1.Clocks.Far)),.d (.ls (List.map eTPair f_1.Pairs)),.d (.ls (List.map eTRunner f_1.Runners))]),some (.var [(dI 0),(dI 0),(dI 0),(dI 0),.d (.b false)]),some (.var [(dI x_8.Bib),(dI 0),(dI s.2.1),(dI s.2.2.1),.d (.b s.2.2.2)])])) (((((x_25).length:Int)) - 0:Int).toNat+1) (0,v_14,v_15,v_16) h (fun s=>rfl) (Wk.mk2 [0,1,2] 3 rfl rfl (by decide) rfl ⟨rr,rr,rr,trivial⟩ ⟨rr,rr,rr,rr,rr,rr,rr,rr,trivial⟩) ?_
    clear h
    rintro n_34 ⟨i_30,v_31,v_32,v_33⟩ h
    replace h:M221 f_1 runner_2 w_13 x_25 (n_34+1) i_30 v_31 v_32 v_33=some (v_35,v_36,v_37):=h
    rw [M221] at h
    refine Tr.seq ?_
    refine sg ?_
    conv=>whnf
    refine lnS_map ?_
    conv=>whnf
    refine cB h (fun hb40 h=>?_) (fun hb40 h=>?_)
    ·conv=>whnf
     obtain ⟨r_41,hc42,h⟩:=bS h
     refine PC.ecall (P207 f_1 w_13 r_41 hc42) (fun rs hrs=>?_)
     subst hrs
     conv=>whnf
     refine Tr.cond ?_
     conv=>whnf
     refine cB h (fun hb43 h=>?_) (fun hb43 h=>?_)
     ·refine Tr.skip ?_
      conv=>whnf
      refine Tr.seq ?_
      obtain ⟨⟨v_44,v_45,v_46⟩,hv47,h⟩:=bS h
      refine Tr.cutQ1 ([(1,(dI runner_2)),(2,.pt 0 0),(4,.pt 1 0),(5,(dI 0)),(7,.pt 2 0),(8,(dI w_13)),(9,.d (.ls (List.map eTOutcome x_25))),(10,(dI i_30))]) ([some (.var [.d (.ls (List.map eTSegment f_1.Clocks.Segments)),.d (.ls (List.map (eL eI) f_1.Clocks.Far)),.d (.ls (List.map eTPair f_1.Pairs)),.d (.ls (List.map eTRunner f_1.Runners))]),some (.var [(dI 0),(dI 0),(dI 0),(dI 0),.d (.b false)]),some (.var [(dI x_8.Bib),(dI 0),(dI v_44),(dI v_45),.d (.b v_46)])]) ?_ (fun T1 H1 hw=>?_)
      ·replace h:=hv47; clear hv47
       refine Tr.block ?_
       refine Tr.seq ?_
       refine sg ?_
       conv=>whnf
       obtain ⟨x_48,hx_48,h⟩:=bS h
       refine ixP_of hx_48 ?_
       conv=>whnf
       refine Tr.cond ?_
       conv=>whnf
       refine cB h (fun hb49 h=>?_) (fun hb49 h=>?_)
       ·refine sg ?_
        conv=>whnf
        refine Tr.exit ?_
        conv=>whnf
        cases h
        exact Wk.mk2 [0,1,2] 3 rfl rfl (by decide) rfl ⟨rr,rr,rr,trivial⟩ ⟨rr,rr,rr,rr,rr,rr,rr,rr,trivial⟩
       refine Tr.skip ?_
       conv=>whnf
       refine sd [] [(0,3),(1,1),(2,1),(3,1),(4,2),(5,2),(6,1),(7,1),(8,1),(9,1),(10,1),(11,1),(12,1)] ?_
       conv=>whnf
       refine q2 ?_
       conv=>whnf
       refine q1 ?_
       conv=>whnf
       refine q1 ?_
       conv=>whnf
       refine q1 ?_
       conv=>whnf
       obtain ⟨x_50,hx_50,h⟩:=bS h
       refine q3 (ixP_of hx_50 rr) ?_
       conv=>whnf
       refine q2 ?_
       conv=>whnf
       refine q1 ?_
       conv=>whnf
       obtain ⟨⟨r_51,r_52⟩,hc53,h⟩:=bS h
       refine q1 ?_ (fun _=>pe (P220 f_1 w_13 x_50 runner_2 r_51 r_52 hc53) rr)
       conv=>whnf
       refine q1 ?_
       conv=>whnf
       refine q1 ?_
       conv=>whnf
       refine q1 ?_
       conv=>whnf
       refine q1 ?_
       conv=>whnf
       refine q1 ?_
       conv=>whnf
       refine Tr.seq ?_
       refine sg ?_
       conv=>whnf
       refine cB h (fun hb54 h=>?_) (fun hb54 h=>?_)
       ·conv=>whnf
        refine Tr.cond ?_
        conv=>whnf
        refine rg ?_
        conv=>whnf
        refine rg ?_
        conv=>whnf
        cases h
        exact Wk.mk2 [0,1,2] 3 rfl rfl (by decide) rfl ⟨rr,rr,rr,trivial⟩ ⟨rr,rr,rr,rr,rr,rr,rr,rr,trivial⟩
       conv=>whnf
       refine Tr.cond ?_
       conv=>whnf
       refine cB h (fun hb55 h=>?_) (fun hb55 h=>?_)
       ·refine rg ?_
        conv=>whnf
        refine rg ?_
        conv=>whnf
        cases h
        exact Wk.mk2 [0,1,2] 3 rfl rfl (by decide) rfl ⟨rr,rr,rr,trivial⟩ ⟨rr,rr,rr,rr,rr,rr,rr,rr,trivial⟩
       refine Tr.skip ?_
       conv=>whnf
       refine rg ?_
       conv=>whnf
       cases h
       exact Wk.mk2 [0,1,2] 3 rfl rfl (by decide) rfl ⟨rr,rr,rr,trivial⟩ ⟨rr,rr,rr,rr,rr,rr,rr,rr,trivial⟩
      clear hv47
      conv=>whnf
      refine Tr.weak hw ?_
      refine rg ?_
      conv=>whnf
      refine arS_raw ?_
      conv=>whnf
      refine ⟨((w64 (i_30+1)),v_44,v_45,v_46),h,?_⟩
      exact Wk.mk2 [0,1,2] 3 rfl rfl (by decide) rfl ⟨rr,rr,rr,trivial⟩ ⟨rr,rr,rr,rr,rr,rr,rr,rr,trivial⟩
     refine Tr.exit ?_
     conv=>whnf
     cases h
     exact Wk.mk2 [0,1,2] 3 rfl rfl (by decide) rfl ⟨rr,rr,rr,trivial⟩ ⟨rr,rr,rr,rr,rr,rr,trivial⟩
    conv=>whnf
    refine Tr.cond ?_
    conv=>whnf
    refine Tr.exit ?_
    conv=>whnf
    cases h
    exact Wk.mk2 [0,1,2] 3 rfl rfl (by decide) rfl ⟨rr,rr,rr,trivial⟩ ⟨rr,rr,rr,rr,rr,rr,trivial⟩
   clear hv56
   conv=>whnf
   refine Tr.weak hw ?_
   refine rg ?_
   conv=>whnf
   refine arS_raw ?_
   conv=>whnf
   refine ⟨((w64 (w_13+1)),v_35,v_36,v_37),h,?_⟩
   exact Wk.mk2 [0,1,2] 3 rfl rfl (by decide) rfl ⟨rr,rr,rr,trivial⟩ ⟨rr,rr,rr,rr,rr,rr,trivial⟩
  refine Tr.exit ?_
  conv=>whnf
  cases h
  exact Wk.mk2 [1,2] 3 rfl rfl (by decide) rfl ⟨rr,rr,trivial⟩ ⟨⟨rfl,(by first | rfl | (simp only [↓hb7,↓hb23,bl,List.length_set]; done) | (simp only [↓hb7,↓hb23,bl,List.length_set]; rfl))⟩,rr,⟨rfl,(by first | rfl | (simp only [↓hb7,↓hb23,bl,List.length_set]; done) | (simp only [↓hb7,↓hb23,bl,List.length_set]; rfl))⟩,trivial⟩
 clear hv57
 conv=>whnf
 refine Tr.weak hw ?_
 refine Tr.seq ?_
 refine Tr.cutQ1 ([(4,.pt 0 0),(5,(dI 0)),(7,.pt 1 0)]) ([some (.var [(dI 0),(dI 0),(dI 0),(dI 0),.d (.b false)]),some (.var [(dI x_8.Bib),(dI (bif (v_18 == 0) then 3 else (bif (v_18 == v_19) then (bif (!v_20) then 1 else 2) else 2))),(dI v_18),(dI v_19),.d (.b v_20)])]) ?_ (fun T1 H1 hw=>?_)
 ·refine Tr.block ?_
  refine sg ?_
  conv=>whnf
  refine Tr.cond ?_
  conv=>whnf
  refine condS_mk (fun hb59=>?_) (fun hb59=>?_)
  ·refine rg ?_
   conv=>whnf
   exact Wk.mk2 [0,1] 2 rfl rfl (by decide) rfl ⟨rr,⟨rfl,(by first | rfl | (simp only [↓hb7,↓hb59,bl,List.length_set]; done) | (simp only [↓hb7,↓hb59,bl,List.length_set]; rfl))⟩,trivial⟩ ⟨rr,rr,rr,trivial⟩
  refine sg ?_
  conv=>whnf
  refine condS_mk (fun hb60=>?_) (fun hb60=>?_)
  ·conv=>whnf
   refine Tr.cond ?_
   conv=>whnf
   refine condS_mk (fun hb61=>?_) (fun hb61=>?_)
   ·refine rg ?_
    conv=>whnf
    exact Wk.mk2 [0,1] 2 rfl rfl (by decide) rfl ⟨rr,⟨rfl,(by first | rfl | (simp only [↓hb7,↓hb59,↓hb60,↓hb61,bl,List.length_set]; done) | (simp only [↓hb7,↓hb59,↓hb60,↓hb61,bl,List.length_set]; rfl))⟩,trivial⟩ ⟨rr,rr,rr,trivial⟩
   refine rg ?_
   conv=>whnf
   exact Wk.mk2 [0,1] 2 rfl rfl (by decide) rfl ⟨rr,⟨rfl,(by first | rfl | (simp only [↓hb7,↓hb59,↓hb60,↓hb61,bl,List.length_set]; done) | (simp only [↓hb7,↓hb59,↓hb60,↓hb61,bl,List.length_set]; rfl))⟩,trivial⟩ ⟨rr,rr,rr,trivial⟩
  conv=>whnf
  refine Tr.cond ?_
  conv=>whnf
  refine rg ?_
  conv=>whnf
  exact Wk.mk2 [0,1] 2 rfl rfl (by decide) rfl ⟨rr,⟨rfl,(by first | rfl | (simp only [↓hb7,↓hb59,↓hb60,bl,List.length_set]; done) | (simp only [↓hb7,↓hb59,↓hb60,bl,List.length_set]; rfl))⟩,trivial⟩ ⟨rr,rr,rr,trivial⟩
 conv=>whnf
 refine Tr.weak hw ?_
 refine sg ?_
 conv=>whnf
 refine Tr.ret ?_
 conv=>whnf
 cases h
 rfl
theorem P224 (q_1:TQuestion) (r_2:Int) (h:M224 q_1=some r_2) :
    PC prog 77 [(eTQuestion q_1)] (fun rs=>rs=[(.i .i64 r_2)]):=by
 refine PC.of_tr (cx:=⟨29,none,lay,0⟩) layOK func77 rfl rfl rfl rfl rfl (by simp [f77]) ?_
 unfold M224 at h
 refine sg ?_
 conv=>whnf
 refine sg ?_
 conv=>whnf
 obtain ⟨⟨r_3,r_4⟩,hc5,h⟩:=bS h
 refine PC.ecall (P223 q_1.Field q_1.Runner r_3 r_4 hc5) (fun rs hrs=>?_)
 subst hrs
 conv=>whnf
 refine Tr.seq ?_
 refine sg ?_
 conv=>whnf
 refine Tr.cond ?_
 conv=>whnf
 refine cB h (fun hb6 h=>?_) (fun hb6 h=>?_)
 ·refine sg ?_
  conv=>whnf
  refine Tr.ret ?_
  conv=>whnf
  cases h
  rfl
 refine Tr.skip ?_
 conv=>whnf
 refine Tr.seq ?_
 refine sg ?_
 conv=>whnf
 refine Tr.cond ?_
 conv=>whnf
 refine cB h (fun hb7 h=>?_) (fun hb7 h=>?_)
 ·refine sg ?_
  conv=>whnf
  refine arS_raw ?_
  conv=>whnf
  refine arS_raw ?_
  conv=>whnf
  refine Tr.ret ?_
  conv=>whnf
  cases h
  rfl
 refine Tr.skip ?_
 conv=>whnf
 refine sg ?_
 conv=>whnf
 refine arS_raw ?_
 conv=>whnf
 refine Tr.ret ?_
 conv=>whnf
 cases h
 rfl
theorem P225 (r_1:TPlan) (h:M225=some r_1) :
    PC prog 78 [] (fun rs=>rs=[(eTPlan r_1)]):=by
 refine PC.of_tr (cx:=⟨2,none,lay,0⟩) layOK func78 rfl rfl rfl rfl rfl (by simp [f78]) ?_
 unfold M225 at h
 refine sg ?_
 conv=>whnf
 refine sg ?_
 conv=>whnf
 refine orB_l ?_
 conv=>whnf
 refine Tr.ret ?_
 conv=>whnf
 cases h
 rfl
theorem P226 (used_1:List Bool) (look_2:Int) (r_3:List Bool) (h:M226 used_1 look_2=some r_3) :
    PC prog 81 [(.ls (List.map eB used_1)),(.i .i64 look_2)] (fun rs=>rs=[(.ls (List.map eB r_3))]):=by
 refine PC.of_tr (cx:=⟨13,none,lay,0⟩) layOK func81 rfl rfl rfl rfl rfl (by simp [f81]) ?_
 unfold M226 at h
 refine sg ?_
 conv=>whnf
 refine sg ?_
 conv=>whnf
 refine orB_l ?_
 conv=>whnf
 refine frP_no ?_
 conv=>whnf
 refine eqS_mk (by first | rfl | simp) ?_
 conv=>whnf
 obtain ⟨l_4,hl_4,h⟩:=bS h
 refine apS_of hl_4 (aQ (f:=eB) (l:=used_1) fun _=>rfl) (by first | rfl | simp) (by first | rfl | simp) (fun he=>?_)
 conv=>whnf
 refine rS (es':=List.map .d (List.map eB l_4)) (n':=List.length l_4) (by subst he; simp only [List.map_append,List.map_cons,List.map_nil,List.nil_append]; first | done | rfl) (by subst he; simp <;> omega) ?_
 clear he
 conv=>whnf
 refine sg ?_
 conv=>whnf
 obtain ⟨x_5,hx_5,h⟩:=bS h
 refine ixS_of hx_5 rfl ?_
 conv=>whnf
 refine elP_of hx_5 ?_
 conv=>whnf
 refine lvS_mk (es':=List.map .d (List.map eB (List.set l_4 (Int.toNat look_2) true))) (by simp only [Nat.zero_add,List.map_set]; first | done | rfl) ?_
 conv=>whnf
 refine sg ?_
 conv=>whnf
 refine Tr.ret ?_
 conv=>whnf
 refine frE_of (f:=eB) (l:=(List.set l_4 (Int.toNat look_2) true)) (by first | rfl | simp) ?_
 conv=>whnf
 cases h
 rfl
theorem P228 (q_1:TQuestion) (look_2:Int) (r_3:Int) (h:M228 q_1 look_2=some r_3) :
    PC prog 80 [(eTQuestion q_1),(.i .i64 look_2)] (fun rs=>rs=[(.i .i64 r_3)]):=by
 refine PC.of_tr (cx:=⟨33,none,lay,0⟩) layOK func80 rfl rfl rfl rfl rfl (by simp [f80]) ?_
 unfold M228 at h
 refine sg ?_
 conv=>whnf
 refine sg ?_
 conv=>whnf
 refine Tr.seq ?_
 refine sg ?_
 conv=>whnf
 obtain ⟨n_9,hv20,h⟩:=bS h
 refine Tr.cutQ1 ([(4,(dI 0)),(5,(dI n_9))]) ([]) ?_ (fun T1 H1 hw=>?_)
 ·replace h:=hv20; clear hv20
  refine Tr.block ?_
  refine Tr.loopM (σ:=Int × Int) (fun n s=>M227 q_1 look_2 n s.1 s.2) n_9 (fun s=>([(1,(dI look_2)),(2,.pt 0 0),(4,(dI 0)),(5,(dI s.1)),(6,(dI s.2))],[some (.var [.d (.ls (List.map eTSegment q_1.Field.Clocks.Segments)),.d (.ls (List.map (eL eI) q_1.Field.Clocks.Far)),.d (.ls (List.map eTPair q_1.Field.Pairs)),.d (.ls (List.map eTRunner q_1.Field.Runners)),(dI q_1.Runner),.d (.ls (List.map eTLook q_1.Looks))])])) ((((((Option.getD (idx q_1.Looks look_2) default).Answers).length:Int)) - 0:Int).toNat+1) (0,0) h (fun s=>rfl) (Wk.mk2 [0] 1 rfl rfl (by decide) rfl ⟨rr,trivial⟩ ⟨rr,rr,rr,rr,rr,trivial⟩) ?_
  clear h
  rintro n_8 ⟨n_6,i_7⟩ h
  replace h:M227 q_1 look_2 (n_8+1) n_6 i_7=some n_9:=h
  rw [M227] at h
  refine Tr.seq ?_
  refine sg ?_
  conv=>whnf
  obtain ⟨x_12,hx_12,h⟩:=bS h
  refine ixP_of hx_12 ?_
  conv=>whnf
  refine lnS_map ?_
  conv=>whnf
  refine Tr.cond ?_
  conv=>whnf
  refine cB h (fun hb13 h=>?_) (fun hb13 h=>?_)
  ·refine Tr.skip ?_
   conv=>whnf
   refine Tr.seq ?_
   refine Tr.block ?_
   refine sg ?_
   conv=>whnf
   obtain ⟨⟨r_14,r_15⟩,hc16,h⟩:=bS h
   refine PC.ecall (P203 q_1 look_2 i_7 r_14 r_15 hc16) (fun rs hrs=>?_)
   subst hrs
   conv=>whnf
   refine sg ?_
   conv=>whnf
   refine Tr.cond ?_
   conv=>whnf
   refine cB h (fun hb17 h=>?_) (fun hb17 h=>?_)
   ·refine rg ?_
    conv=>whnf
    obtain ⟨r_18,hc19,h⟩:=bS h
    refine PC.ecall (P224 r_14 r_18 hc19) (fun rs hrs=>?_)
    subst hrs
    conv=>whnf
    refine rg ?_
    conv=>whnf
    refine arS_raw ?_
    conv=>whnf
    refine ⟨((maxG n_6 r_18),(w64 (i_7+1))),h,?_⟩
    exact Wk.mk2 [0] 2 rfl rfl (by decide) rfl ⟨rr,trivial⟩ ⟨rr,rr,rr,rr,rr,trivial⟩
   refine Tr.skip ?_
   conv=>whnf
   refine rg ?_
   conv=>whnf
   refine arS_raw ?_
   conv=>whnf
   refine ⟨(n_6,(w64 (i_7+1))),h,?_⟩
   exact Wk.mk2 [0] 2 rfl rfl (by decide) rfl ⟨rr,trivial⟩ ⟨rr,rr,rr,rr,rr,trivial⟩
  refine Tr.exit ?_
  conv=>whnf
  cases h
  exact Wk.mk2 [] 1 rfl rfl (by decide) rfl trivial ⟨rr,rr,trivial⟩
 clear hv20
 conv=>whnf
 refine Tr.weak hw ?_
 refine sg ?_
 conv=>whnf
 refine Tr.ret ?_
 conv=>whnf
 cases h
 rfl
theorem P232 (rc_9110:TQuestion→Int→(List Bool)→Option (TPlan × Bool)) (ih_9110:∀ (q_1:TQuestion) (left_2:Int) (used_3:List Bool) (r_4:TPlan) (r_5:Bool),rc_9110 q_1 left_2 used_3=some (r_4,r_5)→PC prog 50 [(eTQuestion q_1),(.i .i64 left_2),(.ls (List.map eB used_3))] (fun rs=>rs=[(eTPlan r_4),(.b r_5)])) (q_1:TQuestion) (left_2:Int) (used_3:List Bool) (r_4:TPlan) (r_5:Bool) (h:M232 rc_9110 q_1 left_2 used_3=some (r_4,r_5)) :
    PC prog 50 [(eTQuestion q_1),(.i .i64 left_2),(.ls (List.map eB used_3))] (fun rs=>rs=[(eTPlan r_4),(.b r_5)]):=by
 refine PC.of_tr (cx:=⟨94,none,lay,0⟩) layOK func50 rfl rfl rfl rfl rfl (by simp [f50]) ?_
 unfold M232 at h
 refine sg ?_
 conv=>whnf
 refine Tr.seq ?_
 refine sg ?_
 conv=>whnf
 obtain ⟨r_6,hc7,h⟩:=bS h
 refine PC.ecall (P224 q_1 r_6 hc7) (fun rs hrs=>?_)
 subst hrs
 conv=>whnf
 refine Tr.cond ?_
 conv=>whnf
 refine cB h (fun hb8 h=>?_) (fun hb8 h=>?_)
 ·refine sg ?_
  conv=>whnf
  obtain ⟨r_9,hc10,h⟩:=bS h
  refine PC.ecall (P225 r_9 hc10) (fun rs hrs=>?_)
  subst hrs
  conv=>whnf
  refine Tr.ret ?_
  conv=>whnf
  cases h
  rfl
 refine Tr.skip ?_
 conv=>whnf
 refine sg ?_
 conv=>whnf
 refine sg ?_
 conv=>whnf
 refine Tr.seq ?_
 refine sg ?_
 conv=>whnf
 obtain ⟨best_18,hv31,h⟩:=bS h
 refine Tr.cutQ1 ([(1,(dI left_2)),(2,.d (.ls (List.map eB used_3))),(3,.pt 0 0),(6,.pt 1 0),(7,.d (.b false)),(8,(dI best_18))]) ([some (.var [.d (.ls (List.map eTSegment q_1.Field.Clocks.Segments)),.d (.ls (List.map (eL eI) q_1.Field.Clocks.Far)),.d (.ls (List.map eTPair q_1.Field.Pairs)),.d (.ls (List.map eTRunner q_1.Field.Runners)),(dI q_1.Runner),.d (.ls (List.map eTLook q_1.Looks))]),some (.var [(dI 0),.nsl])]) ?_ (fun T1 H1 hw=>?_)
 ·replace h:=hv31; clear hv31
  refine Tr.block ?_
  refine Tr.loopM (σ:=Int × Int × Int) (fun n s=>M229 q_1 used_3 n s.1 s.2.1 s.2.2) best_18 (fun s=>([(1,(dI left_2)),(2,.d (.ls (List.map eB used_3))),(3,.pt 0 0),(6,.pt 1 0),(7,.d (.b false)),(8,(dI s.1)),(9,(dI s.2.1)),(10,(dI s.2.2))],[some (.var [.d (.ls (List.map eTSegment q_1.Field.Clocks.Segments)),.d (.ls (List.map (eL eI) q_1.Field.Clocks.Far)),.d (.ls (List.map eTPair q_1.Field.Pairs)),.d (.ls (List.map eTRunner q_1.Field.Runners)),(dI q_1.Runner),.d (.ls (List.map eTLook q_1.Looks))]),some (.var [(dI 0),.nsl])])) (((((q_1.Looks).length:Int)) - 0:Int).toNat+1) ((-1),0,0) h (fun s=>rfl) (Wk.mk2 [0,1] 2 rfl rfl (by decide) rfl ⟨rr,rr,trivial⟩ ⟨rr,rr,rr,rr,rr,rr,rr,rr,trivial⟩) ?_
  clear h
  rintro n_17 ⟨best_14,least_15,i_16⟩ h
  replace h:M229 q_1 used_3 (n_17+1) best_14 least_15 i_16=some best_18:=h
  rw [M229] at h
  refine Tr.seq ?_
  refine sg ?_
  conv=>whnf
  refine lnS_map ?_
  conv=>whnf
  refine Tr.cond ?_
  conv=>whnf
  refine cB h (fun hb21 h=>?_) (fun hb21 h=>?_)
  ·refine Tr.skip ?_
   conv=>whnf
   refine Tr.seq ?_
   obtain ⟨⟨best_22,least_23⟩,hv24,h⟩:=bS h
   refine Tr.cutQ1 ([(1,(dI left_2)),(2,.d (.ls (List.map eB used_3))),(3,.pt 0 0),(6,.pt 1 0),(7,.d (.b false)),(8,(dI best_22)),(9,(dI least_23)),(10,(dI i_16))]) ([some (.var [.d (.ls (List.map eTSegment q_1.Field.Clocks.Segments)),.d (.ls (List.map (eL eI) q_1.Field.Clocks.Far)),.d (.ls (List.map eTPair q_1.Field.Pairs)),.d (.ls (List.map eTRunner q_1.Field.Runners)),(dI q_1.Runner),.d (.ls (List.map eTLook q_1.Looks))]),some (.var [(dI 0),.nsl])]) ?_ (fun T1 H1 hw=>?_)
   ·replace h:=hv24; clear hv24
    refine Tr.block ?_
    refine Tr.seq ?_
    refine sg ?_
    conv=>whnf
    obtain ⟨x_25,hx_25,h⟩:=bS h
    refine ixP_of hx_25 ?_
    conv=>whnf
    refine Tr.cond ?_
    conv=>whnf
    refine cB h (fun hb26 h=>?_) (fun hb26 h=>?_)
    ·refine Tr.exit ?_
     conv=>whnf
     cases h
     exact Wk.mk2 [0,1] 2 rfl rfl (by decide) rfl ⟨rr,rr,trivial⟩ ⟨rr,rr,rr,rr,rr,rr,rr,rr,trivial⟩
    refine Tr.skip ?_
    conv=>whnf
    refine sg ?_
    conv=>whnf
    obtain ⟨r_27,hc28,h⟩:=bS h
    refine PC.ecall (P228 q_1 i_16 r_27 hc28) (fun rs hrs=>?_)
    subst hrs
    conv=>whnf
    refine sg ?_
    conv=>whnf
    refine cB h (fun hb29 h=>?_) (fun hb29 h=>?_)
    ·conv=>whnf
     refine Tr.cond ?_
     conv=>whnf
     refine sg ?_
     conv=>whnf
     refine rg ?_
     conv=>whnf
     cases h
     exact Wk.mk2 [0,1] 2 rfl rfl (by decide) rfl ⟨rr,rr,trivial⟩ ⟨rr,rr,rr,rr,rr,rr,rr,rr,trivial⟩
    conv=>whnf
    refine Tr.cond ?_
    conv=>whnf
    refine cB h (fun hb30 h=>?_) (fun hb30 h=>?_)
    ·refine sg ?_
     conv=>whnf
     refine rg ?_
     conv=>whnf
     cases h
     exact Wk.mk2 [0,1] 2 rfl rfl (by decide) rfl ⟨rr,rr,trivial⟩ ⟨rr,rr,rr,rr,rr,rr,rr,rr,trivial⟩
    refine Tr.skip ?_
    conv=>whnf
    cases h
    exact Wk.mk2 [0,1] 2 rfl rfl (by decide) rfl ⟨rr,rr,trivial⟩ ⟨rr,rr,rr,rr,rr,rr,rr,rr,trivial⟩
   clear hv24
   conv=>whnf
   refine Tr.weak hw ?_
   refine rg ?_
   conv=>whnf
   refine arS_raw ?_
   conv=>whnf
   refine ⟨(best_22,least_23,(w64 (i_16+1))),h,?_⟩
   exact Wk.mk2 [0,1] 2 rfl rfl (by decide) rfl ⟨rr,rr,trivial⟩ ⟨rr,rr,rr,rr,rr,rr,rr,rr,trivial⟩
  refine Tr.exit ?_
  conv=>whnf
  cases h
  exact Wk.mk2 [0,1] 2 rfl rfl (by decide) rfl ⟨rr,rr,trivial⟩ ⟨rr,rr,rr,rr,rr,rr,trivial⟩
 clear hv31
 conv=>whnf
 refine Tr.weak hw ?_
 refine Tr.seq ?_
 refine sg ?_
 conv=>whnf
 refine cB h (fun hb32 h=>?_) (fun hb32 h=>?_)
 ·conv=>whnf
  refine Tr.cond ?_
  conv=>whnf
  refine sg ?_
  conv=>whnf
  refine orB_l ?_
  conv=>whnf
  refine Tr.ret ?_
  conv=>whnf
  cases h
  rfl
 conv=>whnf
 refine Tr.cond ?_
 conv=>whnf
 refine cB h (fun hb33 h=>?_) (fun hb33 h=>?_)
 ·refine sg ?_
  conv=>whnf
  refine orB_l ?_
  conv=>whnf
  refine Tr.ret ?_
  conv=>whnf
  cases h
  rfl
 refine Tr.skip ?_
 conv=>whnf
 refine sg ?_
 conv=>whnf
 refine orB_l ?_
 conv=>whnf
 refine Tr.seq ?_
 refine sg ?_
 conv=>whnf
 refine Tr.cutQ (α:=List TPlan0) (fun s=>([(6,.pt 0 0),(7,.d (.b false)),(12,.pt 1 0)],[some (.var [(dI 0),.nsl]),some (.var [(dI best_18),.sl 2 2 0 (List.length s)]),some (.arr 2 (List.map .d (List.map eTPlan0 s)))])) (fun s=>M231 best_18 s=some (r_4,r_5)) ?_ ?_
 ·refine Tr.block ?_
  refine Tr.loopM (σ:=Int × List TPlan0) (fun n s=>M230 q_1 left_2 used_3 best_18 rc_9110 (M231 best_18) n s.1 s.2) (r_4,r_5) (fun s=>([(1,(dI left_2)),(2,.d (.ls (List.map eB used_3))),(3,.pt 0 0),(6,.pt 1 0),(7,.d (.b false)),(8,(dI best_18)),(12,.pt 2 0),(13,(dI s.1))],[some (.var [.d (.ls (List.map eTSegment q_1.Field.Clocks.Segments)),.d (.ls (List.map (eL eI) q_1.Field.Clocks.Far)),.d (.ls (List.map eTPair q_1.Field.Pairs)),.d (.ls (List.map eTRunner q_1.Field.Runners)),(dI q_1.Runner),.d (.ls (List.map eTLook q_1.Looks))]),some (.var [(dI 0),.nsl]),some (.var [(dI best_18),.sl 3 2 0 (List.length s.2)]),some (.arr 2 (List.map .d (List.map eTPlan0 s.2)))])) ((((((Option.getD (idx q_1.Looks best_18) default).Answers).length:Int)) - 0:Int).toNat+1) (0,(([]:List TPlan0))) h (fun s=>rfl) (Wk.mk2 [0,1,2,3] 3 rfl rfl (by decide) rfl ⟨rr,rr,⟨rfl,(by first | rfl | (simp only [↓hb8,↓hb32,↓hb33,bl,List.length_set]; done) | (simp only [↓hb8,↓hb32,↓hb33,bl,List.length_set]; rfl))⟩,rfl,trivial⟩ ⟨rr,rr,rr,rr,rr,rr,rr,rr,trivial⟩) ?_
  clear h
  rintro n_38 ⟨i_36,l_37⟩ h
  replace h:M230 q_1 left_2 used_3 best_18 rc_9110 (M231 best_18) (n_38+1) i_36 l_37=some (r_4,r_5):=h
  rw [M230] at h
  refine Tr.seq ?_
  refine sg ?_
  conv=>whnf
  obtain ⟨x_42,hx_42,h⟩:=bS h
  refine ixP_of hx_42 ?_
  conv=>whnf
  refine lnS_map ?_
  conv=>whnf
  refine Tr.cond ?_
  conv=>whnf
  refine cB h (fun hb43 h=>?_) (fun hb43 h=>?_)
  ·refine Tr.skip ?_
   conv=>whnf
   refine Tr.seq ?_
   refine Tr.block ?_
   refine sg ?_
   conv=>whnf
   obtain ⟨⟨r_44,r_45⟩,hc46,h⟩:=bS h
   refine PC.ecall (P203 q_1 best_18 i_36 r_44 r_45 hc46) (fun rs hrs=>?_)
   subst hrs
   conv=>whnf
   refine sg ?_
   conv=>whnf
   obtain ⟨r_47,hc48,h⟩:=bS h
   refine PC.ecall (P225 r_47 hc48) (fun rs hrs=>?_)
   subst hrs
   conv=>whnf
   refine Tr.seq ?_
   refine sg ?_
   conv=>whnf
   refine Tr.cond ?_
   conv=>whnf
   refine cB h (fun hb49 h=>?_) (fun hb49 h=>?_)
   ·refine sg ?_
    conv=>whnf
    refine sd [(10,5)] [(0,7),(1,1),(2,1),(3,1),(4,1),(5,1),(6,1),(7,1),(8,1),(9,1),(10,0),(11,1)] ?_
    conv=>whnf
    refine q2 ?_
    conv=>whnf
    refine q1 ?_
    conv=>whnf
    refine q4 ?_
    conv=>whnf
    refine q1 ?_
    conv=>whnf
    refine q1 ?_
    conv=>whnf
    obtain ⟨r_50,hc51,h⟩:=bS h
    refine q1 ?_ (fun _=>pe (P226 used_3 best_18 r_50 hc51) rr)
    conv=>whnf
    obtain ⟨⟨r_52,r_53⟩,hc54,h⟩:=bS h
    refine q1 ?_ (fun _=>pe (ih_9110 r_44 ((w64 (left_2 - 1))) r_50 r_52 r_53 hc54) rr)
    conv=>whnf
    refine q1 ?_
    conv=>whnf
    refine q1 ?_
    conv=>whnf
    refine q1 ?_
    conv=>whnf
    refine ⟨_,_,rr,kp_ok (by repeat (first | exact trivial | refine ⟨trivial,?_⟩ | refine ⟨rfl,?_⟩)),?_⟩
    conv=>whnf
    refine q1 ?_
    conv=>whnf
    refine sg ?_
    conv=>whnf
    refine Tr.cond ?_
    conv=>whnf
    refine cB h (fun hb55 h=>?_) (fun hb55 h=>?_)
    ·refine sg ?_
     conv=>whnf
     refine orB_l ?_
     conv=>whnf
     refine Tr.ret ?_
     conv=>whnf
     cases h
     rfl
    refine Tr.skip ?_
    conv=>whnf
    refine rg ?_
    conv=>whnf
    refine orB_r ?_
    conv=>whnf
    refine frP_no ?_
    conv=>whnf
    refine eqS_mk (by first | rfl | simp) ?_
    conv=>whnf
    obtain ⟨l_56,hl_56,h⟩:=bS h
    refine apS_of hl_56 (aQ (f:=eTPlan0) (l:=(([(pTPlan r_52)]:List TPlan0))) fun _=>rfl) (by first | rfl | simp) (by first | rfl | simp) (fun he=>?_)
    conv=>whnf
    refine rS (es':=List.map .d (List.map eTPlan0 l_56)) (n':=List.length l_56) (by subst he; simp only [List.map_append,List.map_cons,List.map_nil,List.nil_append]; first | done | rfl) (by subst he; simp <;> omega) ?_
    clear he
    conv=>whnf
    refine orB_l ?_
    conv=>whnf
    refine rg ?_
    conv=>whnf
    refine arS_raw ?_
    conv=>whnf
    refine ⟨((w64 (i_36+1)),l_56),h,?_⟩
    exact Wk.mk2 [0,1,2,6] 7 rfl rfl (by decide) rfl ⟨rr,rr,⟨rfl,(by first | rfl | (simp only [↓hb8,↓hb32,↓hb33,↓hb43,↓hb49,↓hb55,bl,List.length_set]; done) | (simp only [↓hb8,↓hb32,↓hb33,↓hb43,↓hb49,↓hb55,bl,List.length_set]; rfl))⟩,daS_d rfl,trivial⟩ ⟨rr,rr,rr,rr,rr,rr,rr,rr,trivial⟩
   refine Tr.skip ?_
   conv=>whnf
   refine rg ?_
   conv=>whnf
   refine orB_r ?_
   conv=>whnf
   refine frP_no ?_
   conv=>whnf
   refine eqS_mk (by first | rfl | simp) ?_
   conv=>whnf
   obtain ⟨l_57,hl_57,h⟩:=bS h
   refine apS_of hl_57 (aQ (f:=eTPlan0) (l:=(([(pTPlan r_47)]:List TPlan0))) fun _=>rfl) (by first | rfl | simp) (by first | rfl | simp) (fun he=>?_)
   conv=>whnf
   refine rS (es':=List.map .d (List.map eTPlan0 l_57)) (n':=List.length l_57) (by subst he; simp only [List.map_append,List.map_cons,List.map_nil,List.nil_append]; first | done | rfl) (by subst he; simp <;> omega) ?_
   clear he
   conv=>whnf
   refine orB_l ?_
   conv=>whnf
   refine rg ?_
   conv=>whnf
   refine arS_raw ?_
   conv=>whnf
   refine ⟨((w64 (i_36+1)),l_57),h,?_⟩
   exact Wk.mk2 [0,1,2,6] 7 rfl rfl (by decide) rfl ⟨rr,rr,⟨rfl,(by first | rfl | (simp only [↓hb8,↓hb32,↓hb33,↓hb43,↓hb49,bl,List.length_set]; done) | (simp only [↓hb8,↓hb32,↓hb33,↓hb43,↓hb49,bl,List.length_set]; rfl))⟩,daS_d rfl,trivial⟩ ⟨rr,rr,rr,rr,rr,rr,rr,rr,trivial⟩
  refine Tr.exit ?_
  conv=>whnf
  refine ⟨(l_37),h,?_⟩
  exact Wk.mk2 [1,2,3] 4 rfl rfl (by decide) rfl ⟨rr,⟨rfl,(by first | rfl | (simp only [↓hb8,↓hb32,↓hb33,↓hb43,bl,List.length_set]; done) | (simp only [↓hb8,↓hb32,↓hb33,↓hb43,bl,List.length_set]; rfl))⟩,daS_d rfl,trivial⟩ ⟨⟨rfl,(by first | rfl | (simp only [↓hb8,↓hb32,↓hb33,↓hb43,bl,List.length_set]; done) | (simp only [↓hb8,↓hb32,↓hb33,↓hb43,bl,List.length_set]; rfl))⟩,rr,⟨rfl,(by first | rfl | (simp only [↓hb8,↓hb32,↓hb33,↓hb43,bl,List.length_set]; done) | (simp only [↓hb8,↓hb32,↓hb33,↓hb43,bl,List.length_set]; rfl))⟩,trivial⟩
 clear h
 rintro l_39 h T1 H1 hw
 replace h:M231 best_18 l_39=some (r_4,r_5):=h
 conv=>whnf
 refine Tr.weak hw ?_
 unfold M231 at h
 refine sg ?_
 conv=>whnf
 refine orB_l ?_
 conv=>whnf
 refine Tr.ret ?_
 conv=>whnf
 refine frE_of (f:=eTPlan0) (l:=l_39) rfl ?_
 conv=>whnf
 cases h
 rfl
theorem P233 (n:Nat):∀ (q_1:TQuestion) (left_2:Int) (used_3:List Bool) (r_4:TPlan) (r_5:Bool),M233 n q_1 left_2 used_3=some (r_4,r_5)→PC prog 50 [(eTQuestion q_1),(.i .i64 left_2),(.ls (List.map eB used_3))] (fun rs=>rs=[(eTPlan r_4),(.b r_5)]):=by
 induction n with
 | zero =>
  intros
  rename_i h
  cases h
 | succ n ih=>exact P232 (M233 n) ih
theorem P234 (q_1:TQuestion) (r_2:TPlan) (r_3:Int) (h:M234 q_1=some (r_2,r_3)) :
    PC prog 21 [(eTQuestion q_1)] (fun rs=>rs=[(eTPlan r_2),(.i .i64 r_3)]):=by
 refine PC.of_tr (cx:=⟨26,none,lay,0⟩) layOK func21 rfl rfl rfl rfl rfl (by simp [f21]) ?_
 unfold M234 at h
 refine sg ?_
 conv=>whnf
 refine sg ?_
 conv=>whnf
 obtain ⟨r_4,hc5,h⟩:=bS h
 refine PC.ecall (P197 q_1 r_4 hc5) (fun rs hrs=>?_)
 subst hrs
 conv=>whnf
 refine Tr.seq ?_
 refine sg ?_
 conv=>whnf
 refine Tr.cond ?_
 conv=>whnf
 refine cB h (fun hb6 h=>?_) (fun hb6 h=>?_)
 ·refine sg ?_
  conv=>whnf
  refine orB_l ?_
  conv=>whnf
  refine Tr.ret ?_
  conv=>whnf
  cases h
  rfl
 refine Tr.skip ?_
 conv=>whnf
 refine Tr.seq ?_
 refine Tr.draw (DrawP.treeQ layOK mixed [(5,2),(5,3),(10,2),(10,3)] (.one 0 3 (.one 1 3 (.one 2 3 (.one 3 2 (.two 4 (.two 5 (.one 6 1 (.one 7 1 (.one 8 1 (.one 9 0 (.one 10 0 (.one 11 1 .nil)))))) 9 (.one 5 0 (.one 6 1 (.one 7 1 (.one 8 1 (.one 10 0 (.one 11 1 .nil))))))) 9 (.one 4 0 (.one 5 0 (.one 6 1 (.one 7 1 (.one 8 1 (.one 10 0 (.one 11 1 .nil)))))))))))) (by kernel_rfl) ?_)
 conv=>whnf
 refine q2 ?_
 conv=>whnf
 refine q2 ?_
 conv=>whnf
 refine q2 ?_
 conv=>whnf
 refine q3 (lnS_map rr) ?_
 conv=>whnf
 refine ⟨?_,?_⟩
 ·conv=>whnf
  obtain ⟨n_7,hn_7,h⟩:=bS h
  refine ⟨_,_,(by (conv=>whnf); (refine msS_of hn_7 rfl ?_); (conv=>whnf); (refine rS (es':=List.map .d (List.map eB (List.replicate n_7 false))) (n':=List.length ((List.replicate n_7 false):List Bool)) (by simp only [List.map_replicate]; first | done | rfl) (by simp) ?_); (conv=>whnf); (exact rr)),kp_ok (by repeat (first | exact trivial | refine ⟨trivial,?_⟩ | refine ⟨rfl,?_⟩)),?_⟩
  conv=>whnf
  refine ⟨?_,?_⟩
  ·conv=>whnf
   obtain ⟨⟨r_8,r_9⟩,hc10,h⟩:=bS h
   refine ⟨_,_,(by (conv=>whnf); (refine PC.ecall_frz ?_ ⟨_,_,func50,rfl,rfl⟩); (conv=>whnf); (refine frE_of (f:=eB) (l:=(List.replicate n_7 false)) rfl ?_); (conv=>whnf); (refine ⟨_,P233 1000 q_1 6 (List.replicate n_7 false) r_8 r_9 hc10,fun rs hrs=>?_⟩); (subst hrs); (conv=>whnf); (exact rr)),kp_ok (by repeat (first | exact trivial | refine ⟨trivial,?_⟩ | refine ⟨rfl,?_⟩)),?_⟩
   conv=>whnf
   refine q1 ?_
   conv=>whnf
   refine q1 ?_
   conv=>whnf
   refine q1 ?_
   conv=>whnf
   refine ⟨_,_,rr,kp_ok (by repeat (first | exact trivial | refine ⟨trivial,?_⟩ | refine ⟨rfl,?_⟩)),?_⟩
   conv=>whnf
   refine ⟨_,_,rr,kp_ok (by repeat (first | exact trivial | refine ⟨trivial,?_⟩ | refine ⟨rfl,?_⟩)),?_⟩
   conv=>whnf
   refine q1 ?_
   conv=>whnf
   refine Tr.seq ?_
   refine sg ?_
   conv=>whnf
   refine Tr.cond ?_
   conv=>whnf
   refine cB h (fun hb11 h=>?_) (fun hb11 h=>?_)
   ·refine sg ?_
    conv=>whnf
    refine orB_l ?_
    conv=>whnf
    refine Tr.ret ?_
    conv=>whnf
    cases h
    rfl
   refine Tr.skip ?_
   conv=>whnf
   refine sg ?_
   conv=>whnf
   refine Tr.ret ?_
   conv=>whnf
   cases h
   rfl
  ·conv=>whnf
   refine ⟨_,_,rr,kp_ok (by repeat (first | exact trivial | refine ⟨trivial,?_⟩ | refine ⟨rfl,?_⟩)),?_⟩
   conv=>whnf
   obtain ⟨⟨r_12,r_13⟩,hc14,h⟩:=bS h
   refine ⟨_,_,(by (conv=>whnf); (refine PC.ecall_frz ?_ ⟨_,_,func50,rfl,rfl⟩); (conv=>whnf); (refine frE_of (f:=eB) (l:=(List.replicate n_7 false)) rfl ?_); (conv=>whnf); (refine ⟨_,P233 1000 q_1 6 (List.replicate n_7 false) r_12 r_13 hc14,fun rs hrs=>?_⟩); (subst hrs); (conv=>whnf); (exact rr)),kp_ok (by repeat (first | exact trivial | refine ⟨trivial,?_⟩ | refine ⟨rfl,?_⟩)),?_⟩
   conv=>whnf
   refine q1 ?_
   conv=>whnf
   refine q1 ?_
   conv=>whnf
   refine q1 ?_
   conv=>whnf
   refine ⟨_,_,rr,kp_ok (by repeat (first | exact trivial | refine ⟨trivial,?_⟩ | refine ⟨rfl,?_⟩)),?_⟩
   conv=>whnf
   refine q1 ?_
   conv=>whnf
   refine Tr.seq ?_
   refine sg ?_
   conv=>whnf
   refine Tr.cond ?_
   conv=>whnf
   refine cB h (fun hb15 h=>?_) (fun hb15 h=>?_)
   ·refine sg ?_
    conv=>whnf
    refine orB_l ?_
    conv=>whnf
    refine Tr.ret ?_
    conv=>whnf
    cases h
    rfl
   refine Tr.skip ?_
   conv=>whnf
   refine sg ?_
   conv=>whnf
   refine Tr.ret ?_
   conv=>whnf
   cases h
   rfl
 ·conv=>whnf
  refine ⟨_,_,rr,kp_ok (by repeat (first | exact trivial | refine ⟨trivial,?_⟩ | refine ⟨rfl,?_⟩)),?_⟩
  conv=>whnf
  obtain ⟨n_16,hn_16,h⟩:=bS h
  refine ⟨_,_,(by (conv=>whnf); (refine msS_of hn_16 rfl ?_); (conv=>whnf); (refine rS (es':=List.map .d (List.map eB (List.replicate n_16 false))) (n':=List.length ((List.replicate n_16 false):List Bool)) (by simp only [List.map_replicate]; first | done | rfl) (by simp) ?_); (conv=>whnf); (exact rr)),kp_ok (by repeat (first | exact trivial | refine ⟨trivial,?_⟩ | refine ⟨rfl,?_⟩)),?_⟩
  conv=>whnf
  obtain ⟨⟨r_17,r_18⟩,hc19,h⟩:=bS h
  refine ⟨_,_,(by (conv=>whnf); (refine PC.ecall_frz ?_ ⟨_,_,func50,rfl,rfl⟩); (conv=>whnf); (refine frE_of (f:=eB) (l:=(List.replicate n_16 false)) rfl ?_); (conv=>whnf); (refine ⟨_,P233 1000 q_1 6 (List.replicate n_16 false) r_17 r_18 hc19,fun rs hrs=>?_⟩); (subst hrs); (conv=>whnf); (exact rr)),kp_ok (by repeat (first | exact trivial | refine ⟨trivial,?_⟩ | refine ⟨rfl,?_⟩)),?_⟩
  conv=>whnf
  refine q1 ?_
  conv=>whnf
  refine q1 ?_
  conv=>whnf
  refine q1 ?_
  conv=>whnf
  refine ⟨_,_,rr,kp_ok (by repeat (first | exact trivial | refine ⟨trivial,?_⟩ | refine ⟨rfl,?_⟩)),?_⟩
  conv=>whnf
  refine q1 ?_
  conv=>whnf
  refine Tr.seq ?_
  refine sg ?_
  conv=>whnf
  refine Tr.cond ?_
  conv=>whnf
  refine cB h (fun hb20 h=>?_) (fun hb20 h=>?_)
  ·refine sg ?_
   conv=>whnf
   refine orB_l ?_
   conv=>whnf
   refine Tr.ret ?_
   conv=>whnf
   cases h
   rfl
  refine Tr.skip ?_
  conv=>whnf
  refine sg ?_
  conv=>whnf
  refine Tr.ret ?_
  conv=>whnf
  cases h
  rfl
theorem P235 (q_1:TQuestion) (r_2:Bool) (h:M235 q_1=some r_2) :
    PC prog 5 [(eTQuestion q_1)] (fun rs=>rs=[(.b r_2)]):=by
 refine PC.of_tr (cx:=⟨36,none,lay,0⟩) layOK func5 rfl rfl rfl rfl rfl (by simp [f5]) ?_
 unfold M235 at h
 refine sg ?_
 conv=>whnf
 refine Tr.seq ?_
 refine sg ?_
 conv=>whnf
 obtain ⟨r_3,hc4,h⟩:=bS h
 refine PC.ecall (P141 r_3 hc4) (fun rs hrs=>?_)
 subst hrs
 conv=>whnf
 refine Tr.cond ?_
 conv=>whnf
 refine cB h (fun hb5 h=>?_) (fun hb5 h=>?_)
 ·refine sg ?_
  conv=>whnf
  refine Tr.ret ?_
  conv=>whnf
  cases h
  rfl
 refine Tr.skip ?_
 conv=>whnf
 refine Tr.seq ?_
 refine sg ?_
 conv=>whnf
 obtain ⟨r_6,hc7,h⟩:=bS h
 refine PC.ecall (P151 q_1 r_6 hc7) (fun rs hrs=>?_)
 subst hrs
 conv=>whnf
 refine cB h (fun hb8 h=>?_) (fun hb8 h=>?_)
 ·conv=>whnf
  refine Tr.cond ?_
  conv=>whnf
  refine sg ?_
  conv=>whnf
  refine Tr.ret ?_
  conv=>whnf
  cases h
  rfl
 conv=>whnf
 refine lnS_map ?_
 conv=>whnf
 refine Tr.cond ?_
 conv=>whnf
 refine cB h (fun hb9 h=>?_) (fun hb9 h=>?_)
 ·refine sg ?_
  conv=>whnf
  refine Tr.ret ?_
  conv=>whnf
  cases h
  rfl
 refine Tr.skip ?_
 conv=>whnf
 refine sg ?_
 conv=>whnf
 obtain ⟨⟨r_10,r_11⟩,hc12,h⟩:=bS h
 refine PC.ecall (P136 q_1 r_10 r_11 hc12) (fun rs hrs=>?_)
 subst hrs
 conv=>whnf
 refine sg ?_
 conv=>whnf
 obtain ⟨⟨r_13,r_14⟩,hc15,h⟩:=bS h
 refine PC.ecall (P234 q_1 r_13 r_14 hc15) (fun rs hrs=>?_)
 subst hrs
 conv=>whnf
 refine sg ?_
 conv=>whnf
 obtain ⟨r_16,hc17,h⟩:=bS h
 refine PC.ecall (P140 1000 r_10 r_13 r_16 hc17) (fun rs hrs=>?_)
 subst hrs
 conv=>whnf
 refine cB h (fun hb18 h=>?_) (fun hb18 h=>?_)
 ·conv=>whnf
  refine Tr.ret ?_
  conv=>whnf
  cases h
  rfl
 conv=>whnf
 refine Tr.ret ?_
 conv=>whnf
 cases h
 rfl
end Go.Proofs.Try
