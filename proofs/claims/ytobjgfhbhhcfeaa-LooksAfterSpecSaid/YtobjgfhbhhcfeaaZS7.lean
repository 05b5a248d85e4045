/- Contracts of functions, by program (gen.py). No condition. -/
import Derived.Test.YtobjgfhbhhcfeaaZL
import Derived.Test.YtobjgfhbhhcfeaaZM
import Derived.Test.YtobjgfhbhhcfeaaZCB
import Derived.Test.YtobjgfhbhhcfeaaZS6
namespace Go.Proofs.Try
open Go Go.Abs Go.Stop
set_option maxRecDepth 8000
set_option linter.unusedVariables false
set_option linter.unusedSimpArgs false
theorem P216 (a_1:List TPair) (b_2:List TPair) (r_3:Bool) (h:M216 a_1 b_2=some r_3) :
    PC prog 72 [(.ls (List.map eTPair a_1)),(.ls (List.map eTPair b_2))] (fun rs=>rs=[(.b r_3)]):=by
 refine PC.of_tr (cx:=⟨26,none,lay,0⟩) layOK func72 rfl rfl rfl rfl rfl (by simp [f72]) ?_
 unfold M216 at h
 refine sg ?_
 conv=>whnf
 refine Tr.seq ?_
 refine sg ?_
 conv=>whnf
 refine lnS_map ?_
 conv=>whnf
 refine lnS_map ?_
 conv=>whnf
 refine Tr.cond ?_
 conv=>whnf
 refine cB h (fun hb4 h=>?_) (fun hb4 h=>?_)
 ·refine sg ?_
  conv=>whnf
  refine Tr.ret ?_
  conv=>whnf
  cases h
  rfl
 refine Tr.skip ?_
 conv=>whnf
 refine Tr.seq ?_
 refine sg ?_
 conv=>whnf
 refine Tr.cutQ (α:=Unit) (fun s=>([(4,.d (.b false))],[])) (fun s=>M215 s=some r_3) ?_ ?_
 ·refine Tr.block ?_
  refine Tr.loopM (σ:=Int) (fun n s=>M214 a_1 b_2 M215 n s) r_3 (fun s=>([(0,.d (.ls (List.map eTPair a_1))),(1,.d (.ls (List.map eTPair b_2))),(4,.d (.b false)),(5,(dI s))],[])) (((((a_1).length:Int)) - 0:Int).toNat+1) (0) h (fun s=>rfl) (Wk.mk2 [] 0 rfl rfl (by decide) rfl trivial ⟨rr,rr,rr,rr,trivial⟩) ?_
  clear h
  rintro n_7 i_6 h
  replace h:M214 a_1 b_2 M215 (n_7+1) i_6=some r_3:=h
  rw [M214] at h
  refine Tr.seq ?_
  refine sg ?_
  conv=>whnf
  refine lnS_map ?_
  conv=>whnf
  refine Tr.cond ?_
  conv=>whnf
  refine cB h (fun hb10 h=>?_) (fun hb10 h=>?_)
  ·refine Tr.skip ?_
   conv=>whnf
   refine Tr.seq ?_
   refine Tr.block ?_
   refine sd [] [(0,1),(1,1),(2,2),(3,2),(4,1),(5,1),(6,2),(7,2),(8,1)] ?_
   conv=>whnf
   refine q1 ?_
   conv=>whnf
   refine q1 ?_
   conv=>whnf
   obtain ⟨x_11,hx_11,h⟩:=bS h
   refine q3 (ixP_of hx_11 rr) ?_
   conv=>whnf
   refine q2 ?_
   conv=>whnf
   refine q1 ?_
   conv=>whnf
   refine q1 ?_
   conv=>whnf
   obtain ⟨x_12,hx_12,h⟩:=bS h
   refine q3 (ixP_of hx_12 rr) ?_
   conv=>whnf
   refine q2 ?_
   conv=>whnf
   refine q1 ?_
   conv=>whnf
   refine Tr.cond ?_
   conv=>whnf
   refine cB h (fun hb13 h=>?_) (fun hb13 h=>?_)
   ·refine sg ?_
    conv=>whnf
    refine Tr.ret ?_
    conv=>whnf
    cases h
    rfl
   refine Tr.skip ?_
   conv=>whnf
   refine rg ?_
   conv=>whnf
   refine arS_raw ?_
   conv=>whnf
   refine ⟨((w64 (i_6+1))),h,?_⟩
   exact Wk.mk2 [] 0 rfl rfl (by decide) rfl trivial ⟨rr,rr,rr,rr,trivial⟩
  refine Tr.exit ?_
  conv=>whnf
  refine ⟨(),h,?_⟩
  exact Wk.mk2 [] 0 rfl rfl (by decide) rfl trivial ⟨rr,trivial⟩
 clear h
 rintro _ h T1 H1 hw
 replace h:M215 ()=some r_3:=h
 conv=>whnf
 refine Tr.weak hw ?_
 unfold M215 at h
 refine sg ?_
 conv=>whnf
 refine Tr.ret ?_
 conv=>whnf
 cases h
 rfl
theorem P219 (a_1:List TOutcome) (b_2:List TOutcome) (r_3:Bool) (h:M219 a_1 b_2=some r_3) :
    PC prog 124 [(.ls (List.map eTOutcome a_1)),(.ls (List.map eTOutcome b_2))] (fun rs=>rs=[(.b r_3)]):=by
 refine PC.of_tr (cx:=⟨26,none,lay,0⟩) layOK func124 rfl rfl rfl rfl rfl (by simp [f124]) ?_
 unfold M219 at h
 refine sg ?_
 conv=>whnf
 refine Tr.seq ?_
 refine sg ?_
 conv=>whnf
 refine lnS_map ?_
 conv=>whnf
 refine lnS_map ?_
 conv=>whnf
 refine Tr.cond ?_
 conv=>whnf
 refine cB h (fun hb4 h=>?_) (fun hb4 h=>?_)
 ·refine sg ?_
  conv=>whnf
  refine Tr.ret ?_
  conv=>whnf
  cases h
  rfl
 refine Tr.skip ?_
 conv=>whnf
 refine Tr.seq ?_
 refine sg ?_
 conv=>whnf
 refine Tr.cutQ (α:=Unit) (fun s=>([(4,.d (.b false))],[])) (fun s=>M218 s=some r_3) ?_ ?_
 ·refine Tr.block ?_
  refine Tr.loopM (σ:=Int) (fun n s=>M217 a_1 b_2 M218 n s) r_3 (fun s=>([(0,.d (.ls (List.map eTOutcome a_1))),(1,.d (.ls (List.map eTOutcome b_2))),(4,.d (.b false)),(5,(dI s))],[])) (((((a_1).length:Int)) - 0:Int).toNat+1) (0) h (fun s=>rfl) (Wk.mk2 [] 0 rfl rfl (by decide) rfl trivial ⟨rr,rr,rr,rr,trivial⟩) ?_
  clear h
  rintro n_7 i_6 h
  replace h:M217 a_1 b_2 M218 (n_7+1) i_6=some r_3:=h
  rw [M217] at h
  refine Tr.seq ?_
  refine sg ?_
  conv=>whnf
  refine lnS_map ?_
  conv=>whnf
  refine Tr.cond ?_
  conv=>whnf
  refine cB h (fun hb10 h=>?_) (fun hb10 h=>?_)
  ·refine Tr.skip ?_
   conv=>whnf
   refine Tr.seq ?_
   refine Tr.block ?_
   refine sd [] [(0,1),(1,1),(2,2),(3,2),(4,1),(5,1),(6,2),(7,2),(8,1)] ?_
   conv=>whnf
   refine q1 ?_
   conv=>whnf
   refine q1 ?_
   conv=>whnf
   obtain ⟨x_11,hx_11,h⟩:=bS h
   refine q3 (ixP_of hx_11 rr) ?_
   conv=>whnf
   refine q2 ?_
   conv=>whnf
   refine q1 ?_
   conv=>whnf
   refine q1 ?_
   conv=>whnf
   obtain ⟨x_12,hx_12,h⟩:=bS h
   refine q3 (ixP_of hx_12 rr) ?_
   conv=>whnf
   refine q2 ?_
   conv=>whnf
   refine q1 ?_
   conv=>whnf
   refine Tr.cond ?_
   conv=>whnf
   refine cB h (fun hb13 h=>?_) (fun hb13 h=>?_)
   ·refine sg ?_
    conv=>whnf
    refine Tr.ret ?_
    conv=>whnf
    cases h
    rfl
   refine Tr.skip ?_
   conv=>whnf
   refine rg ?_
   conv=>whnf
   refine arS_raw ?_
   conv=>whnf
   refine ⟨((w64 (i_6+1))),h,?_⟩
   exact Wk.mk2 [] 0 rfl rfl (by decide) rfl trivial ⟨rr,rr,rr,rr,trivial⟩
  refine Tr.exit ?_
  conv=>whnf
  refine ⟨(),h,?_⟩
  exact Wk.mk2 [] 0 rfl rfl (by decide) rfl trivial ⟨rr,trivial⟩
 clear h
 rintro _ h T1 H1 hw
 replace h:M218 ()=some r_3:=h
 conv=>whnf
 refine Tr.weak hw ?_
 unfold M218 at h
 refine sg ?_
 conv=>whnf
 refine Tr.ret ?_
 conv=>whnf
 cases h
 rfl
theorem P222 (a_1:List (List TOutcome)) (b_2:List (List TOutcome)) (r_3:Bool) (h:M222 a_1 b_2=some r_3) :
    PC prog 106 [(.ls (List.map (eL eTOutcome) a_1)),(.ls (List.map (eL eTOutcome) b_2))] (fun rs=>rs=[(.b r_3)]):=by
 refine PC.of_tr (cx:=⟨27,none,lay,0⟩) layOK func106 rfl rfl rfl rfl rfl (by simp [f106]) ?_
 unfold M222 at h
 refine sg ?_
 conv=>whnf
 refine Tr.seq ?_
 refine sg ?_
 conv=>whnf
 refine lnS_map ?_
 conv=>whnf
 refine lnS_map ?_
 conv=>whnf
 refine Tr.cond ?_
 conv=>whnf
 refine cB h (fun hb4 h=>?_) (fun hb4 h=>?_)
 ·refine sg ?_
  conv=>whnf
  refine Tr.ret ?_
  conv=>whnf
  cases h
  rfl
 refine Tr.skip ?_
 conv=>whnf
 refine Tr.seq ?_
 refine sg ?_
 conv=>whnf
 refine Tr.cutQ (α:=Unit) (fun s=>([(4,.d (.b false))],[])) (fun s=>M221 s=some r_3) ?_ ?_
 ·refine Tr.block ?_
  refine Tr.loopM (σ:=Int) (fun n s=>M220 a_1 b_2 M221 n s) r_3 (fun s=>([(0,.d (.ls (List.map (eL eTOutcome) a_1))),(1,.d (.ls (List.map (eL eTOutcome) b_2))),(4,.d (.b false)),(5,(dI s))],[])) (((((a_1).length:Int)) - 0:Int).toNat+1) (0) h (fun s=>rfl) (Wk.mk2 [] 0 rfl rfl (by decide) rfl trivial ⟨rr,rr,rr,rr,trivial⟩) ?_
  clear h
  rintro n_7 i_6 h
  replace h:M220 a_1 b_2 M221 (n_7+1) i_6=some r_3:=h
  rw [M220] at h
  refine Tr.seq ?_
  refine sg ?_
  conv=>whnf
  refine lnS_map ?_
  conv=>whnf
  refine Tr.cond ?_
  conv=>whnf
  refine cB h (fun hb10 h=>?_) (fun hb10 h=>?_)
  ·refine Tr.skip ?_
   conv=>whnf
   refine Tr.seq ?_
   refine Tr.block ?_
   refine sd [] [(0,1),(1,1),(2,2),(3,2),(4,1),(5,1),(6,2),(7,2),(8,1),(9,1)] ?_
   conv=>whnf
   refine q1 ?_
   conv=>whnf
   refine q1 ?_
   conv=>whnf
   obtain ⟨x_11,hx_11,h⟩:=bS h
   refine q3 (ixP_of hx_11 rr) ?_
   conv=>whnf
   refine q2 ?_
   conv=>whnf
   refine q1 ?_
   conv=>whnf
   refine q1 ?_
   conv=>whnf
   obtain ⟨x_12,hx_12,h⟩:=bS h
   refine q3 (ixP_of hx_12 rr) ?_
   conv=>whnf
   refine q2 ?_
   conv=>whnf
   obtain ⟨r_13,hc14,h⟩:=bS h
   refine q1 ?_ (fun _=>pe (P219 x_11 x_12 r_13 hc14) rr)
   conv=>whnf
   refine q1 ?_
   conv=>whnf
   refine Tr.cond ?_
   conv=>whnf
   refine cB h (fun hb15 h=>?_) (fun hb15 h=>?_)
   ·refine sg ?_
    conv=>whnf
    refine Tr.ret ?_
    conv=>whnf
    cases h
    rfl
   refine Tr.skip ?_
   conv=>whnf
   refine rg ?_
   conv=>whnf
   refine arS_raw ?_
   conv=>whnf
   refine ⟨((w64 (i_6+1))),h,?_⟩
   exact Wk.mk2 [] 0 rfl rfl (by decide) rfl trivial ⟨rr,rr,rr,rr,trivial⟩
  refine Tr.exit ?_
  conv=>whnf
  refine ⟨(),h,?_⟩
  exact Wk.mk2 [] 0 rfl rfl (by decide) rfl trivial ⟨rr,trivial⟩
 clear h
 rintro _ h T1 H1 hw
 replace h:M221 ()=some r_3:=h
 conv=>whnf
 refine Tr.weak hw ?_
 unfold M221 at h
 refine sg ?_
 conv=>whnf
 refine Tr.ret ?_
 conv=>whnf
 cases h
 rfl
theorem P223 (a_1:TRunner) (b_2:TRunner) (r_3:Bool) (h:M223 a_1 b_2=some r_3) :
    PC prog 73 [(eTRunner a_1),(eTRunner b_2)] (fun rs=>rs=[(.b r_3)]):=by
 refine PC.of_tr (cx:=⟨24,none,lay,0⟩) layOK func73 rfl rfl rfl rfl rfl (by simp [f73]) ?_
 unfold M223 at h
 refine sg ?_
 conv=>whnf
 refine sg ?_
 conv=>whnf
 refine cB h (fun hb4 h=>?_) (fun hb4 h=>?_)
 ·conv=>whnf
  obtain ⟨r_5,hc6,h⟩:=bS h
  refine PC.ecall (P210 a_1.Keys b_2.Keys r_5 hc6) (fun rs hrs=>?_)
  subst hrs
  conv=>whnf
  refine cB h (fun hb7 h=>?_) (fun hb7 h=>?_)
  ·conv=>whnf
   obtain ⟨r_8,hc9,h⟩:=bS h
   refine PC.ecall (P222 a_1.Worlds b_2.Worlds r_8 hc9) (fun rs hrs=>?_)
   subst hrs
   conv=>whnf
   refine Tr.ret ?_
   conv=>whnf
   cases h
   rfl
  conv=>whnf
  refine Tr.ret ?_
  conv=>whnf
  cases h
  rfl
 conv=>whnf
 refine Tr.ret ?_
 conv=>whnf
 cases h
 rfl
theorem P226 (a_1:TField) (b_2:TField) (r_3:Bool) (h:M226 a_1 b_2=some r_3) :
    PC prog 36 [(eTField a_1),(eTField b_2)] (fun rs=>rs=[(.b r_3)]):=by
 refine PC.of_tr (cx:=⟨48,none,lay,0⟩) layOK func36 rfl rfl rfl rfl rfl (by simp [f36]) ?_
 unfold M226 at h
 refine sg ?_
 conv=>whnf
 refine Tr.seq ?_
 refine sg ?_
 conv=>whnf
 obtain ⟨r_4,hc5,h⟩:=bS h
 refine PC.ecall (P213 a_1.Clocks b_2.Clocks r_4 hc5) (fun rs hrs=>?_)
 subst hrs
 conv=>whnf
 refine cB h (fun hb6 h=>?_) (fun hb6 h=>?_)
 ·conv=>whnf
  refine Tr.cond ?_
  conv=>whnf
  refine sg ?_
  conv=>whnf
  refine Tr.ret ?_
  conv=>whnf
  cases h
  rfl
 conv=>whnf
 obtain ⟨r_7,hc8,h⟩:=bS h
 refine PC.ecall (P216 a_1.Pairs b_2.Pairs r_7 hc8) (fun rs hrs=>?_)
 subst hrs
 conv=>whnf
 refine cB h (fun hb9 h=>?_) (fun hb9 h=>?_)
 ·conv=>whnf
  refine Tr.cond ?_
  conv=>whnf
  refine sg ?_
  conv=>whnf
  refine Tr.ret ?_
  conv=>whnf
  cases h
  rfl
 conv=>whnf
 refine lnS_map ?_
 conv=>whnf
 refine lnS_map ?_
 conv=>whnf
 refine Tr.cond ?_
 conv=>whnf
 refine cB h (fun hb10 h=>?_) (fun hb10 h=>?_)
 ·refine sg ?_
  conv=>whnf
  refine Tr.ret ?_
  conv=>whnf
  cases h
  rfl
 refine Tr.skip ?_
 conv=>whnf
 refine Tr.seq ?_
 refine sg ?_
 conv=>whnf
 refine Tr.cutQ (α:=Unit) (fun s=>([(4,.d (.b false))],[])) (fun s=>M225 s=some r_3) ?_ ?_
 ·refine Tr.block ?_
  refine Tr.loopM (σ:=Int) (fun n s=>M224 a_1 b_2 M225 n s) r_3 (fun s=>([(2,.pt 0 0),(3,.pt 1 0),(4,.d (.b false)),(5,(dI s))],[some (.var [.d (.ls (List.map eTSegment a_1.Clocks.Segments)),.d (.ls (List.map (eL eI) a_1.Clocks.Far)),.d (.ls (List.map eTPair a_1.Pairs)),.d (.ls (List.map eTRunner a_1.Runners))]),some (.var [.d (.ls (List.map eTSegment b_2.Clocks.Segments)),.d (.ls (List.map (eL eI) b_2.Clocks.Far)),.d (.ls (List.map eTPair b_2.Pairs)),.d (.ls (List.map eTRunner b_2.Runners))])])) (((((a_1.Runners).length:Int)) - 0:Int).toNat+1) (0) h (fun s=>rfl) (Wk.mk2 [0,1] 2 rfl rfl (by decide) rfl ⟨rr,rr,trivial⟩ ⟨rr,rr,rr,rr,trivial⟩) ?_
  clear h
  rintro n_13 i_12 h
  replace h:M224 a_1 b_2 M225 (n_13+1) i_12=some r_3:=h
  rw [M224] at h
  refine Tr.seq ?_
  refine sg ?_
  conv=>whnf
  refine lnS_map ?_
  conv=>whnf
  refine Tr.cond ?_
  conv=>whnf
  refine cB h (fun hb16 h=>?_) (fun hb16 h=>?_)
  ·refine Tr.skip ?_
   conv=>whnf
   refine Tr.seq ?_
   refine Tr.block ?_
   refine sd [] [(0,3),(1,3),(2,1),(3,2),(4,2),(5,4),(6,4),(7,1),(8,2),(9,2),(10,1),(11,1)] ?_
   conv=>whnf
   refine q2 ?_
   conv=>whnf
   refine q2 ?_
   conv=>whnf
   refine q1 ?_
   conv=>whnf
   obtain ⟨x_17,hx_17,h⟩:=bS h
   refine q3 (ixP_of hx_17 rr) ?_
   conv=>whnf
   refine q2 ?_
   conv=>whnf
   refine q2 ?_
   conv=>whnf
   refine q2 ?_
   conv=>whnf
   refine q1 ?_
   conv=>whnf
   obtain ⟨x_18,hx_18,h⟩:=bS h
   refine q3 (ixP_of hx_18 rr) ?_
   conv=>whnf
   refine q2 ?_
   conv=>whnf
   obtain ⟨r_19,hc20,h⟩:=bS h
   refine q1 ?_ (fun _=>pe (P223 x_17 x_18 r_19 hc20) rr)
   conv=>whnf
   refine q1 ?_
   conv=>whnf
   refine Tr.cond ?_
   conv=>whnf
   refine cB h (fun hb21 h=>?_) (fun hb21 h=>?_)
   ·refine sg ?_
    conv=>whnf
    refine Tr.ret ?_
    conv=>whnf
    cases h
    rfl
   refine Tr.skip ?_
   conv=>whnf
   refine rg ?_
   conv=>whnf
   refine arS_raw ?_
   conv=>whnf
   refine ⟨((w64 (i_12+1))),h,?_⟩
   exact Wk.mk2 [0,1] 2 rfl rfl (by decide) rfl ⟨rr,rr,trivial⟩ ⟨rr,rr,rr,rr,trivial⟩
  refine Tr.exit ?_
  conv=>whnf
  refine ⟨(),h,?_⟩
  exact Wk.mk2 [] 2 rfl rfl (by decide) rfl trivial ⟨rr,trivial⟩
 clear h
 rintro _ h T1 H1 hw
 replace h:M225 ()=some r_3:=h
 conv=>whnf
 refine Tr.weak hw ?_
 unfold M225 at h
 refine sg ?_
 conv=>whnf
 refine Tr.ret ?_
 conv=>whnf
 cases h
 rfl
theorem P231 (a_1:List TLook) (b_2:List TLook) (r_3:Bool) (h:M231 a_1 b_2=some r_3) :
    PC prog 37 [(.ls (List.map eTLook a_1)),(.ls (List.map eTLook b_2))] (fun rs=>rs=[(.b r_3)]):=by
 refine PC.of_tr (cx:=⟨71,none,lay,0⟩) layOK func37 rfl rfl rfl rfl rfl (by simp [f37]) ?_
 unfold M231 at h
 refine sg ?_
 conv=>whnf
 refine Tr.seq ?_
 refine sg ?_
 conv=>whnf
 refine lnS_map ?_
 conv=>whnf
 refine lnS_map ?_
 conv=>whnf
 refine Tr.cond ?_
 conv=>whnf
 refine cB h (fun hb4 h=>?_) (fun hb4 h=>?_)
 ·refine sg ?_
  conv=>whnf
  refine Tr.ret ?_
  conv=>whnf
  cases h
  rfl
 refine Tr.skip ?_
 conv=>whnf
 refine Tr.seq ?_
 refine sg ?_
 conv=>whnf
 refine Tr.cutQ (α:=Unit) (fun s=>([(4,.d (.b false))],[])) (fun s=>M230 s=some r_3) ?_ ?_
 ·refine Tr.block ?_
  refine Tr.loopM (σ:=Int) (fun n s=>M229 a_1 b_2 M230 n s) r_3 (fun s=>([(0,.d (.ls (List.map eTLook a_1))),(1,.d (.ls (List.map eTLook b_2))),(4,.d (.b false)),(5,(dI s))],[])) (((((a_1).length:Int)) - 0:Int).toNat+1) (0) h (fun s=>rfl) (Wk.mk2 [] 0 rfl rfl (by decide) rfl trivial ⟨rr,rr,rr,rr,trivial⟩) ?_
  clear h
  rintro n_7 i_6 h
  replace h:M229 a_1 b_2 M230 (n_7+1) i_6=some r_3:=h
  rw [M229] at h
  refine Tr.seq ?_
  refine sg ?_
  conv=>whnf
  refine lnS_map ?_
  conv=>whnf
  refine Tr.cond ?_
  conv=>whnf
  refine cB h (fun hb10 h=>?_) (fun hb10 h=>?_)
  ·refine Tr.skip ?_
   conv=>whnf
   refine Tr.seq ?_
   refine Tr.block ?_
   refine Tr.seq ?_
   refine sd [] [(0,1),(1,1),(2,2),(3,2),(4,2),(5,1),(6,1),(7,2),(8,2),(9,2),(10,1),(11,1),(12,1),(13,1),(14,2),(15,2),(16,2),(17,2),(18,1),(19,1),(20,2),(21,2),(22,2),(23,2),(24,1),(25,1)] ?_
   conv=>whnf
   refine q1 ?_
   conv=>whnf
   refine q1 ?_
   conv=>whnf
   obtain ⟨x_11,hx_11,h⟩:=bS h
   refine q3 (ixP_of hx_11 rr) ?_
   conv=>whnf
   refine q2 ?_
   conv=>whnf
   refine q2 ?_
   conv=>whnf
   refine q1 ?_
   conv=>whnf
   refine q1 ?_
   conv=>whnf
   obtain ⟨x_12,hx_12,h⟩:=bS h
   refine q3 (ixP_of hx_12 rr) ?_
   conv=>whnf
   refine q2 ?_
   conv=>whnf
   refine q2 ?_
   conv=>whnf
   refine q1 ?_
   conv=>whnf
   refine q1 ?_
   conv=>whnf
   refine cB h (fun hb13 h=>?_) (fun hb13 h=>?_)
   ·conv=>whnf
    refine q1 ?_
    conv=>whnf
    refine Tr.cond ?_
    conv=>whnf
    refine sg ?_
    conv=>whnf
    refine Tr.ret ?_
    conv=>whnf
    cases h
    rfl
   conv=>whnf
   refine q1 ?_
   conv=>whnf
   refine q1 ?_
   conv=>whnf
   obtain ⟨x_14,hx_14,h⟩:=bS h
   refine q3 (ixP_of hx_14 rr) ?_
   conv=>whnf
   refine q2 ?_
   conv=>whnf
   refine q2 ?_
   conv=>whnf
   refine q3 (lnS_map rr) ?_
   conv=>whnf
   refine q1 ?_
   conv=>whnf
   refine q1 ?_
   conv=>whnf
   obtain ⟨x_15,hx_15,h⟩:=bS h
   refine q3 (ixP_of hx_15 rr) ?_
   conv=>whnf
   refine q2 ?_
   conv=>whnf
   refine q2 ?_
   conv=>whnf
   refine q3 (lnS_map rr) ?_
   conv=>whnf
   refine q1 ?_
   conv=>whnf
   refine q1 ?_
   conv=>whnf
   refine Tr.cond ?_
   conv=>whnf
   refine cB h (fun hb16 h=>?_) (fun hb16 h=>?_)
   ·refine sg ?_
    conv=>whnf
    refine Tr.ret ?_
    conv=>whnf
    cases h
    rfl
   refine Tr.skip ?_
   conv=>whnf
   refine sg ?_
   conv=>whnf
   refine Tr.cutQ (α:=Unit) (fun s=>([(0,.d (.ls (List.map eTLook a_1))),(1,.d (.ls (List.map eTLook b_2))),(4,.d (.b false)),(5,(dI i_6))],[])) (fun s=>M228 i_6 (M229 a_1 b_2 M230 n_7) s=some r_3) ?_ ?_
   ·refine Tr.block ?_
    refine Tr.loopM (σ:=Int) (fun n s=>M227 a_1 b_2 i_6 (M228 i_6 (M229 a_1 b_2 M230 n_7)) n s) r_3 (fun s=>([(0,.d (.ls (List.map eTLook a_1))),(1,.d (.ls (List.map eTLook b_2))),(4,.d (.b false)),(5,(dI i_6)),(6,(dI s))],[])) ((((((Option.getD (idx a_1 i_6) default).Answers).length:Int)) - 0:Int).toNat+1) (0) h (fun s=>rfl) (Wk.mk2 [] 0 rfl rfl (by decide) rfl trivial ⟨rr,rr,rr,rr,rr,trivial⟩) ?_
    clear h
    rintro n_19 k_18 h
    replace h:M227 a_1 b_2 i_6 (M228 i_6 (M229 a_1 b_2 M230 n_7)) (n_19+1) k_18=some r_3:=h
    rw [M227] at h
    refine Tr.seq ?_
    refine sg ?_
    conv=>whnf
    obtain ⟨x_22,hx_22,h⟩:=bS h
    refine ixP_of hx_22 ?_
    conv=>whnf
    refine lnS_map ?_
    conv=>whnf
    refine Tr.cond ?_
    conv=>whnf
    refine cB h (fun hb23 h=>?_) (fun hb23 h=>?_)
    ·refine Tr.skip ?_
     conv=>whnf
     refine Tr.seq ?_
     refine Tr.block ?_
     refine sd [] [(0,1),(1,1),(2,2),(3,2),(4,2),(5,1),(6,2),(7,2),(8,1),(9,1),(10,2),(11,2),(12,2),(13,1),(14,2),(15,2),(16,1)] ?_
     conv=>whnf
     refine q1 ?_
     conv=>whnf
     refine q1 ?_
     conv=>whnf
     obtain ⟨x_24,hx_24,h⟩:=bS h
     refine q3 (ixP_of hx_24 rr) ?_
     conv=>whnf
     refine q2 ?_
     conv=>whnf
     refine q2 ?_
     conv=>whnf
     refine q1 ?_
     conv=>whnf
     obtain ⟨x_25,hx_25,h⟩:=bS h
     refine q3 (ixP_of hx_25 rr) ?_
     conv=>whnf
     refine q2 ?_
     conv=>whnf
     refine q1 ?_
     conv=>whnf
     refine q1 ?_
     conv=>whnf
     obtain ⟨x_26,hx_26,h⟩:=bS h
     refine q3 (ixP_of hx_26 rr) ?_
     conv=>whnf
     refine q2 ?_
     conv=>whnf
     refine q2 ?_
     conv=>whnf
     refine q1 ?_
     conv=>whnf
     obtain ⟨x_27,hx_27,h⟩:=bS h
     refine q3 (ixP_of hx_27 rr) ?_
     conv=>whnf
     refine q2 ?_
     conv=>whnf
     refine q1 ?_
     conv=>whnf
     refine Tr.cond ?_
     conv=>whnf
     refine cB h (fun hb28 h=>?_) (fun hb28 h=>?_)
     ·refine sg ?_
      conv=>whnf
      refine Tr.ret ?_
      conv=>whnf
      cases h
      rfl
     refine Tr.skip ?_
     conv=>whnf
     refine rg ?_
     conv=>whnf
     refine arS_raw ?_
     conv=>whnf
     refine ⟨((w64 (k_18+1))),h,?_⟩
     exact Wk.mk2 [] 0 rfl rfl (by decide) rfl trivial ⟨rr,rr,rr,rr,rr,trivial⟩
    refine Tr.exit ?_
    conv=>whnf
    refine ⟨(),h,?_⟩
    exact Wk.mk2 [] 0 rfl rfl (by decide) rfl trivial ⟨rr,rr,rr,rr,trivial⟩
   clear h
   rintro _ h T1 H1 hw
   replace h:M228 i_6 (M229 a_1 b_2 M230 n_7) ()=some r_3:=h
   conv=>whnf
   refine Tr.weak hw ?_
   unfold M228 at h
   refine rg ?_
   conv=>whnf
   refine arS_raw ?_
   conv=>whnf
   refine ⟨((w64 (i_6+1))),h,?_⟩
   exact Wk.mk2 [] 0 rfl rfl (by decide) rfl trivial ⟨rr,rr,rr,rr,trivial⟩
  refine Tr.exit ?_
  conv=>whnf
  refine ⟨(),h,?_⟩
  exact Wk.mk2 [] 0 rfl rfl (by decide) rfl trivial ⟨rr,trivial⟩
 clear h
 rintro _ h T1 H1 hw
 replace h:M230 ()=some r_3:=h
 conv=>whnf
 refine Tr.weak hw ?_
 unfold M230 at h
 refine sg ?_
 conv=>whnf
 refine Tr.ret ?_
 conv=>whnf
 cases h
 rfl
theorem P232 (a_1:TQuestion) (b_2:TQuestion) (r_3:Bool) (h:M232 a_1 b_2=some r_3) :
    PC prog 14 [(eTQuestion a_1),(eTQuestion b_2)] (fun rs=>rs=[(.b r_3)]):=by
 refine PC.of_tr (cx:=⟨24,none,lay,0⟩) layOK func14 rfl rfl rfl rfl rfl (by simp [f14]) ?_
 unfold M232 at h
 refine sg ?_
 conv=>whnf
 refine sg ?_
 conv=>whnf
 obtain ⟨r_4,hc5,h⟩:=bS h
 refine PC.ecall (P226 a_1.Field b_2.Field r_4 hc5) (fun rs hrs=>?_)
 subst hrs
 conv=>whnf
 refine cB h (fun hb6 h=>?_) (fun hb6 h=>?_)
 ·conv=>whnf
  refine cB h (fun hb7 h=>?_) (fun hb7 h=>?_)
  ·conv=>whnf
   obtain ⟨r_8,hc9,h⟩:=bS h
   refine PC.ecall (P231 a_1.Looks b_2.Looks r_8 hc9) (fun rs hrs=>?_)
   subst hrs
   conv=>whnf
   refine Tr.ret ?_
   conv=>whnf
   cases h
   rfl
  conv=>whnf
  refine Tr.ret ?_
  conv=>whnf
  cases h
  rfl
 conv=>whnf
 refine Tr.ret ?_
 conv=>whnf
 cases h
 rfl
theorem P235 (q_1:TQuestion) (look_2:Int) (answer_3:Int) (r_4:Bool) (h:M235 q_1 look_2 answer_3=some r_4) :
    PC prog 3 [(eTQuestion q_1),(.i .i64 look_2),(.i .i64 answer_3)] (fun rs=>rs=[(.b r_4)]):=by
 refine PC.of_tr (cx:=⟨64,none,lay,0⟩) layOK func3 rfl rfl rfl rfl rfl (by simp [f3]) ?_
 unfold M235 at h
 refine sg ?_
 conv=>whnf
 refine Tr.seq ?_
 refine sg ?_
 conv=>whnf
 obtain ⟨r_5,hc6,h⟩:=bS h
 refine PC.ecall (P141 r_5 hc6) (fun rs hrs=>?_)
 subst hrs
 conv=>whnf
 refine Tr.cond ?_
 conv=>whnf
 refine cB h (fun hb7 h=>?_) (fun hb7 h=>?_)
 ·refine sg ?_
  conv=>whnf
  refine Tr.ret ?_
  conv=>whnf
  cases h
  rfl
 refine Tr.skip ?_
 conv=>whnf
 refine Tr.seq ?_
 refine sg ?_
 conv=>whnf
 obtain ⟨r_8,hc9,h⟩:=bS h
 refine PC.ecall (P151 q_1 r_8 hc9) (fun rs hrs=>?_)
 subst hrs
 conv=>whnf
 refine Tr.cond ?_
 conv=>whnf
 refine cB h (fun hb10 h=>?_) (fun hb10 h=>?_)
 ·refine sg ?_
  conv=>whnf
  refine Tr.ret ?_
  conv=>whnf
  cases h
  rfl
 refine Tr.skip ?_
 conv=>whnf
 refine Tr.seq ?_
 refine sg ?_
 conv=>whnf
 refine orB_r ?_
 conv=>whnf
 refine lnS_map (f:=eTA2_i64) (l:=(([({ a0:=look_2,a1:=answer_3 }:TA2_i64),({ a0:=0,a1:=0 }:TA2_i64),({ a0:=0,a1:=1 }:TA2_i64),({ a0:=1,a1:=0 }:TA2_i64),({ a0:=1,a1:=1 }:TA2_i64)]:List TA2_i64))) ?_
 conv=>whnf
 refine Tr.cutQ (α:=Unit) (fun s=>([(3,.pt 0 0),(6,.d (.b false))],[some (.var [.d (.ls (List.map eTSegment q_1.Field.Clocks.Segments)),.d (.ls (List.map (eL eI) q_1.Field.Clocks.Far)),.d (.ls (List.map eTPair q_1.Field.Pairs)),.d (.ls (List.map eTRunner q_1.Field.Runners)),(dI q_1.Runner),.d (.ls (List.map eTLook q_1.Looks))])])) (fun s=>M234 q_1 s=some r_4) ?_ ?_
 ·refine Tr.block ?_
  refine Tr.loopM (σ:=Int) (fun n s=>M233 q_1 look_2 answer_3 (M234 q_1) n s) r_4 (fun s=>([(3,.pt 0 0),(6,.d (.b false)),(25,.d (.ls (List.map eTA2_i64 (([({ a0:=look_2,a1:=answer_3 }:TA2_i64),({ a0:=0,a1:=0 }:TA2_i64),({ a0:=0,a1:=1 }:TA2_i64),({ a0:=1,a1:=0 }:TA2_i64),({ a0:=1,a1:=1 }:TA2_i64)]:List TA2_i64))))),(26,(dI 5)),(27,(dI s))],[some (.var [.d (.ls (List.map eTSegment q_1.Field.Clocks.Segments)),.d (.ls (List.map (eL eI) q_1.Field.Clocks.Far)),.d (.ls (List.map eTPair q_1.Field.Pairs)),.d (.ls (List.map eTRunner q_1.Field.Runners)),(dI q_1.Runner),.d (.ls (List.map eTLook q_1.Looks))])])) ((5 - 0:Int).toNat+1) (0) h (fun s=>rfl) (Wk.mk2 [0] 1 rfl rfl (by decide) rfl ⟨rr,trivial⟩ ⟨rr,rr,rr,rr,rr,trivial⟩) ?_
  clear h
  rintro n_13 v_12 h
  replace h:M233 q_1 look_2 answer_3 (M234 q_1) (n_13+1) v_12=some r_4:=h
  rw [M233] at h
  refine sg ?_
  conv=>whnf
  refine Tr.seq ?_
  refine Tr.cond ?_
  conv=>whnf
  refine cB h (fun hb16 h=>?_) (fun hb16 h=>?_)
  ·refine Tr.skip ?_
   conv=>whnf
   refine Tr.seq ?_
   refine Tr.block ?_
   refine sg ?_
   conv=>whnf
   obtain ⟨x_17,hx_17,h⟩:=bS h
   refine ixP_of hx_17 ?_
   conv=>whnf
   refine orB_r ?_
   conv=>whnf
   refine sg ?_
   conv=>whnf
   refine ixS_mk 0 rfl (by first | decide | exact Nat.le_of_ble_eq_true rfl) ?_
   conv=>whnf
   refine ixS_mk 1 rfl (by first | decide | exact Nat.le_of_ble_eq_true rfl) ?_
   conv=>whnf
   obtain ⟨⟨r_18,r_19⟩,hc20,h⟩:=bS h
   refine PC.ecall (P67 q_1 x_17.a0 x_17.a1 r_18 r_19 hc20) (fun rs hrs=>?_)
   subst hrs
   conv=>whnf
   refine sg ?_
   conv=>whnf
   refine ixS_mk 0 rfl (by first | decide | exact Nat.le_of_ble_eq_true rfl) ?_
   conv=>whnf
   refine ixS_mk 1 rfl (by first | decide | exact Nat.le_of_ble_eq_true rfl) ?_
   conv=>whnf
   obtain ⟨⟨r_21,r_22⟩,hc23,h⟩:=bS h
   refine PC.ecall (P204 q_1 x_17.a0 x_17.a1 r_21 r_22 hc23) (fun rs hrs=>?_)
   subst hrs
   conv=>whnf
   refine sg ?_
   conv=>whnf
   obtain ⟨r_24,hc25,h⟩:=bS h
   refine PC.ecall (P232 r_18 r_21 r_24 hc25) (fun rs hrs=>?_)
   subst hrs
   conv=>whnf
   refine cB h (fun hb26 h=>?_) (fun hb26 h=>?_)
   ·conv=>whnf
    refine Tr.cond ?_
    conv=>whnf
    refine sg ?_
    conv=>whnf
    refine Tr.ret ?_
    conv=>whnf
    cases h
    rfl
   conv=>whnf
   refine Tr.cond ?_
   conv=>whnf
   refine cB h (fun hb27 h=>?_) (fun hb27 h=>?_)
   ·refine sg ?_
    conv=>whnf
    refine Tr.ret ?_
    conv=>whnf
    cases h
    rfl
   refine Tr.skip ?_
   conv=>whnf
   refine rg ?_
   conv=>whnf
   refine arS_raw ?_
   conv=>whnf
   refine ⟨((w64 (v_12+1))),h,?_⟩
   exact Wk.mk2 [0] 4 rfl rfl (by decide) rfl ⟨rr,trivial⟩ ⟨rr,rr,rr,rr,rr,trivial⟩
  refine Tr.exit ?_
  conv=>whnf
  refine ⟨(),h,?_⟩
  exact Wk.mk2 [0] 1 rfl rfl (by decide) rfl ⟨rr,trivial⟩ ⟨rr,rr,trivial⟩
 clear h
 rintro _ h T1 H1 hw
 replace h:M234 q_1 ()=some r_4:=h
 conv=>whnf
 refine Tr.weak hw ?_
 unfold M234 at h
 refine sd [] [(0,3),(1,1),(2,3),(3,1),(4,1),(5,1)] ?_
 conv=>whnf
 refine q2 ?_
 conv=>whnf
 obtain ⟨r_28,hc29,h⟩:=bS h
 refine q1 ?_ (fun _=>pe (P55 q_1 r_28 hc29) rr)
 conv=>whnf
 refine q2 ?_
 conv=>whnf
 obtain ⟨r_30,hc31,h⟩:=bS h
 refine q1 ?_ (fun _=>pe (P197 q_1 r_30 hc31) rr)
 conv=>whnf
 refine q1 ?_
 conv=>whnf
 refine q1 ?_
 conv=>whnf
 refine Tr.ret ?_
 conv=>whnf
 cases h
 rfl
end Go.Proofs.Try
