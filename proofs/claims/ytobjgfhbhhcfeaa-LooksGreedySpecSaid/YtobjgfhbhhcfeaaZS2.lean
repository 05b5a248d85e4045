/- Contracts of functions, by program (gen.py). No condition. -/
import Derived.Test.YtobjgfhbhhcfeaaZL
import Derived.Test.YtobjgfhbhhcfeaaZM
import Derived.Test.YtobjgfhbhhcfeaaZCB
import Derived.Test.YtobjgfhbhhcfeaaZS1
namespace Go.Proofs.Try
open Go Go.Abs Go.Stop
set_option maxRecDepth 8000
set_option linter.unusedVariables false
set_option linter.unusedSimpArgs false
theorem P31 (r_1:TRunner) (c_2:Int) (r_3:Bool) (h:M31 r_1 c_2=some r_3) :
    PC prog 102 [(eTRunner r_1),(.ro [(.i .i64 c_2)])] (fun rs=>rs=[(.b r_3)]):=by
 refine PC.of_tr (cx:=⟨11,none,lay,0⟩) layOK func102 rfl rfl rfl rfl rfl (by simp [f102]) ?_
 unfold M31 at h
 refine sg ?_
 conv=>whnf
 refine sg ?_
 conv=>whnf
 obtain ⟨x_4,hx_4,h⟩:=bS h
 refine ixP_of hx_4 ?_
 conv=>whnf
 refine lnS_map ?_
 conv=>whnf
 refine Tr.ret ?_
 conv=>whnf
 cases h
 rfl
theorem P34 (s_1:List TRunner) (c_2:Int) (r_3:Int) (h:M34 s_1 c_2=some r_3) :
    PC prog 103 [(.ls (List.map eTRunner s_1)),(.fn 102 [(.ro [(.i .i64 c_2)])])] (fun rs=>rs=[(.i .i64 r_3)]):=by
 refine PC.of_tr (cx:=⟨19,none,lay,0⟩) layOK func103 rfl rfl rfl rfl rfl (by simp [f103]) ?_
 unfold M34 at h
 refine sg ?_
 conv=>whnf
 refine Tr.seq ?_
 refine sg ?_
 conv=>whnf
 refine lnS_map ?_
 conv=>whnf
 refine Tr.cutQ (α:=Unit) (fun s=>([(4,(dI 0))],[])) (fun s=>M33 s=some r_3) ?_ ?_
 ·refine Tr.block ?_
  refine Tr.loopM (σ:=Int) (fun n s=>M32 s_1 c_2 M33 n s) r_3 (fun s=>([(0,.d (.ls (List.map eTRunner s_1))),(1,.d (.fn 102 [(.ro [(.i .i64 c_2)])])),(4,(dI 0)),(7,(dI (((s_1).length:Int)))),(8,(dI s))],[])) (((((s_1).length:Int)) - 0:Int).toNat+1) (0) h (fun s=>rfl) (Wk.mk2 [] 0 rfl rfl (by decide) rfl trivial ⟨rr,rr,rr,rr,rr,trivial⟩) ?_
  clear h
  rintro n_6 v_5 h
  replace h:M32 s_1 c_2 M33 (n_6+1) v_5=some r_3:=h
  rw [M32] at h
  refine sg ?_
  conv=>whnf
  refine Tr.seq ?_
  refine Tr.cond ?_
  conv=>whnf
  refine cB h (fun hb9 h=>?_) (fun hb9 h=>?_)
  ·refine Tr.skip ?_
   conv=>whnf
   refine Tr.seq ?_
   refine Tr.block ?_
   refine sg ?_
   conv=>whnf
   refine sg ?_
   conv=>whnf
   obtain ⟨x_10,hx_10,h⟩:=bS h
   refine ixP_of hx_10 ?_
   conv=>whnf
   obtain ⟨r_11,hc12,h⟩:=bS h
   refine PC.ecall (P31 x_10 c_2 r_11 hc12) (fun rs hrs=>?_)
   subst hrs
   conv=>whnf
   refine Tr.cond ?_
   conv=>whnf
   refine cB h (fun hb13 h=>?_) (fun hb13 h=>?_)
   ·refine sg ?_
    conv=>whnf
    refine Tr.ret ?_
    conv=>whnf
    cases h
    rfl
   refine Tr.skip ?_
   conv=>whnf
   refine rg ?_
   conv=>whnf
   refine arS_raw ?_
   conv=>whnf
   refine ⟨((w64 (v_5+1))),h,?_⟩
   exact Wk.mk2 [] 0 rfl rfl (by decide) rfl trivial ⟨rr,rr,rr,rr,rr,trivial⟩
  refine Tr.exit ?_
  conv=>whnf
  refine ⟨(),h,?_⟩
  exact Wk.mk2 [] 0 rfl rfl (by decide) rfl trivial ⟨rr,trivial⟩
 clear h
 rintro _ h T1 H1 hw
 replace h:M33 ()=some r_3:=h
 conv=>whnf
 refine Tr.weak hw ?_
 unfold M33 at h
 refine sg ?_
 conv=>whnf
 refine Tr.ret ?_
 conv=>whnf
 cases h
 rfl
theorem P35 (s_1:List TRunner) (c_2:Int) (r_3:Bool) (h:M35 s_1 c_2=some r_3) :
    PC prog 67 [(.ls (List.map eTRunner s_1)),(.fn 102 [(.ro [(.i .i64 c_2)])])] (fun rs=>rs=[(.b r_3)]):=by
 refine PC.of_tr (cx:=⟨9,none,lay,0⟩) layOK func67 rfl rfl rfl rfl rfl (by simp [f67]) ?_
 unfold M35 at h
 refine sg ?_
 conv=>whnf
 refine sg ?_
 conv=>whnf
 obtain ⟨r_4,hc5,h⟩:=bS h
 refine PC.ecall (P34 s_1 c_2 r_4 hc5) (fun rs hrs=>?_)
 subst hrs
 conv=>whnf
 refine Tr.ret ?_
 conv=>whnf
 cases h
 rfl
theorem P38 (f_1:TField) (r_2:Bool) (h:M38 f_1=some r_2) :
    PC prog 64 [(eTField f_1)] (fun rs=>rs=[(.b r_2)]):=by
 refine PC.of_tr (cx:=⟨17,none,lay,0⟩) layOK func64 rfl rfl rfl rfl rfl (by simp [f64]) ?_
 unfold M38 at h
 refine sg ?_
 conv=>whnf
 refine Tr.seq ?_
 refine sg ?_
 conv=>whnf
 refine lnS_map ?_
 conv=>whnf
 refine arS_raw ?_
 conv=>whnf
 refine Tr.cutQ (α:=Unit) (fun s=>([(2,.d (.b false))],[])) (fun s=>M37 s=some r_2) ?_ ?_
 ·refine Tr.block ?_
  refine Tr.loopM (σ:=Int) (fun n s=>M36 f_1 M37 n s) r_2 (fun s=>([(1,.pt 0 0),(2,.d (.b false)),(7,(dI (w64 ((((f_1.Pairs).length:Int))+1)))),(8,(dI s))],[some (.var [.d (.ls (List.map eTSegment f_1.Clocks.Segments)),.d (.ls (List.map (eL eI) f_1.Clocks.Far)),.d (.ls (List.map eTPair f_1.Pairs)),.d (.ls (List.map eTRunner f_1.Runners))])])) (((w64 ((((f_1.Pairs).length:Int))+1)) - 0:Int).toNat+1) (0) h (fun s=>rfl) (Wk.mk2 [0] 1 rfl rfl (by decide) rfl ⟨rr,trivial⟩ ⟨rr,rr,rr,rr,trivial⟩) ?_
  clear h
  rintro n_5 v_4 h
  replace h:M36 f_1 M37 (n_5+1) v_4=some r_2:=h
  rw [M36] at h
  refine sg ?_
  conv=>whnf
  refine Tr.seq ?_
  refine Tr.cond ?_
  conv=>whnf
  refine cB h (fun hb8 h=>?_) (fun hb8 h=>?_)
  ·refine Tr.skip ?_
   conv=>whnf
   refine Tr.seq ?_
   refine Tr.block ?_
   refine sg ?_
   conv=>whnf
   refine sg ?_
   conv=>whnf
   obtain ⟨r_9,hc10,h⟩:=bS h
   refine PC.ecall_lend ?_ ⟨_,_,func67,rfl,rfl⟩
   conv=>whnf
   refine ⟨_,P35 f_1.Runners v_4 r_9 hc10,fun rs hrs=>?_⟩
   subst hrs
   refine ⟨rfl,?_⟩
   conv=>whnf
   refine Tr.cond ?_
   conv=>whnf
   refine cB h (fun hb11 h=>?_) (fun hb11 h=>?_)
   ·refine sg ?_
    conv=>whnf
    refine Tr.ret ?_
    conv=>whnf
    cases h
    rfl
   refine Tr.skip ?_
   conv=>whnf
   refine rg ?_
   conv=>whnf
   refine arS_raw ?_
   conv=>whnf
   refine ⟨((w64 (v_4+1))),h,?_⟩
   exact Wk.mk2 [0] 2 rfl rfl (by decide) rfl ⟨rr,trivial⟩ ⟨rr,rr,rr,rr,trivial⟩
  refine Tr.exit ?_
  conv=>whnf
  refine ⟨(),h,?_⟩
  exact Wk.mk2 [] 1 rfl rfl (by decide) rfl trivial ⟨rr,trivial⟩
 clear h
 rintro _ h T1 H1 hw
 replace h:M37 ()=some r_2:=h
 conv=>whnf
 refine Tr.weak hw ?_
 unfold M37 at h
 refine sg ?_
 conv=>whnf
 refine Tr.ret ?_
 conv=>whnf
 cases h
 rfl
theorem P45 (f_1:TField) (r_2:Int) (h:M45 f_1=some r_2) :
    PC prog 31 [(eTField f_1)] (fun rs=>rs=[(.i .i64 r_2)]):=by
 refine PC.of_tr (cx:=⟨136,none,lay,0⟩) layOK func31 rfl rfl rfl rfl rfl (by simp [f31]) ?_
 unfold M45 at h
 refine sg ?_
 conv=>whnf
 refine Tr.seq ?_
 refine Tr.seq ?_
 obtain ⟨v_3,hv4,h⟩:=bS h
 refine Tr.cutQ1 ([(1,.pt 0 0),(2,(dI 0)),(32,.d (.b v_3))]) ([some (.var [.d (.ls (List.map eTSegment f_1.Clocks.Segments)),.d (.ls (List.map (eL eI) f_1.Clocks.Far)),.d (.ls (List.map eTPair f_1.Pairs)),.d (.ls (List.map eTRunner f_1.Runners))])]) ?_ (fun T1 H1 hw=>?_)
 ·replace h:=hv4; clear hv4
  refine rg ?_
  conv=>whnf
  obtain ⟨r_5,hc6,h⟩:=bS h
  refine PC.ecall (P24 f_1.Clocks r_5 hc6) (fun rs hrs=>?_)
  subst hrs
  conv=>whnf
  refine cB h (fun hb7 h=>?_) (fun hb7 h=>?_)
  ·conv=>whnf
   cases h
   exact Wk.mk2 [0] 1 rfl rfl (by decide) rfl ⟨rr,trivial⟩ ⟨rr,rr,rr,trivial⟩
  conv=>whnf
  refine lnS_map ?_
  conv=>whnf
  refine cB h (fun hb8 h=>?_) (fun hb8 h=>?_)
  ·conv=>whnf
   cases h
   exact Wk.mk2 [0] 1 rfl rfl (by decide) rfl ⟨rr,trivial⟩ ⟨rr,rr,rr,trivial⟩
  conv=>whnf
  refine lnS_map ?_
  conv=>whnf
  refine cB h (fun hb9 h=>?_) (fun hb9 h=>?_)
  ·conv=>whnf
   cases h
   exact Wk.mk2 [0] 1 rfl rfl (by decide) rfl ⟨rr,trivial⟩ ⟨rr,rr,rr,trivial⟩
  conv=>whnf
  refine lnS_map ?_
  conv=>whnf
  cases h
  exact Wk.mk2 [0] 1 rfl rfl (by decide) rfl ⟨rr,trivial⟩ ⟨rr,rr,rr,trivial⟩
 clear hv4
 conv=>whnf
 refine Tr.weak hw ?_
 refine Tr.cond ?_
 conv=>whnf
 refine cB h (fun hb10 h=>?_) (fun hb10 h=>?_)
 ·refine sg ?_
  conv=>whnf
  refine Tr.ret ?_
  conv=>whnf
  cases h
  rfl
 refine Tr.skip ?_
 conv=>whnf
 refine sg ?_
 conv=>whnf
 refine Tr.seq ?_
 refine sg ?_
 conv=>whnf
 refine lnS_map ?_
 conv=>whnf
 refine Tr.cutQ (α:=Unit) (fun s=>([(1,.pt 0 0),(2,(dI 0))],[some (.var [.d (.ls (List.map eTSegment f_1.Clocks.Segments)),.d (.ls (List.map (eL eI) f_1.Clocks.Far)),.d (.ls (List.map eTPair f_1.Pairs)),.d (.ls (List.map eTRunner f_1.Runners))])])) (fun s=>M44 f_1 s=some r_2) ?_ ?_
 ·refine Tr.block ?_
  refine Tr.loopM (σ:=Int × Int × Int) (fun n s=>M39 f_1 (M44 f_1) n s.1 s.2.1 s.2.2) r_2 (fun s=>([(1,.pt 0 0),(2,(dI 0)),(3,.pt 1 0),(34,.d (.ls (List.map eTPair f_1.Pairs))),(35,(dI (((f_1.Pairs).length:Int)))),(36,(dI s.1))],[some (.var [.d (.ls (List.map eTSegment f_1.Clocks.Segments)),.d (.ls (List.map (eL eI) f_1.Clocks.Far)),.d (.ls (List.map eTPair f_1.Pairs)),.d (.ls (List.map eTRunner f_1.Runners))]),some (.var [(dI s.2.1),(dI s.2.2)])])) (((((f_1.Pairs).length:Int)) - 0:Int).toNat+1) (0,0,0) h (fun s=>rfl) (Wk.mk2 [0,1] 2 rfl rfl (by decide) rfl ⟨rr,rr,trivial⟩ ⟨rr,rr,rr,rr,rr,rr,trivial⟩) ?_
  clear h
  rintro n_17 ⟨v_14,v_15,v_16⟩ h
  replace h:M39 f_1 (M44 f_1) (n_17+1) v_14 v_15 v_16=some r_2:=h
  rw [M39] at h
  refine sg ?_
  conv=>whnf
  refine Tr.seq ?_
  refine Tr.cond ?_
  conv=>whnf
  refine cB h (fun hb20 h=>?_) (fun hb20 h=>?_)
  ·refine Tr.skip ?_
   conv=>whnf
   refine Tr.seq ?_
   refine Tr.block ?_
   refine sg ?_
   conv=>whnf
   obtain ⟨x_21,hx_21,h⟩:=bS h
   refine ixP_of hx_21 ?_
   conv=>whnf
   refine Tr.seq ?_
   refine Tr.seq ?_
   refine Tr.cutQ1 ([(1,.pt 0 0),(2,(dI 0)),(3,.pt 1 0),(5,.pt 2 0),(34,.d (.ls (List.map eTPair f_1.Pairs))),(35,(dI (((f_1.Pairs).length:Int)))),(36,(dI v_14)),(75,.d (.b ((decide (x_21.A < 1)) || ((decide (x_21.A≥x_21.B)) || ((decide (x_21.B > 9999)) || ((decide (x_21.A < v_15)) || ((x_21.A == v_15) && (decide (x_21.B≤v_16)))))))))]) ([some (.var [.d (.ls (List.map eTSegment f_1.Clocks.Segments)),.d (.ls (List.map (eL eI) f_1.Clocks.Far)),.d (.ls (List.map eTPair f_1.Pairs)),.d (.ls (List.map eTRunner f_1.Runners))]),some (.var [(dI v_15),(dI v_16)]),some (.var [(dI x_21.A),(dI x_21.B)])]) ?_ (fun T1 H1 hw=>?_)
   ·refine rg ?_
    conv=>whnf
    refine condS_mk (fun hb23=>?_) (fun hb23=>?_)
    ·conv=>whnf
     exact Wk.mk2 [0,1,2] 3 rfl rfl (by decide) rfl ⟨rr,rr,rr,trivial⟩ ⟨rr,rr,rr,rr,rr,rr,rr,⟨rfl,(by first | rfl | (simp only [↓hb10,↓hb20,↓hb23,bl,List.length_set]; done) | (simp only [↓hb10,↓hb20,↓hb23,bl,List.length_set]; rfl))⟩,trivial⟩
    conv=>whnf
    refine condS_mk (fun hb24=>?_) (fun hb24=>?_)
    ·conv=>whnf
     exact Wk.mk2 [0,1,2] 3 rfl rfl (by decide) rfl ⟨rr,rr,rr,trivial⟩ ⟨rr,rr,rr,rr,rr,rr,rr,⟨rfl,(by first | rfl | (simp only [↓hb10,↓hb20,↓hb23,↓hb24,bl,List.length_set]; done) | (simp only [↓hb10,↓hb20,↓hb23,↓hb24,bl,List.length_set]; rfl))⟩,trivial⟩
    conv=>whnf
    refine condS_mk (fun hb25=>?_) (fun hb25=>?_)
    ·conv=>whnf
     exact Wk.mk2 [0,1,2] 3 rfl rfl (by decide) rfl ⟨rr,rr,rr,trivial⟩ ⟨rr,rr,rr,rr,rr,rr,rr,⟨rfl,(by first | rfl | (simp only [↓hb10,↓hb20,↓hb23,↓hb24,↓hb25,bl,List.length_set]; done) | (simp only [↓hb10,↓hb20,↓hb23,↓hb24,↓hb25,bl,List.length_set]; rfl))⟩,trivial⟩
    conv=>whnf
    refine condS_mk (fun hb26=>?_) (fun hb26=>?_)
    ·conv=>whnf
     exact Wk.mk2 [0,1,2] 3 rfl rfl (by decide) rfl ⟨rr,rr,rr,trivial⟩ ⟨rr,rr,rr,rr,rr,rr,rr,⟨rfl,(by first | rfl | (simp only [↓hb10,↓hb20,↓hb23,↓hb24,↓hb25,↓hb26,bl,List.length_set]; done) | (simp only [↓hb10,↓hb20,↓hb23,↓hb24,↓hb25,↓hb26,bl,List.length_set]; rfl))⟩,trivial⟩
    conv=>whnf
    refine condS_mk (fun hb27=>?_) (fun hb27=>?_)
    ·conv=>whnf
     exact Wk.mk2 [0,1,2] 3 rfl rfl (by decide) rfl ⟨rr,rr,rr,trivial⟩ ⟨rr,rr,rr,rr,rr,rr,rr,⟨rfl,(by first | rfl | (simp only [↓hb10,↓hb20,↓hb23,↓hb24,↓hb25,↓hb26,↓hb27,bl,List.length_set]; done) | (simp only [↓hb10,↓hb20,↓hb23,↓hb24,↓hb25,↓hb26,↓hb27,bl,List.length_set]; rfl))⟩,trivial⟩
    conv=>whnf
    exact Wk.mk2 [0,1,2] 3 rfl rfl (by decide) rfl ⟨rr,rr,rr,trivial⟩ ⟨rr,rr,rr,rr,rr,rr,rr,⟨rfl,(by first | rfl | (simp only [↓hb10,↓hb20,↓hb23,↓hb24,↓hb25,↓hb26,↓hb27,bl,List.length_set]; done) | (simp only [↓hb10,↓hb20,↓hb23,↓hb24,↓hb25,↓hb26,↓hb27,bl,List.length_set]; rfl))⟩,trivial⟩
   conv=>whnf
   refine Tr.weak hw ?_
   refine Tr.cond ?_
   conv=>whnf
   refine cB h (fun hb28 h=>?_) (fun hb28 h=>?_)
   ·refine sg ?_
    conv=>whnf
    refine Tr.ret ?_
    conv=>whnf
    cases h
    rfl
   refine Tr.skip ?_
   conv=>whnf
   refine rg ?_
   conv=>whnf
   refine rg ?_
   conv=>whnf
   refine arS_raw ?_
   conv=>whnf
   refine ⟨((w64 (v_14+1)),x_21.A,x_21.B),h,?_⟩
   exact Wk.mk2 [0,1] 3 rfl rfl (by decide) rfl ⟨rr,rr,trivial⟩ ⟨rr,rr,rr,rr,rr,rr,trivial⟩
  refine Tr.exit ?_
  conv=>whnf
  refine ⟨(),h,?_⟩
  exact Wk.mk2 [0] 2 rfl rfl (by decide) rfl ⟨rr,trivial⟩ ⟨rr,rr,trivial⟩
 clear h
 rintro _ h T1 H1 hw
 replace h:M44 f_1 ()=some r_2:=h
 conv=>whnf
 refine Tr.weak hw ?_
 unfold M44 at h
 refine sg ?_
 conv=>whnf
 refine Tr.seq ?_
 refine sg ?_
 conv=>whnf
 refine lnS_map ?_
 conv=>whnf
 refine Tr.cutQ (α:=Unit) (fun s=>([(1,.pt 0 0),(2,(dI 0))],[some (.var [.d (.ls (List.map eTSegment f_1.Clocks.Segments)),.d (.ls (List.map (eL eI) f_1.Clocks.Far)),.d (.ls (List.map eTPair f_1.Pairs)),.d (.ls (List.map eTRunner f_1.Runners))])])) (fun s=>M43 f_1 s=some r_2) ?_ ?_
 ·refine Tr.block ?_
  refine Tr.loopM (σ:=Int × Int) (fun n s=>M42 f_1 (M43 f_1) n s.1 s.2) r_2 (fun s=>([(1,.pt 0 0),(2,(dI 0)),(6,(dI s.1)),(79,.d (.ls (List.map eTRunner f_1.Runners))),(80,(dI (((f_1.Runners).length:Int)))),(81,(dI s.2))],[some (.var [.d (.ls (List.map eTSegment f_1.Clocks.Segments)),.d (.ls (List.map (eL eI) f_1.Clocks.Far)),.d (.ls (List.map eTPair f_1.Pairs)),.d (.ls (List.map eTRunner f_1.Runners))])])) (((((f_1.Runners).length:Int)) - 0:Int).toNat+1) (0,0) h (fun s=>rfl) (Wk.mk2 [0] 1 rfl rfl (by decide) rfl ⟨rr,trivial⟩ ⟨rr,rr,rr,rr,rr,rr,trivial⟩) ?_
  clear h
  rintro n_33 ⟨bib_31,v_32⟩ h
  replace h:M42 f_1 (M43 f_1) (n_33+1) bib_31 v_32=some r_2:=h
  rw [M42] at h
  refine sg ?_
  conv=>whnf
  refine Tr.seq ?_
  refine Tr.cond ?_
  conv=>whnf
  refine cB h (fun hb36 h=>?_) (fun hb36 h=>?_)
  ·refine Tr.skip ?_
   conv=>whnf
   refine Tr.seq ?_
   refine Tr.block ?_
   refine sg ?_
   conv=>whnf
   obtain ⟨x_37,hx_37,h⟩:=bS h
   refine ixP_of hx_37 ?_
   conv=>whnf
   refine Tr.seq ?_
   refine Tr.seq ?_
   obtain ⟨v_38,hv39,h⟩:=bS h
   refine Tr.cutQ1 ([(1,.pt 0 0),(2,(dI 0)),(6,(dI bib_31)),(8,.pt 1 0),(79,.d (.ls (List.map eTRunner f_1.Runners))),(80,(dI (((f_1.Runners).length:Int)))),(81,(dI v_32)),(115,.d (.b v_38))]) ([some (.var [.d (.ls (List.map eTSegment f_1.Clocks.Segments)),.d (.ls (List.map (eL eI) f_1.Clocks.Far)),.d (.ls (List.map eTPair f_1.Pairs)),.d (.ls (List.map eTRunner f_1.Runners))]),some (.var [(dI x_37.Bib),.d (.ls (List.map eI x_37.Keys)),.d (.ls (List.map (eL eTOutcome) x_37.Worlds))])]) ?_ (fun T1 H1 hw=>?_)
   ·replace h:=hv39; clear hv39
    refine dq [] [(0,4),(1,4),(2,1),(3,1),(4,1),(5,4),(6,4),(7,1),(8,1),(9,1),(10,4),(11,4),(12,2),(13,3),(14,3),(15,2),(16,2),(17,2),(18,2),(19,1),(20,1),(21,1),(22,4),(23,4),(24,2),(25,3),(26,3),(27,2),(28,1),(29,1),(30,1)] ?_
    conv=>whnf
    refine q2 ?_
    conv=>whnf
    refine q2 ?_
    conv=>whnf
    refine q1 ?_
    conv=>whnf
    refine q1 ?_
    conv=>whnf
    refine q1 ?_
    conv=>whnf
    refine cB h (fun hb40 h=>?_) (fun hb40 h=>?_)
    ·conv=>whnf
     refine q1 ?_
     conv=>whnf
     refine q1 ?_
     conv=>whnf
     refine q1 ?_
     conv=>whnf
     refine q1 ?_
     conv=>whnf
     refine q1 ?_
     conv=>whnf
     cases h
     exact Wk.mk2 [0,1] 2 rfl rfl (by decide) rfl ⟨rr,rr,trivial⟩ ⟨rr,rr,rr,rr,rr,rr,rr,rr,trivial⟩
    conv=>whnf
    refine q2 ?_
    conv=>whnf
    refine q2 ?_
    conv=>whnf
    refine q1 ?_
    conv=>whnf
    refine q1 ?_
    conv=>whnf
    refine q1 ?_
    conv=>whnf
    refine cB h (fun hb41 h=>?_) (fun hb41 h=>?_)
    ·conv=>whnf
     refine q1 ?_
     conv=>whnf
     refine q1 ?_
     conv=>whnf
     refine q1 ?_
     conv=>whnf
     cases h
     exact Wk.mk2 [0,1] 2 rfl rfl (by decide) rfl ⟨rr,rr,trivial⟩ ⟨rr,rr,rr,rr,rr,rr,rr,rr,trivial⟩
    conv=>whnf
    refine q2 ?_
    conv=>whnf
    refine q2 ?_
    conv=>whnf
    refine q3 (lnS_map rr) ?_
    conv=>whnf
    refine q2 ?_
    conv=>whnf
    refine q2 ?_
    conv=>whnf
    obtain ⟨x_42,hx_42,h⟩:=bS h
    refine q3 (ixP_of hx_42 rr) ?_
    conv=>whnf
    refine q2 ?_
    conv=>whnf
    refine q2 ?_
    conv=>whnf
    refine q3 (lnS_map rr) ?_
    conv=>whnf
    refine q1 ?_
    conv=>whnf
    refine q1 ?_
    conv=>whnf
    refine q1 ?_
    conv=>whnf
    refine cB h (fun hb43 h=>?_) (fun hb43 h=>?_)
    ·conv=>whnf
     refine q1 ?_
     conv=>whnf
     cases h
     exact Wk.mk2 [0,1] 2 rfl rfl (by decide) rfl ⟨rr,rr,trivial⟩ ⟨rr,rr,rr,rr,rr,rr,rr,rr,trivial⟩
    conv=>whnf
    refine q2 ?_
    conv=>whnf
    refine q2 ?_
    conv=>whnf
    refine q3 (lnS_map rr) ?_
    conv=>whnf
    refine q2 ?_
    conv=>whnf
    refine q2 ?_
    conv=>whnf
    refine q3 (lnS_map rr) ?_
    conv=>whnf
    refine q4 ?_
    conv=>whnf
    refine q1 ?_
    conv=>whnf
    refine q1 ?_
    conv=>whnf
    cases h
    exact Wk.mk2 [0,1] 2 rfl rfl (by decide) rfl ⟨rr,rr,trivial⟩ ⟨rr,rr,rr,rr,rr,rr,rr,rr,trivial⟩
   clear hv39
   conv=>whnf
   refine Tr.weak hw ?_
   refine Tr.cond ?_
   conv=>whnf
   refine cB h (fun hb44 h=>?_) (fun hb44 h=>?_)
   ·refine sg ?_
    conv=>whnf
    refine Tr.ret ?_
    conv=>whnf
    cases h
    rfl
   refine Tr.skip ?_
   conv=>whnf
   refine sg ?_
   conv=>whnf
   refine sg ?_
   conv=>whnf
   obtain ⟨r_45,hc46,h⟩:=bS h
   refine PC.ecall (P28 x_37.Worlds r_45 hc46) (fun rs hrs=>?_)
   subst hrs
   conv=>whnf
   refine lnS_map ?_
   conv=>whnf
   refine Tr.cutQ (α:=Unit) (fun s=>([(1,.pt 0 0),(2,(dI 0)),(6,(dI x_37.Bib)),(79,.d (.ls (List.map eTRunner f_1.Runners))),(80,(dI (((f_1.Runners).length:Int)))),(81,(dI v_32))],[some (.var [.d (.ls (List.map eTSegment f_1.Clocks.Segments)),.d (.ls (List.map (eL eI) f_1.Clocks.Far)),.d (.ls (List.map eTPair f_1.Pairs)),.d (.ls (List.map eTRunner f_1.Runners))])])) (fun s=>M41 v_32 (M42 f_1 (M43 f_1) n_33) x_37 s=some r_2) ?_ ?_
   ·refine Tr.block ?_
    refine Tr.loopM (σ:=Int) (fun n s=>M40 f_1 r_45 (M41 v_32 (M42 f_1 (M43 f_1) n_33) x_37) n s) r_2 (fun s=>([(1,.pt 0 0),(2,(dI 0)),(6,(dI x_37.Bib)),(79,.d (.ls (List.map eTRunner f_1.Runners))),(80,(dI (((f_1.Runners).length:Int)))),(81,(dI v_32)),(120,.d (.ls (List.map eTOutcome r_45))),(121,(dI (((r_45).length:Int)))),(122,(dI s))],[some (.var [.d (.ls (List.map eTSegment f_1.Clocks.Segments)),.d (.ls (List.map (eL eI) f_1.Clocks.Far)),.d (.ls (List.map eTPair f_1.Pairs)),.d (.ls (List.map eTRunner f_1.Runners))])])) (((((r_45).length:Int)) - 0:Int).toNat+1) (0) h (fun s=>rfl) (Wk.mk2 [0] 2 rfl rfl (by decide) rfl ⟨rr,trivial⟩ ⟨rr,rr,rr,rr,rr,rr,rr,rr,rr,trivial⟩) ?_
    clear h
    rintro n_49 v_48 h
    replace h:M40 f_1 r_45 (M41 v_32 (M42 f_1 (M43 f_1) n_33) x_37) (n_49+1) v_48=some r_2:=h
    rw [M40] at h
    refine sg ?_
    conv=>whnf
    refine Tr.seq ?_
    refine Tr.cond ?_
    conv=>whnf
    refine cB h (fun hb52 h=>?_) (fun hb52 h=>?_)
    ·refine Tr.skip ?_
     conv=>whnf
     refine Tr.seq ?_
     refine Tr.block ?_
     refine sg ?_
     conv=>whnf
     obtain ⟨x_53,hx_53,h⟩:=bS h
     refine ixP_of hx_53 ?_
     conv=>whnf
     refine sg ?_
     conv=>whnf
     obtain ⟨r_54,hc55,h⟩:=bS h
     refine PC.ecall (P30 f_1.Clocks x_53 r_54 hc55) (fun rs hrs=>?_)
     subst hrs
     conv=>whnf
     refine Tr.cond ?_
     conv=>whnf
     refine cB h (fun hb56 h=>?_) (fun hb56 h=>?_)
     ·refine sg ?_
      conv=>whnf
      refine Tr.ret ?_
      conv=>whnf
      cases h
      rfl
     refine Tr.skip ?_
     conv=>whnf
     refine rg ?_
     conv=>whnf
     refine arS_raw ?_
     conv=>whnf
     refine ⟨((w64 (v_48+1))),h,?_⟩
     exact Wk.mk2 [0] 2 rfl rfl (by decide) rfl ⟨rr,trivial⟩ ⟨rr,rr,rr,rr,rr,rr,rr,rr,rr,trivial⟩
    refine Tr.exit ?_
    conv=>whnf
    refine ⟨(),h,?_⟩
    exact Wk.mk2 [0] 1 rfl rfl (by decide) rfl ⟨rr,trivial⟩ ⟨rr,rr,rr,rr,rr,rr,trivial⟩
   clear h
   rintro _ h T1 H1 hw
   replace h:M41 v_32 (M42 f_1 (M43 f_1) n_33) x_37 ()=some r_2:=h
   conv=>whnf
   refine Tr.weak hw ?_
   unfold M41 at h
   refine rg ?_
   conv=>whnf
   refine arS_raw ?_
   conv=>whnf
   refine ⟨(x_37.Bib,(w64 (v_32+1))),h,?_⟩
   exact Wk.mk2 [0] 1 rfl rfl (by decide) rfl ⟨rr,trivial⟩ ⟨rr,rr,rr,rr,rr,rr,trivial⟩
  refine Tr.exit ?_
  conv=>whnf
  refine ⟨(),h,?_⟩
  exact Wk.mk2 [0] 1 rfl rfl (by decide) rfl ⟨rr,trivial⟩ ⟨rr,rr,trivial⟩
 clear h
 rintro _ h T1 H1 hw
 replace h:M43 f_1 ()=some r_2:=h
 conv=>whnf
 refine Tr.weak hw ?_
 unfold M43 at h
 refine Tr.seq ?_
 refine sg ?_
 conv=>whnf
 obtain ⟨r_57,hc58,h⟩:=bS h
 refine PC.ecall (P38 f_1 r_57 hc58) (fun rs hrs=>?_)
 subst hrs
 conv=>whnf
 refine Tr.cond ?_
 conv=>whnf
 refine cB h (fun hb59 h=>?_) (fun hb59 h=>?_)
 ·refine sg ?_
  conv=>whnf
  refine Tr.ret ?_
  conv=>whnf
  cases h
  rfl
 refine Tr.skip ?_
 conv=>whnf
 refine sg ?_
 conv=>whnf
 refine Tr.ret ?_
 conv=>whnf
 cases h
 rfl
theorem P48 (x_1:TOutcome) (answers_2:List TSpan) (r_3:Bool) (h:M48 x_1 answers_2=some r_3) :
    PC prog 39 [(eTOutcome x_1),(.ls (List.map eTSpan answers_2))] (fun rs=>rs=[(.b r_3)]):=by
 refine PC.of_tr (cx:=⟨35,none,lay,0⟩) layOK func39 rfl rfl rfl rfl rfl (by simp [f39]) ?_
 unfold M48 at h
 refine sg ?_
 conv=>whnf
 refine sg ?_
 conv=>whnf
 refine Tr.seq ?_
 refine sg ?_
 conv=>whnf
 refine lnS_map ?_
 conv=>whnf
 refine Tr.cutQ (α:=Unit) (fun s=>([(4,.d (.b false))],[])) (fun s=>M47 s=some r_3) ?_ ?_
 ·refine Tr.block ?_
  refine Tr.loopM (σ:=Int × Int) (fun n s=>M46 x_1 answers_2 M47 n s.1 s.2) r_3 (fun s=>([(2,.pt 0 0),(4,.d (.b false)),(5,(dI s.1)),(10,.d (.ls (List.map eTSpan answers_2))),(11,(dI (((answers_2).length:Int)))),(12,(dI s.2))],[some (.var [.d (.b x_1.Out),(dI x_1.Seg),(dI x_1.Lo),(dI x_1.Hi)])])) (((((answers_2).length:Int)) - 0:Int).toNat+1) (x_1.Lo,0) h (fun s=>rfl) (Wk.mk2 [0] 1 rfl rfl (by decide) rfl ⟨rr,trivial⟩ ⟨rr,rr,rr,rr,rr,rr,trivial⟩) ?_
  clear h
  rintro n_8 ⟨at_6,v_7⟩ h
  replace h:M46 x_1 answers_2 M47 (n_8+1) at_6 v_7=some r_3:=h
  rw [M46] at h
  refine sg ?_
  conv=>whnf
  refine Tr.seq ?_
  refine Tr.cond ?_
  conv=>whnf
  refine cB h (fun hb11 h=>?_) (fun hb11 h=>?_)
  ·refine Tr.skip ?_
   conv=>whnf
   refine Tr.seq ?_
   refine Tr.block ?_
   refine sg ?_
   conv=>whnf
   obtain ⟨x_12,hx_12,h⟩:=bS h
   refine ixP_of hx_12 ?_
   conv=>whnf
   refine Tr.seq ?_
   refine Tr.cutQ1 ([(2,.pt 0 0),(4,.d (.b false)),(5,(dI at_6)),(7,.pt 1 0),(10,.d (.ls (List.map eTSpan answers_2))),(11,(dI (((answers_2).length:Int)))),(12,(dI v_7)),(25,.d (.b ((decide (x_12.Lo≤at_6)) && (decide (at_6≤x_12.Hi)))))]) ([some (.var [.d (.b x_1.Out),(dI x_1.Seg),(dI x_1.Lo),(dI x_1.Hi)]),some (.var [(dI x_12.Lo),(dI x_12.Hi)])]) ?_ (fun T1 H1 hw=>?_)
   ·refine rg ?_
    conv=>whnf
    refine condS_mk (fun hb14=>?_) (fun hb14=>?_)
    ·conv=>whnf
     exact Wk.mk2 [0,1] 2 rfl rfl (by decide) rfl ⟨rr,rr,trivial⟩ ⟨rr,rr,rr,rr,rr,rr,rr,⟨rfl,(by first | rfl | (simp only [↓hb11,↓hb14,bl,List.length_set]; done) | (simp only [↓hb11,↓hb14,bl,List.length_set]; rfl))⟩,trivial⟩
    conv=>whnf
    exact Wk.mk2 [0,1] 2 rfl rfl (by decide) rfl ⟨rr,rr,trivial⟩ ⟨rr,rr,rr,rr,rr,rr,rr,⟨rfl,(by first | rfl | (simp only [↓hb11,↓hb14,bl,List.length_set]; done) | (simp only [↓hb11,↓hb14,bl,List.length_set]; rfl))⟩,trivial⟩
   conv=>whnf
   refine Tr.weak hw ?_
   refine Tr.cond ?_
   conv=>whnf
   refine cB h (fun hb15 h=>?_) (fun hb15 h=>?_)
   ·refine Tr.seq ?_
    refine sg ?_
    conv=>whnf
    refine Tr.cond ?_
    conv=>whnf
    refine cB h (fun hb16 h=>?_) (fun hb16 h=>?_)
    ·refine sg ?_
     conv=>whnf
     refine Tr.ret ?_
     conv=>whnf
     cases h
     rfl
    refine Tr.skip ?_
    conv=>whnf
    refine rg ?_
    conv=>whnf
    refine arS_raw ?_
    conv=>whnf
    refine rg ?_
    conv=>whnf
    refine arS_raw ?_
    conv=>whnf
    refine ⟨((w64 (x_12.Hi+1)),(w64 (v_7+1))),h,?_⟩
    exact Wk.mk2 [0] 2 rfl rfl (by decide) rfl ⟨rr,trivial⟩ ⟨rr,rr,rr,rr,rr,rr,trivial⟩
   refine Tr.skip ?_
   conv=>whnf
   refine rg ?_
   conv=>whnf
   refine arS_raw ?_
   conv=>whnf
   refine ⟨(at_6,(w64 (v_7+1))),h,?_⟩
   exact Wk.mk2 [0] 2 rfl rfl (by decide) rfl ⟨rr,trivial⟩ ⟨rr,rr,rr,rr,rr,rr,trivial⟩
  refine Tr.exit ?_
  conv=>whnf
  refine ⟨(),h,?_⟩
  exact Wk.mk2 [] 1 rfl rfl (by decide) rfl trivial ⟨rr,trivial⟩
 clear h
 rintro _ h T1 H1 hw
 replace h:M47 ()=some r_3:=h
 conv=>whnf
 refine Tr.weak hw ?_
 unfold M47 at h
 refine sg ?_
 conv=>whnf
 refine Tr.ret ?_
 conv=>whnf
 cases h
 rfl
theorem P55 (q_1:TQuestion) (r_2:Int) (h:M55 q_1=some r_2) :
    PC prog 15 [(eTQuestion q_1)] (fun rs=>rs=[(.i .i64 r_2)]):=by
 refine PC.of_tr (cx:=⟨119,none,lay,0⟩) layOK func15 rfl rfl rfl rfl rfl (by simp [f15]) ?_
 unfold M55 at h
 refine sg ?_
 conv=>whnf
 refine Tr.seq ?_
 refine Tr.seq ?_
 obtain ⟨v_3,hv4,h⟩:=bS h
 refine Tr.cutQ1 ([(1,.pt 0 0),(2,(dI 0)),(32,.d (.b v_3))]) ([some (.var [.d (.ls (List.map eTSegment q_1.Field.Clocks.Segments)),.d (.ls (List.map (eL eI) q_1.Field.Clocks.Far)),.d (.ls (List.map eTPair q_1.Field.Pairs)),.d (.ls (List.map eTRunner q_1.Field.Runners)),(dI q_1.Runner),.d (.ls (List.map eTLook q_1.Looks))])]) ?_ (fun T1 H1 hw=>?_)
 ·replace h:=hv4; clear hv4
  refine rg ?_
  conv=>whnf
  obtain ⟨r_5,hc6,h⟩:=bS h
  refine PC.ecall (P45 q_1.Field r_5 hc6) (fun rs hrs=>?_)
  subst hrs
  conv=>whnf
  refine cB h (fun hb7 h=>?_) (fun hb7 h=>?_)
  ·conv=>whnf
   cases h
   exact Wk.mk2 [0] 1 rfl rfl (by decide) rfl ⟨rr,trivial⟩ ⟨rr,rr,rr,trivial⟩
  conv=>whnf
  refine cB h (fun hb8 h=>?_) (fun hb8 h=>?_)
  ·conv=>whnf
   cases h
   exact Wk.mk2 [0] 1 rfl rfl (by decide) rfl ⟨rr,trivial⟩ ⟨rr,rr,rr,trivial⟩
  conv=>whnf
  refine lnS_map ?_
  conv=>whnf
  refine cB h (fun hb9 h=>?_) (fun hb9 h=>?_)
  ·conv=>whnf
   cases h
   exact Wk.mk2 [0] 1 rfl rfl (by decide) rfl ⟨rr,trivial⟩ ⟨rr,rr,rr,trivial⟩
  conv=>whnf
  refine lnS_map ?_
  conv=>whnf
  cases h
  exact Wk.mk2 [0] 1 rfl rfl (by decide) rfl ⟨rr,trivial⟩ ⟨rr,rr,rr,trivial⟩
 clear hv4
 conv=>whnf
 refine Tr.weak hw ?_
 refine Tr.cond ?_
 conv=>whnf
 refine cB h (fun hb10 h=>?_) (fun hb10 h=>?_)
 ·refine sg ?_
  conv=>whnf
  refine Tr.ret ?_
  conv=>whnf
  cases h
  rfl
 refine Tr.skip ?_
 conv=>whnf
 refine Tr.seq ?_
 refine sg ?_
 conv=>whnf
 refine lnS_map ?_
 conv=>whnf
 refine Tr.cutQ (α:=Unit) (fun s=>([(2,(dI 0))],[])) (fun s=>M54 s=some r_2) ?_ ?_
 ·refine Tr.block ?_
  refine Tr.loopM (σ:=Int) (fun n s=>M53 q_1 M54 n s) r_2 (fun s=>([(1,.pt 0 0),(2,(dI 0)),(34,.d (.ls (List.map eTLook q_1.Looks))),(35,(dI (((q_1.Looks).length:Int)))),(36,(dI s))],[some (.var [.d (.ls (List.map eTSegment q_1.Field.Clocks.Segments)),.d (.ls (List.map (eL eI) q_1.Field.Clocks.Far)),.d (.ls (List.map eTPair q_1.Field.Pairs)),.d (.ls (List.map eTRunner q_1.Field.Runners)),(dI q_1.Runner),.d (.ls (List.map eTLook q_1.Looks))])])) (((((q_1.Looks).length:Int)) - 0:Int).toNat+1) (0) h (fun s=>rfl) (Wk.mk2 [0] 1 rfl rfl (by decide) rfl ⟨rr,trivial⟩ ⟨rr,rr,rr,rr,rr,trivial⟩) ?_
  clear h
  rintro n_13 v_12 h
  replace h:M53 q_1 M54 (n_13+1) v_12=some r_2:=h
  rw [M53] at h
  refine sg ?_
  conv=>whnf
  refine Tr.seq ?_
  refine Tr.cond ?_
  conv=>whnf
  refine cB h (fun hb16 h=>?_) (fun hb16 h=>?_)
  ·refine Tr.skip ?_
   conv=>whnf
   refine Tr.seq ?_
   refine Tr.block ?_
   refine sg ?_
   conv=>whnf
   obtain ⟨x_17,hx_17,h⟩:=bS h
   refine ixP_of hx_17 ?_
   conv=>whnf
   refine Tr.seq ?_
   refine Tr.seq ?_
   refine Tr.cutQ1 ([(1,.pt 0 0),(2,(dI 0)),(4,.pt 1 0),(34,.d (.ls (List.map eTLook q_1.Looks))),(35,(dI (((q_1.Looks).length:Int)))),(36,(dI v_12)),(63,.d (.b ((decide (x_17.Runner < 0)) || ((decide (x_17.Runner≥(((q_1.Field.Runners).length:Int)))) || ((decide ((((x_17.Answers).length:Int)) < 1)) || (decide ((((x_17.Answers).length:Int)) > 4)))))))]) ([some (.var [.d (.ls (List.map eTSegment q_1.Field.Clocks.Segments)),.d (.ls (List.map (eL eI) q_1.Field.Clocks.Far)),.d (.ls (List.map eTPair q_1.Field.Pairs)),.d (.ls (List.map eTRunner q_1.Field.Runners)),(dI q_1.Runner),.d (.ls (List.map eTLook q_1.Looks))]),some (.var [(dI x_17.Runner),.d (.ls (List.map eTSpan x_17.Answers))])]) ?_ (fun T1 H1 hw=>?_)
   ·refine rg ?_
    conv=>whnf
    refine condS_mk (fun hb19=>?_) (fun hb19=>?_)
    ·conv=>whnf
     exact Wk.mk2 [0,1] 2 rfl rfl (by decide) rfl ⟨rr,rr,trivial⟩ ⟨rr,rr,rr,rr,rr,rr,⟨rfl,(by first | rfl | (simp only [↓hb10,↓hb16,↓hb19,bl,List.length_set]; done) | (simp only [↓hb10,↓hb16,↓hb19,bl,List.length_set]; rfl))⟩,trivial⟩
    conv=>whnf
    refine lnS_map ?_
    conv=>whnf
    refine condS_mk (fun hb20=>?_) (fun hb20=>?_)
    ·conv=>whnf
     exact Wk.mk2 [0,1] 2 rfl rfl (by decide) rfl ⟨rr,rr,trivial⟩ ⟨rr,rr,rr,rr,rr,rr,⟨rfl,(by first | rfl | (simp only [↓hb10,↓hb16,↓hb19,↓hb20,bl,List.length_set]; done) | (simp only [↓hb10,↓hb16,↓hb19,↓hb20,bl,List.length_set]; rfl))⟩,trivial⟩
    conv=>whnf
    refine lnS_map ?_
    conv=>whnf
    refine condS_mk (fun hb21=>?_) (fun hb21=>?_)
    ·conv=>whnf
     exact Wk.mk2 [0,1] 2 rfl rfl (by decide) rfl ⟨rr,rr,trivial⟩ ⟨rr,rr,rr,rr,rr,rr,⟨rfl,(by first | rfl | (simp only [↓hb10,↓hb16,↓hb19,↓hb20,↓hb21,bl,List.length_set]; done) | (simp only [↓hb10,↓hb16,↓hb19,↓hb20,↓hb21,bl,List.length_set]; rfl))⟩,trivial⟩
    conv=>whnf
    refine lnS_map ?_
    conv=>whnf
    exact Wk.mk2 [0,1] 2 rfl rfl (by decide) rfl ⟨rr,rr,trivial⟩ ⟨rr,rr,rr,rr,rr,rr,⟨rfl,(by first | rfl | (simp only [↓hb10,↓hb16,↓hb19,↓hb20,↓hb21,bl,List.length_set]; done) | (simp only [↓hb10,↓hb16,↓hb19,↓hb20,↓hb21,bl,List.length_set]; rfl))⟩,trivial⟩
   conv=>whnf
   refine Tr.weak hw ?_
   refine Tr.cond ?_
   conv=>whnf
   refine cB h (fun hb22 h=>?_) (fun hb22 h=>?_)
   ·refine sg ?_
    conv=>whnf
    refine Tr.ret ?_
    conv=>whnf
    cases h
    rfl
   refine Tr.skip ?_
   conv=>whnf
   refine Tr.seq ?_
   refine sg ?_
   conv=>whnf
   refine lnS_map ?_
   conv=>whnf
   refine Tr.cutQ (α:=Unit) (fun s=>([(1,.pt 0 0),(2,(dI 0)),(4,.pt 1 0),(34,.d (.ls (List.map eTLook q_1.Looks))),(35,(dI (((q_1.Looks).length:Int)))),(36,(dI v_12))],[some (.var [.d (.ls (List.map eTSegment q_1.Field.Clocks.Segments)),.d (.ls (List.map (eL eI) q_1.Field.Clocks.Far)),.d (.ls (List.map eTPair q_1.Field.Pairs)),.d (.ls (List.map eTRunner q_1.Field.Runners)),(dI q_1.Runner),.d (.ls (List.map eTLook q_1.Looks))]),some (.var [(dI x_17.Runner),.d (.ls (List.map eTSpan x_17.Answers))])])) (fun s=>M52 q_1 v_12 (M53 q_1 M54 n_13) x_17 s=some r_2) ?_ ?_
   ·refine Tr.block ?_
    refine Tr.loopM (σ:=Int) (fun n s=>M49 x_17 (M52 q_1 v_12 (M53 q_1 M54 n_13) x_17) n s) r_2 (fun s=>([(1,.pt 0 0),(2,(dI 0)),(4,.pt 1 0),(34,.d (.ls (List.map eTLook q_1.Looks))),(35,(dI (((q_1.Looks).length:Int)))),(36,(dI v_12)),(65,.d (.ls (List.map eTSpan x_17.Answers))),(66,(dI (((x_17.Answers).length:Int)))),(67,(dI s))],[some (.var [.d (.ls (List.map eTSegment q_1.Field.Clocks.Segments)),.d (.ls (List.map (eL eI) q_1.Field.Clocks.Far)),.d (.ls (List.map eTPair q_1.Field.Pairs)),.d (.ls (List.map eTRunner q_1.Field.Runners)),(dI q_1.Runner),.d (.ls (List.map eTLook q_1.Looks))]),some (.var [(dI x_17.Runner),.d (.ls (List.map eTSpan x_17.Answers))])])) (((((x_17.Answers).length:Int)) - 0:Int).toNat+1) (0) h (fun s=>rfl) (Wk.mk2 [0,1] 2 rfl rfl (by decide) rfl ⟨rr,rr,trivial⟩ ⟨rr,rr,rr,rr,rr,rr,rr,rr,rr,trivial⟩) ?_
    clear h
    rintro n_25 v_24 h
    replace h:M49 x_17 (M52 q_1 v_12 (M53 q_1 M54 n_13) x_17) (n_25+1) v_24=some r_2:=h
    rw [M49] at h
    refine sg ?_
    conv=>whnf
    refine Tr.seq ?_
    refine Tr.cond ?_
    conv=>whnf
    refine cB h (fun hb28 h=>?_) (fun hb28 h=>?_)
    ·refine Tr.skip ?_
     conv=>whnf
     refine Tr.seq ?_
     refine Tr.block ?_
     refine sg ?_
     conv=>whnf
     obtain ⟨x_29,hx_29,h⟩:=bS h
     refine ixP_of hx_29 ?_
     conv=>whnf
     refine sd [] [(0,5),(1,5),(2,5),(3,5),(4,1),(5,1),(6,1),(7,1),(8,1),(9,5),(10,5),(11,4),(12,4),(13,1),(14,1),(15,2),(16,2),(17,2),(18,1),(19,1),(20,1)] ?_
     conv=>whnf
     refine q2 ?_
     conv=>whnf
     refine q2 ?_
     conv=>whnf
     refine q2 ?_
     conv=>whnf
     refine q2 ?_
     conv=>whnf
     refine q1 ?_
     conv=>whnf
     refine q1 ?_
     conv=>whnf
     refine cB h (fun hb30 h=>?_) (fun hb30 h=>?_)
     ·conv=>whnf
      refine q1 ?_
      conv=>whnf
      refine Tr.cond ?_
      conv=>whnf
      refine sg ?_
      conv=>whnf
      refine Tr.ret ?_
      conv=>whnf
      cases h
      rfl
     conv=>whnf
     refine q1 ?_
     conv=>whnf
     refine q1 ?_
     conv=>whnf
     refine q1 ?_
     conv=>whnf
     refine cB h (fun hb31 h=>?_) (fun hb31 h=>?_)
     ·conv=>whnf
      refine q2 ?_
      conv=>whnf
      refine q2 ?_
      conv=>whnf
      refine q2 ?_
      conv=>whnf
      refine q2 ?_
      conv=>whnf
      refine q1 ?_
      conv=>whnf
      refine q4 ?_
      conv=>whnf
      obtain ⟨x_32,hx_32,h⟩:=bS h
      refine q3 (ixP_of hx_32 rr) ?_
      conv=>whnf
      refine q2 ?_
      conv=>whnf
      refine q2 ?_
      conv=>whnf
      refine q1 ?_
      conv=>whnf
      refine q1 ?_
      conv=>whnf
      refine q1 ?_
      conv=>whnf
      refine Tr.cond ?_
      conv=>whnf
      refine cB h (fun hb33 h=>?_) (fun hb33 h=>?_)
      ·refine sg ?_
       conv=>whnf
       refine Tr.ret ?_
       conv=>whnf
       cases h
       rfl
      refine Tr.skip ?_
      conv=>whnf
      refine rg ?_
      conv=>whnf
      refine arS_raw ?_
      conv=>whnf
      refine ⟨((w64 (v_24+1))),h,?_⟩
      exact Wk.mk2 [0,1] 3 rfl rfl (by decide) rfl ⟨rr,rr,trivial⟩ ⟨rr,rr,rr,rr,rr,rr,rr,rr,rr,trivial⟩
     conv=>whnf
     refine q1 ?_
     conv=>whnf
     refine q1 ?_
     conv=>whnf
     refine Tr.cond ?_
     conv=>whnf
     refine Tr.skip ?_
     conv=>whnf
     refine rg ?_
     conv=>whnf
     refine arS_raw ?_
     conv=>whnf
     refine ⟨((w64 (v_24+1))),h,?_⟩
     exact Wk.mk2 [0,1] 3 rfl rfl (by decide) rfl ⟨rr,rr,trivial⟩ ⟨rr,rr,rr,rr,rr,rr,rr,rr,rr,trivial⟩
    refine Tr.exit ?_
    conv=>whnf
    refine ⟨(),h,?_⟩
    exact Wk.mk2 [0,1] 2 rfl rfl (by decide) rfl ⟨rr,rr,trivial⟩ ⟨rr,rr,rr,rr,rr,rr,trivial⟩
   clear h
   rintro _ h T1 H1 hw
   replace h:M52 q_1 v_12 (M53 q_1 M54 n_13) x_17 ()=some r_2:=h
   conv=>whnf
   refine Tr.weak hw ?_
   unfold M52 at h
   refine sg ?_
   conv=>whnf
   obtain ⟨x_34,hx_34,h⟩:=bS h
   refine ixP_of hx_34 ?_
   conv=>whnf
   obtain ⟨r_35,hc36,h⟩:=bS h
   refine PC.ecall (P28 x_34.Worlds r_35 hc36) (fun rs hrs=>?_)
   subst hrs
   conv=>whnf
   refine lnS_map ?_
   conv=>whnf
   refine Tr.cutQ (α:=Unit) (fun s=>([(1,.pt 0 0),(2,(dI 0)),(34,.d (.ls (List.map eTLook q_1.Looks))),(35,(dI (((q_1.Looks).length:Int)))),(36,(dI v_12))],[some (.var [.d (.ls (List.map eTSegment q_1.Field.Clocks.Segments)),.d (.ls (List.map (eL eI) q_1.Field.Clocks.Far)),.d (.ls (List.map eTPair q_1.Field.Pairs)),.d (.ls (List.map eTRunner q_1.Field.Runners)),(dI q_1.Runner),.d (.ls (List.map eTLook q_1.Looks))])])) (fun s=>M51 v_12 (M53 q_1 M54 n_13) s=some r_2) ?_ ?_
   ·refine Tr.block ?_
    refine Tr.loopM (σ:=Int) (fun n s=>M50 x_17 r_35 (M51 v_12 (M53 q_1 M54 n_13)) n s) r_2 (fun s=>([(1,.pt 0 0),(2,(dI 0)),(4,.pt 1 0),(34,.d (.ls (List.map eTLook q_1.Looks))),(35,(dI (((q_1.Looks).length:Int)))),(36,(dI v_12)),(102,.d (.ls (List.map eTOutcome r_35))),(103,(dI (((r_35).length:Int)))),(104,(dI s))],[some (.var [.d (.ls (List.map eTSegment q_1.Field.Clocks.Segments)),.d (.ls (List.map (eL eI) q_1.Field.Clocks.Far)),.d (.ls (List.map eTPair q_1.Field.Pairs)),.d (.ls (List.map eTRunner q_1.Field.Runners)),(dI q_1.Runner),.d (.ls (List.map eTLook q_1.Looks))]),some (.var [(dI x_17.Runner),.d (.ls (List.map eTSpan x_17.Answers))])])) (((((r_35).length:Int)) - 0:Int).toNat+1) (0) h (fun s=>rfl) (Wk.mk2 [0,1] 2 rfl rfl (by decide) rfl ⟨rr,rr,trivial⟩ ⟨rr,rr,rr,rr,rr,rr,rr,rr,rr,trivial⟩) ?_
    clear h
    rintro n_39 v_38 h
    replace h:M50 x_17 r_35 (M51 v_12 (M53 q_1 M54 n_13)) (n_39+1) v_38=some r_2:=h
    rw [M50] at h
    refine sg ?_
    conv=>whnf
    refine Tr.seq ?_
    refine Tr.cond ?_
    conv=>whnf
    refine cB h (fun hb42 h=>?_) (fun hb42 h=>?_)
    ·refine Tr.skip ?_
     conv=>whnf
     refine Tr.seq ?_
     refine Tr.block ?_
     refine sg ?_
     conv=>whnf
     obtain ⟨x_43,hx_43,h⟩:=bS h
     refine ixP_of hx_43 ?_
     conv=>whnf
     refine sg ?_
     conv=>whnf
     refine cB h (fun hb44 h=>?_) (fun hb44 h=>?_)
     ·conv=>whnf
      refine Tr.cond ?_
      conv=>whnf
      refine sg ?_
      conv=>whnf
      refine Tr.ret ?_
      conv=>whnf
      cases h
      rfl
     conv=>whnf
     obtain ⟨r_45,hc46,h⟩:=bS h
     refine PC.ecall (P48 x_43 x_17.Answers r_45 hc46) (fun rs hrs=>?_)
     subst hrs
     conv=>whnf
     refine Tr.cond ?_
     conv=>whnf
     refine cB h (fun hb47 h=>?_) (fun hb47 h=>?_)
     ·refine sg ?_
      conv=>whnf
      refine Tr.ret ?_
      conv=>whnf
      cases h
      rfl
     refine Tr.skip ?_
     conv=>whnf
     refine rg ?_
     conv=>whnf
     refine arS_raw ?_
     conv=>whnf
     refine ⟨((w64 (v_38+1))),h,?_⟩
     exact Wk.mk2 [0,1] 3 rfl rfl (by decide) rfl ⟨rr,rr,trivial⟩ ⟨rr,rr,rr,rr,rr,rr,rr,rr,rr,trivial⟩
    refine Tr.exit ?_
    conv=>whnf
    refine ⟨(),h,?_⟩
    exact Wk.mk2 [0] 2 rfl rfl (by decide) rfl ⟨rr,trivial⟩ ⟨rr,rr,rr,rr,rr,trivial⟩
   clear h
   rintro _ h T1 H1 hw
   replace h:M51 v_12 (M53 q_1 M54 n_13) ()=some r_2:=h
   conv=>whnf
   refine Tr.weak hw ?_
   unfold M51 at h
   refine rg ?_
   conv=>whnf
   refine arS_raw ?_
   conv=>whnf
   refine ⟨((w64 (v_12+1))),h,?_⟩
   exact Wk.mk2 [0] 1 rfl rfl (by decide) rfl ⟨rr,trivial⟩ ⟨rr,rr,rr,rr,rr,trivial⟩
  refine Tr.exit ?_
  conv=>whnf
  refine ⟨(),h,?_⟩
  exact Wk.mk2 [] 1 rfl rfl (by decide) rfl trivial ⟨rr,trivial⟩
 clear h
 rintro _ h T1 H1 hw
 replace h:M54 ()=some r_2:=h
 conv=>whnf
 refine Tr.weak hw ?_
 unfold M54 at h
 refine sg ?_
 conv=>whnf
 refine Tr.ret ?_
 conv=>whnf
 cases h
 rfl
theorem P56 (s_1:List TRunner) (r_2:List TRunner) (h:M56 s_1=some r_2) :
    PC prog 66 [(.ls (List.map eTRunner s_1))] (fun rs=>rs=[(.ls (List.map eTRunner r_2))]):=by
 refine PC.of_tr (cx:=⟨8,none,lay,0⟩) layOK func66 rfl rfl rfl rfl rfl (by simp [f66]) ?_
 unfold M56 at h
 refine sg ?_
 conv=>whnf
 refine Tr.seq ?_
 refine sg ?_
 conv=>whnf
 intro nb_3 hnb_3
 cases nb_3
 ·conv=>whnf
  refine Tr.cond ?_
  conv=>whnf
  refine Tr.skip ?_
  conv=>whnf
  refine sg ?_
  conv=>whnf
  refine orB_l ?_
  conv=>whnf
  refine frP_no ?_
  conv=>whnf
  refine eqS_mk (by first | rfl | simp) ?_
  conv=>whnf
  obtain ⟨l_4,hl_4,h⟩:=bS h
  refine apS_of hl_4 (aQ (f:=eTRunner) (l:=s_1) fun _=>rfl) (by first | rfl | simp) (by first | rfl | simp) (fun he=>?_)
  conv=>whnf
  refine rS (es':=List.map .d (List.map eTRunner l_4)) (n':=List.length l_4) (by subst he; simp only [List.map_append,List.map_cons,List.map_nil,List.nil_append]; first | done | rfl) (by subst he; simp <;> omega) ?_
  clear he
  conv=>whnf
  refine Tr.ret ?_
  conv=>whnf
  refine frE_of (f:=eTRunner) (l:=l_4) rfl ?_
  conv=>whnf
  cases h
  rfl
 replace hnb_3:s_1=[]:=by simpa using hnb_3 rfl
 subst hnb_3
 replace h:(some (([]:List TRunner)))=some r_2:=by simpa [app] using h
 conv=>whnf
 refine Tr.cond ?_
 conv=>whnf
 refine sg ?_
 conv=>whnf
 refine Tr.ret ?_
 conv=>whnf
 cases h
 rfl
theorem n_slices_Clone_Runner_Runner (s_1:List TRunner) (r_2:List TRunner) (h:M56 s_1=some r_2) :
    NC prog 66 [(.ls (List.map eTRunner s_1))] 3 (fun es=>es=List.map eTRunner r_2):=by
 unfold NC
 refine ECall.of_tr (cx:=⟨8,none,lay,0⟩) layOK func66 rfl rfl rfl rfl rfl (by simp [f66]) ?_
 unfold M56 at h
 refine sg ?_
 conv=>whnf
 refine Tr.seq ?_
 refine sg ?_
 conv=>whnf
 intro nb_3 hnb_3
 cases nb_3
 ·conv=>whnf
  refine Tr.cond ?_
  conv=>whnf
  refine Tr.skip ?_
  conv=>whnf
  refine sg ?_
  conv=>whnf
  refine orB_l ?_
  conv=>whnf
  refine frP_no ?_
  conv=>whnf
  refine eqS_mk (by first | rfl | simp) ?_
  conv=>whnf
  obtain ⟨l_4,hl_4,h⟩:=bS h
  refine apS_of hl_4 (aQ (f:=eTRunner) (l:=s_1) fun _=>rfl) (by first | rfl | simp) (by first | rfl | simp) (fun he=>?_)
  conv=>whnf
  refine rS (es':=List.map .d (List.map eTRunner l_4)) (n':=List.length l_4) (by subst he; simp only [List.map_append,List.map_cons,List.map_nil,List.nil_append]; first | done | rfl) (by subst he; simp <;> omega) ?_
  clear he
  conv=>whnf
  refine Tr.ret ?_
  conv=>whnf
  cases h
  exact ⟨1,List.map eTRunner r_2,by rw [List.length_map]; rfl,rfl,rfl⟩
 replace hnb_3:s_1=[]:=by simpa using hnb_3 rfl
 subst hnb_3
 replace h:(some (([]:List TRunner)))=some r_2:=by simpa [app] using h
 conv=>whnf
 refine Tr.cond ?_
 conv=>whnf
 refine sg ?_
 conv=>whnf
 refine Tr.nslT 2 3 ?_
 conv=>whnf
 refine Tr.ret ?_
 conv=>whnf
 cases h
 exact ⟨_,[],rfl,rfl,rfl⟩
theorem P57 (r_1:TRunner) (c_2:Int) (r_3:Bool) (h:M57 r_1 c_2=some r_3) :
    PC prog 68 [(eTRunner r_1),(.ro [(.i .i64 c_2)])] (fun rs=>rs=[(.b r_3)]):=by
 refine PC.of_tr (cx:=⟨11,none,lay,0⟩) layOK func68 rfl rfl rfl rfl rfl (by simp [f68]) ?_
 unfold M57 at h
 refine sg ?_
 conv=>whnf
 refine sg ?_
 conv=>whnf
 obtain ⟨x_4,hx_4,h⟩:=bS h
 refine ixP_of hx_4 ?_
 conv=>whnf
 refine lnS_map ?_
 conv=>whnf
 refine Tr.ret ?_
 conv=>whnf
 cases h
 rfl
theorem P60 (s_1:List TRunner) (c_2:Int) (r_3:Int) (h:M60 s_1 c_2=some r_3) :
    PC prog 103 [(.ls (List.map eTRunner s_1)),(.fn 68 [(.ro [(.i .i64 c_2)])])] (fun rs=>rs=[(.i .i64 r_3)]):=by
 refine PC.of_tr (cx:=⟨19,none,lay,0⟩) layOK func103 rfl rfl rfl rfl rfl (by simp [f103]) ?_
 unfold M60 at h
 refine sg ?_
 conv=>whnf
 refine Tr.seq ?_
 refine sg ?_
 conv=>whnf
 refine lnS_map ?_
 conv=>whnf
 refine Tr.cutQ (α:=Unit) (fun s=>([(4,(dI 0))],[])) (fun s=>M59 s=some r_3) ?_ ?_
 ·refine Tr.block ?_
  refine Tr.loopM (σ:=Int) (fun n s=>M58 s_1 c_2 M59 n s) r_3 (fun s=>([(0,.d (.ls (List.map eTRunner s_1))),(1,.d (.fn 68 [(.ro [(.i .i64 c_2)])])),(4,(dI 0)),(7,(dI (((s_1).length:Int)))),(8,(dI s))],[])) (((((s_1).length:Int)) - 0:Int).toNat+1) (0) h (fun s=>rfl) (Wk.mk2 [] 0 rfl rfl (by decide) rfl trivial ⟨rr,rr,rr,rr,rr,trivial⟩) ?_
  clear h
  rintro n_6 v_5 h
  replace h:M58 s_1 c_2 M59 (n_6+1) v_5=some r_3:=h
  rw [M58] at h
  refine sg ?_
  conv=>whnf
  refine Tr.seq ?_
  refine Tr.cond ?_
  conv=>whnf
  refine cB h (fun hb9 h=>?_) (fun hb9 h=>?_)
  ·refine Tr.skip ?_
   conv=>whnf
   refine Tr.seq ?_
   refine Tr.block ?_
   refine sg ?_
   conv=>whnf
   refine sg ?_
   conv=>whnf
   obtain ⟨x_10,hx_10,h⟩:=bS h
   refine ixP_of hx_10 ?_
   conv=>whnf
   obtain ⟨r_11,hc12,h⟩:=bS h
   refine PC.ecall (P57 x_10 c_2 r_11 hc12) (fun rs hrs=>?_)
   subst hrs
   conv=>whnf
   refine Tr.cond ?_
   conv=>whnf
   refine cB h (fun hb13 h=>?_) (fun hb13 h=>?_)
   ·refine sg ?_
    conv=>whnf
    refine Tr.ret ?_
    conv=>whnf
    cases h
    rfl
   refine Tr.skip ?_
   conv=>whnf
   refine rg ?_
   conv=>whnf
   refine arS_raw ?_
   conv=>whnf
   refine ⟨((w64 (v_5+1))),h,?_⟩
   exact Wk.mk2 [] 0 rfl rfl (by decide) rfl trivial ⟨rr,rr,rr,rr,rr,trivial⟩
  refine Tr.exit ?_
  conv=>whnf
  refine ⟨(),h,?_⟩
  exact Wk.mk2 [] 0 rfl rfl (by decide) rfl trivial ⟨rr,trivial⟩
 clear h
 rintro _ h T1 H1 hw
 replace h:M59 ()=some r_3:=h
 conv=>whnf
 refine Tr.weak hw ?_
 unfold M59 at h
 refine sg ?_
 conv=>whnf
 refine Tr.ret ?_
 conv=>whnf
 cases h
 rfl
theorem P61 (s_1:List TRunner) (c_2:Int) (r_3:Bool) (h:M61 s_1 c_2=some r_3) :
    PC prog 67 [(.ls (List.map eTRunner s_1)),(.fn 68 [(.ro [(.i .i64 c_2)])])] (fun rs=>rs=[(.b r_3)]):=by
 refine PC.of_tr (cx:=⟨9,none,lay,0⟩) layOK func67 rfl rfl rfl rfl rfl (by simp [f67]) ?_
 unfold M61 at h
 refine sg ?_
 conv=>whnf
 refine sg ?_
 conv=>whnf
 obtain ⟨r_4,hc5,h⟩:=bS h
 refine PC.ecall (P60 s_1 c_2 r_4 hc5) (fun rs hrs=>?_)
 subst hrs
 conv=>whnf
 refine Tr.ret ?_
 conv=>whnf
 cases h
 rfl
theorem P66 (q_1:TQuestion) (x_2:TLook) (answer_3:TSpan) (r_4:TQuestion) (r_5:Bool) (h:M66 q_1 x_2 answer_3=some (r_4,r_5)) :
    PC prog 34 [(eTQuestion q_1),(eTLook x_2),(eTSpan answer_3)] (fun rs=>rs=[(eTQuestion r_4),(.b r_5)]):=by
 refine PC.of_tr (cx:=⟨91,none,lay,0⟩) layOK func34 rfl rfl rfl rfl rfl (by simp [f34]) ?_
 unfold M66 at h
 refine sg ?_
 conv=>whnf
 refine sg ?_
 conv=>whnf
 obtain ⟨l_6,hl_6,h⟩:=bS h
 refine NC.ecall (n_slices_Clone_Runner_Runner q_1.Field.Runners l_6 hl_6) (es':=List.map .d (List.map eTRunner l_6)) (n':=List.length l_6) rfl (fun es he=>by subst he; exact ⟨rfl,by simp⟩) ?_
 conv=>whnf
 refine orB_l ?_
 conv=>whnf
 refine sg ?_
 conv=>whnf
 obtain ⟨x_7,hx_7,h⟩:=bS h
 refine ixS_of hx_7 rfl ?_
 conv=>whnf
 refine sg ?_
 conv=>whnf
 refine Tr.seq ?_
 refine sg ?_
 conv=>whnf
 refine elP_of hx_7 ?_
 conv=>whnf
 refine lnS_map ?_
 conv=>whnf
 obtain ⟨l_13,hv32,h⟩:=bS h
 refine Tr.cutQ1 ([(3,.pt 0 0),(6,.pt 1 0),(7,.d (.b false)),(8,.pe 2 3 (0+Int.toNat x_2.Runner) 0),(9,.sl 3 1 0 (List.length l_13))]) ([some (.var [.d (.ls (List.map eTSegment q_1.Field.Clocks.Segments)),.d (.ls (List.map (eL eI) q_1.Field.Clocks.Far)),.d (.ls (List.map eTPair q_1.Field.Pairs)),.sl 2 3 0 (List.length l_6),(dI q_1.Runner),.d (.ls (List.map eTLook q_1.Looks))]),some (.var [.nsl,.nsl,.nsl,.nsl,(dI 0),.nsl]),some (.arr 3 (List.map .d (List.map eTRunner l_6))),some (.arr 1 (List.map .d (List.map (eL eTOutcome) l_13)))]) ?_ (fun T1 H1 hw=>?_)
 ·replace h:=hv32; clear hv32
  refine Tr.block ?_
  refine Tr.loopM (σ:=Int × List (List TOutcome)) (fun n s=>M63 answer_3 x_7 n s.1 s.2) l_13 (fun s=>([(3,.pt 0 0),(5,.pt 1 0),(6,.pt 2 0),(7,.d (.b false)),(8,.pe 3 3 (0+Int.toNat x_2.Runner) 0),(9,.sl 4 1 0 (List.length s.2)),(31,.d (.ls (List.map (eL eTOutcome) x_7.Worlds))),(32,(dI (((x_7.Worlds).length:Int)))),(33,(dI s.1))],[some (.var [.d (.ls (List.map eTSegment q_1.Field.Clocks.Segments)),.d (.ls (List.map (eL eI) q_1.Field.Clocks.Far)),.d (.ls (List.map eTPair q_1.Field.Pairs)),.sl 3 3 0 (List.length l_6),(dI q_1.Runner),.d (.ls (List.map eTLook q_1.Looks))]),some (.var [(dI answer_3.Lo),(dI answer_3.Hi)]),some (.var [.nsl,.nsl,.nsl,.nsl,(dI 0),.nsl]),some (.arr 3 (List.map .d (List.map eTRunner l_6))),some (.arr 1 (List.map .d (List.map (eL eTOutcome) s.2)))])) (((((x_7.Worlds).length:Int)) - 0:Int).toNat+1) (0,(([]:List (List TOutcome)))) h (fun s=>rfl) (Wk.mk2 [0,2,3,4,5] 5 rfl rfl (by decide) rfl ⟨⟨rfl,(by first | rfl | (simp only [List.length_set]; rfl) | simp)⟩,rr,rr,daS_d rfl,rfl,trivial⟩ ⟨rr,⟨rfl,(by first | rfl | (simp only [List.length_set]; rfl) | simp)⟩,⟨rfl,(by first | rfl | (simp only [List.length_set]; rfl) | simp)⟩,rr,⟨rfl,(by first | rfl | (simp only [List.length_set]; rfl) | simp)⟩,⟨rfl,(by first | rfl | (simp only [List.length_set]; rfl) | simp)⟩,rr,rr,rr,trivial⟩) ?_
  clear h
  rintro n_12 ⟨v_10,l_11⟩ h
  replace h:M63 answer_3 x_7 (n_12+1) v_10 l_11=some l_13:=h
  rw [M63] at h
  refine sg ?_
  conv=>whnf
  refine Tr.seq ?_
  refine Tr.cond ?_
  conv=>whnf
  refine cB h (fun hb16 h=>?_) (fun hb16 h=>?_)
  ·refine Tr.skip ?_
   conv=>whnf
   refine Tr.seq ?_
   refine Tr.block ?_
   refine sg ?_
   conv=>whnf
   obtain ⟨x_17,hx_17,h⟩:=bS h
   refine ixP_of hx_17 ?_
   conv=>whnf
   refine sg ?_
   conv=>whnf
   refine Tr.seq ?_
   refine sg ?_
   conv=>whnf
   refine lnS_map ?_
   conv=>whnf
   obtain ⟨l_23,hv30,h⟩:=bS h
   refine Tr.cutQ1 ([(3,.pt 0 0),(5,.pt 1 0),(6,.pt 2 0),(7,.d (.b false)),(8,.pe 3 3 (0+Int.toNat x_2.Runner) 0),(9,.sl 4 1 0 (List.length l_11)),(12,.sl 5 4 0 (List.length l_23)),(31,.d (.ls (List.map (eL eTOutcome) x_7.Worlds))),(32,(dI (((x_7.Worlds).length:Int)))),(33,(dI v_10))]) ([some (.var [.d (.ls (List.map eTSegment q_1.Field.Clocks.Segments)),.d (.ls (List.map (eL eI) q_1.Field.Clocks.Far)),.d (.ls (List.map eTPair q_1.Field.Pairs)),.sl 3 3 0 (List.length l_6),(dI q_1.Runner),.d (.ls (List.map eTLook q_1.Looks))]),some (.var [(dI answer_3.Lo),(dI answer_3.Hi)]),some (.var [.nsl,.nsl,.nsl,.nsl,(dI 0),.nsl]),some (.arr 3 (List.map .d (List.map eTRunner l_6))),some (.arr 1 (List.map .d (List.map (eL eTOutcome) l_11))),some (.arr 4 (List.map .d (List.map eTOutcome l_23)))]) ?_ (fun T1 H1 hw=>?_)
   ·replace h:=hv30; clear hv30
    refine Tr.block ?_
    refine Tr.loopM (σ:=Int × List TOutcome) (fun n s=>M62 answer_3 x_17 n s.1 s.2) l_23 (fun s=>([(3,.pt 0 0),(5,.pt 1 0),(6,.pt 2 0),(7,.d (.b false)),(8,.pe 3 3 (0+Int.toNat x_2.Runner) 0),(9,.sl 4 1 0 (List.length l_11)),(12,.sl 5 4 0 (List.length s.2)),(31,.d (.ls (List.map (eL eTOutcome) x_7.Worlds))),(32,(dI (((x_7.Worlds).length:Int)))),(33,(dI v_10)),(37,.d (.ls (List.map eTOutcome x_17))),(38,(dI (((x_17).length:Int)))),(39,(dI s.1))],[some (.var [.d (.ls (List.map eTSegment q_1.Field.Clocks.Segments)),.d (.ls (List.map (eL eI) q_1.Field.Clocks.Far)),.d (.ls (List.map eTPair q_1.Field.Pairs)),.sl 3 3 0 (List.length l_6),(dI q_1.Runner),.d (.ls (List.map eTLook q_1.Looks))]),some (.var [(dI answer_3.Lo),(dI answer_3.Hi)]),some (.var [.nsl,.nsl,.nsl,.nsl,(dI 0),.nsl]),some (.arr 3 (List.map .d (List.map eTRunner l_6))),some (.arr 1 (List.map .d (List.map (eL eTOutcome) l_11))),some (.arr 4 (List.map .d (List.map eTOutcome s.2)))])) (((((x_17).length:Int)) - 0:Int).toNat+1) (0,(([]:List TOutcome))) h (fun s=>rfl) (Wk.mk2 [0,1,2,3,4,5] 5 rfl rfl (by decide) rfl ⟨rr,rr,rr,daS_d rfl,daS_d rfl,rfl,trivial⟩ ⟨rr,rr,rr,rr,rr,rr,⟨rfl,(by first | rfl | (simp only [↓hb16,bl,List.length_set]; done) | (simp only [↓hb16,bl,List.length_set]; rfl))⟩,rr,rr,rr,rr,rr,rr,trivial⟩) ?_
    clear h
    rintro n_22 ⟨v_20,l_21⟩ h
    replace h:M62 answer_3 x_17 (n_22+1) v_20 l_21=some l_23:=h
    rw [M62] at h
    refine sg ?_
    conv=>whnf
    refine Tr.seq ?_
    refine Tr.cond ?_
    conv=>whnf
    refine cB h (fun hb26 h=>?_) (fun hb26 h=>?_)
    ·refine Tr.skip ?_
     conv=>whnf
     refine Tr.seq ?_
     refine Tr.block ?_
     refine sg ?_
     conv=>whnf
     obtain ⟨x_27,hx_27,h⟩:=bS h
     refine ixP_of hx_27 ?_
     conv=>whnf
     refine sd [(11,6),(13,6)] [(0,9),(1,9),(2,4),(3,4),(4,1),(5,9),(6,9),(7,4),(8,4),(9,1),(10,9),(11,0),(12,9),(13,0)] ?_
     conv=>whnf
     refine q2 ?_
     conv=>whnf
     refine q2 ?_
     conv=>whnf
     refine q2 ?_
     conv=>whnf
     refine q2 ?_
     conv=>whnf
     refine q1 ?_
     conv=>whnf
     refine q2 ?_
     conv=>whnf
     refine q2 ?_
     conv=>whnf
     refine q2 ?_
     conv=>whnf
     refine q2 ?_
     conv=>whnf
     refine q1 ?_
     conv=>whnf
     refine q2 ?_
     conv=>whnf
     refine ⟨_,_,rr,kp_ok (by repeat (first | exact trivial | refine ⟨trivial,?_⟩ | refine ⟨rfl,?_⟩)),?_⟩
     conv=>whnf
     refine q2 ?_
     conv=>whnf
     refine ⟨_,_,rr,kp_ok (by repeat (first | exact trivial | refine ⟨trivial,?_⟩ | refine ⟨rfl,?_⟩)),?_⟩
     conv=>whnf
     refine sg ?_
     conv=>whnf
     refine Tr.cond ?_
     conv=>whnf
     refine cB h (fun hb28 h=>?_) (fun hb28 h=>?_)
     ·refine rg ?_
      conv=>whnf
      refine orB_r ?_
      conv=>whnf
      refine frP_no ?_
      conv=>whnf
      refine eqS_mk (by first | rfl | simp) ?_
      conv=>whnf
      obtain ⟨l_29,hl_29,h⟩:=bS h
      refine apS_of hl_29 (aQ (f:=eTOutcome) (l:=(([({ Out:=x_27.Out,Seg:=x_27.Seg,Lo:=(maxG x_27.Lo answer_3.Lo),Hi:=(minG x_27.Hi answer_3.Hi) }:TOutcome)]:List TOutcome))) fun _=>rfl) (by first | rfl | simp) (by first | rfl | simp) (fun he=>?_)
      conv=>whnf
      refine rS (es':=List.map .d (List.map eTOutcome l_29)) (n':=List.length l_29) (by subst he; simp only [List.map_append,List.map_cons,List.map_nil,List.nil_append]; first | done | rfl) (by subst he; simp <;> omega) ?_
      clear he
      conv=>whnf
      refine rg ?_
      conv=>whnf
      refine arS_raw ?_
      conv=>whnf
      refine ⟨((w64 (v_20+1)),l_29),h,?_⟩
      exact Wk.mk2 [0,1,2,3,4,7] 8 rfl rfl (by decide) rfl ⟨rr,rr,rr,daS_d rfl,daS_d rfl,daS_d rfl,trivial⟩ ⟨rr,rr,rr,rr,rr,rr,⟨rfl,(by first | rfl | (simp only [↓hb16,↓hb26,↓hb28,bl,List.length_set]; done) | (simp only [↓hb16,↓hb26,↓hb28,bl,List.length_set]; rfl))⟩,rr,rr,rr,rr,rr,rr,trivial⟩
     refine Tr.skip ?_
     conv=>whnf
     refine rg ?_
     conv=>whnf
     refine arS_raw ?_
     conv=>whnf
     refine ⟨((w64 (v_20+1)),l_21),h,?_⟩
     exact Wk.mk2 [0,1,2,3,4,5] 7 rfl rfl (by decide) rfl ⟨rr,rr,rr,daS_d rfl,daS_d rfl,daS_d rfl,trivial⟩ ⟨rr,rr,rr,rr,rr,rr,rr,rr,rr,rr,rr,rr,rr,trivial⟩
    refine Tr.exit ?_
    conv=>whnf
    cases h
    exact Wk.mk2 [0,1,2,3,4,5] 6 rfl rfl (by decide) rfl ⟨rr,rr,rr,daS_d rfl,daS_d rfl,daS_d rfl,trivial⟩ ⟨rr,rr,rr,rr,rr,rr,rr,rr,rr,rr,trivial⟩
   clear hv30
   conv=>whnf
   refine Tr.weak hw ?_
   refine rg ?_
   conv=>whnf
   refine orB_r ?_
   conv=>whnf
   refine frE_of (f:=eTOutcome) (l:=l_23) rfl ?_
   conv=>whnf
   refine frP_no ?_
   conv=>whnf
   refine eqS_mk (by first | rfl | simp) ?_
   conv=>whnf
   obtain ⟨l_31,hl_31,h⟩:=bS h
   refine apS_of hl_31 (aQ (f:=(eL eTOutcome)) (l:=(([l_23]:List (List TOutcome)))) fun _=>rfl) (by first | rfl | simp) (by first | rfl | simp) (fun he=>?_)
   conv=>whnf
   refine rS (es':=List.map .d (List.map (eL eTOutcome) l_31)) (n':=List.length l_31) (by subst he; simp only [List.map_append,List.map_cons,List.map_nil,List.nil_append]; first | done | rfl) (by subst he; simp <;> omega) ?_
   clear he
   conv=>whnf
   refine rg ?_
   conv=>whnf
   refine arS_raw ?_
   conv=>whnf
   refine ⟨((w64 (v_10+1)),l_31),h,?_⟩
   exact Wk.mk2 [0,1,2,3,6] 7 rfl rfl (by decide) rfl ⟨rr,rr,rr,daS_d rfl,daS_d rfl,trivial⟩ ⟨rr,rr,rr,rr,rr,⟨rfl,(by first | rfl | (simp only [↓hb16,bl,List.length_set]; done) | (simp only [↓hb16,bl,List.length_set]; rfl))⟩,rr,rr,rr,trivial⟩
  refine Tr.exit ?_
  conv=>whnf
  cases h
  exact Wk.mk2 [0,2,3,4] 5 rfl rfl (by decide) rfl ⟨⟨rfl,(by first | rfl | (simp only [↓hb16,bl,List.length_set]; done) | (simp only [↓hb16,bl,List.length_set]; rfl))⟩,rr,daS_d rfl,daS_d rfl,trivial⟩ ⟨rr,⟨rfl,(by first | rfl | (simp only [↓hb16,bl,List.length_set]; done) | (simp only [↓hb16,bl,List.length_set]; rfl))⟩,rr,⟨rfl,(by first | rfl | (simp only [↓hb16,bl,List.length_set]; done) | (simp only [↓hb16,bl,List.length_set]; rfl))⟩,⟨rfl,(by first | rfl | (simp only [↓hb16,bl,List.length_set]; done) | (simp only [↓hb16,bl,List.length_set]; rfl))⟩,trivial⟩
 clear hv32
 conv=>whnf
 refine Tr.weak hw ?_
 refine sg ?_
 conv=>whnf
 refine orB_r ?_
 conv=>whnf
 refine frE_of (f:=(eL eTOutcome)) (l:=l_13) rfl ?_
 conv=>whnf
 refine elP_of hx_7 ?_
 conv=>whnf
 refine lvS_mk (es':=List.map .d (List.map eTRunner (List.set l_6 (Int.toNat x_2.Runner) ({ Bib:=x_7.Bib,Keys:=x_7.Keys,Worlds:=l_13 }:TRunner)))) (by simp only [Nat.zero_add,List.map_set]; first | done | rfl) ?_
 conv=>whnf
 refine Tr.seq ?_
 refine sg ?_
 conv=>whnf
 refine lnS_map ?_
 conv=>whnf
 refine arS_raw ?_
 conv=>whnf
 refine Tr.cutQ (α:=Unit) (fun s=>([(6,.pt 0 0),(7,.d (.b false))],[some (.var [.nsl,.nsl,.nsl,.nsl,(dI 0),.nsl])])) (fun s=>M65 s=some (r_4,r_5)) ?_ ?_
 ·refine Tr.block ?_
  refine Tr.loopM (σ:=Int) (fun n s=>M64 q_1 x_2 l_6 x_7 l_13 M65 n s) (r_4,r_5) (fun s=>([(3,.pt 0 0),(6,.pt 1 0),(7,.d (.b false)),(78,(dI (w64 ((((q_1.Field.Pairs).length:Int))+1)))),(79,(dI s))],[some (.var [.d (.ls (List.map eTSegment q_1.Field.Clocks.Segments)),.d (.ls (List.map (eL eI) q_1.Field.Clocks.Far)),.d (.ls (List.map eTPair q_1.Field.Pairs)),.sl 2 3 0 (List.length (List.set l_6 (Int.toNat x_2.Runner) ({ Bib:=x_7.Bib,Keys:=x_7.Keys,Worlds:=l_13 }:TRunner))),(dI q_1.Runner),.d (.ls (List.map eTLook q_1.Looks))]),some (.var [.nsl,.nsl,.nsl,.nsl,(dI 0),.nsl]),some (.arr 3 (List.map .d (List.map eTRunner (List.set l_6 (Int.toNat x_2.Runner) ({ Bib:=x_7.Bib,Keys:=x_7.Keys,Worlds:=l_13 }:TRunner)))))])) (((w64 ((((q_1.Field.Pairs).length:Int))+1)) - 0:Int).toNat+1) (0) h (fun s=>rfl) (Wk.mk2 [0,1,2] 4 rfl rfl (by decide) rfl ⟨⟨rfl,(by first | rfl | (simp only [List.length_set]; rfl) | simp)⟩,rr,daS_d rfl,trivial⟩ ⟨rr,rr,rr,rr,rr,trivial⟩) ?_
  clear h
  rintro n_35 v_34 h
  replace h:M64 q_1 x_2 l_6 x_7 l_13 M65 (n_35+1) v_34=some (r_4,r_5):=h
  rw [M64] at h
  refine sg ?_
  conv=>whnf
  refine Tr.seq ?_
  refine Tr.cond ?_
  conv=>whnf
  refine cB h (fun hb38 h=>?_) (fun hb38 h=>?_)
  ·refine Tr.skip ?_
   conv=>whnf
   refine Tr.seq ?_
   refine Tr.block ?_
   refine sg ?_
   conv=>whnf
   refine sg ?_
   conv=>whnf
   obtain ⟨r_39,hc40,h⟩:=bS h
   refine PC.ecall_lend ?_ ⟨_,_,func67,rfl,rfl⟩
   conv=>whnf
   refine frE_of (f:=eTRunner) (l:=(List.set l_6 (Int.toNat x_2.Runner) ({ Bib:=x_7.Bib,Keys:=x_7.Keys,Worlds:=l_13 }:TRunner))) rfl ?_
   conv=>whnf
   refine ⟨_,P61 ((List.set l_6 (Int.toNat x_2.Runner) ({ Bib:=x_7.Bib,Keys:=x_7.Keys,Worlds:=l_13 }:TRunner))) v_34 r_39 hc40,fun rs hrs=>?_⟩
   subst hrs
   refine ⟨rfl,?_⟩
   conv=>whnf
   refine Tr.cond ?_
   conv=>whnf
   refine cB h (fun hb41 h=>?_) (fun hb41 h=>?_)
   ·refine sg ?_
    conv=>whnf
    refine orB_l ?_
    conv=>whnf
    refine Tr.ret ?_
    conv=>whnf
    refine frE_of (f:=eTRunner) (l:=(List.set l_6 (Int.toNat x_2.Runner) ({ Bib:=x_7.Bib,Keys:=x_7.Keys,Worlds:=l_13 }:TRunner))) rfl ?_
    conv=>whnf
    cases h
    rfl
   refine Tr.skip ?_
   conv=>whnf
   refine rg ?_
   conv=>whnf
   refine arS_raw ?_
   conv=>whnf
   refine ⟨((w64 (v_34+1))),h,?_⟩
   exact Wk.mk2 [0,1,2] 4 rfl rfl (by decide) rfl ⟨rr,rr,daS_d rfl,trivial⟩ ⟨rr,rr,rr,rr,rr,trivial⟩
  refine Tr.exit ?_
  conv=>whnf
  refine ⟨(),h,?_⟩
  exact Wk.mk2 [1] 3 rfl rfl (by decide) rfl ⟨rr,trivial⟩ ⟨⟨rfl,(by first | rfl | (simp only [↓hb38,bl,List.length_set]; done) | (simp only [↓hb38,bl,List.length_set]; rfl))⟩,rr,trivial⟩
 clear h
 rintro _ h T1 H1 hw
 replace h:M65 ()=some (r_4,r_5):=h
 conv=>whnf
 refine Tr.weak hw ?_
 unfold M65 at h
 refine sg ?_
 conv=>whnf
 refine orB_l ?_
 conv=>whnf
 refine Tr.ret ?_
 conv=>whnf
 cases h
 rfl
theorem P67 (q_1:TQuestion) (look_2:Int) (answer_3:Int) (r_4:TQuestion) (r_5:Int) (h:M67 q_1 look_2 answer_3=some (r_4,r_5)) :
    PC prog 12 [(eTQuestion q_1),(.i .i64 look_2),(.i .i64 answer_3)] (fun rs=>rs=[(eTQuestion r_4),(.i .i64 r_5)]):=by
 refine PC.of_tr (cx:=⟨64,none,lay,0⟩) layOK func12 rfl rfl rfl rfl rfl (by simp [f12]) ?_
 unfold M67 at h
 refine sg ?_
 conv=>whnf
 refine Tr.seq ?_
 refine sg ?_
 conv=>whnf
 obtain ⟨r_6,hc7,h⟩:=bS h
 refine PC.ecall (P55 q_1 r_6 hc7) (fun rs hrs=>?_)
 subst hrs
 conv=>whnf
 refine sg ?_
 conv=>whnf
 refine Tr.cond ?_
 conv=>whnf
 refine cB h (fun hb8 h=>?_) (fun hb8 h=>?_)
 ·refine sg ?_
  conv=>whnf
  refine orB_l ?_
  conv=>whnf
  refine Tr.ret ?_
  conv=>whnf
  cases h
  rfl
 refine Tr.skip ?_
 conv=>whnf
 refine Tr.seq ?_
 refine Tr.seq ?_
 obtain ⟨v_9,hv10,h⟩:=bS h
 refine Tr.cutQ1 ([(1,(dI look_2)),(2,(dI answer_3)),(3,.pt 0 0),(6,.pt 1 0),(7,(dI 0)),(39,.d (.b v_9))]) ([some (.var [.d (.ls (List.map eTSegment q_1.Field.Clocks.Segments)),.d (.ls (List.map (eL eI) q_1.Field.Clocks.Far)),.d (.ls (List.map eTPair q_1.Field.Pairs)),.d (.ls (List.map eTRunner q_1.Field.Runners)),(dI q_1.Runner),.d (.ls (List.map eTLook q_1.Looks))]),some (.var [.nsl,.nsl,.nsl,.nsl,(dI 0),.nsl])]) ?_ (fun T1 H1 hw=>?_)
 ·replace h:=hv10; clear hv10
  refine rg ?_
  conv=>whnf
  refine cB h (fun hb11 h=>?_) (fun hb11 h=>?_)
  ·conv=>whnf
   cases h
   exact Wk.mk2 [0,1] 2 rfl rfl (by decide) rfl ⟨rr,rr,trivial⟩ ⟨rr,rr,rr,rr,rr,rr,trivial⟩
  conv=>whnf
  refine lnS_map ?_
  conv=>whnf
  refine cB h (fun hb12 h=>?_) (fun hb12 h=>?_)
  ·conv=>whnf
   cases h
   exact Wk.mk2 [0,1] 2 rfl rfl (by decide) rfl ⟨rr,rr,trivial⟩ ⟨rr,rr,rr,rr,rr,rr,trivial⟩
  conv=>whnf
  refine cB h (fun hb13 h=>?_) (fun hb13 h=>?_)
  ·conv=>whnf
   cases h
   exact Wk.mk2 [0,1] 2 rfl rfl (by decide) rfl ⟨rr,rr,trivial⟩ ⟨rr,rr,rr,rr,rr,rr,trivial⟩
  conv=>whnf
  obtain ⟨x_14,hx_14,h⟩:=bS h
  refine ixP_of hx_14 ?_
  conv=>whnf
  refine lnS_map ?_
  conv=>whnf
  cases h
  exact Wk.mk2 [0,1] 2 rfl rfl (by decide) rfl ⟨rr,rr,trivial⟩ ⟨rr,rr,rr,rr,rr,rr,trivial⟩
 clear hv10
 conv=>whnf
 refine Tr.weak hw ?_
 refine Tr.cond ?_
 conv=>whnf
 refine cB h (fun hb15 h=>?_) (fun hb15 h=>?_)
 ·refine sg ?_
  conv=>whnf
  refine orB_l ?_
  conv=>whnf
  refine Tr.ret ?_
  conv=>whnf
  cases h
  rfl
 refine Tr.skip ?_
 conv=>whnf
 refine sd [(19,1)] [(0,3),(1,3),(2,3),(3,1),(4,2),(5,2),(6,3),(7,3),(8,1),(9,2),(10,2),(11,2),(12,1),(13,2),(14,2),(15,1),(16,1),(17,1),(18,1),(19,0),(20,1)] ?_
 conv=>whnf
 refine q2 ?_
 conv=>whnf
 refine q2 ?_
 conv=>whnf
 refine q2 ?_
 conv=>whnf
 refine q1 ?_
 conv=>whnf
 obtain ⟨x_16,hx_16,h⟩:=bS h
 refine q3 (ixP_of hx_16 rr) ?_
 conv=>whnf
 refine q2 ?_
 conv=>whnf
 refine q2 ?_
 conv=>whnf
 refine q2 ?_
 conv=>whnf
 refine q1 ?_
 conv=>whnf
 obtain ⟨x_17,hx_17,h⟩:=bS h
 refine q3 (ixP_of hx_17 rr) ?_
 conv=>whnf
 refine q2 ?_
 conv=>whnf
 refine q2 ?_
 conv=>whnf
 refine q1 ?_
 conv=>whnf
 obtain ⟨x_18,hx_18,h⟩:=bS h
 refine q3 (ixP_of hx_18 rr) ?_
 conv=>whnf
 refine q2 ?_
 conv=>whnf
 obtain ⟨⟨r_19,r_20⟩,hc21,h⟩:=bS h
 refine q1 ?_ (fun _=>pe (P66 q_1 x_16 x_18 r_19 r_20 hc21) rr)
 conv=>whnf
 refine q1 ?_
 conv=>whnf
 refine q1 ?_
 conv=>whnf
 refine q1 ?_
 conv=>whnf
 refine ⟨_,_,rr,kp_ok (by repeat (first | exact trivial | refine ⟨trivial,?_⟩ | refine ⟨rfl,?_⟩)),?_⟩
 conv=>whnf
 refine q1 ?_
 conv=>whnf
 refine Tr.seq ?_
 refine sg ?_
 conv=>whnf
 refine Tr.cond ?_
 conv=>whnf
 refine cB h (fun hb22 h=>?_) (fun hb22 h=>?_)
 ·refine sg ?_
  conv=>whnf
  refine orB_l ?_
  conv=>whnf
  refine Tr.ret ?_
  conv=>whnf
  cases h
  rfl
 refine Tr.skip ?_
 conv=>whnf
 refine sg ?_
 conv=>whnf
 refine Tr.ret ?_
 conv=>whnf
 cases h
 rfl
theorem P70 (f_1:TField) (runners_2:List Int) (r_3:Int) (h:M70 f_1 runners_2=some r_3) :
    PC prog 60 [(eTField f_1),(.ls (List.map eI runners_2))] (fun rs=>rs=[(.i .i64 r_3)]):=by
 refine PC.of_tr (cx:=⟨26,none,lay,0⟩) layOK func60 rfl rfl rfl rfl rfl (by simp [f60]) ?_
 unfold M70 at h
 refine sg ?_
 conv=>whnf
 refine Tr.seq ?_
 refine sg ?_
 conv=>whnf
 obtain ⟨r_4,hc5,h⟩:=bS h
 refine PC.ecall (P45 f_1 r_4 hc5) (fun rs hrs=>?_)
 subst hrs
 conv=>whnf
 refine Tr.cond ?_
 conv=>whnf
 refine cB h (fun hb6 h=>?_) (fun hb6 h=>?_)
 ·refine sg ?_
  conv=>whnf
  refine Tr.ret ?_
  conv=>whnf
  cases h
  rfl
 refine Tr.skip ?_
 conv=>whnf
 refine Tr.seq ?_
 refine sg ?_
 conv=>whnf
 refine lnS_map ?_
 conv=>whnf
 refine Tr.cutQ (α:=Unit) (fun s=>([(4,(dI 0))],[])) (fun s=>M69 s=some r_3) ?_ ?_
 ·refine Tr.block ?_
  refine Tr.loopM (σ:=Int) (fun n s=>M68 f_1 runners_2 M69 n s) r_3 (fun s=>([(2,.pt 0 0),(4,(dI 0)),(10,.d (.ls (List.map eI runners_2))),(11,(dI (((runners_2).length:Int)))),(12,(dI s))],[some (.var [.d (.ls (List.map eTSegment f_1.Clocks.Segments)),.d (.ls (List.map (eL eI) f_1.Clocks.Far)),.d (.ls (List.map eTPair f_1.Pairs)),.d (.ls (List.map eTRunner f_1.Runners))])])) (((((runners_2).length:Int)) - 0:Int).toNat+1) (0) h (fun s=>rfl) (Wk.mk2 [0] 1 rfl rfl (by decide) rfl ⟨rr,trivial⟩ ⟨rr,rr,rr,rr,rr,trivial⟩) ?_
  clear h
  rintro n_9 v_8 h
  replace h:M68 f_1 runners_2 M69 (n_9+1) v_8=some r_3:=h
  rw [M68] at h
  refine sg ?_
  conv=>whnf
  refine Tr.seq ?_
  refine Tr.cond ?_
  conv=>whnf
  refine cB h (fun hb12 h=>?_) (fun hb12 h=>?_)
  ·refine Tr.skip ?_
   conv=>whnf
   refine Tr.seq ?_
   refine Tr.block ?_
   refine sg ?_
   conv=>whnf
   obtain ⟨x_13,hx_13,h⟩:=bS h
   refine ixP_of hx_13 ?_
   conv=>whnf
   refine sg ?_
   conv=>whnf
   refine cB h (fun hb14 h=>?_) (fun hb14 h=>?_)
   ·conv=>whnf
    refine Tr.cond ?_
    conv=>whnf
    refine sg ?_
    conv=>whnf
    refine Tr.ret ?_
    conv=>whnf
    cases h
    rfl
   conv=>whnf
   refine lnS_map ?_
   conv=>whnf
   refine Tr.cond ?_
   conv=>whnf
   refine cB h (fun hb15 h=>?_) (fun hb15 h=>?_)
   ·refine sg ?_
    conv=>whnf
    refine Tr.ret ?_
    conv=>whnf
    cases h
    rfl
   refine Tr.skip ?_
   conv=>whnf
   refine rg ?_
   conv=>whnf
   refine arS_raw ?_
   conv=>whnf
   refine ⟨((w64 (v_8+1))),h,?_⟩
   exact Wk.mk2 [0] 1 rfl rfl (by decide) rfl ⟨rr,trivial⟩ ⟨rr,rr,rr,rr,rr,trivial⟩
  refine Tr.exit ?_
  conv=>whnf
  refine ⟨(),h,?_⟩
  exact Wk.mk2 [] 1 rfl rfl (by decide) rfl trivial ⟨rr,trivial⟩
 clear h
 rintro _ h T1 H1 hw
 replace h:M69 ()=some r_3:=h
 conv=>whnf
 refine Tr.weak hw ?_
 unfold M69 at h
 refine sg ?_
 conv=>whnf
 refine Tr.ret ?_
 conv=>whnf
 cases h
 rfl
end Go.Proofs.Try
