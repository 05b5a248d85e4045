/- Contracts of functions, by program (gen.py). No condition. -/
import Derived.Test.YtobjgfhbhhcfeaaZL
import Derived.Test.YtobjgfhbhhcfeaaZM
import Derived.Test.YtobjgfhbhhcfeaaZCB
import Derived.Test.YtobjgfhbhhcfeaaZS2
namespace Go.Proofs.Try
open Go Go.Abs Go.Stop
set_option maxRecDepth 8000
set_option linter.unusedVariables false
set_option linter.unusedSimpArgs false
theorem P71 (f_1:TField) (c_2:List TSegment) (c_3:List (List Int)) (c_4:List TPair) (c_5:List TRunner) (h:M71 f_1=some (c_2,c_3,c_4,c_5)) :
    PC prog 91 [(eTField f_1)] (fun rs=>rs=[(.fn 112 [(.ro [(.ls (List.map eTSegment c_2)),(.ls (List.map (eL eI) c_3)),(.ls (List.map eTPair c_4)),(.ls (List.map eTRunner c_5))])])]):=by
 refine PC.of_tr (cx:=⟨4,none,lay,0⟩) layOK func91 rfl rfl rfl rfl rfl (by simp [f91]) ?_
 unfold M71 at h
 refine sg ?_
 conv=>whnf
 refine sg ?_
 conv=>whnf
 refine Tr.ret ?_
 conv=>whnf
 cases h
 rfl
theorem P72 (r_1:TRunner) (c_2:Int) (r_3:Bool) (h:M72 r_1 c_2=some r_3) :
    PC prog 113 [(eTRunner r_1),(.ro [(.i .i64 c_2)])] (fun rs=>rs=[(.b r_3)]):=by
 refine PC.of_tr (cx:=⟨11,none,lay,0⟩) layOK func113 rfl rfl rfl rfl rfl (by simp [f113]) ?_
 unfold M72 at h
 refine sg ?_
 conv=>whnf
 refine sg ?_
 conv=>whnf
 obtain ⟨x_4,hx_4,h⟩:=bS h
 refine ixP_of hx_4 ?_
 conv=>whnf
 refine lnS_map ?_
 conv=>whnf
 refine Tr.ret ?_
 conv=>whnf
 cases h
 rfl
theorem P75 (s_1:List TRunner) (c_2:Int) (r_3:Int) (h:M75 s_1 c_2=some r_3) :
    PC prog 103 [(.ls (List.map eTRunner s_1)),(.fn 113 [(.ro [(.i .i64 c_2)])])] (fun rs=>rs=[(.i .i64 r_3)]):=by
 refine PC.of_tr (cx:=⟨19,none,lay,0⟩) layOK func103 rfl rfl rfl rfl rfl (by simp [f103]) ?_
 unfold M75 at h
 refine sg ?_
 conv=>whnf
 refine Tr.seq ?_
 refine sg ?_
 conv=>whnf
 refine lnS_map ?_
 conv=>whnf
 refine Tr.cutQ (α:=Unit) (fun s=>([(4,(dI 0))],[])) (fun s=>M74 s=some r_3) ?_ ?_
 ·refine Tr.block ?_
  refine Tr.loopM (σ:=Int) (fun n s=>M73 s_1 c_2 M74 n s) r_3 (fun s=>([(0,.d (.ls (List.map eTRunner s_1))),(1,.d (.fn 113 [(.ro [(.i .i64 c_2)])])),(4,(dI 0)),(7,(dI (((s_1).length:Int)))),(8,(dI s))],[])) (((((s_1).length:Int)) - 0:Int).toNat+1) (0) h (fun s=>rfl) (Wk.mk2 [] 0 rfl rfl (by decide) rfl trivial ⟨rr,rr,rr,rr,rr,trivial⟩) ?_
  clear h
  rintro n_6 v_5 h
  replace h:M73 s_1 c_2 M74 (n_6+1) v_5=some r_3:=h
  rw [M73] at h
  refine sg ?_
  conv=>whnf
  refine Tr.seq ?_
  refine Tr.cond ?_
  conv=>whnf
  refine cB h (fun hb9 h=>?_) (fun hb9 h=>?_)
  ·refine Tr.skip ?_
   conv=>whnf
   refine Tr.seq ?_
   refine Tr.block ?_
   refine sg ?_
   conv=>whnf
   refine sg ?_
   conv=>whnf
   obtain ⟨x_10,hx_10,h⟩:=bS h
   refine ixP_of hx_10 ?_
   conv=>whnf
   obtain ⟨r_11,hc12,h⟩:=bS h
   refine PC.ecall (P72 x_10 c_2 r_11 hc12) (fun rs hrs=>?_)
   subst hrs
   conv=>whnf
   refine Tr.cond ?_
   conv=>whnf
   refine cB h (fun hb13 h=>?_) (fun hb13 h=>?_)
   ·refine sg ?_
    conv=>whnf
    refine Tr.ret ?_
    conv=>whnf
    cases h
    rfl
   refine Tr.skip ?_
   conv=>whnf
   refine rg ?_
   conv=>whnf
   refine arS_raw ?_
   conv=>whnf
   refine ⟨((w64 (v_5+1))),h,?_⟩
   exact Wk.mk2 [] 0 rfl rfl (by decide) rfl trivial ⟨rr,rr,rr,rr,rr,trivial⟩
  refine Tr.exit ?_
  conv=>whnf
  refine ⟨(),h,?_⟩
  exact Wk.mk2 [] 0 rfl rfl (by decide) rfl trivial ⟨rr,trivial⟩
 clear h
 rintro _ h T1 H1 hw
 replace h:M74 ()=some r_3:=h
 conv=>whnf
 refine Tr.weak hw ?_
 unfold M74 at h
 refine sg ?_
 conv=>whnf
 refine Tr.ret ?_
 conv=>whnf
 cases h
 rfl
theorem P76 (s_1:List TRunner) (c_2:Int) (r_3:Bool) (h:M76 s_1 c_2=some r_3) :
    PC prog 67 [(.ls (List.map eTRunner s_1)),(.fn 113 [(.ro [(.i .i64 c_2)])])] (fun rs=>rs=[(.b r_3)]):=by
 refine PC.of_tr (cx:=⟨9,none,lay,0⟩) layOK func67 rfl rfl rfl rfl rfl (by simp [f67]) ?_
 unfold M76 at h
 refine sg ?_
 conv=>whnf
 refine sg ?_
 conv=>whnf
 obtain ⟨r_4,hc5,h⟩:=bS h
 refine PC.ecall (P75 s_1 c_2 r_4 hc5) (fun rs hrs=>?_)
 subst hrs
 conv=>whnf
 refine Tr.ret ?_
 conv=>whnf
 cases h
 rfl
theorem P79 (c_1:List TSegment) (c_2:List (List Int)) (c_3:List TPair) (c_4:List TRunner) (ys:List Int) (h:M79 c_1 c_2 c_3 c_4=some ys) (xs:YL) (hx:Rem xs (fun a=>[(.i .i64 a)]) 0 ys) :
    ItC prog 112 [(.ro [(.ls (List.map eTSegment c_1)),(.ls (List.map (eL eI) c_2)),(.ls (List.map eTPair c_3)),(.ls (List.map eTRunner c_4))])] xs:=by
 refine ItC.of_tr (cx:=⟨25,none,lay,0⟩) (hx:=hx) func112 rfl rfl rfl (by simp [f112]) rfl (fun l hx=>?_)
 unfold M79 at h
 refine TrY.seq ?_
 refine TrY.region layOK ?_
 conv=>whnf
 refine lnS_map ?_
 conv=>whnf
 refine arS_raw ?_
 conv=>whnf
 refine TrY.block ?_
 refine TrY.loopM (σ:=Int) (fun n s=>M77 c_3 c_4 M78 n s) _ (fun s=>([(0,.yl l),(1,.d (.ro [(.ls (List.map eTSegment c_1)),(.ls (List.map (eL eI) c_2)),(.ls (List.map eTPair c_3)),(.ls (List.map eTRunner c_4))])),(8,(dI (w64 ((((c_3).length:Int))+1)))),(9,(dI s))],[])) (((w64 ((((c_3).length:Int))+1)) - 0:Int).toNat+1) (0) h (fun s=>rfl) hx (Wk.mk2 [] 0 rfl rfl (by decide) rfl trivial ⟨rr,rr,rr,rr,trivial⟩) ?_
 clear h hx
 rintro n_7 v_6 i_15 ys_16 h hx
 replace h:M77 c_3 c_4 M78 (n_7+1) v_6=some ys_16:=h
 rw [M77] at h
 refine TrY.seq ?_
 refine TrY.region layOK ?_
 conv=>whnf
 refine TrY.seq ?_
 refine TrY.cond ?_
 conv=>whnf
 refine cB h (fun hb10 h=>?_) (fun hb10 h=>?_)
 ·refine TrY.skip ?_
  conv=>whnf
  refine TrY.seq ?_
  refine TrY.block ?_
  refine TrY.seq ?_
  refine TrY.region layOK ?_
  conv=>whnf
  refine TrY.seq ?_
  refine TrY.region layOK ?_
  conv=>whnf
  refine TrY.seq ?_
  refine TrY.region layOK ?_
  conv=>whnf
  obtain ⟨r_11,hc12,h⟩:=bS h
  refine PC.ecall_lend ?_ ⟨_,_,func67,rfl,rfl⟩
  conv=>whnf
  refine ⟨_,P76 c_4 v_6 r_11 hc12,fun rs hrs=>?_⟩
  subst hrs
  refine ⟨rfl,?_⟩
  conv=>whnf
  refine cB h (fun hb13 h=>?_) (fun hb13 h=>?_)
  ·conv=>whnf
   obtain ⟨l_14,h_14,e_14⟩:=bS h
   clear h
   cases e_14
   have h:=h_14
   clear h_14
   refine ylS_of hx rfl (fun gb_14 h1_14 h2_14=>?_)
   cases gb_14
   ·have hend_14:=h2_14 rfl
    clear h1_14 h2_14 h hx
    conv=>whnf
    refine ⟨rfl,?_⟩
    conv=>whnf
    refine TrY.cond ?_
    conv=>whnf
    refine TrY.ret ?_
    conv=>whnf
    exact hend_14
   replace hx:=h1_14 rfl
   clear h1_14 h2_14
   conv=>whnf
   refine ⟨rfl,?_⟩
   conv=>whnf
   refine TrY.cond ?_
   conv=>whnf
   refine TrY.skip ?_
   conv=>whnf
   refine TrY.region layOK ?_
   conv=>whnf
   refine arS_raw ?_
   conv=>whnf
   refine ⟨((w64 (v_6+1))),_,h,hx,?_⟩
   exact Wk.mk2 [] 0 rfl rfl (by decide) rfl trivial ⟨rr,rr,rr,rr,trivial⟩
  conv=>whnf
  refine TrY.cond ?_
  conv=>whnf
  refine TrY.skip ?_
  conv=>whnf
  refine TrY.region layOK ?_
  conv=>whnf
  refine arS_raw ?_
  conv=>whnf
  refine ⟨((w64 (v_6+1))),_,h,hx,?_⟩
  exact Wk.mk2 [] 1 rfl rfl (by decide) rfl trivial ⟨rr,rr,rr,rr,trivial⟩
 refine TrY.exit ?_
 conv=>whnf
 unfold M78 at h
 cases h
 exact Rem.done hx
theorem P80 (x_1:TOutcome) (r_2:Bool) (h:M80 x_1=some r_2) :
    PC prog 93 [(eTOutcome x_1)] (fun rs=>rs=[(.b r_2)]):=by
 refine PC.of_tr (cx:=⟨5,none,lay,0⟩) layOK func93 rfl rfl rfl rfl rfl (by simp [f93]) ?_
 unfold M80 at h
 refine sg ?_
 conv=>whnf
 refine sg ?_
 conv=>whnf
 refine Tr.ret ?_
 conv=>whnf
 cases h
 rfl
theorem P83 (s_1:List TOutcome) (r_2:Int) (h:M83 s_1=some r_2) :
    PC prog 114 [(.ls (List.map eTOutcome s_1)),(.fn 93 [])] (fun rs=>rs=[(.i .i64 r_2)]):=by
 refine PC.of_tr (cx:=⟨19,none,lay,0⟩) layOK func114 rfl rfl rfl rfl rfl (by simp [f114]) ?_
 unfold M83 at h
 refine sg ?_
 conv=>whnf
 refine Tr.seq ?_
 refine sg ?_
 conv=>whnf
 refine lnS_map ?_
 conv=>whnf
 refine Tr.cutQ (α:=Unit) (fun s=>([(4,(dI 0))],[])) (fun s=>M82 s=some r_2) ?_ ?_
 ·refine Tr.block ?_
  refine Tr.loopM (σ:=Int) (fun n s=>M81 s_1 M82 n s) r_2 (fun s=>([(0,.d (.ls (List.map eTOutcome s_1))),(1,.d (.fn 93 [])),(4,(dI 0)),(7,(dI (((s_1).length:Int)))),(8,(dI s))],[])) (((((s_1).length:Int)) - 0:Int).toNat+1) (0) h (fun s=>rfl) (Wk.mk2 [] 0 rfl rfl (by decide) rfl trivial ⟨rr,rr,rr,rr,rr,trivial⟩) ?_
  clear h
  rintro n_5 v_4 h
  replace h:M81 s_1 M82 (n_5+1) v_4=some r_2:=h
  rw [M81] at h
  refine sg ?_
  conv=>whnf
  refine Tr.seq ?_
  refine Tr.cond ?_
  conv=>whnf
  refine cB h (fun hb8 h=>?_) (fun hb8 h=>?_)
  ·refine Tr.skip ?_
   conv=>whnf
   refine Tr.seq ?_
   refine Tr.block ?_
   refine sg ?_
   conv=>whnf
   refine sg ?_
   conv=>whnf
   obtain ⟨x_9,hx_9,h⟩:=bS h
   refine ixP_of hx_9 ?_
   conv=>whnf
   obtain ⟨r_10,hc11,h⟩:=bS h
   refine PC.ecall (P80 x_9 r_10 hc11) (fun rs hrs=>?_)
   subst hrs
   conv=>whnf
   refine Tr.cond ?_
   conv=>whnf
   refine cB h (fun hb12 h=>?_) (fun hb12 h=>?_)
   ·refine sg ?_
    conv=>whnf
    refine Tr.ret ?_
    conv=>whnf
    cases h
    rfl
   refine Tr.skip ?_
   conv=>whnf
   refine rg ?_
   conv=>whnf
   refine arS_raw ?_
   conv=>whnf
   refine ⟨((w64 (v_4+1))),h,?_⟩
   exact Wk.mk2 [] 0 rfl rfl (by decide) rfl trivial ⟨rr,rr,rr,rr,rr,trivial⟩
  refine Tr.exit ?_
  conv=>whnf
  refine ⟨(),h,?_⟩
  exact Wk.mk2 [] 0 rfl rfl (by decide) rfl trivial ⟨rr,trivial⟩
 clear h
 rintro _ h T1 H1 hw
 replace h:M82 ()=some r_2:=h
 conv=>whnf
 refine Tr.weak hw ?_
 unfold M82 at h
 refine sg ?_
 conv=>whnf
 refine Tr.ret ?_
 conv=>whnf
 cases h
 rfl
theorem P84 (s_1:List TOutcome) (r_2:Bool) (h:M84 s_1=some r_2) :
    PC prog 92 [(.ls (List.map eTOutcome s_1)),(.fn 93 [])] (fun rs=>rs=[(.b r_2)]):=by
 refine PC.of_tr (cx:=⟨9,none,lay,0⟩) layOK func92 rfl rfl rfl rfl rfl (by simp [f92]) ?_
 unfold M84 at h
 refine sg ?_
 conv=>whnf
 refine sg ?_
 conv=>whnf
 obtain ⟨r_3,hc4,h⟩:=bS h
 refine PC.ecall (P83 s_1 r_3 hc4) (fun rs hrs=>?_)
 subst hrs
 conv=>whnf
 refine Tr.ret ?_
 conv=>whnf
 cases h
 rfl
theorem P85 (h:M85=some ()) :
    PC prog 94 [] (fun rs=>rs=[(.ag [(.fn 115 []),(.fn 116 []),(.fn 117 []),(.fn 118 [])])]):=by
 refine PC.of_tr (cx:=⟨2,none,lay,0⟩) layOK func94 rfl rfl rfl rfl rfl (by simp [f94]) ?_
 unfold M85 at h
 refine sg ?_
 conv=>whnf
 refine sg ?_
 conv=>whnf
 refine Tr.ret ?_
 conv=>whnf
theorem P86 (n_1:Int) (m_2:Int) (r_3:Bool) (h:M86 n_1 m_2=some r_3) :
    PC prog 118 [(.i .i64 n_1),(.i .i64 m_2)] (fun rs=>rs=[(.b r_3)]):=by
 refine PC.of_tr (cx:=⟨8,none,lay,0⟩) layOK func118 rfl rfl rfl rfl rfl (by simp [f118]) ?_
 unfold M86 at h
 refine sg ?_
 conv=>whnf
 refine sg ?_
 conv=>whnf
 refine Tr.ret ?_
 conv=>whnf
 cases h
 rfl
theorem P87 (x_1:TOutcome) (r_2:Int) (h:M87 x_1=some r_2) :
    PC prog 116 [(eTOutcome x_1)] (fun rs=>rs=[(.i .i64 r_2)]):=by
 refine PC.of_tr (cx:=⟨5,none,lay,0⟩) layOK func116 rfl rfl rfl rfl rfl (by simp [f116]) ?_
 unfold M87 at h
 refine sg ?_
 conv=>whnf
 refine sg ?_
 conv=>whnf
 refine Tr.ret ?_
 conv=>whnf
 cases h
 rfl
theorem P88 (far_1:List (List Int)) (a_2:Int) (b_3:Int) (r_4:Int) (h:M88 far_1 a_2 b_3=some r_4) :
    PC prog 117 [(.ls (List.map (eL eI) far_1)),(.i .i64 a_2),(.i .i64 b_3)] (fun rs=>rs=[(.i .i64 r_4)]):=by
 refine PC.of_tr (cx:=⟨14,none,lay,0⟩) layOK func117 rfl rfl rfl rfl rfl (by simp [f117]) ?_
 unfold M88 at h
 refine sg ?_
 conv=>whnf
 refine sg ?_
 conv=>whnf
 obtain ⟨x_5,hx_5,h⟩:=bS h
 refine ixP_of hx_5 ?_
 conv=>whnf
 obtain ⟨x_6,hx_6,h⟩:=bS h
 refine ixP_of hx_6 ?_
 conv=>whnf
 refine Tr.ret ?_
 conv=>whnf
 cases h
 rfl
theorem P89 (x_1:TOutcome) (r_2:Int) (h:M89 x_1=some r_2) :
    PC prog 115 [(eTOutcome x_1)] (fun rs=>rs=[(.i .i64 r_2)]):=by
 refine PC.of_tr (cx:=⟨5,none,lay,0⟩) layOK func115 rfl rfl rfl rfl rfl (by simp [f115]) ?_
 unfold M89 at h
 refine sg ?_
 conv=>whnf
 refine sg ?_
 conv=>whnf
 refine Tr.ret ?_
 conv=>whnf
 cases h
 rfl
theorem P92 (s_1:List Int) (s_2:List Int) (r_3:Int) (h:M92 s_1 s_2=some r_3) :
    PC prog 90 [(.ls (List.map eI s_1)),(.ls (List.map eI s_2))] (fun rs=>rs=[(.i .i64 r_3)]):=by
 refine PC.of_tr (cx:=⟨36,none,lay,0⟩) layOK func90 rfl rfl rfl rfl rfl (by simp [f90]) ?_
 unfold M92 at h
 refine sg ?_
 conv=>whnf
 refine Tr.seq ?_
 refine sg ?_
 conv=>whnf
 refine lnS_map ?_
 conv=>whnf
 refine Tr.cutQ (α:=Unit) (fun s=>([(0,.d (.ls (List.map eI s_1))),(1,.d (.ls (List.map eI s_2))),(4,(dI 0))],[])) (fun s=>M91 s_1 s_2 s=some r_3) ?_ ?_
 ·refine Tr.block ?_
  refine Tr.loopM (σ:=Int) (fun n s=>M90 s_1 s_2 (M91 s_1 s_2) n s) r_3 (fun s=>([(0,.d (.ls (List.map eI s_1))),(1,.d (.ls (List.map eI s_2))),(4,(dI 0)),(9,.d (.ls (List.map eI s_1))),(10,(dI (((s_1).length:Int)))),(11,(dI s))],[])) (((((s_1).length:Int)) - 0:Int).toNat+1) (0) h (fun s=>rfl) (Wk.mk2 [] 0 rfl rfl (by decide) rfl trivial ⟨rr,rr,rr,rr,rr,rr,trivial⟩) ?_
  clear h
  rintro n_6 v_5 h
  replace h:M90 s_1 s_2 (M91 s_1 s_2) (n_6+1) v_5=some r_3:=h
  rw [M90] at h
  refine sg ?_
  conv=>whnf
  refine Tr.seq ?_
  refine Tr.cond ?_
  conv=>whnf
  refine cB h (fun hb9 h=>?_) (fun hb9 h=>?_)
  ·refine Tr.skip ?_
   conv=>whnf
   refine Tr.seq ?_
   refine Tr.block ?_
   refine sg ?_
   conv=>whnf
   obtain ⟨x_10,hx_10,h⟩:=bS h
   refine ixP_of hx_10 ?_
   conv=>whnf
   refine Tr.seq ?_
   refine sg ?_
   conv=>whnf
   refine lnS_map ?_
   conv=>whnf
   refine Tr.cond ?_
   conv=>whnf
   refine cB h (fun hb11 h=>?_) (fun hb11 h=>?_)
   ·refine sg ?_
    conv=>whnf
    refine Tr.ret ?_
    conv=>whnf
    cases h
    rfl
   refine Tr.skip ?_
   conv=>whnf
   refine sg ?_
   conv=>whnf
   obtain ⟨x_12,hx_12,h⟩:=bS h
   refine ixP_of hx_12 ?_
   conv=>whnf
   refine sg ?_
   conv=>whnf
   obtain ⟨r_13,hc14,h⟩:=bS h
   refine PC.ecall (P3 x_10 x_12 r_13 hc14) (fun rs hrs=>?_)
   subst hrs
   conv=>whnf
   refine sg ?_
   conv=>whnf
   refine Tr.cond ?_
   conv=>whnf
   refine cB h (fun hb15 h=>?_) (fun hb15 h=>?_)
   ·refine sg ?_
    conv=>whnf
    refine Tr.ret ?_
    conv=>whnf
    cases h
    rfl
   refine Tr.skip ?_
   conv=>whnf
   refine rg ?_
   conv=>whnf
   refine arS_raw ?_
   conv=>whnf
   refine ⟨((w64 (v_5+1))),h,?_⟩
   exact Wk.mk2 [] 0 rfl rfl (by decide) rfl trivial ⟨rr,rr,rr,rr,rr,rr,trivial⟩
  refine Tr.exit ?_
  conv=>whnf
  refine ⟨(),h,?_⟩
  exact Wk.mk2 [] 0 rfl rfl (by decide) rfl trivial ⟨rr,rr,rr,trivial⟩
 clear h
 rintro _ h T1 H1 hw
 replace h:M91 s_1 s_2 ()=some r_3:=h
 conv=>whnf
 refine Tr.weak hw ?_
 unfold M91 at h
 refine Tr.seq ?_
 refine sg ?_
 conv=>whnf
 refine lnS_map ?_
 conv=>whnf
 refine lnS_map ?_
 conv=>whnf
 refine Tr.cond ?_
 conv=>whnf
 refine cB h (fun hb16 h=>?_) (fun hb16 h=>?_)
 ·refine sg ?_
  conv=>whnf
  refine Tr.ret ?_
  conv=>whnf
  cases h
  rfl
 refine Tr.skip ?_
 conv=>whnf
 refine sg ?_
 conv=>whnf
 refine Tr.ret ?_
 conv=>whnf
 cases h
 rfl
end Go.Proofs.Try
