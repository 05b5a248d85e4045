/- Contracts of functions, by program (gen.py). No condition. -/
import Derived.Test.YtcmhnjhpnijpbaaZL
import Derived.Test.YtcmhnjhpnijpbaaZM
import Derived.Test.YtcmhnjhpnijpbaaZCB
import Derived.Test.YtcmhnjhpnijpbaaZS2
namespace Go.Proofs.Try
open Go Go.Abs Go.Stop
set_option maxRecDepth 8000
set_option linter.unusedVariables false
set_option linter.unusedSimpArgs false
theorem P71 (s_1:List TRunner) (c_2:Int) (r_3:Bool) (h:M71 s_1 c_2=some r_3) :
    PC prog 73 [(.ls (List.map eTRunner s_1)),(.fn 86 [(.ro [(.i .i64 c_2)])])] (fun rs=>rs=[(.b r_3)]):=by
 refine PC.of_tr (cx:=⟨9,none,lay,0⟩) layOK func73 rfl rfl rfl rfl rfl (by simp [f73]) ?_
 unfold M71 at h
 refine sg ?_
 conv=>whnf
 refine sg ?_
 conv=>whnf
 obtain ⟨r_4,hc5,h⟩:=bS h
 refine PC.ecall (P70 s_1 c_2 r_4 hc5) (fun rs hrs=>?_)
 subst hrs
 conv=>whnf
 refine Tr.ret ?_
 conv=>whnf
 cases h
 rfl
theorem P74 (c_1:List TSegment) (c_2:List (List Int)) (c_3:List TPair) (c_4:List TRunner) (ys:List Int) (h:M74 c_1 c_2 c_3 c_4=some ys) (xs:YL) (hx:Rem xs (fun a=>[(.i .i64 a)]) 0 ys) :
    ItC prog 85 [(.ro [(.ls (List.map eTSegment c_1)),(.ls (List.map (eL eI) c_2)),(.ls (List.map eTPair c_3)),(.ls (List.map eTRunner c_4))])] xs:=by
 refine ItC.of_tr (cx:=⟨25,none,lay,0⟩) (hx:=hx) func85 rfl rfl rfl (by simp [f85]) rfl (fun l hx=>?_)
 unfold M74 at h
 refine TrY.seq ?_
 refine TrY.region layOK ?_
 conv=>whnf
 refine lnS_map ?_
 conv=>whnf
 refine arS_raw ?_
 conv=>whnf
 refine TrY.block ?_
 refine TrY.loopM (σ:=Int) (fun n s=>M72 c_3 c_4 M73 n s) _ (fun s=>([(0,.yl l),(1,.d (.ro [(.ls (List.map eTSegment c_1)),(.ls (List.map (eL eI) c_2)),(.ls (List.map eTPair c_3)),(.ls (List.map eTRunner c_4))])),(8,(dI (w64 ((((c_3).length:Int))+1)))),(9,(dI s))],[])) (((w64 ((((c_3).length:Int))+1)) - 0:Int).toNat+1) (0) h (fun s=>rfl) hx (Wk.mk2 [] 0 rfl rfl (by decide) rfl trivial ⟨rr,rr,rr,rr,trivial⟩) ?_
 clear h hx
 rintro n_7 v_6 i_15 ys_16 h hx
 replace h:M72 c_3 c_4 M73 (n_7+1) v_6=some ys_16:=h
 rw [M72] at h
 refine TrY.seq ?_
 refine TrY.region layOK ?_
 conv=>whnf
 refine TrY.seq ?_
 refine TrY.cond ?_
 conv=>whnf
 refine cB h (fun hb10 h=>?_) (fun hb10 h=>?_)
 ·refine TrY.skip ?_
  conv=>whnf
  refine TrY.seq ?_
  refine TrY.block ?_
  refine TrY.seq ?_
  refine TrY.region layOK ?_
  conv=>whnf
  refine TrY.seq ?_
  refine TrY.region layOK ?_
  conv=>whnf
  refine TrY.seq ?_
  refine TrY.region layOK ?_
  conv=>whnf
  obtain ⟨r_11,hc12,h⟩:=bS h
  refine PC.ecall_lend ?_ ⟨_,_,func73,rfl,rfl⟩
  conv=>whnf
  refine ⟨_,P71 c_4 v_6 r_11 hc12,fun rs hrs=>?_⟩
  subst hrs
  refine ⟨rfl,?_⟩
  conv=>whnf
  refine cB h (fun hb13 h=>?_) (fun hb13 h=>?_)
  ·conv=>whnf
   obtain ⟨l_14,h_14,e_14⟩:=bS h
   clear h
   cases e_14
   have h:=h_14
   clear h_14
   refine ylS_of hx rfl (fun gb_14 h1_14 h2_14=>?_)
   cases gb_14
   ·have hend_14:=h2_14 rfl
    clear h1_14 h2_14 h hx
    conv=>whnf
    refine ⟨rfl,?_⟩
    conv=>whnf
    refine TrY.cond ?_
    conv=>whnf
    refine TrY.ret ?_
    conv=>whnf
    exact hend_14
   replace hx:=h1_14 rfl
   clear h1_14 h2_14
   conv=>whnf
   refine ⟨rfl,?_⟩
   conv=>whnf
   refine TrY.cond ?_
   conv=>whnf
   refine TrY.skip ?_
   conv=>whnf
   refine TrY.region layOK ?_
   conv=>whnf
   refine arS_raw ?_
   conv=>whnf
   refine ⟨((w64 (v_6+1))),_,h,hx,?_⟩
   exact Wk.mk2 [] 0 rfl rfl (by decide) rfl trivial ⟨rr,rr,rr,rr,trivial⟩
  conv=>whnf
  refine TrY.cond ?_
  conv=>whnf
  refine TrY.skip ?_
  conv=>whnf
  refine TrY.region layOK ?_
  conv=>whnf
  refine arS_raw ?_
  conv=>whnf
  refine ⟨((w64 (v_6+1))),_,h,hx,?_⟩
  exact Wk.mk2 [] 1 rfl rfl (by decide) rfl trivial ⟨rr,rr,rr,rr,trivial⟩
 refine TrY.exit ?_
 conv=>whnf
 unfold M73 at h
 cases h
 exact Rem.done hx
theorem P75 (x_1:TOutcome) (r_2:Bool) (h:M75 x_1=some r_2) :
    PC prog 69 [(eTOutcome x_1)] (fun rs=>rs=[(.b r_2)]):=by
 refine PC.of_tr (cx:=⟨5,none,lay,0⟩) layOK func69 rfl rfl rfl rfl rfl (by simp [f69]) ?_
 unfold M75 at h
 refine sg ?_
 conv=>whnf
 refine sg ?_
 conv=>whnf
 refine Tr.ret ?_
 conv=>whnf
 cases h
 rfl
theorem P78 (s_1:List TOutcome) (r_2:Int) (h:M78 s_1=some r_2) :
    PC prog 87 [(.ls (List.map eTOutcome s_1)),(.fn 69 [])] (fun rs=>rs=[(.i .i64 r_2)]):=by
 refine PC.of_tr (cx:=⟨19,none,lay,0⟩) layOK func87 rfl rfl rfl rfl rfl (by simp [f87]) ?_
 unfold M78 at h
 refine sg ?_
 conv=>whnf
 refine Tr.seq ?_
 refine sg ?_
 conv=>whnf
 refine lnS_map ?_
 conv=>whnf
 refine Tr.cutQ (α:=Unit) (fun s=>([(4,(dI 0))],[])) (fun s=>M77 s=some r_2) ?_ ?_
 ·refine Tr.block ?_
  refine Tr.loopM (σ:=Int) (fun n s=>M76 s_1 M77 n s) r_2 (fun s=>([(0,.d (.ls (List.map eTOutcome s_1))),(1,.d (.fn 69 [])),(4,(dI 0)),(7,(dI (((s_1).length:Int)))),(8,(dI s))],[])) (((((s_1).length:Int)) - 0:Int).toNat+1) (0) h (fun s=>rfl) (Wk.mk2 [] 0 rfl rfl (by decide) rfl trivial ⟨rr,rr,rr,rr,rr,trivial⟩) ?_
  clear h
  rintro n_5 v_4 h
  replace h:M76 s_1 M77 (n_5+1) v_4=some r_2:=h
  rw [M76] at h
  refine sg ?_
  conv=>whnf
  refine Tr.seq ?_
  refine Tr.cond ?_
  conv=>whnf
  refine cB h (fun hb8 h=>?_) (fun hb8 h=>?_)
  ·refine Tr.skip ?_
   conv=>whnf
   refine Tr.seq ?_
   refine Tr.block ?_
   refine sg ?_
   conv=>whnf
   refine sg ?_
   conv=>whnf
   obtain ⟨x_9,hx_9,h⟩:=bS h
   refine ixP_of hx_9 ?_
   conv=>whnf
   obtain ⟨r_10,hc11,h⟩:=bS h
   refine PC.ecall (P75 x_9 r_10 hc11) (fun rs hrs=>?_)
   subst hrs
   conv=>whnf
   refine Tr.cond ?_
   conv=>whnf
   refine cB h (fun hb12 h=>?_) (fun hb12 h=>?_)
   ·refine sg ?_
    conv=>whnf
    refine Tr.ret ?_
    conv=>whnf
    cases h
    rfl
   refine Tr.skip ?_
   conv=>whnf
   refine rg ?_
   conv=>whnf
   refine arS_raw ?_
   conv=>whnf
   refine ⟨((w64 (v_4+1))),h,?_⟩
   exact Wk.mk2 [] 0 rfl rfl (by decide) rfl trivial ⟨rr,rr,rr,rr,rr,trivial⟩
  refine Tr.exit ?_
  conv=>whnf
  refine ⟨(),h,?_⟩
  exact Wk.mk2 [] 0 rfl rfl (by decide) rfl trivial ⟨rr,trivial⟩
 clear h
 rintro _ h T1 H1 hw
 replace h:M77 ()=some r_2:=h
 conv=>whnf
 refine Tr.weak hw ?_
 unfold M77 at h
 refine sg ?_
 conv=>whnf
 refine Tr.ret ?_
 conv=>whnf
 cases h
 rfl
theorem P79 (s_1:List TOutcome) (r_2:Bool) (h:M79 s_1=some r_2) :
    PC prog 68 [(.ls (List.map eTOutcome s_1)),(.fn 69 [])] (fun rs=>rs=[(.b r_2)]):=by
 refine PC.of_tr (cx:=⟨9,none,lay,0⟩) layOK func68 rfl rfl rfl rfl rfl (by simp [f68]) ?_
 unfold M79 at h
 refine sg ?_
 conv=>whnf
 refine sg ?_
 conv=>whnf
 obtain ⟨r_3,hc4,h⟩:=bS h
 refine PC.ecall (P78 s_1 r_3 hc4) (fun rs hrs=>?_)
 subst hrs
 conv=>whnf
 refine Tr.ret ?_
 conv=>whnf
 cases h
 rfl
theorem P80 (h:M80=some ()) :
    PC prog 70 [] (fun rs=>rs=[(.ag [(.fn 88 []),(.fn 89 []),(.fn 90 []),(.fn 91 [])])]):=by
 refine PC.of_tr (cx:=⟨2,none,lay,0⟩) layOK func70 rfl rfl rfl rfl rfl (by simp [f70]) ?_
 unfold M80 at h
 refine sg ?_
 conv=>whnf
 refine sg ?_
 conv=>whnf
 refine Tr.ret ?_
 conv=>whnf
theorem P81 (n_1:Int) (m_2:Int) (r_3:Bool) (h:M81 n_1 m_2=some r_3) :
    PC prog 91 [(.i .i64 n_1),(.i .i64 m_2)] (fun rs=>rs=[(.b r_3)]):=by
 refine PC.of_tr (cx:=⟨8,none,lay,0⟩) layOK func91 rfl rfl rfl rfl rfl (by simp [f91]) ?_
 unfold M81 at h
 refine sg ?_
 conv=>whnf
 refine sg ?_
 conv=>whnf
 refine Tr.ret ?_
 conv=>whnf
 cases h
 rfl
theorem P82 (x_1:TOutcome) (r_2:Int) (h:M82 x_1=some r_2) :
    PC prog 89 [(eTOutcome x_1)] (fun rs=>rs=[(.i .i64 r_2)]):=by
 refine PC.of_tr (cx:=⟨5,none,lay,0⟩) layOK func89 rfl rfl rfl rfl rfl (by simp [f89]) ?_
 unfold M82 at h
 refine sg ?_
 conv=>whnf
 refine sg ?_
 conv=>whnf
 refine Tr.ret ?_
 conv=>whnf
 cases h
 rfl
theorem P83 (far_1:List (List Int)) (a_2:Int) (b_3:Int) (r_4:Int) (h:M83 far_1 a_2 b_3=some r_4) :
    PC prog 90 [(.ls (List.map (eL eI) far_1)),(.i .i64 a_2),(.i .i64 b_3)] (fun rs=>rs=[(.i .i64 r_4)]):=by
 refine PC.of_tr (cx:=⟨14,none,lay,0⟩) layOK func90 rfl rfl rfl rfl rfl (by simp [f90]) ?_
 unfold M83 at h
 refine sg ?_
 conv=>whnf
 refine sg ?_
 conv=>whnf
 obtain ⟨x_5,hx_5,h⟩:=bS h
 refine ixP_of hx_5 ?_
 conv=>whnf
 obtain ⟨x_6,hx_6,h⟩:=bS h
 refine ixP_of hx_6 ?_
 conv=>whnf
 refine Tr.ret ?_
 conv=>whnf
 cases h
 rfl
theorem P84 (x_1:TOutcome) (r_2:Int) (h:M84 x_1=some r_2) :
    PC prog 88 [(eTOutcome x_1)] (fun rs=>rs=[(.i .i64 r_2)]):=by
 refine PC.of_tr (cx:=⟨5,none,lay,0⟩) layOK func88 rfl rfl rfl rfl rfl (by simp [f88]) ?_
 unfold M84 at h
 refine sg ?_
 conv=>whnf
 refine sg ?_
 conv=>whnf
 refine Tr.ret ?_
 conv=>whnf
 cases h
 rfl
theorem P87 (s_1:List Int) (s_2:List Int) (r_3:Int) (h:M87 s_1 s_2=some r_3) :
    PC prog 110 [(.ls (List.map eI s_1)),(.ls (List.map eI s_2))] (fun rs=>rs=[(.i .i64 r_3)]):=by
 refine PC.of_tr (cx:=⟨36,none,lay,0⟩) layOK func110 rfl rfl rfl rfl rfl (by simp [f110]) ?_
 unfold M87 at h
 refine sg ?_
 conv=>whnf
 refine Tr.seq ?_
 refine sg ?_
 conv=>whnf
 refine lnS_map ?_
 conv=>whnf
 refine Tr.cutQ (α:=Unit) (fun s=>([(0,.d (.ls (List.map eI s_1))),(1,.d (.ls (List.map eI s_2))),(4,(dI 0))],[])) (fun s=>M86 s_1 s_2 s=some r_3) ?_ ?_
 ·refine Tr.block ?_
  refine Tr.loopM (σ:=Int) (fun n s=>M85 s_1 s_2 (M86 s_1 s_2) n s) r_3 (fun s=>([(0,.d (.ls (List.map eI s_1))),(1,.d (.ls (List.map eI s_2))),(4,(dI 0)),(9,.d (.ls (List.map eI s_1))),(10,(dI (((s_1).length:Int)))),(11,(dI s))],[])) (((((s_1).length:Int)) - 0:Int).toNat+1) (0) h (fun s=>rfl) (Wk.mk2 [] 0 rfl rfl (by decide) rfl trivial ⟨rr,rr,rr,rr,rr,rr,trivial⟩) ?_
  clear h
  rintro n_6 v_5 h
  replace h:M85 s_1 s_2 (M86 s_1 s_2) (n_6+1) v_5=some r_3:=h
  rw [M85] at h
  refine sg ?_
  conv=>whnf
  refine Tr.seq ?_
  refine Tr.cond ?_
  conv=>whnf
  refine cB h (fun hb9 h=>?_) (fun hb9 h=>?_)
  ·refine Tr.skip ?_
   conv=>whnf
   refine Tr.seq ?_
   refine Tr.block ?_
   refine sg ?_
   conv=>whnf
   obtain ⟨x_10,hx_10,h⟩:=bS h
   refine ixP_of hx_10 ?_
   conv=>whnf
   refine Tr.seq ?_
   refine sg ?_
   conv=>whnf
   refine lnS_map ?_
   conv=>whnf
   refine Tr.cond ?_
   conv=>whnf
   refine cB h (fun hb11 h=>?_) (fun hb11 h=>?_)
   ·refine sg ?_
    conv=>whnf
    refine Tr.ret ?_
    conv=>whnf
    cases h
    rfl
   refine Tr.skip ?_
   conv=>whnf
   refine sg ?_
   conv=>whnf
   obtain ⟨x_12,hx_12,h⟩:=bS h
   refine ixP_of hx_12 ?_
   conv=>whnf
   refine sg ?_
   conv=>whnf
   obtain ⟨r_13,hc14,h⟩:=bS h
   refine PC.ecall (P6 x_10 x_12 r_13 hc14) (fun rs hrs=>?_)
   subst hrs
   conv=>whnf
   refine sg ?_
   conv=>whnf
   refine Tr.cond ?_
   conv=>whnf
   refine cB h (fun hb15 h=>?_) (fun hb15 h=>?_)
   ·refine sg ?_
    conv=>whnf
    refine Tr.ret ?_
    conv=>whnf
    cases h
    rfl
   refine Tr.skip ?_
   conv=>whnf
   refine rg ?_
   conv=>whnf
   refine arS_raw ?_
   conv=>whnf
   refine ⟨((w64 (v_5+1))),h,?_⟩
   exact Wk.mk2 [] 0 rfl rfl (by decide) rfl trivial ⟨rr,rr,rr,rr,rr,rr,trivial⟩
  refine Tr.exit ?_
  conv=>whnf
  refine ⟨(),h,?_⟩
  exact Wk.mk2 [] 0 rfl rfl (by decide) rfl trivial ⟨rr,rr,rr,trivial⟩
 clear h
 rintro _ h T1 H1 hw
 replace h:M86 s_1 s_2 ()=some r_3:=h
 conv=>whnf
 refine Tr.weak hw ?_
 unfold M86 at h
 refine Tr.seq ?_
 refine sg ?_
 conv=>whnf
 refine lnS_map ?_
 conv=>whnf
 refine lnS_map ?_
 conv=>whnf
 refine Tr.cond ?_
 conv=>whnf
 refine cB h (fun hb16 h=>?_) (fun hb16 h=>?_)
 ·refine sg ?_
  conv=>whnf
  refine Tr.ret ?_
  conv=>whnf
  cases h
  rfl
 refine Tr.skip ?_
 conv=>whnf
 refine sg ?_
 conv=>whnf
 refine Tr.ret ?_
 conv=>whnf
 cases h
 rfl
theorem P88 (f_1:TField) (runner_2:Int) (x_3:TOutcome) (rival_4:Int) (y_5:TOutcome) (r_6:Bool) (h:M88 f_1 runner_2 x_3 rival_4 y_5=some r_6) :
    PC prog 105 [(.ag [(.fn 88 []),(.fn 89 []),(.fn 90 []),(.fn 91 [])]),(eTField f_1),(.i .i64 runner_2),(eTOutcome x_3),(.i .i64 rival_4),(eTOutcome y_5)] (fun rs=>rs=[(.b r_6)]):=by
 refine PC.of_tr (cx:=⟨60,none,lay,0⟩) layOK func105 rfl rfl rfl rfl rfl (by simp [f105]) ?_
 unfold M88 at h
 refine sg ?_
 conv=>whnf
 refine Tr.seq ?_
 refine sg ?_
 conv=>whnf
 refine Tr.cond ?_
 conv=>whnf
 refine cB h (fun hb7 h=>?_) (fun hb7 h=>?_)
 ·refine sg ?_
  conv=>whnf
  refine Tr.ret ?_
  conv=>whnf
  cases h
  rfl
 refine Tr.skip ?_
 conv=>whnf
 refine sd [] [(0,3),(1,3),(2,6),(3,1),(4,3),(5,3),(6,4),(7,4),(8,4),(9,5),(10,5),(11,1),(12,6),(13,6),(14,1),(15,1),(16,1),(17,3),(18,3),(19,5),(20,1),(21,1),(22,1)] ?_
 conv=>whnf
 refine q2 ?_
 conv=>whnf
 refine q2 ?_
 conv=>whnf
 refine q2 ?_
 conv=>whnf
 obtain ⟨r_8,hc9,h⟩:=bS h
 refine q1 ?_ (fun _=>pe (P82 y_5 r_8 hc9) rr)
 conv=>whnf
 refine q2 ?_
 conv=>whnf
 refine q2 ?_
 conv=>whnf
 refine q2 ?_
 conv=>whnf
 refine q2 ?_
 conv=>whnf
 refine q2 ?_
 conv=>whnf
 refine q2 ?_
 conv=>whnf
 refine q2 ?_
 conv=>whnf
 refine q4 ?_
 conv=>whnf
 refine q2 ?_
 conv=>whnf
 refine q2 ?_
 conv=>whnf
 refine q4 ?_
 conv=>whnf
 obtain ⟨r_10,hc11,h⟩:=bS h
 refine q1 ?_ (fun _=>pe (P83 f_1.Clocks.Far ((w64 (x_3.Seg+1))) ((w64 (y_5.Seg+1))) r_10 hc11) rr)
 conv=>whnf
 refine q4 ?_
 conv=>whnf
 refine q2 ?_
 conv=>whnf
 refine q2 ?_
 conv=>whnf
 refine q2 ?_
 conv=>whnf
 obtain ⟨r_12,hc13,h⟩:=bS h
 refine q1 ?_ (fun _=>pe (P84 x_3 r_12 hc13) rr)
 conv=>whnf
 refine q4 ?_
 conv=>whnf
 refine q1 ?_
 conv=>whnf
 refine sd [] [(0,1),(1,1),(2,1),(3,1),(4,1),(5,1),(6,4),(7,4),(8,1),(9,2),(10,2),(11,2),(12,4),(13,4),(14,1),(15,2),(16,2),(17,2),(18,1),(19,1),(20,1),(21,1),(22,1)] ?_
 conv=>whnf
 refine q1 ?_
 conv=>whnf
 refine q1 ?_
 conv=>whnf
 refine q1 ?_
 conv=>whnf
 refine cB h (fun hb14 h=>?_) (fun hb14 h=>?_)
 ·conv=>whnf
  refine q1 ?_
  conv=>whnf
  refine q1 ?_
  conv=>whnf
  refine Tr.ret ?_
  conv=>whnf
  cases h
  rfl
 conv=>whnf
 refine q1 ?_
 conv=>whnf
 refine q1 ?_
 conv=>whnf
 refine q1 ?_
 conv=>whnf
 refine cB h (fun hb15 h=>?_) (fun hb15 h=>?_)
 ·conv=>whnf
  refine q2 ?_
  conv=>whnf
  refine q2 ?_
  conv=>whnf
  refine q1 ?_
  conv=>whnf
  obtain ⟨x_16,hx_16,h⟩:=bS h
  refine q3 (ixP_of hx_16 rr) ?_
  conv=>whnf
  refine q2 ?_
  conv=>whnf
  refine q2 ?_
  conv=>whnf
  refine q2 ?_
  conv=>whnf
  refine q2 ?_
  conv=>whnf
  refine q1 ?_
  conv=>whnf
  obtain ⟨x_17,hx_17,h⟩:=bS h
  refine q3 (ixP_of hx_17 rr) ?_
  conv=>whnf
  refine q2 ?_
  conv=>whnf
  refine q2 ?_
  conv=>whnf
  obtain ⟨r_18,hc19,h⟩:=bS h
  refine q1 ?_ (fun _=>pe (P87 x_16.Keys x_17.Keys r_18 hc19) rr)
  conv=>whnf
  refine q1 ?_
  conv=>whnf
  refine q1 ?_
  conv=>whnf
  refine q1 ?_
  conv=>whnf
  refine q1 ?_
  conv=>whnf
  refine Tr.ret ?_
  conv=>whnf
  cases h
  rfl
 conv=>whnf
 refine q1 ?_
 conv=>whnf
 refine q1 ?_
 conv=>whnf
 refine q1 ?_
 conv=>whnf
 refine Tr.ret ?_
 conv=>whnf
 cases h
 rfl
theorem P91 (f_1:TField) (w_2:Int) (runner_3:Int) (x_4:TOutcome) (rival_5:Int) (r_6:Int) (r_7:Bool) (h:M91 f_1 w_2 runner_3 x_4 rival_5=some (r_6,r_7)) :
    PC prog 92 [(.ag [(.fn 88 []),(.fn 89 []),(.fn 90 []),(.fn 91 [])]),(eTField f_1),(.i .i64 w_2),(.i .i64 runner_3),(eTOutcome x_4),(.i .i64 rival_5)] (fun rs=>rs=[(.i .i64 r_6),(.b r_7)]):=by
 refine PC.of_tr (cx:=⟨49,none,lay,0⟩) layOK func92 rfl rfl rfl rfl rfl (by simp [f92]) ?_
 unfold M91 at h
 refine sg ?_
 conv=>whnf
 refine sg ?_
 conv=>whnf
 obtain ⟨r_8,hc9,h⟩:=bS h
 refine PC.ecall (P81 2 1 r_8 hc9) (fun rs hrs=>?_)
 subst hrs
 conv=>whnf
 refine Tr.seq ?_
 refine sg ?_
 conv=>whnf
 obtain ⟨x_10,hx_10,h⟩:=bS h
 refine ixP_of hx_10 ?_
 conv=>whnf
 obtain ⟨x_11,hx_11,h⟩:=bS h
 refine ixP_of hx_11 ?_
 conv=>whnf
 refine lnS_map ?_
 conv=>whnf
 refine Tr.cutQ (α:=Unit) (fun s=>([(12,(dI 0)),(13,.d (.b false)),(14,.d (.b r_8))],[])) (fun s=>M90 r_8 s=some (r_6,r_7)) ?_ ?_
 ·refine Tr.block ?_
  refine Tr.loopM (σ:=Int) (fun n s=>M89 f_1 runner_3 x_4 rival_5 r_8 x_11 (M90 r_8) n s) (r_6,r_7) (fun s=>([(3,(dI runner_3)),(5,(dI rival_5)),(6,.pt 0 0),(7,.pt 1 0),(10,.pt 2 0),(12,(dI 0)),(13,.d (.b false)),(14,.d (.b r_8)),(28,.d (.ls (List.map eTOutcome x_11))),(29,(dI (((x_11).length:Int)))),(30,(dI s))],[some (.var [.d (.fn 88 []),.d (.fn 89 []),.d (.fn 90 []),.d (.fn 91 [])]),some (.var [.d (.ls (List.map eTSegment f_1.Clocks.Segments)),.d (.ls (List.map (eL eI) f_1.Clocks.Far)),.d (.ls (List.map eTPair f_1.Pairs)),.d (.ls (List.map eTRunner f_1.Runners))]),some (.var [.d (.b x_4.Out),(dI x_4.Seg),(dI x_4.Lo),(dI x_4.Hi)])])) (((((x_11).length:Int)) - 0:Int).toNat+1) (0) h (fun s=>rfl) (Wk.mk2 [0,1,2] 3 rfl rfl (by decide) rfl ⟨rr,rr,rr,trivial⟩ ⟨rr,rr,rr,rr,rr,rr,rr,rr,rr,rr,rr,trivial⟩) ?_
  clear h
  rintro n_14 v_13 h
  replace h:M89 f_1 runner_3 x_4 rival_5 r_8 x_11 (M90 r_8) (n_14+1) v_13=some (r_6,r_7):=h
  rw [M89] at h
  refine sg ?_
  conv=>whnf
  refine Tr.seq ?_
  refine Tr.cond ?_
  conv=>whnf
  refine cB h (fun hb17 h=>?_) (fun hb17 h=>?_)
  ·refine Tr.skip ?_
   conv=>whnf
   refine Tr.seq ?_
   refine Tr.block ?_
   refine sg ?_
   conv=>whnf
   obtain ⟨x_18,hx_18,h⟩:=bS h
   refine ixP_of hx_18 ?_
   conv=>whnf
   refine sg ?_
   conv=>whnf
   obtain ⟨r_19,hc20,h⟩:=bS h
   refine PC.ecall (P88 f_1 runner_3 x_4 rival_5 x_18 r_19 hc20) (fun rs hrs=>?_)
   subst hrs
   conv=>whnf
   refine Tr.cond ?_
   conv=>whnf
   refine cB h (fun hb21 h=>?_) (fun hb21 h=>?_)
   ·refine sg ?_
    conv=>whnf
    refine Tr.ret ?_
    conv=>whnf
    cases h
    rfl
   refine Tr.skip ?_
   conv=>whnf
   refine rg ?_
   conv=>whnf
   refine arS_raw ?_
   conv=>whnf
   refine ⟨((w64 (v_13+1))),h,?_⟩
   exact Wk.mk2 [0,1,2] 4 rfl rfl (by decide) rfl ⟨rr,rr,rr,trivial⟩ ⟨rr,rr,rr,rr,rr,rr,rr,rr,rr,rr,rr,trivial⟩
  refine Tr.exit ?_
  conv=>whnf
  refine ⟨(),h,?_⟩
  exact Wk.mk2 [] 3 rfl rfl (by decide) rfl trivial ⟨rr,rr,rr,trivial⟩
 clear h
 rintro _ h T1 H1 hw
 replace h:M90 r_8 ()=some (r_6,r_7):=h
 conv=>whnf
 refine Tr.weak hw ?_
 unfold M90 at h
 refine sg ?_
 conv=>whnf
 refine Tr.ret ?_
 conv=>whnf
 cases h
 rfl
theorem P95 (f_1:TField) (runner_2:Int) (r_3:Tranks_place) (r_4:Bool) (h:M95 f_1 runner_2=some (r_3,r_4)) :
    PC prog 71 [(.ag [(.fn 88 []),(.fn 89 []),(.fn 90 []),(.fn 91 [])]),(eTField f_1),(.i .i64 runner_2)] (fun rs=>rs=[(eTranks_place r_3),(.b r_4)]):=by
 refine PC.of_tr (cx:=⟨75,none,lay,0⟩) layOK func71 rfl rfl rfl rfl rfl (by simp [f71]) ?_
 unfold M95 at h
 refine sg ?_
 conv=>whnf
 refine Tr.seq ?_
 refine sg ?_
 conv=>whnf
 obtain ⟨⟨c_5,c_6,c_7,c_8⟩,hc9,h⟩:=bS h
 refine PC.ecall (P66 f_1 c_5 c_6 c_7 c_8 hc9) (fun rs hrs=>?_)
 subst hrs
 conv=>whnf
 obtain ⟨l_10,hl11,h⟩:=bS h
 obtain ⟨⟨v_66,v_67,v_68,v_69⟩,hv70,h⟩:=bS h
 refine Tr.block ?_
 refine Tr.rangeM layOK rfl (ge:=fun a=>[(.i .i64 a)]) rfl (P74 c_5 c_6 c_7 c_8 l_10 hl11) (fun _=>rfl) rfl (fun s=>[some (.var [.d (.fn 88 []),.d (.fn 89 []),.d (.fn 90 []),.d (.fn 91 [])]),some (.var [.d (.ls (List.map eTSegment f_1.Clocks.Segments)),.d (.ls (List.map (eL eI) f_1.Clocks.Far)),.d (.ls (List.map eTPair f_1.Pairs)),.d (.ls (List.map eTRunner f_1.Runners))]),some (.var [(dI runner_2)]),some (.var [(dI s.1),(dI s.2.1),(dI s.2.2.1)]),some (.var [.d (.b s.2.2.2)])]) (M94 f_1 runner_2) (0,0,0,false) (v_66,v_67,v_68,v_69) hv70 (Wk.mk2 [0,1,2,3,4] 5 rfl rfl (by decide) rfl ⟨⟨rfl,rfl⟩,⟨rfl,rfl⟩,⟨rfl,rfl⟩,⟨rfl,rfl⟩,⟨rfl,rfl⟩,trivial⟩ trivial) ?_ ?_
 ·clear h hv70
  rintro li y_12 ⟨v_17,v_18,v_19,v_20⟩ s_21 ha h
  replace h:(M94 f_1 runner_2) y_12 (v_17,v_18,v_19,v_20)=some s_21:=h
  unfold M94 at h
  dsimp only at h
  conv=>whnf
  refine TrE.region layOK ?_
  conv=>whnf
  refine Tr.block ?_
  refine sg ?_
  conv=>whnf
  obtain ⟨x_22,hx_22,h⟩:=bS h
  refine ixP_of hx_22 ?_
  conv=>whnf
  obtain ⟨x_23,hx_23,h⟩:=bS h
  refine ixP_of hx_23 ?_
  conv=>whnf
  refine lnS_map ?_
  conv=>whnf
  obtain ⟨⟨v_35,v_36,v_37,v_38⟩,hv65,h⟩:=bS h
  refine Tr.cutQ1 ([]) ([some (.var [.d (.fn 88 []),.d (.fn 89 []),.d (.fn 90 []),.d (.fn 91 [])]),some (.var [.d (.ls (List.map eTSegment f_1.Clocks.Segments)),.d (.ls (List.map (eL eI) f_1.Clocks.Far)),.d (.ls (List.map eTPair f_1.Pairs)),.d (.ls (List.map eTRunner f_1.Runners))]),some (.var [(dI runner_2)]),some (.var [(dI v_35),(dI v_36),(dI v_37)]),some (.var [.d (.b v_38)])]) ?_ (fun T1 H1 hw=>?_)
  ·replace h:=hv65; clear hv65
   refine Tr.block ?_
   refine Tr.loopM (σ:=Int × Int × Int × Int × Bool) (fun n s=>M93 f_1 runner_2 y_12 x_23 n s.1 s.2.1 s.2.2.1 s.2.2.2.1 s.2.2.2.2) (v_35,v_36,v_37,v_38) (fun s=>([(3,.pt 0 0),(4,.pt 1 0),(5,.pt 2 0),(6,.pt 3 0),(7,.pt 4 0),(8,(dI y_12)),(26,.d (.ls (List.map eTOutcome x_23))),(27,(dI (((x_23).length:Int)))),(28,(dI s.1))],[some (.var [.d (.fn 88 []),.d (.fn 89 []),.d (.fn 90 []),.d (.fn 91 [])]),some (.var [.d (.ls (List.map eTSegment f_1.Clocks.Segments)),.d (.ls (List.map (eL eI) f_1.Clocks.Far)),.d (.ls (List.map eTPair f_1.Pairs)),.d (.ls (List.map eTRunner f_1.Runners))]),some (.var [(dI runner_2)]),some (.var [(dI s.2.1),(dI s.2.2.1),(dI s.2.2.2.1)]),some (.var [.d (.b s.2.2.2.2)])])) (((((x_23).length:Int)) - 0:Int).toNat+1) (0,v_17,v_18,v_19,v_20) h (fun s=>rfl) (Wk.mk2 [0,1,2,3,4] 5 rfl rfl (by decide) rfl ⟨rr,rr,rr,rr,rr,trivial⟩ ⟨rr,rr,rr,rr,rr,rr,rr,rr,rr,trivial⟩) ?_
   clear h
   rintro n_34 ⟨v_29,v_30,v_31,v_32,v_33⟩ h
   replace h:M93 f_1 runner_2 y_12 x_23 (n_34+1) v_29 v_30 v_31 v_32 v_33=some (v_35,v_36,v_37,v_38):=h
   rw [M93] at h
   refine sg ?_
   conv=>whnf
   refine Tr.seq ?_
   refine Tr.cond ?_
   conv=>whnf
   refine cB h (fun hb41 h=>?_) (fun hb41 h=>?_)
   ·refine Tr.skip ?_
    conv=>whnf
    refine Tr.seq ?_
    refine Tr.block ?_
    refine sg ?_
    conv=>whnf
    obtain ⟨x_42,hx_42,h⟩:=bS h
    refine ixP_of hx_42 ?_
    conv=>whnf
    refine Tr.seq ?_
    refine sg ?_
    conv=>whnf
    refine Tr.cond ?_
    conv=>whnf
    refine cB h (fun hb43 h=>?_) (fun hb43 h=>?_)
    ·refine Tr.exit ?_
     conv=>whnf
     refine rg ?_
     conv=>whnf
     refine arS_raw ?_
     conv=>whnf
     refine ⟨((w64 (v_29+1)),v_30,v_31,v_32,v_33),h,?_⟩
     exact Wk.mk2 [0,1,2,3,4] 6 rfl rfl (by decide) rfl ⟨rr,rr,rr,rr,rr,trivial⟩ ⟨rr,rr,rr,rr,rr,rr,rr,rr,rr,trivial⟩
    refine Tr.skip ?_
    conv=>whnf
    refine sg ?_
    conv=>whnf
    refine Tr.seq ?_
    refine sg ?_
    conv=>whnf
    refine lnS_map ?_
    conv=>whnf
    obtain ⟨n_49,hv58,h⟩:=bS h
    refine Tr.cutQ1 ([(3,.pt 0 0),(4,.pt 1 0),(5,.pt 2 0),(6,.pt 3 0),(7,.pt 4 0),(8,(dI y_12)),(9,(dI v_29)),(11,(dI n_49)),(26,.d (.ls (List.map eTOutcome x_23))),(27,(dI (((x_23).length:Int)))),(28,(dI v_29))]) ([some (.var [.d (.fn 88 []),.d (.fn 89 []),.d (.fn 90 []),.d (.fn 91 [])]),some (.var [.d (.ls (List.map eTSegment f_1.Clocks.Segments)),.d (.ls (List.map (eL eI) f_1.Clocks.Far)),.d (.ls (List.map eTPair f_1.Pairs)),.d (.ls (List.map eTRunner f_1.Runners))]),some (.var [(dI runner_2)]),some (.var [(dI v_30),(dI v_31),(dI v_32)]),some (.var [.d (.b v_33)])]) ?_ (fun T1 H1 hw=>?_)
    ·replace h:=hv58; clear hv58
     refine Tr.block ?_
     refine Tr.loopM (σ:=Int × Int) (fun n s=>M92 f_1 runner_2 y_12 x_42 n s.1 s.2) n_49 (fun s=>([(3,.pt 0 0),(4,.pt 1 0),(5,.pt 2 0),(6,.pt 3 0),(7,.pt 4 0),(8,(dI y_12)),(9,(dI v_29)),(10,.pt 5 0),(11,(dI s.1)),(26,.d (.ls (List.map eTOutcome x_23))),(27,(dI (((x_23).length:Int)))),(28,(dI v_29)),(37,(dI (((f_1.Runners).length:Int)))),(38,(dI s.2))],[some (.var [.d (.fn 88 []),.d (.fn 89 []),.d (.fn 90 []),.d (.fn 91 [])]),some (.var [.d (.ls (List.map eTSegment f_1.Clocks.Segments)),.d (.ls (List.map (eL eI) f_1.Clocks.Far)),.d (.ls (List.map eTPair f_1.Pairs)),.d (.ls (List.map eTRunner f_1.Runners))]),some (.var [(dI runner_2)]),some (.var [(dI v_30),(dI v_31),(dI v_32)]),some (.var [.d (.b v_33)]),some (.var [.d (.b x_42.Out),(dI x_42.Seg),(dI x_42.Lo),(dI x_42.Hi)])])) (((((f_1.Runners).length:Int)) - 0:Int).toNat+1) (1,0) h (fun s=>rfl) (Wk.mk2 [0,1,2,3,4,5] 6 rfl rfl (by decide) rfl ⟨rr,rr,rr,rr,rr,rr,trivial⟩ ⟨rr,rr,rr,rr,rr,rr,rr,rr,rr,rr,rr,rr,rr,rr,trivial⟩) ?_
     clear h
     rintro n_48 ⟨n_46,v_47⟩ h
     replace h:M92 f_1 runner_2 y_12 x_42 (n_48+1) n_46 v_47=some n_49:=h
     rw [M92] at h
     refine sg ?_
     conv=>whnf
     refine Tr.seq ?_
     refine Tr.cond ?_
     conv=>whnf
     refine cB h (fun hb52 h=>?_) (fun hb52 h=>?_)
     ·refine Tr.skip ?_
      conv=>whnf
      refine Tr.seq ?_
      refine Tr.block ?_
      refine sg ?_
      conv=>whnf
      refine Tr.seq ?_
      refine sg ?_
      conv=>whnf
      refine Tr.cond ?_
      conv=>whnf
      refine cB h (fun hb53 h=>?_) (fun hb53 h=>?_)
      ·refine Tr.exit ?_
       conv=>whnf
       refine rg ?_
       conv=>whnf
       refine arS_raw ?_
       conv=>whnf
       refine ⟨(n_46,(w64 (v_47+1))),h,?_⟩
       exact Wk.mk2 [0,1,2,3,4,5] 6 rfl rfl (by decide) rfl ⟨rr,rr,rr,rr,rr,rr,trivial⟩ ⟨rr,rr,rr,rr,rr,rr,rr,rr,rr,rr,rr,rr,rr,rr,trivial⟩
      refine Tr.skip ?_
      conv=>whnf
      refine sg ?_
      conv=>whnf
      obtain ⟨⟨r_54,r_55⟩,hc56,h⟩:=bS h
      refine PC.ecall (P91 f_1 y_12 runner_2 x_42 v_47 r_54 r_55 hc56) (fun rs hrs=>?_)
      subst hrs
      conv=>whnf
      refine sg ?_
      conv=>whnf
      refine Tr.cond ?_
      conv=>whnf
      refine cB h (fun hb57 h=>?_) (fun hb57 h=>?_)
      ·refine rg ?_
       conv=>whnf
       refine arS_raw ?_
       conv=>whnf
       refine rg ?_
       conv=>whnf
       refine arS_raw ?_
       conv=>whnf
       refine ⟨((w64 (n_46+1)),(w64 (v_47+1))),h,?_⟩
       exact Wk.mk2 [0,1,2,3,4,5] 6 rfl rfl (by decide) rfl ⟨rr,rr,rr,rr,rr,rr,trivial⟩ ⟨rr,rr,rr,rr,rr,rr,rr,rr,rr,rr,rr,rr,rr,rr,trivial⟩
      refine Tr.skip ?_
      conv=>whnf
      refine rg ?_
      conv=>whnf
      refine arS_raw ?_
      conv=>whnf
      refine ⟨(n_46,(w64 (v_47+1))),h,?_⟩
      exact Wk.mk2 [0,1,2,3,4,5] 6 rfl rfl (by decide) rfl ⟨rr,rr,rr,rr,rr,rr,trivial⟩ ⟨rr,rr,rr,rr,rr,rr,rr,rr,rr,rr,rr,rr,rr,rr,trivial⟩
     refine Tr.exit ?_
     conv=>whnf
     cases h
     exact Wk.mk2 [0,1,2,3,4] 6 rfl rfl (by decide) rfl ⟨rr,rr,rr,rr,rr,trivial⟩ ⟨rr,rr,rr,rr,rr,rr,rr,rr,rr,rr,rr,trivial⟩
    clear hv58
    conv=>whnf
    refine Tr.weak hw ?_
    refine Tr.seq ?_
    obtain ⟨v_59,hv60,h⟩:=bS h
    refine Tr.cutQ1 ([(3,.pt 0 0),(4,.pt 1 0),(5,.pt 2 0),(6,.pt 3 0),(7,.pt 4 0),(8,(dI y_12)),(9,(dI v_29)),(11,(dI n_49)),(26,.d (.ls (List.map eTOutcome x_23))),(27,(dI (((x_23).length:Int)))),(28,(dI v_29)),(67,.d (.b v_59))]) ([some (.var [.d (.fn 88 []),.d (.fn 89 []),.d (.fn 90 []),.d (.fn 91 [])]),some (.var [.d (.ls (List.map eTSegment f_1.Clocks.Segments)),.d (.ls (List.map (eL eI) f_1.Clocks.Far)),.d (.ls (List.map eTPair f_1.Pairs)),.d (.ls (List.map eTRunner f_1.Runners))]),some (.var [(dI runner_2)]),some (.var [(dI v_30),(dI v_31),(dI v_32)]),some (.var [.d (.b v_33)])]) ?_ (fun T1 H1 hw=>?_)
    ·replace h:=hv60; clear hv60
     refine rg ?_
     conv=>whnf
     refine cB h (fun hb61 h=>?_) (fun hb61 h=>?_)
     ·conv=>whnf
      cases h
      exact Wk.mk2 [0,1,2,3,4] 5 rfl rfl (by decide) rfl ⟨rr,rr,rr,rr,rr,trivial⟩ ⟨rr,rr,rr,rr,rr,rr,rr,rr,rr,rr,rr,rr,trivial⟩
     conv=>whnf
     obtain ⟨r_62,hc63,h⟩:=bS h
     refine PC.ecall (P81 n_49 v_32 r_62 hc63) (fun rs hrs=>?_)
     subst hrs
     conv=>whnf
     cases h
     exact Wk.mk2 [0,1,2,3,4] 5 rfl rfl (by decide) rfl ⟨rr,rr,rr,rr,rr,trivial⟩ ⟨rr,rr,rr,rr,rr,rr,rr,rr,rr,rr,rr,rr,trivial⟩
    clear hv60
    conv=>whnf
    refine Tr.weak hw ?_
    refine Tr.cond ?_
    conv=>whnf
    refine cB h (fun hb64 h=>?_) (fun hb64 h=>?_)
    ·refine rg ?_
     conv=>whnf
     refine rg ?_
     conv=>whnf
     refine arS_raw ?_
     conv=>whnf
     refine ⟨((w64 (v_29+1)),y_12,v_29,n_49,true),h,?_⟩
     exact Wk.mk2 [0,1,2,3,4] 5 rfl rfl (by decide) rfl ⟨rr,rr,rr,rr,rr,trivial⟩ ⟨rr,rr,rr,rr,rr,rr,rr,rr,rr,trivial⟩
    refine Tr.skip ?_
    conv=>whnf
    refine rg ?_
    conv=>whnf
    refine arS_raw ?_
    conv=>whnf
    refine ⟨((w64 (v_29+1)),v_30,v_31,v_32,v_33),h,?_⟩
    exact Wk.mk2 [0,1,2,3,4] 5 rfl rfl (by decide) rfl ⟨rr,rr,rr,rr,rr,trivial⟩ ⟨rr,rr,rr,rr,rr,rr,rr,rr,rr,trivial⟩
   refine Tr.exit ?_
   conv=>whnf
   cases h
   exact Wk.mk2 [0,1,2,3,4] 5 rfl rfl (by decide) rfl ⟨rr,rr,rr,rr,rr,trivial⟩ trivial
  clear hv65
  conv=>whnf
  cases h
  refine Wk.trans (F:=5) hw ?_
  exact Wk.mk2 [0,1,2,3,4] 5 rfl rfl (by decide) rfl ⟨rr,rr,rr,rr,rr,trivial⟩ trivial
 clear hv70
 conv=>whnf
 refine sd [(2,3),(3,4)] [(0,6),(1,7),(2,0),(3,0)] ?_
 conv=>whnf
 refine q2 ?_
 conv=>whnf
 refine q2 ?_
 conv=>whnf
 refine ⟨_,_,rr,kp_ok (by repeat (first | exact trivial | refine ⟨trivial,?_⟩ | refine ⟨rfl,?_⟩)),?_⟩
 conv=>whnf
 refine ⟨_,_,rr,kp_ok (by repeat (first | exact trivial | refine ⟨trivial,?_⟩ | refine ⟨rfl,?_⟩)),?_⟩
 conv=>whnf
 refine Tr.ret ?_
 conv=>whnf
 cases h
 rfl
end Go.Proofs.Try
