/- Contracts of functions, by program (gen.py). No condition. -/
import Derived.Test.YthandbiapckgkaaZL
import Derived.Test.YthandbiapckgkaaZM
import Derived.Test.YthandbiapckgkaaZCB
import Derived.Test.YthandbiapckgkaaZS2
namespace Go.Proofs.Try
open Go Go.Abs Go.Stop
set_option maxRecDepth 8000
set_option linter.unusedVariables false
set_option linter.unusedSimpArgs false
theorem P64 (h:M64=some ()) :
    PC prog 35 [] (fun rs=>rs=[(.ag [(.fn 55 []),(.fn 56 []),(.fn 57 []),(.fn 58 [])])]):=by
 refine PC.of_tr (cx:=⟨2,none,lay,0⟩) layOK func35 rfl rfl rfl rfl rfl (by simp [f35]) ?_
 unfold M64 at h
 refine sg ?_
 conv=>whnf
 refine sg ?_
 conv=>whnf
 refine Tr.ret ?_
 conv=>whnf
theorem P65 (n_1:Int) (m_2:Int) (r_3:Bool) (h:M65 n_1 m_2=some r_3) :
    PC prog 58 [(.i .i64 n_1),(.i .i64 m_2)] (fun rs=>rs=[(.b r_3)]):=by
 refine PC.of_tr (cx:=⟨8,none,lay,0⟩) layOK func58 rfl rfl rfl rfl rfl (by simp [f58]) ?_
 unfold M65 at h
 refine sg ?_
 conv=>whnf
 refine sg ?_
 conv=>whnf
 refine Tr.ret ?_
 conv=>whnf
 cases h
 rfl
theorem P66 (x_1:TOutcome) (r_2:Int) (h:M66 x_1=some r_2) :
    PC prog 56 [(eTOutcome x_1)] (fun rs=>rs=[(.i .i64 r_2)]):=by
 refine PC.of_tr (cx:=⟨5,none,lay,0⟩) layOK func56 rfl rfl rfl rfl rfl (by simp [f56]) ?_
 unfold M66 at h
 refine sg ?_
 conv=>whnf
 refine sg ?_
 conv=>whnf
 refine Tr.ret ?_
 conv=>whnf
 cases h
 rfl
theorem P67 (far_1:List (List Int)) (a_2:Int) (b_3:Int) (r_4:Int) (h:M67 far_1 a_2 b_3=some r_4) :
    PC prog 57 [(.ls (List.map (eL eI) far_1)),(.i .i64 a_2),(.i .i64 b_3)] (fun rs=>rs=[(.i .i64 r_4)]):=by
 refine PC.of_tr (cx:=⟨14,none,lay,0⟩) layOK func57 rfl rfl rfl rfl rfl (by simp [f57]) ?_
 unfold M67 at h
 refine sg ?_
 conv=>whnf
 refine sg ?_
 conv=>whnf
 obtain ⟨x_5,hx_5,h⟩:=bS h
 refine ixP_of hx_5 ?_
 conv=>whnf
 obtain ⟨x_6,hx_6,h⟩:=bS h
 refine ixP_of hx_6 ?_
 conv=>whnf
 refine Tr.ret ?_
 conv=>whnf
 cases h
 rfl
theorem P68 (x_1:TOutcome) (r_2:Int) (h:M68 x_1=some r_2) :
    PC prog 55 [(eTOutcome x_1)] (fun rs=>rs=[(.i .i64 r_2)]):=by
 refine PC.of_tr (cx:=⟨5,none,lay,0⟩) layOK func55 rfl rfl rfl rfl rfl (by simp [f55]) ?_
 unfold M68 at h
 refine sg ?_
 conv=>whnf
 refine sg ?_
 conv=>whnf
 refine Tr.ret ?_
 conv=>whnf
 cases h
 rfl
theorem P71 (s_1:List Int) (s_2:List Int) (r_3:Int) (h:M71 s_1 s_2=some r_3) :
    PC prog 59 [(.ls (List.map eI s_1)),(.ls (List.map eI s_2))] (fun rs=>rs=[(.i .i64 r_3)]):=by
 refine PC.of_tr (cx:=⟨36,none,lay,0⟩) layOK func59 rfl rfl rfl rfl rfl (by simp [f59]) ?_
 unfold M71 at h
 refine sg ?_
 conv=>whnf
 refine Tr.seq ?_
 refine sg ?_
 conv=>whnf
 refine lnS_map ?_
 conv=>whnf
 refine Tr.cutQ (α:=Unit) (fun s=>([(0,.d (.ls (List.map eI s_1))),(1,.d (.ls (List.map eI s_2))),(4,(dI 0))],[])) (fun s=>M70 s_1 s_2 s=some r_3) ?_ ?_
 ·refine Tr.block ?_
  refine Tr.loopM (σ:=Int) (fun n s=>M69 s_1 s_2 (M70 s_1 s_2) n s) r_3 (fun s=>([(0,.d (.ls (List.map eI s_1))),(1,.d (.ls (List.map eI s_2))),(4,(dI 0)),(9,.d (.ls (List.map eI s_1))),(10,(dI (((s_1).length:Int)))),(11,(dI s))],[])) (((((s_1).length:Int)) - 0:Int).toNat+1) (0) h (fun s=>rfl) (Wk.mk2 [] 0 rfl rfl (by decide) rfl trivial ⟨rr,rr,rr,rr,rr,rr,trivial⟩) ?_
  clear h
  rintro n_6 v_5 h
  replace h:M69 s_1 s_2 (M70 s_1 s_2) (n_6+1) v_5=some r_3:=h
  rw [M69] at h
  refine sg ?_
  conv=>whnf
  refine Tr.seq ?_
  refine Tr.cond ?_
  conv=>whnf
  refine cB h (fun hb9 h=>?_) (fun hb9 h=>?_)
  ·refine Tr.skip ?_
   conv=>whnf
   refine Tr.seq ?_
   refine Tr.block ?_
   refine sg ?_
   conv=>whnf
   obtain ⟨x_10,hx_10,h⟩:=bS h
   refine ixP_of hx_10 ?_
   conv=>whnf
   refine Tr.seq ?_
   refine sg ?_
   conv=>whnf
   refine lnS_map ?_
   conv=>whnf
   refine Tr.cond ?_
   conv=>whnf
   refine cB h (fun hb11 h=>?_) (fun hb11 h=>?_)
   ·refine sg ?_
    conv=>whnf
    refine Tr.ret ?_
    conv=>whnf
    cases h
    rfl
   refine Tr.skip ?_
   conv=>whnf
   refine sg ?_
   conv=>whnf
   obtain ⟨x_12,hx_12,h⟩:=bS h
   refine ixP_of hx_12 ?_
   conv=>whnf
   refine sg ?_
   conv=>whnf
   obtain ⟨r_13,hc14,h⟩:=bS h
   refine PC.ecall (P4 x_10 x_12 r_13 hc14) (fun rs hrs=>?_)
   subst hrs
   conv=>whnf
   refine sg ?_
   conv=>whnf
   refine Tr.cond ?_
   conv=>whnf
   refine cB h (fun hb15 h=>?_) (fun hb15 h=>?_)
   ·refine sg ?_
    conv=>whnf
    refine Tr.ret ?_
    conv=>whnf
    cases h
    rfl
   refine Tr.skip ?_
   conv=>whnf
   refine rg ?_
   conv=>whnf
   refine arS_raw ?_
   conv=>whnf
   refine ⟨((w64 (v_5+1))),h,?_⟩
   exact Wk.mk2 [] 0 rfl rfl (by decide) rfl trivial ⟨rr,rr,rr,rr,rr,rr,trivial⟩
  refine Tr.exit ?_
  conv=>whnf
  refine ⟨(),h,?_⟩
  exact Wk.mk2 [] 0 rfl rfl (by decide) rfl trivial ⟨rr,rr,rr,trivial⟩
 clear h
 rintro _ h T1 H1 hw
 replace h:M70 s_1 s_2 ()=some r_3:=h
 conv=>whnf
 refine Tr.weak hw ?_
 unfold M70 at h
 refine Tr.seq ?_
 refine sg ?_
 conv=>whnf
 refine lnS_map ?_
 conv=>whnf
 refine lnS_map ?_
 conv=>whnf
 refine Tr.cond ?_
 conv=>whnf
 refine cB h (fun hb16 h=>?_) (fun hb16 h=>?_)
 ·refine sg ?_
  conv=>whnf
  refine Tr.ret ?_
  conv=>whnf
  cases h
  rfl
 refine Tr.skip ?_
 conv=>whnf
 refine sg ?_
 conv=>whnf
 refine Tr.ret ?_
 conv=>whnf
 cases h
 rfl
theorem P72 (f_1:TField) (runner_2:Int) (x_3:TOutcome) (rival_4:Int) (y_5:TOutcome) (r_6:Bool) (h:M72 f_1 runner_2 x_3 rival_4 y_5=some r_6) :
    PC prog 36 [(.ag [(.fn 55 []),(.fn 56 []),(.fn 57 []),(.fn 58 [])]),(eTField f_1),(.i .i64 runner_2),(eTOutcome x_3),(.i .i64 rival_4),(eTOutcome y_5)] (fun rs=>rs=[(.b r_6)]):=by
 refine PC.of_tr (cx:=⟨60,none,lay,0⟩) layOK func36 rfl rfl rfl rfl rfl (by simp [f36]) ?_
 unfold M72 at h
 refine sg ?_
 conv=>whnf
 refine Tr.seq ?_
 refine sg ?_
 conv=>whnf
 refine Tr.cond ?_
 conv=>whnf
 refine cB h (fun hb7 h=>?_) (fun hb7 h=>?_)
 ·refine sg ?_
  conv=>whnf
  refine Tr.ret ?_
  conv=>whnf
  cases h
  rfl
 refine Tr.skip ?_
 conv=>whnf
 refine sd [] [(0,3),(1,3),(2,6),(3,1),(4,3),(5,3),(6,4),(7,4),(8,4),(9,5),(10,5),(11,1),(12,6),(13,6),(14,1),(15,1),(16,1),(17,3),(18,3),(19,5),(20,1),(21,1),(22,1)] ?_
 conv=>whnf
 refine q2 ?_
 conv=>whnf
 refine q2 ?_
 conv=>whnf
 refine q2 ?_
 conv=>whnf
 obtain ⟨r_8,hc9,h⟩:=bS h
 refine q1 ?_ (fun _=>pe (P66 y_5 r_8 hc9) rr)
 conv=>whnf
 refine q2 ?_
 conv=>whnf
 refine q2 ?_
 conv=>whnf
 refine q2 ?_
 conv=>whnf
 refine q2 ?_
 conv=>whnf
 refine q2 ?_
 conv=>whnf
 refine q2 ?_
 conv=>whnf
 refine q2 ?_
 conv=>whnf
 refine q4 ?_
 conv=>whnf
 refine q2 ?_
 conv=>whnf
 refine q2 ?_
 conv=>whnf
 refine q4 ?_
 conv=>whnf
 obtain ⟨r_10,hc11,h⟩:=bS h
 refine q1 ?_ (fun _=>pe (P67 f_1.Clocks.Far ((w64 (x_3.Seg+1))) ((w64 (y_5.Seg+1))) r_10 hc11) rr)
 conv=>whnf
 refine q4 ?_
 conv=>whnf
 refine q2 ?_
 conv=>whnf
 refine q2 ?_
 conv=>whnf
 refine q2 ?_
 conv=>whnf
 obtain ⟨r_12,hc13,h⟩:=bS h
 refine q1 ?_ (fun _=>pe (P68 x_3 r_12 hc13) rr)
 conv=>whnf
 refine q4 ?_
 conv=>whnf
 refine q1 ?_
 conv=>whnf
 refine sd [] [(0,1),(1,1),(2,1),(3,1),(4,1),(5,1),(6,4),(7,4),(8,1),(9,2),(10,2),(11,2),(12,4),(13,4),(14,1),(15,2),(16,2),(17,2),(18,1),(19,1),(20,1),(21,1),(22,1)] ?_
 conv=>whnf
 refine q1 ?_
 conv=>whnf
 refine q1 ?_
 conv=>whnf
 refine q1 ?_
 conv=>whnf
 refine cB h (fun hb14 h=>?_) (fun hb14 h=>?_)
 ·conv=>whnf
  refine q1 ?_
  conv=>whnf
  refine q1 ?_
  conv=>whnf
  refine Tr.ret ?_
  conv=>whnf
  cases h
  rfl
 conv=>whnf
 refine q1 ?_
 conv=>whnf
 refine q1 ?_
 conv=>whnf
 refine q1 ?_
 conv=>whnf
 refine cB h (fun hb15 h=>?_) (fun hb15 h=>?_)
 ·conv=>whnf
  refine q2 ?_
  conv=>whnf
  refine q2 ?_
  conv=>whnf
  refine q1 ?_
  conv=>whnf
  obtain ⟨x_16,hx_16,h⟩:=bS h
  refine q3 (ixP_of hx_16 rr) ?_
  conv=>whnf
  refine q2 ?_
  conv=>whnf
  refine q2 ?_
  conv=>whnf
  refine q2 ?_
  conv=>whnf
  refine q2 ?_
  conv=>whnf
  refine q1 ?_
  conv=>whnf
  obtain ⟨x_17,hx_17,h⟩:=bS h
  refine q3 (ixP_of hx_17 rr) ?_
  conv=>whnf
  refine q2 ?_
  conv=>whnf
  refine q2 ?_
  conv=>whnf
  obtain ⟨r_18,hc19,h⟩:=bS h
  refine q1 ?_ (fun _=>pe (P71 x_16.Keys x_17.Keys r_18 hc19) rr)
  conv=>whnf
  refine q1 ?_
  conv=>whnf
  refine q1 ?_
  conv=>whnf
  refine q1 ?_
  conv=>whnf
  refine q1 ?_
  conv=>whnf
  refine Tr.ret ?_
  conv=>whnf
  cases h
  rfl
 conv=>whnf
 refine q1 ?_
 conv=>whnf
 refine q1 ?_
 conv=>whnf
 refine q1 ?_
 conv=>whnf
 refine Tr.ret ?_
 conv=>whnf
 cases h
 rfl
theorem P75 (f_1:TField) (w_2:Int) (runner_3:Int) (x_4:TOutcome) (rival_5:Int) (r_6:Int) (r_7:Bool) (h:M75 f_1 w_2 runner_3 x_4 rival_5=some (r_6,r_7)) :
    PC prog 81 [(.ag [(.fn 55 []),(.fn 56 []),(.fn 57 []),(.fn 58 [])]),(eTField f_1),(.i .i64 w_2),(.i .i64 runner_3),(eTOutcome x_4),(.i .i64 rival_5)] (fun rs=>rs=[(.i .i64 r_6),(.b r_7)]):=by
 refine PC.of_tr (cx:=⟨49,none,lay,0⟩) layOK func81 rfl rfl rfl rfl rfl (by simp [f81]) ?_
 unfold M75 at h
 refine sg ?_
 conv=>whnf
 refine sg ?_
 conv=>whnf
 obtain ⟨r_8,hc9,h⟩:=bS h
 refine PC.ecall (P65 2 1 r_8 hc9) (fun rs hrs=>?_)
 subst hrs
 conv=>whnf
 refine Tr.seq ?_
 refine sg ?_
 conv=>whnf
 obtain ⟨x_10,hx_10,h⟩:=bS h
 refine ixP_of hx_10 ?_
 conv=>whnf
 obtain ⟨x_11,hx_11,h⟩:=bS h
 refine ixP_of hx_11 ?_
 conv=>whnf
 refine lnS_map ?_
 conv=>whnf
 refine Tr.cutQ (α:=Unit) (fun s=>([(12,(dI 0)),(13,.d (.b false)),(14,.d (.b r_8))],[])) (fun s=>M74 r_8 s=some (r_6,r_7)) ?_ ?_
 ·refine Tr.block ?_
  refine Tr.loopM (σ:=Int) (fun n s=>M73 f_1 runner_3 x_4 rival_5 r_8 x_11 (M74 r_8) n s) (r_6,r_7) (fun s=>([(3,(dI runner_3)),(5,(dI rival_5)),(6,.pt 0 0),(7,.pt 1 0),(10,.pt 2 0),(12,(dI 0)),(13,.d (.b false)),(14,.d (.b r_8)),(28,.d (.ls (List.map eTOutcome x_11))),(29,(dI (((x_11).length:Int)))),(30,(dI s))],[some (.var [.d (.fn 55 []),.d (.fn 56 []),.d (.fn 57 []),.d (.fn 58 [])]),some (.var [.d (.ls (List.map eTSegment f_1.Clocks.Segments)),.d (.ls (List.map (eL eI) f_1.Clocks.Far)),.d (.ls (List.map eTPair f_1.Pairs)),.d (.ls (List.map eTRunner f_1.Runners))]),some (.var [.d (.b x_4.Out),(dI x_4.Seg),(dI x_4.Lo),(dI x_4.Hi)])])) (((((x_11).length:Int)) - 0:Int).toNat+1) (0) h (fun s=>rfl) (Wk.mk2 [0,1,2] 3 rfl rfl (by decide) rfl ⟨rr,rr,rr,trivial⟩ ⟨rr,rr,rr,rr,rr,rr,rr,rr,rr,rr,rr,trivial⟩) ?_
  clear h
  rintro n_14 v_13 h
  replace h:M73 f_1 runner_3 x_4 rival_5 r_8 x_11 (M74 r_8) (n_14+1) v_13=some (r_6,r_7):=h
  rw [M73] at h
  refine sg ?_
  conv=>whnf
  refine Tr.seq ?_
  refine Tr.cond ?_
  conv=>whnf
  refine cB h (fun hb17 h=>?_) (fun hb17 h=>?_)
  ·refine Tr.skip ?_
   conv=>whnf
   refine Tr.seq ?_
   refine Tr.block ?_
   refine sg ?_
   conv=>whnf
   obtain ⟨x_18,hx_18,h⟩:=bS h
   refine ixP_of hx_18 ?_
   conv=>whnf
   refine sg ?_
   conv=>whnf
   obtain ⟨r_19,hc20,h⟩:=bS h
   refine PC.ecall (P72 f_1 runner_3 x_4 rival_5 x_18 r_19 hc20) (fun rs hrs=>?_)
   subst hrs
   conv=>whnf
   refine Tr.cond ?_
   conv=>whnf
   refine cB h (fun hb21 h=>?_) (fun hb21 h=>?_)
   ·refine sg ?_
    conv=>whnf
    refine Tr.ret ?_
    conv=>whnf
    cases h
    rfl
   refine Tr.skip ?_
   conv=>whnf
   refine rg ?_
   conv=>whnf
   refine arS_raw ?_
   conv=>whnf
   refine ⟨((w64 (v_13+1))),h,?_⟩
   exact Wk.mk2 [0,1,2] 4 rfl rfl (by decide) rfl ⟨rr,rr,rr,trivial⟩ ⟨rr,rr,rr,rr,rr,rr,rr,rr,rr,rr,rr,trivial⟩
  refine Tr.exit ?_
  conv=>whnf
  refine ⟨(),h,?_⟩
  exact Wk.mk2 [] 3 rfl rfl (by decide) rfl trivial ⟨rr,rr,rr,trivial⟩
 clear h
 rintro _ h T1 H1 hw
 replace h:M74 r_8 ()=some (r_6,r_7):=h
 conv=>whnf
 refine Tr.weak hw ?_
 unfold M74 at h
 refine sg ?_
 conv=>whnf
 refine Tr.ret ?_
 conv=>whnf
 cases h
 rfl
theorem P79 (f_1:TField) (runner_2:Int) (r_3:Tranks_place) (r_4:Bool) (h:M79 f_1 runner_2=some (r_3,r_4)) :
    PC prog 68 [(.ag [(.fn 55 []),(.fn 56 []),(.fn 57 []),(.fn 58 [])]),(eTField f_1),(.i .i64 runner_2)] (fun rs=>rs=[(eTranks_place r_3),(.b r_4)]):=by
 refine PC.of_tr (cx:=⟨75,none,lay,0⟩) layOK func68 rfl rfl rfl rfl rfl (by simp [f68]) ?_
 unfold M79 at h
 refine sg ?_
 conv=>whnf
 refine Tr.seq ?_
 refine sg ?_
 conv=>whnf
 obtain ⟨⟨c_5,c_6,c_7,c_8⟩,hc9,h⟩:=bS h
 refine PC.ecall (P50 f_1 c_5 c_6 c_7 c_8 hc9) (fun rs hrs=>?_)
 subst hrs
 conv=>whnf
 obtain ⟨l_10,hl11,h⟩:=bS h
 obtain ⟨⟨v_66,v_67,v_68,v_69⟩,hv70,h⟩:=bS h
 refine Tr.block ?_
 refine Tr.rangeM layOK rfl (ge:=fun a=>[(.i .i64 a)]) rfl (P58 c_5 c_6 c_7 c_8 l_10 hl11) (fun _=>rfl) rfl (fun s=>[some (.var [.d (.fn 55 []),.d (.fn 56 []),.d (.fn 57 []),.d (.fn 58 [])]),some (.var [.d (.ls (List.map eTSegment f_1.Clocks.Segments)),.d (.ls (List.map (eL eI) f_1.Clocks.Far)),.d (.ls (List.map eTPair f_1.Pairs)),.d (.ls (List.map eTRunner f_1.Runners))]),some (.var [(dI runner_2)]),some (.var [(dI s.1),(dI s.2.1),(dI s.2.2.1)]),some (.var [.d (.b s.2.2.2)])]) (M78 f_1 runner_2) (0,0,0,false) (v_66,v_67,v_68,v_69) hv70 (Wk.mk2 [0,1,2,3,4] 5 rfl rfl (by decide) rfl ⟨⟨rfl,rfl⟩,⟨rfl,rfl⟩,⟨rfl,rfl⟩,⟨rfl,rfl⟩,⟨rfl,rfl⟩,trivial⟩ trivial) ?_ ?_
 ·clear h hv70
  rintro li y_12 ⟨v_17,v_18,v_19,v_20⟩ s_21 ha h
  replace h:(M78 f_1 runner_2) y_12 (v_17,v_18,v_19,v_20)=some s_21:=h
  unfold M78 at h
  dsimp only at h
  conv=>whnf
  refine TrE.region layOK ?_
  conv=>whnf
  refine Tr.block ?_
  refine sg ?_
  conv=>whnf
  obtain ⟨x_22,hx_22,h⟩:=bS h
  refine ixP_of hx_22 ?_
  conv=>whnf
  obtain ⟨x_23,hx_23,h⟩:=bS h
  refine ixP_of hx_23 ?_
  conv=>whnf
  refine lnS_map ?_
  conv=>whnf
  obtain ⟨⟨v_35,v_36,v_37,v_38⟩,hv65,h⟩:=bS h
  refine Tr.cutQ1 ([]) ([some (.var [.d (.fn 55 []),.d (.fn 56 []),.d (.fn 57 []),.d (.fn 58 [])]),some (.var [.d (.ls (List.map eTSegment f_1.Clocks.Segments)),.d (.ls (List.map (eL eI) f_1.Clocks.Far)),.d (.ls (List.map eTPair f_1.Pairs)),.d (.ls (List.map eTRunner f_1.Runners))]),some (.var [(dI runner_2)]),some (.var [(dI v_35),(dI v_36),(dI v_37)]),some (.var [.d (.b v_38)])]) ?_ (fun T1 H1 hw=>?_)
  ·replace h:=hv65; clear hv65
   refine Tr.block ?_
   refine Tr.loopM (σ:=Int × Int × Int × Int × Bool) (fun n s=>M77 f_1 runner_2 y_12 x_23 n s.1 s.2.1 s.2.2.1 s.2.2.2.1 s.2.2.2.2) (v_35,v_36,v_37,v_38) (fun s=>([(3,.pt 0 0),(4,.pt 1 0),(5,.pt 2 0),(6,.pt 3 0),(7,.pt 4 0),(8,(dI y_12)),(26,.d (.ls (List.map eTOutcome x_23))),(27,(dI (((x_23).length:Int)))),(28,(dI s.1))],[some (.var [.d (.fn 55 []),.d (.fn 56 []),.d (.fn 57 []),.d (.fn 58 [])]),some (.var [.d (.ls (List.map eTSegment f_1.Clocks.Segments)),.d (.ls (List.map (eL eI) f_1.Clocks.Far)),.d (.ls (List.map eTPair f_1.Pairs)),.d (.ls (List.map eTRunner f_1.Runners))]),some (.var [(dI runner_2)]),some (.var [(dI s.2.1),(dI s.2.2.1),(dI s.2.2.2.1)]),some (.var [.d (.b s.2.2.2.2)])])) (((((x_23).length:Int)) - 0:Int).toNat+1) (0,v_17,v_18,v_19,v_20) h (fun s=>rfl) (Wk.mk2 [0,1,2,3,4] 5 rfl rfl (by decide) rfl ⟨rr,rr,rr,rr,rr,trivial⟩ ⟨rr,rr,rr,rr,rr,rr,rr,rr,rr,trivial⟩) ?_
   clear h
   rintro n_34 ⟨v_29,v_30,v_31,v_32,v_33⟩ h
   replace h:M77 f_1 runner_2 y_12 x_23 (n_34+1) v_29 v_30 v_31 v_32 v_33=some (v_35,v_36,v_37,v_38):=h
   rw [M77] at h
   refine sg ?_
   conv=>whnf
   refine Tr.seq ?_
   refine Tr.cond ?_
   conv=>whnf
   refine cB h (fun hb41 h=>?_) (fun hb41 h=>?_)
   ·refine Tr.skip ?_
    conv=>whnf
    refine Tr.seq ?_
    refine Tr.block ?_
    refine sg ?_
    conv=>whnf
    obtain ⟨x_42,hx_42,h⟩:=bS h
    refine ixP_of hx_42 ?_
    conv=>whnf
    refine Tr.seq ?_
    refine sg ?_
    conv=>whnf
    refine Tr.cond ?_
    conv=>whnf
    refine cB h (fun hb43 h=>?_) (fun hb43 h=>?_)
    ·refine Tr.exit ?_
     conv=>whnf
     refine rg ?_
     conv=>whnf
     refine arS_raw ?_
     conv=>whnf
     refine ⟨((w64 (v_29+1)),v_30,v_31,v_32,v_33),h,?_⟩
     exact Wk.mk2 [0,1,2,3,4] 6 rfl rfl (by decide) rfl ⟨rr,rr,rr,rr,rr,trivial⟩ ⟨rr,rr,rr,rr,rr,rr,rr,rr,rr,trivial⟩
    refine Tr.skip ?_
    conv=>whnf
    refine sg ?_
    conv=>whnf
    refine Tr.seq ?_
    refine sg ?_
    conv=>whnf
    refine lnS_map ?_
    conv=>whnf
    obtain ⟨n_49,hv58,h⟩:=bS h
    refine Tr.cutQ1 ([(3,.pt 0 0),(4,.pt 1 0),(5,.pt 2 0),(6,.pt 3 0),(7,.pt 4 0),(8,(dI y_12)),(9,(dI v_29)),(11,(dI n_49)),(26,.d (.ls (List.map eTOutcome x_23))),(27,(dI (((x_23).length:Int)))),(28,(dI v_29))]) ([some (.var [.d (.fn 55 []),.d (.fn 56 []),.d (.fn 57 []),.d (.fn 58 [])]),some (.var [.d (.ls (List.map eTSegment f_1.Clocks.Segments)),.d (.ls (List.map (eL eI) f_1.Clocks.Far)),.d (.ls (List.map eTPair f_1.Pairs)),.d (.ls (List.map eTRunner f_1.Runners))]),some (.var [(dI runner_2)]),some (.var [(dI v_30),(dI v_31),(dI v_32)]),some (.var [.d (.b v_33)])]) ?_ (fun T1 H1 hw=>?_)
    ·replace h:=hv58; clear hv58
     refine Tr.block ?_
     refine Tr.loopM (σ:=Int × Int) (fun n s=>M76 f_1 runner_2 y_12 x_42 n s.1 s.2) n_49 (fun s=>([(3,.pt 0 0),(4,.pt 1 0),(5,.pt 2 0),(6,.pt 3 0),(7,.pt 4 0),(8,(dI y_12)),(9,(dI v_29)),(10,.pt 5 0),(11,(dI s.1)),(26,.d (.ls (List.map eTOutcome x_23))),(27,(dI (((x_23).length:Int)))),(28,(dI v_29)),(37,(dI (((f_1.Runners).length:Int)))),(38,(dI s.2))],[some (.var [.d (.fn 55 []),.d (.fn 56 []),.d (.fn 57 []),.d (.fn 58 [])]),some (.var [.d (.ls (List.map eTSegment f_1.Clocks.Segments)),.d (.ls (List.map (eL eI) f_1.Clocks.Far)),.d (.ls (List.map eTPair f_1.Pairs)),.d (.ls (List.map eTRunner f_1.Runners))]),some (.var [(dI runner_2)]),some (.var [(dI v_30),(dI v_31),(dI v_32)]),some (.var [.d (.b v_33)]),some (.var [.d (.b x_42.Out),(dI x_42.Seg),(dI x_42.Lo),(dI x_42.Hi)])])) (((((f_1.Runners).length:Int)) - 0:Int).toNat+1) (1,0) h (fun s=>rfl) (Wk.mk2 [0,1,2,3,4,5] 6 rfl rfl (by decide) rfl ⟨rr,rr,rr,rr,rr,rr,trivial⟩ ⟨rr,rr,rr,rr,rr,rr,rr,rr,rr,rr,rr,rr,rr,rr,trivial⟩) ?_
     clear h
     rintro n_48 ⟨n_46,v_47⟩ h
     replace h:M76 f_1 runner_2 y_12 x_42 (n_48+1) n_46 v_47=some n_49:=h
     rw [M76] at h
     refine sg ?_
     conv=>whnf
     refine Tr.seq ?_
     refine Tr.cond ?_
     conv=>whnf
     refine cB h (fun hb52 h=>?_) (fun hb52 h=>?_)
     ·refine Tr.skip ?_
      conv=>whnf
      refine Tr.seq ?_
      refine Tr.block ?_
      refine sg ?_
      conv=>whnf
      refine Tr.seq ?_
      refine sg ?_
      conv=>whnf
      refine Tr.cond ?_
      conv=>whnf
      refine cB h (fun hb53 h=>?_) (fun hb53 h=>?_)
      ·refine Tr.exit ?_
       conv=>whnf
       refine rg ?_
       conv=>whnf
       refine arS_raw ?_
       conv=>whnf
       refine ⟨(n_46,(w64 (v_47+1))),h,?_⟩
       exact Wk.mk2 [0,1,2,3,4,5] 6 rfl rfl (by decide) rfl ⟨rr,rr,rr,rr,rr,rr,trivial⟩ ⟨rr,rr,rr,rr,rr,rr,rr,rr,rr,rr,rr,rr,rr,rr,trivial⟩
      refine Tr.skip ?_
      conv=>whnf
      refine sg ?_
      conv=>whnf
      obtain ⟨⟨r_54,r_55⟩,hc56,h⟩:=bS h
      refine PC.ecall (P75 f_1 y_12 runner_2 x_42 v_47 r_54 r_55 hc56) (fun rs hrs=>?_)
      subst hrs
      conv=>whnf
      refine sg ?_
      conv=>whnf
      refine Tr.cond ?_
      conv=>whnf
      refine cB h (fun hb57 h=>?_) (fun hb57 h=>?_)
      ·refine rg ?_
       conv=>whnf
       refine arS_raw ?_
       conv=>whnf
       refine rg ?_
       conv=>whnf
       refine arS_raw ?_
       conv=>whnf
       refine ⟨((w64 (n_46+1)),(w64 (v_47+1))),h,?_⟩
       exact Wk.mk2 [0,1,2,3,4,5] 6 rfl rfl (by decide) rfl ⟨rr,rr,rr,rr,rr,rr,trivial⟩ ⟨rr,rr,rr,rr,rr,rr,rr,rr,rr,rr,rr,rr,rr,rr,trivial⟩
      refine Tr.skip ?_
      conv=>whnf
      refine rg ?_
      conv=>whnf
      refine arS_raw ?_
      conv=>whnf
      refine ⟨(n_46,(w64 (v_47+1))),h,?_⟩
      exact Wk.mk2 [0,1,2,3,4,5] 6 rfl rfl (by decide) rfl ⟨rr,rr,rr,rr,rr,rr,trivial⟩ ⟨rr,rr,rr,rr,rr,rr,rr,rr,rr,rr,rr,rr,rr,rr,trivial⟩
     refine Tr.exit ?_
     conv=>whnf
     cases h
     exact Wk.mk2 [0,1,2,3,4] 6 rfl rfl (by decide) rfl ⟨rr,rr,rr,rr,rr,trivial⟩ ⟨rr,rr,rr,rr,rr,rr,rr,rr,rr,rr,rr,trivial⟩
    clear hv58
    conv=>whnf
    refine Tr.weak hw ?_
    refine Tr.seq ?_
    obtain ⟨v_59,hv60,h⟩:=bS h
    refine Tr.cutQ1 ([(3,.pt 0 0),(4,.pt 1 0),(5,.pt 2 0),(6,.pt 3 0),(7,.pt 4 0),(8,(dI y_12)),(9,(dI v_29)),(11,(dI n_49)),(26,.d (.ls (List.map eTOutcome x_23))),(27,(dI (((x_23).length:Int)))),(28,(dI v_29)),(67,.d (.b v_59))]) ([some (.var [.d (.fn 55 []),.d (.fn 56 []),.d (.fn 57 []),.d (.fn 58 [])]),some (.var [.d (.ls (List.map eTSegment f_1.Clocks.Segments)),.d (.ls (List.map (eL eI) f_1.Clocks.Far)),.d (.ls (List.map eTPair f_1.Pairs)),.d (.ls (List.map eTRunner f_1.Runners))]),some (.var [(dI runner_2)]),some (.var [(dI v_30),(dI v_31),(dI v_32)]),some (.var [.d (.b v_33)])]) ?_ (fun T1 H1 hw=>?_)
    ·replace h:=hv60; clear hv60
     refine rg ?_
     conv=>whnf
     refine cB h (fun hb61 h=>?_) (fun hb61 h=>?_)
     ·conv=>whnf
      cases h
      exact Wk.mk2 [0,1,2,3,4] 5 rfl rfl (by decide) rfl ⟨rr,rr,rr,rr,rr,trivial⟩ ⟨rr,rr,rr,rr,rr,rr,rr,rr,rr,rr,rr,rr,trivial⟩
     conv=>whnf
     obtain ⟨r_62,hc63,h⟩:=bS h
     refine PC.ecall (P65 n_49 v_32 r_62 hc63) (fun rs hrs=>?_)
     subst hrs
     conv=>whnf
     cases h
     exact Wk.mk2 [0,1,2,3,4] 5 rfl rfl (by decide) rfl ⟨rr,rr,rr,rr,rr,trivial⟩ ⟨rr,rr,rr,rr,rr,rr,rr,rr,rr,rr,rr,rr,trivial⟩
    clear hv60
    conv=>whnf
    refine Tr.weak hw ?_
    refine Tr.cond ?_
    conv=>whnf
    refine cB h (fun hb64 h=>?_) (fun hb64 h=>?_)
    ·refine rg ?_
     conv=>whnf
     refine rg ?_
     conv=>whnf
     refine arS_raw ?_
     conv=>whnf
     refine ⟨((w64 (v_29+1)),y_12,v_29,n_49,true),h,?_⟩
     exact Wk.mk2 [0,1,2,3,4] 5 rfl rfl (by decide) rfl ⟨rr,rr,rr,rr,rr,trivial⟩ ⟨rr,rr,rr,rr,rr,rr,rr,rr,rr,trivial⟩
    refine Tr.skip ?_
    conv=>whnf
    refine rg ?_
    conv=>whnf
    refine arS_raw ?_
    conv=>whnf
    refine ⟨((w64 (v_29+1)),v_30,v_31,v_32,v_33),h,?_⟩
    exact Wk.mk2 [0,1,2,3,4] 5 rfl rfl (by decide) rfl ⟨rr,rr,rr,rr,rr,trivial⟩ ⟨rr,rr,rr,rr,rr,rr,rr,rr,rr,trivial⟩
   refine Tr.exit ?_
   conv=>whnf
   cases h
   exact Wk.mk2 [0,1,2,3,4] 5 rfl rfl (by decide) rfl ⟨rr,rr,rr,rr,rr,trivial⟩ trivial
  clear hv65
  conv=>whnf
  cases h
  refine Wk.trans (F:=5) hw ?_
  exact Wk.mk2 [0,1,2,3,4] 5 rfl rfl (by decide) rfl ⟨rr,rr,rr,rr,rr,trivial⟩ trivial
 clear hv70
 conv=>whnf
 refine sd [(2,3),(3,4)] [(0,6),(1,7),(2,0),(3,0)] ?_
 conv=>whnf
 refine q2 ?_
 conv=>whnf
 refine q2 ?_
 conv=>whnf
 refine ⟨_,_,rr,kp_ok (by repeat (first | exact trivial | refine ⟨trivial,?_⟩ | refine ⟨rfl,?_⟩)),?_⟩
 conv=>whnf
 refine ⟨_,_,rr,kp_ok (by repeat (first | exact trivial | refine ⟨trivial,?_⟩ | refine ⟨rfl,?_⟩)),?_⟩
 conv=>whnf
 refine Tr.ret ?_
 conv=>whnf
 cases h
 rfl
theorem P80 (h:M80=some ()) :
    PC prog 37 [] (fun rs=>rs=[(.ag [(.fn 56 []),(.fn 55 []),(.fn 60 []),(.fn 61 [])])]):=by
 refine PC.of_tr (cx:=⟨2,none,lay,0⟩) layOK func37 rfl rfl rfl rfl rfl (by simp [f37]) ?_
 unfold M80 at h
 refine sg ?_
 conv=>whnf
 refine sg ?_
 conv=>whnf
 refine Tr.ret ?_
 conv=>whnf
theorem P81 (n_1:Int) (m_2:Int) (r_3:Bool) (h:M81 n_1 m_2=some r_3) :
    PC prog 61 [(.i .i64 n_1),(.i .i64 m_2)] (fun rs=>rs=[(.b r_3)]):=by
 refine PC.of_tr (cx:=⟨8,none,lay,0⟩) layOK func61 rfl rfl rfl rfl rfl (by simp [f61]) ?_
 unfold M81 at h
 refine sg ?_
 conv=>whnf
 refine sg ?_
 conv=>whnf
 refine Tr.ret ?_
 conv=>whnf
 cases h
 rfl
theorem P82 (far_1:List (List Int)) (a_2:Int) (b_3:Int) (r_4:Int) (h:M82 far_1 a_2 b_3=some r_4) :
    PC prog 60 [(.ls (List.map (eL eI) far_1)),(.i .i64 a_2),(.i .i64 b_3)] (fun rs=>rs=[(.i .i64 r_4)]):=by
 refine PC.of_tr (cx:=⟨15,none,lay,0⟩) layOK func60 rfl rfl rfl rfl rfl (by simp [f60]) ?_
 unfold M82 at h
 refine sg ?_
 conv=>whnf
 refine sg ?_
 conv=>whnf
 obtain ⟨x_5,hx_5,h⟩:=bS h
 refine ixP_of hx_5 ?_
 conv=>whnf
 obtain ⟨x_6,hx_6,h⟩:=bS h
 refine ixP_of hx_6 ?_
 conv=>whnf
 refine arS_raw ?_
 conv=>whnf
 refine Tr.ret ?_
 conv=>whnf
 cases h
 rfl
theorem P83 (f_1:TField) (runner_2:Int) (x_3:TOutcome) (rival_4:Int) (y_5:TOutcome) (r_6:Bool) (h:M83 f_1 runner_2 x_3 rival_4 y_5=some r_6) :
    PC prog 36 [(.ag [(.fn 56 []),(.fn 55 []),(.fn 60 []),(.fn 61 [])]),(eTField f_1),(.i .i64 runner_2),(eTOutcome x_3),(.i .i64 rival_4),(eTOutcome y_5)] (fun rs=>rs=[(.b r_6)]):=by
 refine PC.of_tr (cx:=⟨60,none,lay,0⟩) layOK func36 rfl rfl rfl rfl rfl (by simp [f36]) ?_
 unfold M83 at h
 refine sg ?_
 conv=>whnf
 refine Tr.seq ?_
 refine sg ?_
 conv=>whnf
 refine Tr.cond ?_
 conv=>whnf
 refine cB h (fun hb7 h=>?_) (fun hb7 h=>?_)
 ·refine sg ?_
  conv=>whnf
  refine Tr.ret ?_
  conv=>whnf
  cases h
  rfl
 refine Tr.skip ?_
 conv=>whnf
 refine sd [] [(0,3),(1,3),(2,6),(3,1),(4,3),(5,3),(6,4),(7,4),(8,4),(9,5),(10,5),(11,1),(12,6),(13,6),(14,1),(15,1),(16,1),(17,3),(18,3),(19,5),(20,1),(21,1),(22,1)] ?_
 conv=>whnf
 refine q2 ?_
 conv=>whnf
 refine q2 ?_
 conv=>whnf
 refine q2 ?_
 conv=>whnf
 obtain ⟨r_8,hc9,h⟩:=bS h
 refine q1 ?_ (fun _=>pe (P68 y_5 r_8 hc9) rr)
 conv=>whnf
 refine q2 ?_
 conv=>whnf
 refine q2 ?_
 conv=>whnf
 refine q2 ?_
 conv=>whnf
 refine q2 ?_
 conv=>whnf
 refine q2 ?_
 conv=>whnf
 refine q2 ?_
 conv=>whnf
 refine q2 ?_
 conv=>whnf
 refine q4 ?_
 conv=>whnf
 refine q2 ?_
 conv=>whnf
 refine q2 ?_
 conv=>whnf
 refine q4 ?_
 conv=>whnf
 obtain ⟨r_10,hc11,h⟩:=bS h
 refine q1 ?_ (fun _=>pe (P82 f_1.Clocks.Far ((w64 (x_3.Seg+1))) ((w64 (y_5.Seg+1))) r_10 hc11) rr)
 conv=>whnf
 refine q4 ?_
 conv=>whnf
 refine q2 ?_
 conv=>whnf
 refine q2 ?_
 conv=>whnf
 refine q2 ?_
 conv=>whnf
 obtain ⟨r_12,hc13,h⟩:=bS h
 refine q1 ?_ (fun _=>pe (P66 x_3 r_12 hc13) rr)
 conv=>whnf
 refine q4 ?_
 conv=>whnf
 refine q1 ?_
 conv=>whnf
 refine sd [] [(0,1),(1,1),(2,1),(3,1),(4,1),(5,1),(6,4),(7,4),(8,1),(9,2),(10,2),(11,2),(12,4),(13,4),(14,1),(15,2),(16,2),(17,2),(18,1),(19,1),(20,1),(21,1),(22,1)] ?_
 conv=>whnf
 refine q1 ?_
 conv=>whnf
 refine q1 ?_
 conv=>whnf
 refine q1 ?_
 conv=>whnf
 refine cB h (fun hb14 h=>?_) (fun hb14 h=>?_)
 ·conv=>whnf
  refine q1 ?_
  conv=>whnf
  refine q1 ?_
  conv=>whnf
  refine Tr.ret ?_
  conv=>whnf
  cases h
  rfl
 conv=>whnf
 refine q1 ?_
 conv=>whnf
 refine q1 ?_
 conv=>whnf
 refine q1 ?_
 conv=>whnf
 refine cB h (fun hb15 h=>?_) (fun hb15 h=>?_)
 ·conv=>whnf
  refine q2 ?_
  conv=>whnf
  refine q2 ?_
  conv=>whnf
  refine q1 ?_
  conv=>whnf
  obtain ⟨x_16,hx_16,h⟩:=bS h
  refine q3 (ixP_of hx_16 rr) ?_
  conv=>whnf
  refine q2 ?_
  conv=>whnf
  refine q2 ?_
  conv=>whnf
  refine q2 ?_
  conv=>whnf
  refine q2 ?_
  conv=>whnf
  refine q1 ?_
  conv=>whnf
  obtain ⟨x_17,hx_17,h⟩:=bS h
  refine q3 (ixP_of hx_17 rr) ?_
  conv=>whnf
  refine q2 ?_
  conv=>whnf
  refine q2 ?_
  conv=>whnf
  obtain ⟨r_18,hc19,h⟩:=bS h
  refine q1 ?_ (fun _=>pe (P71 x_16.Keys x_17.Keys r_18 hc19) rr)
  conv=>whnf
  refine q1 ?_
  conv=>whnf
  refine q1 ?_
  conv=>whnf
  refine q1 ?_
  conv=>whnf
  refine q1 ?_
  conv=>whnf
  refine Tr.ret ?_
  conv=>whnf
  cases h
  rfl
 conv=>whnf
 refine q1 ?_
 conv=>whnf
 refine q1 ?_
 conv=>whnf
 refine q1 ?_
 conv=>whnf
 refine Tr.ret ?_
 conv=>whnf
 cases h
 rfl
theorem P86 (f_1:TField) (w_2:Int) (runner_3:Int) (x_4:TOutcome) (rival_5:Int) (r_6:Int) (r_7:Bool) (h:M86 f_1 w_2 runner_3 x_4 rival_5=some (r_6,r_7)) :
    PC prog 81 [(.ag [(.fn 56 []),(.fn 55 []),(.fn 60 []),(.fn 61 [])]),(eTField f_1),(.i .i64 w_2),(.i .i64 runner_3),(eTOutcome x_4),(.i .i64 rival_5)] (fun rs=>rs=[(.i .i64 r_6),(.b r_7)]):=by
 refine PC.of_tr (cx:=⟨49,none,lay,0⟩) layOK func81 rfl rfl rfl rfl rfl (by simp [f81]) ?_
 unfold M86 at h
 refine sg ?_
 conv=>whnf
 refine sg ?_
 conv=>whnf
 obtain ⟨r_8,hc9,h⟩:=bS h
 refine PC.ecall (P81 2 1 r_8 hc9) (fun rs hrs=>?_)
 subst hrs
 conv=>whnf
 refine Tr.seq ?_
 refine sg ?_
 conv=>whnf
 obtain ⟨x_10,hx_10,h⟩:=bS h
 refine ixP_of hx_10 ?_
 conv=>whnf
 obtain ⟨x_11,hx_11,h⟩:=bS h
 refine ixP_of hx_11 ?_
 conv=>whnf
 refine lnS_map ?_
 conv=>whnf
 refine Tr.cutQ (α:=Unit) (fun s=>([(12,(dI 0)),(13,.d (.b false)),(14,.d (.b r_8))],[])) (fun s=>M85 r_8 s=some (r_6,r_7)) ?_ ?_
 ·refine Tr.block ?_
  refine Tr.loopM (σ:=Int) (fun n s=>M84 f_1 runner_3 x_4 rival_5 r_8 x_11 (M85 r_8) n s) (r_6,r_7) (fun s=>([(3,(dI runner_3)),(5,(dI rival_5)),(6,.pt 0 0),(7,.pt 1 0),(10,.pt 2 0),(12,(dI 0)),(13,.d (.b false)),(14,.d (.b r_8)),(28,.d (.ls (List.map eTOutcome x_11))),(29,(dI (((x_11).length:Int)))),(30,(dI s))],[some (.var [.d (.fn 56 []),.d (.fn 55 []),.d (.fn 60 []),.d (.fn 61 [])]),some (.var [.d (.ls (List.map eTSegment f_1.Clocks.Segments)),.d (.ls (List.map (eL eI) f_1.Clocks.Far)),.d (.ls (List.map eTPair f_1.Pairs)),.d (.ls (List.map eTRunner f_1.Runners))]),some (.var [.d (.b x_4.Out),(dI x_4.Seg),(dI x_4.Lo),(dI x_4.Hi)])])) (((((x_11).length:Int)) - 0:Int).toNat+1) (0) h (fun s=>rfl) (Wk.mk2 [0,1,2] 3 rfl rfl (by decide) rfl ⟨rr,rr,rr,trivial⟩ ⟨rr,rr,rr,rr,rr,rr,rr,rr,rr,rr,rr,trivial⟩) ?_
  clear h
  rintro n_14 v_13 h
  replace h:M84 f_1 runner_3 x_4 rival_5 r_8 x_11 (M85 r_8) (n_14+1) v_13=some (r_6,r_7):=h
  rw [M84] at h
  refine sg ?_
  conv=>whnf
  refine Tr.seq ?_
  refine Tr.cond ?_
  conv=>whnf
  refine cB h (fun hb17 h=>?_) (fun hb17 h=>?_)
  ·refine Tr.skip ?_
   conv=>whnf
   refine Tr.seq ?_
   refine Tr.block ?_
   refine sg ?_
   conv=>whnf
   obtain ⟨x_18,hx_18,h⟩:=bS h
   refine ixP_of hx_18 ?_
   conv=>whnf
   refine sg ?_
   conv=>whnf
   obtain ⟨r_19,hc20,h⟩:=bS h
   refine PC.ecall (P83 f_1 runner_3 x_4 rival_5 x_18 r_19 hc20) (fun rs hrs=>?_)
   subst hrs
   conv=>whnf
   refine Tr.cond ?_
   conv=>whnf
   refine cB h (fun hb21 h=>?_) (fun hb21 h=>?_)
   ·refine sg ?_
    conv=>whnf
    refine Tr.ret ?_
    conv=>whnf
    cases h
    rfl
   refine Tr.skip ?_
   conv=>whnf
   refine rg ?_
   conv=>whnf
   refine arS_raw ?_
   conv=>whnf
   refine ⟨((w64 (v_13+1))),h,?_⟩
   exact Wk.mk2 [0,1,2] 4 rfl rfl (by decide) rfl ⟨rr,rr,rr,trivial⟩ ⟨rr,rr,rr,rr,rr,rr,rr,rr,rr,rr,rr,trivial⟩
  refine Tr.exit ?_
  conv=>whnf
  refine ⟨(),h,?_⟩
  exact Wk.mk2 [] 3 rfl rfl (by decide) rfl trivial ⟨rr,rr,rr,trivial⟩
 clear h
 rintro _ h T1 H1 hw
 replace h:M85 r_8 ()=some (r_6,r_7):=h
 conv=>whnf
 refine Tr.weak hw ?_
 unfold M85 at h
 refine sg ?_
 conv=>whnf
 refine Tr.ret ?_
 conv=>whnf
 cases h
 rfl
end Go.Proofs.Try
