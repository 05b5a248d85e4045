/- Contracts of functions, by program (gen.py). No condition. -/
import Derived.Test.YtcmhnjhpnijpbaaZL
import Derived.Test.YtcmhnjhpnijpbaaZM
import Derived.Test.YtcmhnjhpnijpbaaZCB
import Derived.Test.YtcmhnjhpnijpbaaZS3
namespace Go.Proofs.Try
open Go Go.Abs Go.Stop
set_option maxRecDepth 8000
set_option linter.unusedVariables false
set_option linter.unusedSimpArgs false
theorem P96 (h:M96=some ()) :
    PC prog 72 [] (fun rs=>rs=[(.ag [(.fn 89 []),(.fn 88 []),(.fn 93 []),(.fn 94 [])])]):=by
 refine PC.of_tr (cx:=⟨2,none,lay,0⟩) layOK func72 rfl rfl rfl rfl rfl (by simp [f72]) ?_
 unfold M96 at h
 refine sg ?_
 conv=>whnf
 refine sg ?_
 conv=>whnf
 refine Tr.ret ?_
 conv=>whnf
theorem P97 (n_1:Int) (m_2:Int) (r_3:Bool) (h:M97 n_1 m_2=some r_3) :
    PC prog 94 [(.i .i64 n_1),(.i .i64 m_2)] (fun rs=>rs=[(.b r_3)]):=by
 refine PC.of_tr (cx:=⟨8,none,lay,0⟩) layOK func94 rfl rfl rfl rfl rfl (by simp [f94]) ?_
 unfold M97 at h
 refine sg ?_
 conv=>whnf
 refine sg ?_
 conv=>whnf
 refine Tr.ret ?_
 conv=>whnf
 cases h
 rfl
theorem P98 (far_1:List (List Int)) (a_2:Int) (b_3:Int) (r_4:Int) (h:M98 far_1 a_2 b_3=some r_4) :
    PC prog 93 [(.ls (List.map (eL eI) far_1)),(.i .i64 a_2),(.i .i64 b_3)] (fun rs=>rs=[(.i .i64 r_4)]):=by
 refine PC.of_tr (cx:=⟨15,none,lay,0⟩) layOK func93 rfl rfl rfl rfl rfl (by simp [f93]) ?_
 unfold M98 at h
 refine sg ?_
 conv=>whnf
 refine sg ?_
 conv=>whnf
 obtain ⟨x_5,hx_5,h⟩:=bS h
 refine ixP_of hx_5 ?_
 conv=>whnf
 obtain ⟨x_6,hx_6,h⟩:=bS h
 refine ixP_of hx_6 ?_
 conv=>whnf
 refine arS_raw ?_
 conv=>whnf
 refine Tr.ret ?_
 conv=>whnf
 cases h
 rfl
theorem P99 (f_1:TField) (runner_2:Int) (x_3:TOutcome) (rival_4:Int) (y_5:TOutcome) (r_6:Bool) (h:M99 f_1 runner_2 x_3 rival_4 y_5=some r_6) :
    PC prog 105 [(.ag [(.fn 89 []),(.fn 88 []),(.fn 93 []),(.fn 94 [])]),(eTField f_1),(.i .i64 runner_2),(eTOutcome x_3),(.i .i64 rival_4),(eTOutcome y_5)] (fun rs=>rs=[(.b r_6)]):=by
 refine PC.of_tr (cx:=⟨60,none,lay,0⟩) layOK func105 rfl rfl rfl rfl rfl (by simp [f105]) ?_
 unfold M99 at h
 refine sg ?_
 conv=>whnf
 refine Tr.seq ?_
 refine sg ?_
 conv=>whnf
 refine Tr.cond ?_
 conv=>whnf
 refine cB h (fun hb7 h=>?_) (fun hb7 h=>?_)
 ·refine sg ?_
  conv=>whnf
  refine Tr.ret ?_
  conv=>whnf
  cases h
  rfl
 refine Tr.skip ?_
 conv=>whnf
 refine sd [] [(0,3),(1,3),(2,6),(3,1),(4,3),(5,3),(6,4),(7,4),(8,4),(9,5),(10,5),(11,1),(12,6),(13,6),(14,1),(15,1),(16,1),(17,3),(18,3),(19,5),(20,1),(21,1),(22,1)] ?_
 conv=>whnf
 refine q2 ?_
 conv=>whnf
 refine q2 ?_
 conv=>whnf
 refine q2 ?_
 conv=>whnf
 obtain ⟨r_8,hc9,h⟩:=bS h
 refine q1 ?_ (fun _=>pe (P84 y_5 r_8 hc9) rr)
 conv=>whnf
 refine q2 ?_
 conv=>whnf
 refine q2 ?_
 conv=>whnf
 refine q2 ?_
 conv=>whnf
 refine q2 ?_
 conv=>whnf
 refine q2 ?_
 conv=>whnf
 refine q2 ?_
 conv=>whnf
 refine q2 ?_
 conv=>whnf
 refine q4 ?_
 conv=>whnf
 refine q2 ?_
 conv=>whnf
 refine q2 ?_
 conv=>whnf
 refine q4 ?_
 conv=>whnf
 obtain ⟨r_10,hc11,h⟩:=bS h
 refine q1 ?_ (fun _=>pe (P98 f_1.Clocks.Far ((w64 (x_3.Seg+1))) ((w64 (y_5.Seg+1))) r_10 hc11) rr)
 conv=>whnf
 refine q4 ?_
 conv=>whnf
 refine q2 ?_
 conv=>whnf
 refine q2 ?_
 conv=>whnf
 refine q2 ?_
 conv=>whnf
 obtain ⟨r_12,hc13,h⟩:=bS h
 refine q1 ?_ (fun _=>pe (P82 x_3 r_12 hc13) rr)
 conv=>whnf
 refine q4 ?_
 conv=>whnf
 refine q1 ?_
 conv=>whnf
 refine sd [] [(0,1),(1,1),(2,1),(3,1),(4,1),(5,1),(6,4),(7,4),(8,1),(9,2),(10,2),(11,2),(12,4),(13,4),(14,1),(15,2),(16,2),(17,2),(18,1),(19,1),(20,1),(21,1),(22,1)] ?_
 conv=>whnf
 refine q1 ?_
 conv=>whnf
 refine q1 ?_
 conv=>whnf
 refine q1 ?_
 conv=>whnf
 refine cB h (fun hb14 h=>?_) (fun hb14 h=>?_)
 ·conv=>whnf
  refine q1 ?_
  conv=>whnf
  refine q1 ?_
  conv=>whnf
  refine Tr.ret ?_
  conv=>whnf
  cases h
  rfl
 conv=>whnf
 refine q1 ?_
 conv=>whnf
 refine q1 ?_
 conv=>whnf
 refine q1 ?_
 conv=>whnf
 refine cB h (fun hb15 h=>?_) (fun hb15 h=>?_)
 ·conv=>whnf
  refine q2 ?_
  conv=>whnf
  refine q2 ?_
  conv=>whnf
  refine q1 ?_
  conv=>whnf
  obtain ⟨x_16,hx_16,h⟩:=bS h
  refine q3 (ixP_of hx_16 rr) ?_
  conv=>whnf
  refine q2 ?_
  conv=>whnf
  refine q2 ?_
  conv=>whnf
  refine q2 ?_
  conv=>whnf
  refine q2 ?_
  conv=>whnf
  refine q1 ?_
  conv=>whnf
  obtain ⟨x_17,hx_17,h⟩:=bS h
  refine q3 (ixP_of hx_17 rr) ?_
  conv=>whnf
  refine q2 ?_
  conv=>whnf
  refine q2 ?_
  conv=>whnf
  obtain ⟨r_18,hc19,h⟩:=bS h
  refine q1 ?_ (fun _=>pe (P87 x_16.Keys x_17.Keys r_18 hc19) rr)
  conv=>whnf
  refine q1 ?_
  conv=>whnf
  refine q1 ?_
  conv=>whnf
  refine q1 ?_
  conv=>whnf
  refine q1 ?_
  conv=>whnf
  refine Tr.ret ?_
  conv=>whnf
  cases h
  rfl
 conv=>whnf
 refine q1 ?_
 conv=>whnf
 refine q1 ?_
 conv=>whnf
 refine q1 ?_
 conv=>whnf
 refine Tr.ret ?_
 conv=>whnf
 cases h
 rfl
theorem P102 (f_1:TField) (w_2:Int) (runner_3:Int) (x_4:TOutcome) (rival_5:Int) (r_6:Int) (r_7:Bool) (h:M102 f_1 w_2 runner_3 x_4 rival_5=some (r_6,r_7)) :
    PC prog 92 [(.ag [(.fn 89 []),(.fn 88 []),(.fn 93 []),(.fn 94 [])]),(eTField f_1),(.i .i64 w_2),(.i .i64 runner_3),(eTOutcome x_4),(.i .i64 rival_5)] (fun rs=>rs=[(.i .i64 r_6),(.b r_7)]):=by
 refine PC.of_tr (cx:=⟨49,none,lay,0⟩) layOK func92 rfl rfl rfl rfl rfl (by simp [f92]) ?_
 unfold M102 at h
 refine sg ?_
 conv=>whnf
 refine sg ?_
 conv=>whnf
 obtain ⟨r_8,hc9,h⟩:=bS h
 refine PC.ecall (P97 2 1 r_8 hc9) (fun rs hrs=>?_)
 subst hrs
 conv=>whnf
 refine Tr.seq ?_
 refine sg ?_
 conv=>whnf
 obtain ⟨x_10,hx_10,h⟩:=bS h
 refine ixP_of hx_10 ?_
 conv=>whnf
 obtain ⟨x_11,hx_11,h⟩:=bS h
 refine ixP_of hx_11 ?_
 conv=>whnf
 refine lnS_map ?_
 conv=>whnf
 refine Tr.cutQ (α:=Unit) (fun s=>([(12,(dI 0)),(13,.d (.b false)),(14,.d (.b r_8))],[])) (fun s=>M101 r_8 s=some (r_6,r_7)) ?_ ?_
 ·refine Tr.block ?_
  refine Tr.loopM (σ:=Int) (fun n s=>M100 f_1 runner_3 x_4 rival_5 r_8 x_11 (M101 r_8) n s) (r_6,r_7) (fun s=>([(3,(dI runner_3)),(5,(dI rival_5)),(6,.pt 0 0),(7,.pt 1 0),(10,.pt 2 0),(12,(dI 0)),(13,.d (.b false)),(14,.d (.b r_8)),(28,.d (.ls (List.map eTOutcome x_11))),(29,(dI (((x_11).length:Int)))),(30,(dI s))],[some (.var [.d (.fn 89 []),.d (.fn 88 []),.d (.fn 93 []),.d (.fn 94 [])]),some (.var [.d (.ls (List.map eTSegment f_1.Clocks.Segments)),.d (.ls (List.map (eL eI) f_1.Clocks.Far)),.d (.ls (List.map eTPair f_1.Pairs)),.d (.ls (List.map eTRunner f_1.Runners))]),some (.var [.d (.b x_4.Out),(dI x_4.Seg),(dI x_4.Lo),(dI x_4.Hi)])])) (((((x_11).length:Int)) - 0:Int).toNat+1) (0) h (fun s=>rfl) (Wk.mk2 [0,1,2] 3 rfl rfl (by decide) rfl ⟨rr,rr,rr,trivial⟩ ⟨rr,rr,rr,rr,rr,rr,rr,rr,rr,rr,rr,trivial⟩) ?_
  clear h
  rintro n_14 v_13 h
  replace h:M100 f_1 runner_3 x_4 rival_5 r_8 x_11 (M101 r_8) (n_14+1) v_13=some (r_6,r_7):=h
  rw [M100] at h
  refine sg ?_
  conv=>whnf
  refine Tr.seq ?_
  refine Tr.cond ?_
  conv=>whnf
  refine cB h (fun hb17 h=>?_) (fun hb17 h=>?_)
  ·refine Tr.skip ?_
   conv=>whnf
   refine Tr.seq ?_
   refine Tr.block ?_
   refine sg ?_
   conv=>whnf
   obtain ⟨x_18,hx_18,h⟩:=bS h
   refine ixP_of hx_18 ?_
   conv=>whnf
   refine sg ?_
   conv=>whnf
   obtain ⟨r_19,hc20,h⟩:=bS h
   refine PC.ecall (P99 f_1 runner_3 x_4 rival_5 x_18 r_19 hc20) (fun rs hrs=>?_)
   subst hrs
   conv=>whnf
   refine Tr.cond ?_
   conv=>whnf
   refine cB h (fun hb21 h=>?_) (fun hb21 h=>?_)
   ·refine sg ?_
    conv=>whnf
    refine Tr.ret ?_
    conv=>whnf
    cases h
    rfl
   refine Tr.skip ?_
   conv=>whnf
   refine rg ?_
   conv=>whnf
   refine arS_raw ?_
   conv=>whnf
   refine ⟨((w64 (v_13+1))),h,?_⟩
   exact Wk.mk2 [0,1,2] 4 rfl rfl (by decide) rfl ⟨rr,rr,rr,trivial⟩ ⟨rr,rr,rr,rr,rr,rr,rr,rr,rr,rr,rr,trivial⟩
  refine Tr.exit ?_
  conv=>whnf
  refine ⟨(),h,?_⟩
  exact Wk.mk2 [] 3 rfl rfl (by decide) rfl trivial ⟨rr,rr,rr,trivial⟩
 clear h
 rintro _ h T1 H1 hw
 replace h:M101 r_8 ()=some (r_6,r_7):=h
 conv=>whnf
 refine Tr.weak hw ?_
 unfold M101 at h
 refine sg ?_
 conv=>whnf
 refine Tr.ret ?_
 conv=>whnf
 cases h
 rfl
theorem P106 (f_1:TField) (runner_2:Int) (r_3:Tranks_place) (r_4:Bool) (h:M106 f_1 runner_2=some (r_3,r_4)) :
    PC prog 71 [(.ag [(.fn 89 []),(.fn 88 []),(.fn 93 []),(.fn 94 [])]),(eTField f_1),(.i .i64 runner_2)] (fun rs=>rs=[(eTranks_place r_3),(.b r_4)]):=by
 refine PC.of_tr (cx:=⟨75,none,lay,0⟩) layOK func71 rfl rfl rfl rfl rfl (by simp [f71]) ?_
 unfold M106 at h
 refine sg ?_
 conv=>whnf
 refine Tr.seq ?_
 refine sg ?_
 conv=>whnf
 obtain ⟨⟨c_5,c_6,c_7,c_8⟩,hc9,h⟩:=bS h
 refine PC.ecall (P66 f_1 c_5 c_6 c_7 c_8 hc9) (fun rs hrs=>?_)
 subst hrs
 conv=>whnf
 obtain ⟨l_10,hl11,h⟩:=bS h
 obtain ⟨⟨v_66,v_67,v_68,v_69⟩,hv70,h⟩:=bS h
 refine Tr.block ?_
 refine Tr.rangeM layOK rfl (ge:=fun a=>[(.i .i64 a)]) rfl (P74 c_5 c_6 c_7 c_8 l_10 hl11) (fun _=>rfl) rfl (fun s=>[some (.var [.d (.fn 89 []),.d (.fn 88 []),.d (.fn 93 []),.d (.fn 94 [])]),some (.var [.d (.ls (List.map eTSegment f_1.Clocks.Segments)),.d (.ls (List.map (eL eI) f_1.Clocks.Far)),.d (.ls (List.map eTPair f_1.Pairs)),.d (.ls (List.map eTRunner f_1.Runners))]),some (.var [(dI runner_2)]),some (.var [(dI s.1),(dI s.2.1),(dI s.2.2.1)]),some (.var [.d (.b s.2.2.2)])]) (M105 f_1 runner_2) (0,0,0,false) (v_66,v_67,v_68,v_69) hv70 (Wk.mk2 [0,1,2,3,4] 5 rfl rfl (by decide) rfl ⟨⟨rfl,rfl⟩,⟨rfl,rfl⟩,⟨rfl,rfl⟩,⟨rfl,rfl⟩,⟨rfl,rfl⟩,trivial⟩ trivial) ?_ ?_
 ·clear h hv70
  rintro li y_12 ⟨v_17,v_18,v_19,v_20⟩ s_21 ha h
  replace h:(M105 f_1 runner_2) y_12 (v_17,v_18,v_19,v_20)=some s_21:=h
  unfold M105 at h
  dsimp only at h
  conv=>whnf
  refine TrE.region layOK ?_
  conv=>whnf
  refine Tr.block ?_
  refine sg ?_
  conv=>whnf
  obtain ⟨x_22,hx_22,h⟩:=bS h
  refine ixP_of hx_22 ?_
  conv=>whnf
  obtain ⟨x_23,hx_23,h⟩:=bS h
  refine ixP_of hx_23 ?_
  conv=>whnf
  refine lnS_map ?_
  conv=>whnf
  obtain ⟨⟨v_35,v_36,v_37,v_38⟩,hv65,h⟩:=bS h
  refine Tr.cutQ1 ([]) ([some (.var [.d (.fn 89 []),.d (.fn 88 []),.d (.fn 93 []),.d (.fn 94 [])]),some (.var [.d (.ls (List.map eTSegment f_1.Clocks.Segments)),.d (.ls (List.map (eL eI) f_1.Clocks.Far)),.d (.ls (List.map eTPair f_1.Pairs)),.d (.ls (List.map eTRunner f_1.Runners))]),some (.var [(dI runner_2)]),some (.var [(dI v_35),(dI v_36),(dI v_37)]),some (.var [.d (.b v_38)])]) ?_ (fun T1 H1 hw=>?_)
  ·replace h:=hv65; clear hv65
   refine Tr.block ?_
   refine Tr.loopM (σ:=Int × Int × Int × Int × Bool) (fun n s=>M104 f_1 runner_2 y_12 x_23 n s.1 s.2.1 s.2.2.1 s.2.2.2.1 s.2.2.2.2) (v_35,v_36,v_37,v_38) (fun s=>([(3,.pt 0 0),(4,.pt 1 0),(5,.pt 2 0),(6,.pt 3 0),(7,.pt 4 0),(8,(dI y_12)),(26,.d (.ls (List.map eTOutcome x_23))),(27,(dI (((x_23).length:Int)))),(28,(dI s.1))],[some (.var [.d (.fn 89 []),.d (.fn 88 []),.d (.fn 93 []),.d (.fn 94 [])]),some (.var [.d (.ls (List.map eTSegment f_1.Clocks.Segments)),.d (.ls (List.map (eL eI) f_1.Clocks.Far)),.d (.ls (List.map eTPair f_1.Pairs)),.d (.ls (List.map eTRunner f_1.Runners))]),some (.var [(dI runner_2)]),some (.var [(dI s.2.1),(dI s.2.2.1),(dI s.2.2.2.1)]),some (.var [.d (.b s.2.2.2.2)])])) (((((x_23).length:Int)) - 0:Int).toNat+1) (0,v_17,v_18,v_19,v_20) h (fun s=>rfl) (Wk.mk2 [0,1,2,3,4] 5 rfl rfl (by decide) rfl ⟨rr,rr,rr,rr,rr,trivial⟩ ⟨rr,rr,rr,rr,rr,rr,rr,rr,rr,trivial⟩) ?_
   clear h
   rintro n_34 ⟨v_29,v_30,v_31,v_32,v_33⟩ h
   replace h:M104 f_1 runner_2 y_12 x_23 (n_34+1) v_29 v_30 v_31 v_32 v_33=some (v_35,v_36,v_37,v_38):=h
   rw [M104] at h
   refine sg ?_
   conv=>whnf
   refine Tr.seq ?_
   refine Tr.cond ?_
   conv=>whnf
   refine cB h (fun hb41 h=>?_) (fun hb41 h=>?_)
   ·refine Tr.skip ?_
    conv=>whnf
    refine Tr.seq ?_
    refine Tr.block ?_
    refine sg ?_
    conv=>whnf
    obtain ⟨x_42,hx_42,h⟩:=bS h
    refine ixP_of hx_42 ?_
    conv=>whnf
    refine Tr.seq ?_
    refine sg ?_
    conv=>whnf
    refine Tr.cond ?_
    conv=>whnf
    refine cB h (fun hb43 h=>?_) (fun hb43 h=>?_)
    ·refine Tr.exit ?_
     conv=>whnf
     refine rg ?_
     conv=>whnf
     refine arS_raw ?_
     conv=>whnf
     refine ⟨((w64 (v_29+1)),v_30,v_31,v_32,v_33),h,?_⟩
     exact Wk.mk2 [0,1,2,3,4] 6 rfl rfl (by decide) rfl ⟨rr,rr,rr,rr,rr,trivial⟩ ⟨rr,rr,rr,rr,rr,rr,rr,rr,rr,trivial⟩
    refine Tr.skip ?_
    conv=>whnf
    refine sg ?_
    conv=>whnf
    refine Tr.seq ?_
    refine sg ?_
    conv=>whnf
    refine lnS_map ?_
    conv=>whnf
    obtain ⟨n_49,hv58,h⟩:=bS h
    refine Tr.cutQ1 ([(3,.pt 0 0),(4,.pt 1 0),(5,.pt 2 0),(6,.pt 3 0),(7,.pt 4 0),(8,(dI y_12)),(9,(dI v_29)),(11,(dI n_49)),(26,.d (.ls (List.map eTOutcome x_23))),(27,(dI (((x_23).length:Int)))),(28,(dI v_29))]) ([some (.var [.d (.fn 89 []),.d (.fn 88 []),.d (.fn 93 []),.d (.fn 94 [])]),some (.var [.d (.ls (List.map eTSegment f_1.Clocks.Segments)),.d (.ls (List.map (eL eI) f_1.Clocks.Far)),.d (.ls (List.map eTPair f_1.Pairs)),.d (.ls (List.map eTRunner f_1.Runners))]),some (.var [(dI runner_2)]),some (.var [(dI v_30),(dI v_31),(dI v_32)]),some (.var [.d (.b v_33)])]) ?_ (fun T1 H1 hw=>?_)
    ·replace h:=hv58; clear hv58
     refine Tr.block ?_
     refine Tr.loopM (σ:=Int × Int) (fun n s=>M103 f_1 runner_2 y_12 x_42 n s.1 s.2) n_49 (fun s=>([(3,.pt 0 0),(4,.pt 1 0),(5,.pt 2 0),(6,.pt 3 0),(7,.pt 4 0),(8,(dI y_12)),(9,(dI v_29)),(10,.pt 5 0),(11,(dI s.1)),(26,.d (.ls (List.map eTOutcome x_23))),(27,(dI (((x_23).length:Int)))),(28,(dI v_29)),(37,(dI (((f_1.Runners).length:Int)))),(38,(dI s.2))],[some (.var [.d (.fn 89 []),.d (.fn 88 []),.d (.fn 93 []),.d (.fn 94 [])]),some (.var [.d (.ls (List.map eTSegment f_1.Clocks.Segments)),.d (.ls (List.map (eL eI) f_1.Clocks.Far)),.d (.ls (List.map eTPair f_1.Pairs)),.d (.ls (List.map eTRunner f_1.Runners))]),some (.var [(dI runner_2)]),some (.var [(dI v_30),(dI v_31),(dI v_32)]),some (.var [.d (.b v_33)]),some (.var [.d (.b x_42.Out),(dI x_42.Seg),(dI x_42.Lo),(dI x_42.Hi)])])) (((((f_1.Runners).length:Int)) - 0:Int).toNat+1) (1,0) h (fun s=>rfl) (Wk.mk2 [0,1,2,3,4,5] 6 rfl rfl (by decide) rfl ⟨rr,rr,rr,rr,rr,rr,trivial⟩ ⟨rr,rr,rr,rr,rr,rr,rr,rr,rr,rr,rr,rr,rr,rr,trivial⟩) ?_
     clear h
     rintro n_48 ⟨n_46,v_47⟩ h
     replace h:M103 f_1 runner_2 y_12 x_42 (n_48+1) n_46 v_47=some n_49:=h
     rw [M103] at h
     refine sg ?_
     conv=>whnf
     refine Tr.seq ?_
     refine Tr.cond ?_
     conv=>whnf
     refine cB h (fun hb52 h=>?_) (fun hb52 h=>?_)
     ·refine Tr.skip ?_
      conv=>whnf
      refine Tr.seq ?_
      refine Tr.block ?_
      refine sg ?_
      conv=>whnf
      refine Tr.seq ?_
      refine sg ?_
      conv=>whnf
      refine Tr.cond ?_
      conv=>whnf
      refine cB h (fun hb53 h=>?_) (fun hb53 h=>?_)
      ·refine Tr.exit ?_
       conv=>whnf
       refine rg ?_
       conv=>whnf
       refine arS_raw ?_
       conv=>whnf
       refine ⟨(n_46,(w64 (v_47+1))),h,?_⟩
       exact Wk.mk2 [0,1,2,3,4,5] 6 rfl rfl (by decide) rfl ⟨rr,rr,rr,rr,rr,rr,trivial⟩ ⟨rr,rr,rr,rr,rr,rr,rr,rr,rr,rr,rr,rr,rr,rr,trivial⟩
      refine Tr.skip ?_
      conv=>whnf
      refine sg ?_
      conv=>whnf
      obtain ⟨⟨r_54,r_55⟩,hc56,h⟩:=bS h
      refine PC.ecall (P102 f_1 y_12 runner_2 x_42 v_47 r_54 r_55 hc56) (fun rs hrs=>?_)
      subst hrs
      conv=>whnf
      refine sg ?_
      conv=>whnf
      refine Tr.cond ?_
      conv=>whnf
      refine cB h (fun hb57 h=>?_) (fun hb57 h=>?_)
      ·refine rg ?_
       conv=>whnf
       refine arS_raw ?_
       conv=>whnf
       refine rg ?_
       conv=>whnf
       refine arS_raw ?_
       conv=>whnf
       refine ⟨((w64 (n_46+1)),(w64 (v_47+1))),h,?_⟩
       exact Wk.mk2 [0,1,2,3,4,5] 6 rfl rfl (by decide) rfl ⟨rr,rr,rr,rr,rr,rr,trivial⟩ ⟨rr,rr,rr,rr,rr,rr,rr,rr,rr,rr,rr,rr,rr,rr,trivial⟩
      refine Tr.skip ?_
      conv=>whnf
      refine rg ?_
      conv=>whnf
      refine arS_raw ?_
      conv=>whnf
      refine ⟨(n_46,(w64 (v_47+1))),h,?_⟩
      exact Wk.mk2 [0,1,2,3,4,5] 6 rfl rfl (by decide) rfl ⟨rr,rr,rr,rr,rr,rr,trivial⟩ ⟨rr,rr,rr,rr,rr,rr,rr,rr,rr,rr,rr,rr,rr,rr,trivial⟩
     refine Tr.exit ?_
     conv=>whnf
     cases h
     exact Wk.mk2 [0,1,2,3,4] 6 rfl rfl (by decide) rfl ⟨rr,rr,rr,rr,rr,trivial⟩ ⟨rr,rr,rr,rr,rr,rr,rr,rr,rr,rr,rr,trivial⟩
    clear hv58
    conv=>whnf
    refine Tr.weak hw ?_
    refine Tr.seq ?_
    obtain ⟨v_59,hv60,h⟩:=bS h
    refine Tr.cutQ1 ([(3,.pt 0 0),(4,.pt 1 0),(5,.pt 2 0),(6,.pt 3 0),(7,.pt 4 0),(8,(dI y_12)),(9,(dI v_29)),(11,(dI n_49)),(26,.d (.ls (List.map eTOutcome x_23))),(27,(dI (((x_23).length:Int)))),(28,(dI v_29)),(67,.d (.b v_59))]) ([some (.var [.d (.fn 89 []),.d (.fn 88 []),.d (.fn 93 []),.d (.fn 94 [])]),some (.var [.d (.ls (List.map eTSegment f_1.Clocks.Segments)),.d (.ls (List.map (eL eI) f_1.Clocks.Far)),.d (.ls (List.map eTPair f_1.Pairs)),.d (.ls (List.map eTRunner f_1.Runners))]),some (.var [(dI runner_2)]),some (.var [(dI v_30),(dI v_31),(dI v_32)]),some (.var [.d (.b v_33)])]) ?_ (fun T1 H1 hw=>?_)
    ·replace h:=hv60; clear hv60
     refine rg ?_
     conv=>whnf
     refine cB h (fun hb61 h=>?_) (fun hb61 h=>?_)
     ·conv=>whnf
      cases h
      exact Wk.mk2 [0,1,2,3,4] 5 rfl rfl (by decide) rfl ⟨rr,rr,rr,rr,rr,trivial⟩ ⟨rr,rr,rr,rr,rr,rr,rr,rr,rr,rr,rr,rr,trivial⟩
     conv=>whnf
     obtain ⟨r_62,hc63,h⟩:=bS h
     refine PC.ecall (P97 n_49 v_32 r_62 hc63) (fun rs hrs=>?_)
     subst hrs
     conv=>whnf
     cases h
     exact Wk.mk2 [0,1,2,3,4] 5 rfl rfl (by decide) rfl ⟨rr,rr,rr,rr,rr,trivial⟩ ⟨rr,rr,rr,rr,rr,rr,rr,rr,rr,rr,rr,rr,trivial⟩
    clear hv60
    conv=>whnf
    refine Tr.weak hw ?_
    refine Tr.cond ?_
    conv=>whnf
    refine cB h (fun hb64 h=>?_) (fun hb64 h=>?_)
    ·refine rg ?_
     conv=>whnf
     refine rg ?_
     conv=>whnf
     refine arS_raw ?_
     conv=>whnf
     refine ⟨((w64 (v_29+1)),y_12,v_29,n_49,true),h,?_⟩
     exact Wk.mk2 [0,1,2,3,4] 5 rfl rfl (by decide) rfl ⟨rr,rr,rr,rr,rr,trivial⟩ ⟨rr,rr,rr,rr,rr,rr,rr,rr,rr,trivial⟩
    refine Tr.skip ?_
    conv=>whnf
    refine rg ?_
    conv=>whnf
    refine arS_raw ?_
    conv=>whnf
    refine ⟨((w64 (v_29+1)),v_30,v_31,v_32,v_33),h,?_⟩
    exact Wk.mk2 [0,1,2,3,4] 5 rfl rfl (by decide) rfl ⟨rr,rr,rr,rr,rr,trivial⟩ ⟨rr,rr,rr,rr,rr,rr,rr,rr,rr,trivial⟩
   refine Tr.exit ?_
   conv=>whnf
   cases h
   exact Wk.mk2 [0,1,2,3,4] 5 rfl rfl (by decide) rfl ⟨rr,rr,rr,rr,rr,trivial⟩ trivial
  clear hv65
  conv=>whnf
  cases h
  refine Wk.trans (F:=5) hw ?_
  exact Wk.mk2 [0,1,2,3,4] 5 rfl rfl (by decide) rfl ⟨rr,rr,rr,rr,rr,trivial⟩ trivial
 clear hv70
 conv=>whnf
 refine sd [(2,3),(3,4)] [(0,6),(1,7),(2,0),(3,0)] ?_
 conv=>whnf
 refine q2 ?_
 conv=>whnf
 refine q2 ?_
 conv=>whnf
 refine ⟨_,_,rr,kp_ok (by repeat (first | exact trivial | refine ⟨trivial,?_⟩ | refine ⟨rfl,?_⟩)),?_⟩
 conv=>whnf
 refine ⟨_,_,rr,kp_ok (by repeat (first | exact trivial | refine ⟨trivial,?_⟩ | refine ⟨rfl,?_⟩)),?_⟩
 conv=>whnf
 refine Tr.ret ?_
 conv=>whnf
 cases h
 rfl
theorem P108 (f_1:TField) (runner_2:Int) (r_3:TRank) (h:M108 f_1 runner_2=some r_3) :
    PC prog 43 [(eTField f_1),(.i .i64 runner_2)] (fun rs=>rs=[(eTRank r_3)]):=by
 refine PC.of_tr (cx:=⟨72,none,lay,0⟩) layOK func43 rfl rfl rfl rfl rfl (by simp [f43]) ?_
 unfold M108 at h
 refine sg ?_
 conv=>whnf
 refine sg ?_
 conv=>whnf
 obtain ⟨x_4,hx_4,h⟩:=bS h
 refine ixP_of hx_4 ?_
 conv=>whnf
 refine Tr.seq ?_
 refine sg ?_
 conv=>whnf
 obtain ⟨⟨c_5,c_6,c_7,c_8⟩,hc9,h⟩:=bS h
 refine PC.ecall (P66 f_1 c_5 c_6 c_7 c_8 hc9) (fun rs hrs=>?_)
 subst hrs
 conv=>whnf
 obtain ⟨l_10,hl11,h⟩:=bS h
 obtain ⟨v_21,hv33,h⟩:=bS h
 refine Tr.block ?_
 refine Tr.rangeM layOK rfl (ge:=fun a=>[(.i .i64 a)]) rfl (P74 c_5 c_6 c_7 c_8 l_10 hl11) (fun _=>rfl) rfl (fun s=>[some (.var [.d (.ls (List.map eTSegment f_1.Clocks.Segments)),.d (.ls (List.map (eL eI) f_1.Clocks.Far)),.d (.ls (List.map eTPair f_1.Pairs)),.d (.ls (List.map eTRunner f_1.Runners))]),some (.var [(dI runner_2)]),some (.var [(dI 0),(dI 0),(dI 0),(dI 0),.d (.b false)]),some (.var [(dI x_4.Bib),(dI 3),(dI 0),(dI 0),.d (.b s)])]) (M107 f_1 runner_2) (false) v_21 hv33 (Wk.mk2 [0,1,2,3] 4 rfl rfl (by decide) rfl ⟨⟨rfl,rfl⟩,⟨rfl,rfl⟩,⟨rfl,rfl⟩,⟨rfl,rfl⟩,trivial⟩ trivial) ?_ ?_
 ·clear h hv33
  rintro li y_12 v_14 s_15 ha h
  replace h:(M107 f_1 runner_2) y_12 v_14=some s_15:=h
  unfold M107 at h
  dsimp only at h
  conv=>whnf
  refine TrE.region layOK ?_
  conv=>whnf
  refine Tr.block ?_
  refine rg ?_
  conv=>whnf
  refine cB h (fun hb16 h=>?_) (fun hb16 h=>?_)
  ·conv=>whnf
   cases h
   exact Wk.mk2 [0,1,2,3] 4 rfl rfl (by decide) rfl ⟨rr,rr,rr,rr,trivial⟩ trivial
  conv=>whnf
  obtain ⟨x_17,hx_17,h⟩:=bS h
  refine ixP_of hx_17 ?_
  conv=>whnf
  obtain ⟨x_18,hx_18,h⟩:=bS h
  refine ixP_of hx_18 ?_
  conv=>whnf
  obtain ⟨r_19,hc20,h⟩:=bS h
  refine PC.ecall (P79 x_18 r_19 hc20) (fun rs hrs=>?_)
  subst hrs
  conv=>whnf
  cases h
  exact Wk.mk2 [0,1,2,3] 4 rfl rfl (by decide) rfl ⟨rr,rr,rr,rr,trivial⟩ trivial
 clear hv33
 conv=>whnf
 refine sd [(8,4)] [(0,1),(1,3),(2,4),(3,1),(4,1),(5,1),(6,1),(7,0),(8,0),(9,1)] ?_
 conv=>whnf
 obtain ⟨_,hc22,h⟩:=bS h
 refine q1 ?_ (fun _=>pe (P80  hc22) rr)
 conv=>whnf
 refine q2 ?_
 conv=>whnf
 refine q2 ?_
 conv=>whnf
 obtain ⟨⟨r_23,r_24⟩,hc25,h⟩:=bS h
 refine q1 ?_ (fun _=>pe (P95 f_1 runner_2 r_23 r_24 hc25) rr)
 conv=>whnf
 refine q1 ?_
 conv=>whnf
 refine q1 ?_
 conv=>whnf
 refine q1 ?_
 conv=>whnf
 refine ⟨_,_,rr,kp_ok (by repeat (first | exact trivial | refine ⟨trivial,?_⟩ | refine ⟨rfl,?_⟩)),?_⟩
 conv=>whnf
 refine ⟨_,_,rr,kp_ok (by repeat (first | exact trivial | refine ⟨trivial,?_⟩ | refine ⟨rfl,?_⟩)),?_⟩
 conv=>whnf
 refine q1 ?_
 conv=>whnf
 refine Tr.seq ?_
 refine sg ?_
 conv=>whnf
 refine Tr.cond ?_
 conv=>whnf
 refine cB h (fun hb26 h=>?_) (fun hb26 h=>?_)
 ·refine sg ?_
  conv=>whnf
  refine Tr.ret ?_
  conv=>whnf
  cases h
  rfl
 refine Tr.skip ?_
 conv=>whnf
 refine sd [(8,5)] [(0,1),(1,3),(2,4),(3,1),(4,1),(5,1),(6,1),(7,0),(8,0),(9,1)] ?_
 conv=>whnf
 obtain ⟨_,hc27,h⟩:=bS h
 refine q1 ?_ (fun _=>pe (P96  hc27) rr)
 conv=>whnf
 refine q2 ?_
 conv=>whnf
 refine q2 ?_
 conv=>whnf
 obtain ⟨⟨r_28,r_29⟩,hc30,h⟩:=bS h
 refine q1 ?_ (fun _=>pe (P106 f_1 runner_2 r_28 r_29 hc30) rr)
 conv=>whnf
 refine q1 ?_
 conv=>whnf
 refine q1 ?_
 conv=>whnf
 refine q1 ?_
 conv=>whnf
 refine ⟨_,_,rr,kp_ok (by repeat (first | exact trivial | refine ⟨trivial,?_⟩ | refine ⟨rfl,?_⟩)),?_⟩
 conv=>whnf
 refine ⟨_,_,rr,kp_ok (by repeat (first | exact trivial | refine ⟨trivial,?_⟩ | refine ⟨rfl,?_⟩)),?_⟩
 conv=>whnf
 refine q1 ?_
 conv=>whnf
 refine sd [(5,3),(7,3),(9,3)] [(0,7),(1,7),(2,8),(3,8),(4,6),(5,0),(6,6),(7,0),(8,6),(9,0)] ?_
 conv=>whnf
 refine q2 ?_
 conv=>whnf
 refine q2 ?_
 conv=>whnf
 refine q2 ?_
 conv=>whnf
 refine q2 ?_
 conv=>whnf
 refine q2 ?_
 conv=>whnf
 refine ⟨_,_,rr,kp_ok (by repeat (first | exact trivial | refine ⟨trivial,?_⟩ | refine ⟨rfl,?_⟩)),?_⟩
 conv=>whnf
 refine q2 ?_
 conv=>whnf
 refine ⟨_,_,rr,kp_ok (by repeat (first | exact trivial | refine ⟨trivial,?_⟩ | refine ⟨rfl,?_⟩)),?_⟩
 conv=>whnf
 refine q2 ?_
 conv=>whnf
 refine ⟨_,_,rr,kp_ok (by repeat (first | exact trivial | refine ⟨trivial,?_⟩ | refine ⟨rfl,?_⟩)),?_⟩
 conv=>whnf
 refine Tr.seq ?_
 refine sg ?_
 conv=>whnf
 refine cB h (fun hb31 h=>?_) (fun hb31 h=>?_)
 ·conv=>whnf
  refine Tr.cond ?_
  conv=>whnf
  refine cB h (fun hb32 h=>?_) (fun hb32 h=>?_)
  ·refine rg ?_
   conv=>whnf
   refine sg ?_
   conv=>whnf
   refine Tr.ret ?_
   conv=>whnf
   cases h
   rfl
  refine Tr.skip ?_
  conv=>whnf
  refine sg ?_
  conv=>whnf
  refine Tr.ret ?_
  conv=>whnf
  cases h
  rfl
 conv=>whnf
 refine Tr.cond ?_
 conv=>whnf
 refine Tr.skip ?_
 conv=>whnf
 refine sg ?_
 conv=>whnf
 refine Tr.ret ?_
 conv=>whnf
 cases h
 rfl
theorem P109 (f_1:TField) (runner_2:Int) (r_3:TRank) (r_4:Int) (h:M109 f_1 runner_2=some (r_3,r_4)) :
    PC prog 22 [(eTField f_1),(.i .i64 runner_2)] (fun rs=>rs=[(eTRank r_3),(.i .i64 r_4)]):=by
 refine PC.of_tr (cx:=⟨18,none,lay,0⟩) layOK func22 rfl rfl rfl rfl rfl (by simp [f22]) ?_
 unfold M109 at h
 refine sg ?_
 conv=>whnf
 refine Tr.seq ?_
 refine sg ?_
 conv=>whnf
 refine orB_r ?_
 conv=>whnf
 obtain ⟨r_5,hc6,h⟩:=bS h
 refine PC.ecall (P65 f_1 ((([runner_2]:List Int))) r_5 hc6) (fun rs hrs=>?_)
 subst hrs
 conv=>whnf
 refine sg ?_
 conv=>whnf
 refine Tr.cond ?_
 conv=>whnf
 refine cB h (fun hb7 h=>?_) (fun hb7 h=>?_)
 ·refine sg ?_
  conv=>whnf
  refine Tr.ret ?_
  conv=>whnf
  cases h
  rfl
 refine Tr.skip ?_
 conv=>whnf
 refine sg ?_
 conv=>whnf
 obtain ⟨r_8,hc9,h⟩:=bS h
 refine PC.ecall (P108 f_1 runner_2 r_8 hc9) (fun rs hrs=>?_)
 subst hrs
 conv=>whnf
 refine Tr.ret ?_
 conv=>whnf
 cases h
 rfl
theorem P110 (s_1:Tadvice_state) (r_2:Bool) (h:M110 s_1=some r_2) :
    PC prog 32 [(eTadvice_state s_1)] (fun rs=>rs=[(.b r_2)]):=by
 refine PC.of_tr (cx:=⟨22,none,lay,0⟩) layOK func32 rfl rfl rfl rfl rfl (by simp [f32]) ?_
 unfold M110 at h
 refine sg ?_
 conv=>whnf
 refine sg ?_
 conv=>whnf
 obtain ⟨⟨r_3,r_4⟩,hc5,h⟩:=bS h
 refine PC.ecall (P109 s_1.q.Field s_1.q.Runner r_3 r_4 hc5) (fun rs hrs=>?_)
 subst hrs
 conv=>whnf
 refine sg ?_
 conv=>whnf
 refine cB h (fun hb6 h=>?_) (fun hb6 h=>?_)
 ·conv=>whnf
  refine Tr.ret ?_
  conv=>whnf
  cases h
  rfl
 conv=>whnf
 refine Tr.ret ?_
 conv=>whnf
 cases h
 rfl
theorem P111 (s_1:List Bool) (r_2:List Bool) (h:M111 s_1=some r_2) :
    PC prog 57 [(.ls (List.map eB s_1))] (fun rs=>rs=[(.ls (List.map eB r_2))]):=by
 refine PC.of_tr (cx:=⟨8,none,lay,0⟩) layOK func57 rfl rfl rfl rfl rfl (by simp [f57]) ?_
 unfold M111 at h
 refine sg ?_
 conv=>whnf
 refine Tr.seq ?_
 refine sg ?_
 conv=>whnf
 intro nb_3 hnb_3
 cases nb_3
 ·conv=>whnf
  refine Tr.cond ?_
  conv=>whnf
  refine Tr.skip ?_
  conv=>whnf
  refine sg ?_
  conv=>whnf
  refine orB_l ?_
  conv=>whnf
  refine frP_no ?_
  conv=>whnf
  refine eqS_mk (by first | rfl | simp) ?_
  conv=>whnf
  obtain ⟨l_4,hl_4,h⟩:=bS h
  refine apS_of hl_4 (aQ (f:=eB) (l:=s_1) fun _=>rfl) (by first | rfl | simp) (by first | rfl | simp) (fun he=>?_)
  conv=>whnf
  refine rS (es':=List.map .d (List.map eB l_4)) (n':=List.length l_4) (by subst he; simp only [List.map_append,List.map_cons,List.map_nil,List.nil_append]; first | done | rfl) (by subst he; simp <;> omega) ?_
  clear he
  conv=>whnf
  refine Tr.ret ?_
  conv=>whnf
  refine frE_of (f:=eB) (l:=l_4) rfl ?_
  conv=>whnf
  cases h
  rfl
 replace hnb_3:s_1=[]:=by simpa using hnb_3 rfl
 subst hnb_3
 replace h:(some (([]:List Bool)))=some r_2:=by simpa [app] using h
 conv=>whnf
 refine Tr.cond ?_
 conv=>whnf
 refine sg ?_
 conv=>whnf
 refine Tr.ret ?_
 conv=>whnf
 cases h
 rfl
theorem n_slices_Clone_bool_bool (s_1:List Bool) (r_2:List Bool) (h:M111 s_1=some r_2) :
    NC prog 57 [(.ls (List.map eB s_1))] 1 (fun es=>es=List.map eB r_2):=by
 unfold NC
 refine ECall.of_tr (cx:=⟨8,none,lay,0⟩) layOK func57 rfl rfl rfl rfl rfl (by simp [f57]) ?_
 unfold M111 at h
 refine sg ?_
 conv=>whnf
 refine Tr.seq ?_
 refine sg ?_
 conv=>whnf
 intro nb_3 hnb_3
 cases nb_3
 ·conv=>whnf
  refine Tr.cond ?_
  conv=>whnf
  refine Tr.skip ?_
  conv=>whnf
  refine sg ?_
  conv=>whnf
  refine orB_l ?_
  conv=>whnf
  refine frP_no ?_
  conv=>whnf
  refine eqS_mk (by first | rfl | simp) ?_
  conv=>whnf
  obtain ⟨l_4,hl_4,h⟩:=bS h
  refine apS_of hl_4 (aQ (f:=eB) (l:=s_1) fun _=>rfl) (by first | rfl | simp) (by first | rfl | simp) (fun he=>?_)
  conv=>whnf
  refine rS (es':=List.map .d (List.map eB l_4)) (n':=List.length l_4) (by subst he; simp only [List.map_append,List.map_cons,List.map_nil,List.nil_append]; first | done | rfl) (by subst he; simp <;> omega) ?_
  clear he
  conv=>whnf
  refine Tr.ret ?_
  conv=>whnf
  cases h
  exact ⟨1,List.map eB r_2,by rw [List.length_map]; rfl,rfl,rfl⟩
 replace hnb_3:s_1=[]:=by simpa using hnb_3 rfl
 subst hnb_3
 replace h:(some (([]:List Bool)))=some r_2:=by simpa [app] using h
 conv=>whnf
 refine Tr.cond ?_
 conv=>whnf
 refine sg ?_
 conv=>whnf
 refine Tr.nslT 2 1 ?_
 conv=>whnf
 refine Tr.ret ?_
 conv=>whnf
 cases h
 exact ⟨_,[],rfl,rfl,rfl⟩
theorem P112 (s_1:List TRunner) (r_2:List TRunner) (h:M112 s_1=some r_2) :
    PC prog 58 [(.ls (List.map eTRunner s_1))] (fun rs=>rs=[(.ls (List.map eTRunner r_2))]):=by
 refine PC.of_tr (cx:=⟨8,none,lay,0⟩) layOK func58 rfl rfl rfl rfl rfl (by simp [f58]) ?_
 unfold M112 at h
 refine sg ?_
 conv=>whnf
 refine Tr.seq ?_
 refine sg ?_
 conv=>whnf
 intro nb_3 hnb_3
 cases nb_3
 ·conv=>whnf
  refine Tr.cond ?_
  conv=>whnf
  refine Tr.skip ?_
  conv=>whnf
  refine sg ?_
  conv=>whnf
  refine orB_l ?_
  conv=>whnf
  refine frP_no ?_
  conv=>whnf
  refine eqS_mk (by first | rfl | simp) ?_
  conv=>whnf
  obtain ⟨l_4,hl_4,h⟩:=bS h
  refine apS_of hl_4 (aQ (f:=eTRunner) (l:=s_1) fun _=>rfl) (by first | rfl | simp) (by first | rfl | simp) (fun he=>?_)
  conv=>whnf
  refine rS (es':=List.map .d (List.map eTRunner l_4)) (n':=List.length l_4) (by subst he; simp only [List.map_append,List.map_cons,List.map_nil,List.nil_append]; first | done | rfl) (by subst he; simp <;> omega) ?_
  clear he
  conv=>whnf
  refine Tr.ret ?_
  conv=>whnf
  refine frE_of (f:=eTRunner) (l:=l_4) rfl ?_
  conv=>whnf
  cases h
  rfl
 replace hnb_3:s_1=[]:=by simpa using hnb_3 rfl
 subst hnb_3
 replace h:(some (([]:List TRunner)))=some r_2:=by simpa [app] using h
 conv=>whnf
 refine Tr.cond ?_
 conv=>whnf
 refine sg ?_
 conv=>whnf
 refine Tr.ret ?_
 conv=>whnf
 cases h
 rfl
theorem n_slices_Clone_Runner_Runner (s_1:List TRunner) (r_2:List TRunner) (h:M112 s_1=some r_2) :
    NC prog 58 [(.ls (List.map eTRunner s_1))] 3 (fun es=>es=List.map eTRunner r_2):=by
 unfold NC
 refine ECall.of_tr (cx:=⟨8,none,lay,0⟩) layOK func58 rfl rfl rfl rfl rfl (by simp [f58]) ?_
 unfold M112 at h
 refine sg ?_
 conv=>whnf
 refine Tr.seq ?_
 refine sg ?_
 conv=>whnf
 intro nb_3 hnb_3
 cases nb_3
 ·conv=>whnf
  refine Tr.cond ?_
  conv=>whnf
  refine Tr.skip ?_
  conv=>whnf
  refine sg ?_
  conv=>whnf
  refine orB_l ?_
  conv=>whnf
  refine frP_no ?_
  conv=>whnf
  refine eqS_mk (by first | rfl | simp) ?_
  conv=>whnf
  obtain ⟨l_4,hl_4,h⟩:=bS h
  refine apS_of hl_4 (aQ (f:=eTRunner) (l:=s_1) fun _=>rfl) (by first | rfl | simp) (by first | rfl | simp) (fun he=>?_)
  conv=>whnf
  refine rS (es':=List.map .d (List.map eTRunner l_4)) (n':=List.length l_4) (by subst he; simp only [List.map_append,List.map_cons,List.map_nil,List.nil_append]; first | done | rfl) (by subst he; simp <;> omega) ?_
  clear he
  conv=>whnf
  refine Tr.ret ?_
  conv=>whnf
  cases h
  exact ⟨1,List.map eTRunner r_2,by rw [List.length_map]; rfl,rfl,rfl⟩
 replace hnb_3:s_1=[]:=by simpa using hnb_3 rfl
 subst hnb_3
 replace h:(some (([]:List TRunner)))=some r_2:=by simpa [app] using h
 conv=>whnf
 refine Tr.cond ?_
 conv=>whnf
 refine sg ?_
 conv=>whnf
 refine Tr.nslT 2 3 ?_
 conv=>whnf
 refine Tr.ret ?_
 conv=>whnf
 cases h
 exact ⟨_,[],rfl,rfl,rfl⟩
theorem P115 (s_1:Tadvice_state) (look_2:Int) (answer_3:Int) (r_4:Tadvice_state) (r_5:Bool) (h:M115 s_1 look_2 answer_3=some (r_4,r_5)) :
    PC prog 33 [(eTadvice_state s_1),(.i .i64 look_2),(.i .i64 answer_3)] (fun rs=>rs=[(eTadvice_state r_4),(.b r_5)]):=by
 refine PC.of_tr (cx:=⟨107,none,lay,0⟩) layOK func33 rfl rfl rfl rfl rfl (by simp [f33]) ?_
 unfold M115 at h
 refine sg ?_
 conv=>whnf
 refine sg ?_
 conv=>whnf
 obtain ⟨x_6,hx_6,h⟩:=bS h
 refine ixP_of hx_6 ?_
 conv=>whnf
 refine sg ?_
 conv=>whnf
 obtain ⟨x_7,hx_7,h⟩:=bS h
 refine ixP_of hx_7 ?_
 conv=>whnf
 refine sd [(6,1)] [(0,3),(1,3),(2,3),(3,3),(4,0),(5,1),(6,0)] ?_
 conv=>whnf
 refine q2 ?_
 conv=>whnf
 refine q2 ?_
 conv=>whnf
 refine q2 ?_
 conv=>whnf
 refine q2 ?_
 conv=>whnf
 obtain ⟨l_8,hl_8,h⟩:=bS h
 refine ⟨_,_,(by (conv=>whnf); (refine NC.ecall (n_slices_Clone_bool_bool s_1.used l_8 hl_8) (es':=List.map .d (List.map eB l_8)) (n':=List.length l_8) rfl (fun es he=>by subst he; exact ⟨rfl,by simp⟩) ?_); (conv=>whnf); (exact rr)),kp_ok (by repeat (first | exact trivial | refine ⟨trivial,?_⟩ | refine ⟨rfl,?_⟩)),?_⟩
 conv=>whnf
 refine q1 ?_
 conv=>whnf
 refine ⟨_,_,(by (conv=>whnf); (refine orB_l ?_); (conv=>whnf); (exact rr)),kp_ok (by repeat (first | exact trivial | refine ⟨trivial,?_⟩ | refine ⟨rfl,?_⟩)),?_⟩
 conv=>whnf
 refine sg ?_
 conv=>whnf
 obtain ⟨x_9,hx_9,h⟩:=bS h
 refine ixS_of hx_9 rfl ?_
 conv=>whnf
 refine elP_of hx_9 ?_
 conv=>whnf
 refine lvS_mk (es':=List.map .d (List.map eB (List.set l_8 (Int.toNat look_2) true))) (by simp only [Nat.zero_add,List.map_set]; first | done | rfl) ?_
 conv=>whnf
 refine sg ?_
 conv=>whnf
 obtain ⟨l_10,hl_10,h⟩:=bS h
 refine NC.ecall (n_slices_Clone_Runner_Runner s_1.q.Field.Runners l_10 hl_10) (es':=List.map .d (List.map eTRunner l_10)) (n':=List.length l_10) rfl (fun es he=>by subst he; exact ⟨rfl,by simp⟩) ?_
 conv=>whnf
 refine orB_l ?_
 conv=>whnf
 refine sg ?_
 conv=>whnf
 refine Tr.seq ?_
 refine sg ?_
 conv=>whnf
 obtain ⟨x_11,hx_11,h⟩:=bS h
 refine ixS_of hx_11 rfl ?_
 conv=>whnf
 refine elP_of hx_11 ?_
 conv=>whnf
 refine lnS_map ?_
 conv=>whnf
 obtain ⟨l_17,hv36,h⟩:=bS h
 refine Tr.cutQ1 ([(6,.pt 0 0),(7,.d (.b false)),(8,.pt 1 0),(10,.sl 2 1 0 (List.length l_17))]) ([some (.var [.d (.ls (List.map eTSegment s_1.q.Field.Clocks.Segments)),.d (.ls (List.map (eL eI) s_1.q.Field.Clocks.Far)),.d (.ls (List.map eTPair s_1.q.Field.Pairs)),.sl 3 3 0 (List.length l_10),(dI s_1.q.Runner),.d (.ls (List.map eTLook s_1.q.Looks)),.sl 4 1 0 (List.length (List.set l_8 (Int.toNat look_2) true))]),some (.var [(dI x_6.Runner),.d (.ls (List.map eTSpan x_6.Answers))]),some (.arr 1 (List.map .d (List.map (eL eTOutcome) l_17))),some (.arr 3 (List.map .d (List.map eTRunner l_10))),some (.arr 1 (List.map .d (List.map eB (List.set l_8 (Int.toNat look_2) true))))]) ?_ (fun T1 H1 hw=>?_)
 ·replace h:=hv36; clear hv36
  refine Tr.block ?_
  refine Tr.loopM (σ:=Int × List (List TOutcome)) (fun n s=>M114 x_7 x_11 n s.1 s.2) l_17 (fun s=>([(6,.pt 0 0),(7,.d (.b false)),(8,.pt 1 0),(9,.pt 2 0),(10,.sl 3 1 0 (List.length s.2)),(53,.d (.ls (List.map (eL eTOutcome) x_11.Worlds))),(54,(dI (((x_11.Worlds).length:Int)))),(55,(dI s.1))],[some (.var [.d (.ls (List.map eTSegment s_1.q.Field.Clocks.Segments)),.d (.ls (List.map (eL eI) s_1.q.Field.Clocks.Far)),.d (.ls (List.map eTPair s_1.q.Field.Pairs)),.sl 4 3 0 (List.length l_10),(dI s_1.q.Runner),.d (.ls (List.map eTLook s_1.q.Looks)),.sl 5 1 0 (List.length (List.set l_8 (Int.toNat look_2) true))]),some (.var [(dI x_6.Runner),.d (.ls (List.map eTSpan x_6.Answers))]),some (.var [(dI x_7.Lo),(dI x_7.Hi)]),some (.arr 1 (List.map .d (List.map (eL eTOutcome) s.2))),some (.arr 3 (List.map .d (List.map eTRunner l_10))),some (.arr 1 (List.map .d (List.map eB (List.set l_8 (Int.toNat look_2) true))))])) (((((x_11.Worlds).length:Int)) - 0:Int).toNat+1) (0,(([]:List (List TOutcome)))) h (fun s=>rfl) (Wk.mk2 [1,2,3,6,5,4] 6 rfl rfl (by decide) rfl ⟨⟨rfl,(by first | rfl | (simp only [List.length_set]; rfl) | simp)⟩,rr,rr,rfl,daS_d rfl,daS_d rfl,trivial⟩ ⟨⟨rfl,(by first | rfl | (simp only [List.length_set]; rfl) | simp)⟩,rr,⟨rfl,(by first | rfl | (simp only [List.length_set]; rfl) | simp)⟩,⟨rfl,(by first | rfl | (simp only [List.length_set]; rfl) | simp)⟩,⟨rfl,(by first | rfl | (simp only [List.length_set]; rfl) | simp)⟩,rr,rr,rr,trivial⟩) ?_
  clear h
  rintro n_16 ⟨v_14,l_15⟩ h
  replace h:M114 x_7 x_11 (n_16+1) v_14 l_15=some l_17:=h
  rw [M114] at h
  refine sg ?_
  conv=>whnf
  refine Tr.seq ?_
  refine Tr.cond ?_
  conv=>whnf
  refine cB h (fun hb20 h=>?_) (fun hb20 h=>?_)
  ·refine Tr.skip ?_
   conv=>whnf
   refine Tr.seq ?_
   refine Tr.block ?_
   refine sg ?_
   conv=>whnf
   obtain ⟨x_21,hx_21,h⟩:=bS h
   refine ixP_of hx_21 ?_
   conv=>whnf
   refine sg ?_
   conv=>whnf
   refine Tr.seq ?_
   refine sg ?_
   conv=>whnf
   refine lnS_map ?_
   conv=>whnf
   obtain ⟨l_27,hv34,h⟩:=bS h
   refine Tr.cutQ1 ([(6,.pt 0 0),(7,.d (.b false)),(8,.pt 1 0),(9,.pt 2 0),(10,.sl 3 1 0 (List.length l_15)),(13,.sl 4 4 0 (List.length l_27)),(53,.d (.ls (List.map (eL eTOutcome) x_11.Worlds))),(54,(dI (((x_11.Worlds).length:Int)))),(55,(dI v_14))]) ([some (.var [.d (.ls (List.map eTSegment s_1.q.Field.Clocks.Segments)),.d (.ls (List.map (eL eI) s_1.q.Field.Clocks.Far)),.d (.ls (List.map eTPair s_1.q.Field.Pairs)),.sl 5 3 0 (List.length l_10),(dI s_1.q.Runner),.d (.ls (List.map eTLook s_1.q.Looks)),.sl 6 1 0 (List.length (List.set l_8 (Int.toNat look_2) true))]),some (.var [(dI x_6.Runner),.d (.ls (List.map eTSpan x_6.Answers))]),some (.var [(dI x_7.Lo),(dI x_7.Hi)]),some (.arr 1 (List.map .d (List.map (eL eTOutcome) l_15))),some (.arr 4 (List.map .d (List.map eTOutcome l_27))),some (.arr 3 (List.map .d (List.map eTRunner l_10))),some (.arr 1 (List.map .d (List.map eB (List.set l_8 (Int.toNat look_2) true))))]) ?_ (fun T1 H1 hw=>?_)
   ·replace h:=hv34; clear hv34
    refine Tr.block ?_
    refine Tr.loopM (σ:=Int × List TOutcome) (fun n s=>M113 x_7 x_21 n s.1 s.2) l_27 (fun s=>([(6,.pt 0 0),(7,.d (.b false)),(8,.pt 1 0),(9,.pt 2 0),(10,.sl 3 1 0 (List.length l_15)),(13,.sl 4 4 0 (List.length s.2)),(53,.d (.ls (List.map (eL eTOutcome) x_11.Worlds))),(54,(dI (((x_11.Worlds).length:Int)))),(55,(dI v_14)),(59,.d (.ls (List.map eTOutcome x_21))),(60,(dI (((x_21).length:Int)))),(61,(dI s.1))],[some (.var [.d (.ls (List.map eTSegment s_1.q.Field.Clocks.Segments)),.d (.ls (List.map (eL eI) s_1.q.Field.Clocks.Far)),.d (.ls (List.map eTPair s_1.q.Field.Pairs)),.sl 5 3 0 (List.length l_10),(dI s_1.q.Runner),.d (.ls (List.map eTLook s_1.q.Looks)),.sl 6 1 0 (List.length (List.set l_8 (Int.toNat look_2) true))]),some (.var [(dI x_6.Runner),.d (.ls (List.map eTSpan x_6.Answers))]),some (.var [(dI x_7.Lo),(dI x_7.Hi)]),some (.arr 1 (List.map .d (List.map (eL eTOutcome) l_15))),some (.arr 4 (List.map .d (List.map eTOutcome s.2))),some (.arr 3 (List.map .d (List.map eTRunner l_10))),some (.arr 1 (List.map .d (List.map eB (List.set l_8 (Int.toNat look_2) true))))])) (((((x_21).length:Int)) - 0:Int).toNat+1) (0,(([]:List TOutcome))) h (fun s=>rfl) (Wk.mk2 [0,1,2,3,6,4,5] 6 rfl rfl (by decide) rfl ⟨⟨rfl,(by first | rfl | (simp only [↓hb20,bl,List.length_set]; done) | (simp only [↓hb20,bl,List.length_set]; rfl))⟩,rr,rr,daS_d rfl,rfl,daS_d rfl,daS_d rfl,trivial⟩ ⟨rr,rr,rr,rr,rr,⟨rfl,(by first | rfl | (simp only [↓hb20,bl,List.length_set]; done) | (simp only [↓hb20,bl,List.length_set]; rfl))⟩,rr,rr,rr,rr,rr,rr,trivial⟩) ?_
    clear h
    rintro n_26 ⟨v_24,l_25⟩ h
    replace h:M113 x_7 x_21 (n_26+1) v_24 l_25=some l_27:=h
    rw [M113] at h
    refine sg ?_
    conv=>whnf
    refine Tr.seq ?_
    refine Tr.cond ?_
    conv=>whnf
    refine cB h (fun hb30 h=>?_) (fun hb30 h=>?_)
    ·refine Tr.skip ?_
     conv=>whnf
     refine Tr.seq ?_
     refine Tr.block ?_
     refine sg ?_
     conv=>whnf
     obtain ⟨x_31,hx_31,h⟩:=bS h
     refine ixP_of hx_31 ?_
     conv=>whnf
     refine sd [(11,7),(13,7)] [(0,10),(1,10),(2,5),(3,5),(4,1),(5,10),(6,10),(7,5),(8,5),(9,1),(10,10),(11,0),(12,10),(13,0)] ?_
     conv=>whnf
     refine q2 ?_
     conv=>whnf
     refine q2 ?_
     conv=>whnf
     refine q2 ?_
     conv=>whnf
     refine q2 ?_
     conv=>whnf
     refine q1 ?_
     conv=>whnf
     refine q2 ?_
     conv=>whnf
     refine q2 ?_
     conv=>whnf
     refine q2 ?_
     conv=>whnf
     refine q2 ?_
     conv=>whnf
     refine q1 ?_
     conv=>whnf
     refine q2 ?_
     conv=>whnf
     refine ⟨_,_,rr,kp_ok (by repeat (first | exact trivial | refine ⟨trivial,?_⟩ | refine ⟨rfl,?_⟩)),?_⟩
     conv=>whnf
     refine q2 ?_
     conv=>whnf
     refine ⟨_,_,rr,kp_ok (by repeat (first | exact trivial | refine ⟨trivial,?_⟩ | refine ⟨rfl,?_⟩)),?_⟩
     conv=>whnf
     refine sg ?_
     conv=>whnf
     refine Tr.cond ?_
     conv=>whnf
     refine cB h (fun hb32 h=>?_) (fun hb32 h=>?_)
     ·refine rg ?_
      conv=>whnf
      refine orB_r ?_
      conv=>whnf
      refine frP_no ?_
      conv=>whnf
      refine eqS_mk (by first | rfl | simp) ?_
      conv=>whnf
      obtain ⟨l_33,hl_33,h⟩:=bS h
      refine apS_of hl_33 (aQ (f:=eTOutcome) (l:=(([({ Out:=x_31.Out,Seg:=x_31.Seg,Lo:=(maxG x_31.Lo x_7.Lo),Hi:=(minG x_31.Hi x_7.Hi) }:TOutcome)]:List TOutcome))) fun _=>rfl) (by first | rfl | simp) (by first | rfl | simp) (fun he=>?_)
      conv=>whnf
      refine rS (es':=List.map .d (List.map eTOutcome l_33)) (n':=List.length l_33) (by subst he; simp only [List.map_append,List.map_cons,List.map_nil,List.nil_append]; first | done | rfl) (by subst he; simp <;> omega) ?_
      clear he
      conv=>whnf
      refine rg ?_
      conv=>whnf
      refine arS_raw ?_
      conv=>whnf
      refine ⟨((w64 (v_24+1)),l_33),h,?_⟩
      exact Wk.mk2 [0,1,2,3,8,5,6] 9 rfl rfl (by decide) rfl ⟨rr,rr,rr,daS_d rfl,daS_d rfl,daS_d rfl,daS_d rfl,trivial⟩ ⟨rr,rr,rr,rr,rr,⟨rfl,(by first | rfl | (simp only [↓hb20,↓hb30,↓hb32,bl,List.length_set]; done) | (simp only [↓hb20,↓hb30,↓hb32,bl,List.length_set]; rfl))⟩,rr,rr,rr,rr,rr,rr,trivial⟩
     refine Tr.skip ?_
     conv=>whnf
     refine rg ?_
     conv=>whnf
     refine arS_raw ?_
     conv=>whnf
     refine ⟨((w64 (v_24+1)),l_25),h,?_⟩
     exact Wk.mk2 [0,1,2,3,4,5,6] 8 rfl rfl (by decide) rfl ⟨rr,rr,rr,daS_d rfl,daS_d rfl,daS_d rfl,daS_d rfl,trivial⟩ ⟨rr,rr,rr,rr,rr,rr,rr,rr,rr,rr,rr,rr,trivial⟩
    refine Tr.exit ?_
    conv=>whnf
    cases h
    exact Wk.mk2 [0,1,2,3,4,5,6] 7 rfl rfl (by decide) rfl ⟨rr,rr,rr,daS_d rfl,daS_d rfl,daS_d rfl,daS_d rfl,trivial⟩ ⟨rr,rr,rr,rr,rr,rr,rr,rr,rr,trivial⟩
   clear hv34
   conv=>whnf
   refine Tr.weak hw ?_
   refine rg ?_
   conv=>whnf
   refine orB_r ?_
   conv=>whnf
   refine frE_of (f:=eTOutcome) (l:=l_27) rfl ?_
   conv=>whnf
   refine frP_no ?_
   conv=>whnf
   refine eqS_mk (by first | rfl | simp) ?_
   conv=>whnf
   obtain ⟨l_35,hl_35,h⟩:=bS h
   refine apS_of hl_35 (aQ (f:=(eL eTOutcome)) (l:=(([l_27]:List (List TOutcome)))) fun _=>rfl) (by first | rfl | simp) (by first | rfl | simp) (fun he=>?_)
   conv=>whnf
   refine rS (es':=List.map .d (List.map (eL eTOutcome) l_35)) (n':=List.length l_35) (by subst he; simp only [List.map_append,List.map_cons,List.map_nil,List.nil_append]; first | done | rfl) (by subst he; simp <;> omega) ?_
   clear he
   conv=>whnf
   refine rg ?_
   conv=>whnf
   refine arS_raw ?_
   conv=>whnf
   refine ⟨((w64 (v_14+1)),l_35),h,?_⟩
   exact Wk.mk2 [0,1,2,7,5,6] 8 rfl rfl (by decide) rfl ⟨⟨rfl,(by first | rfl | (simp only [↓hb20,bl,List.length_set]; done) | (simp only [↓hb20,bl,List.length_set]; rfl))⟩,rr,rr,daS_d rfl,daS_d rfl,daS_d rfl,trivial⟩ ⟨rr,rr,rr,rr,⟨rfl,(by first | rfl | (simp only [↓hb20,bl,List.length_set]; done) | (simp only [↓hb20,bl,List.length_set]; rfl))⟩,rr,rr,rr,trivial⟩
  refine Tr.exit ?_
  conv=>whnf
  cases h
  exact Wk.mk2 [0,1,3,4,5] 6 rfl rfl (by decide) rfl ⟨⟨rfl,(by first | rfl | (simp only [↓hb20,bl,List.length_set]; done) | (simp only [↓hb20,bl,List.length_set]; rfl))⟩,rr,daS_d rfl,daS_d rfl,daS_d rfl,trivial⟩ ⟨rr,rr,rr,⟨rfl,(by first | rfl | (simp only [↓hb20,bl,List.length_set]; done) | (simp only [↓hb20,bl,List.length_set]; rfl))⟩,trivial⟩
 clear hv36
 conv=>whnf
 refine Tr.weak hw ?_
 refine sg ?_
 conv=>whnf
 obtain ⟨x_37,hx_37,h⟩:=bS h
 refine ixS_of hx_37 rfl ?_
 conv=>whnf
 refine orB_r ?_
 conv=>whnf
 refine frE_of (f:=(eL eTOutcome)) (l:=l_17) rfl ?_
 conv=>whnf
 refine elP_of hx_37 ?_
 conv=>whnf
 refine lvS_mk (es':=List.map .d (List.map eTRunner (List.set l_10 (Int.toNat x_6.Runner) ({ Bib:=x_37.Bib,Keys:=x_37.Keys,Worlds:=l_17 }:TRunner)))) (by simp only [Nat.zero_add,List.map_set]; first | done | rfl) ?_
 conv=>whnf
 refine sd [(6,0)] [(0,3),(1,3),(2,3),(3,3),(4,0),(5,1),(6,0),(7,1)] ?_
 conv=>whnf
 refine q2 ?_
 conv=>whnf
 refine q2 ?_
 conv=>whnf
 refine q2 ?_
 conv=>whnf
 refine q2 ?_
 conv=>whnf
 obtain ⟨r_38,hc39,h⟩:=bS h
 refine ⟨_,_,(by (conv=>whnf); (refine PC.ecall_lend ?_ ⟨_,_,func45,rfl,rfl⟩); (conv=>whnf); (refine frE_of (f:=eTRunner) (l:=(List.set l_10 (Int.toNat x_6.Runner) ({ Bib:=x_37.Bib,Keys:=x_37.Keys,Worlds:=l_17 }:TRunner))) (by first | rfl | simp) ?_); (conv=>whnf); (refine ⟨_,P48 (({ Clocks:=s_1.q.Field.Clocks,Pairs:=s_1.q.Field.Pairs,Runners:=(List.set l_10 (Int.toNat x_6.Runner) ({ Bib:=x_37.Bib,Keys:=x_37.Keys,Worlds:=l_17 }:TRunner)) }:TField)) r_38 hc39,fun rs hrs=>?_⟩); (subst hrs); (refine ⟨rfl,?_⟩); (conv=>whnf); (exact rr)),kp_ok (by repeat (first | exact trivial | refine ⟨trivial,?_⟩ | refine ⟨rfl,?_⟩)),?_⟩
 conv=>whnf
 refine q1 ?_
 conv=>whnf
 refine ⟨_,_,(by (conv=>whnf); (refine orB_l ?_); (conv=>whnf); (exact rr)),kp_ok (by repeat (first | exact trivial | refine ⟨trivial,?_⟩ | refine ⟨rfl,?_⟩)),?_⟩
 conv=>whnf
 refine q1 ?_
 conv=>whnf
 refine Tr.ret ?_
 conv=>whnf
 refine frE_of (f:=eTRunner) (l:=(List.set l_10 (Int.toNat x_6.Runner) ({ Bib:=x_37.Bib,Keys:=x_37.Keys,Worlds:=l_17 }:TRunner))) (by first | rfl | simp) ?_
 conv=>whnf
 refine frE_of (f:=eB) (l:=(List.set l_8 (Int.toNat look_2) true)) rfl ?_
 conv=>whnf
 cases h
 rfl
theorem P120 (rc_9027:Tadvice_state→Int→Int→(List TSegment)→(List (List Int))→(List TPair)→(List TRunner)→Int→(List TLook)→Option (Option (Bool × Int))) (ih_9027:∀ (s_1:Tadvice_state) (left_2:Int) (v_3:Int) (v_4:List TSegment) (v_5:List (List Int)) (v_6:List TPair) (v_7:List TRunner) (v_8:Int) (v_9:List TLook) (q:Option (Bool × Int)),rc_9027 s_1 left_2 v_3 v_4 v_5 v_6 v_7 v_8 v_9=some q→MCP prog 38 [.d (eTadvice_state s_1),(dI left_2),.pt 0 0,.pt 2 0,.pt 3 0] [.var [.fm 37 [.pt 1 0]],.var [(dI v_3)],.var [.d (.ls (List.map eTSegment v_4)),.d (.ls (List.map (eL eI) v_5)),.d (.ls (List.map eTPair v_6)),.d (.ls (List.map eTRunner v_7)),(dI v_8),.d (.ls (List.map eTLook v_9))],.var [.fn 38 [.pt 0 0,.pt 2 0,.pt 3 0]]] (fun rs Bs=>∃ r_10:Bool,∃ b_11:Int,q=some (r_10,b_11)∧rs=[(.b r_10)]∧Bs=[.var [.fm 37 [.pt 1 0]],.var [(dI b_11)],.var [.d (.ls (List.map eTSegment v_4)),.d (.ls (List.map (eL eI) v_5)),.d (.ls (List.map eTPair v_6)),.d (.ls (List.map eTRunner v_7)),(dI v_8),.d (.ls (List.map eTLook v_9))],.var [.fn 38 [.pt 0 0,.pt 2 0,.pt 3 0]]]) (fun pv=>pv=(.iface 78 (.agg #[]))∧q=none)) (s_1:Tadvice_state) (left_2:Int) (v_3:Int) (v_4:List TSegment) (v_5:List (List Int)) (v_6:List TPair) (v_7:List TRunner) (v_8:Int) (v_9:List TLook) (q:Option (Bool × Int)) (h:M120 rc_9027 s_1 left_2 v_3 v_4 v_5 v_6 v_7 v_8 v_9=some q) :
    MCP prog 38 [.d (eTadvice_state s_1),(dI left_2),.pt 0 0,.pt 2 0,.pt 3 0] [.var [.fm 37 [.pt 1 0]],.var [(dI v_3)],.var [.d (.ls (List.map eTSegment v_4)),.d (.ls (List.map (eL eI) v_5)),.d (.ls (List.map eTPair v_6)),.d (.ls (List.map eTRunner v_7)),(dI v_8),.d (.ls (List.map eTLook v_9))],.var [.fn 38 [.pt 0 0,.pt 2 0,.pt 3 0]]] (fun rs Bs=>∃ r_10:Bool,∃ b_11:Int,q=some (r_10,b_11)∧rs=[(.b r_10)]∧Bs=[.var [.fm 37 [.pt 1 0]],.var [(dI b_11)],.var [.d (.ls (List.map eTSegment v_4)),.d (.ls (List.map (eL eI) v_5)),.d (.ls (List.map eTPair v_6)),.d (.ls (List.map eTRunner v_7)),(dI v_8),.d (.ls (List.map eTLook v_9))],.var [.fn 38 [.pt 0 0,.pt 2 0,.pt 3 0]]]) (fun pv=>pv=(.iface 78 (.agg #[]))∧q=none):=by
 refine MCP.of_tr (cx:=⟨56,none,lay,4⟩) layOK func38 rfl rfl rfl rfl rfl (by simp [f38]) ?_
 refine Tr.unW ?_
 unfold M120 at h
 refine sg ?_
 conv=>whnf
 refine Tr.scope ?_
 refine Tr.seq ?_
 refine Tr.regionP layOK ?_
 conv=>whnf
 refine .inl ?_
 conv=>whnf
 obtain ⟨q_13,hc14,h⟩:=bS h
 refine .inr ?_
 conv=>whnf
 refine MCP.ecall (P62 v_3 q_13 hc14) [1] (by decide) rfl rfl ?_ (fun rs Bs1 hrs=>?_) (fun pv hpv=>?_)
 · exact ⟨⟨rfl,rfl⟩,trivial⟩
 rotate_left
 ·obtain ⟨rfl,rfl⟩:=hpv
  rw [onP_none] at h
  conv=>whnf
  refine endH ?_
  conv=>whnf
  cases h
  exact ⟨_,rfl,rfl,rfl⟩
 obtain ⟨b_12,rfl,rfl,rfl⟩:=hrs
 rw [onP_some] at h
 conv=>whnf
 refine Tr.seq ?_
 refine sg ?_
 conv=>whnf
 obtain ⟨r_15,hc16,h⟩:=bS h
 refine PC.ecall (P110 s_1 r_15 hc16) (fun rs hrs=>?_)
 subst hrs
 conv=>whnf
 refine Tr.cond ?_
 conv=>whnf
 refine cB h (fun hb17 h=>?_) (fun hb17 h=>?_)
 ·refine sg ?_
  conv=>whnf
  refine Tr.ret ?_
  conv=>whnf
  refine endH ?_
  conv=>whnf
  cases h
  exact ⟨[.var [.fm 37 [.pt 1 0]],.var [(dI b_12)],.var [.d (.ls (List.map eTSegment v_4)),.d (.ls (List.map (eL eI) v_5)),.d (.ls (List.map eTPair v_6)),.d (.ls (List.map eTRunner v_7)),(dI v_8),.d (.ls (List.map eTLook v_9))],.var [.fn 38 [.pt 0 0,.pt 2 0,.pt 3 0]]],rfl,rfl,⟨rfl,rfl,rfl,rfl,trivial⟩,_,_,rfl,rfl,rfl⟩
 refine Tr.skip ?_
 conv=>whnf
 refine Tr.seq ?_
 refine sg ?_
 conv=>whnf
 refine Tr.cond ?_
 conv=>whnf
 refine cB h (fun hb18 h=>?_) (fun hb18 h=>?_)
 ·refine sg ?_
  conv=>whnf
  refine Tr.ret ?_
  conv=>whnf
  refine endH ?_
  conv=>whnf
  cases h
  exact ⟨[.var [.fm 37 [.pt 1 0]],.var [(dI b_12)],.var [.d (.ls (List.map eTSegment v_4)),.d (.ls (List.map (eL eI) v_5)),.d (.ls (List.map eTPair v_6)),.d (.ls (List.map eTRunner v_7)),(dI v_8),.d (.ls (List.map eTLook v_9))],.var [.fn 38 [.pt 0 0,.pt 2 0,.pt 3 0]]],rfl,rfl,⟨rfl,rfl,rfl,rfl,trivial⟩,_,_,rfl,rfl,rfl⟩
 refine Tr.skip ?_
 conv=>whnf
 refine Tr.seq ?_
 refine Tr.label ?_
 conv=>whnf
 refine Tr.seq ?_
 refine sg ?_
 conv=>whnf
 refine lnS_map ?_
 conv=>whnf
 refine Tr.cutQ (α:=Int) (fun s=>([(7,.d (.b false))],[some (.var [.fm 37 [.pt 1 0]]),some (.var [(dI s)]),some (.var [.d (.ls (List.map eTSegment v_4)),.d (.ls (List.map (eL eI) v_5)),.d (.ls (List.map eTPair v_6)),.d (.ls (List.map eTRunner v_7)),(dI v_8),.d (.ls (List.map eTLook v_9))]),some (.var [.fn 38 [.pt 0 0,.pt 2 0,.pt 3 0]])])) (fun s=>M119 s=some q) ?_ ?_
 ·refine Tr.block ?_
  refine Tr.loopM (σ:=Int × Int) (fun n s=>M118 s_1 left_2 v_4 v_5 v_6 v_7 v_8 v_9 rc_9027 M119 n s.1 s.2) q (fun s=>([(1,(dI left_2)),(4,.pt 3 0),(5,.pt 4 0),(7,.d (.b false)),(20,.d (.ls (List.map eTLook v_9))),(21,(dI (((v_9).length:Int)))),(22,(dI s.1))],[some (.var [.fm 37 [.pt 1 0]]),some (.var [(dI s.2)]),some (.var [.d (.ls (List.map eTSegment v_4)),.d (.ls (List.map (eL eI) v_5)),.d (.ls (List.map eTPair v_6)),.d (.ls (List.map eTRunner v_7)),(dI v_8),.d (.ls (List.map eTLook v_9))]),some (.var [.fn 38 [.pt 0 0,.pt 2 0,.pt 3 0]]),some (.var [.d (.ls (List.map eTSegment s_1.q.Field.Clocks.Segments)),.d (.ls (List.map (eL eI) s_1.q.Field.Clocks.Far)),.d (.ls (List.map eTPair s_1.q.Field.Pairs)),.d (.ls (List.map eTRunner s_1.q.Field.Runners)),(dI s_1.q.Runner),.d (.ls (List.map eTLook s_1.q.Looks)),.d (.ls (List.map eB s_1.used))])])) (((((v_9).length:Int)) - 0:Int).toNat+1) (0,b_12) h (fun s=>rfl) (Wk.mk2 [0,1,2,3,4] 5 rfl rfl (by decide) rfl ⟨rr,rr,rr,rr,rr,trivial⟩ ⟨rr,rr,rr,rr,rr,rr,rr,trivial⟩) ?_
  clear h
  rintro n_23 ⟨v_21,v_22⟩ h
  replace h:M118 s_1 left_2 v_4 v_5 v_6 v_7 v_8 v_9 rc_9027 M119 (n_23+1) v_21 v_22=some q:=h
  rw [M118] at h
  refine sg ?_
  conv=>whnf
  refine Tr.seq ?_
  refine Tr.cond ?_
  conv=>whnf
  refine cB h (fun hb27 h=>?_) (fun hb27 h=>?_)
  ·refine Tr.skip ?_
   conv=>whnf
   refine Tr.seq ?_
   refine Tr.block ?_
   refine sg ?_
   conv=>whnf
   obtain ⟨x_28,hx_28,h⟩:=bS h
   refine ixP_of hx_28 ?_
   conv=>whnf
   refine Tr.seq ?_
   refine sg ?_
   conv=>whnf
   obtain ⟨x_29,hx_29,h⟩:=bS h
   refine ixP_of hx_29 ?_
   conv=>whnf
   refine Tr.cond ?_
   conv=>whnf
   refine cB h (fun hb30 h=>?_) (fun hb30 h=>?_)
   ·refine Tr.exit ?_
    conv=>whnf
    refine rg ?_
    conv=>whnf
    refine arS_raw ?_
    conv=>whnf
    refine ⟨((w64 (v_21+1)),v_22),h,?_⟩
    exact Wk.mk2 [0,1,2,3,4] 6 rfl rfl (by decide) rfl ⟨rr,rr,rr,rr,rr,trivial⟩ ⟨rr,rr,rr,rr,rr,rr,rr,trivial⟩
   refine Tr.skip ?_
   conv=>whnf
   refine Tr.seq ?_
   refine sg ?_
   conv=>whnf
   refine lnS_map ?_
   conv=>whnf
   refine Tr.cutQ (α:=Int) (fun s=>([(1,(dI left_2)),(4,.pt 3 0),(5,.pt 4 0),(7,.d (.b false)),(20,.d (.ls (List.map eTLook v_9))),(21,(dI (((v_9).length:Int)))),(22,(dI v_21))],[some (.var [.fm 37 [.pt 1 0]]),some (.var [(dI s)]),some (.var [.d (.ls (List.map eTSegment v_4)),.d (.ls (List.map (eL eI) v_5)),.d (.ls (List.map eTPair v_6)),.d (.ls (List.map eTRunner v_7)),(dI v_8),.d (.ls (List.map eTLook v_9))]),some (.var [.fn 38 [.pt 0 0,.pt 2 0,.pt 3 0]]),some (.var [.d (.ls (List.map eTSegment s_1.q.Field.Clocks.Segments)),.d (.ls (List.map (eL eI) s_1.q.Field.Clocks.Far)),.d (.ls (List.map eTPair s_1.q.Field.Pairs)),.d (.ls (List.map eTRunner s_1.q.Field.Runners)),(dI s_1.q.Runner),.d (.ls (List.map eTLook s_1.q.Looks)),.d (.ls (List.map eB s_1.used))])])) (fun s=>M117 s=some q) ?_ ?_
   ·refine Tr.block ?_
    refine Tr.loopM (σ:=Int × Int) (fun n s=>M116 s_1 left_2 v_4 v_5 v_6 v_7 v_8 v_9 v_21 (M118 s_1 left_2 v_4 v_5 v_6 v_7 v_8 v_9 rc_9027 M119 n_23) x_28 rc_9027 M117 n s.1 s.2) q (fun s=>([(1,(dI left_2)),(4,.pt 3 0),(5,.pt 4 0),(7,.d (.b false)),(8,(dI v_21)),(20,.d (.ls (List.map eTLook v_9))),(21,(dI (((v_9).length:Int)))),(22,(dI v_21)),(34,(dI (((x_28.Answers).length:Int)))),(35,(dI s.1))],[some (.var [.fm 37 [.pt 1 0]]),some (.var [(dI s.2)]),some (.var [.d (.ls (List.map eTSegment v_4)),.d (.ls (List.map (eL eI) v_5)),.d (.ls (List.map eTPair v_6)),.d (.ls (List.map eTRunner v_7)),(dI v_8),.d (.ls (List.map eTLook v_9))]),some (.var [.fn 38 [.pt 0 0,.pt 2 0,.pt 3 0]]),some (.var [.d (.ls (List.map eTSegment s_1.q.Field.Clocks.Segments)),.d (.ls (List.map (eL eI) s_1.q.Field.Clocks.Far)),.d (.ls (List.map eTPair s_1.q.Field.Pairs)),.d (.ls (List.map eTRunner s_1.q.Field.Runners)),(dI s_1.q.Runner),.d (.ls (List.map eTLook s_1.q.Looks)),.d (.ls (List.map eB s_1.used))])])) (((((x_28.Answers).length:Int)) - 0:Int).toNat+1) (0,v_22) h (fun s=>rfl) (Wk.mk2 [0,1,2,3,4] 6 rfl rfl (by decide) rfl ⟨rr,rr,rr,rr,rr,trivial⟩ ⟨rr,rr,rr,rr,rr,rr,rr,rr,rr,rr,trivial⟩) ?_
    clear h
    rintro n_35 ⟨v_33,v_34⟩ h
    replace h:M116 s_1 left_2 v_4 v_5 v_6 v_7 v_8 v_9 v_21 (M118 s_1 left_2 v_4 v_5 v_6 v_7 v_8 v_9 rc_9027 M119 n_23) x_28 rc_9027 M117 (n_35+1) v_33 v_34=some q:=h
    rw [M116] at h
    refine sg ?_
    conv=>whnf
    refine Tr.seq ?_
    refine Tr.cond ?_
    conv=>whnf
    refine cB h (fun hb39 h=>?_) (fun hb39 h=>?_)
    ·refine Tr.skip ?_
     conv=>whnf
     refine Tr.seq ?_
     refine Tr.block ?_
     refine sg ?_
     conv=>whnf
     refine sg ?_
     conv=>whnf
     obtain ⟨⟨r_40,r_41⟩,hc42,h⟩:=bS h
     refine PC.ecall (P115 s_1 v_21 v_33 r_40 r_41 hc42) (fun rs hrs=>?_)
     subst hrs
     conv=>whnf
     refine Tr.seq ?_
     refine Tr.regionP layOK ?_
     conv=>whnf
     refine .inl ?_
     conv=>whnf
     refine .inl ?_
     conv=>whnf
     refine cB h (fun hb43 h=>?_) (fun hb43 h=>?_)
     ·conv=>whnf
      refine .inl ?_
      conv=>whnf
      refine .inl ?_
      conv=>whnf
      refine .inl ?_
      conv=>whnf
      refine .inl ?_
      conv=>whnf
      refine arS_raw ?_
      conv=>whnf
      obtain ⟨q_46,hc47,h⟩:=bS h
      refine .inr ?_
      conv=>whnf
      refine MCP.ecall (ih_9027 r_40 ((w64 (left_2 - 1))) v_34 v_4 v_5 v_6 v_7 v_8 v_9 q_46 hc47) [0,1,2,3] (by decide) rfl rfl ?_ (fun rs Bs1 hrs=>?_) (fun pv hpv=>?_)
      · exact ⟨⟨rfl,rfl⟩,⟨rfl,rfl⟩,⟨rfl,rfl⟩,⟨rfl,rfl⟩,trivial⟩
      rotate_left
      ·obtain ⟨rfl,rfl⟩:=hpv
       rw [onP_none] at h
       conv=>whnf
       refine endH ?_
       conv=>whnf
       cases h
       exact ⟨_,rfl,rfl,rfl⟩
      obtain ⟨r_44,b_45,rfl,rfl,rfl⟩:=hrs
      rw [onP_some] at h
      conv=>whnf
      refine .inl ?_
      conv=>whnf
      refine .inl ?_
      conv=>whnf
      refine Tr.cond ?_
      conv=>whnf
      refine cB h (fun hb48 h=>?_) (fun hb48 h=>?_)
      ·refine Tr.exit ?_
       conv=>whnf
       refine rg ?_
       conv=>whnf
       refine arS_raw ?_
       conv=>whnf
       refine ⟨((w64 (v_21+1)),b_45),h,?_⟩
       exact Wk.mk2 [0,1,2,3,4] 6 rfl rfl (by decide) rfl ⟨rr,rr,rr,rr,rr,trivial⟩ ⟨rr,rr,rr,rr,rr,rr,rr,trivial⟩
      refine Tr.skip ?_
      conv=>whnf
      refine rg ?_
      conv=>whnf
      refine arS_raw ?_
      conv=>whnf
      refine ⟨((w64 (v_33+1)),b_45),h,?_⟩
      exact Wk.mk2 [0,1,2,3,4] 6 rfl rfl (by decide) rfl ⟨rr,rr,rr,rr,rr,trivial⟩ ⟨rr,rr,rr,rr,rr,rr,rr,rr,rr,rr,trivial⟩
     conv=>whnf
     refine .inl ?_
     conv=>whnf
     refine Tr.cond ?_
     conv=>whnf
     refine Tr.skip ?_
     conv=>whnf
     refine rg ?_
     conv=>whnf
     refine arS_raw ?_
     conv=>whnf
     refine ⟨((w64 (v_33+1)),v_34),h,?_⟩
     exact Wk.mk2 [0,1,2,3,4] 6 rfl rfl (by decide) rfl ⟨rr,rr,rr,rr,rr,trivial⟩ ⟨rr,rr,rr,rr,rr,rr,rr,rr,rr,rr,trivial⟩
    refine Tr.exit ?_
    conv=>whnf
    refine ⟨(v_34),h,?_⟩
    exact Wk.mk2 [0,1,2,3,4] 5 rfl rfl (by decide) rfl ⟨rr,rr,rr,rr,rr,trivial⟩ ⟨rr,rr,rr,rr,rr,rr,rr,trivial⟩
   clear h
   rintro v_36 h T1 H1 hw
   replace h:M117 v_36=some q:=h
   conv=>whnf
   refine Tr.weak hw ?_
   unfold M117 at h
   refine sg ?_
   conv=>whnf
   refine Tr.ret ?_
   conv=>whnf
   refine endH ?_
   conv=>whnf
   cases h
   exact ⟨[.var [.fm 37 [.pt 1 0]],.var [(dI v_36)],.var [.d (.ls (List.map eTSegment v_4)),.d (.ls (List.map (eL eI) v_5)),.d (.ls (List.map eTPair v_6)),.d (.ls (List.map eTRunner v_7)),(dI v_8),.d (.ls (List.map eTLook v_9))],.var [.fn 38 [.pt 0 0,.pt 2 0,.pt 3 0]]],rfl,rfl,⟨rfl,rfl,rfl,rfl,trivial⟩,_,_,rfl,rfl,rfl⟩
  refine Tr.exit ?_
  conv=>whnf
  refine ⟨(v_22),h,?_⟩
  exact Wk.mk2 [0,1,2,3] 5 rfl rfl (by decide) rfl ⟨rr,rr,rr,rr,trivial⟩ ⟨rr,trivial⟩
 clear h
 rintro v_24 h T1 H1 hw
 replace h:M119 v_24=some q:=h
 conv=>whnf
 refine Tr.weak hw ?_
 unfold M119 at h
 refine sg ?_
 conv=>whnf
 refine Tr.ret ?_
 conv=>whnf
 refine endH ?_
 conv=>whnf
 cases h
 exact ⟨[.var [.fm 37 [.pt 1 0]],.var [(dI v_24)],.var [.d (.ls (List.map eTSegment v_4)),.d (.ls (List.map (eL eI) v_5)),.d (.ls (List.map eTPair v_6)),.d (.ls (List.map eTRunner v_7)),(dI v_8),.d (.ls (List.map eTLook v_9))],.var [.fn 38 [.pt 0 0,.pt 2 0,.pt 3 0]]],rfl,rfl,⟨rfl,rfl,rfl,rfl,trivial⟩,_,_,rfl,rfl,rfl⟩
theorem P121 (n:Nat):∀ (s_1:Tadvice_state) (left_2:Int) (v_3:Int) (v_4:List TSegment) (v_5:List (List Int)) (v_6:List TPair) (v_7:List TRunner) (v_8:Int) (v_9:List TLook) (q:Option (Bool × Int)),M121 n s_1 left_2 v_3 v_4 v_5 v_6 v_7 v_8 v_9=some q→MCP prog 38 [.d (eTadvice_state s_1),(dI left_2),.pt 0 0,.pt 2 0,.pt 3 0] [.var [.fm 37 [.pt 1 0]],.var [(dI v_3)],.var [.d (.ls (List.map eTSegment v_4)),.d (.ls (List.map (eL eI) v_5)),.d (.ls (List.map eTPair v_6)),.d (.ls (List.map eTRunner v_7)),(dI v_8),.d (.ls (List.map eTLook v_9))],.var [.fn 38 [.pt 0 0,.pt 2 0,.pt 3 0]]] (fun rs Bs=>∃ r_10:Bool,∃ b_11:Int,q=some (r_10,b_11)∧rs=[(.b r_10)]∧Bs=[.var [.fm 37 [.pt 1 0]],.var [(dI b_11)],.var [.d (.ls (List.map eTSegment v_4)),.d (.ls (List.map (eL eI) v_5)),.d (.ls (List.map eTPair v_6)),.d (.ls (List.map eTRunner v_7)),(dI v_8),.d (.ls (List.map eTLook v_9))],.var [.fn 38 [.pt 0 0,.pt 2 0,.pt 3 0]]]) (fun pv=>pv=(.iface 78 (.agg #[]))∧q=none):=by
 induction n with
 | zero =>
  intros
  rename_i h
  cases h
 | succ n ih=>exact P120 (M121 n) ih
theorem dr_advice_Enough (H:Hp):DefR prog 36 [1,2] H:=by
 refine DefR.of_tr (cx:=⟨16,none,lay,H.length⟩) layOK rfl func36 rfl rfl rfl (by decide) 5 2 rfl rfl rfl rfl rfl rfl rfl rfl rfl ?_
 conv=>whnf
 refine TrE.seq ?_
 refine TrE.regionP layOK ?_
 conv=>whnf
 refine .inl ?_
 conv=>whnf
 refine .inr ⟨rfl,rfl,by kernel_rfl,.inr ⟨rfl,?_⟩⟩
 conv=>whnf
 refine TrE.cond ?_
 conv=>whnf
 refine TrE.skip ?_
 conv=>whnf
theorem P122 (q_1:TQuestion) (looks_2:Int) (budget_3:Int) (r_4:Bool) (r_5:Int) (h:M122 q_1 looks_2 budget_3=some (r_4,r_5)) :
    PC prog 19 [(eTQuestion q_1),(.i .i64 looks_2),(.i .i64 budget_3)] (fun rs=>rs=[(.b r_4),(.i .i64 r_5)]):=by
 refine PC.of_trF (cx:=⟨38,none,lay,0⟩) layOK func19 rfl rfl rfl rfl rfl (by simp [f19]) ?_
 unfold M122 at h
 refine TrF.seq layOK ?_
 refine TrE.region layOK ?_
 conv=>whnf
 refine TrF.seq layOK ?_
 refine TrE.seq ?_
 refine TrE.region layOK ?_
 conv=>whnf
 obtain ⟨r_6,hc7,h⟩:=bS h
 refine PC.ecall (P60 q_1 r_6 hc7) (fun rs hrs=>?_)
 subst hrs
 conv=>whnf
 refine TrE.cond ?_
 conv=>whnf
 refine cB h (fun hb8 h=>?_) (fun hb8 h=>?_)
 ·refine TrE.seq ?_
  refine TrE.region layOK ?_
  conv=>whnf
  refine TrE.ret ?_
  conv=>whnf
  cases h
  rfl
 refine TrE.skip ?_
 conv=>whnf
 refine TrF.seq layOK ?_
 refine TrE.seq ?_
 refine TrE.cutQ1 ([(1,(dI looks_2)),(2,(dI budget_3)),(3,.pt 0 0),(6,.pt 1 0),(7,.pt 2 0),(26,.d (.b ((decide (looks_2 < 0)) || ((decide (looks_2 > 6)) || ((decide (budget_3 < 0)) || (decide (budget_3 > 1073741824)))))))]) ([some (.var [.d (.ls (List.map eTSegment q_1.Field.Clocks.Segments)),.d (.ls (List.map (eL eI) q_1.Field.Clocks.Far)),.d (.ls (List.map eTPair q_1.Field.Pairs)),.d (.ls (List.map eTRunner q_1.Field.Runners)),(dI q_1.Runner),.d (.ls (List.map eTLook q_1.Looks))]),some (.var [.d (.b false)]),some (.var [(dI 0)])]) ?_ (fun T1 H1 hw=>?_)
 ·refine TrE.region layOK ?_
  conv=>whnf
  refine condS_mk (fun hb10=>?_) (fun hb10=>?_)
  ·conv=>whnf
   exact Wk.mk2 [0,1,2] 3 rfl rfl (by decide) rfl ⟨rr,rr,rr,trivial⟩ ⟨rr,rr,rr,rr,rr,⟨rfl,(by first | rfl | (simp only [↓hb8,↓hb10,bl,List.length_set]; done) | (simp only [↓hb8,↓hb10,bl,List.length_set]; rfl))⟩,trivial⟩
  conv=>whnf
  refine condS_mk (fun hb11=>?_) (fun hb11=>?_)
  ·conv=>whnf
   exact Wk.mk2 [0,1,2] 3 rfl rfl (by decide) rfl ⟨rr,rr,rr,trivial⟩ ⟨rr,rr,rr,rr,rr,⟨rfl,(by first | rfl | (simp only [↓hb8,↓hb10,↓hb11,bl,List.length_set]; done) | (simp only [↓hb8,↓hb10,↓hb11,bl,List.length_set]; rfl))⟩,trivial⟩
  conv=>whnf
  refine condS_mk (fun hb12=>?_) (fun hb12=>?_)
  ·conv=>whnf
   exact Wk.mk2 [0,1,2] 3 rfl rfl (by decide) rfl ⟨rr,rr,rr,trivial⟩ ⟨rr,rr,rr,rr,rr,⟨rfl,(by first | rfl | (simp only [↓hb8,↓hb10,↓hb11,↓hb12,bl,List.length_set]; done) | (simp only [↓hb8,↓hb10,↓hb11,↓hb12,bl,List.length_set]; rfl))⟩,trivial⟩
  conv=>whnf
  exact Wk.mk2 [0,1,2] 3 rfl rfl (by decide) rfl ⟨rr,rr,rr,trivial⟩ ⟨rr,rr,rr,rr,rr,⟨rfl,(by first | rfl | (simp only [↓hb8,↓hb10,↓hb11,↓hb12,bl,List.length_set]; done) | (simp only [↓hb8,↓hb10,↓hb11,↓hb12,bl,List.length_set]; rfl))⟩,trivial⟩
 conv=>whnf
 refine TrE.weak hw ?_
 refine TrE.cond ?_
 conv=>whnf
 refine cB h (fun hb13 h=>?_) (fun hb13 h=>?_)
 ·refine TrE.seq ?_
  refine TrE.region layOK ?_
  conv=>whnf
  refine TrE.ret ?_
  conv=>whnf
  cases h
  rfl
 refine TrE.skip ?_
 conv=>whnf
 refine TrF.defer layOK rfl 36 [1,2] 27 rfl rfl rfl ?_ rfl rfl rfl ⟨_,_,func36,rfl,rfl⟩ (fun I=>?_)
 ·conv=>whnf
  exact ⟨rfl,rfl⟩
 conv=>whnf
 refine Tr.seq ?_
 refine Tr.region layOK ?_
 conv=>whnf
 refine orB_l ?_
 conv=>whnf
 refine Tr.seq ?_
 refine Tr.region layOK ?_
 conv=>whnf
 refine Tr.seq ?_
 refine Tr.region layOK ?_
 conv=>whnf
 refine orB_l ?_
 conv=>whnf
 refine Tr.seq ?_
 refine Tr.drawP layOK mixed [(4,0),(4,3),(4,4),(4,5),(5,1),(6,2)] [4] [(0,8),(1,3),(2,1),(3,1),(4,0),(5,0),(6,0)] (by kernel_rfl) ?_
 conv=>whnf
 refine q2 ?_
 conv=>whnf
 refine q2 ?_
 conv=>whnf
 obtain ⟨r_14,hc15,h⟩:=bS h
 refine q1 ?_ (fun _=>pe (P61 q_1 r_14 hc15) rr)
 conv=>whnf
 refine q1 ?_
 conv=>whnf
 obtain ⟨q_18,hc19,h⟩:=bS h
 refine MCP.ecall (P121 1000 r_14 looks_2 budget_3 q_1.Field.Clocks.Segments q_1.Field.Clocks.Far q_1.Field.Pairs q_1.Field.Runners q_1.Runner q_1.Looks q_18 hc19) [4,3,0,5] (by decide) rfl rfl ?_ (fun rs Bs1 hrs=>?_) (fun pv hpv=>?_)
 · exact ⟨⟨rfl,rfl⟩,⟨rfl,rfl⟩,⟨rfl,rfl⟩,⟨rfl,rfl⟩,trivial⟩
 rotate_left
 ·obtain ⟨rfl,rfl⟩:=hpv
  rw [onP_none] at h
  conv=>whnf
  refine ⟨_,rfl,?_⟩
  refine DefP.of_tr (cx:=⟨16,none,lay,6⟩) layOK rfl func36 rfl rfl rfl (by decide) 5 2 rfl rfl rfl rfl rfl rfl rfl rfl rfl ?_
  conv=>whnf
  refine TrE.seq ?_
  refine TrE.regionP layOK ?_
  conv=>whnf
  refine .inl ?_
  conv=>whnf
  refine .inr ⟨rfl,rfl,by kernel_rfl,.inl ⟨_,_,rfl,?_⟩⟩
  conv=>whnf
  refine TrE.cond ?_
  conv=>whnf
  refine TrE.seq ?_
  refine TrE.seq ?_
  refine TrE.regionP layOK ?_
  conv=>whnf
  refine .inl ?_
  conv=>whnf
  refine .inr ⟨_,.d (.ag []),rfl,by kernel_rfl,rfl,?_⟩
  conv=>whnf
  refine .inl ?_
  conv=>whnf
  refine .inl ?_
  conv=>whnf
  refine .inl ?_
  conv=>whnf
  refine .inl ?_
  conv=>whnf
  refine .inl ?_
  conv=>whnf
  refine .inl ?_
  conv=>whnf
  refine TrE.seq ?_
  refine TrE.regionP layOK ?_
  conv=>whnf
  refine .inl ?_
  conv=>whnf
  refine .inl ?_
  conv=>whnf
  refine TrE.cond ?_
  conv=>whnf
  refine TrE.skip ?_
  conv=>whnf
  refine TrE.regionP layOK ?_
  conv=>whnf
  refine .inl ?_
  conv=>whnf
  refine .inl ?_
  conv=>whnf
  cases h
  rfl
 obtain ⟨r_16,b_17,rfl,rfl,rfl⟩:=hrs
 rw [onP_some] at h
 conv=>whnf
 refine ⟨kp_ok (by repeat (first | exact trivial | refine ⟨trivial,?_⟩ | refine ⟨rfl,?_⟩)),?_⟩
 conv=>whnf
 refine ⟨_,_,rr,kp_ok (by repeat (first | exact trivial | refine ⟨trivial,?_⟩ | refine ⟨rfl,?_⟩)),?_⟩
 conv=>whnf
 refine ⟨_,_,rr,kp_ok (by repeat (first | exact trivial | refine ⟨trivial,?_⟩ | refine ⟨rfl,?_⟩)),?_⟩
 conv=>whnf
 refine Tr.ret ?_
 conv=>whnf
 refine ⟨dr_advice_Enough _,?_⟩
 conv=>whnf
 cases h
 rfl
end Go.Proofs.Try
