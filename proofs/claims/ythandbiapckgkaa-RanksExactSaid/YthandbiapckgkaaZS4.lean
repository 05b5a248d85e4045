/- Contracts of functions, by program (gen.py). No condition. -/
import Derived.Test.YthandbiapckgkaaZL
import Derived.Test.YthandbiapckgkaaZM
import Derived.Test.YthandbiapckgkaaZCB
import Derived.Test.YthandbiapckgkaaZS3
namespace Go.Proofs.Try
open Go Go.Abs Go.Stop
set_option maxRecDepth 8000
set_option linter.unusedVariables false
set_option linter.unusedSimpArgs false
theorem P90 (f_1:TField) (runner_2:Int) (r_3:Tranks_place) (r_4:Bool) (h:M90 f_1 runner_2=some (r_3,r_4)) :
    PC prog 68 [(.ag [(.fn 56 []),(.fn 55 []),(.fn 60 []),(.fn 61 [])]),(eTField f_1),(.i .i64 runner_2)] (fun rs=>rs=[(eTranks_place r_3),(.b r_4)]):=by
 refine PC.of_tr (cx:=⟨75,none,lay,0⟩) layOK func68 rfl rfl rfl rfl rfl (by simp [f68]) ?_
 unfold M90 at h
 refine sg ?_
 conv=>whnf
 refine Tr.seq ?_
 refine sg ?_
 conv=>whnf
 obtain ⟨⟨c_5,c_6,c_7,c_8⟩,hc9,h⟩:=bS h
 refine PC.ecall (P50 f_1 c_5 c_6 c_7 c_8 hc9) (fun rs hrs=>?_)
 subst hrs
 conv=>whnf
 obtain ⟨l_10,hl11,h⟩:=bS h
 obtain ⟨⟨v_66,v_67,v_68,v_69⟩,hv70,h⟩:=bS h
 refine Tr.block ?_
 refine Tr.rangeM layOK rfl (ge:=fun a=>[(.i .i64 a)]) rfl (P58 c_5 c_6 c_7 c_8 l_10 hl11) (fun _=>rfl) rfl (fun s=>[some (.var [.d (.fn 56 []),.d (.fn 55 []),.d (.fn 60 []),.d (.fn 61 [])]),some (.var [.d (.ls (List.map eTSegment f_1.Clocks.Segments)),.d (.ls (List.map (eL eI) f_1.Clocks.Far)),.d (.ls (List.map eTPair f_1.Pairs)),.d (.ls (List.map eTRunner f_1.Runners))]),some (.var [(dI runner_2)]),some (.var [(dI s.1),(dI s.2.1),(dI s.2.2.1)]),some (.var [.d (.b s.2.2.2)])]) (M89 f_1 runner_2) (0,0,0,false) (v_66,v_67,v_68,v_69) hv70 (Wk.mk2 [0,1,2,3,4] 5 rfl rfl (by decide) rfl ⟨⟨rfl,rfl⟩,⟨rfl,rfl⟩,⟨rfl,rfl⟩,⟨rfl,rfl⟩,⟨rfl,rfl⟩,trivial⟩ trivial) ?_ ?_
 ·clear h hv70
  rintro li y_12 ⟨v_17,v_18,v_19,v_20⟩ s_21 ha h
  replace h:(M89 f_1 runner_2) y_12 (v_17,v_18,v_19,v_20)=some s_21:=h
  unfold M89 at h
  dsimp only at h
  conv=>whnf
  refine TrE.region layOK ?_
  conv=>whnf
  refine Tr.block ?_
  refine sg ?_
  conv=>whnf
  obtain ⟨x_22,hx_22,h⟩:=bS h
  refine ixP_of hx_22 ?_
  conv=>whnf
  obtain ⟨x_23,hx_23,h⟩:=bS h
  refine ixP_of hx_23 ?_
  conv=>whnf
  refine lnS_map ?_
  conv=>whnf
  obtain ⟨⟨v_35,v_36,v_37,v_38⟩,hv65,h⟩:=bS h
  refine Tr.cutQ1 ([]) ([some (.var [.d (.fn 56 []),.d (.fn 55 []),.d (.fn 60 []),.d (.fn 61 [])]),some (.var [.d (.ls (List.map eTSegment f_1.Clocks.Segments)),.d (.ls (List.map (eL eI) f_1.Clocks.Far)),.d (.ls (List.map eTPair f_1.Pairs)),.d (.ls (List.map eTRunner f_1.Runners))]),some (.var [(dI runner_2)]),some (.var [(dI v_35),(dI v_36),(dI v_37)]),some (.var [.d (.b v_38)])]) ?_ (fun T1 H1 hw=>?_)
  ·replace h:=hv65; clear hv65
   refine Tr.block ?_
   refine Tr.loopM (σ:=Int × Int × Int × Int × Bool) (fun n s=>M88 f_1 runner_2 y_12 x_23 n s.1 s.2.1 s.2.2.1 s.2.2.2.1 s.2.2.2.2) (v_35,v_36,v_37,v_38) (fun s=>([(3,.pt 0 0),(4,.pt 1 0),(5,.pt 2 0),(6,.pt 3 0),(7,.pt 4 0),(8,(dI y_12)),(26,.d (.ls (List.map eTOutcome x_23))),(27,(dI (((x_23).length:Int)))),(28,(dI s.1))],[some (.var [.d (.fn 56 []),.d (.fn 55 []),.d (.fn 60 []),.d (.fn 61 [])]),some (.var [.d (.ls (List.map eTSegment f_1.Clocks.Segments)),.d (.ls (List.map (eL eI) f_1.Clocks.Far)),.d (.ls (List.map eTPair f_1.Pairs)),.d (.ls (List.map eTRunner f_1.Runners))]),some (.var [(dI runner_2)]),some (.var [(dI s.2.1),(dI s.2.2.1),(dI s.2.2.2.1)]),some (.var [.d (.b s.2.2.2.2)])])) (((((x_23).length:Int)) - 0:Int).toNat+1) (0,v_17,v_18,v_19,v_20) h (fun s=>rfl) (Wk.mk2 [0,1,2,3,4] 5 rfl rfl (by decide) rfl ⟨rr,rr,rr,rr,rr,trivial⟩ ⟨rr,rr,rr,rr,rr,rr,rr,rr,rr,trivial⟩) ?_
   clear h
   rintro n_34 ⟨v_29,v_30,v_31,v_32,v_33⟩ h
   replace h:M88 f_1 runner_2 y_12 x_23 (n_34+1) v_29 v_30 v_31 v_32 v_33=some (v_35,v_36,v_37,v_38):=h
   rw [M88] at h
   refine sg ?_
   conv=>whnf
   refine Tr.seq ?_
   refine Tr.cond ?_
   conv=>whnf
   refine cB h (fun hb41 h=>?_) (fun hb41 h=>?_)
   ·refine Tr.skip ?_
    conv=>whnf
    refine Tr.seq ?_
    refine Tr.block ?_
    refine sg ?_
    conv=>whnf
    obtain ⟨x_42,hx_42,h⟩:=bS h
    refine ixP_of hx_42 ?_
    conv=>whnf
    refine Tr.seq ?_
    refine sg ?_
    conv=>whnf
    refine Tr.cond ?_
    conv=>whnf
    refine cB h (fun hb43 h=>?_) (fun hb43 h=>?_)
    ·refine Tr.exit ?_
     conv=>whnf
     refine rg ?_
     conv=>whnf
     refine arS_raw ?_
     conv=>whnf
     refine ⟨((w64 (v_29+1)),v_30,v_31,v_32,v_33),h,?_⟩
     exact Wk.mk2 [0,1,2,3,4] 6 rfl rfl (by decide) rfl ⟨rr,rr,rr,rr,rr,trivial⟩ ⟨rr,rr,rr,rr,rr,rr,rr,rr,rr,trivial⟩
    refine Tr.skip ?_
    conv=>whnf
    refine sg ?_
    conv=>whnf
    refine Tr.seq ?_
    refine sg ?_
    conv=>whnf
    refine lnS_map ?_
    conv=>whnf
    obtain ⟨n_49,hv58,h⟩:=bS h
    refine Tr.cutQ1 ([(3,.pt 0 0),(4,.pt 1 0),(5,.pt 2 0),(6,.pt 3 0),(7,.pt 4 0),(8,(dI y_12)),(9,(dI v_29)),(11,(dI n_49)),(26,.d (.ls (List.map eTOutcome x_23))),(27,(dI (((x_23).length:Int)))),(28,(dI v_29))]) ([some (.var [.d (.fn 56 []),.d (.fn 55 []),.d (.fn 60 []),.d (.fn 61 [])]),some (.var [.d (.ls (List.map eTSegment f_1.Clocks.Segments)),.d (.ls (List.map (eL eI) f_1.Clocks.Far)),.d (.ls (List.map eTPair f_1.Pairs)),.d (.ls (List.map eTRunner f_1.Runners))]),some (.var [(dI runner_2)]),some (.var [(dI v_30),(dI v_31),(dI v_32)]),some (.var [.d (.b v_33)])]) ?_ (fun T1 H1 hw=>?_)
    ·replace h:=hv58; clear hv58
     refine Tr.block ?_
     refine Tr.loopM (σ:=Int × Int) (fun n s=>M87 f_1 runner_2 y_12 x_42 n s.1 s.2) n_49 (fun s=>([(3,.pt 0 0),(4,.pt 1 0),(5,.pt 2 0),(6,.pt 3 0),(7,.pt 4 0),(8,(dI y_12)),(9,(dI v_29)),(10,.pt 5 0),(11,(dI s.1)),(26,.d (.ls (List.map eTOutcome x_23))),(27,(dI (((x_23).length:Int)))),(28,(dI v_29)),(37,(dI (((f_1.Runners).length:Int)))),(38,(dI s.2))],[some (.var [.d (.fn 56 []),.d (.fn 55 []),.d (.fn 60 []),.d (.fn 61 [])]),some (.var [.d (.ls (List.map eTSegment f_1.Clocks.Segments)),.d (.ls (List.map (eL eI) f_1.Clocks.Far)),.d (.ls (List.map eTPair f_1.Pairs)),.d (.ls (List.map eTRunner f_1.Runners))]),some (.var [(dI runner_2)]),some (.var [(dI v_30),(dI v_31),(dI v_32)]),some (.var [.d (.b v_33)]),some (.var [.d (.b x_42.Out),(dI x_42.Seg),(dI x_42.Lo),(dI x_42.Hi)])])) (((((f_1.Runners).length:Int)) - 0:Int).toNat+1) (1,0) h (fun s=>rfl) (Wk.mk2 [0,1,2,3,4,5] 6 rfl rfl (by decide) rfl ⟨rr,rr,rr,rr,rr,rr,trivial⟩ ⟨rr,rr,rr,rr,rr,rr,rr,rr,rr,rr,rr,rr,rr,rr,trivial⟩) ?_
     clear h
     rintro n_48 ⟨n_46,v_47⟩ h
     replace h:M87 f_1 runner_2 y_12 x_42 (n_48+1) n_46 v_47=some n_49:=h
     rw [M87] at h
     refine sg ?_
     conv=>whnf
     refine Tr.seq ?_
     refine Tr.cond ?_
     conv=>whnf
     refine cB h (fun hb52 h=>?_) (fun hb52 h=>?_)
     ·refine Tr.skip ?_
      conv=>whnf
      refine Tr.seq ?_
      refine Tr.block ?_
      refine sg ?_
      conv=>whnf
      refine Tr.seq ?_
      refine sg ?_
      conv=>whnf
      refine Tr.cond ?_
      conv=>whnf
      refine cB h (fun hb53 h=>?_) (fun hb53 h=>?_)
      ·refine Tr.exit ?_
       conv=>whnf
       refine rg ?_
       conv=>whnf
       refine arS_raw ?_
       conv=>whnf
       refine ⟨(n_46,(w64 (v_47+1))),h,?_⟩
       exact Wk.mk2 [0,1,2,3,4,5] 6 rfl rfl (by decide) rfl ⟨rr,rr,rr,rr,rr,rr,trivial⟩ ⟨rr,rr,rr,rr,rr,rr,rr,rr,rr,rr,rr,rr,rr,rr,trivial⟩
      refine Tr.skip ?_
      conv=>whnf
      refine sg ?_
      conv=>whnf
      obtain ⟨⟨r_54,r_55⟩,hc56,h⟩:=bS h
      refine PC.ecall (P86 f_1 y_12 runner_2 x_42 v_47 r_54 r_55 hc56) (fun rs hrs=>?_)
      subst hrs
      conv=>whnf
      refine sg ?_
      conv=>whnf
      refine Tr.cond ?_
      conv=>whnf
      refine cB h (fun hb57 h=>?_) (fun hb57 h=>?_)
      ·refine rg ?_
       conv=>whnf
       refine arS_raw ?_
       conv=>whnf
       refine rg ?_
       conv=>whnf
       refine arS_raw ?_
       conv=>whnf
       refine ⟨((w64 (n_46+1)),(w64 (v_47+1))),h,?_⟩
       exact Wk.mk2 [0,1,2,3,4,5] 6 rfl rfl (by decide) rfl ⟨rr,rr,rr,rr,rr,rr,trivial⟩ ⟨rr,rr,rr,rr,rr,rr,rr,rr,rr,rr,rr,rr,rr,rr,trivial⟩
      refine Tr.skip ?_
      conv=>whnf
      refine rg ?_
      conv=>whnf
      refine arS_raw ?_
      conv=>whnf
      refine ⟨(n_46,(w64 (v_47+1))),h,?_⟩
      exact Wk.mk2 [0,1,2,3,4,5] 6 rfl rfl (by decide) rfl ⟨rr,rr,rr,rr,rr,rr,trivial⟩ ⟨rr,rr,rr,rr,rr,rr,rr,rr,rr,rr,rr,rr,rr,rr,trivial⟩
     refine Tr.exit ?_
     conv=>whnf
     cases h
     exact Wk.mk2 [0,1,2,3,4] 6 rfl rfl (by decide) rfl ⟨rr,rr,rr,rr,rr,trivial⟩ ⟨rr,rr,rr,rr,rr,rr,rr,rr,rr,rr,rr,trivial⟩
    clear hv58
    conv=>whnf
    refine Tr.weak hw ?_
    refine Tr.seq ?_
    obtain ⟨v_59,hv60,h⟩:=bS h
    refine Tr.cutQ1 ([(3,.pt 0 0),(4,.pt 1 0),(5,.pt 2 0),(6,.pt 3 0),(7,.pt 4 0),(8,(dI y_12)),(9,(dI v_29)),(11,(dI n_49)),(26,.d (.ls (List.map eTOutcome x_23))),(27,(dI (((x_23).length:Int)))),(28,(dI v_29)),(67,.d (.b v_59))]) ([some (.var [.d (.fn 56 []),.d (.fn 55 []),.d (.fn 60 []),.d (.fn 61 [])]),some (.var [.d (.ls (List.map eTSegment f_1.Clocks.Segments)),.d (.ls (List.map (eL eI) f_1.Clocks.Far)),.d (.ls (List.map eTPair f_1.Pairs)),.d (.ls (List.map eTRunner f_1.Runners))]),some (.var [(dI runner_2)]),some (.var [(dI v_30),(dI v_31),(dI v_32)]),some (.var [.d (.b v_33)])]) ?_ (fun T1 H1 hw=>?_)
    ·replace h:=hv60; clear hv60
     refine rg ?_
     conv=>whnf
     refine cB h (fun hb61 h=>?_) (fun hb61 h=>?_)
     ·conv=>whnf
      cases h
      exact Wk.mk2 [0,1,2,3,4] 5 rfl rfl (by decide) rfl ⟨rr,rr,rr,rr,rr,trivial⟩ ⟨rr,rr,rr,rr,rr,rr,rr,rr,rr,rr,rr,rr,trivial⟩
     conv=>whnf
     obtain ⟨r_62,hc63,h⟩:=bS h
     refine PC.ecall (P81 n_49 v_32 r_62 hc63) (fun rs hrs=>?_)
     subst hrs
     conv=>whnf
     cases h
     exact Wk.mk2 [0,1,2,3,4] 5 rfl rfl (by decide) rfl ⟨rr,rr,rr,rr,rr,trivial⟩ ⟨rr,rr,rr,rr,rr,rr,rr,rr,rr,rr,rr,rr,trivial⟩
    clear hv60
    conv=>whnf
    refine Tr.weak hw ?_
    refine Tr.cond ?_
    conv=>whnf
    refine cB h (fun hb64 h=>?_) (fun hb64 h=>?_)
    ·refine rg ?_
     conv=>whnf
     refine rg ?_
     conv=>whnf
     refine arS_raw ?_
     conv=>whnf
     refine ⟨((w64 (v_29+1)),y_12,v_29,n_49,true),h,?_⟩
     exact Wk.mk2 [0,1,2,3,4] 5 rfl rfl (by decide) rfl ⟨rr,rr,rr,rr,rr,trivial⟩ ⟨rr,rr,rr,rr,rr,rr,rr,rr,rr,trivial⟩
    refine Tr.skip ?_
    conv=>whnf
    refine rg ?_
    conv=>whnf
    refine arS_raw ?_
    conv=>whnf
    refine ⟨((w64 (v_29+1)),v_30,v_31,v_32,v_33),h,?_⟩
    exact Wk.mk2 [0,1,2,3,4] 5 rfl rfl (by decide) rfl ⟨rr,rr,rr,rr,rr,trivial⟩ ⟨rr,rr,rr,rr,rr,rr,rr,rr,rr,trivial⟩
   refine Tr.exit ?_
   conv=>whnf
   cases h
   exact Wk.mk2 [0,1,2,3,4] 5 rfl rfl (by decide) rfl ⟨rr,rr,rr,rr,rr,trivial⟩ trivial
  clear hv65
  conv=>whnf
  cases h
  refine Wk.trans (F:=5) hw ?_
  exact Wk.mk2 [0,1,2,3,4] 5 rfl rfl (by decide) rfl ⟨rr,rr,rr,rr,rr,trivial⟩ trivial
 clear hv70
 conv=>whnf
 refine sd [(2,3),(3,4)] [(0,6),(1,7),(2,0),(3,0)] ?_
 conv=>whnf
 refine q2 ?_
 conv=>whnf
 refine q2 ?_
 conv=>whnf
 refine ⟨_,_,rr,kp_ok (by repeat (first | exact trivial | refine ⟨trivial,?_⟩ | refine ⟨rfl,?_⟩)),?_⟩
 conv=>whnf
 refine ⟨_,_,rr,kp_ok (by repeat (first | exact trivial | refine ⟨trivial,?_⟩ | refine ⟨rfl,?_⟩)),?_⟩
 conv=>whnf
 refine Tr.ret ?_
 conv=>whnf
 cases h
 rfl
theorem P92 (f_1:TField) (runner_2:Int) (r_3:TRank) (h:M92 f_1 runner_2=some r_3) :
    PC prog 46 [(eTField f_1),(.i .i64 runner_2)] (fun rs=>rs=[(eTRank r_3)]):=by
 refine PC.of_tr (cx:=⟨72,none,lay,0⟩) layOK func46 rfl rfl rfl rfl rfl (by simp [f46]) ?_
 unfold M92 at h
 refine sg ?_
 conv=>whnf
 refine sg ?_
 conv=>whnf
 obtain ⟨x_4,hx_4,h⟩:=bS h
 refine ixP_of hx_4 ?_
 conv=>whnf
 refine Tr.seq ?_
 refine sg ?_
 conv=>whnf
 obtain ⟨⟨c_5,c_6,c_7,c_8⟩,hc9,h⟩:=bS h
 refine PC.ecall (P50 f_1 c_5 c_6 c_7 c_8 hc9) (fun rs hrs=>?_)
 subst hrs
 conv=>whnf
 obtain ⟨l_10,hl11,h⟩:=bS h
 obtain ⟨v_21,hv33,h⟩:=bS h
 refine Tr.block ?_
 refine Tr.rangeM layOK rfl (ge:=fun a=>[(.i .i64 a)]) rfl (P58 c_5 c_6 c_7 c_8 l_10 hl11) (fun _=>rfl) rfl (fun s=>[some (.var [.d (.ls (List.map eTSegment f_1.Clocks.Segments)),.d (.ls (List.map (eL eI) f_1.Clocks.Far)),.d (.ls (List.map eTPair f_1.Pairs)),.d (.ls (List.map eTRunner f_1.Runners))]),some (.var [(dI runner_2)]),some (.var [(dI 0),(dI 0),(dI 0),(dI 0),.d (.b false)]),some (.var [(dI x_4.Bib),(dI 3),(dI 0),(dI 0),.d (.b s)])]) (M91 f_1 runner_2) (false) v_21 hv33 (Wk.mk2 [0,1,2,3] 4 rfl rfl (by decide) rfl ⟨⟨rfl,rfl⟩,⟨rfl,rfl⟩,⟨rfl,rfl⟩,⟨rfl,rfl⟩,trivial⟩ trivial) ?_ ?_
 ·clear h hv33
  rintro li y_12 v_14 s_15 ha h
  replace h:(M91 f_1 runner_2) y_12 v_14=some s_15:=h
  unfold M91 at h
  dsimp only at h
  conv=>whnf
  refine TrE.region layOK ?_
  conv=>whnf
  refine Tr.block ?_
  refine rg ?_
  conv=>whnf
  refine cB h (fun hb16 h=>?_) (fun hb16 h=>?_)
  ·conv=>whnf
   cases h
   exact Wk.mk2 [0,1,2,3] 4 rfl rfl (by decide) rfl ⟨rr,rr,rr,rr,trivial⟩ trivial
  conv=>whnf
  obtain ⟨x_17,hx_17,h⟩:=bS h
  refine ixP_of hx_17 ?_
  conv=>whnf
  obtain ⟨x_18,hx_18,h⟩:=bS h
  refine ixP_of hx_18 ?_
  conv=>whnf
  obtain ⟨r_19,hc20,h⟩:=bS h
  refine PC.ecall (P63 x_18 r_19 hc20) (fun rs hrs=>?_)
  subst hrs
  conv=>whnf
  cases h
  exact Wk.mk2 [0,1,2,3] 4 rfl rfl (by decide) rfl ⟨rr,rr,rr,rr,trivial⟩ trivial
 clear hv33
 conv=>whnf
 refine sd [(8,4)] [(0,1),(1,3),(2,4),(3,1),(4,1),(5,1),(6,1),(7,0),(8,0),(9,1)] ?_
 conv=>whnf
 obtain ⟨_,hc22,h⟩:=bS h
 refine q1 ?_ (fun _=>pe (P64  hc22) rr)
 conv=>whnf
 refine q2 ?_
 conv=>whnf
 refine q2 ?_
 conv=>whnf
 obtain ⟨⟨r_23,r_24⟩,hc25,h⟩:=bS h
 refine q1 ?_ (fun _=>pe (P79 f_1 runner_2 r_23 r_24 hc25) rr)
 conv=>whnf
 refine q1 ?_
 conv=>whnf
 refine q1 ?_
 conv=>whnf
 refine q1 ?_
 conv=>whnf
 refine ⟨_,_,rr,kp_ok (by repeat (first | exact trivial | refine ⟨trivial,?_⟩ | refine ⟨rfl,?_⟩)),?_⟩
 conv=>whnf
 refine ⟨_,_,rr,kp_ok (by repeat (first | exact trivial | refine ⟨trivial,?_⟩ | refine ⟨rfl,?_⟩)),?_⟩
 conv=>whnf
 refine q1 ?_
 conv=>whnf
 refine Tr.seq ?_
 refine sg ?_
 conv=>whnf
 refine Tr.cond ?_
 conv=>whnf
 refine cB h (fun hb26 h=>?_) (fun hb26 h=>?_)
 ·refine sg ?_
  conv=>whnf
  refine Tr.ret ?_
  conv=>whnf
  cases h
  rfl
 refine Tr.skip ?_
 conv=>whnf
 refine sd [(8,5)] [(0,1),(1,3),(2,4),(3,1),(4,1),(5,1),(6,1),(7,0),(8,0),(9,1)] ?_
 conv=>whnf
 obtain ⟨_,hc27,h⟩:=bS h
 refine q1 ?_ (fun _=>pe (P80  hc27) rr)
 conv=>whnf
 refine q2 ?_
 conv=>whnf
 refine q2 ?_
 conv=>whnf
 obtain ⟨⟨r_28,r_29⟩,hc30,h⟩:=bS h
 refine q1 ?_ (fun _=>pe (P90 f_1 runner_2 r_28 r_29 hc30) rr)
 conv=>whnf
 refine q1 ?_
 conv=>whnf
 refine q1 ?_
 conv=>whnf
 refine q1 ?_
 conv=>whnf
 refine ⟨_,_,rr,kp_ok (by repeat (first | exact trivial | refine ⟨trivial,?_⟩ | refine ⟨rfl,?_⟩)),?_⟩
 conv=>whnf
 refine ⟨_,_,rr,kp_ok (by repeat (first | exact trivial | refine ⟨trivial,?_⟩ | refine ⟨rfl,?_⟩)),?_⟩
 conv=>whnf
 refine q1 ?_
 conv=>whnf
 refine sd [(5,3),(7,3),(9,3)] [(0,7),(1,7),(2,8),(3,8),(4,6),(5,0),(6,6),(7,0),(8,6),(9,0)] ?_
 conv=>whnf
 refine q2 ?_
 conv=>whnf
 refine q2 ?_
 conv=>whnf
 refine q2 ?_
 conv=>whnf
 refine q2 ?_
 conv=>whnf
 refine q2 ?_
 conv=>whnf
 refine ⟨_,_,rr,kp_ok (by repeat (first | exact trivial | refine ⟨trivial,?_⟩ | refine ⟨rfl,?_⟩)),?_⟩
 conv=>whnf
 refine q2 ?_
 conv=>whnf
 refine ⟨_,_,rr,kp_ok (by repeat (first | exact trivial | refine ⟨trivial,?_⟩ | refine ⟨rfl,?_⟩)),?_⟩
 conv=>whnf
 refine q2 ?_
 conv=>whnf
 refine ⟨_,_,rr,kp_ok (by repeat (first | exact trivial | refine ⟨trivial,?_⟩ | refine ⟨rfl,?_⟩)),?_⟩
 conv=>whnf
 refine Tr.seq ?_
 refine sg ?_
 conv=>whnf
 refine cB h (fun hb31 h=>?_) (fun hb31 h=>?_)
 ·conv=>whnf
  refine Tr.cond ?_
  conv=>whnf
  refine cB h (fun hb32 h=>?_) (fun hb32 h=>?_)
  ·refine rg ?_
   conv=>whnf
   refine sg ?_
   conv=>whnf
   refine Tr.ret ?_
   conv=>whnf
   cases h
   rfl
  refine Tr.skip ?_
  conv=>whnf
  refine sg ?_
  conv=>whnf
  refine Tr.ret ?_
  conv=>whnf
  cases h
  rfl
 conv=>whnf
 refine Tr.cond ?_
 conv=>whnf
 refine Tr.skip ?_
 conv=>whnf
 refine sg ?_
 conv=>whnf
 refine Tr.ret ?_
 conv=>whnf
 cases h
 rfl
theorem P93 (f_1:TField) (runner_2:Int) (r_3:TRank) (r_4:Int) (h:M93 f_1 runner_2=some (r_3,r_4)) :
    PC prog 18 [(eTField f_1),(.i .i64 runner_2)] (fun rs=>rs=[(eTRank r_3),(.i .i64 r_4)]):=by
 refine PC.of_tr (cx:=⟨18,none,lay,0⟩) layOK func18 rfl rfl rfl rfl rfl (by simp [f18]) ?_
 unfold M93 at h
 refine sg ?_
 conv=>whnf
 refine Tr.seq ?_
 refine sg ?_
 conv=>whnf
 refine orB_r ?_
 conv=>whnf
 obtain ⟨r_5,hc6,h⟩:=bS h
 refine PC.ecall (P49 f_1 ((([runner_2]:List Int))) r_5 hc6) (fun rs hrs=>?_)
 subst hrs
 conv=>whnf
 refine sg ?_
 conv=>whnf
 refine Tr.cond ?_
 conv=>whnf
 refine cB h (fun hb7 h=>?_) (fun hb7 h=>?_)
 ·refine sg ?_
  conv=>whnf
  refine Tr.ret ?_
  conv=>whnf
  cases h
  rfl
 refine Tr.skip ?_
 conv=>whnf
 refine sg ?_
 conv=>whnf
 obtain ⟨r_8,hc9,h⟩:=bS h
 refine PC.ecall (P92 f_1 runner_2 r_8 hc9) (fun rs hrs=>?_)
 subst hrs
 conv=>whnf
 refine Tr.ret ?_
 conv=>whnf
 cases h
 rfl
theorem P97 (f_1:TField) (a_2:Int) (b_3:Int) (r_4:Bool) (r_5:Bool) (r_6:Int) (h:M97 f_1 a_2 b_3=some (r_4,r_5,r_6)) :
    PC prog 13 [(eTField f_1),(.i .i64 a_2),(.i .i64 b_3)] (fun rs=>rs=[(.b r_4),(.b r_5),(.i .i64 r_6)]):=by
 refine PC.of_tr (cx:=⟨87,none,lay,0⟩) layOK func13 rfl rfl rfl rfl rfl (by simp [f13]) ?_
 unfold M97 at h
 refine sg ?_
 conv=>whnf
 refine Tr.seq ?_
 refine sg ?_
 conv=>whnf
 refine orB_r ?_
 conv=>whnf
 obtain ⟨r_7,hc8,h⟩:=bS h
 refine PC.ecall (P49 f_1 ((([a_2,b_3]:List Int))) r_7 hc8) (fun rs hrs=>?_)
 subst hrs
 conv=>whnf
 refine sg ?_
 conv=>whnf
 refine Tr.cond ?_
 conv=>whnf
 refine cB h (fun hb9 h=>?_) (fun hb9 h=>?_)
 ·refine sg ?_
  conv=>whnf
  refine Tr.ret ?_
  conv=>whnf
  cases h
  rfl
 refine Tr.skip ?_
 conv=>whnf
 refine Tr.seq ?_
 refine sg ?_
 conv=>whnf
 refine Tr.cond ?_
 conv=>whnf
 refine cB h (fun hb10 h=>?_) (fun hb10 h=>?_)
 ·refine sg ?_
  conv=>whnf
  refine Tr.ret ?_
  conv=>whnf
  cases h
  rfl
 refine Tr.skip ?_
 conv=>whnf
 refine sg ?_
 conv=>whnf
 refine Tr.seq ?_
 refine sg ?_
 conv=>whnf
 obtain ⟨⟨c_11,c_12,c_13,c_14⟩,hc15,h⟩:=bS h
 refine PC.ecall (P50 f_1 c_11 c_12 c_13 c_14 hc15) (fun rs hrs=>?_)
 subst hrs
 conv=>whnf
 obtain ⟨l_16,hl17,h⟩:=bS h
 obtain ⟨⟨v_71,v_72⟩,hv73,h⟩:=bS h
 refine Tr.block ?_
 refine Tr.rangeM layOK rfl (ge:=fun a=>[(.i .i64 a)]) rfl (P58 c_11 c_12 c_13 c_14 l_16 hl17) (fun _=>rfl) rfl (fun s=>[some (.var [.d (.ls (List.map eTSegment f_1.Clocks.Segments)),.d (.ls (List.map (eL eI) f_1.Clocks.Far)),.d (.ls (List.map eTPair f_1.Pairs)),.d (.ls (List.map eTRunner f_1.Runners))]),some (.var [(dI a_2)]),some (.var [(dI b_3)]),some (.var [.d (.b s.1)]),some (.var [.d (.b s.2)])]) (M96 f_1 a_2 b_3) (true,false) (v_71,v_72) hv73 (Wk.mk2 [0,1,2,3,4] 5 rfl rfl (by decide) rfl ⟨⟨rfl,rfl⟩,⟨rfl,rfl⟩,⟨rfl,rfl⟩,⟨rfl,rfl⟩,⟨rfl,rfl⟩,trivial⟩ trivial) ?_ ?_
 ·clear h hv73
  rintro li y_18 ⟨v_21,v_22⟩ s_23 ha h
  replace h:(M96 f_1 a_2 b_3) y_18 (v_21,v_22)=some s_23:=h
  unfold M96 at h
  dsimp only at h
  conv=>whnf
  refine TrE.region layOK ?_
  conv=>whnf
  refine Tr.block ?_
  refine sg ?_
  conv=>whnf
  obtain ⟨x_24,hx_24,h⟩:=bS h
  refine ixP_of hx_24 ?_
  conv=>whnf
  obtain ⟨x_25,hx_25,h⟩:=bS h
  refine ixP_of hx_25 ?_
  conv=>whnf
  refine lnS_map ?_
  conv=>whnf
  obtain ⟨⟨v_33,v_34⟩,hv70,h⟩:=bS h
  refine Tr.cutQ1 ([]) ([some (.var [.d (.ls (List.map eTSegment f_1.Clocks.Segments)),.d (.ls (List.map (eL eI) f_1.Clocks.Far)),.d (.ls (List.map eTPair f_1.Pairs)),.d (.ls (List.map eTRunner f_1.Runners))]),some (.var [(dI a_2)]),some (.var [(dI b_3)]),some (.var [.d (.b v_33)]),some (.var [.d (.b v_34)])]) ?_ (fun T1 H1 hw=>?_)
  ·replace h:=hv70; clear hv70
   refine Tr.block ?_
   refine Tr.loopM (σ:=Int × Bool × Bool) (fun n s=>M95 f_1 a_2 b_3 y_18 x_25 n s.1 s.2.1 s.2.2) (v_33,v_34) (fun s=>([(3,.pt 0 0),(4,.pt 1 0),(5,.pt 2 0),(6,.pt 3 0),(7,.pt 4 0),(10,(dI y_18)),(37,.d (.ls (List.map eTOutcome x_25))),(38,(dI (((x_25).length:Int)))),(39,(dI s.1))],[some (.var [.d (.ls (List.map eTSegment f_1.Clocks.Segments)),.d (.ls (List.map (eL eI) f_1.Clocks.Far)),.d (.ls (List.map eTPair f_1.Pairs)),.d (.ls (List.map eTRunner f_1.Runners))]),some (.var [(dI a_2)]),some (.var [(dI b_3)]),some (.var [.d (.b s.2.1)]),some (.var [.d (.b s.2.2)])])) (((((x_25).length:Int)) - 0:Int).toNat+1) (0,v_21,v_22) h (fun s=>rfl) (Wk.mk2 [0,1,2,3,4] 5 rfl rfl (by decide) rfl ⟨rr,rr,rr,rr,rr,trivial⟩ ⟨rr,rr,rr,rr,rr,rr,rr,rr,rr,trivial⟩) ?_
   clear h
   rintro n_32 ⟨v_29,v_30,v_31⟩ h
   replace h:M95 f_1 a_2 b_3 y_18 x_25 (n_32+1) v_29 v_30 v_31=some (v_33,v_34):=h
   rw [M95] at h
   refine sg ?_
   conv=>whnf
   refine Tr.seq ?_
   refine Tr.cond ?_
   conv=>whnf
   refine cB h (fun hb37 h=>?_) (fun hb37 h=>?_)
   ·refine Tr.skip ?_
    conv=>whnf
    refine Tr.seq ?_
    refine Tr.block ?_
    refine sg ?_
    conv=>whnf
    obtain ⟨x_38,hx_38,h⟩:=bS h
    refine ixP_of hx_38 ?_
    conv=>whnf
    refine sg ?_
    conv=>whnf
    obtain ⟨x_39,hx_39,h⟩:=bS h
    refine ixP_of hx_39 ?_
    conv=>whnf
    obtain ⟨x_40,hx_40,h⟩:=bS h
    refine ixP_of hx_40 ?_
    conv=>whnf
    refine lnS_map ?_
    conv=>whnf
    obtain ⟨⟨v_48,v_49⟩,hv69,h⟩:=bS h
    refine Tr.cutQ1 ([(3,.pt 0 0),(4,.pt 1 0),(5,.pt 2 0),(6,.pt 3 0),(7,.pt 4 0),(10,(dI y_18)),(37,.d (.ls (List.map eTOutcome x_25))),(38,(dI (((x_25).length:Int)))),(39,(dI v_29))]) ([some (.var [.d (.ls (List.map eTSegment f_1.Clocks.Segments)),.d (.ls (List.map (eL eI) f_1.Clocks.Far)),.d (.ls (List.map eTPair f_1.Pairs)),.d (.ls (List.map eTRunner f_1.Runners))]),some (.var [(dI a_2)]),some (.var [(dI b_3)]),some (.var [.d (.b v_48)]),some (.var [.d (.b v_49)])]) ?_ (fun T1 H1 hw=>?_)
    ·replace h:=hv69; clear hv69
     refine Tr.block ?_
     refine Tr.loopM (σ:=Int × Bool × Bool) (fun n s=>M94 f_1 a_2 b_3 x_38 x_40 n s.1 s.2.1 s.2.2) (v_48,v_49) (fun s=>([(3,.pt 0 0),(4,.pt 1 0),(5,.pt 2 0),(6,.pt 3 0),(7,.pt 4 0),(10,(dI y_18)),(12,.pt 5 0),(37,.d (.ls (List.map eTOutcome x_25))),(38,(dI (((x_25).length:Int)))),(39,(dI v_29)),(51,.d (.ls (List.map eTOutcome x_40))),(52,(dI (((x_40).length:Int)))),(53,(dI s.1))],[some (.var [.d (.ls (List.map eTSegment f_1.Clocks.Segments)),.d (.ls (List.map (eL eI) f_1.Clocks.Far)),.d (.ls (List.map eTPair f_1.Pairs)),.d (.ls (List.map eTRunner f_1.Runners))]),some (.var [(dI a_2)]),some (.var [(dI b_3)]),some (.var [.d (.b s.2.1)]),some (.var [.d (.b s.2.2)]),some (.var [.d (.b x_38.Out),(dI x_38.Seg),(dI x_38.Lo),(dI x_38.Hi)])])) (((((x_40).length:Int)) - 0:Int).toNat+1) (0,v_30,v_31) h (fun s=>rfl) (Wk.mk2 [0,1,2,3,4,5] 6 rfl rfl (by decide) rfl ⟨rr,rr,rr,rr,rr,rr,trivial⟩ ⟨rr,rr,rr,rr,rr,rr,rr,rr,rr,rr,rr,rr,rr,trivial⟩) ?_
     clear h
     rintro n_47 ⟨v_44,v_45,v_46⟩ h
     replace h:M94 f_1 a_2 b_3 x_38 x_40 (n_47+1) v_44 v_45 v_46=some (v_48,v_49):=h
     rw [M94] at h
     refine sg ?_
     conv=>whnf
     refine Tr.seq ?_
     refine Tr.cond ?_
     conv=>whnf
     refine cB h (fun hb52 h=>?_) (fun hb52 h=>?_)
     ·refine Tr.skip ?_
      conv=>whnf
      refine Tr.seq ?_
      obtain ⟨⟨v_53,v_54⟩,hv55,h⟩:=bS h
      refine Tr.cutQ1 ([(3,.pt 0 0),(4,.pt 1 0),(5,.pt 2 0),(6,.pt 3 0),(7,.pt 4 0),(10,(dI y_18)),(12,.pt 5 0),(37,.d (.ls (List.map eTOutcome x_25))),(38,(dI (((x_25).length:Int)))),(39,(dI v_29)),(51,.d (.ls (List.map eTOutcome x_40))),(52,(dI (((x_40).length:Int)))),(53,(dI v_44))]) ([some (.var [.d (.ls (List.map eTSegment f_1.Clocks.Segments)),.d (.ls (List.map (eL eI) f_1.Clocks.Far)),.d (.ls (List.map eTPair f_1.Pairs)),.d (.ls (List.map eTRunner f_1.Runners))]),some (.var [(dI a_2)]),some (.var [(dI b_3)]),some (.var [.d (.b v_53)]),some (.var [.d (.b v_54)]),some (.var [.d (.b x_38.Out),(dI x_38.Seg),(dI x_38.Lo),(dI x_38.Hi)])]) ?_ (fun T1 H1 hw=>?_)
      ·replace h:=hv55; clear hv55
       refine Tr.block ?_
       refine sg ?_
       conv=>whnf
       obtain ⟨x_56,hx_56,h⟩:=bS h
       refine ixP_of hx_56 ?_
       conv=>whnf
       refine Tr.block ?_
       refine sg ?_
       conv=>whnf
       refine Tr.cond ?_
       conv=>whnf
       refine cB h (fun hb57 h=>?_) (fun hb57 h=>?_)
       ·refine rg ?_
        conv=>whnf
        cases h
        exact Wk.mk2 [0,1,2,3,4,5] 7 rfl rfl (by decide) rfl ⟨rr,rr,rr,rr,rr,rr,trivial⟩ ⟨rr,rr,rr,rr,rr,rr,rr,rr,rr,rr,rr,rr,rr,trivial⟩
       refine sg ?_
       conv=>whnf
       refine Tr.cond ?_
       conv=>whnf
       refine cB h (fun hb58 h=>?_) (fun hb58 h=>?_)
       ·refine rg ?_
        conv=>whnf
        cases h
        exact Wk.mk2 [0,1,2,3,4,5] 7 rfl rfl (by decide) rfl ⟨rr,rr,rr,rr,rr,rr,trivial⟩ ⟨rr,rr,rr,rr,rr,rr,rr,rr,rr,rr,rr,rr,rr,trivial⟩
       refine Tr.seq ?_
       obtain ⟨v_59,hv60,h⟩:=bS h
       refine Tr.cutQ1 ([(3,.pt 0 0),(4,.pt 1 0),(5,.pt 2 0),(6,.pt 3 0),(7,.pt 4 0),(10,(dI y_18)),(12,.pt 5 0),(14,.pt 6 0),(37,.d (.ls (List.map eTOutcome x_25))),(38,(dI (((x_25).length:Int)))),(39,(dI v_29)),(51,.d (.ls (List.map eTOutcome x_40))),(52,(dI (((x_40).length:Int)))),(53,(dI v_44))]) ([some (.var [.d (.ls (List.map eTSegment f_1.Clocks.Segments)),.d (.ls (List.map (eL eI) f_1.Clocks.Far)),.d (.ls (List.map eTPair f_1.Pairs)),.d (.ls (List.map eTRunner f_1.Runners))]),some (.var [(dI a_2)]),some (.var [(dI b_3)]),some (.var [.d (.b v_59)]),some (.var [.d (.b v_46)]),some (.var [.d (.b x_38.Out),(dI x_38.Seg),(dI x_38.Lo),(dI x_38.Hi)]),some (.var [.d (.b x_56.Out),(dI x_56.Seg),(dI x_56.Lo),(dI x_56.Hi)])]) ?_ (fun T1 H1 hw=>?_)
       ·replace h:=hv60; clear hv60
        refine dq [(10,3)] [(0,6),(1,1),(2,1),(3,3),(4,5),(5,9),(6,4),(7,8),(8,1),(9,1),(10,0)] ?_
        conv=>whnf
        refine q2 ?_
        conv=>whnf
        refine q1 ?_
        conv=>whnf
        refine cB h (fun hb61 h=>?_) (fun hb61 h=>?_)
        ·conv=>whnf
         obtain ⟨_,hc62,h⟩:=bS h
         refine q1 ?_ (fun _=>pe (P64  hc62) rr)
         conv=>whnf
         refine q2 ?_
         conv=>whnf
         refine q2 ?_
         conv=>whnf
         refine q2 ?_
         conv=>whnf
         refine q2 ?_
         conv=>whnf
         refine q2 ?_
         conv=>whnf
         obtain ⟨r_63,hc64,h⟩:=bS h
         refine q1 ?_ (fun _=>pe (P72 f_1 b_3 x_56 a_2 x_38 r_63 hc64) rr)
         conv=>whnf
         refine q1 ?_
         conv=>whnf
         refine ⟨_,_,rr,kp_ok (by repeat (first | exact trivial | refine ⟨trivial,?_⟩ | refine ⟨rfl,?_⟩)),?_⟩
         conv=>whnf
         cases h
         exact Wk.mk2 [0,1,2,3,4,5,6] 7 rfl rfl (by decide) rfl ⟨rr,rr,rr,rr,rr,rr,rr,trivial⟩ ⟨rr,rr,rr,rr,rr,rr,rr,rr,rr,rr,rr,rr,rr,rr,trivial⟩
        conv=>whnf
        refine q1 ?_
        conv=>whnf
        refine ⟨_,_,rr,kp_ok (by repeat (first | exact trivial | refine ⟨trivial,?_⟩ | refine ⟨rfl,?_⟩)),?_⟩
        conv=>whnf
        cases h
        exact Wk.mk2 [0,1,2,3,4,5,6] 7 rfl rfl (by decide) rfl ⟨rr,rr,rr,rr,rr,rr,rr,trivial⟩ ⟨rr,rr,rr,rr,rr,rr,rr,rr,rr,rr,rr,rr,rr,rr,trivial⟩
       clear hv60
       conv=>whnf
       refine Tr.weak hw ?_
       refine dq [(10,4)] [(0,7),(1,1),(2,1),(3,3),(4,5),(5,9),(6,4),(7,8),(8,1),(9,1),(10,0)] ?_
       conv=>whnf
       refine q2 ?_
       conv=>whnf
       refine q1 ?_
       conv=>whnf
       refine cB h (fun hb65 h=>?_) (fun hb65 h=>?_)
       ·conv=>whnf
        refine q1 ?_
        conv=>whnf
        refine ⟨_,_,rr,kp_ok (by repeat (first | exact trivial | refine ⟨trivial,?_⟩ | refine ⟨rfl,?_⟩)),?_⟩
        conv=>whnf
        cases h
        exact Wk.mk2 [0,1,2,3,4,5] 7 rfl rfl (by decide) rfl ⟨rr,rr,rr,rr,rr,rr,trivial⟩ ⟨rr,rr,rr,rr,rr,rr,rr,rr,rr,rr,rr,rr,rr,trivial⟩
       conv=>whnf
       obtain ⟨_,hc66,h⟩:=bS h
       refine q1 ?_ (fun _=>pe (P80  hc66) rr)
       conv=>whnf
       refine q2 ?_
       conv=>whnf
       refine q2 ?_
       conv=>whnf
       refine q2 ?_
       conv=>whnf
       refine q2 ?_
       conv=>whnf
       refine q2 ?_
       conv=>whnf
       obtain ⟨r_67,hc68,h⟩:=bS h
       refine q1 ?_ (fun _=>pe (P83 f_1 b_3 x_56 a_2 x_38 r_67 hc68) rr)
       conv=>whnf
       refine q1 ?_
       conv=>whnf
       refine ⟨_,_,rr,kp_ok (by repeat (first | exact trivial | refine ⟨trivial,?_⟩ | refine ⟨rfl,?_⟩)),?_⟩
       conv=>whnf
       cases h
       exact Wk.mk2 [0,1,2,3,4,5] 7 rfl rfl (by decide) rfl ⟨rr,rr,rr,rr,rr,rr,trivial⟩ ⟨rr,rr,rr,rr,rr,rr,rr,rr,rr,rr,rr,rr,rr,trivial⟩
      clear hv55
      conv=>whnf
      refine Tr.weak hw ?_
      refine rg ?_
      conv=>whnf
      refine arS_raw ?_
      conv=>whnf
      refine ⟨((w64 (v_44+1)),v_53,v_54),h,?_⟩
      exact Wk.mk2 [0,1,2,3,4,5] 6 rfl rfl (by decide) rfl ⟨rr,rr,rr,rr,rr,rr,trivial⟩ ⟨rr,rr,rr,rr,rr,rr,rr,rr,rr,rr,rr,rr,rr,trivial⟩
     refine Tr.exit ?_
     conv=>whnf
     cases h
     exact Wk.mk2 [0,1,2,3,4] 6 rfl rfl (by decide) rfl ⟨rr,rr,rr,rr,rr,trivial⟩ ⟨rr,rr,rr,rr,rr,rr,rr,rr,rr,trivial⟩
    clear hv69
    conv=>whnf
    refine Tr.weak hw ?_
    refine rg ?_
    conv=>whnf
    refine arS_raw ?_
    conv=>whnf
    refine ⟨((w64 (v_29+1)),v_48,v_49),h,?_⟩
    exact Wk.mk2 [0,1,2,3,4] 5 rfl rfl (by decide) rfl ⟨rr,rr,rr,rr,rr,trivial⟩ ⟨rr,rr,rr,rr,rr,rr,rr,rr,rr,trivial⟩
   refine Tr.exit ?_
   conv=>whnf
   cases h
   exact Wk.mk2 [0,1,2,3,4] 5 rfl rfl (by decide) rfl ⟨rr,rr,rr,rr,rr,trivial⟩ trivial
  clear hv70
  conv=>whnf
  cases h
  refine Wk.trans (F:=5) hw ?_
  exact Wk.mk2 [0,1,2,3,4] 5 rfl rfl (by decide) rfl ⟨rr,rr,rr,rr,rr,trivial⟩ trivial
 clear hv73
 conv=>whnf
 refine sd [(2,3),(3,4)] [(0,6),(1,7),(2,0),(3,0),(4,1)] ?_
 conv=>whnf
 refine q2 ?_
 conv=>whnf
 refine q2 ?_
 conv=>whnf
 refine ⟨_,_,rr,kp_ok (by repeat (first | exact trivial | refine ⟨trivial,?_⟩ | refine ⟨rfl,?_⟩)),?_⟩
 conv=>whnf
 refine ⟨_,_,rr,kp_ok (by repeat (first | exact trivial | refine ⟨trivial,?_⟩ | refine ⟨rfl,?_⟩)),?_⟩
 conv=>whnf
 refine q1 ?_
 conv=>whnf
 refine Tr.ret ?_
 conv=>whnf
 cases h
 rfl
theorem P98 (r_1:Bool) (h:M98=some r_1) :
    PC prog 11 [] (fun rs=>rs=[(.b r_1)]):=by
 refine PC.of_tr (cx:=⟨154,none,lay,0⟩) layOK func11 rfl rfl rfl rfl rfl (by simp [f11]) ?_
 unfold M98 at h
 refine sg ?_
 conv=>whnf
 refine sg ?_
 conv=>whnf
 refine orB_r ?_
 conv=>whnf
 obtain ⟨r_2,hc3,h⟩:=bS h
 refine PC.ecall (P1 ((([10,12,11,13]:List Int))) r_2 hc3) (fun rs hrs=>?_)
 subst hrs
 conv=>whnf
 refine sg ?_
 conv=>whnf
 obtain ⟨⟨r_4,r_5⟩,hc6,h⟩:=bS h
 refine PC.ecall (P93 r_2 0 r_4 r_5 hc6) (fun rs hrs=>?_)
 subst hrs
 conv=>whnf
 refine sg ?_
 conv=>whnf
 obtain ⟨⟨r_7,r_8⟩,hc9,h⟩:=bS h
 refine PC.ecall (P93 r_2 1 r_7 r_8 hc9) (fun rs hrs=>?_)
 subst hrs
 conv=>whnf
 refine sg ?_
 conv=>whnf
 refine orB_r ?_
 conv=>whnf
 obtain ⟨r_10,hc11,h⟩:=bS h
 refine PC.ecall (P1 ((([10,12,13,13]:List Int))) r_10 hc11) (fun rs hrs=>?_)
 subst hrs
 conv=>whnf
 obtain ⟨⟨r_12,r_13⟩,hc14,h⟩:=bS h
 refine PC.ecall (P93 r_10 0 r_12 r_13 hc14) (fun rs hrs=>?_)
 subst hrs
 conv=>whnf
 refine sg ?_
 conv=>whnf
 obtain ⟨⟨r_15,r_16⟩,hc17,h⟩:=bS h
 refine PC.ecall_frz ?_ ⟨_,_,func18,rfl,rfl⟩
 conv=>whnf
 refine ⟨_,P93 (({ Clocks:=({ Segments:=(([]:List TSegment)),Far:=(([]:List (List Int))) }:TClocks),Pairs:=(([]:List TPair)),Runners:=(([]:List TRunner)) }:TField)) 0 r_15 r_16 hc17,fun rs hrs=>?_⟩
 subst hrs
 conv=>whnf
 refine sg ?_
 conv=>whnf
 obtain ⟨⟨r_18,r_19⟩,hc20,h⟩:=bS h
 refine PC.ecall (P93 r_2 (-1) r_18 r_19 hc20) (fun rs hrs=>?_)
 subst hrs
 conv=>whnf
 refine sg ?_
 conv=>whnf
 refine orB_r ?_
 conv=>whnf
 refine ECall.of_tr (cx:=⟨37,none,lay,6⟩) layOK func32 rfl rfl rfl rfl rfl (by simp [f32]) ?_
 refine sg ?_
 conv=>whnf
 refine sg ?_
 conv=>whnf
 refine orB_l ?_
 conv=>whnf
 refine orB_l ?_
 conv=>whnf
 refine orB_l ?_
 conv=>whnf
 refine Tr.seq ?_
 refine sg ?_
 conv=>whnf
 refine Tr.block ?_
 refine Tr.loopN 2 ?_
 refine TrN.succ ?_
 refine Tr.seq ?_
 refine sg ?_
 conv=>whnf
 refine arS_raw ?_
 conv=>whnf
 refine lnS_map (f:=eI) (l:=(([0,0]:List Int))) ?_
 conv=>whnf
 refine Tr.cond ?_
 conv=>whnf
 refine Tr.skip ?_
 conv=>whnf
 refine Tr.seq ?_
 refine Tr.block ?_
 refine dq [(20,9)] [(0,12),(1,12),(2,1),(3,1),(4,1),(5,1),(6,2),(7,2),(8,1),(9,1),(10,1),(11,2),(12,2),(13,1),(14,0),(15,0),(16,1),(17,0),(18,0),(19,12),(20,0)] ?_
 conv=>whnf
 refine q2 ?_
 conv=>whnf
 refine q2 ?_
 conv=>whnf
 refine q1 ?_
 conv=>whnf
 refine q4 ?_
 conv=>whnf
 refine q1 ?_
 conv=>whnf
 refine q1 ?_
 conv=>whnf
 obtain ⟨x_21,hx_21,h⟩:=bS h
 refine q3 (ixP_of hx_21 rr) ?_
 conv=>whnf
 refine q2 ?_
 conv=>whnf
 refine q1 ?_
 conv=>whnf
 refine q1 ?_
 conv=>whnf
 refine q4 ?_
 conv=>whnf
 obtain ⟨x_22,hx_22,h⟩:=bS h
 refine q3 (ixP_of hx_22 rr) ?_
 conv=>whnf
 refine q2 ?_
 conv=>whnf
 refine q1 ?_
 conv=>whnf
 refine ⟨_,_,(by (conv=>whnf); (refine orB_l ?_); (conv=>whnf); (exact rr)),kp_ok (by repeat (first | exact trivial | refine ⟨trivial,?_⟩ | refine ⟨rfl,?_⟩)),?_⟩
 conv=>whnf
 refine ⟨_,_,(by (conv=>whnf); (refine orB_l ?_); (conv=>whnf); (exact rr)),kp_ok (by repeat (first | exact trivial | refine ⟨trivial,?_⟩ | refine ⟨rfl,?_⟩)),?_⟩
 conv=>whnf
 refine q1 ?_
 conv=>whnf
 refine ⟨_,_,(by (conv=>whnf); (refine orB_l ?_); (conv=>whnf); (exact rr)),kp_ok (by repeat (first | exact trivial | refine ⟨trivial,?_⟩ | refine ⟨rfl,?_⟩)),?_⟩
 conv=>whnf
 refine ⟨_,_,(by (conv=>whnf); (refine sxP_all (by first | rfl | simp) ?_); (conv=>whnf); (refine frP_no ?_); (conv=>whnf); (refine apS_mk (by intro e he; rcases List.mem_singleton.1 he with rfl; rfl) (by first | decide | exact Nat.le_of_ble_eq_true rfl) (by first | decide | exact Nat.le_of_ble_eq_true rfl) ?_); (conv=>whnf); (refine rS rfl rfl ?_); (conv=>whnf); (exact rr)),kp_ok (by repeat (first | exact trivial | refine ⟨trivial,?_⟩ | refine ⟨rfl,?_⟩)),?_⟩
 conv=>whnf
 refine q2 ?_
 conv=>whnf
 refine ⟨_,_,(by (conv=>whnf); (refine orB_l ?_); (conv=>whnf); (exact rr)),kp_ok (by repeat (first | exact trivial | refine ⟨trivial,?_⟩ | refine ⟨rfl,?_⟩)),?_⟩
 conv=>whnf
 refine rg ?_
 conv=>whnf
 refine arS_raw ?_
 conv=>whnf
 refine TrN.succ ?_
 refine Tr.seq ?_
 refine sg ?_
 conv=>whnf
 refine arS_raw ?_
 conv=>whnf
 refine lnS_map (f:=eI) (l:=(([0,0]:List Int))) ?_
 conv=>whnf
 refine Tr.cond ?_
 conv=>whnf
 refine Tr.exit ?_
 conv=>whnf
 refine sg ?_
 conv=>whnf
 refine orB_l ?_
 conv=>whnf
 refine Tr.ret ?_
 conv=>whnf
 refine orB_l ?_
 conv=>whnf
 refine sg ?_
 conv=>whnf
 refine ixS_mk 0 rfl (by first | decide | exact Nat.le_of_ble_eq_true rfl) ?_
 conv=>whnf
 refine elP_mk _ rfl ?_
 conv=>whnf
 refine ixS_mk 0 rfl (by first | decide | exact Nat.le_of_ble_eq_true rfl) ?_
 conv=>whnf
 refine elP_mk _ rfl ?_
 conv=>whnf
 obtain ⟨x_23,hx_23,h⟩:=bS h
 refine ixS_of hx_23 rfl ?_
 conv=>whnf
 refine elP_of (f:=eTOutcome) hx_23 ?_
 conv=>whnf
 refine lvS_mk (es':=List.map .d (List.map eTOutcome (List.set (([({ Out:=false,Seg:=(-1),Lo:=x_21,Hi:=x_22 }:TOutcome)]:List TOutcome)) (Int.toNat 0) ({ Out:=true,Seg:=(-1),Lo:=0,Hi:=0 }:TOutcome)))) (by simp only [Nat.zero_add,List.map_set]; first | done | rfl) ?_
 conv=>whnf
 refine sg ?_
 conv=>whnf
 obtain ⟨⟨r_24,r_25⟩,hc26,h⟩:=bS h
 refine PC.ecall_frz ?_ ⟨_,_,func18,rfl,rfl⟩
 conv=>whnf
 refine frE_in rfl ?_
 conv=>whnf
 refine frE_of (f:=eI) (l:=(([0]:List Int))) rfl ?_
 conv=>whnf
 refine frE_in rfl ?_
 conv=>whnf
 refine frE_in rfl ?_
 conv=>whnf
 refine frE_of (f:=eTOutcome) (l:=(List.set (([({ Out:=false,Seg:=(-1),Lo:=x_21,Hi:=x_22 }:TOutcome)]:List TOutcome)) (Int.toNat 0) ({ Out:=true,Seg:=(-1),Lo:=0,Hi:=0 }:TOutcome))) (by first | rfl | simp) ?_
 conv=>whnf
 refine ⟨_,P93 (({ Clocks:=({ Segments:=(([]:List TSegment)),Far:=(([(([0]:List Int))]:List (List Int))) }:TClocks),Pairs:=(([]:List TPair)),Runners:=(([({ Bib:=1,Keys:=(([]:List Int)),Worlds:=(([(List.set (([({ Out:=false,Seg:=(-1),Lo:=x_21,Hi:=x_22 }:TOutcome)]:List TOutcome)) (Int.toNat 0) ({ Out:=true,Seg:=(-1),Lo:=0,Hi:=0 }:TOutcome))]:List (List TOutcome))) }:TRunner)]:List TRunner)) }:TField)) 0 r_24 r_25 hc26,fun rs hrs=>?_⟩
 subst hrs
 conv=>whnf
 refine sg ?_
 conv=>whnf
 obtain ⟨⟨r_27,r_28,r_29⟩,hc30,h⟩:=bS h
 refine PC.ecall (P97 r_2 0 0 r_27 r_28 r_29 hc30) (fun rs hrs=>?_)
 subst hrs
 conv=>whnf
 refine sg ?_
 conv=>whnf
 obtain ⟨⟨r_31,r_32,r_33⟩,hc34,h⟩:=bS h
 refine PC.ecall (P97 r_2 1 0 r_31 r_32 r_33 hc34) (fun rs hrs=>?_)
 subst hrs
 conv=>whnf
 refine Tr.seq ?_
 refine Tr.cutQ1 ([(0,.d (.b false)),(13,.pt 0 0),(14,(dI r_25)),(15,.d (.b r_27)),(16,.d (.b r_28)),(17,(dI r_29)),(18,.d (.b r_31)),(19,.d (.b r_32)),(20,(dI r_33)),(21,.d (.b ((r_5 == 0) && (((r_4.Bib == 1) && ((r_4.Kind == 2) && ((r_4.Lo == 1) && ((r_4.Hi == 2) && ((r_4.Out == false) && true))))) && ((r_8 == 0) && ((r_7.Lo == 1) && ((r_7.Hi == 2) && ((r_13 == 0) && ((r_12.Kind == 1) && ((r_12.Lo == 1) && ((r_16 == 240) && (r_19 == 250))))))))))))]) ([some (.var [(dI r_24.Bib),(dI r_24.Kind),(dI r_24.Lo),(dI r_24.Hi),.d (.b r_24.Out)])]) ?_ (fun T1 H1 hw=>?_)
 ·refine rg ?_
  conv=>whnf
  refine condS_mk (fun hb36=>?_) (fun hb36=>?_)
  ·conv=>whnf
   refine condS_mk (fun hb37=>?_) (fun hb37=>?_)
   ·conv=>whnf
    refine condS_mk (fun hb38=>?_) (fun hb38=>?_)
    ·conv=>whnf
     refine condS_mk (fun hb39=>?_) (fun hb39=>?_)
     ·conv=>whnf
      refine condS_mk (fun hb40=>?_) (fun hb40=>?_)
      ·conv=>whnf
       refine condS_mk (fun hb41=>?_) (fun hb41=>?_)
       ·conv=>whnf
        refine condS_mk (fun hb42=>?_) (fun hb42=>?_)
        ·conv=>whnf
         refine condS_mk (fun hb43=>?_) (fun hb43=>?_)
         ·conv=>whnf
          refine condS_mk (fun hb44=>?_) (fun hb44=>?_)
          ·conv=>whnf
           exact Wk.mk2 [15] 16 rfl rfl (by decide) rfl ⟨rr,trivial⟩ ⟨rr,⟨rfl,(by first | rfl | (simp only [↓hb36,↓hb37,↓hb38,↓hb39,↓hb40,↓hb41,↓hb42,↓hb43,↓hb44,bl]; done) | (simp only [↓hb36,↓hb37,↓hb38,↓hb39,↓hb40,↓hb41,↓hb42,↓hb43,↓hb44,bl]; rfl))⟩,rr,rr,rr,rr,rr,rr,rr,⟨rfl,(by first | rfl | (simp only [↓hb36,↓hb37,↓hb38,↓hb39,↓hb40,↓hb41,↓hb42,↓hb43,↓hb44,bl]; done) | (simp only [↓hb36,↓hb37,↓hb38,↓hb39,↓hb40,↓hb41,↓hb42,↓hb43,↓hb44,bl]; rfl))⟩,trivial⟩
          conv=>whnf
          exact Wk.mk2 [15] 16 rfl rfl (by decide) rfl ⟨rr,trivial⟩ ⟨rr,⟨rfl,(by first | rfl | (simp only [↓hb36,↓hb37,↓hb38,↓hb39,↓hb40,↓hb41,↓hb42,↓hb43,↓hb44,bl]; done) | (simp only [↓hb36,↓hb37,↓hb38,↓hb39,↓hb40,↓hb41,↓hb42,↓hb43,↓hb44,bl]; rfl))⟩,rr,rr,rr,rr,rr,rr,rr,⟨rfl,(by first | rfl | (simp only [↓hb36,↓hb37,↓hb38,↓hb39,↓hb40,↓hb41,↓hb42,↓hb43,↓hb44,bl]; done) | (simp only [↓hb36,↓hb37,↓hb38,↓hb39,↓hb40,↓hb41,↓hb42,↓hb43,↓hb44,bl]; rfl))⟩,trivial⟩
         conv=>whnf
         exact Wk.mk2 [15] 16 rfl rfl (by decide) rfl ⟨rr,trivial⟩ ⟨rr,⟨rfl,(by first | rfl | (simp only [↓hb36,↓hb37,↓hb38,↓hb39,↓hb40,↓hb41,↓hb42,↓hb43,bl]; done) | (simp only [↓hb36,↓hb37,↓hb38,↓hb39,↓hb40,↓hb41,↓hb42,↓hb43,bl]; rfl))⟩,rr,rr,rr,rr,rr,rr,rr,⟨rfl,(by first | rfl | (simp only [↓hb36,↓hb37,↓hb38,↓hb39,↓hb40,↓hb41,↓hb42,↓hb43,bl]; done) | (simp only [↓hb36,↓hb37,↓hb38,↓hb39,↓hb40,↓hb41,↓hb42,↓hb43,bl]; rfl))⟩,trivial⟩
        conv=>whnf
        exact Wk.mk2 [15] 16 rfl rfl (by decide) rfl ⟨rr,trivial⟩ ⟨rr,⟨rfl,(by first | rfl | (simp only [↓hb36,↓hb37,↓hb38,↓hb39,↓hb40,↓hb41,↓hb42,bl]; done) | (simp only [↓hb36,↓hb37,↓hb38,↓hb39,↓hb40,↓hb41,↓hb42,bl]; rfl))⟩,rr,rr,rr,rr,rr,rr,rr,⟨rfl,(by first | rfl | (simp only [↓hb36,↓hb37,↓hb38,↓hb39,↓hb40,↓hb41,↓hb42,bl]; done) | (simp only [↓hb36,↓hb37,↓hb38,↓hb39,↓hb40,↓hb41,↓hb42,bl]; rfl))⟩,trivial⟩
       conv=>whnf
       exact Wk.mk2 [15] 16 rfl rfl (by decide) rfl ⟨rr,trivial⟩ ⟨rr,⟨rfl,(by first | rfl | (simp only [↓hb36,↓hb37,↓hb38,↓hb39,↓hb40,↓hb41,bl]; done) | (simp only [↓hb36,↓hb37,↓hb38,↓hb39,↓hb40,↓hb41,bl]; rfl))⟩,rr,rr,rr,rr,rr,rr,rr,⟨rfl,(by first | rfl | (simp only [↓hb36,↓hb37,↓hb38,↓hb39,↓hb40,↓hb41,bl]; done) | (simp only [↓hb36,↓hb37,↓hb38,↓hb39,↓hb40,↓hb41,bl]; rfl))⟩,trivial⟩
      conv=>whnf
      exact Wk.mk2 [15] 16 rfl rfl (by decide) rfl ⟨rr,trivial⟩ ⟨rr,⟨rfl,(by first | rfl | (simp only [↓hb36,↓hb37,↓hb38,↓hb39,↓hb40,bl]; done) | (simp only [↓hb36,↓hb37,↓hb38,↓hb39,↓hb40,bl]; rfl))⟩,rr,rr,rr,rr,rr,rr,rr,⟨rfl,(by first | rfl | (simp only [↓hb36,↓hb37,↓hb38,↓hb39,↓hb40,bl]; done) | (simp only [↓hb36,↓hb37,↓hb38,↓hb39,↓hb40,bl]; rfl))⟩,trivial⟩
     conv=>whnf
     exact Wk.mk2 [15] 16 rfl rfl (by decide) rfl ⟨rr,trivial⟩ ⟨rr,⟨rfl,(by first | rfl | (simp only [↓hb36,↓hb37,↓hb38,↓hb39,bl]; done) | (simp only [↓hb36,↓hb37,↓hb38,↓hb39,bl]; rfl))⟩,rr,rr,rr,rr,rr,rr,rr,⟨rfl,(by first | rfl | (simp only [↓hb36,↓hb37,↓hb38,↓hb39,bl]; done) | (simp only [↓hb36,↓hb37,↓hb38,↓hb39,bl]; rfl))⟩,trivial⟩
    conv=>whnf
    exact Wk.mk2 [15] 16 rfl rfl (by decide) rfl ⟨rr,trivial⟩ ⟨rr,⟨rfl,(by first | rfl | (simp only [↓hb36,↓hb37,↓hb38,bl]; done) | (simp only [↓hb36,↓hb37,↓hb38,bl]; rfl))⟩,rr,rr,rr,rr,rr,rr,rr,⟨rfl,(by first | rfl | (simp only [↓hb36,↓hb37,↓hb38,bl]; done) | (simp only [↓hb36,↓hb37,↓hb38,bl]; rfl))⟩,trivial⟩
   conv=>whnf
   exact Wk.mk2 [15] 16 rfl rfl (by decide) rfl ⟨rr,trivial⟩ ⟨rr,⟨rfl,(by first | rfl | (simp only [↓hb36,↓hb37,bl]; done) | (simp only [↓hb36,↓hb37,bl]; rfl))⟩,rr,rr,rr,rr,rr,rr,rr,⟨rfl,(by first | rfl | (simp only [↓hb36,↓hb37,bl]; done) | (simp only [↓hb36,↓hb37,bl]; rfl))⟩,trivial⟩
  conv=>whnf
  exact Wk.mk2 [15] 16 rfl rfl (by decide) rfl ⟨rr,trivial⟩ ⟨rr,⟨rfl,(by first | rfl | (simp only [↓hb36,bl]; done) | (simp only [↓hb36,bl]; rfl))⟩,rr,rr,rr,rr,rr,rr,rr,⟨rfl,(by first | rfl | (simp only [↓hb36,bl]; done) | (simp only [↓hb36,bl]; rfl))⟩,trivial⟩
 conv=>whnf
 refine Tr.weak hw ?_
 refine Tr.seq ?_
 refine Tr.cutQ1 ([(0,.d (.b (((r_5 == 0) && (((r_4.Bib == 1) && ((r_4.Kind == 2) && ((r_4.Lo == 1) && ((r_4.Hi == 2) && ((r_4.Out == false) && true))))) && ((r_8 == 0) && ((r_7.Lo == 1) && ((r_7.Hi == 2) && ((r_13 == 0) && ((r_12.Kind == 1) && ((r_12.Lo == 1) && ((r_16 == 240) && (r_19 == 250)))))))))) && ((r_25 == 0) && (((r_24.Bib == 1) && ((r_24.Kind == 3) && ((r_24.Lo == 0) && ((r_24.Hi == 0) && ((r_24.Out == true) && true))))) && ((r_29 == 0) && ((!r_27) && ((!r_28) && ((r_33 == 0) && ((!r_31) && r_32))))))))))]) ([]) ?_ (fun T1 H1 hw=>?_)
 ·refine rg ?_
  conv=>whnf
  refine condS_mk (fun hb46=>?_) (fun hb46=>?_)
  ·conv=>whnf
   refine condS_mk (fun hb47=>?_) (fun hb47=>?_)
   ·conv=>whnf
    refine condS_mk (fun hb48=>?_) (fun hb48=>?_)
    ·conv=>whnf
     refine condS_mk (fun hb49=>?_) (fun hb49=>?_)
     ·conv=>whnf
      refine condS_mk (fun hb50=>?_) (fun hb50=>?_)
      ·conv=>whnf
       refine condS_mk (fun hb51=>?_) (fun hb51=>?_)
       ·conv=>whnf
        refine condS_mk (fun hb52=>?_) (fun hb52=>?_)
        ·conv=>whnf
         refine condS_mk (fun hb53=>?_) (fun hb53=>?_)
         ·conv=>whnf
          exact Wk.mk2 [] 1 rfl rfl (by decide) rfl trivial ⟨⟨rfl,(by first | rfl | (simp only [↓hb46,↓hb47,↓hb48,↓hb49,↓hb50,↓hb51,↓hb52,↓hb53,bl]; done) | (simp only [↓hb46,↓hb47,↓hb48,↓hb49,↓hb50,↓hb51,↓hb52,↓hb53,bl]; rfl))⟩,trivial⟩
         conv=>whnf
         exact Wk.mk2 [] 1 rfl rfl (by decide) rfl trivial ⟨⟨rfl,(by first | rfl | (simp only [↓hb46,↓hb47,↓hb48,↓hb49,↓hb50,↓hb51,↓hb52,↓hb53,bl]; done) | (simp only [↓hb46,↓hb47,↓hb48,↓hb49,↓hb50,↓hb51,↓hb52,↓hb53,bl]; rfl))⟩,trivial⟩
        conv=>whnf
        exact Wk.mk2 [] 1 rfl rfl (by decide) rfl trivial ⟨⟨rfl,(by first | rfl | (simp only [↓hb46,↓hb47,↓hb48,↓hb49,↓hb50,↓hb51,↓hb52,bl]; done) | (simp only [↓hb46,↓hb47,↓hb48,↓hb49,↓hb50,↓hb51,↓hb52,bl]; rfl))⟩,trivial⟩
       conv=>whnf
       exact Wk.mk2 [] 1 rfl rfl (by decide) rfl trivial ⟨⟨rfl,(by first | rfl | (simp only [↓hb46,↓hb47,↓hb48,↓hb49,↓hb50,↓hb51,bl]; done) | (simp only [↓hb46,↓hb47,↓hb48,↓hb49,↓hb50,↓hb51,bl]; rfl))⟩,trivial⟩
      conv=>whnf
      exact Wk.mk2 [] 1 rfl rfl (by decide) rfl trivial ⟨⟨rfl,(by first | rfl | (simp only [↓hb46,↓hb47,↓hb48,↓hb49,↓hb50,bl]; done) | (simp only [↓hb46,↓hb47,↓hb48,↓hb49,↓hb50,bl]; rfl))⟩,trivial⟩
     conv=>whnf
     exact Wk.mk2 [] 1 rfl rfl (by decide) rfl trivial ⟨⟨rfl,(by first | rfl | (simp only [↓hb46,↓hb47,↓hb48,↓hb49,bl]; done) | (simp only [↓hb46,↓hb47,↓hb48,↓hb49,bl]; rfl))⟩,trivial⟩
    conv=>whnf
    exact Wk.mk2 [] 1 rfl rfl (by decide) rfl trivial ⟨⟨rfl,(by first | rfl | (simp only [↓hb46,↓hb47,↓hb48,bl]; done) | (simp only [↓hb46,↓hb47,↓hb48,bl]; rfl))⟩,trivial⟩
   conv=>whnf
   exact Wk.mk2 [] 1 rfl rfl (by decide) rfl trivial ⟨⟨rfl,(by first | rfl | (simp only [↓hb46,↓hb47,bl]; done) | (simp only [↓hb46,↓hb47,bl]; rfl))⟩,trivial⟩
  conv=>whnf
  exact Wk.mk2 [] 1 rfl rfl (by decide) rfl trivial ⟨⟨rfl,(by first | rfl | (simp only [↓hb46,bl]; done) | (simp only [↓hb46,bl]; rfl))⟩,trivial⟩
 conv=>whnf
 refine Tr.weak hw ?_
 refine Tr.ret ?_
 conv=>whnf
 cases h
 rfl
theorem P105 (f_1:TField) (r_2:Bool) (h:M105 f_1=some r_2) :
    PC prog 12 [(eTField f_1)] (fun rs=>rs=[(.b r_2)]):=by
 refine PC.of_tr (cx:=⟨83,none,lay,0⟩) layOK func12 rfl rfl rfl rfl rfl (by simp [f12]) ?_
 unfold M105 at h
 refine sg ?_
 conv=>whnf
 refine Tr.seq ?_
 refine sg ?_
 conv=>whnf
 refine Tr.cutQ (α:=Unit) (fun s=>([(1,.pt 0 0),(2,.d (.b false))],[some (.var [.d (.ls (List.map eTSegment f_1.Clocks.Segments)),.d (.ls (List.map (eL eI) f_1.Clocks.Far)),.d (.ls (List.map eTPair f_1.Pairs)),.d (.ls (List.map eTRunner f_1.Runners))])])) (fun s=>M104 f_1 s=some r_2) ?_ ?_
 ·refine Tr.block ?_
  refine Tr.loopM (σ:=Int) (fun n s=>M101 f_1 (M104 f_1) n s) r_2 (fun s=>([(1,.pt 0 0),(2,.d (.b false)),(3,(dI s))],[some (.var [.d (.ls (List.map eTSegment f_1.Clocks.Segments)),.d (.ls (List.map (eL eI) f_1.Clocks.Far)),.d (.ls (List.map eTPair f_1.Pairs)),.d (.ls (List.map eTRunner f_1.Runners))])])) (((((f_1.Runners).length:Int)) - 0:Int).toNat+1) (0) h (fun s=>rfl) (Wk.mk2 [0] 1 rfl rfl (by decide) rfl ⟨rr,trivial⟩ ⟨rr,rr,rr,trivial⟩) ?_
  clear h
  rintro n_5 i_4 h
  replace h:M101 f_1 (M104 f_1) (n_5+1) i_4=some r_2:=h
  rw [M101] at h
  refine Tr.seq ?_
  refine sg ?_
  conv=>whnf
  refine lnS_map ?_
  conv=>whnf
  refine Tr.cond ?_
  conv=>whnf
  refine cB h (fun hb8 h=>?_) (fun hb8 h=>?_)
  ·refine Tr.skip ?_
   conv=>whnf
   refine Tr.seq ?_
   refine Tr.block ?_
   refine sg ?_
   conv=>whnf
   obtain ⟨x_9,hx_9,h⟩:=bS h
   refine ixP_of hx_9 ?_
   conv=>whnf
   refine Tr.seq ?_
   refine sg ?_
   conv=>whnf
   refine lnS_map ?_
   conv=>whnf
   refine cB h (fun hb10 h=>?_) (fun hb10 h=>?_)
   ·conv=>whnf
    refine Tr.cond ?_
    conv=>whnf
    refine sg ?_
    conv=>whnf
    refine Tr.ret ?_
    conv=>whnf
    cases h
    rfl
   conv=>whnf
   refine lnS_map ?_
   conv=>whnf
   refine Tr.cond ?_
   conv=>whnf
   refine cB h (fun hb11 h=>?_) (fun hb11 h=>?_)
   ·refine sg ?_
    conv=>whnf
    refine Tr.ret ?_
    conv=>whnf
    cases h
    rfl
   refine Tr.skip ?_
   conv=>whnf
   refine sg ?_
   conv=>whnf
   refine Tr.cutQ (α:=Unit) (fun s=>([(1,.pt 0 0),(2,.d (.b false)),(3,(dI i_4))],[some (.var [.d (.ls (List.map eTSegment f_1.Clocks.Segments)),.d (.ls (List.map (eL eI) f_1.Clocks.Far)),.d (.ls (List.map eTPair f_1.Pairs)),.d (.ls (List.map eTRunner f_1.Runners))])])) (fun s=>M100 i_4 (M101 f_1 (M104 f_1) n_5) s=some r_2) ?_ ?_
   ·refine Tr.block ?_
    refine Tr.loopM (σ:=Int) (fun n s=>M99 x_9 (M100 i_4 (M101 f_1 (M104 f_1) n_5)) n s) r_2 (fun s=>([(1,.pt 0 0),(2,.d (.b false)),(3,(dI i_4)),(4,.pt 1 0),(5,(dI s))],[some (.var [.d (.ls (List.map eTSegment f_1.Clocks.Segments)),.d (.ls (List.map (eL eI) f_1.Clocks.Far)),.d (.ls (List.map eTPair f_1.Pairs)),.d (.ls (List.map eTRunner f_1.Runners))]),some (.var [(dI x_9.Bib),.d (.ls (List.map eI x_9.Keys)),.d (.ls (List.map (eL eTOutcome) x_9.Worlds))])])) (((((x_9.Worlds).length:Int)) - 0:Int).toNat+1) (0) h (fun s=>rfl) (Wk.mk2 [0,1] 2 rfl rfl (by decide) rfl ⟨rr,rr,trivial⟩ ⟨rr,rr,rr,rr,rr,trivial⟩) ?_
    clear h
    rintro n_14 w_13 h
    replace h:M99 x_9 (M100 i_4 (M101 f_1 (M104 f_1) n_5)) (n_14+1) w_13=some r_2:=h
    rw [M99] at h
    refine Tr.seq ?_
    refine sg ?_
    conv=>whnf
    refine lnS_map ?_
    conv=>whnf
    refine Tr.cond ?_
    conv=>whnf
    refine cB h (fun hb17 h=>?_) (fun hb17 h=>?_)
    ·refine Tr.skip ?_
     conv=>whnf
     refine Tr.seq ?_
     refine Tr.block ?_
     refine sg ?_
     conv=>whnf
     obtain ⟨x_18,hx_18,h⟩:=bS h
     refine ixP_of hx_18 ?_
     conv=>whnf
     refine lnS_map ?_
     conv=>whnf
     refine Tr.cond ?_
     conv=>whnf
     refine cB h (fun hb19 h=>?_) (fun hb19 h=>?_)
     ·refine sg ?_
      conv=>whnf
      refine Tr.ret ?_
      conv=>whnf
      cases h
      rfl
     refine Tr.skip ?_
     conv=>whnf
     refine rg ?_
     conv=>whnf
     refine arS_raw ?_
     conv=>whnf
     refine ⟨((w64 (w_13+1))),h,?_⟩
     exact Wk.mk2 [0,1] 2 rfl rfl (by decide) rfl ⟨rr,rr,trivial⟩ ⟨rr,rr,rr,rr,rr,trivial⟩
    refine Tr.exit ?_
    conv=>whnf
    refine ⟨(),h,?_⟩
    exact Wk.mk2 [0] 2 rfl rfl (by decide) rfl ⟨rr,trivial⟩ ⟨rr,rr,rr,trivial⟩
   clear h
   rintro _ h T1 H1 hw
   replace h:M100 i_4 (M101 f_1 (M104 f_1) n_5) ()=some r_2:=h
   conv=>whnf
   refine Tr.weak hw ?_
   unfold M100 at h
   refine rg ?_
   conv=>whnf
   refine arS_raw ?_
   conv=>whnf
   refine ⟨((w64 (i_4+1))),h,?_⟩
   exact Wk.mk2 [0] 1 rfl rfl (by decide) rfl ⟨rr,trivial⟩ ⟨rr,rr,rr,trivial⟩
  refine Tr.exit ?_
  conv=>whnf
  refine ⟨(),h,?_⟩
  exact Wk.mk2 [0] 1 rfl rfl (by decide) rfl ⟨rr,trivial⟩ ⟨rr,rr,trivial⟩
 clear h
 rintro _ h T1 H1 hw
 replace h:M104 f_1 ()=some r_2:=h
 conv=>whnf
 refine Tr.weak hw ?_
 unfold M104 at h
 refine Tr.seq ?_
 refine sg ?_
 conv=>whnf
 refine Tr.cutQ (α:=Unit) (fun s=>([(1,.pt 0 0),(2,.d (.b false))],[some (.var [.d (.ls (List.map eTSegment f_1.Clocks.Segments)),.d (.ls (List.map (eL eI) f_1.Clocks.Far)),.d (.ls (List.map eTPair f_1.Pairs)),.d (.ls (List.map eTRunner f_1.Runners))])])) (fun s=>M103 f_1 s=some r_2) ?_ ?_
 ·refine Tr.block ?_
  refine Tr.loopM (σ:=Int) (fun n s=>M102 f_1 (M103 f_1) n s) r_2 (fun s=>([(1,.pt 0 0),(2,.d (.b false)),(6,(dI s))],[some (.var [.d (.ls (List.map eTSegment f_1.Clocks.Segments)),.d (.ls (List.map (eL eI) f_1.Clocks.Far)),.d (.ls (List.map eTPair f_1.Pairs)),.d (.ls (List.map eTRunner f_1.Runners))])])) (((((f_1.Clocks.Far).length:Int)) - 0:Int).toNat+1) (0) h (fun s=>rfl) (Wk.mk2 [0] 1 rfl rfl (by decide) rfl ⟨rr,trivial⟩ ⟨rr,rr,rr,trivial⟩) ?_
  clear h
  rintro n_22 i_21 h
  replace h:M102 f_1 (M103 f_1) (n_22+1) i_21=some r_2:=h
  rw [M102] at h
  refine Tr.seq ?_
  refine sg ?_
  conv=>whnf
  refine lnS_map ?_
  conv=>whnf
  refine Tr.cond ?_
  conv=>whnf
  refine cB h (fun hb25 h=>?_) (fun hb25 h=>?_)
  ·refine Tr.skip ?_
   conv=>whnf
   refine Tr.seq ?_
   refine Tr.block ?_
   refine sg ?_
   conv=>whnf
   obtain ⟨x_26,hx_26,h⟩:=bS h
   refine ixP_of hx_26 ?_
   conv=>whnf
   refine lnS_map ?_
   conv=>whnf
   refine Tr.cond ?_
   conv=>whnf
   refine cB h (fun hb27 h=>?_) (fun hb27 h=>?_)
   ·refine sg ?_
    conv=>whnf
    refine Tr.ret ?_
    conv=>whnf
    cases h
    rfl
   refine Tr.skip ?_
   conv=>whnf
   refine rg ?_
   conv=>whnf
   refine arS_raw ?_
   conv=>whnf
   refine ⟨((w64 (i_21+1))),h,?_⟩
   exact Wk.mk2 [0] 1 rfl rfl (by decide) rfl ⟨rr,trivial⟩ ⟨rr,rr,rr,trivial⟩
  refine Tr.exit ?_
  conv=>whnf
  refine ⟨(),h,?_⟩
  exact Wk.mk2 [0] 1 rfl rfl (by decide) rfl ⟨rr,trivial⟩ ⟨rr,rr,trivial⟩
 clear h
 rintro _ h T1 H1 hw
 replace h:M103 f_1 ()=some r_2:=h
 conv=>whnf
 refine Tr.weak hw ?_
 unfold M103 at h
 refine Tr.seq ?_
 refine Tr.cutQ1 ([(2,.d (.b ((decide ((((f_1.Runners).length:Int))≤6)) && ((decide ((((f_1.Pairs).length:Int))≤3)) && ((decide ((((f_1.Clocks.Segments).length:Int))≤4)) && (decide ((((f_1.Clocks.Far).length:Int))≤6)))))))]) ([]) ?_ (fun T1 H1 hw=>?_)
 ·refine rg ?_
  conv=>whnf
  refine lnS_map ?_
  conv=>whnf
  refine condS_mk (fun hb29=>?_) (fun hb29=>?_)
  ·conv=>whnf
   refine lnS_map ?_
   conv=>whnf
   refine condS_mk (fun hb30=>?_) (fun hb30=>?_)
   ·conv=>whnf
    refine lnS_map ?_
    conv=>whnf
    refine condS_mk (fun hb31=>?_) (fun hb31=>?_)
    ·conv=>whnf
     refine lnS_map ?_
     conv=>whnf
     exact Wk.mk2 [] 1 rfl rfl (by decide) rfl trivial ⟨⟨rfl,(by first | rfl | (simp only [↓hb29,↓hb30,↓hb31,bl]; done) | (simp only [↓hb29,↓hb30,↓hb31,bl]; rfl))⟩,trivial⟩
    conv=>whnf
    exact Wk.mk2 [] 1 rfl rfl (by decide) rfl trivial ⟨⟨rfl,(by first | rfl | (simp only [↓hb29,↓hb30,↓hb31,bl]; done) | (simp only [↓hb29,↓hb30,↓hb31,bl]; rfl))⟩,trivial⟩
   conv=>whnf
   exact Wk.mk2 [] 1 rfl rfl (by decide) rfl trivial ⟨⟨rfl,(by first | rfl | (simp only [↓hb29,↓hb30,bl]; done) | (simp only [↓hb29,↓hb30,bl]; rfl))⟩,trivial⟩
  conv=>whnf
  exact Wk.mk2 [] 1 rfl rfl (by decide) rfl trivial ⟨⟨rfl,(by first | rfl | (simp only [↓hb29,bl]; done) | (simp only [↓hb29,bl]; rfl))⟩,trivial⟩
 conv=>whnf
 refine Tr.weak hw ?_
 refine Tr.ret ?_
 conv=>whnf
 cases h
 rfl
theorem P106 (n_1:Int) (r_2:Bool) (h:M106 n_1=some r_2) :
    PC prog 62 [(.i .i64 n_1)] (fun rs=>rs=[(.b r_2)]):=by
 refine PC.of_tr (cx:=⟨9,none,lay,0⟩) layOK func62 rfl rfl rfl rfl rfl (by simp [f62]) ?_
 unfold M106 at h
 refine sg ?_
 conv=>whnf
 refine sg ?_
 conv=>whnf
 refine cB h (fun hb3 h=>?_) (fun hb3 h=>?_)
 ·conv=>whnf
  refine Tr.ret ?_
  conv=>whnf
  cases h
  rfl
 conv=>whnf
 refine Tr.ret ?_
 conv=>whnf
 cases h
 rfl
theorem P107 (a_1:TSegment) (b_2:TSegment) (r_3:Bool) (h:M107 a_1 b_2=some r_3) :
    PC prog 63 [(eTSegment a_1),(eTSegment b_2)] (fun rs=>rs=[(.b r_3)]):=by
 refine PC.of_tr (cx:=⟨24,none,lay,0⟩) layOK func63 rfl rfl rfl rfl rfl (by simp [f63]) ?_
 unfold M107 at h
 refine sg ?_
 conv=>whnf
 refine sg ?_
 conv=>whnf
 refine cB h (fun hb4 h=>?_) (fun hb4 h=>?_)
 ·conv=>whnf
  refine Tr.ret ?_
  conv=>whnf
  cases h
  rfl
 conv=>whnf
 refine cB h (fun hb5 h=>?_) (fun hb5 h=>?_)
 ·conv=>whnf
  refine Tr.ret ?_
  conv=>whnf
  cases h
  rfl
 conv=>whnf
 refine Tr.ret ?_
 conv=>whnf
 cases h
 rfl
theorem P120 (k_1:TClocks) (r_2:Int) (h:M120 k_1=some r_2) :
    PC prog 41 [(eTClocks k_1)] (fun rs=>rs=[(.i .i64 r_2)]):=by
 refine PC.of_tr (cx:=⟨164,none,lay,0⟩) layOK func41 rfl rfl rfl rfl rfl (by simp [f41]) ?_
 unfold M120 at h
 refine sg ?_
 conv=>whnf
 refine sg ?_
 conv=>whnf
 refine lnS_map ?_
 conv=>whnf
 refine Tr.seq ?_
 refine sg ?_
 conv=>whnf
 refine cB h (fun hb3 h=>?_) (fun hb3 h=>?_)
 ·conv=>whnf
  refine Tr.cond ?_
  conv=>whnf
  refine sg ?_
  conv=>whnf
  refine Tr.ret ?_
  conv=>whnf
  cases h
  rfl
 conv=>whnf
 refine lnS_map ?_
 conv=>whnf
 refine arS_raw ?_
 conv=>whnf
 refine Tr.cond ?_
 conv=>whnf
 refine cB h (fun hb4 h=>?_) (fun hb4 h=>?_)
 ·refine sg ?_
  conv=>whnf
  refine Tr.ret ?_
  conv=>whnf
  cases h
  rfl
 refine Tr.skip ?_
 conv=>whnf
 refine Tr.seq ?_
 refine sg ?_
 conv=>whnf
 refine Tr.cutQ (α:=Unit) (fun s=>([(1,.pt 0 0),(2,(dI 0)),(3,(dI (((k_1.Segments).length:Int))))],[some (.var [.d (.ls (List.map eTSegment k_1.Segments)),.d (.ls (List.map (eL eI) k_1.Far))])])) (fun s=>M119 k_1 s=some r_2) ?_ ?_
 ·refine Tr.block ?_
  refine Tr.loopM (σ:=Int) (fun n s=>M108 k_1 (M119 k_1) n s) r_2 (fun s=>([(1,.pt 0 0),(2,(dI 0)),(3,(dI (((k_1.Segments).length:Int)))),(4,(dI s))],[some (.var [.d (.ls (List.map eTSegment k_1.Segments)),.d (.ls (List.map (eL eI) k_1.Far))])])) (((((k_1.Segments).length:Int)) - 0:Int).toNat+1) (0) h (fun s=>rfl) (Wk.mk2 [0] 1 rfl rfl (by decide) rfl ⟨rr,trivial⟩ ⟨rr,rr,rr,rr,trivial⟩) ?_
  clear h
  rintro n_7 i_6 h
  replace h:M108 k_1 (M119 k_1) (n_7+1) i_6=some r_2:=h
  rw [M108] at h
  refine Tr.seq ?_
  refine sg ?_
  conv=>whnf
  refine Tr.cond ?_
  conv=>whnf
  refine cB h (fun hb10 h=>?_) (fun hb10 h=>?_)
  ·refine Tr.skip ?_
   conv=>whnf
   refine Tr.seq ?_
   refine Tr.block ?_
   refine sg ?_
   conv=>whnf
   obtain ⟨x_11,hx_11,h⟩:=bS h
   refine ixP_of hx_11 ?_
   conv=>whnf
   refine Tr.seq ?_
   obtain ⟨v_12,hv13,h⟩:=bS h
   refine Tr.cutQ1 ([(1,.pt 0 0),(2,(dI 0)),(3,(dI (((k_1.Segments).length:Int)))),(4,(dI i_6)),(72,.d (.b v_12))]) ([some (.var [.d (.ls (List.map eTSegment k_1.Segments)),.d (.ls (List.map (eL eI) k_1.Far))])]) ?_ (fun T1 H1 hw=>?_)
   ·replace h:=hv13; clear hv13
    refine dq [] [(0,4),(1,4),(2,1),(3,1),(4,4),(5,4),(6,1),(7,1),(8,1),(9,4),(10,4),(11,1),(12,1),(13,1),(14,4),(15,4),(16,1),(17,1),(18,1),(19,4),(20,4),(21,1),(22,1),(23,1),(24,1),(25,1),(26,1),(27,1),(28,3),(29,3),(30,1),(31,1),(32,2),(33,2),(34,4),(35,1),(36,1),(37,1),(38,1)] ?_
    conv=>whnf
    refine q2 ?_
    conv=>whnf
    refine q2 ?_
    conv=>whnf
    refine q1 ?_
    conv=>whnf
    refine q1 ?_
    conv=>whnf
    refine cB h (fun hb14 h=>?_) (fun hb14 h=>?_)
    ·conv=>whnf
     refine q1 ?_
     conv=>whnf
     refine q1 ?_
     conv=>whnf
     refine q1 ?_
     conv=>whnf
     refine q1 ?_
     conv=>whnf
     refine q1 ?_
     conv=>whnf
     refine q1 ?_
     conv=>whnf
     refine q1 ?_
     conv=>whnf
     refine q1 ?_
     conv=>whnf
     refine q1 ?_
     conv=>whnf
     cases h
     exact Wk.mk2 [0] 2 rfl rfl (by decide) rfl ⟨rr,trivial⟩ ⟨rr,rr,rr,rr,rr,trivial⟩
    conv=>whnf
    refine q2 ?_
    conv=>whnf
    refine q2 ?_
    conv=>whnf
    refine q1 ?_
    conv=>whnf
    refine q1 ?_
    conv=>whnf
    refine q1 ?_
    conv=>whnf
    refine cB h (fun hb15 h=>?_) (fun hb15 h=>?_)
    ·conv=>whnf
     refine q1 ?_
     conv=>whnf
     refine q1 ?_
     conv=>whnf
     refine q1 ?_
     conv=>whnf
     refine q1 ?_
     conv=>whnf
     refine q1 ?_
     conv=>whnf
     refine q1 ?_
     conv=>whnf
     refine q1 ?_
     conv=>whnf
     cases h
     exact Wk.mk2 [0] 2 rfl rfl (by decide) rfl ⟨rr,trivial⟩ ⟨rr,rr,rr,rr,rr,trivial⟩
    conv=>whnf
    refine q2 ?_
    conv=>whnf
    refine q2 ?_
    conv=>whnf
    refine q1 ?_
    conv=>whnf
    refine q1 ?_
    conv=>whnf
    refine q1 ?_
    conv=>whnf
    refine cB h (fun hb16 h=>?_) (fun hb16 h=>?_)
    ·conv=>whnf
     refine q1 ?_
     conv=>whnf
     refine q1 ?_
     conv=>whnf
     refine q1 ?_
     conv=>whnf
     refine q1 ?_
     conv=>whnf
     refine q1 ?_
     conv=>whnf
     cases h
     exact Wk.mk2 [0] 2 rfl rfl (by decide) rfl ⟨rr,trivial⟩ ⟨rr,rr,rr,rr,rr,trivial⟩
    conv=>whnf
    refine q2 ?_
    conv=>whnf
    refine q2 ?_
    conv=>whnf
    refine q1 ?_
    conv=>whnf
    refine q1 ?_
    conv=>whnf
    refine q1 ?_
    conv=>whnf
    refine cB h (fun hb17 h=>?_) (fun hb17 h=>?_)
    ·conv=>whnf
     refine q1 ?_
     conv=>whnf
     refine q1 ?_
     conv=>whnf
     refine q1 ?_
     conv=>whnf
     cases h
     exact Wk.mk2 [0] 2 rfl rfl (by decide) rfl ⟨rr,trivial⟩ ⟨rr,rr,rr,rr,rr,trivial⟩
    conv=>whnf
    refine q2 ?_
    conv=>whnf
    refine q2 ?_
    conv=>whnf
    obtain ⟨r_18,hc19,h⟩:=bS h
    refine q1 ?_ (fun _=>pe (P106 x_11.Anchor r_18 hc19) rr)
    conv=>whnf
    refine q1 ?_
    conv=>whnf
    refine q1 ?_
    conv=>whnf
    refine q1 ?_
    conv=>whnf
    refine cB h (fun hb20 h=>?_) (fun hb20 h=>?_)
    ·conv=>whnf
     refine q1 ?_
     conv=>whnf
     cases h
     exact Wk.mk2 [0] 2 rfl rfl (by decide) rfl ⟨rr,trivial⟩ ⟨rr,rr,rr,rr,rr,trivial⟩
    conv=>whnf
    refine q1 ?_
    conv=>whnf
    refine q1 ?_
    conv=>whnf
    refine q1 ?_
    conv=>whnf
    refine cB h (fun hb21 h=>?_) (fun hb21 h=>?_)
    ·conv=>whnf
     refine q2 ?_
     conv=>whnf
     refine q2 ?_
     conv=>whnf
     refine q1 ?_
     conv=>whnf
     refine q4 ?_
     conv=>whnf
     obtain ⟨x_22,hx_22,h⟩:=bS h
     refine q3 (ixP_of hx_22 rr) ?_
     conv=>whnf
     refine q2 ?_
     conv=>whnf
     refine q2 ?_
     conv=>whnf
     obtain ⟨r_23,hc24,h⟩:=bS h
     refine q1 ?_ (fun _=>pe (P107 x_22 x_11 r_23 hc24) rr)
     conv=>whnf
     refine q1 ?_
     conv=>whnf
     refine q1 ?_
     conv=>whnf
     refine q1 ?_
     conv=>whnf
     cases h
     exact Wk.mk2 [0] 2 rfl rfl (by decide) rfl ⟨rr,trivial⟩ ⟨rr,rr,rr,rr,rr,trivial⟩
    conv=>whnf
    refine q1 ?_
    conv=>whnf
    refine q1 ?_
    conv=>whnf
    cases h
    exact Wk.mk2 [0] 2 rfl rfl (by decide) rfl ⟨rr,trivial⟩ ⟨rr,rr,rr,rr,rr,trivial⟩
   clear hv13
   conv=>whnf
   refine Tr.weak hw ?_
   refine Tr.cond ?_
   conv=>whnf
   refine cB h (fun hb25 h=>?_) (fun hb25 h=>?_)
   ·refine sg ?_
    conv=>whnf
    refine Tr.ret ?_
    conv=>whnf
    cases h
    rfl
   refine Tr.skip ?_
   conv=>whnf
   refine rg ?_
   conv=>whnf
   refine arS_raw ?_
   conv=>whnf
   refine ⟨((w64 (i_6+1))),h,?_⟩
   exact Wk.mk2 [0] 1 rfl rfl (by decide) rfl ⟨rr,trivial⟩ ⟨rr,rr,rr,rr,trivial⟩
  refine Tr.exit ?_
  conv=>whnf
  refine ⟨(),h,?_⟩
  exact Wk.mk2 [0] 1 rfl rfl (by decide) rfl ⟨rr,trivial⟩ ⟨rr,rr,rr,trivial⟩
 clear h
 rintro _ h T1 H1 hw
 replace h:M119 k_1 ()=some r_2:=h
 conv=>whnf
 refine Tr.weak hw ?_
 unfold M119 at h
 refine Tr.seq ?_
 refine sg ?_
 conv=>whnf
 refine Tr.cutQ (α:=Unit) (fun s=>([(1,.pt 0 0),(2,(dI 0)),(3,(dI (((k_1.Segments).length:Int))))],[some (.var [.d (.ls (List.map eTSegment k_1.Segments)),.d (.ls (List.map (eL eI) k_1.Far))])])) (fun s=>M118 k_1 s=some r_2) ?_ ?_
 ·refine Tr.block ?_
  refine Tr.loopM (σ:=Int) (fun n s=>M111 k_1 (M118 k_1) n s) r_2 (fun s=>([(1,.pt 0 0),(2,(dI 0)),(3,(dI (((k_1.Segments).length:Int)))),(6,(dI s))],[some (.var [.d (.ls (List.map eTSegment k_1.Segments)),.d (.ls (List.map (eL eI) k_1.Far))])])) (((((k_1.Segments).length:Int))+1 - 0:Int).toNat+1) (0) h (fun s=>rfl) (Wk.mk2 [0] 1 rfl rfl (by decide) rfl ⟨rr,trivial⟩ ⟨rr,rr,rr,rr,trivial⟩) ?_
  clear h
  rintro n_28 i_27 h
  replace h:M111 k_1 (M118 k_1) (n_28+1) i_27=some r_2:=h
  rw [M111] at h
  refine Tr.seq ?_
  refine sg ?_
  conv=>whnf
  refine Tr.cond ?_
  conv=>whnf
  refine cB h (fun hb31 h=>?_) (fun hb31 h=>?_)
  ·refine Tr.skip ?_
   conv=>whnf
   refine Tr.seq ?_
   refine Tr.block ?_
   refine Tr.seq ?_
   refine sg ?_
   conv=>whnf
   obtain ⟨x_32,hx_32,h⟩:=bS h
   refine ixP_of hx_32 ?_
   conv=>whnf
   refine lnS_map ?_
   conv=>whnf
   refine arS_raw ?_
   conv=>whnf
   refine cB h (fun hb33 h=>?_) (fun hb33 h=>?_)
   ·conv=>whnf
    refine Tr.cond ?_
    conv=>whnf
    refine sg ?_
    conv=>whnf
    refine Tr.ret ?_
    conv=>whnf
    cases h
    rfl
   conv=>whnf
   obtain ⟨x_34,hx_34,h⟩:=bS h
   refine ixP_of hx_34 ?_
   conv=>whnf
   obtain ⟨x_35,hx_35,h⟩:=bS h
   refine ixP_of hx_35 ?_
   conv=>whnf
   refine Tr.cond ?_
   conv=>whnf
   refine cB h (fun hb36 h=>?_) (fun hb36 h=>?_)
   ·refine sg ?_
    conv=>whnf
    refine Tr.ret ?_
    conv=>whnf
    cases h
    rfl
   refine Tr.skip ?_
   conv=>whnf
   refine sg ?_
   conv=>whnf
   refine Tr.cutQ (α:=Unit) (fun s=>([(1,.pt 0 0),(2,(dI 0)),(3,(dI (((k_1.Segments).length:Int)))),(6,(dI i_27))],[some (.var [.d (.ls (List.map eTSegment k_1.Segments)),.d (.ls (List.map (eL eI) k_1.Far))])])) (fun s=>M110 i_27 (M111 k_1 (M118 k_1) n_28) s=some r_2) ?_ ?_
   ·refine Tr.block ?_
    refine Tr.loopM (σ:=Int) (fun n s=>M109 k_1 i_27 (M110 i_27 (M111 k_1 (M118 k_1) n_28)) n s) r_2 (fun s=>([(1,.pt 0 0),(2,(dI 0)),(3,(dI (((k_1.Segments).length:Int)))),(6,(dI i_27)),(7,(dI s))],[some (.var [.d (.ls (List.map eTSegment k_1.Segments)),.d (.ls (List.map (eL eI) k_1.Far))])])) (((((k_1.Segments).length:Int))+1 - 0:Int).toNat+1) (0) h (fun s=>rfl) (Wk.mk2 [0] 1 rfl rfl (by decide) rfl ⟨rr,trivial⟩ ⟨rr,rr,rr,rr,rr,trivial⟩) ?_
    clear h
    rintro n_39 j_38 h
    replace h:M109 k_1 i_27 (M110 i_27 (M111 k_1 (M118 k_1) n_28)) (n_39+1) j_38=some r_2:=h
    rw [M109] at h
    refine Tr.seq ?_
    refine sg ?_
    conv=>whnf
    refine Tr.cond ?_
    conv=>whnf
    refine cB h (fun hb42 h=>?_) (fun hb42 h=>?_)
    ·refine Tr.skip ?_
     conv=>whnf
     refine Tr.seq ?_
     refine Tr.block ?_
     refine sg ?_
     conv=>whnf
     obtain ⟨x_43,hx_43,h⟩:=bS h
     refine ixP_of hx_43 ?_
     conv=>whnf
     obtain ⟨x_44,hx_44,h⟩:=bS h
     refine ixP_of hx_44 ?_
     conv=>whnf
     refine cB h (fun hb45 h=>?_) (fun hb45 h=>?_)
     ·conv=>whnf
      refine Tr.cond ?_
      conv=>whnf
      refine sg ?_
      conv=>whnf
      refine Tr.ret ?_
      conv=>whnf
      cases h
      rfl
     conv=>whnf
     obtain ⟨x_46,hx_46,h⟩:=bS h
     refine ixP_of hx_46 ?_
     conv=>whnf
     obtain ⟨x_47,hx_47,h⟩:=bS h
     refine ixP_of hx_47 ?_
     conv=>whnf
     refine Tr.cond ?_
     conv=>whnf
     refine cB h (fun hb48 h=>?_) (fun hb48 h=>?_)
     ·refine sg ?_
      conv=>whnf
      refine Tr.ret ?_
      conv=>whnf
      cases h
      rfl
     refine Tr.skip ?_
     conv=>whnf
     refine rg ?_
     conv=>whnf
     refine arS_raw ?_
     conv=>whnf
     refine ⟨((w64 (j_38+1))),h,?_⟩
     exact Wk.mk2 [0] 1 rfl rfl (by decide) rfl ⟨rr,trivial⟩ ⟨rr,rr,rr,rr,rr,trivial⟩
    refine Tr.exit ?_
    conv=>whnf
    refine ⟨(),h,?_⟩
    exact Wk.mk2 [0] 1 rfl rfl (by decide) rfl ⟨rr,trivial⟩ ⟨rr,rr,rr,rr,trivial⟩
   clear h
   rintro _ h T1 H1 hw
   replace h:M110 i_27 (M111 k_1 (M118 k_1) n_28) ()=some r_2:=h
   conv=>whnf
   refine Tr.weak hw ?_
   unfold M110 at h
   refine rg ?_
   conv=>whnf
   refine arS_raw ?_
   conv=>whnf
   refine ⟨((w64 (i_27+1))),h,?_⟩
   exact Wk.mk2 [0] 1 rfl rfl (by decide) rfl ⟨rr,trivial⟩ ⟨rr,rr,rr,rr,trivial⟩
  refine Tr.exit ?_
  conv=>whnf
  refine ⟨(),h,?_⟩
  exact Wk.mk2 [0] 1 rfl rfl (by decide) rfl ⟨rr,trivial⟩ ⟨rr,rr,rr,trivial⟩
 clear h
 rintro _ h T1 H1 hw
 replace h:M118 k_1 ()=some r_2:=h
 conv=>whnf
 refine Tr.weak hw ?_
 unfold M118 at h
 refine Tr.seq ?_
 refine sg ?_
 conv=>whnf
 refine Tr.cutQ (α:=Unit) (fun s=>([(2,(dI 0))],[])) (fun s=>M117 s=some r_2) ?_ ?_
 ·refine Tr.block ?_
  refine Tr.loopM (σ:=Int) (fun n s=>M116 k_1 M117 n s) r_2 (fun s=>([(1,.pt 0 0),(2,(dI 0)),(3,(dI (((k_1.Segments).length:Int)))),(8,(dI s))],[some (.var [.d (.ls (List.map eTSegment k_1.Segments)),.d (.ls (List.map (eL eI) k_1.Far))])])) (((((k_1.Segments).length:Int))+1 - 0:Int).toNat+1) (0) h (fun s=>rfl) (Wk.mk2 [0] 1 rfl rfl (by decide) rfl ⟨rr,trivial⟩ ⟨rr,rr,rr,rr,trivial⟩) ?_
  clear h
  rintro n_51 i_50 h
  replace h:M116 k_1 M117 (n_51+1) i_50=some r_2:=h
  rw [M116] at h
  refine Tr.seq ?_
  refine sg ?_
  conv=>whnf
  refine Tr.cond ?_
  conv=>whnf
  refine cB h (fun hb54 h=>?_) (fun hb54 h=>?_)
  ·refine Tr.skip ?_
   conv=>whnf
   refine Tr.seq ?_
   refine Tr.block ?_
   refine sg ?_
   conv=>whnf
   refine Tr.cutQ (α:=Unit) (fun s=>([(1,.pt 0 0),(2,(dI 0)),(3,(dI (((k_1.Segments).length:Int)))),(8,(dI i_50))],[some (.var [.d (.ls (List.map eTSegment k_1.Segments)),.d (.ls (List.map (eL eI) k_1.Far))])])) (fun s=>M115 i_50 (M116 k_1 M117 n_51) s=some r_2) ?_ ?_
   ·refine Tr.block ?_
    refine Tr.loopM (σ:=Int) (fun n s=>M114 k_1 i_50 (M115 i_50 (M116 k_1 M117 n_51)) n s) r_2 (fun s=>([(1,.pt 0 0),(2,(dI 0)),(3,(dI (((k_1.Segments).length:Int)))),(8,(dI i_50)),(9,(dI s))],[some (.var [.d (.ls (List.map eTSegment k_1.Segments)),.d (.ls (List.map (eL eI) k_1.Far))])])) (((((k_1.Segments).length:Int))+1 - 0:Int).toNat+1) (0) h (fun s=>rfl) (Wk.mk2 [0] 1 rfl rfl (by decide) rfl ⟨rr,trivial⟩ ⟨rr,rr,rr,rr,rr,trivial⟩) ?_
    clear h
    rintro n_57 j_56 h
    replace h:M114 k_1 i_50 (M115 i_50 (M116 k_1 M117 n_51)) (n_57+1) j_56=some r_2:=h
    rw [M114] at h
    refine Tr.seq ?_
    refine sg ?_
    conv=>whnf
    refine Tr.cond ?_
    conv=>whnf
    refine cB h (fun hb60 h=>?_) (fun hb60 h=>?_)
    ·refine Tr.skip ?_
     conv=>whnf
     refine Tr.seq ?_
     refine Tr.block ?_
     refine sg ?_
     conv=>whnf
     refine Tr.cutQ (α:=Unit) (fun s=>([(1,.pt 0 0),(2,(dI 0)),(3,(dI (((k_1.Segments).length:Int)))),(8,(dI i_50)),(9,(dI j_56))],[some (.var [.d (.ls (List.map eTSegment k_1.Segments)),.d (.ls (List.map (eL eI) k_1.Far))])])) (fun s=>M113 j_56 (M114 k_1 i_50 (M115 i_50 (M116 k_1 M117 n_51)) n_57) s=some r_2) ?_ ?_
     ·refine Tr.block ?_
      refine Tr.loopM (σ:=Int) (fun n s=>M112 k_1 i_50 j_56 (M113 j_56 (M114 k_1 i_50 (M115 i_50 (M116 k_1 M117 n_51)) n_57)) n s) r_2 (fun s=>([(1,.pt 0 0),(2,(dI 0)),(3,(dI (((k_1.Segments).length:Int)))),(8,(dI i_50)),(9,(dI j_56)),(10,(dI s))],[some (.var [.d (.ls (List.map eTSegment k_1.Segments)),.d (.ls (List.map (eL eI) k_1.Far))])])) (((((k_1.Segments).length:Int))+1 - 0:Int).toNat+1) (0) h (fun s=>rfl) (Wk.mk2 [0] 1 rfl rfl (by decide) rfl ⟨rr,trivial⟩ ⟨rr,rr,rr,rr,rr,rr,trivial⟩) ?_
      clear h
      rintro n_63 m_62 h
      replace h:M112 k_1 i_50 j_56 (M113 j_56 (M114 k_1 i_50 (M115 i_50 (M116 k_1 M117 n_51)) n_57)) (n_63+1) m_62=some r_2:=h
      rw [M112] at h
      refine Tr.seq ?_
      refine sg ?_
      conv=>whnf
      refine Tr.cond ?_
      conv=>whnf
      refine cB h (fun hb66 h=>?_) (fun hb66 h=>?_)
      ·refine Tr.skip ?_
       conv=>whnf
       refine Tr.seq ?_
       refine Tr.block ?_
       refine sd [] [(0,3),(1,3),(2,1),(3,2),(4,2),(5,1),(6,2),(7,2),(8,3),(9,3),(10,1),(11,2),(12,2),(13,1),(14,2),(15,2),(16,3),(17,3),(18,1),(19,2),(20,2),(21,1),(22,2),(23,2),(24,1),(25,1)] ?_
       conv=>whnf
       refine q2 ?_
       conv=>whnf
       refine q2 ?_
       conv=>whnf
       refine q1 ?_
       conv=>whnf
       obtain ⟨x_67,hx_67,h⟩:=bS h
       refine q3 (ixP_of hx_67 rr) ?_
       conv=>whnf
       refine q2 ?_
       conv=>whnf
       refine q1 ?_
       conv=>whnf
       obtain ⟨x_68,hx_68,h⟩:=bS h
       refine q3 (ixP_of hx_68 rr) ?_
       conv=>whnf
       refine q2 ?_
       conv=>whnf
       refine q2 ?_
       conv=>whnf
       refine q2 ?_
       conv=>whnf
       refine q1 ?_
       conv=>whnf
       obtain ⟨x_69,hx_69,h⟩:=bS h
       refine q3 (ixP_of hx_69 rr) ?_
       conv=>whnf
       refine q2 ?_
       conv=>whnf
       refine q1 ?_
       conv=>whnf
       obtain ⟨x_70,hx_70,h⟩:=bS h
       refine q3 (ixP_of hx_70 rr) ?_
       conv=>whnf
       refine q2 ?_
       conv=>whnf
       refine q2 ?_
       conv=>whnf
       refine q2 ?_
       conv=>whnf
       refine q1 ?_
       conv=>whnf
       obtain ⟨x_71,hx_71,h⟩:=bS h
       refine q3 (ixP_of hx_71 rr) ?_
       conv=>whnf
       refine q2 ?_
       conv=>whnf
       refine q1 ?_
       conv=>whnf
       obtain ⟨x_72,hx_72,h⟩:=bS h
       refine q3 (ixP_of hx_72 rr) ?_
       conv=>whnf
       refine q2 ?_
       conv=>whnf
       refine q4 ?_
       conv=>whnf
       refine q1 ?_
       conv=>whnf
       refine Tr.cond ?_
       conv=>whnf
       refine cB h (fun hb73 h=>?_) (fun hb73 h=>?_)
       ·refine sg ?_
        conv=>whnf
        refine Tr.ret ?_
        conv=>whnf
        cases h
        rfl
       refine Tr.skip ?_
       conv=>whnf
       refine rg ?_
       conv=>whnf
       refine arS_raw ?_
       conv=>whnf
       refine ⟨((w64 (m_62+1))),h,?_⟩
       exact Wk.mk2 [0] 1 rfl rfl (by decide) rfl ⟨rr,trivial⟩ ⟨rr,rr,rr,rr,rr,rr,trivial⟩
      refine Tr.exit ?_
      conv=>whnf
      refine ⟨(),h,?_⟩
      exact Wk.mk2 [0] 1 rfl rfl (by decide) rfl ⟨rr,trivial⟩ ⟨rr,rr,rr,rr,rr,trivial⟩
     clear h
     rintro _ h T1 H1 hw
     replace h:M113 j_56 (M114 k_1 i_50 (M115 i_50 (M116 k_1 M117 n_51)) n_57) ()=some r_2:=h
     conv=>whnf
     refine Tr.weak hw ?_
     unfold M113 at h
     refine rg ?_
     conv=>whnf
     refine arS_raw ?_
     conv=>whnf
     refine ⟨((w64 (j_56+1))),h,?_⟩
     exact Wk.mk2 [0] 1 rfl rfl (by decide) rfl ⟨rr,trivial⟩ ⟨rr,rr,rr,rr,rr,trivial⟩
    refine Tr.exit ?_
    conv=>whnf
    refine ⟨(),h,?_⟩
    exact Wk.mk2 [0] 1 rfl rfl (by decide) rfl ⟨rr,trivial⟩ ⟨rr,rr,rr,rr,trivial⟩
   clear h
   rintro _ h T1 H1 hw
   replace h:M115 i_50 (M116 k_1 M117 n_51) ()=some r_2:=h
   conv=>whnf
   refine Tr.weak hw ?_
   unfold M115 at h
   refine rg ?_
   conv=>whnf
   refine arS_raw ?_
   conv=>whnf
   refine ⟨((w64 (i_50+1))),h,?_⟩
   exact Wk.mk2 [0] 1 rfl rfl (by decide) rfl ⟨rr,trivial⟩ ⟨rr,rr,rr,rr,trivial⟩
  refine Tr.exit ?_
  conv=>whnf
  refine ⟨(),h,?_⟩
  exact Wk.mk2 [] 1 rfl rfl (by decide) rfl trivial ⟨rr,trivial⟩
 clear h
 rintro _ h T1 H1 hw
 replace h:M117 ()=some r_2:=h
 conv=>whnf
 refine Tr.weak hw ?_
 unfold M117 at h
 refine sg ?_
 conv=>whnf
 refine Tr.ret ?_
 conv=>whnf
 cases h
 rfl
theorem P121 (n_1:Int) (least_2:Int) (most_3:Int) (r_4:Bool) (h:M121 n_1 least_2 most_3=some r_4) :
    PC prog 64 [(.i .i64 n_1),(.i .i64 least_2),(.i .i64 most_3)] (fun rs=>rs=[(.b r_4)]):=by
 refine PC.of_tr (cx:=⟨15,none,lay,0⟩) layOK func64 rfl rfl rfl rfl rfl (by simp [f64]) ?_
 unfold M121 at h
 refine sg ?_
 conv=>whnf
 refine sg ?_
 conv=>whnf
 refine cB h (fun hb5 h=>?_) (fun hb5 h=>?_)
 ·conv=>whnf
  refine Tr.ret ?_
  conv=>whnf
  cases h
  rfl
 conv=>whnf
 refine Tr.ret ?_
 conv=>whnf
 cases h
 rfl
theorem P122 (n_1:Int) (r_2:Bool) (h:M122 n_1=some r_2) :
    PC prog 42 [(.i .i64 n_1)] (fun rs=>rs=[(.b r_2)]):=by
 refine PC.of_tr (cx:=⟨5,none,lay,0⟩) layOK func42 rfl rfl rfl rfl rfl (by simp [f42]) ?_
 unfold M122 at h
 refine sg ?_
 conv=>whnf
 refine sg ?_
 conv=>whnf
 obtain ⟨r_3,hc4,h⟩:=bS h
 refine PC.ecall (P121 n_1 1 9999 r_3 hc4) (fun rs hrs=>?_)
 subst hrs
 conv=>whnf
 refine Tr.ret ?_
 conv=>whnf
 cases h
 rfl
theorem P123 (k_1:TClocks) (x_2:TOutcome) (r_3:Int) (h:M123 k_1 x_2=some r_3) :
    PC prog 43 [(eTClocks k_1),(eTOutcome x_2)] (fun rs=>rs=[(.i .i64 r_3)]):=by
 refine PC.of_tr (cx:=⟨63,none,lay,0⟩) layOK func43 rfl rfl rfl rfl rfl (by simp [f43]) ?_
 unfold M123 at h
 refine sg ?_
 conv=>whnf
 refine sg ?_
 conv=>whnf
 obtain ⟨r_4,hc5,h⟩:=bS h
 refine PC.ecall (P120 k_1 r_4 hc5) (fun rs hrs=>?_)
 subst hrs
 conv=>whnf
 refine Tr.seq ?_
 refine sg ?_
 conv=>whnf
 refine Tr.cond ?_
 conv=>whnf
 refine cB h (fun hb6 h=>?_) (fun hb6 h=>?_)
 ·refine sg ?_
  conv=>whnf
  refine Tr.ret ?_
  conv=>whnf
  cases h
  rfl
 refine Tr.skip ?_
 conv=>whnf
 refine Tr.seq ?_
 refine Tr.seq ?_
 refine Tr.cutQ1 ([(4,(dI 0)),(62,.d (.b (bif x_2.Out then ((x_2.Seg != (-1)) || ((x_2.Lo != 0) || (x_2.Hi != 0))) else ((decide (x_2.Seg < (-1))) || ((decide (x_2.Seg≥(((k_1.Segments).length:Int)))) || ((decide (x_2.Lo < (-288230376151711744))) || ((decide (x_2.Lo > x_2.Hi)) || (decide (x_2.Hi > 288230376151711744)))))))))]) ([]) ?_ (fun T1 H1 hw=>?_)
 ·refine rg ?_
  conv=>whnf
  refine condS_mk (fun hb8=>?_) (fun hb8=>?_)
  ·conv=>whnf
   refine condS_mk (fun hb9=>?_) (fun hb9=>?_)
   ·conv=>whnf
    exact Wk.mk2 [] 2 rfl rfl (by decide) rfl trivial ⟨rr,⟨rfl,(by first | rfl | (simp only [↓hb6,↓hb8,↓hb9,bl]; done) | (simp only [↓hb6,↓hb8,↓hb9,bl]; rfl))⟩,trivial⟩
   conv=>whnf
   refine condS_mk (fun hb10=>?_) (fun hb10=>?_)
   ·conv=>whnf
    exact Wk.mk2 [] 2 rfl rfl (by decide) rfl trivial ⟨rr,⟨rfl,(by first | rfl | (simp only [↓hb6,↓hb8,↓hb9,↓hb10,bl]; done) | (simp only [↓hb6,↓hb8,↓hb9,↓hb10,bl]; rfl))⟩,trivial⟩
   conv=>whnf
   refine condS_mk (fun hb11=>?_) (fun hb11=>?_)
   ·conv=>whnf
    exact Wk.mk2 [] 2 rfl rfl (by decide) rfl trivial ⟨rr,⟨rfl,(by first | rfl | (simp only [↓hb6,↓hb8,↓hb9,↓hb10,↓hb11,bl]; done) | (simp only [↓hb6,↓hb8,↓hb9,↓hb10,↓hb11,bl]; rfl))⟩,trivial⟩
   conv=>whnf
   refine condS_kf (by rw [hb8]; rfl) ?_
   conv=>whnf
   exact Wk.mk2 [] 2 rfl rfl (by decide) rfl trivial ⟨rr,⟨rfl,(by first | rfl | (simp only [↓hb6,↓hb8,↓hb9,↓hb10,↓hb11,bl]; done) | (simp only [↓hb6,↓hb8,↓hb9,↓hb10,↓hb11,bl]; rfl))⟩,trivial⟩
  conv=>whnf
  refine condS_kt (by rw [hb8]; rfl) ?_
  conv=>whnf
  refine condS_mk (fun hb12=>?_) (fun hb12=>?_)
  ·conv=>whnf
   exact Wk.mk2 [] 2 rfl rfl (by decide) rfl trivial ⟨rr,⟨rfl,(by first | rfl | (simp only [↓hb6,↓hb8,↓hb12,bl]; done) | (simp only [↓hb6,↓hb8,↓hb12,bl]; rfl))⟩,trivial⟩
  conv=>whnf
  refine lnS_map ?_
  conv=>whnf
  refine condS_mk (fun hb13=>?_) (fun hb13=>?_)
  ·conv=>whnf
   exact Wk.mk2 [] 2 rfl rfl (by decide) rfl trivial ⟨rr,⟨rfl,(by first | rfl | (simp only [↓hb6,↓hb8,↓hb12,↓hb13,bl]; done) | (simp only [↓hb6,↓hb8,↓hb12,↓hb13,bl]; rfl))⟩,trivial⟩
  conv=>whnf
  refine condS_mk (fun hb14=>?_) (fun hb14=>?_)
  ·conv=>whnf
   exact Wk.mk2 [] 2 rfl rfl (by decide) rfl trivial ⟨rr,⟨rfl,(by first | rfl | (simp only [↓hb6,↓hb8,↓hb12,↓hb13,↓hb14,bl]; done) | (simp only [↓hb6,↓hb8,↓hb12,↓hb13,↓hb14,bl]; rfl))⟩,trivial⟩
  conv=>whnf
  refine condS_mk (fun hb15=>?_) (fun hb15=>?_)
  ·conv=>whnf
   exact Wk.mk2 [] 2 rfl rfl (by decide) rfl trivial ⟨rr,⟨rfl,(by first | rfl | (simp only [↓hb6,↓hb8,↓hb12,↓hb13,↓hb14,↓hb15,bl]; done) | (simp only [↓hb6,↓hb8,↓hb12,↓hb13,↓hb14,↓hb15,bl]; rfl))⟩,trivial⟩
  conv=>whnf
  exact Wk.mk2 [] 2 rfl rfl (by decide) rfl trivial ⟨rr,⟨rfl,(by first | rfl | (simp only [↓hb6,↓hb8,↓hb12,↓hb13,↓hb14,↓hb15,bl]; done) | (simp only [↓hb6,↓hb8,↓hb12,↓hb13,↓hb14,↓hb15,bl]; rfl))⟩,trivial⟩
 conv=>whnf
 refine Tr.weak hw ?_
 refine Tr.cond ?_
 conv=>whnf
 refine cB h (fun hb16 h=>?_) (fun hb16 h=>?_)
 ·refine sg ?_
  conv=>whnf
  refine Tr.ret ?_
  conv=>whnf
  cases h
  rfl
 refine Tr.skip ?_
 conv=>whnf
 refine sg ?_
 conv=>whnf
 refine Tr.ret ?_
 conv=>whnf
 cases h
 rfl
theorem P126 (f_1:TField) (world_2:Int) (r_3:Bool) (h:M126 f_1 world_2=some r_3) :
    PC prog 65 [(eTField f_1),(.i .i64 world_2)] (fun rs=>rs=[(.b r_3)]):=by
 refine PC.of_tr (cx:=⟨39,none,lay,0⟩) layOK func65 rfl rfl rfl rfl rfl (by simp [f65]) ?_
 unfold M126 at h
 refine sg ?_
 conv=>whnf
 refine Tr.seq ?_
 refine sg ?_
 conv=>whnf
 refine Tr.cutQ (α:=Unit) (fun s=>([(4,.d (.b false))],[])) (fun s=>M125 s=some r_3) ?_ ?_
 ·refine Tr.block ?_
  refine Tr.loopM (σ:=Int) (fun n s=>M124 f_1 world_2 M125 n s) r_3 (fun s=>([(1,(dI world_2)),(2,.pt 0 0),(4,.d (.b false)),(5,(dI s))],[some (.var [.d (.ls (List.map eTSegment f_1.Clocks.Segments)),.d (.ls (List.map (eL eI) f_1.Clocks.Far)),.d (.ls (List.map eTPair f_1.Pairs)),.d (.ls (List.map eTRunner f_1.Runners))])])) (((((f_1.Runners).length:Int)) - 0:Int).toNat+1) (0) h (fun s=>rfl) (Wk.mk2 [0] 1 rfl rfl (by decide) rfl ⟨rr,trivial⟩ ⟨rr,rr,rr,rr,trivial⟩) ?_
  clear h
  rintro n_6 i_5 h
  replace h:M124 f_1 world_2 M125 (n_6+1) i_5=some r_3:=h
  rw [M124] at h
  refine Tr.seq ?_
  refine sg ?_
  conv=>whnf
  refine lnS_map ?_
  conv=>whnf
  refine Tr.cond ?_
  conv=>whnf
  refine cB h (fun hb9 h=>?_) (fun hb9 h=>?_)
  ·refine Tr.skip ?_
   conv=>whnf
   refine Tr.seq ?_
   refine Tr.block ?_
   refine sg ?_
   conv=>whnf
   refine cB h (fun hb10 h=>?_) (fun hb10 h=>?_)
   ·conv=>whnf
    refine Tr.cond ?_
    conv=>whnf
    refine sg ?_
    conv=>whnf
    refine Tr.ret ?_
    conv=>whnf
    cases h
    rfl
   conv=>whnf
   obtain ⟨x_11,hx_11,h⟩:=bS h
   refine ixP_of hx_11 ?_
   conv=>whnf
   refine lnS_map ?_
   conv=>whnf
   refine cB h (fun hb12 h=>?_) (fun hb12 h=>?_)
   ·conv=>whnf
    refine Tr.cond ?_
    conv=>whnf
    refine sg ?_
    conv=>whnf
    refine Tr.ret ?_
    conv=>whnf
    cases h
    rfl
   conv=>whnf
   obtain ⟨x_13,hx_13,h⟩:=bS h
   refine ixP_of hx_13 ?_
   conv=>whnf
   obtain ⟨x_14,hx_14,h⟩:=bS h
   refine ixP_of hx_14 ?_
   conv=>whnf
   refine lnS_map ?_
   conv=>whnf
   refine Tr.cond ?_
   conv=>whnf
   refine cB h (fun hb15 h=>?_) (fun hb15 h=>?_)
   ·refine sg ?_
    conv=>whnf
    refine Tr.ret ?_
    conv=>whnf
    cases h
    rfl
   refine Tr.skip ?_
   conv=>whnf
   refine rg ?_
   conv=>whnf
   refine arS_raw ?_
   conv=>whnf
   refine ⟨((w64 (i_5+1))),h,?_⟩
   exact Wk.mk2 [0] 1 rfl rfl (by decide) rfl ⟨rr,trivial⟩ ⟨rr,rr,rr,rr,trivial⟩
  refine Tr.exit ?_
  conv=>whnf
  refine ⟨(),h,?_⟩
  exact Wk.mk2 [] 1 rfl rfl (by decide) rfl trivial ⟨rr,trivial⟩
 clear h
 rintro _ h T1 H1 hw
 replace h:M125 ()=some r_3:=h
 conv=>whnf
 refine Tr.weak hw ?_
 unfold M125 at h
 refine sg ?_
 conv=>whnf
 refine Tr.ret ?_
 conv=>whnf
 cases h
 rfl
theorem P129 (f_1:TField) (r_2:Bool) (h:M129 f_1=some r_2) :
    PC prog 44 [(eTField f_1)] (fun rs=>rs=[(.b r_2)]):=by
 refine PC.of_tr (cx:=⟨14,none,lay,0⟩) layOK func44 rfl rfl rfl rfl rfl (by simp [f44]) ?_
 unfold M129 at h
 refine sg ?_
 conv=>whnf
 refine Tr.seq ?_
 refine sg ?_
 conv=>whnf
 refine Tr.cutQ (α:=Unit) (fun s=>([(2,.d (.b false))],[])) (fun s=>M128 s=some r_2) ?_ ?_
 ·refine Tr.block ?_
  refine Tr.loopM (σ:=Int) (fun n s=>M127 f_1 M128 n s) r_2 (fun s=>([(1,.pt 0 0),(2,.d (.b false)),(3,(dI s))],[some (.var [.d (.ls (List.map eTSegment f_1.Clocks.Segments)),.d (.ls (List.map (eL eI) f_1.Clocks.Far)),.d (.ls (List.map eTPair f_1.Pairs)),.d (.ls (List.map eTRunner f_1.Runners))])])) (((((f_1.Pairs).length:Int))+1 - 0:Int).toNat+1) (0) h (fun s=>rfl) (Wk.mk2 [0] 1 rfl rfl (by decide) rfl ⟨rr,trivial⟩ ⟨rr,rr,rr,trivial⟩) ?_
  clear h
  rintro n_5 w_4 h
  replace h:M127 f_1 M128 (n_5+1) w_4=some r_2:=h
  rw [M127] at h
  refine Tr.seq ?_
  refine sg ?_
  conv=>whnf
  refine lnS_map ?_
  conv=>whnf
  refine Tr.cond ?_
  conv=>whnf
  refine cB h (fun hb8 h=>?_) (fun hb8 h=>?_)
  ·refine Tr.skip ?_
   conv=>whnf
   refine Tr.seq ?_
   refine Tr.block ?_
   refine sg ?_
   conv=>whnf
   obtain ⟨r_9,hc10,h⟩:=bS h
   refine PC.ecall (P126 f_1 w_4 r_9 hc10) (fun rs hrs=>?_)
   subst hrs
   conv=>whnf
   refine Tr.cond ?_
   conv=>whnf
   refine cB h (fun hb11 h=>?_) (fun hb11 h=>?_)
   ·refine sg ?_
    conv=>whnf
    refine Tr.ret ?_
    conv=>whnf
    cases h
    rfl
   refine Tr.skip ?_
   conv=>whnf
   refine rg ?_
   conv=>whnf
   refine arS_raw ?_
   conv=>whnf
   refine ⟨((w64 (w_4+1))),h,?_⟩
   exact Wk.mk2 [0] 1 rfl rfl (by decide) rfl ⟨rr,trivial⟩ ⟨rr,rr,rr,trivial⟩
  refine Tr.exit ?_
  conv=>whnf
  refine ⟨(),h,?_⟩
  exact Wk.mk2 [] 1 rfl rfl (by decide) rfl trivial ⟨rr,trivial⟩
 clear h
 rintro _ h T1 H1 hw
 replace h:M128 ()=some r_2:=h
 conv=>whnf
 refine Tr.weak hw ?_
 unfold M128 at h
 refine sg ?_
 conv=>whnf
 refine Tr.ret ?_
 conv=>whnf
 cases h
 rfl
end Go.Proofs.Try
