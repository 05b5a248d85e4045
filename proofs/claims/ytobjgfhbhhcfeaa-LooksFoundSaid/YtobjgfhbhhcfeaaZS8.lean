/- Contracts of functions, by program (gen.py). No condition. -/
import Derived.Test.YtobjgfhbhhcfeaaZL
import Derived.Test.YtobjgfhbhhcfeaaZM
import Derived.Test.YtobjgfhbhhcfeaaZCB
import Derived.Test.YtobjgfhbhhcfeaaZS7
namespace Go.Proofs.Try
open Go Go.Abs Go.Stop
set_option maxRecDepth 8000
set_option linter.unusedVariables false
set_option linter.unusedSimpArgs false
theorem P260 (q_1:TQuestion) (p_2:TPlan) (h_3:THistory) (most_4:Int) (r_5:TQuestion) (r_6:Bool) (h:M260 q_1 p_2 h_3 most_4=some (r_5,r_6)) :
    PC prog 29 [(eTQuestion q_1),(eTPlan p_2),(eTHistory h_3),(.i .i64 most_4)] (fun rs=>rs=[(eTQuestion r_5),(.b r_6)]):=by
 refine PC.of_tr (cx:=⟨106,none,lay,0⟩) layOK func29 rfl rfl rfl rfl rfl (by simp [f29]) ?_
 unfold M260 at h
 refine sg ?_
 conv=>whnf
 refine Tr.seq ?_
 refine sg ?_
 conv=>whnf
 refine arS_raw ?_
 conv=>whnf
 refine Tr.cutQ (α:=List TSegment × List (List Int) × List TPair × List TRunner × Int × List TLook) (fun s=>([(4,.pt 0 0),(8,.pt 1 0),(9,.d (.b false))],[some (.var [.d (.ls (List.map eTSegment s.1)),.d (.ls (List.map (eL eI) s.2.1)),.d (.ls (List.map eTPair s.2.2.1)),.d (.ls (List.map eTRunner s.2.2.2.1)),(dI s.2.2.2.2.1),.d (.ls (List.map eTLook s.2.2.2.2.2))]),some (.var [.nsl,.nsl,.nsl,.nsl,(dI 0),.nsl])])) (fun s=>M259 s.1 s.2.1 s.2.2.1 s.2.2.2.1 s.2.2.2.2.1 s.2.2.2.2.2=some (r_5,r_6)) ?_ ?_
 ·refine Tr.block ?_
  refine Tr.loopM (σ:=Int × List TSegment × List (List Int) × List TPair × List TRunner × Int × List TLook × Int × List TPlan0) (fun n s=>M258 h_3 most_4 M259 n s.1 s.2.1 s.2.2.1 s.2.2.2.1 s.2.2.2.2.1 s.2.2.2.2.2.1 s.2.2.2.2.2.2.1 s.2.2.2.2.2.2.2.1 s.2.2.2.2.2.2.2.2) (r_5,r_6) (fun s=>([(4,.pt 0 0),(5,.pt 1 0),(6,.pt 2 0),(8,.pt 3 0),(9,.d (.b false)),(18,(dI (w64 (most_4+1)))),(19,(dI s.1))],[some (.var [.d (.ls (List.map eTSegment s.2.1)),.d (.ls (List.map (eL eI) s.2.2.1)),.d (.ls (List.map eTPair s.2.2.2.1)),.d (.ls (List.map eTRunner s.2.2.2.2.1)),(dI s.2.2.2.2.2.1),.d (.ls (List.map eTLook s.2.2.2.2.2.2.1))]),some (.var [(dI s.2.2.2.2.2.2.2.1),.d (.ls (List.map eTPlan0 s.2.2.2.2.2.2.2.2))]),some (.var [(dI h_3.World),.d (.ls (List.map eI h_3.Offsets)),.d (.ls (List.map eTChoice h_3.Choices))]),some (.var [.nsl,.nsl,.nsl,.nsl,(dI 0),.nsl])])) (((w64 (most_4+1)) - 0:Int).toNat+1) (0,q_1.Field.Clocks.Segments,q_1.Field.Clocks.Far,q_1.Field.Pairs,q_1.Field.Runners,q_1.Runner,q_1.Looks,p_2.Look,p_2.After) h (fun s=>rfl) (Wk.mk2 [0,1,2,3] 4 rfl rfl (by decide) rfl ⟨rr,rr,rr,rr,trivial⟩ ⟨rr,rr,rr,rr,rr,rr,rr,trivial⟩) ?_
  clear h
  rintro n_25 ⟨v_16,v_17,v_18,v_19,v_20,v_21,v_22,v_23,v_24⟩ h
  replace h:M258 h_3 most_4 M259 (n_25+1) v_16 v_17 v_18 v_19 v_20 v_21 v_22 v_23 v_24=some (r_5,r_6):=h
  rw [M258] at h
  refine sg ?_
  conv=>whnf
  refine Tr.seq ?_
  refine Tr.cond ?_
  conv=>whnf
  refine cB h (fun hb34 h=>?_) (fun hb34 h=>?_)
  ·refine Tr.skip ?_
   conv=>whnf
   refine Tr.seq ?_
   refine Tr.block ?_
   refine Tr.seq ?_
   refine sg ?_
   conv=>whnf
   refine Tr.cond ?_
   conv=>whnf
   refine cB h (fun hb35 h=>?_) (fun hb35 h=>?_)
   ·refine sg ?_
    conv=>whnf
    refine Tr.ret ?_
    conv=>whnf
    cases h
    rfl
   refine Tr.skip ?_
   conv=>whnf
   refine Tr.seq ?_
   refine sd [] [(0,4),(1,4),(2,1),(3,1),(4,4),(5,4),(6,3),(7,3),(8,2),(9,1),(10,1),(11,1),(12,4),(13,4),(14,2),(15,3),(16,3),(17,4),(18,4),(19,2),(20,2),(21,2),(22,2),(23,1),(24,1)] ?_
   conv=>whnf
   refine q2 ?_
   conv=>whnf
   refine q2 ?_
   conv=>whnf
   refine q1 ?_
   conv=>whnf
   refine q1 ?_
   conv=>whnf
   refine cB h (fun hb36 h=>?_) (fun hb36 h=>?_)
   ·conv=>whnf
    refine q1 ?_
    conv=>whnf
    refine q1 ?_
    conv=>whnf
    refine q1 ?_
    conv=>whnf
    refine Tr.cond ?_
    conv=>whnf
    refine sg ?_
    conv=>whnf
    refine Tr.ret ?_
    conv=>whnf
    cases h
    rfl
   conv=>whnf
   refine q2 ?_
   conv=>whnf
   refine q2 ?_
   conv=>whnf
   refine q2 ?_
   conv=>whnf
   refine q2 ?_
   conv=>whnf
   refine q3 (lnS_map rr) ?_
   conv=>whnf
   refine q1 ?_
   conv=>whnf
   refine q1 ?_
   conv=>whnf
   refine q1 ?_
   conv=>whnf
   refine cB h (fun hb37 h=>?_) (fun hb37 h=>?_)
   ·conv=>whnf
    refine q1 ?_
    conv=>whnf
    refine Tr.cond ?_
    conv=>whnf
    refine sg ?_
    conv=>whnf
    refine Tr.ret ?_
    conv=>whnf
    cases h
    rfl
   conv=>whnf
   refine q2 ?_
   conv=>whnf
   refine q2 ?_
   conv=>whnf
   refine q3 (lnS_map rr) ?_
   conv=>whnf
   refine q2 ?_
   conv=>whnf
   refine q2 ?_
   conv=>whnf
   refine q2 ?_
   conv=>whnf
   refine q2 ?_
   conv=>whnf
   obtain ⟨x_38,hx_38,h⟩:=bS h
   refine q3 (ixP_of hx_38 rr) ?_
   conv=>whnf
   refine q2 ?_
   conv=>whnf
   refine q2 ?_
   conv=>whnf
   refine q3 (lnS_map rr) ?_
   conv=>whnf
   refine q1 ?_
   conv=>whnf
   refine q1 ?_
   conv=>whnf
   refine Tr.cond ?_
   conv=>whnf
   refine cB h (fun hb39 h=>?_) (fun hb39 h=>?_)
   ·refine sg ?_
    conv=>whnf
    refine Tr.ret ?_
    conv=>whnf
    cases h
    rfl
   refine Tr.skip ?_
   conv=>whnf
   refine sg ?_
   conv=>whnf
   obtain ⟨x_40,hx_40,h⟩:=bS h
   refine ixP_of hx_40 ?_
   conv=>whnf
   refine sg ?_
   conv=>whnf
   refine Tr.seq ?_
   refine sg ?_
   conv=>whnf
   refine lnS_map ?_
   conv=>whnf
   obtain ⟨at_46,hv54,h⟩:=bS h
   refine Tr.cutQ1 ([(4,.pt 0 0),(5,.pt 1 0),(6,.pt 2 0),(8,.pt 3 0),(9,.d (.b false)),(11,(dI at_46)),(18,(dI (w64 (most_4+1)))),(19,(dI v_16))]) ([some (.var [.d (.ls (List.map eTSegment v_17)),.d (.ls (List.map (eL eI) v_18)),.d (.ls (List.map eTPair v_19)),.d (.ls (List.map eTRunner v_20)),(dI v_21),.d (.ls (List.map eTLook v_22))]),some (.var [(dI v_23),.d (.ls (List.map eTPlan0 v_24))]),some (.var [(dI h_3.World),.d (.ls (List.map eI h_3.Offsets)),.d (.ls (List.map eTChoice h_3.Choices))]),some (.var [.nsl,.nsl,.nsl,.nsl,(dI 0),.nsl])]) ?_ (fun T1 H1 hw=>?_)
   ·replace h:=hv54; clear hv54
    refine Tr.block ?_
    refine Tr.loopM (σ:=Int × Int) (fun n s=>M257 h_3 x_40 n s.1 s.2) at_46 (fun s=>([(4,.pt 0 0),(5,.pt 1 0),(6,.pt 2 0),(8,.pt 3 0),(9,.d (.b false)),(10,.pt 4 0),(11,(dI s.1)),(18,(dI (w64 (most_4+1)))),(19,(dI v_16)),(58,.d (.ls (List.map eTSpan x_40.Answers))),(59,(dI (((x_40.Answers).length:Int)))),(60,(dI s.2))],[some (.var [.d (.ls (List.map eTSegment v_17)),.d (.ls (List.map (eL eI) v_18)),.d (.ls (List.map eTPair v_19)),.d (.ls (List.map eTRunner v_20)),(dI v_21),.d (.ls (List.map eTLook v_22))]),some (.var [(dI v_23),.d (.ls (List.map eTPlan0 v_24))]),some (.var [(dI h_3.World),.d (.ls (List.map eI h_3.Offsets)),.d (.ls (List.map eTChoice h_3.Choices))]),some (.var [.nsl,.nsl,.nsl,.nsl,(dI 0),.nsl]),some (.var [(dI x_40.Runner),.d (.ls (List.map eTSpan x_40.Answers))])])) (((((x_40.Answers).length:Int)) - 0:Int).toNat+1) ((-1),0) h (fun s=>rfl) (Wk.mk2 [0,1,2,3,4] 5 rfl rfl (by decide) rfl ⟨rr,rr,rr,rr,rr,trivial⟩ ⟨rr,rr,rr,rr,rr,rr,rr,rr,rr,rr,rr,rr,trivial⟩) ?_
    clear h
    rintro n_45 ⟨at_43,v_44⟩ h
    replace h:M257 h_3 x_40 (n_45+1) at_43 v_44=some at_46:=h
    rw [M257] at h
    refine sg ?_
    conv=>whnf
    refine Tr.seq ?_
    refine Tr.cond ?_
    conv=>whnf
    refine cB h (fun hb49 h=>?_) (fun hb49 h=>?_)
    ·refine Tr.skip ?_
     conv=>whnf
     refine Tr.seq ?_
     refine Tr.block ?_
     refine sg ?_
     conv=>whnf
     obtain ⟨x_50,hx_50,h⟩:=bS h
     refine ixP_of hx_50 ?_
     conv=>whnf
     refine sg ?_
     conv=>whnf
     obtain ⟨x_51,hx_51,h⟩:=bS h
     refine ixP_of hx_51 ?_
     conv=>whnf
     refine sg ?_
     conv=>whnf
     refine cB h (fun hb52 h=>?_) (fun hb52 h=>?_)
     ·conv=>whnf
      refine Tr.cond ?_
      conv=>whnf
      refine cB h (fun hb53 h=>?_) (fun hb53 h=>?_)
      ·refine rg ?_
       conv=>whnf
       refine rg ?_
       conv=>whnf
       refine arS_raw ?_
       conv=>whnf
       refine ⟨(v_44,(w64 (v_44+1))),h,?_⟩
       exact Wk.mk2 [0,1,2,3,4] 6 rfl rfl (by decide) rfl ⟨rr,rr,rr,rr,rr,trivial⟩ ⟨rr,rr,rr,rr,rr,rr,rr,rr,rr,rr,rr,rr,trivial⟩
      refine Tr.skip ?_
      conv=>whnf
      refine rg ?_
      conv=>whnf
      refine arS_raw ?_
      conv=>whnf
      refine ⟨(at_43,(w64 (v_44+1))),h,?_⟩
      exact Wk.mk2 [0,1,2,3,4] 6 rfl rfl (by decide) rfl ⟨rr,rr,rr,rr,rr,trivial⟩ ⟨rr,rr,rr,rr,rr,rr,rr,rr,rr,rr,rr,rr,trivial⟩
     conv=>whnf
     refine Tr.cond ?_
     conv=>whnf
     refine Tr.skip ?_
     conv=>whnf
     refine rg ?_
     conv=>whnf
     refine arS_raw ?_
     conv=>whnf
     refine ⟨(at_43,(w64 (v_44+1))),h,?_⟩
     exact Wk.mk2 [0,1,2,3,4] 6 rfl rfl (by decide) rfl ⟨rr,rr,rr,rr,rr,trivial⟩ ⟨rr,rr,rr,rr,rr,rr,rr,rr,rr,rr,rr,rr,trivial⟩
    refine Tr.exit ?_
    conv=>whnf
    cases h
    exact Wk.mk2 [0,1,2,3] 5 rfl rfl (by decide) rfl ⟨rr,rr,rr,rr,trivial⟩ ⟨rr,rr,rr,rr,rr,rr,rr,rr,trivial⟩
   clear hv54
   conv=>whnf
   refine Tr.weak hw ?_
   refine Tr.seq ?_
   refine sg ?_
   conv=>whnf
   refine Tr.cond ?_
   conv=>whnf
   refine cB h (fun hb55 h=>?_) (fun hb55 h=>?_)
   ·refine sg ?_
    conv=>whnf
    refine Tr.ret ?_
    conv=>whnf
    cases h
    rfl
   refine Tr.skip ?_
   conv=>whnf
   refine sg ?_
   conv=>whnf
   obtain ⟨⟨r_56,r_57⟩,hc58,h⟩:=bS h
   refine PC.ecall (P67 (({ Field:=({ Clocks:=({ Segments:=v_17,Far:=v_18 }:TClocks),Pairs:=v_19,Runners:=v_20 }:TField),Runner:=v_21,Looks:=v_22 }:TQuestion)) v_23 at_46 r_56 r_57 hc58) (fun rs hrs=>?_)
   subst hrs
   conv=>whnf
   refine Tr.seq ?_
   refine sg ?_
   conv=>whnf
   refine Tr.cond ?_
   conv=>whnf
   refine cB h (fun hb59 h=>?_) (fun hb59 h=>?_)
   ·refine sg ?_
    conv=>whnf
    refine Tr.ret ?_
    conv=>whnf
    cases h
    rfl
   refine Tr.skip ?_
   conv=>whnf
   refine dq [(6,0),(7,1)] [(0,7),(1,4),(2,4),(3,1),(4,2),(5,2),(6,0),(7,0)] ?_
   conv=>whnf
   refine q2 ?_
   conv=>whnf
   refine q2 ?_
   conv=>whnf
   refine q2 ?_
   conv=>whnf
   refine q1 ?_
   conv=>whnf
   obtain ⟨x_60,hx_60,h⟩:=bS h
   obtain ⟨p_61,hp_61,h⟩:=bS h
   refine ⟨_,⟨rfl,rfl,(by (conv=>whnf); (rw [uTPlan_eq hp_61] at hx_60); (refine ixP_of hx_60 ?_); (conv=>whnf); (exact rr))⟩,?_⟩
   conv=>whnf
   refine q2 ?_
   conv=>whnf
   refine ⟨_,_,rr,kp_ok (by repeat (first | exact trivial | refine ⟨trivial,?_⟩ | refine ⟨rfl,?_⟩)),?_⟩
   conv=>whnf
   refine ⟨_,_,rr,kp_ok (by repeat (first | exact trivial | refine ⟨trivial,?_⟩ | refine ⟨rfl,?_⟩)),?_⟩
   conv=>whnf
   refine rg ?_
   conv=>whnf
   refine arS_raw ?_
   conv=>whnf
   refine ⟨((w64 (v_16+1)),r_56.Field.Clocks.Segments,r_56.Field.Clocks.Far,r_56.Field.Pairs,r_56.Field.Runners,r_56.Runner,r_56.Looks,p_61.Look,p_61.After),h,?_⟩
   exact Wk.mk2 [0,1,2,3] 5 rfl rfl (by decide) rfl ⟨rr,rr,rr,rr,trivial⟩ ⟨rr,rr,rr,rr,rr,rr,rr,trivial⟩
  refine Tr.exit ?_
  conv=>whnf
  refine ⟨(v_17,v_18,v_19,v_20,v_21,v_22),h,?_⟩
  exact Wk.mk2 [0,3] 4 rfl rfl (by decide) rfl ⟨rr,rr,trivial⟩ ⟨rr,⟨rfl,(by first | rfl | (simp only [↓hb34,bl,List.length_set]; done) | (simp only [↓hb34,bl,List.length_set]; rfl))⟩,rr,trivial⟩
 clear h
 rintro ⟨v_26,v_27,v_28,v_29,v_30,v_31⟩ h T1 H1 hw
 replace h:M259 v_26 v_27 v_28 v_29 v_30 v_31=some (r_5,r_6):=h
 conv=>whnf
 refine Tr.weak hw ?_
 unfold M259 at h
 refine sg ?_
 conv=>whnf
 refine Tr.ret ?_
 conv=>whnf
 cases h
 rfl
theorem P261 (p_1:TPlan) (most_2:Int) (c_3:List TSegment) (c_4:List (List Int)) (c_5:List TPair) (c_6:List TRunner) (c_7:Int) (c_8:List TLook) (c_9:Int) (c_10:List Int) (c_11:List TChoice) (c_12:Int) (r_13:Bool) (h:M261 p_1 most_2 c_3 c_4 c_5 c_6 c_7 c_8 c_9 c_10 c_11 c_12=some r_13) :
    PC prog 28 [(eTPlan p_1),(.i .i64 most_2),(.ro [(.ls (List.map eTSegment c_3)),(.ls (List.map (eL eI) c_4)),(.ls (List.map eTPair c_5)),(.ls (List.map eTRunner c_6)),(.i .i64 c_7),(.ls (List.map eTLook c_8))]),(.ro [(.i .i64 c_9),(.ls (List.map eI c_10)),(.ls (List.map eTChoice c_11))]),(.ro [(.i .i64 c_12)])] (fun rs=>rs=[(.b r_13)]):=by
 refine PC.of_tr (cx:=⟨52,none,lay,0⟩) layOK func28 rfl rfl rfl rfl rfl (by simp [f28]) ?_
 unfold M261 at h
 refine sg ?_
 conv=>whnf
 refine sg ?_
 conv=>whnf
 obtain ⟨⟨r_14,r_15⟩,hc16,h⟩:=bS h
 refine PC.ecall (P260 (({ Field:=({ Clocks:=({ Segments:=c_3,Far:=c_4 }:TClocks),Pairs:=c_5,Runners:=c_6 }:TField),Runner:=c_7,Looks:=c_8 }:TQuestion)) p_1 ({ World:=c_9,Offsets:=c_10,Choices:=c_11 }:THistory) most_2 r_14 r_15 hc16) (fun rs hrs=>?_)
 subst hrs
 conv=>whnf
 refine Tr.seq ?_
 refine sg ?_
 conv=>whnf
 refine Tr.cond ?_
 conv=>whnf
 refine cB h (fun hb17 h=>?_) (fun hb17 h=>?_)
 ·refine sg ?_
  conv=>whnf
  refine Tr.ret ?_
  conv=>whnf
  cases h
  rfl
 refine Tr.skip ?_
 conv=>whnf
 refine sg ?_
 conv=>whnf
 obtain ⟨⟨r_18,r_19⟩,hc20,h⟩:=bS h
 refine PC.ecall (P114 r_14.Field r_14.Runner r_18 r_19 hc20) (fun rs hrs=>?_)
 subst hrs
 conv=>whnf
 refine Tr.seq ?_
 refine Tr.cutQ1 ([(7,.d (.b ((r_19 == 0) && (bif (r_18.Kind == 1) then ((r_18.Lo == c_12) || ((r_18.Kind == 3) && (c_12 == 0))) else ((r_18.Kind == 3) && (c_12 == 0))))))]) ([]) ?_ (fun T1 H1 hw=>?_)
 ·refine rg ?_
  conv=>whnf
  refine condS_mk (fun hb22=>?_) (fun hb22=>?_)
  ·conv=>whnf
   refine condS_mk (fun hb23=>?_) (fun hb23=>?_)
   ·conv=>whnf
    refine condS_mk (fun hb24=>?_) (fun hb24=>?_)
    ·conv=>whnf
     exact Wk.mk2 [] 3 rfl rfl (by decide) rfl trivial ⟨⟨rfl,(by first | rfl | (simp only [↓hb17,↓hb22,↓hb23,↓hb24,bl,List.length_set]; done) | (simp only [↓hb17,↓hb22,↓hb23,↓hb24,bl,List.length_set]; rfl))⟩,trivial⟩
    conv=>whnf
    refine condS_mk (fun hb25=>?_) (fun hb25=>?_)
    ·conv=>whnf
     exact Wk.mk2 [] 3 rfl rfl (by decide) rfl trivial ⟨⟨rfl,(by first | rfl | (simp only [↓hb17,↓hb22,↓hb23,↓hb24,↓hb25,bl,List.length_set]; done) | (simp only [↓hb17,↓hb22,↓hb23,↓hb24,↓hb25,bl,List.length_set]; rfl))⟩,trivial⟩
    conv=>whnf
    exact Wk.mk2 [] 3 rfl rfl (by decide) rfl trivial ⟨⟨rfl,(by first | rfl | (simp only [↓hb17,↓hb22,↓hb23,↓hb24,↓hb25,bl,List.length_set]; done) | (simp only [↓hb17,↓hb22,↓hb23,↓hb24,↓hb25,bl,List.length_set]; rfl))⟩,trivial⟩
   conv=>whnf
   refine condS_mk (fun hb26=>?_) (fun hb26=>?_)
   ·conv=>whnf
    exact Wk.mk2 [] 3 rfl rfl (by decide) rfl trivial ⟨⟨rfl,(by first | rfl | (simp only [↓hb17,↓hb22,↓hb23,↓hb26,bl,List.length_set]; done) | (simp only [↓hb17,↓hb22,↓hb23,↓hb26,bl,List.length_set]; rfl))⟩,trivial⟩
   conv=>whnf
   exact Wk.mk2 [] 3 rfl rfl (by decide) rfl trivial ⟨⟨rfl,(by first | rfl | (simp only [↓hb17,↓hb22,↓hb23,↓hb26,bl,List.length_set]; done) | (simp only [↓hb17,↓hb22,↓hb23,↓hb26,bl,List.length_set]; rfl))⟩,trivial⟩
  conv=>whnf
  exact Wk.mk2 [] 3 rfl rfl (by decide) rfl trivial ⟨⟨rfl,(by first | rfl | (simp only [↓hb17,↓hb22,bl,List.length_set]; done) | (simp only [↓hb17,↓hb22,bl,List.length_set]; rfl))⟩,trivial⟩
 conv=>whnf
 refine Tr.weak hw ?_
 refine Tr.ret ?_
 conv=>whnf
 cases h
 rfl
theorem P262 (q_1:TQuestion) (h_2:THistory) (r_3:Bool) (h:M262 q_1 h_2=some r_3) :
    PC prog 8 [(eTQuestion q_1),(eTHistory h_2)] (fun rs=>rs=[(.b r_3)]):=by
 refine PC.of_tr (cx:=⟨117,none,lay,0⟩) layOK func8 rfl rfl rfl rfl rfl (by simp [f8]) ?_
 unfold M262 at h
 refine sg ?_
 conv=>whnf
 refine Tr.seq ?_
 refine sg ?_
 conv=>whnf
 obtain ⟨r_4,hc5,h⟩:=bS h
 refine PC.ecall (P141 r_4 hc5) (fun rs hrs=>?_)
 subst hrs
 conv=>whnf
 refine Tr.cond ?_
 conv=>whnf
 refine cB h (fun hb6 h=>?_) (fun hb6 h=>?_)
 ·refine sg ?_
  conv=>whnf
  refine Tr.ret ?_
  conv=>whnf
  cases h
  rfl
 refine Tr.skip ?_
 conv=>whnf
 refine Tr.seq ?_
 refine Tr.seq ?_
 obtain ⟨v_7,hv8,h⟩:=bS h
 refine Tr.cutQ1 ([(2,.pt 0 0),(3,.pt 1 0),(4,.d (.b false)),(40,.d (.b v_7))]) ([some (.var [.d (.ls (List.map eTSegment q_1.Field.Clocks.Segments)),.d (.ls (List.map (eL eI) q_1.Field.Clocks.Far)),.d (.ls (List.map eTPair q_1.Field.Pairs)),.d (.ls (List.map eTRunner q_1.Field.Runners)),(dI q_1.Runner),.d (.ls (List.map eTLook q_1.Looks))]),some (.var [(dI h_2.World),.d (.ls (List.map eI h_2.Offsets)),.d (.ls (List.map eTChoice h_2.Choices))])]) ?_ (fun T1 H1 hw=>?_)
 ·replace h:=hv8; clear hv8
  refine rg ?_
  conv=>whnf
  obtain ⟨r_9,hc10,h⟩:=bS h
  refine PC.ecall (P151 q_1 r_9 hc10) (fun rs hrs=>?_)
  subst hrs
  conv=>whnf
  refine cB h (fun hb11 h=>?_) (fun hb11 h=>?_)
  ·conv=>whnf
   cases h
   exact Wk.mk2 [0,1] 2 rfl rfl (by decide) rfl ⟨rr,rr,trivial⟩ ⟨rr,rr,rr,rr,trivial⟩
  conv=>whnf
  refine lnS_map ?_
  conv=>whnf
  refine cB h (fun hb12 h=>?_) (fun hb12 h=>?_)
  ·conv=>whnf
   cases h
   exact Wk.mk2 [0,1] 2 rfl rfl (by decide) rfl ⟨rr,rr,trivial⟩ ⟨rr,rr,rr,rr,trivial⟩
  conv=>whnf
  obtain ⟨r_13,hc14,h⟩:=bS h
  refine PC.ecall (P197 q_1 r_13 hc14) (fun rs hrs=>?_)
  subst hrs
  conv=>whnf
  refine cB h (fun hb15 h=>?_) (fun hb15 h=>?_)
  ·conv=>whnf
   cases h
   exact Wk.mk2 [0,1] 2 rfl rfl (by decide) rfl ⟨rr,rr,trivial⟩ ⟨rr,rr,rr,rr,trivial⟩
  conv=>whnf
  obtain ⟨r_16,hc17,h⟩:=bS h
  refine PC.ecall (P218 h_2 r_16 hc17) (fun rs hrs=>?_)
  subst hrs
  conv=>whnf
  refine cB h (fun hb18 h=>?_) (fun hb18 h=>?_)
  ·conv=>whnf
   cases h
   exact Wk.mk2 [0,1] 2 rfl rfl (by decide) rfl ⟨rr,rr,trivial⟩ ⟨rr,rr,rr,rr,trivial⟩
  conv=>whnf
  obtain ⟨r_19,hc20,h⟩:=bS h
  refine PC.ecall (P228 q_1.Field h_2 r_19 hc20) (fun rs hrs=>?_)
  subst hrs
  conv=>whnf
  cases h
  exact Wk.mk2 [0,1] 2 rfl rfl (by decide) rfl ⟨rr,rr,trivial⟩ ⟨rr,rr,rr,rr,trivial⟩
 clear hv8
 conv=>whnf
 refine Tr.weak hw ?_
 refine Tr.cond ?_
 conv=>whnf
 refine cB h (fun hb21 h=>?_) (fun hb21 h=>?_)
 ·refine sg ?_
  conv=>whnf
  refine Tr.ret ?_
  conv=>whnf
  cases h
  rfl
 refine Tr.skip ?_
 conv=>whnf
 refine sg ?_
 conv=>whnf
 obtain ⟨⟨r_22,r_23,r_24⟩,hc25,h⟩:=bS h
 refine PC.ecall (P129 q_1 100000 r_22 r_23 r_24 hc25) (fun rs hrs=>?_)
 subst hrs
 conv=>whnf
 refine sg ?_
 conv=>whnf
 obtain ⟨⟨r_26,r_27⟩,hc28,h⟩:=bS h
 refine PC.ecall (P136 q_1 r_26 r_27 hc28) (fun rs hrs=>?_)
 subst hrs
 conv=>whnf
 refine Tr.seq ?_
 refine Tr.seq ?_
 refine Tr.cutQ1 ([(2,.pt 0 0),(3,.pt 1 0),(4,.d (.b false)),(5,.pt 2 0),(6,(dI r_23)),(7,(dI r_24)),(8,.pt 3 0),(9,(dI r_27)),(73,.d (.b (bif (r_24 != 0) then ((r_24 != 361) || (bif (r_27 != 0) then ((r_27 != 361) || ((r_27 == 0) && (r_24 != 0))) else ((r_27 == 0) && (r_24 != 0)))) else (bif (r_27 != 0) then ((r_27 != 361) || ((r_27 == 0) && (r_24 != 0))) else ((r_27 == 0) && (r_24 != 0))))))]) ([some (.var [.d (.ls (List.map eTSegment q_1.Field.Clocks.Segments)),.d (.ls (List.map (eL eI) q_1.Field.Clocks.Far)),.d (.ls (List.map eTPair q_1.Field.Pairs)),.d (.ls (List.map eTRunner q_1.Field.Runners)),(dI q_1.Runner),.d (.ls (List.map eTLook q_1.Looks))]),some (.var [(dI h_2.World),.d (.ls (List.map eI h_2.Offsets)),.d (.ls (List.map eTChoice h_2.Choices))]),some (.var [(dI r_22.Look),.d (.ls (List.map eTPlan0 r_22.After))]),some (.var [(dI r_26.Look),.d (.ls (List.map eTPlan0 r_26.After))])]) ?_ (fun T1 H1 hw=>?_)
 ·refine rg ?_
  conv=>whnf
  refine condS_mk (fun hb30=>?_) (fun hb30=>?_)
  ·conv=>whnf
   refine condS_mk (fun hb31=>?_) (fun hb31=>?_)
   ·conv=>whnf
    exact Wk.mk2 [0,1,2,3] 4 rfl rfl (by decide) rfl ⟨rr,rr,rr,rr,trivial⟩ ⟨rr,rr,rr,rr,rr,rr,rr,rr,⟨rfl,(by first | rfl | (simp only [↓hb6,↓hb21,↓hb30,↓hb31,bl,List.length_set]; done) | (simp only [↓hb6,↓hb21,↓hb30,↓hb31,bl,List.length_set]; rfl))⟩,trivial⟩
   conv=>whnf
   refine condS_mk (fun hb32=>?_) (fun hb32=>?_)
   ·conv=>whnf
    refine condS_mk (fun hb33=>?_) (fun hb33=>?_)
    ·conv=>whnf
     exact Wk.mk2 [0,1,2,3] 4 rfl rfl (by decide) rfl ⟨rr,rr,rr,rr,trivial⟩ ⟨rr,rr,rr,rr,rr,rr,rr,rr,⟨rfl,(by first | rfl | (simp only [↓hb6,↓hb21,↓hb30,↓hb31,↓hb32,↓hb33,bl,List.length_set]; done) | (simp only [↓hb6,↓hb21,↓hb30,↓hb31,↓hb32,↓hb33,bl,List.length_set]; rfl))⟩,trivial⟩
    conv=>whnf
    refine condS_mk (fun hb34=>?_) (fun hb34=>?_)
    ·conv=>whnf
     exact Wk.mk2 [0,1,2,3] 4 rfl rfl (by decide) rfl ⟨rr,rr,rr,rr,trivial⟩ ⟨rr,rr,rr,rr,rr,rr,rr,rr,⟨rfl,(by first | rfl | (simp only [↓hb6,↓hb21,↓hb30,↓hb31,↓hb32,↓hb33,↓hb34,bl,List.length_set]; done) | (simp only [↓hb6,↓hb21,↓hb30,↓hb31,↓hb32,↓hb33,↓hb34,bl,List.length_set]; rfl))⟩,trivial⟩
    conv=>whnf
    exact Wk.mk2 [0,1,2,3] 4 rfl rfl (by decide) rfl ⟨rr,rr,rr,rr,trivial⟩ ⟨rr,rr,rr,rr,rr,rr,rr,rr,⟨rfl,(by first | rfl | (simp only [↓hb6,↓hb21,↓hb30,↓hb31,↓hb32,↓hb33,↓hb34,bl,List.length_set]; done) | (simp only [↓hb6,↓hb21,↓hb30,↓hb31,↓hb32,↓hb33,↓hb34,bl,List.length_set]; rfl))⟩,trivial⟩
   conv=>whnf
   refine condS_mk (fun hb35=>?_) (fun hb35=>?_)
   ·conv=>whnf
    exact Wk.mk2 [0,1,2,3] 4 rfl rfl (by decide) rfl ⟨rr,rr,rr,rr,trivial⟩ ⟨rr,rr,rr,rr,rr,rr,rr,rr,⟨rfl,(by first | rfl | (simp only [↓hb6,↓hb21,↓hb30,↓hb31,↓hb32,↓hb35,bl,List.length_set]; done) | (simp only [↓hb6,↓hb21,↓hb30,↓hb31,↓hb32,↓hb35,bl,List.length_set]; rfl))⟩,trivial⟩
   conv=>whnf
   exact Wk.mk2 [0,1,2,3] 4 rfl rfl (by decide) rfl ⟨rr,rr,rr,rr,trivial⟩ ⟨rr,rr,rr,rr,rr,rr,rr,rr,⟨rfl,(by first | rfl | (simp only [↓hb6,↓hb21,↓hb30,↓hb31,↓hb32,↓hb35,bl,List.length_set]; done) | (simp only [↓hb6,↓hb21,↓hb30,↓hb31,↓hb32,↓hb35,bl,List.length_set]; rfl))⟩,trivial⟩
  conv=>whnf
  refine condS_mk (fun hb36=>?_) (fun hb36=>?_)
  ·conv=>whnf
   refine condS_mk (fun hb37=>?_) (fun hb37=>?_)
   ·conv=>whnf
    exact Wk.mk2 [0,1,2,3] 4 rfl rfl (by decide) rfl ⟨rr,rr,rr,rr,trivial⟩ ⟨rr,rr,rr,rr,rr,rr,rr,rr,⟨rfl,(by first | rfl | (simp only [↓hb6,↓hb21,↓hb30,↓hb36,↓hb37,bl,List.length_set]; done) | (simp only [↓hb6,↓hb21,↓hb30,↓hb36,↓hb37,bl,List.length_set]; rfl))⟩,trivial⟩
   conv=>whnf
   refine condS_mk (fun hb38=>?_) (fun hb38=>?_)
   ·conv=>whnf
    exact Wk.mk2 [0,1,2,3] 4 rfl rfl (by decide) rfl ⟨rr,rr,rr,rr,trivial⟩ ⟨rr,rr,rr,rr,rr,rr,rr,rr,⟨rfl,(by first | rfl | (simp only [↓hb6,↓hb21,↓hb30,↓hb36,↓hb37,↓hb38,bl,List.length_set]; done) | (simp only [↓hb6,↓hb21,↓hb30,↓hb36,↓hb37,↓hb38,bl,List.length_set]; rfl))⟩,trivial⟩
   conv=>whnf
   exact Wk.mk2 [0,1,2,3] 4 rfl rfl (by decide) rfl ⟨rr,rr,rr,rr,trivial⟩ ⟨rr,rr,rr,rr,rr,rr,rr,rr,⟨rfl,(by first | rfl | (simp only [↓hb6,↓hb21,↓hb30,↓hb36,↓hb37,↓hb38,bl,List.length_set]; done) | (simp only [↓hb6,↓hb21,↓hb30,↓hb36,↓hb37,↓hb38,bl,List.length_set]; rfl))⟩,trivial⟩
  conv=>whnf
  refine condS_mk (fun hb39=>?_) (fun hb39=>?_)
  ·conv=>whnf
   exact Wk.mk2 [0,1,2,3] 4 rfl rfl (by decide) rfl ⟨rr,rr,rr,rr,trivial⟩ ⟨rr,rr,rr,rr,rr,rr,rr,rr,⟨rfl,(by first | rfl | (simp only [↓hb6,↓hb21,↓hb30,↓hb36,↓hb39,bl,List.length_set]; done) | (simp only [↓hb6,↓hb21,↓hb30,↓hb36,↓hb39,bl,List.length_set]; rfl))⟩,trivial⟩
  conv=>whnf
  exact Wk.mk2 [0,1,2,3] 4 rfl rfl (by decide) rfl ⟨rr,rr,rr,rr,trivial⟩ ⟨rr,rr,rr,rr,rr,rr,rr,rr,⟨rfl,(by first | rfl | (simp only [↓hb6,↓hb21,↓hb30,↓hb36,↓hb39,bl,List.length_set]; done) | (simp only [↓hb6,↓hb21,↓hb30,↓hb36,↓hb39,bl,List.length_set]; rfl))⟩,trivial⟩
 conv=>whnf
 refine Tr.weak hw ?_
 refine Tr.cond ?_
 conv=>whnf
 refine cB h (fun hb40 h=>?_) (fun hb40 h=>?_)
 ·refine sg ?_
  conv=>whnf
  refine Tr.ret ?_
  conv=>whnf
  cases h
  rfl
 refine Tr.skip ?_
 conv=>whnf
 refine sg ?_
 conv=>whnf
 obtain ⟨⟨r_41,r_42⟩,hc43,h⟩:=bS h
 refine PC.ecall (P256 q_1.Field h_2 q_1.Runner r_41 r_42 hc43) (fun rs hrs=>?_)
 subst hrs
 conv=>whnf
 refine Tr.seq ?_
 refine sg ?_
 conv=>whnf
 refine Tr.cond ?_
 conv=>whnf
 refine cB h (fun hb44 h=>?_) (fun hb44 h=>?_)
 ·refine sg ?_
  conv=>whnf
  refine Tr.ret ?_
  conv=>whnf
  cases h
  rfl
 refine Tr.skip ?_
 conv=>whnf
 refine sg ?_
 conv=>whnf
 refine Tr.seq ?_
 obtain ⟨v_45,hv46,h⟩:=bS h
 refine Tr.cutQ1 ([(4,.d (.b v_45))]) ([]) ?_ (fun T1 H1 hw=>?_)
 ·replace h:=hv46; clear hv46
  refine rg ?_
  conv=>whnf
  refine cB h (fun hb47 h=>?_) (fun hb47 h=>?_)
  ·conv=>whnf
   refine cB h (fun hb48 h=>?_) (fun hb48 h=>?_)
   ·conv=>whnf
    cases h
    exact Wk.mk2 [] 5 rfl rfl (by decide) rfl trivial ⟨rr,trivial⟩
   conv=>whnf
   refine lnS_map ?_
   conv=>whnf
   obtain ⟨r_49,hc50,h⟩:=bS h
   refine PC.ecall_lend ?_ ⟨_,_,func28,rfl,rfl⟩
   conv=>whnf
   refine ⟨_,P261 r_26 ((((q_1.Looks).length:Int))) q_1.Field.Clocks.Segments q_1.Field.Clocks.Far q_1.Field.Pairs q_1.Field.Runners q_1.Runner q_1.Looks h_2.World h_2.Offsets h_2.Choices r_41 r_49 hc50,fun rs hrs=>?_⟩
   subst hrs
   refine ⟨rfl,?_⟩
   conv=>whnf
   cases h
   exact Wk.mk2 [] 5 rfl rfl (by decide) rfl trivial ⟨rr,trivial⟩
  conv=>whnf
  refine cB h (fun hb51 h=>?_) (fun hb51 h=>?_)
  ·conv=>whnf
   refine lnS_map ?_
   conv=>whnf
   refine cB h (fun hb52 h=>?_) (fun hb52 h=>?_)
   ·conv=>whnf
    obtain ⟨r_53,hc54,h⟩:=bS h
    refine PC.ecall_lend ?_ ⟨_,_,func28,rfl,rfl⟩
    conv=>whnf
    refine ⟨_,P261 r_22 r_23 q_1.Field.Clocks.Segments q_1.Field.Clocks.Far q_1.Field.Pairs q_1.Field.Runners q_1.Runner q_1.Looks h_2.World h_2.Offsets h_2.Choices r_41 r_53 hc54,fun rs hrs=>?_⟩
    subst hrs
    refine ⟨rfl,?_⟩
    conv=>whnf
    refine cB h (fun hb55 h=>?_) (fun hb55 h=>?_)
    ·conv=>whnf
     refine cB h (fun hb56 h=>?_) (fun hb56 h=>?_)
     ·conv=>whnf
      cases h
      exact Wk.mk2 [] 5 rfl rfl (by decide) rfl trivial ⟨rr,trivial⟩
     conv=>whnf
     refine lnS_map ?_
     conv=>whnf
     obtain ⟨r_57,hc58,h⟩:=bS h
     refine PC.ecall_lend ?_ ⟨_,_,func28,rfl,rfl⟩
     conv=>whnf
     refine ⟨_,P261 r_26 ((((q_1.Looks).length:Int))) q_1.Field.Clocks.Segments q_1.Field.Clocks.Far q_1.Field.Pairs q_1.Field.Runners q_1.Runner q_1.Looks h_2.World h_2.Offsets h_2.Choices r_41 r_57 hc58,fun rs hrs=>?_⟩
     subst hrs
     refine ⟨rfl,?_⟩
     conv=>whnf
     cases h
     exact Wk.mk2 [] 5 rfl rfl (by decide) rfl trivial ⟨rr,trivial⟩
    conv=>whnf
    cases h
    exact Wk.mk2 [] 5 rfl rfl (by decide) rfl trivial ⟨rr,trivial⟩
   conv=>whnf
   cases h
   exact Wk.mk2 [] 5 rfl rfl (by decide) rfl trivial ⟨rr,trivial⟩
  conv=>whnf
  cases h
  exact Wk.mk2 [] 5 rfl rfl (by decide) rfl trivial ⟨rr,trivial⟩
 clear hv46
 conv=>whnf
 refine Tr.weak hw ?_
 refine Tr.ret ?_
 conv=>whnf
 cases h
 rfl
end Go.Proofs.Try
