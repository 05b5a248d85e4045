/- Contracts of functions, by program (gen.py). No condition. -/
import Derived.Test.YtcmhnjhpnijpbaaZL
import Derived.Test.YtcmhnjhpnijpbaaZM
import Derived.Test.YtcmhnjhpnijpbaaZCB
import Derived.Test.YtcmhnjhpnijpbaaZS5
namespace Go.Proofs.Try
open Go Go.Abs Go.Stop
set_option maxRecDepth 8000
set_option linter.unusedVariables false
set_option linter.unusedSimpArgs false
theorem P233 (r_1:TPlan) (h:M233=some r_1) :
    PC prog 51 [] (fun rs=>rs=[(eTPlan r_1)]):=by
 refine PC.of_tr (cx:=⟨2,none,lay,0⟩) layOK func51 rfl rfl rfl rfl rfl (by simp [f51]) ?_
 unfold M233 at h
 refine sg ?_
 conv=>whnf
 refine sg ?_
 conv=>whnf
 refine orB_l ?_
 conv=>whnf
 refine Tr.ret ?_
 conv=>whnf
 cases h
 rfl
theorem P234 (q_1:TQuestion) (look_2:Int) (c_3:List TSegment) (c_4:List (List Int)) (c_5:List TPair) (c_6:List TRunner) (c_7:Int) (c_8:List TLook) (c_9:Int) (h:M234 q_1 look_2=some (c_3,c_4,c_5,c_6,c_7,c_8,c_9)) :
    PC prog 52 [(eTQuestion q_1),(.i .i64 look_2)] (fun rs=>rs=[(.fn 79 [(.ro [(.ls (List.map eTSegment c_3)),(.ls (List.map (eL eI) c_4)),(.ls (List.map eTPair c_5)),(.ls (List.map eTRunner c_6)),(.i .i64 c_7),(.ls (List.map eTLook c_8))]),(.ro [(.i .i64 c_9)])])]):=by
 refine PC.of_tr (cx:=⟨6,none,lay,0⟩) layOK func52 rfl rfl rfl rfl rfl (by simp [f52]) ?_
 unfold M234 at h
 refine sg ?_
 conv=>whnf
 refine sg ?_
 conv=>whnf
 refine Tr.ret ?_
 conv=>whnf
 cases h
 rfl
theorem P237 (c_1:List TSegment) (c_2:List (List Int)) (c_3:List TPair) (c_4:List TRunner) (c_5:Int) (c_6:List TLook) (c_7:Int) (ys:List (Int × TQuestion)) (h:M237 c_1 c_2 c_3 c_4 c_5 c_6 c_7=some ys) (xs:YL) (hx:Rem xs (fun a=>[(.i .i64 a.1),(eTQuestion a.2)]) 0 ys) :
    ItC prog 79 [(.ro [(.ls (List.map eTSegment c_1)),(.ls (List.map (eL eI) c_2)),(.ls (List.map eTPair c_3)),(.ls (List.map eTRunner c_4)),(.i .i64 c_5),(.ls (List.map eTLook c_6))]),(.ro [(.i .i64 c_7)])] xs:=by
 refine ItC.of_tr (cx:=⟨40,none,lay,0⟩) (hx:=hx) func79 rfl rfl rfl (by simp [f79]) rfl (fun l hx=>?_)
 unfold M237 at h
 refine TrY.seq ?_
 refine TrY.region layOK ?_
 conv=>whnf
 obtain ⟨x_8,hx_8,h⟩:=bS h
 refine ixP_of hx_8 ?_
 conv=>whnf
 refine lnS_map ?_
 conv=>whnf
 refine TrY.block ?_
 refine TrY.loopM (σ:=Int) (fun n s=>M235 c_1 c_2 c_3 c_4 c_5 c_6 c_7 x_8 M236 n s) _ (fun s=>([(0,.yl l),(1,.d (.ro [(.ls (List.map eTSegment c_1)),(.ls (List.map (eL eI) c_2)),(.ls (List.map eTPair c_3)),(.ls (List.map eTRunner c_4)),(.i .i64 c_5),(.ls (List.map eTLook c_6))])),(2,.d (.ro [(.i .i64 c_7)])),(13,.d (.ls (List.map eTSpan x_8.Answers))),(14,(dI (((x_8.Answers).length:Int)))),(15,(dI s))],[])) (((((x_8.Answers).length:Int)) - 0:Int).toNat+1) (0) h (fun s=>rfl) hx (Wk.mk2 [] 0 rfl rfl (by decide) rfl trivial ⟨rr,rr,rr,rr,rr,rr,trivial⟩) ?_
 clear h hx
 rintro n_11 v_10 i_22 ys_23 h hx
 replace h:M235 c_1 c_2 c_3 c_4 c_5 c_6 c_7 x_8 M236 (n_11+1) v_10=some ys_23:=h
 rw [M235] at h
 refine TrY.seq ?_
 refine TrY.region layOK ?_
 conv=>whnf
 refine TrY.seq ?_
 refine TrY.cond ?_
 conv=>whnf
 refine cB h (fun hb14 h=>?_) (fun hb14 h=>?_)
 ·refine TrY.skip ?_
  conv=>whnf
  refine TrY.seq ?_
  refine TrY.block ?_
  refine TrY.seq ?_
  refine TrY.region layOK ?_
  conv=>whnf
  obtain ⟨x_15,hx_15,h⟩:=bS h
  refine ixP_of hx_15 ?_
  conv=>whnf
  refine TrY.seq ?_
  refine TrY.drawN layOK mixed [(12,1)] [(0,2),(1,2),(2,2),(3,2),(4,2),(5,2),(6,3),(7,1),(8,1),(9,1),(10,1),(11,0),(12,0),(13,1)] (by kernel_rfl) ?_
  conv=>whnf
  refine q2 ?_
  conv=>whnf
  refine q2 ?_
  conv=>whnf
  refine q2 ?_
  conv=>whnf
  refine q2 ?_
  conv=>whnf
  obtain ⟨x_16,hx_16,h⟩:=bS h
  refine q3 (ixP_of hx_16 rr) ?_
  conv=>whnf
  refine q2 ?_
  conv=>whnf
  refine q2 ?_
  conv=>whnf
  obtain ⟨⟨r_17,r_18⟩,hc19,h⟩:=bS h
  refine q1 ?_ (fun _=>pe (P231 (({ Field:=({ Clocks:=({ Segments:=c_1,Far:=c_2 }:TClocks),Pairs:=c_3,Runners:=c_4 }:TField),Runner:=c_5,Looks:=c_6 }:TQuestion)) x_16 x_15 r_17 r_18 hc19) rr)
  conv=>whnf
  refine q1 ?_
  conv=>whnf
  refine q1 ?_
  conv=>whnf
  refine q1 ?_
  conv=>whnf
  refine ⟨_,_,rr,kp_ok (by repeat (first | exact trivial | refine ⟨trivial,?_⟩ | refine ⟨rfl,?_⟩)),?_⟩
  conv=>whnf
  refine ⟨_,_,rr,kp_ok (by repeat (first | exact trivial | refine ⟨trivial,?_⟩ | refine ⟨rfl,?_⟩)),?_⟩
  conv=>whnf
  refine q1 ?_
  conv=>whnf
  refine TrY.seq ?_
  refine TrY.region layOK ?_
  conv=>whnf
  refine cB h (fun hb20 h=>?_) (fun hb20 h=>?_)
  ·conv=>whnf
   obtain ⟨l_21,h_21,e_21⟩:=bS h
   clear h
   cases e_21
   have h:=h_21
   clear h_21
   refine ylS_of hx rfl (fun gb_21 h1_21 h2_21=>?_)
   cases gb_21
   ·have hend_21:=h2_21 rfl
    clear h1_21 h2_21 h hx
    conv=>whnf
    refine ⟨rfl,?_⟩
    conv=>whnf
    refine TrY.cond ?_
    conv=>whnf
    refine TrY.ret ?_
    conv=>whnf
    exact hend_21
   replace hx:=h1_21 rfl
   clear h1_21 h2_21
   conv=>whnf
   refine ⟨rfl,?_⟩
   conv=>whnf
   refine TrY.cond ?_
   conv=>whnf
   refine TrY.skip ?_
   conv=>whnf
   refine TrY.region layOK ?_
   conv=>whnf
   refine arS_raw ?_
   conv=>whnf
   refine ⟨((w64 (v_10+1))),_,h,hx,?_⟩
   exact Wk.mk2 [] 0 rfl rfl (by decide) rfl trivial ⟨rr,rr,rr,rr,rr,rr,trivial⟩
  conv=>whnf
  refine TrY.cond ?_
  conv=>whnf
  refine TrY.skip ?_
  conv=>whnf
  refine TrY.region layOK ?_
  conv=>whnf
  refine arS_raw ?_
  conv=>whnf
  refine ⟨((w64 (v_10+1))),_,h,hx,?_⟩
  exact Wk.mk2 [] 2 rfl rfl (by decide) rfl trivial ⟨rr,rr,rr,rr,rr,rr,trivial⟩
 refine TrY.exit ?_
 conv=>whnf
 unfold M236 at h
 cases h
 exact Rem.done hx
theorem P242 (rc_9111:TQuestion→Int→Int→(List Bool)→Option (Option (TPlan × Bool × Int × List Bool))) (ih_9111:∀ (q_1:TQuestion) (left_2:Int) (v_3:Int) (l_4:List Bool) (q:Option (TPlan × Bool × Int × List Bool)),rc_9111 q_1 left_2 v_3 l_4=some q→MCP prog 55 [.d (eTQuestion q_1),(dI left_2),.pt 0 0,.pt 1 0,.pt 3 0] [.var [(dI v_3)],.var [.sl 2 1 0 (List.length l_4)],.arr 1 (List.map .d (List.map eB l_4)),.var [.fn 55 [.pt 0 0,.pt 1 0,.pt 3 0]]] (fun rs Bs=>∃ r_5:TPlan,∃ r_6:Bool,∃ b_7:Int,∃ l_8:List Bool,q=some (r_5,r_6,b_7,l_8)∧rs=[(eTPlan r_5),(.b r_6)]∧Bs=[.var [(dI b_7)],.var [.sl 2 1 0 (List.length l_8)],.arr 1 (List.map .d (List.map eB l_8)),.var [.fn 55 [.pt 0 0,.pt 1 0,.pt 3 0]]]) (fun pv=>pv=(.iface 38 (.int .i64 3))∧q=none)) (q_1:TQuestion) (left_2:Int) (v_3:Int) (l_4:List Bool) (q:Option (TPlan × Bool × Int × List Bool)) (h:M242 rc_9111 q_1 left_2 v_3 l_4=some q) :
    MCP prog 55 [.d (eTQuestion q_1),(dI left_2),.pt 0 0,.pt 1 0,.pt 3 0] [.var [(dI v_3)],.var [.sl 2 1 0 (List.length l_4)],.arr 1 (List.map .d (List.map eB l_4)),.var [.fn 55 [.pt 0 0,.pt 1 0,.pt 3 0]]] (fun rs Bs=>∃ r_5:TPlan,∃ r_6:Bool,∃ b_7:Int,∃ l_8:List Bool,q=some (r_5,r_6,b_7,l_8)∧rs=[(eTPlan r_5),(.b r_6)]∧Bs=[.var [(dI b_7)],.var [.sl 2 1 0 (List.length l_8)],.arr 1 (List.map .d (List.map eB l_8)),.var [.fn 55 [.pt 0 0,.pt 1 0,.pt 3 0]]]) (fun pv=>pv=(.iface 38 (.int .i64 3))∧q=none):=by
 refine MCP.of_tr (cx:=⟨73,none,lay,4⟩) layOK func55 rfl rfl rfl rfl rfl (by simp [f55]) ?_
 refine Tr.unW ?_
 unfold M242 at h
 refine sg ?_
 conv=>whnf
 refine Tr.scope ?_
 refine Tr.seq ?_
 refine sg ?_
 conv=>whnf
 refine Tr.cond ?_
 conv=>whnf
 refine cB h (fun hb9 h=>?_) (fun hb9 h=>?_)
 ·refine Tr.regionP layOK ?_
  conv=>whnf
  refine .inr ⟨_,rfl,by kernel_rfl,?_⟩
  conv=>whnf
  refine .inr ⟨_,_,rfl,?_⟩
  conv=>whnf
  refine endH ?_
  conv=>whnf
  cases h
  exact ⟨_,rfl,rfl,rfl⟩
 refine Tr.skip ?_
 conv=>whnf
 refine sg ?_
 conv=>whnf
 refine arS_raw ?_
 conv=>whnf
 refine Tr.seq ?_
 refine sg ?_
 conv=>whnf
 obtain ⟨r_10,hc11,h⟩:=bS h
 refine PC.ecall (P232 q_1 r_10 hc11) (fun rs hrs=>?_)
 subst hrs
 conv=>whnf
 refine Tr.cond ?_
 conv=>whnf
 refine cB h (fun hb12 h=>?_) (fun hb12 h=>?_)
 ·refine sg ?_
  conv=>whnf
  obtain ⟨r_13,hc14,h⟩:=bS h
  refine PC.ecall (P233 r_13 hc14) (fun rs hrs=>?_)
  subst hrs
  conv=>whnf
  refine Tr.ret ?_
  conv=>whnf
  refine endH ?_
  conv=>whnf
  cases h
  exact ⟨[.var [(dI (w64 (v_3 - 1)))],.var [.sl 2 1 0 (List.length l_4)],.arr 1 (List.map .d (List.map eB l_4)),.var [.fn 55 [.pt 0 0,.pt 1 0,.pt 3 0]]],rfl,rfl,⟨rfl,rfl,⟨_,rfl⟩,rfl,trivial⟩,_,_,_,_,rfl,rfl,rfl⟩
 refine Tr.skip ?_
 conv=>whnf
 refine Tr.seq ?_
 refine Tr.label ?_
 conv=>whnf
 refine Tr.seq ?_
 refine sg ?_
 conv=>whnf
 refine lnS_map ?_
 conv=>whnf
 refine Tr.cutQ (α:=Int × List Bool) (fun s=>([(7,.pt 4 0),(8,.d (.b false))],[some (.var [(dI s.1)]),some (.var [.sl 2 1 0 (List.length s.2)]),some (.arr 1 (List.map .d (List.map eB s.2))),some (.var [.fn 55 [.pt 0 0,.pt 1 0,.pt 3 0]]),some (.var [(dI 0),.nsl])])) (fun s=>M241 s.1 s.2=some q) ?_ ?_
 ·refine Tr.block ?_
  refine Tr.loopM (σ:=Int × Int × List Bool) (fun n s=>M240 q_1 left_2 rc_9111 M241 n s.1 s.2.1 s.2.2) q (fun s=>([(3,.pt 1 0),(4,.pt 3 0),(5,.pt 4 0),(6,.pt 5 0),(7,.pt 6 0),(8,.d (.b false)),(26,(dI (((q_1.Looks).length:Int)))),(27,(dI s.1))],[some (.var [(dI s.2.1)]),some (.var [.sl 2 1 0 (List.length s.2.2)]),some (.arr 1 (List.map .d (List.map eB s.2.2))),some (.var [.fn 55 [.pt 0 0,.pt 1 0,.pt 3 0]]),some (.var [.d (.ls (List.map eTSegment q_1.Field.Clocks.Segments)),.d (.ls (List.map (eL eI) q_1.Field.Clocks.Far)),.d (.ls (List.map eTPair q_1.Field.Pairs)),.d (.ls (List.map eTRunner q_1.Field.Runners)),(dI q_1.Runner),.d (.ls (List.map eTLook q_1.Looks))]),some (.var [(dI left_2)]),some (.var [(dI 0),.nsl])])) (((((q_1.Looks).length:Int)) - 0:Int).toNat+1) (0,(w64 (v_3 - 1)),l_4) h (fun s=>rfl) (Wk.mk2 [0,1,2,3,4,5,6] 7 rfl rfl (by decide) rfl ⟨rr,rr,daS_d rfl,rr,rr,rr,rr,trivial⟩ ⟨rr,rr,rr,rr,rr,rr,rr,rr,trivial⟩) ?_
  clear h
  rintro n_21 ⟨v_18,v_19,l_20⟩ h
  replace h:M240 q_1 left_2 rc_9111 M241 (n_21+1) v_18 v_19 l_20=some q:=h
  rw [M240] at h
  refine sg ?_
  conv=>whnf
  refine Tr.seq ?_
  refine Tr.cond ?_
  conv=>whnf
  refine cB h (fun hb26 h=>?_) (fun hb26 h=>?_)
  ·refine Tr.skip ?_
   conv=>whnf
   refine Tr.seq ?_
   refine Tr.block ?_
   refine sg ?_
   conv=>whnf
   refine Tr.seq ?_
   refine sg ?_
   conv=>whnf
   obtain ⟨x_27,hx_27,h⟩:=bS h
   refine ixS_of hx_27 rfl ?_
   conv=>whnf
   refine elP_of hx_27 ?_
   conv=>whnf
   refine cB h (fun hb28 h=>?_) (fun hb28 h=>?_)
   ·conv=>whnf
    refine Tr.cond ?_
    conv=>whnf
    refine Tr.exit ?_
    conv=>whnf
    refine rg ?_
    conv=>whnf
    refine arS_raw ?_
    conv=>whnf
    refine ⟨((w64 (v_18+1)),v_19,l_20),h,?_⟩
    exact Wk.mk2 [0,1,2,3,4,5,6] 8 rfl rfl (by decide) rfl ⟨rr,rr,daS_d rfl,rr,rr,rr,rr,trivial⟩ ⟨rr,rr,rr,rr,rr,rr,rr,rr,trivial⟩
   conv=>whnf
   refine Tr.cond ?_
   conv=>whnf
   refine cB h (fun hb29 h=>?_) (fun hb29 h=>?_)
   ·refine Tr.exit ?_
    conv=>whnf
    refine rg ?_
    conv=>whnf
    refine arS_raw ?_
    conv=>whnf
    refine ⟨((w64 (v_18+1)),v_19,l_20),h,?_⟩
    exact Wk.mk2 [0,1,2,3,4,5,6] 8 rfl rfl (by decide) rfl ⟨rr,rr,daS_d rfl,rr,rr,rr,rr,trivial⟩ ⟨rr,rr,rr,rr,rr,rr,rr,rr,trivial⟩
   refine Tr.skip ?_
   conv=>whnf
   refine sg ?_
   conv=>whnf
   refine ECall.of_tr (cx:=⟨25,none,lay,8⟩) layOK func53 rfl rfl rfl rfl rfl (by simp [f53]) ?_
   refine sg ?_
   conv=>whnf
   refine sg ?_
   conv=>whnf
   refine orB_l ?_
   conv=>whnf
   refine Tr.seq ?_
   refine sg ?_
   conv=>whnf
   obtain ⟨x_30,hx_30,h⟩:=bS h
   refine ixP_of hx_30 ?_
   conv=>whnf
   refine lnS_map ?_
   conv=>whnf
   obtain ⟨l_36,hv43,h⟩:=bS h
   refine Tr.cutQ1 ([(4,.pt 8 0),(5,.pt 9 0)]) ([some (.var [(dI v_19)]),some (.var [.sl 2 1 0 (List.length l_20)]),some (.arr 1 (List.map .d (List.map eB l_20))),some (.var [.fn 55 [.pt 0 0,.pt 1 0,.pt 3 0]]),some (.var [.d (.ls (List.map eTSegment q_1.Field.Clocks.Segments)),.d (.ls (List.map (eL eI) q_1.Field.Clocks.Far)),.d (.ls (List.map eTPair q_1.Field.Pairs)),.d (.ls (List.map eTRunner q_1.Field.Runners)),(dI q_1.Runner),.d (.ls (List.map eTLook q_1.Looks))]),some (.var [(dI left_2)]),some (.var [(dI 0),.nsl]),some (.var [(dI v_18)]),some (.var [(dI 0),.nsl]),some (.var [(dI v_18),.sl 10 2 0 (List.length l_36)]),some (.arr 2 (List.map .d (List.map eTPlan0 l_36)))]) ?_ (fun T1 H1 hw=>?_)
   ·replace h:=hv43; clear hv43
    refine Tr.block ?_
    refine Tr.loopM (σ:=Int × List TPlan0) (fun n s=>M238 x_30 n s.1 s.2) l_36 (fun s=>([(4,.pt 8 0),(5,.pt 9 0),(14,(dI (((x_30.Answers).length:Int)))),(15,(dI s.1))],[some (.var [(dI v_19)]),some (.var [.sl 2 1 0 (List.length l_20)]),some (.arr 1 (List.map .d (List.map eB l_20))),some (.var [.fn 55 [.pt 0 0,.pt 1 0,.pt 3 0]]),some (.var [.d (.ls (List.map eTSegment q_1.Field.Clocks.Segments)),.d (.ls (List.map (eL eI) q_1.Field.Clocks.Far)),.d (.ls (List.map eTPair q_1.Field.Pairs)),.d (.ls (List.map eTRunner q_1.Field.Runners)),(dI q_1.Runner),.d (.ls (List.map eTLook q_1.Looks))]),some (.var [(dI left_2)]),some (.var [(dI 0),.nsl]),some (.var [(dI v_18)]),some (.var [(dI 0),.nsl]),some (.var [(dI v_18),.sl 10 2 0 (List.length s.2)]),some (.arr 2 (List.map .d (List.map eTPlan0 s.2)))])) (((((x_30.Answers).length:Int)) - 0:Int).toNat+1) (0,(([]:List TPlan0))) h (fun s=>rfl) (Wk.mk2 [0,1,2,3,4,5,6,7,9,10,11] 11 rfl rfl (by decide) rfl ⟨rr,rr,daS_d rfl,rr,rr,rr,rr,rr,rr,⟨rfl,(by first | rfl | (simp only [↓hb9,↓hb12,↓hb26,↓hb28,↓hb29,bl,List.length_set]; done) | (simp only [↓hb9,↓hb12,↓hb26,↓hb28,↓hb29,bl,List.length_set]; rfl))⟩,rfl,trivial⟩ ⟨⟨rfl,(by first | rfl | (simp only [↓hb9,↓hb12,↓hb26,↓hb28,↓hb29,bl,List.length_set]; done) | (simp only [↓hb9,↓hb12,↓hb26,↓hb28,↓hb29,bl,List.length_set]; rfl))⟩,⟨rfl,(by first | rfl | (simp only [↓hb9,↓hb12,↓hb26,↓hb28,↓hb29,bl,List.length_set]; done) | (simp only [↓hb9,↓hb12,↓hb26,↓hb28,↓hb29,bl,List.length_set]; rfl))⟩,rr,rr,trivial⟩) ?_
    clear h
    rintro n_35 ⟨v_33,l_34⟩ h
    replace h:M238 x_30 (n_35+1) v_33 l_34=some l_36:=h
    rw [M238] at h
    refine sg ?_
    conv=>whnf
    refine Tr.seq ?_
    refine Tr.cond ?_
    conv=>whnf
    refine cB h (fun hb39 h=>?_) (fun hb39 h=>?_)
    ·refine Tr.skip ?_
     conv=>whnf
     refine Tr.seq ?_
     refine Tr.block ?_
     refine dq [(4,10),(6,9)] [(0,12),(1,12),(2,1),(3,1),(4,0),(5,12),(6,0)] ?_
     conv=>whnf
     refine q2 ?_
     conv=>whnf
     refine q2 ?_
     conv=>whnf
     obtain ⟨r_40,hc41,h⟩:=bS h
     refine q1 ?_ (fun _=>pe (P233 r_40 hc41) rr)
     conv=>whnf
     refine q1 ?_ (fun _=>orB_r rr)
     conv=>whnf
     obtain ⟨l_42,hl_42,h⟩:=bS h
     refine ⟨_,_,(by (conv=>whnf); (refine frP_no ?_); (conv=>whnf); (refine eqS_mk (by first | rfl | simp) ?_); (conv=>whnf); (refine apS_of hl_42 (aQ (f:=eTPlan0) (l:=(([(pTPlan r_40)]:List TPlan0))) fun _=>rfl) (by first | rfl | simp) (by first | rfl | simp) (fun he=>?_)); (conv=>whnf); (refine rS (es':=List.map .d (List.map eTPlan0 l_42)) (n':=List.length l_42) (by subst he; simp only [List.map_append,List.map_cons,List.map_nil,List.nil_append]; first | done | rfl) (by subst he; simp <;> omega) ?_); (clear he); (conv=>whnf); (exact rr)),kp_ok (by repeat (first | exact trivial | refine ⟨trivial,?_⟩ | refine ⟨rfl,?_⟩)),?_⟩
     conv=>whnf
     refine q2 ?_
     conv=>whnf
     refine ⟨_,_,(by (conv=>whnf); (refine orB_l ?_); (conv=>whnf); (exact rr)),kp_ok (by repeat (first | exact trivial | refine ⟨trivial,?_⟩ | refine ⟨rfl,?_⟩)),?_⟩
     conv=>whnf
     refine rg ?_
     conv=>whnf
     refine arS_raw ?_
     conv=>whnf
     refine ⟨((w64 (v_33+1)),l_42),h,?_⟩
     exact Wk.mk2 [0,1,2,3,4,5,6,7,8,9,11] 12 rfl rfl (by decide) rfl ⟨rr,rr,daS_d rfl,rr,rr,rr,rr,rr,rr,⟨rfl,(by first | rfl | (simp only [↓hb9,↓hb12,↓hb26,↓hb28,↓hb29,↓hb39,bl,List.length_set]; done) | (simp only [↓hb9,↓hb12,↓hb26,↓hb28,↓hb29,↓hb39,bl,List.length_set]; rfl))⟩,daS_d rfl,trivial⟩ ⟨rr,rr,rr,rr,trivial⟩
    refine Tr.exit ?_
    conv=>whnf
    cases h
    exact Wk.mk2 [0,1,2,3,4,5,6,7,8,9,10] 11 rfl rfl (by decide) rfl ⟨rr,rr,daS_d rfl,rr,rr,rr,rr,rr,rr,rr,daS_d rfl,trivial⟩ ⟨rr,rr,trivial⟩
   clear hv43
   conv=>whnf
   refine Tr.weak hw ?_
   refine sg ?_
   conv=>whnf
   refine orB_l ?_
   conv=>whnf
   refine Tr.ret ?_
   conv=>whnf
   refine orB_l ?_
   conv=>whnf
   refine sg ?_
   conv=>whnf
   obtain ⟨x_44,hx_44,h⟩:=bS h
   refine ixS_of hx_44 rfl ?_
   conv=>whnf
   refine elP_of hx_44 ?_
   conv=>whnf
   refine lvS_mk (es':=List.map .d (List.map eB (List.set l_20 (Int.toNat v_18) true))) (by simp only [Nat.zero_add,List.map_set]; first | done | rfl) ?_
   conv=>whnf
   refine Tr.seq ?_
   refine sg ?_
   conv=>whnf
   obtain ⟨⟨c_45,c_46,c_47,c_48,c_49,c_50,c_51⟩,hc52,h⟩:=bS h
   refine PC.ecall (P234 q_1 v_18 c_45 c_46 c_47 c_48 c_49 c_50 c_51 hc52) (fun rs hrs=>?_)
   subst hrs
   conv=>whnf
   obtain ⟨l_53,hl54,h⟩:=bS h
   obtain ⟨q_85,hv81,h⟩:=bS h
   refine Tr.block ?_
   refine Tr.rangeP (σ:=Int × List Bool × List TPlan0) (ρ:=Int × List Bool × List TPlan0) layOK rfl (ge:=fun a=>[(.i .i64 a.1),(eTQuestion a.2)]) rfl (P237 c_45 c_46 c_47 c_48 c_49 c_50 c_51 l_53 hl54) (fun _=>rfl) rfl ((.iface 38 (.int .i64 3))) (fun s=>[some (.var [(dI s.1)]),some (.var [.sl 2 1 0 (List.length s.2.1)]),some (.arr 1 (List.map .d (List.map eB s.2.1))),some (.var [.fn 55 [.pt 0 0,.pt 1 0,.pt 3 0]]),some (.var [.d (.ls (List.map eTSegment q_1.Field.Clocks.Segments)),.d (.ls (List.map (eL eI) q_1.Field.Clocks.Far)),.d (.ls (List.map eTPair q_1.Field.Pairs)),.d (.ls (List.map eTRunner q_1.Field.Runners)),(dI q_1.Runner),.d (.ls (List.map eTLook q_1.Looks))]),some (.var [(dI left_2)]),some (.var [(dI 0),.nsl]),some (.var [(dI v_18)]),some (.var [(dI v_18),.sl 10 2 0 (List.length s.2.2)]),some (.var [(dI v_18),.sl 10 2 0 (List.length s.2.2)]),some (.arr 2 (List.map .d (List.map eTPlan0 s.2.2))),some (.var [(dI v_18),.sl 10 2 0 (List.length s.2.2)])]) (fun s=>[some (.var [(dI s.1)]),some (.var [.sl 2 1 0 (List.length s.2.1)]),some (.arr 1 (List.map .d (List.map eB s.2.1))),some (.var [.fn 55 [.pt 0 0,.pt 1 0,.pt 3 0]]),some (.var [.d (.ls (List.map eTSegment q_1.Field.Clocks.Segments)),.d (.ls (List.map (eL eI) q_1.Field.Clocks.Far)),.d (.ls (List.map eTPair q_1.Field.Pairs)),.d (.ls (List.map eTRunner q_1.Field.Runners)),(dI q_1.Runner),.d (.ls (List.map eTLook q_1.Looks))]),some (.var [(dI left_2)]),some (.var [(dI 0),.nsl]),some (.var [(dI v_18)]),some (.var [(dI v_18),.sl 10 2 0 (List.length s.2.2)]),some (.var [(dI v_18),.sl 10 2 0 (List.length s.2.2)]),some (.arr 2 (List.map .d (List.map eTPlan0 s.2.2))),some (.var [(dI v_18),.sl 10 2 0 (List.length s.2.2)])]) [none,none,none,none,none,none,none,none,none,none,none,none] (.exit 1) (.inr ⟨_,rfl⟩) (M239 left_2 v_18 rc_9111) (v_19,(List.set l_20 (Int.toNat v_18) true),l_36) q_85 hv81 (Wk.mk2 [0,1,2,3,4,5,6,7,8,9,10,11] 12 rfl rfl (by decide) rfl ⟨⟨rfl,rfl⟩,⟨rfl,(by first | rfl | (simp only [↓hb9,↓hb12,↓hb26,↓hb28,↓hb29,bl,List.length_set]; done) | (simp only [↓hb9,↓hb12,↓hb26,↓hb28,↓hb29,bl,List.length_set]; rfl))⟩,daS_d rfl,⟨rfl,rfl⟩,⟨rfl,rfl⟩,⟨rfl,rfl⟩,⟨rfl,rfl⟩,⟨rfl,rfl⟩,⟨rfl,rfl⟩,⟨rfl,rfl⟩,daS_d rfl,⟨rfl,rfl⟩,trivial⟩ trivial) ?_ ?_
   ·clear h hv81
    rintro li ⟨y_55,y_56⟩ ⟨v_60,l_61,l_62⟩ s_66 ha h
    replace h:(M239 left_2 v_18 rc_9111) (y_55,y_56) (v_60,l_61,l_62)=some s_66:=h
    unfold M239 at h
    dsimp only at h
    conv=>whnf
    refine TrE.seq ?_
    refine TrE.region layOK ?_
    conv=>whnf
    refine TrE.region layOK ?_
    conv=>whnf
    refine Tr.block ?_
    refine Tr.seq ?_
    refine Tr.regionP layOK ?_
    conv=>whnf
    refine .inl ?_
    conv=>whnf
    refine .inl ?_
    conv=>whnf
    refine .inl ?_
    conv=>whnf
    refine .inl ?_
    conv=>whnf
    refine arS_raw ?_
    conv=>whnf
    obtain ⟨q_71,hc72,h⟩:=bS h
    refine .inr ?_
    conv=>whnf
    refine MCP.ecall (ih_9111 y_56 ((w64 (left_2 - 1))) v_60 l_61 q_71 hc72) [0,1,2,3] (by decide) rfl rfl ?_ (fun rs Bs1 hrs=>?_) (fun pv hpv=>?_)
    · exact ⟨⟨rfl,rfl⟩,⟨rfl,rfl⟩,⟨⟨_,rfl⟩,rfl⟩,⟨rfl,rfl⟩,trivial⟩
    rotate_left
    ·obtain ⟨rfl,rfl⟩:=hpv
     rw [onP_none] at h
     conv=>whnf
     cases h
     refine ⟨rfl,?_⟩
     exact Wk.mk2 [0,1,2,3,14,16,18,20,22,24,26,28] 13 rfl rfl (by decide) rfl trivial trivial
    obtain ⟨r_67,r_68,b_69,l_70,rfl,rfl,rfl⟩:=hrs
    rw [onP_some] at h
    conv=>whnf
    obtain ⟨_,hl73,h⟩:=bS h
    refine .inl ?_
    conv=>whnf
    refine .inl ?_
    conv=>whnf
    refine .inl ?_
    conv=>whnf
    refine .inl ?_
    conv=>whnf
    refine .inl ?_
    conv=>whnf
    refine .inl ?_
    conv=>whnf
    refine Tr.seq ?_
    refine sg ?_
    conv=>whnf
    refine Tr.cond ?_
    conv=>whnf
    refine cB h (fun hb74 h=>?_) (fun hb74 h=>?_)
    ·refine sg ?_
     conv=>whnf
     obtain ⟨x_75,hx_75,h⟩:=bS h
     refine ixS_of hx_75 (by first | rfl | simp [lenIs_eq hl73]) ?_
     conv=>whnf
     refine elP_of hx_75 ?_
     conv=>whnf
     refine lvS_mk (es':=List.map .d (List.map eB (List.set l_70 (Int.toNat v_18) false))) (by simp only [Nat.zero_add,List.map_set]; first | done | rfl) ?_
     conv=>whnf
     refine Tr.exit ?_
     conv=>whnf
     cases h
     refine ⟨rfl,?_⟩
     exact Wk.mk2 [0,1,2,3,4,5,6,7,8,9,10,11] 14 rfl rfl (by decide) rfl ⟨rr,⟨rfl,(by first | rfl | (simp only [↓hb9,↓hb12,↓hb26,↓hb28,↓hb29,↓hb74,bl,List.length_set]; done) | (simp only [↓hb9,↓hb12,↓hb26,↓hb28,↓hb29,↓hb74,bl,List.length_set]; rfl))⟩,daS_d rfl,rr,rr,rr,rr,rr,rr,rr,daS_d rfl,rr,trivial⟩ trivial
    refine Tr.skip ?_
    conv=>whnf
    refine rg ?_
    conv=>whnf
    obtain ⟨x_76,hx_76,h⟩:=bS h
    refine ixS_of hx_76 rfl ?_
    conv=>whnf
    refine elP_of hx_76 ?_
    conv=>whnf
    refine lvS_mk (es':=List.map .d (List.map eTPlan0 (List.set l_62 (Int.toNat y_55) (pTPlan r_67)))) (by simp only [Nat.zero_add,List.map_set]; first | done | rfl) ?_
    conv=>whnf
    cases h
    refine ⟨rfl,?_⟩
    exact Wk.mk2 [0,1,2,3,4,5,6,7,8,9,10,11] 14 rfl rfl (by decide) rfl ⟨rr,⟨rfl,(by first | rfl | (simp only [↓hb9,↓hb12,↓hb26,↓hb28,↓hb29,↓hb74,bl,List.length_set]; done) | (simp only [↓hb9,↓hb12,↓hb26,↓hb28,↓hb29,↓hb74,bl,List.length_set]; rfl))⟩,daS_d rfl,rr,rr,rr,rr,rr,⟨rfl,(by first | rfl | (simp only [↓hb9,↓hb12,↓hb26,↓hb28,↓hb29,↓hb74,bl,List.length_set]; done) | (simp only [↓hb9,↓hb12,↓hb26,↓hb28,↓hb29,↓hb74,bl,List.length_set]; rfl))⟩,⟨rfl,(by first | rfl | (simp only [↓hb9,↓hb12,↓hb26,↓hb28,↓hb29,↓hb74,bl,List.length_set]; done) | (simp only [↓hb9,↓hb12,↓hb26,↓hb28,↓hb29,↓hb74,bl,List.length_set]; rfl))⟩,daS_d rfl,⟨rfl,(by first | rfl | (simp only [↓hb9,↓hb12,↓hb26,↓hb28,↓hb29,↓hb74,bl,List.length_set]; done) | (simp only [↓hb9,↓hb12,↓hb26,↓hb28,↓hb29,↓hb74,bl,List.length_set]; rfl))⟩,trivial⟩ trivial
   clear hv81
   rcases q_85 with _ | (⟨v_77,l_78,l_79⟩ | ⟨v_82,l_83,l_84⟩)
   ·dsimp only at h
    conv=>whnf
    refine endH ?_
    conv=>whnf
    cases h
    exact ⟨_,rfl,rfl,rfl⟩
   ·dsimp only at h
    conv=>whnf
    refine sg ?_
    conv=>whnf
    obtain ⟨x_80,hx_80,h⟩:=bS h
    refine ixS_of hx_80 (by first | rfl | simp) ?_
    conv=>whnf
    refine elP_of hx_80 ?_
    conv=>whnf
    refine lvS_mk (es':=List.map .d (List.map eB (List.set l_78 (Int.toNat v_18) false))) (by simp only [Nat.zero_add,List.map_set]; first | done | rfl) ?_
    conv=>whnf
    refine sg ?_
    conv=>whnf
    refine orB_l ?_
    conv=>whnf
    refine Tr.ret ?_
    conv=>whnf
    refine endH ?_
    conv=>whnf
    refine frE_of (f:=eTPlan0) (l:=l_79) rfl ?_
    conv=>whnf
    cases h
    exact ⟨[.var [(dI v_77)],.var [.sl 2 1 0 (List.length (List.set l_78 (Int.toNat v_18) false))],.arr 1 (List.map .d (List.map eB (List.set l_78 (Int.toNat v_18) false))),.var [.fn 55 [.pt 0 0,.pt 1 0,.pt 3 0]]],rfl,(by first | rfl | (simp only [List.length_set]; rfl) | simp [List.length_set]),⟨rfl,rfl,⟨_,rfl⟩,rfl,trivial⟩,_,_,_,_,rfl,rfl,rfl⟩
   dsimp only at h
   conv=>whnf
   refine rg ?_
   conv=>whnf
   refine arS_raw ?_
   conv=>whnf
   refine ⟨((w64 (v_18+1)),v_82,l_83),h,?_⟩
   exact Wk.mk2 [0,1,2,3,4,5,6] 12 rfl rfl (by decide) rfl ⟨rr,⟨rfl,(by first | rfl | (simp only [↓hb9,↓hb12,↓hb26,↓hb28,↓hb29,bl,List.length_set]; done) | (simp only [↓hb9,↓hb12,↓hb26,↓hb28,↓hb29,bl,List.length_set]; rfl))⟩,daS_d rfl,rr,rr,rr,rr,trivial⟩ ⟨rr,rr,rr,rr,rr,rr,rr,rr,trivial⟩
  refine Tr.exit ?_
  conv=>whnf
  refine ⟨(v_19,l_20),h,?_⟩
  exact Wk.mk2 [0,1,2,3,6] 7 rfl rfl (by decide) rfl ⟨rr,rr,daS_d rfl,rr,rr,trivial⟩ ⟨⟨rfl,(by first | rfl | (simp only [↓hb9,↓hb12,↓hb26,bl,List.length_set]; done) | (simp only [↓hb9,↓hb12,↓hb26,bl,List.length_set]; rfl))⟩,rr,trivial⟩
 clear h
 rintro ⟨v_22,l_23⟩ h T1 H1 hw
 replace h:M241 v_22 l_23=some q:=h
 conv=>whnf
 refine Tr.weak hw ?_
 unfold M241 at h
 refine sg ?_
 conv=>whnf
 refine orB_l ?_
 conv=>whnf
 refine Tr.ret ?_
 conv=>whnf
 refine endH ?_
 conv=>whnf
 cases h
 exact ⟨[.var [(dI v_22)],.var [.sl 2 1 0 (List.length l_23)],.arr 1 (List.map .d (List.map eB l_23)),.var [.fn 55 [.pt 0 0,.pt 1 0,.pt 3 0]]],rfl,rfl,⟨rfl,rfl,⟨_,rfl⟩,rfl,trivial⟩,_,_,_,_,rfl,rfl,rfl⟩
theorem P243 (n:Nat):∀ (q_1:TQuestion) (left_2:Int) (v_3:Int) (l_4:List Bool) (q:Option (TPlan × Bool × Int × List Bool)),M243 n q_1 left_2 v_3 l_4=some q→MCP prog 55 [.d (eTQuestion q_1),(dI left_2),.pt 0 0,.pt 1 0,.pt 3 0] [.var [(dI v_3)],.var [.sl 2 1 0 (List.length l_4)],.arr 1 (List.map .d (List.map eB l_4)),.var [.fn 55 [.pt 0 0,.pt 1 0,.pt 3 0]]] (fun rs Bs=>∃ r_5:TPlan,∃ r_6:Bool,∃ b_7:Int,∃ l_8:List Bool,q=some (r_5,r_6,b_7,l_8)∧rs=[(eTPlan r_5),(.b r_6)]∧Bs=[.var [(dI b_7)],.var [.sl 2 1 0 (List.length l_8)],.arr 1 (List.map .d (List.map eB l_8)),.var [.fn 55 [.pt 0 0,.pt 1 0,.pt 3 0]]]) (fun pv=>pv=(.iface 38 (.int .i64 3))∧q=none):=by
 induction n with
 | zero =>
  intros
  rename_i h
  cases h
 | succ n ih=>exact P242 (M243 n) ih
theorem dr_looks_Least (H:Hp):DefR prog 54 [2,3,4] H:=by
 refine DefR.of_tr (cx:=⟨10,none,lay,H.length⟩) layOK rfl func54 rfl rfl rfl (by decide) 4 3 rfl rfl rfl rfl rfl rfl rfl rfl rfl ?_
 conv=>whnf
 refine TrE.seq ?_
 refine TrE.regionP layOK ?_
 conv=>whnf
 refine .inl ?_
 conv=>whnf
 refine .inr ⟨rfl,rfl,by kernel_rfl,.inr ⟨rfl,?_⟩⟩
 conv=>whnf
 refine TrE.cond ?_
 conv=>whnf
 refine TrE.skip ?_
 conv=>whnf
theorem P246 (q_1:TQuestion) (budget_2:Int) (r_3:TPlan) (r_4:Int) (r_5:Int) (h:M246 q_1 budget_2=some (r_3,r_4,r_5)) :
    PC prog 26 [(eTQuestion q_1),(.i .i64 budget_2)] (fun rs=>rs=[(eTPlan r_3),(.i .i64 r_4),(.i .i64 r_5)]):=by
 refine PC.of_trF (cx:=⟨52,none,lay,0⟩) layOK func26 rfl rfl rfl rfl rfl (by simp [f26]) ?_
 unfold M246 at h
 refine TrF.seq layOK ?_
 refine TrE.region layOK ?_
 conv=>whnf
 refine TrF.seq layOK ?_
 refine TrE.seq ?_
 refine TrE.region layOK ?_
 conv=>whnf
 obtain ⟨r_6,hc7,h⟩:=bS h
 refine PC.ecall (P221 q_1 r_6 hc7) (fun rs hrs=>?_)
 subst hrs
 conv=>whnf
 refine TrE.seq ?_
 refine TrE.region layOK ?_
 conv=>whnf
 refine TrE.cond ?_
 conv=>whnf
 refine cB h (fun hb8 h=>?_) (fun hb8 h=>?_)
 ·refine TrE.seq ?_
  refine TrE.region layOK ?_
  conv=>whnf
  refine orB_l ?_
  conv=>whnf
  refine TrE.ret ?_
  conv=>whnf
  cases h
  rfl
 refine TrE.skip ?_
 conv=>whnf
 refine TrF.seq layOK ?_
 refine TrE.seq ?_
 refine TrE.region layOK ?_
 conv=>whnf
 refine cB h (fun hb9 h=>?_) (fun hb9 h=>?_)
 ·conv=>whnf
  refine TrE.cond ?_
  conv=>whnf
  refine TrE.seq ?_
  refine TrE.region layOK ?_
  conv=>whnf
  refine orB_l ?_
  conv=>whnf
  refine TrE.ret ?_
  conv=>whnf
  cases h
  rfl
 conv=>whnf
 refine TrE.cond ?_
 conv=>whnf
 refine cB h (fun hb10 h=>?_) (fun hb10 h=>?_)
 ·refine TrE.seq ?_
  refine TrE.region layOK ?_
  conv=>whnf
  refine orB_l ?_
  conv=>whnf
  refine TrE.ret ?_
  conv=>whnf
  cases h
  rfl
 refine TrE.skip ?_
 conv=>whnf
 refine TrF.defer layOK rfl 54 [2,3,4] 26 rfl rfl rfl ?_ rfl rfl rfl ⟨_,_,func54,rfl,rfl⟩ (fun I=>?_)
 ·conv=>whnf
  exact ⟨rfl,rfl⟩
 conv=>whnf
 refine Tr.seq ?_
 refine Tr.region layOK ?_
 conv=>whnf
 refine lnS_map ?_
 conv=>whnf
 obtain ⟨n_11,hn_11,h⟩:=bS h
 refine msS_of hn_11 rfl ?_
 conv=>whnf
 refine rS (es':=List.map .d (List.map eB (List.replicate n_11 false))) (n':=List.length ((List.replicate n_11 false):List Bool)) (by simp only [List.map_replicate]; first | done | rfl) (by simp) ?_
 conv=>whnf
 refine orB_l ?_
 conv=>whnf
 refine Tr.seq ?_
 refine Tr.region layOK ?_
 conv=>whnf
 refine Tr.seq ?_
 refine Tr.region layOK ?_
 conv=>whnf
 refine orB_l ?_
 conv=>whnf
 refine Tr.seq ?_
 refine Tr.seq ?_
 refine Tr.region layOK ?_
 conv=>whnf
 refine lnS_map ?_
 conv=>whnf
 refine arS_raw ?_
 conv=>whnf
 refine Tr.cutQ (α:=Int) (fun s=>([(4,.pt 2 0),(5,.pt 3 0),(6,.pt 4 0)],[some (.var [.d (.ls (List.map eTSegment q_1.Field.Clocks.Segments)),.d (.ls (List.map (eL eI) q_1.Field.Clocks.Far)),.d (.ls (List.map eTPair q_1.Field.Pairs)),.d (.ls (List.map eTRunner q_1.Field.Runners)),(dI q_1.Runner),.d (.ls (List.map eTLook q_1.Looks))]),some (.var [(dI s)]),some (.var [(dI 0),.nsl]),some (.var [(dI 0)]),some (.var [(dI 0)])])) (fun s=>M245 s=some (r_3,r_4,r_5)) ?_ ?_
 ·refine Tr.block ?_
  refine Tr.loopM (σ:=Int × Int × List Bool) (fun n s=>M244 q_1 M245 n s.1 s.2.1 s.2.2) (r_3,r_4,r_5) (fun s=>([(2,.pt 0 0),(4,.pt 2 0),(5,.pt 3 0),(6,.pt 4 0),(9,.pt 5 0),(36,(dI (w64 ((minG 6 (((q_1.Looks).length:Int)))+1)))),(37,(dI s.1))],[some (.var [.d (.ls (List.map eTSegment q_1.Field.Clocks.Segments)),.d (.ls (List.map (eL eI) q_1.Field.Clocks.Far)),.d (.ls (List.map eTPair q_1.Field.Pairs)),.d (.ls (List.map eTRunner q_1.Field.Runners)),(dI q_1.Runner),.d (.ls (List.map eTLook q_1.Looks))]),some (.var [(dI s.2.1)]),some (.var [(dI 0),.nsl]),some (.var [(dI 0)]),some (.var [(dI 0)]),some (.var [.fn 55 [.pt 1 0,.pt 6 0,.pt 5 0]]),some (.var [.sl 7 1 0 (List.length s.2.2)]),some (.arr 1 (List.map .d (List.map eB s.2.2)))])) (((w64 ((minG 6 (((q_1.Looks).length:Int)))+1)) - 0:Int).toNat+1) (0,budget_2,(List.replicate n_11 false)) h (fun s=>rfl) (Wk.mk2 [0,1,2,3,4,7,6,5] 8 rfl rfl (by decide) rfl ⟨rr,rr,rr,rr,rr,⟨rfl,(by first | rfl | (simp only [↓hb8,↓hb9,↓hb10,bl,List.length_set]; done) | (simp only [↓hb8,↓hb9,↓hb10,bl,List.length_set]; rfl))⟩,⟨rfl,(by first | rfl | (simp only [↓hb8,↓hb9,↓hb10,bl,List.length_set]; done) | (simp only [↓hb8,↓hb9,↓hb10,bl,List.length_set]; rfl))⟩,daS_d rfl,trivial⟩ ⟨rr,rr,rr,rr,⟨rfl,(by first | rfl | (simp only [↓hb8,↓hb9,↓hb10,bl,List.length_set]; done) | (simp only [↓hb8,↓hb9,↓hb10,bl,List.length_set]; rfl))⟩,rr,rr,trivial⟩) ?_
  clear h
  rintro n_18 ⟨v_15,v_16,l_17⟩ h
  replace h:M244 q_1 M245 (n_18+1) v_15 v_16 l_17=some (r_3,r_4,r_5):=h
  rw [M244] at h
  refine Tr.seq ?_
  refine Tr.region layOK ?_
  conv=>whnf
  refine Tr.seq ?_
  refine Tr.cond ?_
  conv=>whnf
  refine cB h (fun hb22 h=>?_) (fun hb22 h=>?_)
  ·refine Tr.skip ?_
   conv=>whnf
   refine Tr.seq ?_
   refine Tr.block ?_
   refine Tr.seq ?_
   refine Tr.region layOK ?_
   conv=>whnf
   refine Tr.seq ?_
   refine Tr.regionP layOK ?_
   conv=>whnf
   refine .inl ?_
   conv=>whnf
   refine .inl ?_
   conv=>whnf
   refine .inl ?_
   conv=>whnf
   obtain ⟨q_27,hc28,h⟩:=bS h
   refine .inr ?_
   conv=>whnf
   refine MCP.ecall (P243 1000 q_1 v_15 v_16 l_17 q_27 hc28) [1,6,7,5] (by decide) rfl rfl ?_ (fun rs Bs1 hrs=>?_) (fun pv hpv=>?_)
   · exact ⟨⟨rfl,rfl⟩,⟨rfl,rfl⟩,⟨⟨_,rfl⟩,rfl⟩,⟨rfl,rfl⟩,trivial⟩
   rotate_left
   ·obtain ⟨rfl,rfl⟩:=hpv
    rw [onP_none] at h
    conv=>whnf
    refine ⟨_,rfl,?_⟩
    refine DefP.of_tr (cx:=⟨10,none,lay,8⟩) layOK rfl func54 rfl rfl rfl (by decide) 4 3 rfl rfl rfl rfl rfl rfl rfl rfl rfl ?_
    conv=>whnf
    refine TrE.seq ?_
    refine TrE.regionP layOK ?_
    conv=>whnf
    refine .inl ?_
    conv=>whnf
    refine .inr ⟨rfl,rfl,by kernel_rfl,.inl ⟨_,_,rfl,?_⟩⟩
    conv=>whnf
    refine TrE.cond ?_
    conv=>whnf
    refine TrE.draw layOK mixed [(3,2),(4,3),(5,4)] [(0,1),(1,1),(2,1),(3,0),(4,0),(5,0)] (by kernel_rfl) ?_
    conv=>whnf
    refine q1 ?_
    conv=>whnf
    refine q1 ?_
    conv=>whnf
    refine ⟨_,(fun _=>by (conv=>whnf); (refine ⟨_,(dI 3),rfl,by kernel_rfl,rfl,?_⟩); (conv=>whnf); (exact rr)),?_⟩
    conv=>whnf
    refine ⟨_,_,(by (conv=>whnf); (refine orB_l ?_); (conv=>whnf); (exact rr)),kp_ok (by repeat (first | exact trivial | refine ⟨trivial,?_⟩ | refine ⟨rfl,?_⟩)),?_⟩
    conv=>whnf
    refine ⟨_,_,rr,kp_ok (by repeat (first | exact trivial | refine ⟨trivial,?_⟩ | refine ⟨rfl,?_⟩)),?_⟩
    conv=>whnf
    refine ⟨_,_,rr,kp_ok (by repeat (first | exact trivial | refine ⟨trivial,?_⟩ | refine ⟨rfl,?_⟩)),?_⟩
    conv=>whnf
    cases h
    rfl
   obtain ⟨r_23,r_24,b_25,l_26,rfl,rfl,rfl⟩:=hrs
   rw [onP_some] at h
   conv=>whnf
   obtain ⟨_,hl29,h⟩:=bS h
   refine .inl ?_
   conv=>whnf
   refine .inl ?_
   conv=>whnf
   refine .inl ?_
   conv=>whnf
   refine .inl ?_
   conv=>whnf
   refine .inl ?_
   conv=>whnf
   refine .inl ?_
   conv=>whnf
   refine Tr.seq ?_
   refine Tr.region layOK ?_
   conv=>whnf
   refine Tr.cond ?_
   conv=>whnf
   refine cB h (fun hb30 h=>?_) (fun hb30 h=>?_)
   ·refine Tr.seq ?_
    refine Tr.region layOK ?_
    conv=>whnf
    refine Tr.ret ?_
    conv=>whnf
    refine ⟨dr_looks_Least _,?_⟩
    conv=>whnf
    cases h
    rfl
   refine Tr.skip ?_
   conv=>whnf
   refine Tr.region layOK ?_
   conv=>whnf
   refine arS_raw ?_
   conv=>whnf
   refine ⟨((w64 (v_15+1)),b_25,l_26),h,?_⟩
   exact Wk.mk2 [0,1,2,3,4,5,6,7] 9 rfl rfl (by decide) rfl ⟨rr,rr,rr,rr,rr,rr,⟨rfl,(by first | rfl | (simp only [↓hb8,↓hb9,↓hb10,↓hb22,↓hb30,bl,List.length_set]; done) | (simp only [↓hb8,↓hb9,↓hb10,↓hb22,↓hb30,bl,List.length_set]; rfl))⟩,daS_d rfl,trivial⟩ ⟨rr,rr,rr,rr,rr,rr,rr,trivial⟩
  refine Tr.exit ?_
  conv=>whnf
  refine ⟨(v_16),h,?_⟩
  exact Wk.mk2 [0,1,2,3,4] 8 rfl rfl (by decide) rfl ⟨rr,rr,rr,rr,rr,trivial⟩ ⟨rr,rr,rr,trivial⟩
 clear h
 rintro v_19 h T1 H1 hw
 replace h:M245 v_19=some (r_3,r_4,r_5):=h
 conv=>whnf
 refine Tr.weak hw ?_
 unfold M245 at h
 refine Tr.seq ?_
 refine Tr.region layOK ?_
 conv=>whnf
 refine orB_l ?_
 conv=>whnf
 refine Tr.ret ?_
 conv=>whnf
 refine ⟨dr_looks_Least _,?_⟩
 conv=>whnf
 cases h
 rfl
theorem P249 (q_1:TQuestion) (r_2:Bool) (h:M249 q_1=some r_2) :
    PC prog 10 [(eTQuestion q_1)] (fun rs=>rs=[(.b r_2)]):=by
 refine PC.of_tr (cx:=⟨105,none,lay,0⟩) layOK func10 rfl rfl rfl rfl rfl (by simp [f10]) ?_
 unfold M249 at h
 refine sg ?_
 conv=>whnf
 refine Tr.seq ?_
 refine sg ?_
 conv=>whnf
 obtain ⟨r_3,hc4,h⟩:=bS h
 refine PC.ecall (P131 r_3 hc4) (fun rs hrs=>?_)
 subst hrs
 conv=>whnf
 refine Tr.cond ?_
 conv=>whnf
 refine cB h (fun hb5 h=>?_) (fun hb5 h=>?_)
 ·refine sg ?_
  conv=>whnf
  refine Tr.ret ?_
  conv=>whnf
  cases h
  rfl
 refine Tr.skip ?_
 conv=>whnf
 refine Tr.seq ?_
 refine sg ?_
 conv=>whnf
 obtain ⟨r_6,hc7,h⟩:=bS h
 refine PC.ecall_lend ?_ ⟨_,_,func12,rfl,rfl⟩
 conv=>whnf
 refine ⟨_,P144 q_1 (({ Look:=0,After:=(([]:List TPlan0)) }:TPlan)) r_6 hc7,fun rs hrs=>?_⟩
 subst hrs
 refine ⟨rfl,?_⟩
 conv=>whnf
 refine cB h (fun hb8 h=>?_) (fun hb8 h=>?_)
 ·conv=>whnf
  refine Tr.cond ?_
  conv=>whnf
  refine sg ?_
  conv=>whnf
  refine Tr.ret ?_
  conv=>whnf
  cases h
  rfl
 conv=>whnf
 obtain ⟨r_9,hc10,h⟩:=bS h
 refine PC.ecall (P221 q_1 r_9 hc10) (fun rs hrs=>?_)
 subst hrs
 conv=>whnf
 refine Tr.cond ?_
 conv=>whnf
 refine cB h (fun hb11 h=>?_) (fun hb11 h=>?_)
 ·refine sg ?_
  conv=>whnf
  refine Tr.ret ?_
  conv=>whnf
  cases h
  rfl
 refine Tr.skip ?_
 conv=>whnf
 refine sg ?_
 conv=>whnf
 obtain ⟨⟨r_12,r_13,r_14⟩,hc15,h⟩:=bS h
 refine PC.ecall (P246 q_1 200 r_12 r_13 r_14 hc15) (fun rs hrs=>?_)
 subst hrs
 conv=>whnf
 refine Tr.seq ?_
 refine sg ?_
 conv=>whnf
 refine Tr.block ?_
 refine sg ?_
 conv=>whnf
 refine Tr.cond ?_
 conv=>whnf
 refine cB h (fun hb16 h=>?_) (fun hb16 h=>?_)
 ·refine sg ?_
  conv=>whnf
  refine Tr.ret ?_
  conv=>whnf
  cases h
  rfl
 refine sg ?_
 conv=>whnf
 refine Tr.cond ?_
 conv=>whnf
 refine cB h (fun hb17 h=>?_) (fun hb17 h=>?_)
 ·refine Tr.seq ?_
  refine sg ?_
  conv=>whnf
  refine lnS_map ?_
  conv=>whnf
  refine arS_raw ?_
  conv=>whnf
  refine Tr.cutQ (α:=Unit) (fun s=>([(2,.d (.b false))],[])) (fun s=>M248 s=some r_2) ?_ ?_
  ·refine Tr.block ?_
   refine Tr.loopM (σ:=Int) (fun n s=>M247 q_1 M248 n s) r_2 (fun s=>([(1,.pt 0 0),(2,.d (.b false)),(36,(dI (w64 ((((q_1.Looks).length:Int))+1)))),(37,(dI s))],[some (.var [.d (.ls (List.map eTSegment q_1.Field.Clocks.Segments)),.d (.ls (List.map (eL eI) q_1.Field.Clocks.Far)),.d (.ls (List.map eTPair q_1.Field.Pairs)),.d (.ls (List.map eTRunner q_1.Field.Runners)),(dI q_1.Runner),.d (.ls (List.map eTLook q_1.Looks))])])) (((w64 ((((q_1.Looks).length:Int))+1)) - 0:Int).toNat+1) (0) h (fun s=>rfl) (Wk.mk2 [0] 2 rfl rfl (by decide) rfl ⟨rr,trivial⟩ ⟨rr,rr,rr,rr,trivial⟩) ?_
   clear h
   rintro n_20 v_19 h
   replace h:M247 q_1 M248 (n_20+1) v_19=some r_2:=h
   rw [M247] at h
   refine sg ?_
   conv=>whnf
   refine Tr.seq ?_
   refine Tr.cond ?_
   conv=>whnf
   refine cB h (fun hb23 h=>?_) (fun hb23 h=>?_)
   ·refine Tr.skip ?_
    conv=>whnf
    refine Tr.seq ?_
    refine Tr.block ?_
    refine sg ?_
    conv=>whnf
    refine sg ?_
    conv=>whnf
    obtain ⟨⟨r_24,r_25⟩,hc26,h⟩:=bS h
    refine PC.ecall (P122 q_1 v_19 200 r_24 r_25 hc26) (fun rs hrs=>?_)
    subst hrs
    conv=>whnf
    refine sg ?_
    conv=>whnf
    refine cB h (fun hb27 h=>?_) (fun hb27 h=>?_)
    ·conv=>whnf
     refine Tr.cond ?_
     conv=>whnf
     refine sg ?_
     conv=>whnf
     refine Tr.ret ?_
     conv=>whnf
     cases h
     rfl
    conv=>whnf
    refine cB h (fun hb28 h=>?_) (fun hb28 h=>?_)
    ·conv=>whnf
     refine Tr.cond ?_
     conv=>whnf
     refine cB h (fun hb29 h=>?_) (fun hb29 h=>?_)
     ·refine sg ?_
      conv=>whnf
      refine Tr.ret ?_
      conv=>whnf
      cases h
      rfl
     refine Tr.skip ?_
     conv=>whnf
     refine rg ?_
     conv=>whnf
     refine arS_raw ?_
     conv=>whnf
     refine ⟨((w64 (v_19+1))),h,?_⟩
     exact Wk.mk2 [0] 1 rfl rfl (by decide) rfl ⟨rr,trivial⟩ ⟨rr,rr,rr,rr,trivial⟩
    conv=>whnf
    refine Tr.cond ?_
    conv=>whnf
    refine Tr.skip ?_
    conv=>whnf
    refine rg ?_
    conv=>whnf
    refine arS_raw ?_
    conv=>whnf
    refine ⟨((w64 (v_19+1))),h,?_⟩
    exact Wk.mk2 [0] 1 rfl rfl (by decide) rfl ⟨rr,trivial⟩ ⟨rr,rr,rr,rr,trivial⟩
   refine Tr.exit ?_
   conv=>whnf
   refine ⟨(),h,?_⟩
   exact Wk.mk2 [] 1 rfl rfl (by decide) rfl trivial ⟨rr,trivial⟩
  clear h
  rintro _ h T1 H1 hw
  replace h:M248 ()=some r_2:=h
  conv=>whnf
  refine Tr.weak hw ?_
  unfold M248 at h
  refine sg ?_
  conv=>whnf
  refine Tr.ret ?_
  conv=>whnf
  cases h
  rfl
 refine sg ?_
 conv=>whnf
 refine Tr.cond ?_
 conv=>whnf
 refine cB h (fun hb30 h=>?_) (fun hb30 h=>?_)
 ·refine sg ?_
  conv=>whnf
  obtain ⟨⟨r_31,r_32⟩,hc33,h⟩:=bS h
  refine PC.ecall (P122 q_1 r_13 200 r_31 r_32 hc33) (fun rs hrs=>?_)
  subst hrs
  conv=>whnf
  refine Tr.seq ?_
  refine Tr.seq ?_
  obtain ⟨v_34,hv35,h⟩:=bS h
  refine Tr.cutQ1 ([(1,.pt 0 0),(2,.d (.b false)),(4,(dI r_13)),(85,.d (.b v_34))]) ([some (.var [.d (.ls (List.map eTSegment q_1.Field.Clocks.Segments)),.d (.ls (List.map (eL eI) q_1.Field.Clocks.Far)),.d (.ls (List.map eTPair q_1.Field.Pairs)),.d (.ls (List.map eTRunner q_1.Field.Runners)),(dI q_1.Runner),.d (.ls (List.map eTLook q_1.Looks))])]) ?_ (fun T1 H1 hw=>?_)
  ·replace h:=hv35; clear hv35
   refine rg ?_
   conv=>whnf
   obtain ⟨r_36,hc37,h⟩:=bS h
   refine PC.ecall (P130 q_1 r_12 r_36 hc37) (fun rs hrs=>?_)
   subst hrs
   conv=>whnf
   refine cB h (fun hb38 h=>?_) (fun hb38 h=>?_)
   ·conv=>whnf
    cases h
    exact Wk.mk2 [0] 2 rfl rfl (by decide) rfl ⟨rr,trivial⟩ ⟨rr,rr,rr,rr,trivial⟩
   conv=>whnf
   obtain ⟨r_39,hc40,h⟩:=bS h
   refine PC.ecall (P125 1000 r_12 r_39 hc40) (fun rs hrs=>?_)
   subst hrs
   conv=>whnf
   refine cB h (fun hb41 h=>?_) (fun hb41 h=>?_)
   ·conv=>whnf
    cases h
    exact Wk.mk2 [0] 2 rfl rfl (by decide) rfl ⟨rr,trivial⟩ ⟨rr,rr,rr,rr,trivial⟩
   conv=>whnf
   refine cB h (fun hb42 h=>?_) (fun hb42 h=>?_)
   ·conv=>whnf
    refine cB h (fun hb43 h=>?_) (fun hb43 h=>?_)
    ·conv=>whnf
     cases h
     exact Wk.mk2 [0] 2 rfl rfl (by decide) rfl ⟨rr,trivial⟩ ⟨rr,rr,rr,rr,trivial⟩
    conv=>whnf
    cases h
    exact Wk.mk2 [0] 2 rfl rfl (by decide) rfl ⟨rr,trivial⟩ ⟨rr,rr,rr,rr,trivial⟩
   conv=>whnf
   cases h
   exact Wk.mk2 [0] 2 rfl rfl (by decide) rfl ⟨rr,trivial⟩ ⟨rr,rr,rr,rr,trivial⟩
  clear hv35
  conv=>whnf
  refine Tr.weak hw ?_
  refine Tr.cond ?_
  conv=>whnf
  refine cB h (fun hb44 h=>?_) (fun hb44 h=>?_)
  ·refine sg ?_
   conv=>whnf
   refine Tr.ret ?_
   conv=>whnf
   cases h
   rfl
  refine Tr.skip ?_
  conv=>whnf
  refine Tr.seq ?_
  refine sg ?_
  conv=>whnf
  refine Tr.cond ?_
  conv=>whnf
  refine cB h (fun hb45 h=>?_) (fun hb45 h=>?_)
  ·refine sg ?_
   conv=>whnf
   refine Tr.ret ?_
   conv=>whnf
   cases h
   rfl
  refine Tr.skip ?_
  conv=>whnf
  refine sg ?_
  conv=>whnf
  refine arS_raw ?_
  conv=>whnf
  obtain ⟨⟨r_46,r_47⟩,hc48,h⟩:=bS h
  refine PC.ecall (P122 q_1 ((w64 (r_13 - 1))) 200 r_46 r_47 hc48) (fun rs hrs=>?_)
  subst hrs
  conv=>whnf
  refine sg ?_
  conv=>whnf
  refine cB h (fun hb49 h=>?_) (fun hb49 h=>?_)
  ·conv=>whnf
   refine cB h (fun hb50 h=>?_) (fun hb50 h=>?_)
   ·conv=>whnf
    refine Tr.ret ?_
    conv=>whnf
    cases h
    rfl
   conv=>whnf
   refine Tr.ret ?_
   conv=>whnf
   cases h
   rfl
  conv=>whnf
  refine Tr.ret ?_
  conv=>whnf
  cases h
  rfl
 refine Tr.skip ?_
 conv=>whnf
 refine sg ?_
 conv=>whnf
 refine Tr.ret ?_
 conv=>whnf
 cases h
 rfl
end Go.Proofs.Try
