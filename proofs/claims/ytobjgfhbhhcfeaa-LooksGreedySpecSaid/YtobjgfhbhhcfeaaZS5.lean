/- Contracts of functions, by program (gen.py). No condition. -/
import Derived.Test.YtobjgfhbhhcfeaaZL
import Derived.Test.YtobjgfhbhhcfeaaZM
import Derived.Test.YtobjgfhbhhcfeaaZCB
import Derived.Test.YtobjgfhbhhcfeaaZS4
namespace Go.Proofs.Try
open Go Go.Abs Go.Stop
set_option maxRecDepth 8000
set_option linter.unusedVariables false
set_option linter.unusedSimpArgs false
theorem P120 (c_1:List TSegment) (c_2:List (List Int)) (c_3:List TPair) (c_4:List TRunner) (c_5:Int) (c_6:List TLook) (c_7:Int) (ys:List (Int × TQuestion)) (h:M120 c_1 c_2 c_3 c_4 c_5 c_6 c_7=some ys) (xs:YL) (hx:Rem xs (fun a=>[(.i .i64 a.1),(eTQuestion a.2)]) 0 ys) :
    ItC prog 76 [(.ro [(.ls (List.map eTSegment c_1)),(.ls (List.map (eL eI) c_2)),(.ls (List.map eTPair c_3)),(.ls (List.map eTRunner c_4)),(.i .i64 c_5),(.ls (List.map eTLook c_6))]),(.ro [(.i .i64 c_7)])] xs:=by
 refine ItC.of_tr (cx:=⟨40,none,lay,0⟩) (hx:=hx) func76 rfl rfl rfl (by simp [f76]) rfl (fun l hx=>?_)
 unfold M120 at h
 refine TrY.seq ?_
 refine TrY.region layOK ?_
 conv=>whnf
 obtain ⟨x_8,hx_8,h⟩:=bS h
 refine ixP_of hx_8 ?_
 conv=>whnf
 refine lnS_map ?_
 conv=>whnf
 refine TrY.block ?_
 refine TrY.loopM (σ:=Int) (fun n s=>M118 c_1 c_2 c_3 c_4 c_5 c_6 c_7 x_8 M119 n s) _ (fun s=>([(0,.yl l),(1,.d (.ro [(.ls (List.map eTSegment c_1)),(.ls (List.map (eL eI) c_2)),(.ls (List.map eTPair c_3)),(.ls (List.map eTRunner c_4)),(.i .i64 c_5),(.ls (List.map eTLook c_6))])),(2,.d (.ro [(.i .i64 c_7)])),(13,.d (.ls (List.map eTSpan x_8.Answers))),(14,(dI (((x_8.Answers).length:Int)))),(15,(dI s))],[])) (((((x_8.Answers).length:Int)) - 0:Int).toNat+1) (0) h (fun s=>rfl) hx (Wk.mk2 [] 0 rfl rfl (by decide) rfl trivial ⟨rr,rr,rr,rr,rr,rr,trivial⟩) ?_
 clear h hx
 rintro n_11 v_10 i_22 ys_23 h hx
 replace h:M118 c_1 c_2 c_3 c_4 c_5 c_6 c_7 x_8 M119 (n_11+1) v_10=some ys_23:=h
 rw [M118] at h
 refine TrY.seq ?_
 refine TrY.region layOK ?_
 conv=>whnf
 refine TrY.seq ?_
 refine TrY.cond ?_
 conv=>whnf
 refine cB h (fun hb14 h=>?_) (fun hb14 h=>?_)
 ·refine TrY.skip ?_
  conv=>whnf
  refine TrY.seq ?_
  refine TrY.block ?_
  refine TrY.seq ?_
  refine TrY.region layOK ?_
  conv=>whnf
  obtain ⟨x_15,hx_15,h⟩:=bS h
  refine ixP_of hx_15 ?_
  conv=>whnf
  refine TrY.seq ?_
  refine TrY.drawN layOK mixed [(12,1)] [(0,2),(1,2),(2,2),(3,2),(4,2),(5,2),(6,3),(7,1),(8,1),(9,1),(10,1),(11,0),(12,0),(13,1)] (by kernel_rfl) ?_
  conv=>whnf
  refine q2 ?_
  conv=>whnf
  refine q2 ?_
  conv=>whnf
  refine q2 ?_
  conv=>whnf
  refine q2 ?_
  conv=>whnf
  obtain ⟨x_16,hx_16,h⟩:=bS h
  refine q3 (ixP_of hx_16 rr) ?_
  conv=>whnf
  refine q2 ?_
  conv=>whnf
  refine q2 ?_
  conv=>whnf
  obtain ⟨⟨r_17,r_18⟩,hc19,h⟩:=bS h
  refine q1 ?_ (fun _=>pe (P66 (({ Field:=({ Clocks:=({ Segments:=c_1,Far:=c_2 }:TClocks),Pairs:=c_3,Runners:=c_4 }:TField),Runner:=c_5,Looks:=c_6 }:TQuestion)) x_16 x_15 r_17 r_18 hc19) rr)
  conv=>whnf
  refine q1 ?_
  conv=>whnf
  refine q1 ?_
  conv=>whnf
  refine q1 ?_
  conv=>whnf
  refine ⟨_,_,rr,kp_ok (by repeat (first | exact trivial | refine ⟨trivial,?_⟩ | refine ⟨rfl,?_⟩)),?_⟩
  conv=>whnf
  refine ⟨_,_,rr,kp_ok (by repeat (first | exact trivial | refine ⟨trivial,?_⟩ | refine ⟨rfl,?_⟩)),?_⟩
  conv=>whnf
  refine q1 ?_
  conv=>whnf
  refine TrY.seq ?_
  refine TrY.region layOK ?_
  conv=>whnf
  refine cB h (fun hb20 h=>?_) (fun hb20 h=>?_)
  ·conv=>whnf
   obtain ⟨l_21,h_21,e_21⟩:=bS h
   clear h
   cases e_21
   have h:=h_21
   clear h_21
   refine ylS_of hx rfl (fun gb_21 h1_21 h2_21=>?_)
   cases gb_21
   ·have hend_21:=h2_21 rfl
    clear h1_21 h2_21 h hx
    conv=>whnf
    refine ⟨rfl,?_⟩
    conv=>whnf
    refine TrY.cond ?_
    conv=>whnf
    refine TrY.ret ?_
    conv=>whnf
    exact hend_21
   replace hx:=h1_21 rfl
   clear h1_21 h2_21
   conv=>whnf
   refine ⟨rfl,?_⟩
   conv=>whnf
   refine TrY.cond ?_
   conv=>whnf
   refine TrY.skip ?_
   conv=>whnf
   refine TrY.region layOK ?_
   conv=>whnf
   refine arS_raw ?_
   conv=>whnf
   refine ⟨((w64 (v_10+1))),_,h,hx,?_⟩
   exact Wk.mk2 [] 0 rfl rfl (by decide) rfl trivial ⟨rr,rr,rr,rr,rr,rr,trivial⟩
  conv=>whnf
  refine TrY.cond ?_
  conv=>whnf
  refine TrY.skip ?_
  conv=>whnf
  refine TrY.region layOK ?_
  conv=>whnf
  refine arS_raw ?_
  conv=>whnf
  refine ⟨((w64 (v_10+1))),_,h,hx,?_⟩
  exact Wk.mk2 [] 2 rfl rfl (by decide) rfl trivial ⟨rr,rr,rr,rr,rr,rr,trivial⟩
 refine TrY.exit ?_
 conv=>whnf
 unfold M119 at h
 cases h
 exact Rem.done hx
theorem P125 (rc_9031:TQuestion→Int→Int→(List Bool)→Option (Option (TPlan × Bool × Int × List Bool))) (ih_9031:∀ (q_1:TQuestion) (left_2:Int) (v_3:Int) (l_4:List Bool) (q:Option (TPlan × Bool × Int × List Bool)),rc_9031 q_1 left_2 v_3 l_4=some q→MCP prog 42 [.d (eTQuestion q_1),(dI left_2),.pt 0 0,.pt 1 0,.pt 3 0] [.var [(dI v_3)],.var [.sl 2 1 0 (List.length l_4)],.arr 1 (List.map .d (List.map eB l_4)),.var [.fn 42 [.pt 0 0,.pt 1 0,.pt 3 0]]] (fun rs Bs=>∃ r_5:TPlan,∃ r_6:Bool,∃ b_7:Int,∃ l_8:List Bool,q=some (r_5,r_6,b_7,l_8)∧rs=[(eTPlan r_5),(.b r_6)]∧Bs=[.var [(dI b_7)],.var [.sl 2 1 0 (List.length l_8)],.arr 1 (List.map .d (List.map eB l_8)),.var [.fn 42 [.pt 0 0,.pt 1 0,.pt 3 0]]]) (fun pv=>pv=(.iface 37 (.int .i64 3))∧q=none)) (q_1:TQuestion) (left_2:Int) (v_3:Int) (l_4:List Bool) (q:Option (TPlan × Bool × Int × List Bool)) (h:M125 rc_9031 q_1 left_2 v_3 l_4=some q) :
    MCP prog 42 [.d (eTQuestion q_1),(dI left_2),.pt 0 0,.pt 1 0,.pt 3 0] [.var [(dI v_3)],.var [.sl 2 1 0 (List.length l_4)],.arr 1 (List.map .d (List.map eB l_4)),.var [.fn 42 [.pt 0 0,.pt 1 0,.pt 3 0]]] (fun rs Bs=>∃ r_5:TPlan,∃ r_6:Bool,∃ b_7:Int,∃ l_8:List Bool,q=some (r_5,r_6,b_7,l_8)∧rs=[(eTPlan r_5),(.b r_6)]∧Bs=[.var [(dI b_7)],.var [.sl 2 1 0 (List.length l_8)],.arr 1 (List.map .d (List.map eB l_8)),.var [.fn 42 [.pt 0 0,.pt 1 0,.pt 3 0]]]) (fun pv=>pv=(.iface 37 (.int .i64 3))∧q=none):=by
 refine MCP.of_tr (cx:=⟨73,none,lay,4⟩) layOK func42 rfl rfl rfl rfl rfl (by simp [f42]) ?_
 refine Tr.unW ?_
 unfold M125 at h
 refine sg ?_
 conv=>whnf
 refine Tr.scope ?_
 refine Tr.seq ?_
 refine sg ?_
 conv=>whnf
 refine Tr.cond ?_
 conv=>whnf
 refine cB h (fun hb9 h=>?_) (fun hb9 h=>?_)
 ·refine Tr.regionP layOK ?_
  conv=>whnf
  refine .inr ⟨_,rfl,by kernel_rfl,?_⟩
  conv=>whnf
  refine .inr ⟨_,_,rfl,?_⟩
  conv=>whnf
  refine endH ?_
  conv=>whnf
  cases h
  exact ⟨_,rfl,rfl,rfl⟩
 refine Tr.skip ?_
 conv=>whnf
 refine sg ?_
 conv=>whnf
 refine arS_raw ?_
 conv=>whnf
 refine Tr.seq ?_
 refine sg ?_
 conv=>whnf
 obtain ⟨r_10,hc11,h⟩:=bS h
 refine PC.ecall (P115 q_1 r_10 hc11) (fun rs hrs=>?_)
 subst hrs
 conv=>whnf
 refine Tr.cond ?_
 conv=>whnf
 refine cB h (fun hb12 h=>?_) (fun hb12 h=>?_)
 ·refine sg ?_
  conv=>whnf
  obtain ⟨r_13,hc14,h⟩:=bS h
  refine PC.ecall (P116 r_13 hc14) (fun rs hrs=>?_)
  subst hrs
  conv=>whnf
  refine Tr.ret ?_
  conv=>whnf
  refine endH ?_
  conv=>whnf
  cases h
  exact ⟨[.var [(dI (w64 (v_3 - 1)))],.var [.sl 2 1 0 (List.length l_4)],.arr 1 (List.map .d (List.map eB l_4)),.var [.fn 42 [.pt 0 0,.pt 1 0,.pt 3 0]]],rfl,rfl,⟨rfl,rfl,⟨_,rfl⟩,rfl,trivial⟩,_,_,_,_,rfl,rfl,rfl⟩
 refine Tr.skip ?_
 conv=>whnf
 refine Tr.seq ?_
 refine Tr.label ?_
 conv=>whnf
 refine Tr.seq ?_
 refine sg ?_
 conv=>whnf
 refine lnS_map ?_
 conv=>whnf
 refine Tr.cutQ (α:=Int × List Bool) (fun s=>([(7,.pt 4 0),(8,.d (.b false))],[some (.var [(dI s.1)]),some (.var [.sl 2 1 0 (List.length s.2)]),some (.arr 1 (List.map .d (List.map eB s.2))),some (.var [.fn 42 [.pt 0 0,.pt 1 0,.pt 3 0]]),some (.var [(dI 0),.nsl])])) (fun s=>M124 s.1 s.2=some q) ?_ ?_
 ·refine Tr.block ?_
  refine Tr.loopM (σ:=Int × Int × List Bool) (fun n s=>M123 q_1 left_2 rc_9031 M124 n s.1 s.2.1 s.2.2) q (fun s=>([(3,.pt 1 0),(4,.pt 3 0),(5,.pt 4 0),(6,.pt 5 0),(7,.pt 6 0),(8,.d (.b false)),(26,(dI (((q_1.Looks).length:Int)))),(27,(dI s.1))],[some (.var [(dI s.2.1)]),some (.var [.sl 2 1 0 (List.length s.2.2)]),some (.arr 1 (List.map .d (List.map eB s.2.2))),some (.var [.fn 42 [.pt 0 0,.pt 1 0,.pt 3 0]]),some (.var [.d (.ls (List.map eTSegment q_1.Field.Clocks.Segments)),.d (.ls (List.map (eL eI) q_1.Field.Clocks.Far)),.d (.ls (List.map eTPair q_1.Field.Pairs)),.d (.ls (List.map eTRunner q_1.Field.Runners)),(dI q_1.Runner),.d (.ls (List.map eTLook q_1.Looks))]),some (.var [(dI left_2)]),some (.var [(dI 0),.nsl])])) (((((q_1.Looks).length:Int)) - 0:Int).toNat+1) (0,(w64 (v_3 - 1)),l_4) h (fun s=>rfl) (Wk.mk2 [0,1,2,3,4,5,6] 7 rfl rfl (by decide) rfl ⟨rr,rr,daS_d rfl,rr,rr,rr,rr,trivial⟩ ⟨rr,rr,rr,rr,rr,rr,rr,rr,trivial⟩) ?_
  clear h
  rintro n_21 ⟨v_18,v_19,l_20⟩ h
  replace h:M123 q_1 left_2 rc_9031 M124 (n_21+1) v_18 v_19 l_20=some q:=h
  rw [M123] at h
  refine sg ?_
  conv=>whnf
  refine Tr.seq ?_
  refine Tr.cond ?_
  conv=>whnf
  refine cB h (fun hb26 h=>?_) (fun hb26 h=>?_)
  ·refine Tr.skip ?_
   conv=>whnf
   refine Tr.seq ?_
   refine Tr.block ?_
   refine sg ?_
   conv=>whnf
   refine Tr.seq ?_
   refine sg ?_
   conv=>whnf
   obtain ⟨x_27,hx_27,h⟩:=bS h
   refine ixS_of hx_27 rfl ?_
   conv=>whnf
   refine elP_of hx_27 ?_
   conv=>whnf
   refine cB h (fun hb28 h=>?_) (fun hb28 h=>?_)
   ·conv=>whnf
    refine Tr.cond ?_
    conv=>whnf
    refine Tr.exit ?_
    conv=>whnf
    refine rg ?_
    conv=>whnf
    refine arS_raw ?_
    conv=>whnf
    refine ⟨((w64 (v_18+1)),v_19,l_20),h,?_⟩
    exact Wk.mk2 [0,1,2,3,4,5,6] 8 rfl rfl (by decide) rfl ⟨rr,rr,daS_d rfl,rr,rr,rr,rr,trivial⟩ ⟨rr,rr,rr,rr,rr,rr,rr,rr,trivial⟩
   conv=>whnf
   refine Tr.cond ?_
   conv=>whnf
   refine cB h (fun hb29 h=>?_) (fun hb29 h=>?_)
   ·refine Tr.exit ?_
    conv=>whnf
    refine rg ?_
    conv=>whnf
    refine arS_raw ?_
    conv=>whnf
    refine ⟨((w64 (v_18+1)),v_19,l_20),h,?_⟩
    exact Wk.mk2 [0,1,2,3,4,5,6] 8 rfl rfl (by decide) rfl ⟨rr,rr,daS_d rfl,rr,rr,rr,rr,trivial⟩ ⟨rr,rr,rr,rr,rr,rr,rr,rr,trivial⟩
   refine Tr.skip ?_
   conv=>whnf
   refine sg ?_
   conv=>whnf
   refine ECall.of_tr (cx:=⟨25,none,lay,8⟩) layOK func45 rfl rfl rfl rfl rfl (by simp [f45]) ?_
   refine sg ?_
   conv=>whnf
   refine sg ?_
   conv=>whnf
   refine orB_l ?_
   conv=>whnf
   refine Tr.seq ?_
   refine sg ?_
   conv=>whnf
   obtain ⟨x_30,hx_30,h⟩:=bS h
   refine ixP_of hx_30 ?_
   conv=>whnf
   refine lnS_map ?_
   conv=>whnf
   obtain ⟨l_36,hv43,h⟩:=bS h
   refine Tr.cutQ1 ([(4,.pt 8 0),(5,.pt 9 0)]) ([some (.var [(dI v_19)]),some (.var [.sl 2 1 0 (List.length l_20)]),some (.arr 1 (List.map .d (List.map eB l_20))),some (.var [.fn 42 [.pt 0 0,.pt 1 0,.pt 3 0]]),some (.var [.d (.ls (List.map eTSegment q_1.Field.Clocks.Segments)),.d (.ls (List.map (eL eI) q_1.Field.Clocks.Far)),.d (.ls (List.map eTPair q_1.Field.Pairs)),.d (.ls (List.map eTRunner q_1.Field.Runners)),(dI q_1.Runner),.d (.ls (List.map eTLook q_1.Looks))]),some (.var [(dI left_2)]),some (.var [(dI 0),.nsl]),some (.var [(dI v_18)]),some (.var [(dI 0),.nsl]),some (.var [(dI v_18),.sl 10 2 0 (List.length l_36)]),some (.arr 2 (List.map .d (List.map eTPlan0 l_36)))]) ?_ (fun T1 H1 hw=>?_)
   ·replace h:=hv43; clear hv43
    refine Tr.block ?_
    refine Tr.loopM (σ:=Int × List TPlan0) (fun n s=>M121 x_30 n s.1 s.2) l_36 (fun s=>([(4,.pt 8 0),(5,.pt 9 0),(14,(dI (((x_30.Answers).length:Int)))),(15,(dI s.1))],[some (.var [(dI v_19)]),some (.var [.sl 2 1 0 (List.length l_20)]),some (.arr 1 (List.map .d (List.map eB l_20))),some (.var [.fn 42 [.pt 0 0,.pt 1 0,.pt 3 0]]),some (.var [.d (.ls (List.map eTSegment q_1.Field.Clocks.Segments)),.d (.ls (List.map (eL eI) q_1.Field.Clocks.Far)),.d (.ls (List.map eTPair q_1.Field.Pairs)),.d (.ls (List.map eTRunner q_1.Field.Runners)),(dI q_1.Runner),.d (.ls (List.map eTLook q_1.Looks))]),some (.var [(dI left_2)]),some (.var [(dI 0),.nsl]),some (.var [(dI v_18)]),some (.var [(dI 0),.nsl]),some (.var [(dI v_18),.sl 10 2 0 (List.length s.2)]),some (.arr 2 (List.map .d (List.map eTPlan0 s.2)))])) (((((x_30.Answers).length:Int)) - 0:Int).toNat+1) (0,(([]:List TPlan0))) h (fun s=>rfl) (Wk.mk2 [0,1,2,3,4,5,6,7,9,10,11] 11 rfl rfl (by decide) rfl ⟨rr,rr,daS_d rfl,rr,rr,rr,rr,rr,rr,⟨rfl,(by first | rfl | (simp only [↓hb9,↓hb12,↓hb26,↓hb28,↓hb29,bl,List.length_set]; done) | (simp only [↓hb9,↓hb12,↓hb26,↓hb28,↓hb29,bl,List.length_set]; rfl))⟩,rfl,trivial⟩ ⟨⟨rfl,(by first | rfl | (simp only [↓hb9,↓hb12,↓hb26,↓hb28,↓hb29,bl,List.length_set]; done) | (simp only [↓hb9,↓hb12,↓hb26,↓hb28,↓hb29,bl,List.length_set]; rfl))⟩,⟨rfl,(by first | rfl | (simp only [↓hb9,↓hb12,↓hb26,↓hb28,↓hb29,bl,List.length_set]; done) | (simp only [↓hb9,↓hb12,↓hb26,↓hb28,↓hb29,bl,List.length_set]; rfl))⟩,rr,rr,trivial⟩) ?_
    clear h
    rintro n_35 ⟨v_33,l_34⟩ h
    replace h:M121 x_30 (n_35+1) v_33 l_34=some l_36:=h
    rw [M121] at h
    refine sg ?_
    conv=>whnf
    refine Tr.seq ?_
    refine Tr.cond ?_
    conv=>whnf
    refine cB h (fun hb39 h=>?_) (fun hb39 h=>?_)
    ·refine Tr.skip ?_
     conv=>whnf
     refine Tr.seq ?_
     refine Tr.block ?_
     refine dq [(4,10),(6,9)] [(0,12),(1,12),(2,1),(3,1),(4,0),(5,12),(6,0)] ?_
     conv=>whnf
     refine q2 ?_
     conv=>whnf
     refine q2 ?_
     conv=>whnf
     obtain ⟨r_40,hc41,h⟩:=bS h
     refine q1 ?_ (fun _=>pe (P116 r_40 hc41) rr)
     conv=>whnf
     refine q1 ?_ (fun _=>orB_r rr)
     conv=>whnf
     obtain ⟨l_42,hl_42,h⟩:=bS h
     refine ⟨_,_,(by (conv=>whnf); (refine frP_no ?_); (conv=>whnf); (refine eqS_mk (by first | rfl | simp) ?_); (conv=>whnf); (refine apS_of hl_42 (aQ (f:=eTPlan0) (l:=(([(pTPlan r_40)]:List TPlan0))) fun _=>rfl) (by first | rfl | simp) (by first | rfl | simp) (fun he=>?_)); (conv=>whnf); (refine rS (es':=List.map .d (List.map eTPlan0 l_42)) (n':=List.length l_42) (by subst he; simp only [List.map_append,List.map_cons,List.map_nil,List.nil_append]; first | done | rfl) (by subst he; simp <;> omega) ?_); (clear he); (conv=>whnf); (exact rr)),kp_ok (by repeat (first | exact trivial | refine ⟨trivial,?_⟩ | refine ⟨rfl,?_⟩)),?_⟩
     conv=>whnf
     refine q2 ?_
     conv=>whnf
     refine ⟨_,_,(by (conv=>whnf); (refine orB_l ?_); (conv=>whnf); (exact rr)),kp_ok (by repeat (first | exact trivial | refine ⟨trivial,?_⟩ | refine ⟨rfl,?_⟩)),?_⟩
     conv=>whnf
     refine rg ?_
     conv=>whnf
     refine arS_raw ?_
     conv=>whnf
     refine ⟨((w64 (v_33+1)),l_42),h,?_⟩
     exact Wk.mk2 [0,1,2,3,4,5,6,7,8,9,11] 12 rfl rfl (by decide) rfl ⟨rr,rr,daS_d rfl,rr,rr,rr,rr,rr,rr,⟨rfl,(by first | rfl | (simp only [↓hb9,↓hb12,↓hb26,↓hb28,↓hb29,↓hb39,bl,List.length_set]; done) | (simp only [↓hb9,↓hb12,↓hb26,↓hb28,↓hb29,↓hb39,bl,List.length_set]; rfl))⟩,daS_d rfl,trivial⟩ ⟨rr,rr,rr,rr,trivial⟩
    refine Tr.exit ?_
    conv=>whnf
    cases h
    exact Wk.mk2 [0,1,2,3,4,5,6,7,8,9,10] 11 rfl rfl (by decide) rfl ⟨rr,rr,daS_d rfl,rr,rr,rr,rr,rr,rr,rr,daS_d rfl,trivial⟩ ⟨rr,rr,trivial⟩
   clear hv43
   conv=>whnf
   refine Tr.weak hw ?_
   refine sg ?_
   conv=>whnf
   refine orB_l ?_
   conv=>whnf
   refine Tr.ret ?_
   conv=>whnf
   refine orB_l ?_
   conv=>whnf
   refine sg ?_
   conv=>whnf
   obtain ⟨x_44,hx_44,h⟩:=bS h
   refine ixS_of hx_44 rfl ?_
   conv=>whnf
   refine elP_of hx_44 ?_
   conv=>whnf
   refine lvS_mk (es':=List.map .d (List.map eB (List.set l_20 (Int.toNat v_18) true))) (by simp only [Nat.zero_add,List.map_set]; first | done | rfl) ?_
   conv=>whnf
   refine Tr.seq ?_
   refine sg ?_
   conv=>whnf
   obtain ⟨⟨c_45,c_46,c_47,c_48,c_49,c_50,c_51⟩,hc52,h⟩:=bS h
   refine PC.ecall (P117 q_1 v_18 c_45 c_46 c_47 c_48 c_49 c_50 c_51 hc52) (fun rs hrs=>?_)
   subst hrs
   conv=>whnf
   obtain ⟨l_53,hl54,h⟩:=bS h
   obtain ⟨q_85,hv81,h⟩:=bS h
   refine Tr.block ?_
   refine Tr.rangeP (σ:=Int × List Bool × List TPlan0) (ρ:=Int × List Bool × List TPlan0) layOK rfl (ge:=fun a=>[(.i .i64 a.1),(eTQuestion a.2)]) rfl (P120 c_45 c_46 c_47 c_48 c_49 c_50 c_51 l_53 hl54) (fun _=>rfl) rfl ((.iface 37 (.int .i64 3))) (fun s=>[some (.var [(dI s.1)]),some (.var [.sl 2 1 0 (List.length s.2.1)]),some (.arr 1 (List.map .d (List.map eB s.2.1))),some (.var [.fn 42 [.pt 0 0,.pt 1 0,.pt 3 0]]),some (.var [.d (.ls (List.map eTSegment q_1.Field.Clocks.Segments)),.d (.ls (List.map (eL eI) q_1.Field.Clocks.Far)),.d (.ls (List.map eTPair q_1.Field.Pairs)),.d (.ls (List.map eTRunner q_1.Field.Runners)),(dI q_1.Runner),.d (.ls (List.map eTLook q_1.Looks))]),some (.var [(dI left_2)]),some (.var [(dI 0),.nsl]),some (.var [(dI v_18)]),some (.var [(dI v_18),.sl 10 2 0 (List.length s.2.2)]),some (.var [(dI v_18),.sl 10 2 0 (List.length s.2.2)]),some (.arr 2 (List.map .d (List.map eTPlan0 s.2.2))),some (.var [(dI v_18),.sl 10 2 0 (List.length s.2.2)])]) (fun s=>[some (.var [(dI s.1)]),some (.var [.sl 2 1 0 (List.length s.2.1)]),some (.arr 1 (List.map .d (List.map eB s.2.1))),some (.var [.fn 42 [.pt 0 0,.pt 1 0,.pt 3 0]]),some (.var [.d (.ls (List.map eTSegment q_1.Field.Clocks.Segments)),.d (.ls (List.map (eL eI) q_1.Field.Clocks.Far)),.d (.ls (List.map eTPair q_1.Field.Pairs)),.d (.ls (List.map eTRunner q_1.Field.Runners)),(dI q_1.Runner),.d (.ls (List.map eTLook q_1.Looks))]),some (.var [(dI left_2)]),some (.var [(dI 0),.nsl]),some (.var [(dI v_18)]),some (.var [(dI v_18),.sl 10 2 0 (List.length s.2.2)]),some (.var [(dI v_18),.sl 10 2 0 (List.length s.2.2)]),some (.arr 2 (List.map .d (List.map eTPlan0 s.2.2))),some (.var [(dI v_18),.sl 10 2 0 (List.length s.2.2)])]) [none,none,none,none,none,none,none,none,none,none,none,none] (.exit 1) (.inr ⟨_,rfl⟩) (M122 left_2 v_18 rc_9031) (v_19,(List.set l_20 (Int.toNat v_18) true),l_36) q_85 hv81 (Wk.mk2 [0,1,2,3,4,5,6,7,8,9,10,11] 12 rfl rfl (by decide) rfl ⟨⟨rfl,rfl⟩,⟨rfl,(by first | rfl | (simp only [↓hb9,↓hb12,↓hb26,↓hb28,↓hb29,bl,List.length_set]; done) | (simp only [↓hb9,↓hb12,↓hb26,↓hb28,↓hb29,bl,List.length_set]; rfl))⟩,daS_d rfl,⟨rfl,rfl⟩,⟨rfl,rfl⟩,⟨rfl,rfl⟩,⟨rfl,rfl⟩,⟨rfl,rfl⟩,⟨rfl,rfl⟩,⟨rfl,rfl⟩,daS_d rfl,⟨rfl,rfl⟩,trivial⟩ trivial) ?_ ?_
   ·clear h hv81
    rintro li ⟨y_55,y_56⟩ ⟨v_60,l_61,l_62⟩ s_66 ha h
    replace h:(M122 left_2 v_18 rc_9031) (y_55,y_56) (v_60,l_61,l_62)=some s_66:=h
    unfold M122 at h
    dsimp only at h
    conv=>whnf
    refine TrE.seq ?_
    refine TrE.region layOK ?_
    conv=>whnf
    refine TrE.region layOK ?_
    conv=>whnf
    refine Tr.block ?_
    refine Tr.seq ?_
    refine Tr.regionP layOK ?_
    conv=>whnf
    refine .inl ?_
    conv=>whnf
    refine .inl ?_
    conv=>whnf
    refine .inl ?_
    conv=>whnf
    refine .inl ?_
    conv=>whnf
    refine arS_raw ?_
    conv=>whnf
    obtain ⟨q_71,hc72,h⟩:=bS h
    refine .inr ?_
    conv=>whnf
    refine MCP.ecall (ih_9031 y_56 ((w64 (left_2 - 1))) v_60 l_61 q_71 hc72) [0,1,2,3] (by decide) rfl rfl ?_ (fun rs Bs1 hrs=>?_) (fun pv hpv=>?_)
    · exact ⟨⟨rfl,rfl⟩,⟨rfl,rfl⟩,⟨⟨_,rfl⟩,rfl⟩,⟨rfl,rfl⟩,trivial⟩
    rotate_left
    ·obtain ⟨rfl,rfl⟩:=hpv
     rw [onP_none] at h
     conv=>whnf
     cases h
     refine ⟨rfl,?_⟩
     exact Wk.mk2 [0,1,2,3,14,16,18,20,22,24,26,28] 13 rfl rfl (by decide) rfl trivial trivial
    obtain ⟨r_67,r_68,b_69,l_70,rfl,rfl,rfl⟩:=hrs
    rw [onP_some] at h
    conv=>whnf
    obtain ⟨_,hl73,h⟩:=bS h
    refine .inl ?_
    conv=>whnf
    refine .inl ?_
    conv=>whnf
    refine .inl ?_
    conv=>whnf
    refine .inl ?_
    conv=>whnf
    refine .inl ?_
    conv=>whnf
    refine .inl ?_
    conv=>whnf
    refine Tr.seq ?_
    refine sg ?_
    conv=>whnf
    refine Tr.cond ?_
    conv=>whnf
    refine cB h (fun hb74 h=>?_) (fun hb74 h=>?_)
    ·refine sg ?_
     conv=>whnf
     obtain ⟨x_75,hx_75,h⟩:=bS h
     refine ixS_of hx_75 (by first | rfl | simp [lenIs_eq hl73]) ?_
     conv=>whnf
     refine elP_of hx_75 ?_
     conv=>whnf
     refine lvS_mk (es':=List.map .d (List.map eB (List.set l_70 (Int.toNat v_18) false))) (by simp only [Nat.zero_add,List.map_set]; first | done | rfl) ?_
     conv=>whnf
     refine Tr.exit ?_
     conv=>whnf
     cases h
     refine ⟨rfl,?_⟩
     exact Wk.mk2 [0,1,2,3,4,5,6,7,8,9,10,11] 14 rfl rfl (by decide) rfl ⟨rr,⟨rfl,(by first | rfl | (simp only [↓hb9,↓hb12,↓hb26,↓hb28,↓hb29,↓hb74,bl,List.length_set]; done) | (simp only [↓hb9,↓hb12,↓hb26,↓hb28,↓hb29,↓hb74,bl,List.length_set]; rfl))⟩,daS_d rfl,rr,rr,rr,rr,rr,rr,rr,daS_d rfl,rr,trivial⟩ trivial
    refine Tr.skip ?_
    conv=>whnf
    refine rg ?_
    conv=>whnf
    obtain ⟨x_76,hx_76,h⟩:=bS h
    refine ixS_of hx_76 rfl ?_
    conv=>whnf
    refine elP_of hx_76 ?_
    conv=>whnf
    refine lvS_mk (es':=List.map .d (List.map eTPlan0 (List.set l_62 (Int.toNat y_55) (pTPlan r_67)))) (by simp only [Nat.zero_add,List.map_set]; first | done | rfl) ?_
    conv=>whnf
    cases h
    refine ⟨rfl,?_⟩
    exact Wk.mk2 [0,1,2,3,4,5,6,7,8,9,10,11] 14 rfl rfl (by decide) rfl ⟨rr,⟨rfl,(by first | rfl | (simp only [↓hb9,↓hb12,↓hb26,↓hb28,↓hb29,↓hb74,bl,List.length_set]; done) | (simp only [↓hb9,↓hb12,↓hb26,↓hb28,↓hb29,↓hb74,bl,List.length_set]; rfl))⟩,daS_d rfl,rr,rr,rr,rr,rr,⟨rfl,(by first | rfl | (simp only [↓hb9,↓hb12,↓hb26,↓hb28,↓hb29,↓hb74,bl,List.length_set]; done) | (simp only [↓hb9,↓hb12,↓hb26,↓hb28,↓hb29,↓hb74,bl,List.length_set]; rfl))⟩,⟨rfl,(by first | rfl | (simp only [↓hb9,↓hb12,↓hb26,↓hb28,↓hb29,↓hb74,bl,List.length_set]; done) | (simp only [↓hb9,↓hb12,↓hb26,↓hb28,↓hb29,↓hb74,bl,List.length_set]; rfl))⟩,daS_d rfl,⟨rfl,(by first | rfl | (simp only [↓hb9,↓hb12,↓hb26,↓hb28,↓hb29,↓hb74,bl,List.length_set]; done) | (simp only [↓hb9,↓hb12,↓hb26,↓hb28,↓hb29,↓hb74,bl,List.length_set]; rfl))⟩,trivial⟩ trivial
   clear hv81
   rcases q_85 with _ | (⟨v_77,l_78,l_79⟩ | ⟨v_82,l_83,l_84⟩)
   ·dsimp only at h
    conv=>whnf
    refine endH ?_
    conv=>whnf
    cases h
    exact ⟨_,rfl,rfl,rfl⟩
   ·dsimp only at h
    conv=>whnf
    refine sg ?_
    conv=>whnf
    obtain ⟨x_80,hx_80,h⟩:=bS h
    refine ixS_of hx_80 (by first | rfl | simp) ?_
    conv=>whnf
    refine elP_of hx_80 ?_
    conv=>whnf
    refine lvS_mk (es':=List.map .d (List.map eB (List.set l_78 (Int.toNat v_18) false))) (by simp only [Nat.zero_add,List.map_set]; first | done | rfl) ?_
    conv=>whnf
    refine sg ?_
    conv=>whnf
    refine orB_l ?_
    conv=>whnf
    refine Tr.ret ?_
    conv=>whnf
    refine endH ?_
    conv=>whnf
    refine frE_of (f:=eTPlan0) (l:=l_79) rfl ?_
    conv=>whnf
    cases h
    exact ⟨[.var [(dI v_77)],.var [.sl 2 1 0 (List.length (List.set l_78 (Int.toNat v_18) false))],.arr 1 (List.map .d (List.map eB (List.set l_78 (Int.toNat v_18) false))),.var [.fn 42 [.pt 0 0,.pt 1 0,.pt 3 0]]],rfl,(by first | rfl | (simp only [List.length_set]; rfl) | simp [List.length_set]),⟨rfl,rfl,⟨_,rfl⟩,rfl,trivial⟩,_,_,_,_,rfl,rfl,rfl⟩
   dsimp only at h
   conv=>whnf
   refine rg ?_
   conv=>whnf
   refine arS_raw ?_
   conv=>whnf
   refine ⟨((w64 (v_18+1)),v_82,l_83),h,?_⟩
   exact Wk.mk2 [0,1,2,3,4,5,6] 12 rfl rfl (by decide) rfl ⟨rr,⟨rfl,(by first | rfl | (simp only [↓hb9,↓hb12,↓hb26,↓hb28,↓hb29,bl,List.length_set]; done) | (simp only [↓hb9,↓hb12,↓hb26,↓hb28,↓hb29,bl,List.length_set]; rfl))⟩,daS_d rfl,rr,rr,rr,rr,trivial⟩ ⟨rr,rr,rr,rr,rr,rr,rr,rr,trivial⟩
  refine Tr.exit ?_
  conv=>whnf
  refine ⟨(v_19,l_20),h,?_⟩
  exact Wk.mk2 [0,1,2,3,6] 7 rfl rfl (by decide) rfl ⟨rr,rr,daS_d rfl,rr,rr,trivial⟩ ⟨⟨rfl,(by first | rfl | (simp only [↓hb9,↓hb12,↓hb26,bl,List.length_set]; done) | (simp only [↓hb9,↓hb12,↓hb26,bl,List.length_set]; rfl))⟩,rr,trivial⟩
 clear h
 rintro ⟨v_22,l_23⟩ h T1 H1 hw
 replace h:M124 v_22 l_23=some q:=h
 conv=>whnf
 refine Tr.weak hw ?_
 unfold M124 at h
 refine sg ?_
 conv=>whnf
 refine orB_l ?_
 conv=>whnf
 refine Tr.ret ?_
 conv=>whnf
 refine endH ?_
 conv=>whnf
 cases h
 exact ⟨[.var [(dI v_22)],.var [.sl 2 1 0 (List.length l_23)],.arr 1 (List.map .d (List.map eB l_23)),.var [.fn 42 [.pt 0 0,.pt 1 0,.pt 3 0]]],rfl,rfl,⟨rfl,rfl,⟨_,rfl⟩,rfl,trivial⟩,_,_,_,_,rfl,rfl,rfl⟩
theorem P126 (n:Nat):∀ (q_1:TQuestion) (left_2:Int) (v_3:Int) (l_4:List Bool) (q:Option (TPlan × Bool × Int × List Bool)),M126 n q_1 left_2 v_3 l_4=some q→MCP prog 42 [.d (eTQuestion q_1),(dI left_2),.pt 0 0,.pt 1 0,.pt 3 0] [.var [(dI v_3)],.var [.sl 2 1 0 (List.length l_4)],.arr 1 (List.map .d (List.map eB l_4)),.var [.fn 42 [.pt 0 0,.pt 1 0,.pt 3 0]]] (fun rs Bs=>∃ r_5:TPlan,∃ r_6:Bool,∃ b_7:Int,∃ l_8:List Bool,q=some (r_5,r_6,b_7,l_8)∧rs=[(eTPlan r_5),(.b r_6)]∧Bs=[.var [(dI b_7)],.var [.sl 2 1 0 (List.length l_8)],.arr 1 (List.map .d (List.map eB l_8)),.var [.fn 42 [.pt 0 0,.pt 1 0,.pt 3 0]]]) (fun pv=>pv=(.iface 37 (.int .i64 3))∧q=none):=by
 induction n with
 | zero =>
  intros
  rename_i h
  cases h
 | succ n ih=>exact P125 (M126 n) ih
theorem dr_looks_Least (H:Hp):DefR prog 41 [2,3,4] H:=by
 refine DefR.of_tr (cx:=⟨10,none,lay,H.length⟩) layOK rfl func41 rfl rfl rfl (by decide) 4 3 rfl rfl rfl rfl rfl rfl rfl rfl rfl ?_
 conv=>whnf
 refine TrE.seq ?_
 refine TrE.regionP layOK ?_
 conv=>whnf
 refine .inl ?_
 conv=>whnf
 refine .inr ⟨rfl,rfl,by kernel_rfl,.inr ⟨rfl,?_⟩⟩
 conv=>whnf
 refine TrE.cond ?_
 conv=>whnf
 refine TrE.skip ?_
 conv=>whnf
theorem P129 (q_1:TQuestion) (budget_2:Int) (r_3:TPlan) (r_4:Int) (r_5:Int) (h:M129 q_1 budget_2=some (r_3,r_4,r_5)) :
    PC prog 17 [(eTQuestion q_1),(.i .i64 budget_2)] (fun rs=>rs=[(eTPlan r_3),(.i .i64 r_4),(.i .i64 r_5)]):=by
 refine PC.of_trF (cx:=⟨52,none,lay,0⟩) layOK func17 rfl rfl rfl rfl rfl (by simp [f17]) ?_
 unfold M129 at h
 refine TrF.seq layOK ?_
 refine TrE.region layOK ?_
 conv=>whnf
 refine TrF.seq layOK ?_
 refine TrE.seq ?_
 refine TrE.region layOK ?_
 conv=>whnf
 obtain ⟨r_6,hc7,h⟩:=bS h
 refine PC.ecall (P55 q_1 r_6 hc7) (fun rs hrs=>?_)
 subst hrs
 conv=>whnf
 refine TrE.seq ?_
 refine TrE.region layOK ?_
 conv=>whnf
 refine TrE.cond ?_
 conv=>whnf
 refine cB h (fun hb8 h=>?_) (fun hb8 h=>?_)
 ·refine TrE.seq ?_
  refine TrE.region layOK ?_
  conv=>whnf
  refine orB_l ?_
  conv=>whnf
  refine TrE.ret ?_
  conv=>whnf
  cases h
  rfl
 refine TrE.skip ?_
 conv=>whnf
 refine TrF.seq layOK ?_
 refine TrE.seq ?_
 refine TrE.region layOK ?_
 conv=>whnf
 refine cB h (fun hb9 h=>?_) (fun hb9 h=>?_)
 ·conv=>whnf
  refine TrE.cond ?_
  conv=>whnf
  refine TrE.seq ?_
  refine TrE.region layOK ?_
  conv=>whnf
  refine orB_l ?_
  conv=>whnf
  refine TrE.ret ?_
  conv=>whnf
  cases h
  rfl
 conv=>whnf
 refine TrE.cond ?_
 conv=>whnf
 refine cB h (fun hb10 h=>?_) (fun hb10 h=>?_)
 ·refine TrE.seq ?_
  refine TrE.region layOK ?_
  conv=>whnf
  refine orB_l ?_
  conv=>whnf
  refine TrE.ret ?_
  conv=>whnf
  cases h
  rfl
 refine TrE.skip ?_
 conv=>whnf
 refine TrF.defer layOK rfl 41 [2,3,4] 26 rfl rfl rfl ?_ rfl rfl rfl ⟨_,_,func41,rfl,rfl⟩ (fun I=>?_)
 ·conv=>whnf
  exact ⟨rfl,rfl⟩
 conv=>whnf
 refine Tr.seq ?_
 refine Tr.region layOK ?_
 conv=>whnf
 refine lnS_map ?_
 conv=>whnf
 obtain ⟨n_11,hn_11,h⟩:=bS h
 refine msS_of hn_11 rfl ?_
 conv=>whnf
 refine rS (es':=List.map .d (List.map eB (List.replicate n_11 false))) (n':=List.length ((List.replicate n_11 false):List Bool)) (by simp only [List.map_replicate]; first | done | rfl) (by simp) ?_
 conv=>whnf
 refine orB_l ?_
 conv=>whnf
 refine Tr.seq ?_
 refine Tr.region layOK ?_
 conv=>whnf
 refine Tr.seq ?_
 refine Tr.region layOK ?_
 conv=>whnf
 refine orB_l ?_
 conv=>whnf
 refine Tr.seq ?_
 refine Tr.seq ?_
 refine Tr.region layOK ?_
 conv=>whnf
 refine lnS_map ?_
 conv=>whnf
 refine arS_raw ?_
 conv=>whnf
 refine Tr.cutQ (α:=Int) (fun s=>([(4,.pt 2 0),(5,.pt 3 0),(6,.pt 4 0)],[some (.var [.d (.ls (List.map eTSegment q_1.Field.Clocks.Segments)),.d (.ls (List.map (eL eI) q_1.Field.Clocks.Far)),.d (.ls (List.map eTPair q_1.Field.Pairs)),.d (.ls (List.map eTRunner q_1.Field.Runners)),(dI q_1.Runner),.d (.ls (List.map eTLook q_1.Looks))]),some (.var [(dI s)]),some (.var [(dI 0),.nsl]),some (.var [(dI 0)]),some (.var [(dI 0)])])) (fun s=>M128 s=some (r_3,r_4,r_5)) ?_ ?_
 ·refine Tr.block ?_
  refine Tr.loopM (σ:=Int × Int × List Bool) (fun n s=>M127 q_1 M128 n s.1 s.2.1 s.2.2) (r_3,r_4,r_5) (fun s=>([(2,.pt 0 0),(4,.pt 2 0),(5,.pt 3 0),(6,.pt 4 0),(9,.pt 5 0),(36,(dI (w64 ((minG 6 (((q_1.Looks).length:Int)))+1)))),(37,(dI s.1))],[some (.var [.d (.ls (List.map eTSegment q_1.Field.Clocks.Segments)),.d (.ls (List.map (eL eI) q_1.Field.Clocks.Far)),.d (.ls (List.map eTPair q_1.Field.Pairs)),.d (.ls (List.map eTRunner q_1.Field.Runners)),(dI q_1.Runner),.d (.ls (List.map eTLook q_1.Looks))]),some (.var [(dI s.2.1)]),some (.var [(dI 0),.nsl]),some (.var [(dI 0)]),some (.var [(dI 0)]),some (.var [.fn 42 [.pt 1 0,.pt 6 0,.pt 5 0]]),some (.var [.sl 7 1 0 (List.length s.2.2)]),some (.arr 1 (List.map .d (List.map eB s.2.2)))])) (((w64 ((minG 6 (((q_1.Looks).length:Int)))+1)) - 0:Int).toNat+1) (0,budget_2,(List.replicate n_11 false)) h (fun s=>rfl) (Wk.mk2 [0,1,2,3,4,7,6,5] 8 rfl rfl (by decide) rfl ⟨rr,rr,rr,rr,rr,⟨rfl,(by first | rfl | (simp only [↓hb8,↓hb9,↓hb10,bl,List.length_set]; done) | (simp only [↓hb8,↓hb9,↓hb10,bl,List.length_set]; rfl))⟩,⟨rfl,(by first | rfl | (simp only [↓hb8,↓hb9,↓hb10,bl,List.length_set]; done) | (simp only [↓hb8,↓hb9,↓hb10,bl,List.length_set]; rfl))⟩,daS_d rfl,trivial⟩ ⟨rr,rr,rr,rr,⟨rfl,(by first | rfl | (simp only [↓hb8,↓hb9,↓hb10,bl,List.length_set]; done) | (simp only [↓hb8,↓hb9,↓hb10,bl,List.length_set]; rfl))⟩,rr,rr,trivial⟩) ?_
  clear h
  rintro n_18 ⟨v_15,v_16,l_17⟩ h
  replace h:M127 q_1 M128 (n_18+1) v_15 v_16 l_17=some (r_3,r_4,r_5):=h
  rw [M127] at h
  refine Tr.seq ?_
  refine Tr.region layOK ?_
  conv=>whnf
  refine Tr.seq ?_
  refine Tr.cond ?_
  conv=>whnf
  refine cB h (fun hb22 h=>?_) (fun hb22 h=>?_)
  ·refine Tr.skip ?_
   conv=>whnf
   refine Tr.seq ?_
   refine Tr.block ?_
   refine Tr.seq ?_
   refine Tr.region layOK ?_
   conv=>whnf
   refine Tr.seq ?_
   refine Tr.regionP layOK ?_
   conv=>whnf
   refine .inl ?_
   conv=>whnf
   refine .inl ?_
   conv=>whnf
   refine .inl ?_
   conv=>whnf
   obtain ⟨q_27,hc28,h⟩:=bS h
   refine .inr ?_
   conv=>whnf
   refine MCP.ecall (P126 1000 q_1 v_15 v_16 l_17 q_27 hc28) [1,6,7,5] (by decide) rfl rfl ?_ (fun rs Bs1 hrs=>?_) (fun pv hpv=>?_)
   · exact ⟨⟨rfl,rfl⟩,⟨rfl,rfl⟩,⟨⟨_,rfl⟩,rfl⟩,⟨rfl,rfl⟩,trivial⟩
   rotate_left
   ·obtain ⟨rfl,rfl⟩:=hpv
    rw [onP_none] at h
    conv=>whnf
    refine ⟨_,rfl,?_⟩
    refine DefP.of_tr (cx:=⟨10,none,lay,8⟩) layOK rfl func41 rfl rfl rfl (by decide) 4 3 rfl rfl rfl rfl rfl rfl rfl rfl rfl ?_
    conv=>whnf
    refine TrE.seq ?_
    refine TrE.regionP layOK ?_
    conv=>whnf
    refine .inl ?_
    conv=>whnf
    refine .inr ⟨rfl,rfl,by kernel_rfl,.inl ⟨_,_,rfl,?_⟩⟩
    conv=>whnf
    refine TrE.cond ?_
    conv=>whnf
    refine TrE.draw layOK mixed [(3,2),(4,3),(5,4)] [(0,1),(1,1),(2,1),(3,0),(4,0),(5,0)] (by kernel_rfl) ?_
    conv=>whnf
    refine q1 ?_
    conv=>whnf
    refine q1 ?_
    conv=>whnf
    refine ⟨_,(fun _=>by (conv=>whnf); (refine ⟨_,(dI 3),rfl,by kernel_rfl,rfl,?_⟩); (conv=>whnf); (exact rr)),?_⟩
    conv=>whnf
    refine ⟨_,_,(by (conv=>whnf); (refine orB_l ?_); (conv=>whnf); (exact rr)),kp_ok (by repeat (first | exact trivial | refine ⟨trivial,?_⟩ | refine ⟨rfl,?_⟩)),?_⟩
    conv=>whnf
    refine ⟨_,_,rr,kp_ok (by repeat (first | exact trivial | refine ⟨trivial,?_⟩ | refine ⟨rfl,?_⟩)),?_⟩
    conv=>whnf
    refine ⟨_,_,rr,kp_ok (by repeat (first | exact trivial | refine ⟨trivial,?_⟩ | refine ⟨rfl,?_⟩)),?_⟩
    conv=>whnf
    cases h
    rfl
   obtain ⟨r_23,r_24,b_25,l_26,rfl,rfl,rfl⟩:=hrs
   rw [onP_some] at h
   conv=>whnf
   obtain ⟨_,hl29,h⟩:=bS h
   refine .inl ?_
   conv=>whnf
   refine .inl ?_
   conv=>whnf
   refine .inl ?_
   conv=>whnf
   refine .inl ?_
   conv=>whnf
   refine .inl ?_
   conv=>whnf
   refine .inl ?_
   conv=>whnf
   refine Tr.seq ?_
   refine Tr.region layOK ?_
   conv=>whnf
   refine Tr.cond ?_
   conv=>whnf
   refine cB h (fun hb30 h=>?_) (fun hb30 h=>?_)
   ·refine Tr.seq ?_
    refine Tr.region layOK ?_
    conv=>whnf
    refine Tr.ret ?_
    conv=>whnf
    refine ⟨dr_looks_Least _,?_⟩
    conv=>whnf
    cases h
    rfl
   refine Tr.skip ?_
   conv=>whnf
   refine Tr.region layOK ?_
   conv=>whnf
   refine arS_raw ?_
   conv=>whnf
   refine ⟨((w64 (v_15+1)),b_25,l_26),h,?_⟩
   exact Wk.mk2 [0,1,2,3,4,5,6,7] 9 rfl rfl (by decide) rfl ⟨rr,rr,rr,rr,rr,rr,⟨rfl,(by first | rfl | (simp only [↓hb8,↓hb9,↓hb10,↓hb22,↓hb30,bl,List.length_set]; done) | (simp only [↓hb8,↓hb9,↓hb10,↓hb22,↓hb30,bl,List.length_set]; rfl))⟩,daS_d rfl,trivial⟩ ⟨rr,rr,rr,rr,rr,rr,rr,trivial⟩
  refine Tr.exit ?_
  conv=>whnf
  refine ⟨(v_16),h,?_⟩
  exact Wk.mk2 [0,1,2,3,4] 8 rfl rfl (by decide) rfl ⟨rr,rr,rr,rr,rr,trivial⟩ ⟨rr,rr,rr,trivial⟩
 clear h
 rintro v_19 h T1 H1 hw
 replace h:M128 v_19=some (r_3,r_4,r_5):=h
 conv=>whnf
 refine Tr.weak hw ?_
 unfold M128 at h
 refine Tr.seq ?_
 refine Tr.region layOK ?_
 conv=>whnf
 refine orB_l ?_
 conv=>whnf
 refine Tr.ret ?_
 conv=>whnf
 refine ⟨dr_looks_Least _,?_⟩
 conv=>whnf
 cases h
 rfl
theorem P134 (rc_9061:TQuestion→Int→(List Bool)→Option (Option (TPlan × List Bool))) (ih_9061:∀ (q_1:TQuestion) (left_2:Int) (l_3:List Bool) (q:Option (TPlan × List Bool)),rc_9061 q_1 left_2 l_3=some q→MCP prog 49 [.d (eTQuestion q_1),(dI left_2),.pt 0 0,.pt 2 0] [.var [.sl 1 1 0 (List.length l_3)],.arr 1 (List.map .d (List.map eB l_3)),.var [.fn 49 [.pt 0 0,.pt 2 0]]] (fun rs Bs=>∃ r_4:TPlan,∃ l_5:List Bool,q=some (r_4,l_5)∧rs=[(eTPlan r_4)]∧Bs=[.var [.sl 1 1 0 (List.length l_5)],.arr 1 (List.map .d (List.map eB l_5)),.var [.fn 49 [.pt 0 0,.pt 2 0]]]) (fun pv=>pv=(.iface 37 (.int .i64 361))∧q=none)) (q_1:TQuestion) (left_2:Int) (l_3:List Bool) (q:Option (TPlan × List Bool)) (h:M134 rc_9061 q_1 left_2 l_3=some q) :
    MCP prog 49 [.d (eTQuestion q_1),(dI left_2),.pt 0 0,.pt 2 0] [.var [.sl 1 1 0 (List.length l_3)],.arr 1 (List.map .d (List.map eB l_3)),.var [.fn 49 [.pt 0 0,.pt 2 0]]] (fun rs Bs=>∃ r_4:TPlan,∃ l_5:List Bool,q=some (r_4,l_5)∧rs=[(eTPlan r_4)]∧Bs=[.var [.sl 1 1 0 (List.length l_5)],.arr 1 (List.map .d (List.map eB l_5)),.var [.fn 49 [.pt 0 0,.pt 2 0]]]) (fun pv=>pv=(.iface 37 (.int .i64 361))∧q=none):=by
 refine MCP.of_tr (cx:=⟨80,none,lay,3⟩) layOK func49 rfl rfl rfl rfl rfl (by simp [f49]) ?_
 refine Tr.unW ?_
 unfold M134 at h
 refine sg ?_
 conv=>whnf
 refine Tr.seq ?_
 refine sg ?_
 conv=>whnf
 obtain ⟨r_6,hc7,h⟩:=bS h
 refine PC.ecall (P115 q_1 r_6 hc7) (fun rs hrs=>?_)
 subst hrs
 conv=>whnf
 refine Tr.cond ?_
 conv=>whnf
 refine cB h (fun hb8 h=>?_) (fun hb8 h=>?_)
 ·refine sg ?_
  conv=>whnf
  obtain ⟨r_9,hc10,h⟩:=bS h
  refine PC.ecall (P116 r_9 hc10) (fun rs hrs=>?_)
  subst hrs
  conv=>whnf
  refine Tr.ret ?_
  conv=>whnf
  refine endH ?_
  conv=>whnf
  cases h
  exact ⟨[.var [.sl 1 1 0 (List.length l_3)],.arr 1 (List.map .d (List.map eB l_3)),.var [.fn 49 [.pt 0 0,.pt 2 0]]],rfl,rfl,⟨rfl,⟨_,rfl⟩,rfl,trivial⟩,_,_,rfl,rfl,rfl⟩
 refine Tr.skip ?_
 conv=>whnf
 refine sg ?_
 conv=>whnf
 refine Tr.seq ?_
 refine sg ?_
 conv=>whnf
 refine lnS_map ?_
 conv=>whnf
 obtain ⟨best_18,hv48,h⟩:=bS h
 refine Tr.cutQ1 ([(2,.pt 0 0),(3,.pt 2 0),(4,.pt 3 0),(5,.pt 4 0),(6,.pt 5 0),(7,(dI best_18))]) ([some (.var [.sl 1 1 0 (List.length l_3)]),some (.arr 1 (List.map .d (List.map eB l_3))),some (.var [.fn 49 [.pt 0 0,.pt 2 0]]),some (.var [.d (.ls (List.map eTSegment q_1.Field.Clocks.Segments)),.d (.ls (List.map (eL eI) q_1.Field.Clocks.Far)),.d (.ls (List.map eTPair q_1.Field.Pairs)),.d (.ls (List.map eTRunner q_1.Field.Runners)),(dI q_1.Runner),.d (.ls (List.map eTLook q_1.Looks))]),some (.var [(dI left_2)]),some (.var [(dI 0),.nsl])]) ?_ (fun T1 H1 hw=>?_)
 ·replace h:=hv48; clear hv48
  refine Tr.block ?_
  refine Tr.loopM (σ:=Int × Int × Int) (fun n s=>M131 q_1 l_3 n s.1 s.2.1 s.2.2) best_18 (fun s=>([(2,.pt 0 0),(3,.pt 2 0),(4,.pt 3 0),(5,.pt 4 0),(6,.pt 5 0),(7,(dI s.1)),(8,(dI s.2.1)),(22,(dI (((q_1.Looks).length:Int)))),(23,(dI s.2.2))],[some (.var [.sl 1 1 0 (List.length l_3)]),some (.arr 1 (List.map .d (List.map eB l_3))),some (.var [.fn 49 [.pt 0 0,.pt 2 0]]),some (.var [.d (.ls (List.map eTSegment q_1.Field.Clocks.Segments)),.d (.ls (List.map (eL eI) q_1.Field.Clocks.Far)),.d (.ls (List.map eTPair q_1.Field.Pairs)),.d (.ls (List.map eTRunner q_1.Field.Runners)),(dI q_1.Runner),.d (.ls (List.map eTLook q_1.Looks))]),some (.var [(dI left_2)]),some (.var [(dI 0),.nsl])])) (((((q_1.Looks).length:Int)) - 0:Int).toNat+1) ((-1),0,0) h (fun s=>rfl) (Wk.mk2 [0,1,2,3,4,5] 6 rfl rfl (by decide) rfl ⟨rr,daS_d rfl,rr,rr,rr,rr,trivial⟩ ⟨rr,rr,rr,rr,rr,rr,rr,rr,rr,trivial⟩) ?_
  clear h
  rintro n_17 ⟨best_14,least_15,v_16⟩ h
  replace h:M131 q_1 l_3 (n_17+1) best_14 least_15 v_16=some best_18:=h
  rw [M131] at h
  refine sg ?_
  conv=>whnf
  refine Tr.seq ?_
  refine Tr.cond ?_
  conv=>whnf
  refine cB h (fun hb21 h=>?_) (fun hb21 h=>?_)
  ·refine Tr.skip ?_
   conv=>whnf
   refine Tr.seq ?_
   obtain ⟨⟨best_22,least_23⟩,hv24,h⟩:=bS h
   refine Tr.cutQ1 ([(2,.pt 0 0),(3,.pt 2 0),(4,.pt 3 0),(5,.pt 4 0),(6,.pt 5 0),(7,(dI best_22)),(8,(dI least_23)),(22,(dI (((q_1.Looks).length:Int)))),(23,(dI v_16))]) ([some (.var [.sl 1 1 0 (List.length l_3)]),some (.arr 1 (List.map .d (List.map eB l_3))),some (.var [.fn 49 [.pt 0 0,.pt 2 0]]),some (.var [.d (.ls (List.map eTSegment q_1.Field.Clocks.Segments)),.d (.ls (List.map (eL eI) q_1.Field.Clocks.Far)),.d (.ls (List.map eTPair q_1.Field.Pairs)),.d (.ls (List.map eTRunner q_1.Field.Runners)),(dI q_1.Runner),.d (.ls (List.map eTLook q_1.Looks))]),some (.var [(dI left_2)]),some (.var [(dI 0),.nsl])]) ?_ (fun T1 H1 hw=>?_)
   ·replace h:=hv24; clear hv24
    refine Tr.block ?_
    refine sg ?_
    conv=>whnf
    refine Tr.seq ?_
    refine sg ?_
    conv=>whnf
    obtain ⟨x_25,hx_25,h⟩:=bS h
    refine ixS_of hx_25 rfl ?_
    conv=>whnf
    refine elP_of hx_25 ?_
    conv=>whnf
    refine Tr.cond ?_
    conv=>whnf
    refine cB h (fun hb26 h=>?_) (fun hb26 h=>?_)
    ·refine Tr.exit ?_
     conv=>whnf
     cases h
     exact Wk.mk2 [0,1,2,3,4,5] 6 rfl rfl (by decide) rfl ⟨rr,daS_d rfl,rr,rr,rr,rr,trivial⟩ ⟨rr,rr,rr,rr,rr,rr,rr,rr,rr,trivial⟩
    refine Tr.skip ?_
    conv=>whnf
    refine sg ?_
    conv=>whnf
    refine Tr.seq ?_
    refine sg ?_
    conv=>whnf
    obtain ⟨⟨c_27,c_28,c_29,c_30,c_31,c_32,c_33⟩,hc34,h⟩:=bS h
    refine PC.ecall (P117 q_1 v_16 c_27 c_28 c_29 c_30 c_31 c_32 c_33 hc34) (fun rs hrs=>?_)
    subst hrs
    conv=>whnf
    obtain ⟨l_35,hl36,h⟩:=bS h
    obtain ⟨v_44,hv47,h⟩:=bS h
    refine Tr.block ?_
    refine Tr.rangeM layOK rfl (ge:=fun a=>[(.i .i64 a.1),(eTQuestion a.2)]) rfl (P120 c_27 c_28 c_29 c_30 c_31 c_32 c_33 l_35 hl36) (fun _=>rfl) rfl (fun s=>[some (.var [.sl 1 1 0 (List.length l_3)]),some (.arr 1 (List.map .d (List.map eB l_3))),some (.var [.fn 49 [.pt 0 0,.pt 2 0]]),some (.var [.d (.ls (List.map eTSegment q_1.Field.Clocks.Segments)),.d (.ls (List.map (eL eI) q_1.Field.Clocks.Far)),.d (.ls (List.map eTPair q_1.Field.Pairs)),.d (.ls (List.map eTRunner q_1.Field.Runners)),(dI q_1.Runner),.d (.ls (List.map eTLook q_1.Looks))]),some (.var [(dI left_2)]),some (.var [(dI 0),.nsl]),some (.var [(dI s)])]) M130 (0) v_44 hv47 (Wk.mk2 [0,1,2,3,4,5,6] 7 rfl rfl (by decide) rfl ⟨⟨rfl,rfl⟩,daS_d rfl,⟨rfl,rfl⟩,⟨rfl,rfl⟩,⟨rfl,rfl⟩,⟨rfl,rfl⟩,⟨rfl,rfl⟩,trivial⟩ trivial) ?_ ?_
    ·clear h hv47
     rintro li ⟨y_37,y_38⟩ v_40 s_41 ha h
     replace h:M130 (y_37,y_38) v_40=some s_41:=h
     unfold M130 at h
     dsimp only at h
     conv=>whnf
     refine TrE.region layOK ?_
     conv=>whnf
     refine Tr.block ?_
     refine dq [(4,6)] [(0,9),(1,10),(2,1),(3,1),(4,0)] ?_
     conv=>whnf
     refine q2 ?_
     conv=>whnf
     refine q2 ?_
     conv=>whnf
     obtain ⟨r_42,hc43,h⟩:=bS h
     refine q1 ?_ (fun _=>pe (P115 y_38 r_42 hc43) rr)
     conv=>whnf
     refine q1 ?_
     conv=>whnf
     refine ⟨_,_,rr,kp_ok (by repeat (first | exact trivial | refine ⟨trivial,?_⟩ | refine ⟨rfl,?_⟩)),?_⟩
     conv=>whnf
     cases h
     exact Wk.mk2 [0,1,2,3,4,5,6] 8 rfl rfl (by decide) rfl ⟨rr,daS_d rfl,rr,rr,rr,rr,rr,trivial⟩ trivial
    clear hv47
    conv=>whnf
    refine sg ?_
    conv=>whnf
    refine cB h (fun hb45 h=>?_) (fun hb45 h=>?_)
    ·conv=>whnf
     refine Tr.cond ?_
     conv=>whnf
     refine dq [] [(0,1),(1,9),(2,1),(3,1)] ?_
     conv=>whnf
     refine q1 ?_
     conv=>whnf
     refine q2 ?_
     conv=>whnf
     refine q1 ?_
     conv=>whnf
     refine q1 ?_
     conv=>whnf
     cases h
     exact Wk.mk2 [0,1,2,3,4,5] 7 rfl rfl (by decide) rfl ⟨rr,daS_d rfl,rr,rr,rr,rr,trivial⟩ ⟨rr,rr,rr,rr,rr,rr,rr,rr,rr,trivial⟩
    conv=>whnf
    refine Tr.cond ?_
    conv=>whnf
    refine cB h (fun hb46 h=>?_) (fun hb46 h=>?_)
    ·refine dq [] [(0,1),(1,9),(2,1),(3,1)] ?_
     conv=>whnf
     refine q1 ?_
     conv=>whnf
     refine q2 ?_
     conv=>whnf
     refine q1 ?_
     conv=>whnf
     refine q1 ?_
     conv=>whnf
     cases h
     exact Wk.mk2 [0,1,2,3,4,5] 7 rfl rfl (by decide) rfl ⟨rr,daS_d rfl,rr,rr,rr,rr,trivial⟩ ⟨rr,rr,rr,rr,rr,rr,rr,rr,rr,trivial⟩
    refine Tr.skip ?_
    conv=>whnf
    cases h
    exact Wk.mk2 [0,1,2,3,4,5] 7 rfl rfl (by decide) rfl ⟨rr,daS_d rfl,rr,rr,rr,rr,trivial⟩ ⟨rr,rr,rr,rr,rr,rr,rr,rr,rr,trivial⟩
   clear hv24
   conv=>whnf
   refine Tr.weak hw ?_
   refine rg ?_
   conv=>whnf
   refine arS_raw ?_
   conv=>whnf
   refine ⟨(best_22,least_23,(w64 (v_16+1))),h,?_⟩
   exact Wk.mk2 [0,1,2,3,4,5] 6 rfl rfl (by decide) rfl ⟨rr,daS_d rfl,rr,rr,rr,rr,trivial⟩ ⟨rr,rr,rr,rr,rr,rr,rr,rr,rr,trivial⟩
  refine Tr.exit ?_
  conv=>whnf
  cases h
  exact Wk.mk2 [0,1,2,3,4,5] 6 rfl rfl (by decide) rfl ⟨rr,daS_d rfl,rr,rr,rr,rr,trivial⟩ ⟨rr,rr,rr,rr,rr,rr,trivial⟩
 clear hv48
 conv=>whnf
 refine Tr.weak hw ?_
 refine Tr.seq ?_
 refine sg ?_
 conv=>whnf
 refine cB h (fun hb49 h=>?_) (fun hb49 h=>?_)
 ·conv=>whnf
  refine Tr.cond ?_
  conv=>whnf
  refine Tr.regionP layOK ?_
  conv=>whnf
  refine .inr ⟨_,rfl,by kernel_rfl,?_⟩
  conv=>whnf
  refine .inr ⟨_,_,rfl,?_⟩
  conv=>whnf
  refine endH ?_
  conv=>whnf
  cases h
  exact ⟨_,rfl,rfl,rfl⟩
 conv=>whnf
 refine Tr.cond ?_
 conv=>whnf
 refine cB h (fun hb50 h=>?_) (fun hb50 h=>?_)
 ·refine Tr.regionP layOK ?_
  conv=>whnf
  refine .inr ⟨_,rfl,by kernel_rfl,?_⟩
  conv=>whnf
  refine .inr ⟨_,_,rfl,?_⟩
  conv=>whnf
  refine endH ?_
  conv=>whnf
  cases h
  exact ⟨_,rfl,rfl,rfl⟩
 refine Tr.skip ?_
 conv=>whnf
 refine sg ?_
 conv=>whnf
 refine ECall.of_tr (cx:=⟨25,none,lay,6⟩) layOK func45 rfl rfl rfl rfl rfl (by simp [f45]) ?_
 refine sg ?_
 conv=>whnf
 refine sg ?_
 conv=>whnf
 refine orB_l ?_
 conv=>whnf
 refine Tr.seq ?_
 refine sg ?_
 conv=>whnf
 obtain ⟨x_51,hx_51,h⟩:=bS h
 refine ixP_of hx_51 ?_
 conv=>whnf
 refine lnS_map ?_
 conv=>whnf
 obtain ⟨l_57,hv64,h⟩:=bS h
 refine Tr.cutQ1 ([(4,.pt 6 0),(5,.pt 7 0)]) ([some (.var [.sl 1 1 0 (List.length l_3)]),some (.arr 1 (List.map .d (List.map eB l_3))),some (.var [.fn 49 [.pt 0 0,.pt 2 0]]),some (.var [.d (.ls (List.map eTSegment q_1.Field.Clocks.Segments)),.d (.ls (List.map (eL eI) q_1.Field.Clocks.Far)),.d (.ls (List.map eTPair q_1.Field.Pairs)),.d (.ls (List.map eTRunner q_1.Field.Runners)),(dI q_1.Runner),.d (.ls (List.map eTLook q_1.Looks))]),some (.var [(dI left_2)]),some (.var [(dI 0),.nsl]),some (.var [(dI 0),.nsl]),some (.var [(dI best_18),.sl 8 2 0 (List.length l_57)]),some (.arr 2 (List.map .d (List.map eTPlan0 l_57)))]) ?_ (fun T1 H1 hw=>?_)
 ·replace h:=hv64; clear hv64
  refine Tr.block ?_
  refine Tr.loopM (σ:=Int × List TPlan0) (fun n s=>M132 x_51 n s.1 s.2) l_57 (fun s=>([(4,.pt 6 0),(5,.pt 7 0),(14,(dI (((x_51.Answers).length:Int)))),(15,(dI s.1))],[some (.var [.sl 1 1 0 (List.length l_3)]),some (.arr 1 (List.map .d (List.map eB l_3))),some (.var [.fn 49 [.pt 0 0,.pt 2 0]]),some (.var [.d (.ls (List.map eTSegment q_1.Field.Clocks.Segments)),.d (.ls (List.map (eL eI) q_1.Field.Clocks.Far)),.d (.ls (List.map eTPair q_1.Field.Pairs)),.d (.ls (List.map eTRunner q_1.Field.Runners)),(dI q_1.Runner),.d (.ls (List.map eTLook q_1.Looks))]),some (.var [(dI left_2)]),some (.var [(dI 0),.nsl]),some (.var [(dI 0),.nsl]),some (.var [(dI best_18),.sl 8 2 0 (List.length s.2)]),some (.arr 2 (List.map .d (List.map eTPlan0 s.2)))])) (((((x_51.Answers).length:Int)) - 0:Int).toNat+1) (0,(([]:List TPlan0))) h (fun s=>rfl) (Wk.mk2 [0,1,2,3,4,5,7,8,9] 9 rfl rfl (by decide) rfl ⟨rr,daS_d rfl,rr,rr,rr,rr,rr,⟨rfl,(by first | rfl | (simp only [↓hb8,↓hb49,↓hb50,bl,List.length_set]; done) | (simp only [↓hb8,↓hb49,↓hb50,bl,List.length_set]; rfl))⟩,rfl,trivial⟩ ⟨⟨rfl,(by first | rfl | (simp only [↓hb8,↓hb49,↓hb50,bl,List.length_set]; done) | (simp only [↓hb8,↓hb49,↓hb50,bl,List.length_set]; rfl))⟩,⟨rfl,(by first | rfl | (simp only [↓hb8,↓hb49,↓hb50,bl,List.length_set]; done) | (simp only [↓hb8,↓hb49,↓hb50,bl,List.length_set]; rfl))⟩,rr,rr,trivial⟩) ?_
  clear h
  rintro n_56 ⟨v_54,l_55⟩ h
  replace h:M132 x_51 (n_56+1) v_54 l_55=some l_57:=h
  rw [M132] at h
  refine sg ?_
  conv=>whnf
  refine Tr.seq ?_
  refine Tr.cond ?_
  conv=>whnf
  refine cB h (fun hb60 h=>?_) (fun hb60 h=>?_)
  ·refine Tr.skip ?_
   conv=>whnf
   refine Tr.seq ?_
   refine Tr.block ?_
   refine dq [(4,8),(6,7)] [(0,10),(1,10),(2,1),(3,1),(4,0),(5,10),(6,0)] ?_
   conv=>whnf
   refine q2 ?_
   conv=>whnf
   refine q2 ?_
   conv=>whnf
   obtain ⟨r_61,hc62,h⟩:=bS h
   refine q1 ?_ (fun _=>pe (P116 r_61 hc62) rr)
   conv=>whnf
   refine q1 ?_ (fun _=>orB_r rr)
   conv=>whnf
   obtain ⟨l_63,hl_63,h⟩:=bS h
   refine ⟨_,_,(by (conv=>whnf); (refine frP_no ?_); (conv=>whnf); (refine eqS_mk (by first | rfl | simp) ?_); (conv=>whnf); (refine apS_of hl_63 (aQ (f:=eTPlan0) (l:=(([(pTPlan r_61)]:List TPlan0))) fun _=>rfl) (by first | rfl | simp) (by first | rfl | simp) (fun he=>?_)); (conv=>whnf); (refine rS (es':=List.map .d (List.map eTPlan0 l_63)) (n':=List.length l_63) (by subst he; simp only [List.map_append,List.map_cons,List.map_nil,List.nil_append]; first | done | rfl) (by subst he; simp <;> omega) ?_); (clear he); (conv=>whnf); (exact rr)),kp_ok (by repeat (first | exact trivial | refine ⟨trivial,?_⟩ | refine ⟨rfl,?_⟩)),?_⟩
   conv=>whnf
   refine q2 ?_
   conv=>whnf
   refine ⟨_,_,(by (conv=>whnf); (refine orB_l ?_); (conv=>whnf); (exact rr)),kp_ok (by repeat (first | exact trivial | refine ⟨trivial,?_⟩ | refine ⟨rfl,?_⟩)),?_⟩
   conv=>whnf
   refine rg ?_
   conv=>whnf
   refine arS_raw ?_
   conv=>whnf
   refine ⟨((w64 (v_54+1)),l_63),h,?_⟩
   exact Wk.mk2 [0,1,2,3,4,5,6,7,9] 10 rfl rfl (by decide) rfl ⟨rr,daS_d rfl,rr,rr,rr,rr,rr,⟨rfl,(by first | rfl | (simp only [↓hb8,↓hb49,↓hb50,↓hb60,bl,List.length_set]; done) | (simp only [↓hb8,↓hb49,↓hb50,↓hb60,bl,List.length_set]; rfl))⟩,daS_d rfl,trivial⟩ ⟨rr,rr,rr,rr,trivial⟩
  refine Tr.exit ?_
  conv=>whnf
  cases h
  exact Wk.mk2 [0,1,2,3,4,5,6,7,8] 9 rfl rfl (by decide) rfl ⟨rr,daS_d rfl,rr,rr,rr,rr,rr,rr,daS_d rfl,trivial⟩ ⟨rr,rr,trivial⟩
 clear hv64
 conv=>whnf
 refine Tr.weak hw ?_
 refine sg ?_
 conv=>whnf
 refine orB_l ?_
 conv=>whnf
 refine Tr.ret ?_
 conv=>whnf
 refine orB_l ?_
 conv=>whnf
 refine sg ?_
 conv=>whnf
 obtain ⟨x_65,hx_65,h⟩:=bS h
 refine ixS_of hx_65 rfl ?_
 conv=>whnf
 refine elP_of hx_65 ?_
 conv=>whnf
 refine lvS_mk (es':=List.map .d (List.map eB (List.set l_3 (Int.toNat best_18) true))) (by simp only [Nat.zero_add,List.map_set]; first | done | rfl) ?_
 conv=>whnf
 refine Tr.seq ?_
 refine sg ?_
 conv=>whnf
 obtain ⟨⟨c_66,c_67,c_68,c_69,c_70,c_71,c_72⟩,hc73,h⟩:=bS h
 refine PC.ecall (P117 q_1 best_18 c_66 c_67 c_68 c_69 c_70 c_71 c_72 hc73) (fun rs hrs=>?_)
 subst hrs
 conv=>whnf
 obtain ⟨l_74,hl75,h⟩:=bS h
 obtain ⟨q_93,hv92,h⟩:=bS h
 refine Tr.block ?_
 refine Tr.rangeP (σ:=List Bool × List TPlan0) (ρ:=Empty) layOK rfl (ge:=fun a=>[(.i .i64 a.1),(eTQuestion a.2)]) rfl (P120 c_66 c_67 c_68 c_69 c_70 c_71 c_72 l_74 hl75) (fun _=>rfl) rfl ((.iface 37 (.int .i64 361))) (fun s=>[some (.var [.sl 1 1 0 (List.length s.1)]),some (.arr 1 (List.map .d (List.map eB s.1))),some (.var [.fn 49 [.pt 0 0,.pt 2 0]]),some (.var [.d (.ls (List.map eTSegment q_1.Field.Clocks.Segments)),.d (.ls (List.map (eL eI) q_1.Field.Clocks.Far)),.d (.ls (List.map eTPair q_1.Field.Pairs)),.d (.ls (List.map eTRunner q_1.Field.Runners)),(dI q_1.Runner),.d (.ls (List.map eTLook q_1.Looks))]),some (.var [(dI left_2)]),some (.var [(dI 0),.nsl]),some (.var [(dI best_18),.sl 8 2 0 (List.length s.2)]),some (.var [(dI best_18),.sl 8 2 0 (List.length s.2)]),some (.arr 2 (List.map .d (List.map eTPlan0 s.2))),some (.var [(dI best_18),.sl 8 2 0 (List.length s.2)])]) (fun s=>[]) [none,none,none,none,none,none,none,none,none,none] .ret (.inl rfl) (M133 left_2 rc_9061) ((List.set l_3 (Int.toNat best_18) true),l_57) q_93 hv92 (Wk.mk2 [0,1,2,3,4,5,6,7,8,9] 10 rfl rfl (by decide) rfl ⟨⟨rfl,(by first | rfl | (simp only [↓hb8,↓hb49,↓hb50,bl,List.length_set]; done) | (simp only [↓hb8,↓hb49,↓hb50,bl,List.length_set]; rfl))⟩,daS_d rfl,⟨rfl,rfl⟩,⟨rfl,rfl⟩,⟨rfl,rfl⟩,⟨rfl,rfl⟩,⟨rfl,rfl⟩,⟨rfl,rfl⟩,daS_d rfl,⟨rfl,rfl⟩,trivial⟩ trivial) ?_ ?_
 ·clear h hv92
  rintro li ⟨y_76,y_77⟩ ⟨l_80,l_81⟩ s_82 ha h
  replace h:(M133 left_2 rc_9061) (y_76,y_77) (l_80,l_81)=some s_82:=h
  unfold M133 at h
  dsimp only at h
  conv=>whnf
  refine TrE.seq ?_
  refine TrE.region layOK ?_
  conv=>whnf
  refine TrE.region layOK ?_
  conv=>whnf
  refine Tr.block ?_
  refine Tr.drawPA layOK mixed [(7,0),(7,1),(7,2),(9,8)] [7] [(0,12),(1,12),(2,1),(3,5),(4,13),(5,7),(6,1),(7,0),(8,11),(9,0)] (by kernel_rfl) ?_
  conv=>whnf
  refine q2 ?_
  conv=>whnf
  refine q2 ?_
  conv=>whnf
  refine q1 ?_
  conv=>whnf
  refine q2 ?_
  conv=>whnf
  refine q2 ?_
  conv=>whnf
  refine q2 ?_
  conv=>whnf
  refine q4 ?_
  conv=>whnf
  obtain ⟨q_85,hc86,h⟩:=bS h
  refine MCP.ecall (ih_9061 y_77 ((w64 (left_2 - 1))) l_80 q_85 hc86) [0,1,2] (by decide) rfl rfl ?_ (fun rs Bs1 hrs=>?_) (fun pv hpv=>?_)
  · exact ⟨⟨rfl,rfl⟩,⟨⟨_,rfl⟩,rfl⟩,⟨rfl,rfl⟩,trivial⟩
  rotate_left
  ·obtain ⟨rfl,rfl⟩:=hpv
   rw [onP_none] at h
   intro T9
   conv=>whnf
   cases h
   refine ⟨rfl,?_⟩
   exact Wk.mk2 [0,1,2,12,14,16,18,20,22,24] 11 rfl rfl (by decide) rfl trivial trivial
  obtain ⟨r_83,l_84,rfl,rfl,rfl⟩:=hrs
  rw [onP_some] at h
  conv=>whnf
  refine ⟨kp_ok (by repeat (first | exact trivial | refine ⟨trivial,?_⟩ | refine ⟨rfl,?_⟩)),?_⟩
  conv=>whnf
  obtain ⟨_,hl87,h⟩:=bS h
  obtain ⟨x_88,hx_88,h⟩:=bS h
  refine q3 (ixS_of hx_88 rfl rr) ?_
  conv=>whnf
  refine ⟨_,_,(by (conv=>whnf); (refine elP_of hx_88 ?_); (conv=>whnf); (refine lvS_mk (es':=List.map .d (List.map eTPlan0 (List.set l_81 (Int.toNat y_76) (pTPlan r_83)))) (by simp only [Nat.zero_add,List.map_set]; first | done | rfl) ?_); (conv=>whnf); (exact rr)),kp_ok (by repeat (first | exact trivial | refine ⟨trivial,?_⟩ | refine ⟨rfl,?_⟩)),?_⟩
  conv=>whnf
  cases h
  refine ⟨rfl,?_⟩
  exact Wk.mk2 [0,1,2,3,4,5,6,7,8,9] 11 rfl rfl (by decide) rfl ⟨⟨rfl,(by first | rfl | (simp only [↓hb8,↓hb49,↓hb50,bl,List.length_set]; done) | (simp only [↓hb8,↓hb49,↓hb50,bl,List.length_set]; rfl))⟩,daS_d rfl,rr,rr,rr,rr,⟨rfl,(by first | rfl | (simp only [↓hb8,↓hb49,↓hb50,bl,List.length_set]; done) | (simp only [↓hb8,↓hb49,↓hb50,bl,List.length_set]; rfl))⟩,⟨rfl,(by first | rfl | (simp only [↓hb8,↓hb49,↓hb50,bl,List.length_set]; done) | (simp only [↓hb8,↓hb49,↓hb50,bl,List.length_set]; rfl))⟩,daS_d rfl,⟨rfl,(by first | rfl | (simp only [↓hb8,↓hb49,↓hb50,bl,List.length_set]; done) | (simp only [↓hb8,↓hb49,↓hb50,bl,List.length_set]; rfl))⟩,trivial⟩ trivial
 clear hv92
 rcases q_93 with _ | (⟨l_89,l_90⟩ | e_q_93)
 ·dsimp only at h
  conv=>whnf
  refine endH ?_
  conv=>whnf
  cases h
  exact ⟨_,rfl,rfl,rfl⟩
 ·dsimp only at h
  conv=>whnf
  refine sg ?_
  conv=>whnf
  obtain ⟨x_91,hx_91,h⟩:=bS h
  refine ixS_of hx_91 (by first | rfl | simp) ?_
  conv=>whnf
  refine elP_of hx_91 ?_
  conv=>whnf
  refine lvS_mk (es':=List.map .d (List.map eB (List.set l_89 (Int.toNat best_18) false))) (by simp only [Nat.zero_add,List.map_set]; first | done | rfl) ?_
  conv=>whnf
  refine sg ?_
  conv=>whnf
  refine orB_l ?_
  conv=>whnf
  refine Tr.ret ?_
  conv=>whnf
  refine endH ?_
  conv=>whnf
  refine frE_of (f:=eTPlan0) (l:=l_90) rfl ?_
  conv=>whnf
  cases h
  exact ⟨[.var [.sl 1 1 0 (List.length (List.set l_89 (Int.toNat best_18) false))],.arr 1 (List.map .d (List.map eB (List.set l_89 (Int.toNat best_18) false))),.var [.fn 49 [.pt 0 0,.pt 2 0]]],rfl,(by first | rfl | (simp only [List.length_set]; rfl) | simp [List.length_set]),⟨rfl,⟨_,rfl⟩,rfl,trivial⟩,_,_,rfl,rfl,rfl⟩
 exact e_q_93.elim
theorem P135 (n:Nat):∀ (q_1:TQuestion) (left_2:Int) (l_3:List Bool) (q:Option (TPlan × List Bool)),M135 n q_1 left_2 l_3=some q→MCP prog 49 [.d (eTQuestion q_1),(dI left_2),.pt 0 0,.pt 2 0] [.var [.sl 1 1 0 (List.length l_3)],.arr 1 (List.map .d (List.map eB l_3)),.var [.fn 49 [.pt 0 0,.pt 2 0]]] (fun rs Bs=>∃ r_4:TPlan,∃ l_5:List Bool,q=some (r_4,l_5)∧rs=[(eTPlan r_4)]∧Bs=[.var [.sl 1 1 0 (List.length l_5)],.arr 1 (List.map .d (List.map eB l_5)),.var [.fn 49 [.pt 0 0,.pt 2 0]]]) (fun pv=>pv=(.iface 37 (.int .i64 361))∧q=none):=by
 induction n with
 | zero =>
  intros
  rename_i h
  cases h
 | succ n ih=>exact P134 (M135 n) ih
theorem dr_looks_Greedy (H:Hp):DefR prog 48 [1,2] H:=by
 refine DefR.of_tr (cx:=⟨9,none,lay,H.length⟩) layOK rfl func48 rfl rfl rfl (by decide) 3 2 rfl rfl rfl rfl rfl rfl rfl rfl rfl ?_
 conv=>whnf
 refine TrE.seq ?_
 refine TrE.regionP layOK ?_
 conv=>whnf
 refine .inl ?_
 conv=>whnf
 refine .inr ⟨rfl,rfl,by kernel_rfl,.inr ⟨rfl,?_⟩⟩
 conv=>whnf
 refine TrE.cond ?_
 conv=>whnf
 refine TrE.skip ?_
 conv=>whnf
theorem P136 (q_1:TQuestion) (r_2:TPlan) (r_3:Int) (h:M136 q_1=some (r_2,r_3)) :
    PC prog 20 [(eTQuestion q_1)] (fun rs=>rs=[(eTPlan r_2),(.i .i64 r_3)]):=by
 refine PC.of_trF (cx:=⟨22,none,lay,0⟩) layOK func20 rfl rfl rfl rfl rfl (by simp [f20]) ?_
 unfold M136 at h
 refine TrF.seq layOK ?_
 refine TrE.region layOK ?_
 conv=>whnf
 refine TrF.seq layOK ?_
 refine TrE.seq ?_
 refine TrE.region layOK ?_
 conv=>whnf
 obtain ⟨r_4,hc5,h⟩:=bS h
 refine PC.ecall (P55 q_1 r_4 hc5) (fun rs hrs=>?_)
 subst hrs
 conv=>whnf
 refine TrE.seq ?_
 refine TrE.region layOK ?_
 conv=>whnf
 refine TrE.cond ?_
 conv=>whnf
 refine cB h (fun hb6 h=>?_) (fun hb6 h=>?_)
 ·refine TrE.seq ?_
  refine TrE.region layOK ?_
  conv=>whnf
  refine orB_l ?_
  conv=>whnf
  refine TrE.ret ?_
  conv=>whnf
  cases h
  rfl
 refine TrE.skip ?_
 conv=>whnf
 refine TrF.defer layOK rfl 48 [1,2] 13 rfl rfl rfl ?_ rfl rfl rfl ⟨_,_,func48,rfl,rfl⟩ (fun I=>?_)
 ·conv=>whnf
  exact ⟨rfl,rfl⟩
 conv=>whnf
 refine Tr.seq ?_
 refine Tr.region layOK ?_
 conv=>whnf
 refine lnS_map ?_
 conv=>whnf
 obtain ⟨n_7,hn_7,h⟩:=bS h
 refine msS_of hn_7 rfl ?_
 conv=>whnf
 refine rS (es':=List.map .d (List.map eB (List.replicate n_7 false))) (n':=List.length ((List.replicate n_7 false):List Bool)) (by simp only [List.map_replicate]; first | done | rfl) (by simp) ?_
 conv=>whnf
 refine orB_l ?_
 conv=>whnf
 refine Tr.seq ?_
 refine Tr.region layOK ?_
 conv=>whnf
 refine Tr.seq ?_
 refine Tr.region layOK ?_
 conv=>whnf
 refine orB_l ?_
 conv=>whnf
 refine Tr.seq ?_
 refine Tr.regionP layOK ?_
 conv=>whnf
 refine .inl ?_
 conv=>whnf
 refine .inl ?_
 conv=>whnf
 obtain ⟨q_10,hc11,h⟩:=bS h
 refine .inr ?_
 conv=>whnf
 refine MCP.ecall (P135 1000 q_1 6 (List.replicate n_7 false) q_10 hc11) [4,3,5] (by decide) rfl rfl ?_ (fun rs Bs1 hrs=>?_) (fun pv hpv=>?_)
 · exact ⟨⟨rfl,rfl⟩,⟨⟨_,rfl⟩,rfl⟩,⟨rfl,rfl⟩,trivial⟩
 rotate_left
 ·obtain ⟨rfl,rfl⟩:=hpv
  rw [onP_none] at h
  conv=>whnf
  refine ⟨_,rfl,?_⟩
  refine DefP.of_tr (cx:=⟨9,none,lay,6⟩) layOK rfl func48 rfl rfl rfl (by decide) 3 2 rfl rfl rfl rfl rfl rfl rfl rfl rfl ?_
  conv=>whnf
  refine TrE.seq ?_
  refine TrE.regionP layOK ?_
  conv=>whnf
  refine .inl ?_
  conv=>whnf
  refine .inr ⟨rfl,rfl,by kernel_rfl,.inl ⟨_,_,rfl,?_⟩⟩
  conv=>whnf
  refine TrE.cond ?_
  conv=>whnf
  refine TrE.draw layOK mixed [(3,1),(4,2)] [(0,1),(1,1),(2,1),(3,0),(4,0)] (by kernel_rfl) ?_
  conv=>whnf
  refine q1 ?_
  conv=>whnf
  refine q1 ?_
  conv=>whnf
  refine ⟨_,(fun _=>by (conv=>whnf); (refine ⟨_,(dI 361),rfl,by kernel_rfl,rfl,?_⟩); (conv=>whnf); (exact rr)),?_⟩
  conv=>whnf
  refine ⟨_,_,(by (conv=>whnf); (refine orB_l ?_); (conv=>whnf); (exact rr)),kp_ok (by repeat (first | exact trivial | refine ⟨trivial,?_⟩ | refine ⟨rfl,?_⟩)),?_⟩
  conv=>whnf
  refine ⟨_,_,rr,kp_ok (by repeat (first | exact trivial | refine ⟨trivial,?_⟩ | refine ⟨rfl,?_⟩)),?_⟩
  conv=>whnf
  cases h
  rfl
 obtain ⟨r_8,l_9,rfl,rfl,rfl⟩:=hrs
 rw [onP_some] at h
 conv=>whnf
 obtain ⟨_,hl12,h⟩:=bS h
 refine .inl ?_
 conv=>whnf
 refine .inl ?_
 conv=>whnf
 refine Tr.ret ?_
 conv=>whnf
 refine ⟨dr_looks_Greedy _,?_⟩
 conv=>whnf
 cases h
 rfl
theorem P139 (rc_9062:TPlan→TPlan→Option (Bool)) (ih_9062:∀ (a_1:TPlan) (b_2:TPlan) (r_3:Bool),rc_9062 a_1 b_2=some r_3→PC prog 19 [(eTPlan a_1),(eTPlan b_2)] (fun rs=>rs=[(.b r_3)])) (a_1:TPlan) (b_2:TPlan) (r_3:Bool) (h:M139 rc_9062 a_1 b_2=some r_3) :
    PC prog 19 [(eTPlan a_1),(eTPlan b_2)] (fun rs=>rs=[(.b r_3)]):=by
 refine PC.of_tr (cx:=⟨39,none,lay,0⟩) layOK func19 rfl rfl rfl rfl rfl (by simp [f19]) ?_
 unfold M139 at h
 refine sg ?_
 conv=>whnf
 refine Tr.seq ?_
 refine sg ?_
 conv=>whnf
 refine cB h (fun hb4 h=>?_) (fun hb4 h=>?_)
 ·conv=>whnf
  refine Tr.cond ?_
  conv=>whnf
  refine sg ?_
  conv=>whnf
  refine Tr.ret ?_
  conv=>whnf
  cases h
  rfl
 conv=>whnf
 refine lnS_map ?_
 conv=>whnf
 refine lnS_map ?_
 conv=>whnf
 refine Tr.cond ?_
 conv=>whnf
 refine cB h (fun hb5 h=>?_) (fun hb5 h=>?_)
 ·refine sg ?_
  conv=>whnf
  refine Tr.ret ?_
  conv=>whnf
  cases h
  rfl
 refine Tr.skip ?_
 conv=>whnf
 refine Tr.seq ?_
 refine sg ?_
 conv=>whnf
 refine Tr.cutQ (α:=Unit) (fun s=>([(4,.d (.b false))],[])) (fun s=>M138 s=some r_3) ?_ ?_
 ·refine Tr.block ?_
  refine Tr.loopM (σ:=Int) (fun n s=>M137 a_1 b_2 rc_9062 M138 n s) r_3 (fun s=>([(2,.pt 0 0),(3,.pt 1 0),(4,.d (.b false)),(5,(dI s))],[some (.var [(dI a_1.Look),.d (.ls (List.map eTPlan0 a_1.After))]),some (.var [(dI b_2.Look),.d (.ls (List.map eTPlan0 b_2.After))])])) (((((a_1.After).length:Int)) - 0:Int).toNat+1) (0) h (fun s=>rfl) (Wk.mk2 [0,1] 2 rfl rfl (by decide) rfl ⟨rr,rr,trivial⟩ ⟨rr,rr,rr,rr,trivial⟩) ?_
  clear h
  rintro n_8 i_7 h
  replace h:M137 a_1 b_2 rc_9062 M138 (n_8+1) i_7=some r_3:=h
  rw [M137] at h
  refine Tr.seq ?_
  refine sg ?_
  conv=>whnf
  refine lnS_map ?_
  conv=>whnf
  refine Tr.cond ?_
  conv=>whnf
  refine cB h (fun hb11 h=>?_) (fun hb11 h=>?_)
  ·refine Tr.skip ?_
   conv=>whnf
   refine Tr.seq ?_
   refine Tr.block ?_
   refine sd [] [(0,3),(1,3),(2,1),(3,2),(4,2),(5,4),(6,4),(7,1),(8,2),(9,2),(10,1),(11,1)] ?_
   conv=>whnf
   refine q2 ?_
   conv=>whnf
   refine q2 ?_
   conv=>whnf
   refine q1 ?_
   conv=>whnf
   obtain ⟨x_12,hx_12,h⟩:=bS h
   obtain ⟨p_13,hp_13,h⟩:=bS h
   refine ⟨_,⟨rfl,rfl,(by (conv=>whnf); (rw [uTPlan_eq hp_13] at hx_12); (refine ixP_of hx_12 ?_); (conv=>whnf); (exact rr))⟩,?_⟩
   conv=>whnf
   refine q2 ?_
   conv=>whnf
   refine q2 ?_
   conv=>whnf
   refine q2 ?_
   conv=>whnf
   refine q1 ?_
   conv=>whnf
   obtain ⟨x_14,hx_14,h⟩:=bS h
   obtain ⟨p_15,hp_15,h⟩:=bS h
   refine ⟨_,⟨rfl,rfl,(by (conv=>whnf); (rw [uTPlan_eq hp_15] at hx_14); (refine ixP_of hx_14 ?_); (conv=>whnf); (exact rr))⟩,?_⟩
   conv=>whnf
   refine q2 ?_
   conv=>whnf
   obtain ⟨r_16,hc17,h⟩:=bS h
   refine q1 ?_ (fun _=>pe (ih_9062 p_13 p_15 r_16 hc17) rr)
   conv=>whnf
   refine q1 ?_
   conv=>whnf
   refine Tr.cond ?_
   conv=>whnf
   refine cB h (fun hb18 h=>?_) (fun hb18 h=>?_)
   ·refine sg ?_
    conv=>whnf
    refine Tr.ret ?_
    conv=>whnf
    cases h
    rfl
   refine Tr.skip ?_
   conv=>whnf
   refine rg ?_
   conv=>whnf
   refine arS_raw ?_
   conv=>whnf
   refine ⟨((w64 (i_7+1))),h,?_⟩
   exact Wk.mk2 [0,1] 2 rfl rfl (by decide) rfl ⟨rr,rr,trivial⟩ ⟨rr,rr,rr,rr,trivial⟩
  refine Tr.exit ?_
  conv=>whnf
  refine ⟨(),h,?_⟩
  exact Wk.mk2 [] 2 rfl rfl (by decide) rfl trivial ⟨rr,trivial⟩
 clear h
 rintro _ h T1 H1 hw
 replace h:M138 ()=some r_3:=h
 conv=>whnf
 refine Tr.weak hw ?_
 unfold M138 at h
 refine sg ?_
 conv=>whnf
 refine Tr.ret ?_
 conv=>whnf
 cases h
 rfl
theorem P140 (n:Nat):∀ (a_1:TPlan) (b_2:TPlan) (r_3:Bool),M140 n a_1 b_2=some r_3→PC prog 19 [(eTPlan a_1),(eTPlan b_2)] (fun rs=>rs=[(.b r_3)]):=by
 induction n with
 | zero =>
  intros
  rename_i h
  cases h
 | succ n ih=>exact P139 (M140 n) ih
theorem P141 (r_1:Bool) (h:M141=some r_1) :
    PC prog 10 [] (fun rs=>rs=[(.b r_1)]):=by
 refine PC.of_tr (cx:=⟨182,none,lay,0⟩) layOK func10 rfl rfl rfl rfl rfl (by simp [f10]) ?_
 unfold M141 at h
 refine sg ?_
 conv=>whnf
 refine sg ?_
 conv=>whnf
 obtain ⟨r_2,hc3,h⟩:=bS h
 refine PC.ecall (P0 r_2 hc3) (fun rs hrs=>?_)
 subst hrs
 conv=>whnf
 refine sg ?_
 conv=>whnf
 obtain ⟨⟨r_4,r_5⟩,hc6,h⟩:=bS h
 refine PC.ecall (P67 r_2 1 1 r_4 r_5 hc6) (fun rs hrs=>?_)
 subst hrs
 conv=>whnf
 refine sg ?_
 conv=>whnf
 obtain ⟨⟨r_7,r_8⟩,hc9,h⟩:=bS h
 refine PC.ecall (P67 r_2 1 0 r_7 r_8 hc9) (fun rs hrs=>?_)
 subst hrs
 conv=>whnf
 refine sg ?_
 conv=>whnf
 obtain ⟨⟨r_10,r_11⟩,hc12,h⟩:=bS h
 refine PC.ecall (P67 r_2 1 3 r_10 r_11 hc12) (fun rs hrs=>?_)
 subst hrs
 conv=>whnf
 refine sg ?_
 conv=>whnf
 obtain ⟨⟨r_13,r_14,r_15⟩,hc16,h⟩:=bS h
 refine PC.ecall (P129 r_2 100 r_13 r_14 r_15 hc16) (fun rs hrs=>?_)
 subst hrs
 conv=>whnf
 refine sg ?_
 conv=>whnf
 obtain ⟨⟨r_17,r_18⟩,hc19,h⟩:=bS h
 refine PC.ecall (P136 r_2 r_17 r_18 hc19) (fun rs hrs=>?_)
 subst hrs
 conv=>whnf
 refine sg ?_
 conv=>whnf
 refine orB_r ?_
 conv=>whnf
 refine sg ?_
 conv=>whnf
 refine sg ?_
 conv=>whnf
 refine orB_l ?_
 conv=>whnf
 refine sg ?_
 conv=>whnf
 obtain ⟨⟨r_20,r_21,r_22⟩,hc23,h⟩:=bS h
 refine PC.ecall_frz ?_ ⟨_,_,func17,rfl,rfl⟩
 conv=>whnf
 refine ⟨_,P129 (({ Field:=r_2.Field,Runner:=r_2.Runner,Looks:=(([]:List TLook)) }:TQuestion)) 9 r_20 r_21 r_22 hc23,fun rs hrs=>?_⟩
 subst hrs
 conv=>whnf
 refine sg ?_
 conv=>whnf
 obtain ⟨⟨r_24,r_25,r_26⟩,hc27,h⟩:=bS h
 refine PC.ecall (P129 r_2 0 r_24 r_25 r_26 hc27) (fun rs hrs=>?_)
 subst hrs
 conv=>whnf
 refine sg ?_
 conv=>whnf
 obtain ⟨⟨r_28,r_29,r_30⟩,hc31,h⟩:=bS h
 refine PC.ecall (P129 r_4 1 r_28 r_29 r_30 hc31) (fun rs hrs=>?_)
 subst hrs
 conv=>whnf
 refine Tr.seq ?_
 obtain ⟨v_32,hv33,h⟩:=bS h
 refine Tr.cutQ1 ([(0,.d (.b v_32))]) ([]) ?_ (fun T1 H1 hw=>?_)
 ·replace h:=hv33; clear hv33
  refine rg ?_
  conv=>whnf
  obtain ⟨r_34,hc35,h⟩:=bS h
  refine PC.ecall (P55 r_2 r_34 hc35) (fun rs hrs=>?_)
  subst hrs
  conv=>whnf
  refine cB h (fun hb36 h=>?_) (fun hb36 h=>?_)
  ·conv=>whnf
   obtain ⟨r_37,hc38,h⟩:=bS h
   refine PC.ecall_lend ?_ ⟨_,_,func15,rfl,rfl⟩
   conv=>whnf
   refine ⟨_,P55 (({ Field:=({ Clocks:=({ Segments:=(([]:List TSegment)),Far:=(([]:List (List Int))) }:TClocks),Pairs:=(([]:List TPair)),Runners:=(([]:List TRunner)) }:TField),Runner:=0,Looks:=(([]:List TLook)) }:TQuestion)) r_37 hc38,fun rs hrs=>?_⟩
   subst hrs
   refine ⟨rfl,?_⟩
   conv=>whnf
   refine cB h (fun hb39 h=>?_) (fun hb39 h=>?_)
   ·conv=>whnf
    refine cB h (fun hb40 h=>?_) (fun hb40 h=>?_)
    ·conv=>whnf
     refine lnS_map ?_
     conv=>whnf
     refine cB h (fun hb41 h=>?_) (fun hb41 h=>?_)
     ·conv=>whnf
      obtain ⟨x_42,hx_42,h⟩:=bS h
      refine ixP_of hx_42 ?_
      conv=>whnf
      refine lnS_map ?_
      conv=>whnf
      refine cB h (fun hb43 h=>?_) (fun hb43 h=>?_)
      ·conv=>whnf
       obtain ⟨x_44,hx_44,h⟩:=bS h
       refine ixP_of hx_44 ?_
       conv=>whnf
       obtain ⟨x_45,hx_45,h⟩:=bS h
       refine ixP_of hx_45 ?_
       conv=>whnf
       refine lnS_map ?_
       conv=>whnf
       refine cB h (fun hb46 h=>?_) (fun hb46 h=>?_)
       ·conv=>whnf
        obtain ⟨x_47,hx_47,h⟩:=bS h
        refine ixP_of hx_47 ?_
        conv=>whnf
        obtain ⟨x_48,hx_48,h⟩:=bS h
        refine ixP_of hx_48 ?_
        conv=>whnf
        obtain ⟨x_49,hx_49,h⟩:=bS h
        refine ixP_of hx_49 ?_
        conv=>whnf
        refine cB h (fun hb50 h=>?_) (fun hb50 h=>?_)
        ·conv=>whnf
         refine cB h (fun hb51 h=>?_) (fun hb51 h=>?_)
         ·conv=>whnf
          refine cB h (fun hb52 h=>?_) (fun hb52 h=>?_)
          ·conv=>whnf
           refine cB h (fun hb53 h=>?_) (fun hb53 h=>?_)
           ·conv=>whnf
            refine cB h (fun hb54 h=>?_) (fun hb54 h=>?_)
            ·conv=>whnf
             obtain ⟨r_55,hc56,h⟩:=bS h
             refine PC.ecall (P140 1000 r_13 (({ Look:=1,After:=(([(pTPlan ({ Look:=(-1),After:=(([]:List TPlan0)) }:TPlan)),(pTPlan ({ Look:=(-1),After:=(([]:List TPlan0)) }:TPlan)),(pTPlan ({ Look:=(-1),After:=(([]:List TPlan0)) }:TPlan))]:List TPlan0)) }:TPlan)) r_55 hc56) (fun rs hrs=>?_)
             subst hrs
             conv=>whnf
             refine cB h (fun hb57 h=>?_) (fun hb57 h=>?_)
             ·conv=>whnf
              refine cB h (fun hb58 h=>?_) (fun hb58 h=>?_)
              ·conv=>whnf
               obtain ⟨r_59,hc60,h⟩:=bS h
               refine PC.ecall (P140 1000 r_17 (({ Look:=1,After:=(([(pTPlan ({ Look:=(-1),After:=(([]:List TPlan0)) }:TPlan)),(pTPlan ({ Look:=(-1),After:=(([]:List TPlan0)) }:TPlan)),(pTPlan ({ Look:=(-1),After:=(([]:List TPlan0)) }:TPlan))]:List TPlan0)) }:TPlan)) r_59 hc60) (fun rs hrs=>?_)
               subst hrs
               conv=>whnf
               refine cB h (fun hb61 h=>?_) (fun hb61 h=>?_)
               ·conv=>whnf
                refine cB h (fun hb62 h=>?_) (fun hb62 h=>?_)
                ·conv=>whnf
                 refine cB h (fun hb63 h=>?_) (fun hb63 h=>?_)
                 ·conv=>whnf
                  refine cB h (fun hb64 h=>?_) (fun hb64 h=>?_)
                  ·conv=>whnf
                   refine cB h (fun hb65 h=>?_) (fun hb65 h=>?_)
                   ·conv=>whnf
                    cases h
                    exact Wk.mk2 [] 11 rfl rfl (by decide) rfl trivial ⟨rr,trivial⟩
                   conv=>whnf
                   cases h
                   exact Wk.mk2 [] 11 rfl rfl (by decide) rfl trivial ⟨rr,trivial⟩
                  conv=>whnf
                  cases h
                  exact Wk.mk2 [] 11 rfl rfl (by decide) rfl trivial ⟨rr,trivial⟩
                 conv=>whnf
                 cases h
                 exact Wk.mk2 [] 11 rfl rfl (by decide) rfl trivial ⟨rr,trivial⟩
                conv=>whnf
                cases h
                exact Wk.mk2 [] 11 rfl rfl (by decide) rfl trivial ⟨rr,trivial⟩
               conv=>whnf
               cases h
               exact Wk.mk2 [] 11 rfl rfl (by decide) rfl trivial ⟨rr,trivial⟩
              conv=>whnf
              cases h
              exact Wk.mk2 [] 11 rfl rfl (by decide) rfl trivial ⟨rr,trivial⟩
             conv=>whnf
             cases h
             exact Wk.mk2 [] 11 rfl rfl (by decide) rfl trivial ⟨rr,trivial⟩
            conv=>whnf
            cases h
            exact Wk.mk2 [] 11 rfl rfl (by decide) rfl trivial ⟨rr,trivial⟩
           conv=>whnf
           cases h
           exact Wk.mk2 [] 11 rfl rfl (by decide) rfl trivial ⟨rr,trivial⟩
          conv=>whnf
          cases h
          exact Wk.mk2 [] 11 rfl rfl (by decide) rfl trivial ⟨rr,trivial⟩
         conv=>whnf
         cases h
         exact Wk.mk2 [] 11 rfl rfl (by decide) rfl trivial ⟨rr,trivial⟩
        conv=>whnf
        cases h
        exact Wk.mk2 [] 11 rfl rfl (by decide) rfl trivial ⟨rr,trivial⟩
       conv=>whnf
       cases h
       exact Wk.mk2 [] 11 rfl rfl (by decide) rfl trivial ⟨rr,trivial⟩
      conv=>whnf
      cases h
      exact Wk.mk2 [] 11 rfl rfl (by decide) rfl trivial ⟨rr,trivial⟩
     conv=>whnf
     cases h
     exact Wk.mk2 [] 11 rfl rfl (by decide) rfl trivial ⟨rr,trivial⟩
    conv=>whnf
    cases h
    exact Wk.mk2 [] 11 rfl rfl (by decide) rfl trivial ⟨rr,trivial⟩
   conv=>whnf
   cases h
   exact Wk.mk2 [] 11 rfl rfl (by decide) rfl trivial ⟨rr,trivial⟩
  conv=>whnf
  cases h
  exact Wk.mk2 [] 11 rfl rfl (by decide) rfl trivial ⟨rr,trivial⟩
 clear hv33
 conv=>whnf
 refine Tr.weak hw ?_
 refine Tr.ret ?_
 conv=>whnf
 cases h
 rfl
theorem P144 (k_1:TClocks) (r_2:Bool) (h:M144 k_1=some r_2) :
    PC prog 65 [(eTClocks k_1)] (fun rs=>rs=[(.b r_2)]):=by
 refine PC.of_tr (cx:=⟨28,none,lay,0⟩) layOK func65 rfl rfl rfl rfl rfl (by simp [f65]) ?_
 unfold M144 at h
 refine sg ?_
 conv=>whnf
 refine Tr.seq ?_
 refine sg ?_
 conv=>whnf
 refine lnS_map ?_
 conv=>whnf
 refine cB h (fun hb3 h=>?_) (fun hb3 h=>?_)
 ·conv=>whnf
  refine Tr.cond ?_
  conv=>whnf
  refine sg ?_
  conv=>whnf
  refine Tr.ret ?_
  conv=>whnf
  cases h
  rfl
 conv=>whnf
 refine lnS_map ?_
 conv=>whnf
 refine Tr.cond ?_
 conv=>whnf
 refine cB h (fun hb4 h=>?_) (fun hb4 h=>?_)
 ·refine sg ?_
  conv=>whnf
  refine Tr.ret ?_
  conv=>whnf
  cases h
  rfl
 refine Tr.skip ?_
 conv=>whnf
 refine Tr.seq ?_
 refine sg ?_
 conv=>whnf
 refine Tr.cutQ (α:=Unit) (fun s=>([(2,.d (.b false))],[])) (fun s=>M143 s=some r_2) ?_ ?_
 ·refine Tr.block ?_
  refine Tr.loopM (σ:=Int) (fun n s=>M142 k_1 M143 n s) r_2 (fun s=>([(1,.pt 0 0),(2,.d (.b false)),(3,(dI s))],[some (.var [.d (.ls (List.map eTSegment k_1.Segments)),.d (.ls (List.map (eL eI) k_1.Far))])])) (((((k_1.Far).length:Int)) - 0:Int).toNat+1) (0) h (fun s=>rfl) (Wk.mk2 [0] 1 rfl rfl (by decide) rfl ⟨rr,trivial⟩ ⟨rr,rr,rr,trivial⟩) ?_
  clear h
  rintro n_7 i_6 h
  replace h:M142 k_1 M143 (n_7+1) i_6=some r_2:=h
  rw [M142] at h
  refine Tr.seq ?_
  refine sg ?_
  conv=>whnf
  refine lnS_map ?_
  conv=>whnf
  refine Tr.cond ?_
  conv=>whnf
  refine cB h (fun hb10 h=>?_) (fun hb10 h=>?_)
  ·refine Tr.skip ?_
   conv=>whnf
   refine Tr.seq ?_
   refine Tr.block ?_
   refine sg ?_
   conv=>whnf
   obtain ⟨x_11,hx_11,h⟩:=bS h
   refine ixP_of hx_11 ?_
   conv=>whnf
   refine lnS_map ?_
   conv=>whnf
   refine Tr.cond ?_
   conv=>whnf
   refine cB h (fun hb12 h=>?_) (fun hb12 h=>?_)
   ·refine sg ?_
    conv=>whnf
    refine Tr.ret ?_
    conv=>whnf
    cases h
    rfl
   refine Tr.skip ?_
   conv=>whnf
   refine rg ?_
   conv=>whnf
   refine arS_raw ?_
   conv=>whnf
   refine ⟨((w64 (i_6+1))),h,?_⟩
   exact Wk.mk2 [0] 1 rfl rfl (by decide) rfl ⟨rr,trivial⟩ ⟨rr,rr,rr,trivial⟩
  refine Tr.exit ?_
  conv=>whnf
  refine ⟨(),h,?_⟩
  exact Wk.mk2 [] 1 rfl rfl (by decide) rfl trivial ⟨rr,trivial⟩
 clear h
 rintro _ h T1 H1 hw
 replace h:M143 ()=some r_2:=h
 conv=>whnf
 refine Tr.weak hw ?_
 unfold M143 at h
 refine sg ?_
 conv=>whnf
 refine Tr.ret ?_
 conv=>whnf
 cases h
 rfl
theorem P148 (f_1:TField) (r_2:Bool) (h:M148 f_1=some r_2) :
    PC prog 33 [(eTField f_1)] (fun rs=>rs=[(.b r_2)]):=by
 refine PC.of_tr (cx:=⟨62,none,lay,0⟩) layOK func33 rfl rfl rfl rfl rfl (by simp [f33]) ?_
 unfold M148 at h
 refine sg ?_
 conv=>whnf
 refine sg ?_
 conv=>whnf
 refine Tr.seq ?_
 refine sg ?_
 conv=>whnf
 refine lnS_map ?_
 conv=>whnf
 refine cB h (fun hb3 h=>?_) (fun hb3 h=>?_)
 ·conv=>whnf
  refine Tr.cond ?_
  conv=>whnf
  refine sg ?_
  conv=>whnf
  refine Tr.ret ?_
  conv=>whnf
  cases h
  rfl
 conv=>whnf
 refine lnS_map ?_
 conv=>whnf
 refine cB h (fun hb4 h=>?_) (fun hb4 h=>?_)
 ·conv=>whnf
  refine Tr.cond ?_
  conv=>whnf
  refine sg ?_
  conv=>whnf
  refine Tr.ret ?_
  conv=>whnf
  cases h
  rfl
 conv=>whnf
 obtain ⟨r_5,hc6,h⟩:=bS h
 refine PC.ecall (P144 f_1.Clocks r_5 hc6) (fun rs hrs=>?_)
 subst hrs
 conv=>whnf
 refine Tr.cond ?_
 conv=>whnf
 refine cB h (fun hb7 h=>?_) (fun hb7 h=>?_)
 ·refine sg ?_
  conv=>whnf
  refine Tr.ret ?_
  conv=>whnf
  cases h
  rfl
 refine Tr.skip ?_
 conv=>whnf
 refine Tr.seq ?_
 refine sg ?_
 conv=>whnf
 refine Tr.cutQ (α:=Int) (fun s=>([(2,.d (.b false)),(3,(dI s))],[])) (fun s=>M147 s=some r_2) ?_ ?_
 ·refine Tr.block ?_
  refine Tr.loopM (σ:=Int × Int) (fun n s=>M146 f_1 M147 n s.1 s.2) r_2 (fun s=>([(1,.pt 0 0),(2,.d (.b false)),(3,(dI s.1)),(4,(dI s.2))],[some (.var [.d (.ls (List.map eTSegment f_1.Clocks.Segments)),.d (.ls (List.map (eL eI) f_1.Clocks.Far)),.d (.ls (List.map eTPair f_1.Pairs)),.d (.ls (List.map eTRunner f_1.Runners))])])) (((((f_1.Runners).length:Int)) - 0:Int).toNat+1) (0,0) h (fun s=>rfl) (Wk.mk2 [0] 1 rfl rfl (by decide) rfl ⟨rr,trivial⟩ ⟨rr,rr,rr,rr,trivial⟩) ?_
  clear h
  rintro n_12 ⟨n_10,i_11⟩ h
  replace h:M146 f_1 M147 (n_12+1) n_10 i_11=some r_2:=h
  rw [M146] at h
  refine Tr.seq ?_
  refine sg ?_
  conv=>whnf
  refine lnS_map ?_
  conv=>whnf
  refine Tr.cond ?_
  conv=>whnf
  refine cB h (fun hb16 h=>?_) (fun hb16 h=>?_)
  ·refine Tr.skip ?_
   conv=>whnf
   refine Tr.seq ?_
   refine Tr.block ?_
   refine sg ?_
   conv=>whnf
   obtain ⟨x_17,hx_17,h⟩:=bS h
   refine ixP_of hx_17 ?_
   conv=>whnf
   refine Tr.seq ?_
   refine sg ?_
   conv=>whnf
   refine lnS_map ?_
   conv=>whnf
   refine cB h (fun hb18 h=>?_) (fun hb18 h=>?_)
   ·conv=>whnf
    refine Tr.cond ?_
    conv=>whnf
    refine sg ?_
    conv=>whnf
    refine Tr.ret ?_
    conv=>whnf
    cases h
    rfl
   conv=>whnf
   refine lnS_map ?_
   conv=>whnf
   refine Tr.cond ?_
   conv=>whnf
   refine cB h (fun hb19 h=>?_) (fun hb19 h=>?_)
   ·refine sg ?_
    conv=>whnf
    refine Tr.ret ?_
    conv=>whnf
    cases h
    rfl
   refine Tr.skip ?_
   conv=>whnf
   refine sg ?_
   conv=>whnf
   obtain ⟨n_25,hv30,h⟩:=bS h
   refine Tr.cutQ1 ([(1,.pt 0 0),(2,.d (.b false)),(3,(dI n_25)),(4,(dI i_11))]) ([some (.var [.d (.ls (List.map eTSegment f_1.Clocks.Segments)),.d (.ls (List.map (eL eI) f_1.Clocks.Far)),.d (.ls (List.map eTPair f_1.Pairs)),.d (.ls (List.map eTRunner f_1.Runners))])]) ?_ (fun T1 H1 hw=>?_)
   ·replace h:=hv30; clear hv30
    refine Tr.block ?_
    refine Tr.loopM (σ:=Int × Int) (fun n s=>M145 x_17 n s.1 s.2) n_25 (fun s=>([(1,.pt 0 0),(2,.d (.b false)),(3,(dI s.1)),(4,(dI i_11)),(5,.pt 1 0),(6,(dI s.2))],[some (.var [.d (.ls (List.map eTSegment f_1.Clocks.Segments)),.d (.ls (List.map (eL eI) f_1.Clocks.Far)),.d (.ls (List.map eTPair f_1.Pairs)),.d (.ls (List.map eTRunner f_1.Runners))]),some (.var [(dI x_17.Bib),.d (.ls (List.map eI x_17.Keys)),.d (.ls (List.map (eL eTOutcome) x_17.Worlds))])])) (((((x_17.Worlds).length:Int)) - 0:Int).toNat+1) (n_10,0) h (fun s=>rfl) (Wk.mk2 [0,1] 2 rfl rfl (by decide) rfl ⟨rr,rr,trivial⟩ ⟨rr,rr,rr,rr,rr,rr,trivial⟩) ?_
    clear h
    rintro n_24 ⟨n_22,w_23⟩ h
    replace h:M145 x_17 (n_24+1) n_22 w_23=some n_25:=h
    rw [M145] at h
    refine Tr.seq ?_
    refine sg ?_
    conv=>whnf
    refine lnS_map ?_
    conv=>whnf
    refine Tr.cond ?_
    conv=>whnf
    refine cB h (fun hb28 h=>?_) (fun hb28 h=>?_)
    ·refine Tr.skip ?_
     conv=>whnf
     refine Tr.seq ?_
     refine Tr.block ?_
     refine rg ?_
     conv=>whnf
     obtain ⟨x_29,hx_29,h⟩:=bS h
     refine ixP_of hx_29 ?_
     conv=>whnf
     refine lnS_map ?_
     conv=>whnf
     refine arS_raw ?_
     conv=>whnf
     refine rg ?_
     conv=>whnf
     refine arS_raw ?_
     conv=>whnf
     refine ⟨((w64 (n_22+(((x_29).length:Int)))),(w64 (w_23+1))),h,?_⟩
     exact Wk.mk2 [0,1] 2 rfl rfl (by decide) rfl ⟨rr,rr,trivial⟩ ⟨rr,rr,rr,rr,rr,rr,trivial⟩
    refine Tr.exit ?_
    conv=>whnf
    cases h
    exact Wk.mk2 [0] 2 rfl rfl (by decide) rfl ⟨rr,trivial⟩ ⟨rr,rr,rr,rr,trivial⟩
   clear hv30
   conv=>whnf
   refine Tr.weak hw ?_
   refine rg ?_
   conv=>whnf
   refine arS_raw ?_
   conv=>whnf
   refine ⟨(n_25,(w64 (i_11+1))),h,?_⟩
   exact Wk.mk2 [0] 1 rfl rfl (by decide) rfl ⟨rr,trivial⟩ ⟨rr,rr,rr,rr,trivial⟩
  refine Tr.exit ?_
  conv=>whnf
  refine ⟨(n_10),h,?_⟩
  exact Wk.mk2 [] 1 rfl rfl (by decide) rfl trivial ⟨rr,rr,trivial⟩
 clear h
 rintro n_13 h T1 H1 hw
 replace h:M147 n_13=some r_2:=h
 conv=>whnf
 refine Tr.weak hw ?_
 unfold M147 at h
 refine sg ?_
 conv=>whnf
 refine Tr.ret ?_
 conv=>whnf
 cases h
 rfl
theorem P151 (q_1:TQuestion) (r_2:Bool) (h:M151 q_1=some r_2) :
    PC prog 11 [(eTQuestion q_1)] (fun rs=>rs=[(.b r_2)]):=by
 refine PC.of_tr (cx:=⟨28,none,lay,0⟩) layOK func11 rfl rfl rfl rfl rfl (by simp [f11]) ?_
 unfold M151 at h
 refine sg ?_
 conv=>whnf
 refine Tr.seq ?_
 refine sg ?_
 conv=>whnf
 refine Tr.cutQ (α:=Unit) (fun s=>([(1,.pt 0 0),(2,.d (.b false))],[some (.var [.d (.ls (List.map eTSegment q_1.Field.Clocks.Segments)),.d (.ls (List.map (eL eI) q_1.Field.Clocks.Far)),.d (.ls (List.map eTPair q_1.Field.Pairs)),.d (.ls (List.map eTRunner q_1.Field.Runners)),(dI q_1.Runner),.d (.ls (List.map eTLook q_1.Looks))])])) (fun s=>M150 q_1 s=some r_2) ?_ ?_
 ·refine Tr.block ?_
  refine Tr.loopM (σ:=Int) (fun n s=>M149 q_1 (M150 q_1) n s) r_2 (fun s=>([(1,.pt 0 0),(2,.d (.b false)),(3,(dI s))],[some (.var [.d (.ls (List.map eTSegment q_1.Field.Clocks.Segments)),.d (.ls (List.map (eL eI) q_1.Field.Clocks.Far)),.d (.ls (List.map eTPair q_1.Field.Pairs)),.d (.ls (List.map eTRunner q_1.Field.Runners)),(dI q_1.Runner),.d (.ls (List.map eTLook q_1.Looks))])])) (((((q_1.Looks).length:Int)) - 0:Int).toNat+1) (0) h (fun s=>rfl) (Wk.mk2 [0] 1 rfl rfl (by decide) rfl ⟨rr,trivial⟩ ⟨rr,rr,rr,trivial⟩) ?_
  clear h
  rintro n_5 i_4 h
  replace h:M149 q_1 (M150 q_1) (n_5+1) i_4=some r_2:=h
  rw [M149] at h
  refine Tr.seq ?_
  refine sg ?_
  conv=>whnf
  refine lnS_map ?_
  conv=>whnf
  refine Tr.cond ?_
  conv=>whnf
  refine cB h (fun hb8 h=>?_) (fun hb8 h=>?_)
  ·refine Tr.skip ?_
   conv=>whnf
   refine Tr.seq ?_
   refine Tr.block ?_
   refine sg ?_
   conv=>whnf
   obtain ⟨x_9,hx_9,h⟩:=bS h
   refine ixP_of hx_9 ?_
   conv=>whnf
   refine lnS_map ?_
   conv=>whnf
   refine Tr.cond ?_
   conv=>whnf
   refine cB h (fun hb10 h=>?_) (fun hb10 h=>?_)
   ·refine sg ?_
    conv=>whnf
    refine Tr.ret ?_
    conv=>whnf
    cases h
    rfl
   refine Tr.skip ?_
   conv=>whnf
   refine rg ?_
   conv=>whnf
   refine arS_raw ?_
   conv=>whnf
   refine ⟨((w64 (i_4+1))),h,?_⟩
   exact Wk.mk2 [0] 1 rfl rfl (by decide) rfl ⟨rr,trivial⟩ ⟨rr,rr,rr,trivial⟩
  refine Tr.exit ?_
  conv=>whnf
  refine ⟨(),h,?_⟩
  exact Wk.mk2 [0] 1 rfl rfl (by decide) rfl ⟨rr,trivial⟩ ⟨rr,rr,trivial⟩
 clear h
 rintro _ h T1 H1 hw
 replace h:M150 q_1 ()=some r_2:=h
 conv=>whnf
 refine Tr.weak hw ?_
 unfold M150 at h
 refine sg ?_
 conv=>whnf
 obtain ⟨r_11,hc12,h⟩:=bS h
 refine PC.ecall (P148 q_1.Field r_11 hc12) (fun rs hrs=>?_)
 subst hrs
 conv=>whnf
 refine cB h (fun hb13 h=>?_) (fun hb13 h=>?_)
 ·conv=>whnf
  refine lnS_map ?_
  conv=>whnf
  refine Tr.ret ?_
  conv=>whnf
  cases h
  rfl
 conv=>whnf
 refine Tr.ret ?_
 conv=>whnf
 cases h
 rfl
theorem P152 (n_1:Int) (r_2:Bool) (h:M152 n_1=some r_2) :
    PC prog 82 [(.i .i64 n_1)] (fun rs=>rs=[(.b r_2)]):=by
 refine PC.of_tr (cx:=⟨9,none,lay,0⟩) layOK func82 rfl rfl rfl rfl rfl (by simp [f82]) ?_
 unfold M152 at h
 refine sg ?_
 conv=>whnf
 refine sg ?_
 conv=>whnf
 refine cB h (fun hb3 h=>?_) (fun hb3 h=>?_)
 ·conv=>whnf
  refine Tr.ret ?_
  conv=>whnf
  cases h
  rfl
 conv=>whnf
 refine Tr.ret ?_
 conv=>whnf
 cases h
 rfl
theorem P153 (a_1:TSegment) (b_2:TSegment) (r_3:Bool) (h:M153 a_1 b_2=some r_3) :
    PC prog 83 [(eTSegment a_1),(eTSegment b_2)] (fun rs=>rs=[(.b r_3)]):=by
 refine PC.of_tr (cx:=⟨24,none,lay,0⟩) layOK func83 rfl rfl rfl rfl rfl (by simp [f83]) ?_
 unfold M153 at h
 refine sg ?_
 conv=>whnf
 refine sg ?_
 conv=>whnf
 refine cB h (fun hb4 h=>?_) (fun hb4 h=>?_)
 ·conv=>whnf
  refine Tr.ret ?_
  conv=>whnf
  cases h
  rfl
 conv=>whnf
 refine cB h (fun hb5 h=>?_) (fun hb5 h=>?_)
 ·conv=>whnf
  refine Tr.ret ?_
  conv=>whnf
  cases h
  rfl
 conv=>whnf
 refine Tr.ret ?_
 conv=>whnf
 cases h
 rfl
theorem P166 (k_1:TClocks) (r_2:Int) (h:M166 k_1=some r_2) :
    PC prog 51 [(eTClocks k_1)] (fun rs=>rs=[(.i .i64 r_2)]):=by
 refine PC.of_tr (cx:=⟨164,none,lay,0⟩) layOK func51 rfl rfl rfl rfl rfl (by simp [f51]) ?_
 unfold M166 at h
 refine sg ?_
 conv=>whnf
 refine sg ?_
 conv=>whnf
 refine lnS_map ?_
 conv=>whnf
 refine Tr.seq ?_
 refine sg ?_
 conv=>whnf
 refine cB h (fun hb3 h=>?_) (fun hb3 h=>?_)
 ·conv=>whnf
  refine Tr.cond ?_
  conv=>whnf
  refine sg ?_
  conv=>whnf
  refine Tr.ret ?_
  conv=>whnf
  cases h
  rfl
 conv=>whnf
 refine lnS_map ?_
 conv=>whnf
 refine arS_raw ?_
 conv=>whnf
 refine Tr.cond ?_
 conv=>whnf
 refine cB h (fun hb4 h=>?_) (fun hb4 h=>?_)
 ·refine sg ?_
  conv=>whnf
  refine Tr.ret ?_
  conv=>whnf
  cases h
  rfl
 refine Tr.skip ?_
 conv=>whnf
 refine Tr.seq ?_
 refine sg ?_
 conv=>whnf
 refine Tr.cutQ (α:=Unit) (fun s=>([(1,.pt 0 0),(2,(dI 0)),(3,(dI (((k_1.Segments).length:Int))))],[some (.var [.d (.ls (List.map eTSegment k_1.Segments)),.d (.ls (List.map (eL eI) k_1.Far))])])) (fun s=>M165 k_1 s=some r_2) ?_ ?_
 ·refine Tr.block ?_
  refine Tr.loopM (σ:=Int) (fun n s=>M154 k_1 (M165 k_1) n s) r_2 (fun s=>([(1,.pt 0 0),(2,(dI 0)),(3,(dI (((k_1.Segments).length:Int)))),(4,(dI s))],[some (.var [.d (.ls (List.map eTSegment k_1.Segments)),.d (.ls (List.map (eL eI) k_1.Far))])])) (((((k_1.Segments).length:Int)) - 0:Int).toNat+1) (0) h (fun s=>rfl) (Wk.mk2 [0] 1 rfl rfl (by decide) rfl ⟨rr,trivial⟩ ⟨rr,rr,rr,rr,trivial⟩) ?_
  clear h
  rintro n_7 i_6 h
  replace h:M154 k_1 (M165 k_1) (n_7+1) i_6=some r_2:=h
  rw [M154] at h
  refine Tr.seq ?_
  refine sg ?_
  conv=>whnf
  refine Tr.cond ?_
  conv=>whnf
  refine cB h (fun hb10 h=>?_) (fun hb10 h=>?_)
  ·refine Tr.skip ?_
   conv=>whnf
   refine Tr.seq ?_
   refine Tr.block ?_
   refine sg ?_
   conv=>whnf
   obtain ⟨x_11,hx_11,h⟩:=bS h
   refine ixP_of hx_11 ?_
   conv=>whnf
   refine Tr.seq ?_
   obtain ⟨v_12,hv13,h⟩:=bS h
   refine Tr.cutQ1 ([(1,.pt 0 0),(2,(dI 0)),(3,(dI (((k_1.Segments).length:Int)))),(4,(dI i_6)),(72,.d (.b v_12))]) ([some (.var [.d (.ls (List.map eTSegment k_1.Segments)),.d (.ls (List.map (eL eI) k_1.Far))])]) ?_ (fun T1 H1 hw=>?_)
   ·replace h:=hv13; clear hv13
    refine dq [] [(0,4),(1,4),(2,1),(3,1),(4,4),(5,4),(6,1),(7,1),(8,1),(9,4),(10,4),(11,1),(12,1),(13,1),(14,4),(15,4),(16,1),(17,1),(18,1),(19,4),(20,4),(21,1),(22,1),(23,1),(24,1),(25,1),(26,1),(27,1),(28,3),(29,3),(30,1),(31,1),(32,2),(33,2),(34,4),(35,1),(36,1),(37,1),(38,1)] ?_
    conv=>whnf
    refine q2 ?_
    conv=>whnf
    refine q2 ?_
    conv=>whnf
    refine q1 ?_
    conv=>whnf
    refine q1 ?_
    conv=>whnf
    refine cB h (fun hb14 h=>?_) (fun hb14 h=>?_)
    ·conv=>whnf
     refine q1 ?_
     conv=>whnf
     refine q1 ?_
     conv=>whnf
     refine q1 ?_
     conv=>whnf
     refine q1 ?_
     conv=>whnf
     refine q1 ?_
     conv=>whnf
     refine q1 ?_
     conv=>whnf
     refine q1 ?_
     conv=>whnf
     refine q1 ?_
     conv=>whnf
     refine q1 ?_
     conv=>whnf
     cases h
     exact Wk.mk2 [0] 2 rfl rfl (by decide) rfl ⟨rr,trivial⟩ ⟨rr,rr,rr,rr,rr,trivial⟩
    conv=>whnf
    refine q2 ?_
    conv=>whnf
    refine q2 ?_
    conv=>whnf
    refine q1 ?_
    conv=>whnf
    refine q1 ?_
    conv=>whnf
    refine q1 ?_
    conv=>whnf
    refine cB h (fun hb15 h=>?_) (fun hb15 h=>?_)
    ·conv=>whnf
     refine q1 ?_
     conv=>whnf
     refine q1 ?_
     conv=>whnf
     refine q1 ?_
     conv=>whnf
     refine q1 ?_
     conv=>whnf
     refine q1 ?_
     conv=>whnf
     refine q1 ?_
     conv=>whnf
     refine q1 ?_
     conv=>whnf
     cases h
     exact Wk.mk2 [0] 2 rfl rfl (by decide) rfl ⟨rr,trivial⟩ ⟨rr,rr,rr,rr,rr,trivial⟩
    conv=>whnf
    refine q2 ?_
    conv=>whnf
    refine q2 ?_
    conv=>whnf
    refine q1 ?_
    conv=>whnf
    refine q1 ?_
    conv=>whnf
    refine q1 ?_
    conv=>whnf
    refine cB h (fun hb16 h=>?_) (fun hb16 h=>?_)
    ·conv=>whnf
     refine q1 ?_
     conv=>whnf
     refine q1 ?_
     conv=>whnf
     refine q1 ?_
     conv=>whnf
     refine q1 ?_
     conv=>whnf
     refine q1 ?_
     conv=>whnf
     cases h
     exact Wk.mk2 [0] 2 rfl rfl (by decide) rfl ⟨rr,trivial⟩ ⟨rr,rr,rr,rr,rr,trivial⟩
    conv=>whnf
    refine q2 ?_
    conv=>whnf
    refine q2 ?_
    conv=>whnf
    refine q1 ?_
    conv=>whnf
    refine q1 ?_
    conv=>whnf
    refine q1 ?_
    conv=>whnf
    refine cB h (fun hb17 h=>?_) (fun hb17 h=>?_)
    ·conv=>whnf
     refine q1 ?_
     conv=>whnf
     refine q1 ?_
     conv=>whnf
     refine q1 ?_
     conv=>whnf
     cases h
     exact Wk.mk2 [0] 2 rfl rfl (by decide) rfl ⟨rr,trivial⟩ ⟨rr,rr,rr,rr,rr,trivial⟩
    conv=>whnf
    refine q2 ?_
    conv=>whnf
    refine q2 ?_
    conv=>whnf
    obtain ⟨r_18,hc19,h⟩:=bS h
    refine q1 ?_ (fun _=>pe (P152 x_11.Anchor r_18 hc19) rr)
    conv=>whnf
    refine q1 ?_
    conv=>whnf
    refine q1 ?_
    conv=>whnf
    refine q1 ?_
    conv=>whnf
    refine cB h (fun hb20 h=>?_) (fun hb20 h=>?_)
    ·conv=>whnf
     refine q1 ?_
     conv=>whnf
     cases h
     exact Wk.mk2 [0] 2 rfl rfl (by decide) rfl ⟨rr,trivial⟩ ⟨rr,rr,rr,rr,rr,trivial⟩
    conv=>whnf
    refine q1 ?_
    conv=>whnf
    refine q1 ?_
    conv=>whnf
    refine q1 ?_
    conv=>whnf
    refine cB h (fun hb21 h=>?_) (fun hb21 h=>?_)
    ·conv=>whnf
     refine q2 ?_
     conv=>whnf
     refine q2 ?_
     conv=>whnf
     refine q1 ?_
     conv=>whnf
     refine q4 ?_
     conv=>whnf
     obtain ⟨x_22,hx_22,h⟩:=bS h
     refine q3 (ixP_of hx_22 rr) ?_
     conv=>whnf
     refine q2 ?_
     conv=>whnf
     refine q2 ?_
     conv=>whnf
     obtain ⟨r_23,hc24,h⟩:=bS h
     refine q1 ?_ (fun _=>pe (P153 x_22 x_11 r_23 hc24) rr)
     conv=>whnf
     refine q1 ?_
     conv=>whnf
     refine q1 ?_
     conv=>whnf
     refine q1 ?_
     conv=>whnf
     cases h
     exact Wk.mk2 [0] 2 rfl rfl (by decide) rfl ⟨rr,trivial⟩ ⟨rr,rr,rr,rr,rr,trivial⟩
    conv=>whnf
    refine q1 ?_
    conv=>whnf
    refine q1 ?_
    conv=>whnf
    cases h
    exact Wk.mk2 [0] 2 rfl rfl (by decide) rfl ⟨rr,trivial⟩ ⟨rr,rr,rr,rr,rr,trivial⟩
   clear hv13
   conv=>whnf
   refine Tr.weak hw ?_
   refine Tr.cond ?_
   conv=>whnf
   refine cB h (fun hb25 h=>?_) (fun hb25 h=>?_)
   ·refine sg ?_
    conv=>whnf
    refine Tr.ret ?_
    conv=>whnf
    cases h
    rfl
   refine Tr.skip ?_
   conv=>whnf
   refine rg ?_
   conv=>whnf
   refine arS_raw ?_
   conv=>whnf
   refine ⟨((w64 (i_6+1))),h,?_⟩
   exact Wk.mk2 [0] 1 rfl rfl (by decide) rfl ⟨rr,trivial⟩ ⟨rr,rr,rr,rr,trivial⟩
  refine Tr.exit ?_
  conv=>whnf
  refine ⟨(),h,?_⟩
  exact Wk.mk2 [0] 1 rfl rfl (by decide) rfl ⟨rr,trivial⟩ ⟨rr,rr,rr,trivial⟩
 clear h
 rintro _ h T1 H1 hw
 replace h:M165 k_1 ()=some r_2:=h
 conv=>whnf
 refine Tr.weak hw ?_
 unfold M165 at h
 refine Tr.seq ?_
 refine sg ?_
 conv=>whnf
 refine Tr.cutQ (α:=Unit) (fun s=>([(1,.pt 0 0),(2,(dI 0)),(3,(dI (((k_1.Segments).length:Int))))],[some (.var [.d (.ls (List.map eTSegment k_1.Segments)),.d (.ls (List.map (eL eI) k_1.Far))])])) (fun s=>M164 k_1 s=some r_2) ?_ ?_
 ·refine Tr.block ?_
  refine Tr.loopM (σ:=Int) (fun n s=>M157 k_1 (M164 k_1) n s) r_2 (fun s=>([(1,.pt 0 0),(2,(dI 0)),(3,(dI (((k_1.Segments).length:Int)))),(6,(dI s))],[some (.var [.d (.ls (List.map eTSegment k_1.Segments)),.d (.ls (List.map (eL eI) k_1.Far))])])) (((((k_1.Segments).length:Int))+1 - 0:Int).toNat+1) (0) h (fun s=>rfl) (Wk.mk2 [0] 1 rfl rfl (by decide) rfl ⟨rr,trivial⟩ ⟨rr,rr,rr,rr,trivial⟩) ?_
  clear h
  rintro n_28 i_27 h
  replace h:M157 k_1 (M164 k_1) (n_28+1) i_27=some r_2:=h
  rw [M157] at h
  refine Tr.seq ?_
  refine sg ?_
  conv=>whnf
  refine Tr.cond ?_
  conv=>whnf
  refine cB h (fun hb31 h=>?_) (fun hb31 h=>?_)
  ·refine Tr.skip ?_
   conv=>whnf
   refine Tr.seq ?_
   refine Tr.block ?_
   refine Tr.seq ?_
   refine sg ?_
   conv=>whnf
   obtain ⟨x_32,hx_32,h⟩:=bS h
   refine ixP_of hx_32 ?_
   conv=>whnf
   refine lnS_map ?_
   conv=>whnf
   refine arS_raw ?_
   conv=>whnf
   refine cB h (fun hb33 h=>?_) (fun hb33 h=>?_)
   ·conv=>whnf
    refine Tr.cond ?_
    conv=>whnf
    refine sg ?_
    conv=>whnf
    refine Tr.ret ?_
    conv=>whnf
    cases h
    rfl
   conv=>whnf
   obtain ⟨x_34,hx_34,h⟩:=bS h
   refine ixP_of hx_34 ?_
   conv=>whnf
   obtain ⟨x_35,hx_35,h⟩:=bS h
   refine ixP_of hx_35 ?_
   conv=>whnf
   refine Tr.cond ?_
   conv=>whnf
   refine cB h (fun hb36 h=>?_) (fun hb36 h=>?_)
   ·refine sg ?_
    conv=>whnf
    refine Tr.ret ?_
    conv=>whnf
    cases h
    rfl
   refine Tr.skip ?_
   conv=>whnf
   refine sg ?_
   conv=>whnf
   refine Tr.cutQ (α:=Unit) (fun s=>([(1,.pt 0 0),(2,(dI 0)),(3,(dI (((k_1.Segments).length:Int)))),(6,(dI i_27))],[some (.var [.d (.ls (List.map eTSegment k_1.Segments)),.d (.ls (List.map (eL eI) k_1.Far))])])) (fun s=>M156 i_27 (M157 k_1 (M164 k_1) n_28) s=some r_2) ?_ ?_
   ·refine Tr.block ?_
    refine Tr.loopM (σ:=Int) (fun n s=>M155 k_1 i_27 (M156 i_27 (M157 k_1 (M164 k_1) n_28)) n s) r_2 (fun s=>([(1,.pt 0 0),(2,(dI 0)),(3,(dI (((k_1.Segments).length:Int)))),(6,(dI i_27)),(7,(dI s))],[some (.var [.d (.ls (List.map eTSegment k_1.Segments)),.d (.ls (List.map (eL eI) k_1.Far))])])) (((((k_1.Segments).length:Int))+1 - 0:Int).toNat+1) (0) h (fun s=>rfl) (Wk.mk2 [0] 1 rfl rfl (by decide) rfl ⟨rr,trivial⟩ ⟨rr,rr,rr,rr,rr,trivial⟩) ?_
    clear h
    rintro n_39 j_38 h
    replace h:M155 k_1 i_27 (M156 i_27 (M157 k_1 (M164 k_1) n_28)) (n_39+1) j_38=some r_2:=h
    rw [M155] at h
    refine Tr.seq ?_
    refine sg ?_
    conv=>whnf
    refine Tr.cond ?_
    conv=>whnf
    refine cB h (fun hb42 h=>?_) (fun hb42 h=>?_)
    ·refine Tr.skip ?_
     conv=>whnf
     refine Tr.seq ?_
     refine Tr.block ?_
     refine sg ?_
     conv=>whnf
     obtain ⟨x_43,hx_43,h⟩:=bS h
     refine ixP_of hx_43 ?_
     conv=>whnf
     obtain ⟨x_44,hx_44,h⟩:=bS h
     refine ixP_of hx_44 ?_
     conv=>whnf
     refine cB h (fun hb45 h=>?_) (fun hb45 h=>?_)
     ·conv=>whnf
      refine Tr.cond ?_
      conv=>whnf
      refine sg ?_
      conv=>whnf
      refine Tr.ret ?_
      conv=>whnf
      cases h
      rfl
     conv=>whnf
     obtain ⟨x_46,hx_46,h⟩:=bS h
     refine ixP_of hx_46 ?_
     conv=>whnf
     obtain ⟨x_47,hx_47,h⟩:=bS h
     refine ixP_of hx_47 ?_
     conv=>whnf
     refine Tr.cond ?_
     conv=>whnf
     refine cB h (fun hb48 h=>?_) (fun hb48 h=>?_)
     ·refine sg ?_
      conv=>whnf
      refine Tr.ret ?_
      conv=>whnf
      cases h
      rfl
     refine Tr.skip ?_
     conv=>whnf
     refine rg ?_
     conv=>whnf
     refine arS_raw ?_
     conv=>whnf
     refine ⟨((w64 (j_38+1))),h,?_⟩
     exact Wk.mk2 [0] 1 rfl rfl (by decide) rfl ⟨rr,trivial⟩ ⟨rr,rr,rr,rr,rr,trivial⟩
    refine Tr.exit ?_
    conv=>whnf
    refine ⟨(),h,?_⟩
    exact Wk.mk2 [0] 1 rfl rfl (by decide) rfl ⟨rr,trivial⟩ ⟨rr,rr,rr,rr,trivial⟩
   clear h
   rintro _ h T1 H1 hw
   replace h:M156 i_27 (M157 k_1 (M164 k_1) n_28) ()=some r_2:=h
   conv=>whnf
   refine Tr.weak hw ?_
   unfold M156 at h
   refine rg ?_
   conv=>whnf
   refine arS_raw ?_
   conv=>whnf
   refine ⟨((w64 (i_27+1))),h,?_⟩
   exact Wk.mk2 [0] 1 rfl rfl (by decide) rfl ⟨rr,trivial⟩ ⟨rr,rr,rr,rr,trivial⟩
  refine Tr.exit ?_
  conv=>whnf
  refine ⟨(),h,?_⟩
  exact Wk.mk2 [0] 1 rfl rfl (by decide) rfl ⟨rr,trivial⟩ ⟨rr,rr,rr,trivial⟩
 clear h
 rintro _ h T1 H1 hw
 replace h:M164 k_1 ()=some r_2:=h
 conv=>whnf
 refine Tr.weak hw ?_
 unfold M164 at h
 refine Tr.seq ?_
 refine sg ?_
 conv=>whnf
 refine Tr.cutQ (α:=Unit) (fun s=>([(2,(dI 0))],[])) (fun s=>M163 s=some r_2) ?_ ?_
 ·refine Tr.block ?_
  refine Tr.loopM (σ:=Int) (fun n s=>M162 k_1 M163 n s) r_2 (fun s=>([(1,.pt 0 0),(2,(dI 0)),(3,(dI (((k_1.Segments).length:Int)))),(8,(dI s))],[some (.var [.d (.ls (List.map eTSegment k_1.Segments)),.d (.ls (List.map (eL eI) k_1.Far))])])) (((((k_1.Segments).length:Int))+1 - 0:Int).toNat+1) (0) h (fun s=>rfl) (Wk.mk2 [0] 1 rfl rfl (by decide) rfl ⟨rr,trivial⟩ ⟨rr,rr,rr,rr,trivial⟩) ?_
  clear h
  rintro n_51 i_50 h
  replace h:M162 k_1 M163 (n_51+1) i_50=some r_2:=h
  rw [M162] at h
  refine Tr.seq ?_
  refine sg ?_
  conv=>whnf
  refine Tr.cond ?_
  conv=>whnf
  refine cB h (fun hb54 h=>?_) (fun hb54 h=>?_)
  ·refine Tr.skip ?_
   conv=>whnf
   refine Tr.seq ?_
   refine Tr.block ?_
   refine sg ?_
   conv=>whnf
   refine Tr.cutQ (α:=Unit) (fun s=>([(1,.pt 0 0),(2,(dI 0)),(3,(dI (((k_1.Segments).length:Int)))),(8,(dI i_50))],[some (.var [.d (.ls (List.map eTSegment k_1.Segments)),.d (.ls (List.map (eL eI) k_1.Far))])])) (fun s=>M161 i_50 (M162 k_1 M163 n_51) s=some r_2) ?_ ?_
   ·refine Tr.block ?_
    refine Tr.loopM (σ:=Int) (fun n s=>M160 k_1 i_50 (M161 i_50 (M162 k_1 M163 n_51)) n s) r_2 (fun s=>([(1,.pt 0 0),(2,(dI 0)),(3,(dI (((k_1.Segments).length:Int)))),(8,(dI i_50)),(9,(dI s))],[some (.var [.d (.ls (List.map eTSegment k_1.Segments)),.d (.ls (List.map (eL eI) k_1.Far))])])) (((((k_1.Segments).length:Int))+1 - 0:Int).toNat+1) (0) h (fun s=>rfl) (Wk.mk2 [0] 1 rfl rfl (by decide) rfl ⟨rr,trivial⟩ ⟨rr,rr,rr,rr,rr,trivial⟩) ?_
    clear h
    rintro n_57 j_56 h
    replace h:M160 k_1 i_50 (M161 i_50 (M162 k_1 M163 n_51)) (n_57+1) j_56=some r_2:=h
    rw [M160] at h
    refine Tr.seq ?_
    refine sg ?_
    conv=>whnf
    refine Tr.cond ?_
    conv=>whnf
    refine cB h (fun hb60 h=>?_) (fun hb60 h=>?_)
    ·refine Tr.skip ?_
     conv=>whnf
     refine Tr.seq ?_
     refine Tr.block ?_
     refine sg ?_
     conv=>whnf
     refine Tr.cutQ (α:=Unit) (fun s=>([(1,.pt 0 0),(2,(dI 0)),(3,(dI (((k_1.Segments).length:Int)))),(8,(dI i_50)),(9,(dI j_56))],[some (.var [.d (.ls (List.map eTSegment k_1.Segments)),.d (.ls (List.map (eL eI) k_1.Far))])])) (fun s=>M159 j_56 (M160 k_1 i_50 (M161 i_50 (M162 k_1 M163 n_51)) n_57) s=some r_2) ?_ ?_
     ·refine Tr.block ?_
      refine Tr.loopM (σ:=Int) (fun n s=>M158 k_1 i_50 j_56 (M159 j_56 (M160 k_1 i_50 (M161 i_50 (M162 k_1 M163 n_51)) n_57)) n s) r_2 (fun s=>([(1,.pt 0 0),(2,(dI 0)),(3,(dI (((k_1.Segments).length:Int)))),(8,(dI i_50)),(9,(dI j_56)),(10,(dI s))],[some (.var [.d (.ls (List.map eTSegment k_1.Segments)),.d (.ls (List.map (eL eI) k_1.Far))])])) (((((k_1.Segments).length:Int))+1 - 0:Int).toNat+1) (0) h (fun s=>rfl) (Wk.mk2 [0] 1 rfl rfl (by decide) rfl ⟨rr,trivial⟩ ⟨rr,rr,rr,rr,rr,rr,trivial⟩) ?_
      clear h
      rintro n_63 m_62 h
      replace h:M158 k_1 i_50 j_56 (M159 j_56 (M160 k_1 i_50 (M161 i_50 (M162 k_1 M163 n_51)) n_57)) (n_63+1) m_62=some r_2:=h
      rw [M158] at h
      refine Tr.seq ?_
      refine sg ?_
      conv=>whnf
      refine Tr.cond ?_
      conv=>whnf
      refine cB h (fun hb66 h=>?_) (fun hb66 h=>?_)
      ·refine Tr.skip ?_
       conv=>whnf
       refine Tr.seq ?_
       refine Tr.block ?_
       refine sd [] [(0,3),(1,3),(2,1),(3,2),(4,2),(5,1),(6,2),(7,2),(8,3),(9,3),(10,1),(11,2),(12,2),(13,1),(14,2),(15,2),(16,3),(17,3),(18,1),(19,2),(20,2),(21,1),(22,2),(23,2),(24,1),(25,1)] ?_
       conv=>whnf
       refine q2 ?_
       conv=>whnf
       refine q2 ?_
       conv=>whnf
       refine q1 ?_
       conv=>whnf
       obtain ⟨x_67,hx_67,h⟩:=bS h
       refine q3 (ixP_of hx_67 rr) ?_
       conv=>whnf
       refine q2 ?_
       conv=>whnf
       refine q1 ?_
       conv=>whnf
       obtain ⟨x_68,hx_68,h⟩:=bS h
       refine q3 (ixP_of hx_68 rr) ?_
       conv=>whnf
       refine q2 ?_
       conv=>whnf
       refine q2 ?_
       conv=>whnf
       refine q2 ?_
       conv=>whnf
       refine q1 ?_
       conv=>whnf
       obtain ⟨x_69,hx_69,h⟩:=bS h
       refine q3 (ixP_of hx_69 rr) ?_
       conv=>whnf
       refine q2 ?_
       conv=>whnf
       refine q1 ?_
       conv=>whnf
       obtain ⟨x_70,hx_70,h⟩:=bS h
       refine q3 (ixP_of hx_70 rr) ?_
       conv=>whnf
       refine q2 ?_
       conv=>whnf
       refine q2 ?_
       conv=>whnf
       refine q2 ?_
       conv=>whnf
       refine q1 ?_
       conv=>whnf
       obtain ⟨x_71,hx_71,h⟩:=bS h
       refine q3 (ixP_of hx_71 rr) ?_
       conv=>whnf
       refine q2 ?_
       conv=>whnf
       refine q1 ?_
       conv=>whnf
       obtain ⟨x_72,hx_72,h⟩:=bS h
       refine q3 (ixP_of hx_72 rr) ?_
       conv=>whnf
       refine q2 ?_
       conv=>whnf
       refine q4 ?_
       conv=>whnf
       refine q1 ?_
       conv=>whnf
       refine Tr.cond ?_
       conv=>whnf
       refine cB h (fun hb73 h=>?_) (fun hb73 h=>?_)
       ·refine sg ?_
        conv=>whnf
        refine Tr.ret ?_
        conv=>whnf
        cases h
        rfl
       refine Tr.skip ?_
       conv=>whnf
       refine rg ?_
       conv=>whnf
       refine arS_raw ?_
       conv=>whnf
       refine ⟨((w64 (m_62+1))),h,?_⟩
       exact Wk.mk2 [0] 1 rfl rfl (by decide) rfl ⟨rr,trivial⟩ ⟨rr,rr,rr,rr,rr,rr,trivial⟩
      refine Tr.exit ?_
      conv=>whnf
      refine ⟨(),h,?_⟩
      exact Wk.mk2 [0] 1 rfl rfl (by decide) rfl ⟨rr,trivial⟩ ⟨rr,rr,rr,rr,rr,trivial⟩
     clear h
     rintro _ h T1 H1 hw
     replace h:M159 j_56 (M160 k_1 i_50 (M161 i_50 (M162 k_1 M163 n_51)) n_57) ()=some r_2:=h
     conv=>whnf
     refine Tr.weak hw ?_
     unfold M159 at h
     refine rg ?_
     conv=>whnf
     refine arS_raw ?_
     conv=>whnf
     refine ⟨((w64 (j_56+1))),h,?_⟩
     exact Wk.mk2 [0] 1 rfl rfl (by decide) rfl ⟨rr,trivial⟩ ⟨rr,rr,rr,rr,rr,trivial⟩
    refine Tr.exit ?_
    conv=>whnf
    refine ⟨(),h,?_⟩
    exact Wk.mk2 [0] 1 rfl rfl (by decide) rfl ⟨rr,trivial⟩ ⟨rr,rr,rr,rr,trivial⟩
   clear h
   rintro _ h T1 H1 hw
   replace h:M161 i_50 (M162 k_1 M163 n_51) ()=some r_2:=h
   conv=>whnf
   refine Tr.weak hw ?_
   unfold M161 at h
   refine rg ?_
   conv=>whnf
   refine arS_raw ?_
   conv=>whnf
   refine ⟨((w64 (i_50+1))),h,?_⟩
   exact Wk.mk2 [0] 1 rfl rfl (by decide) rfl ⟨rr,trivial⟩ ⟨rr,rr,rr,rr,trivial⟩
  refine Tr.exit ?_
  conv=>whnf
  refine ⟨(),h,?_⟩
  exact Wk.mk2 [] 1 rfl rfl (by decide) rfl trivial ⟨rr,trivial⟩
 clear h
 rintro _ h T1 H1 hw
 replace h:M163 ()=some r_2:=h
 conv=>whnf
 refine Tr.weak hw ?_
 unfold M163 at h
 refine sg ?_
 conv=>whnf
 refine Tr.ret ?_
 conv=>whnf
 cases h
 rfl
theorem P167 (n_1:Int) (least_2:Int) (most_3:Int) (r_4:Bool) (h:M167 n_1 least_2 most_3=some r_4) :
    PC prog 84 [(.i .i64 n_1),(.i .i64 least_2),(.i .i64 most_3)] (fun rs=>rs=[(.b r_4)]):=by
 refine PC.of_tr (cx:=⟨15,none,lay,0⟩) layOK func84 rfl rfl rfl rfl rfl (by simp [f84]) ?_
 unfold M167 at h
 refine sg ?_
 conv=>whnf
 refine sg ?_
 conv=>whnf
 refine cB h (fun hb5 h=>?_) (fun hb5 h=>?_)
 ·conv=>whnf
  refine Tr.ret ?_
  conv=>whnf
  cases h
  rfl
 conv=>whnf
 refine Tr.ret ?_
 conv=>whnf
 cases h
 rfl
end Go.Proofs.Try
