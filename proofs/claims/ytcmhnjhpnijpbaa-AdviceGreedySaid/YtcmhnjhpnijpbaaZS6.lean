/- Contracts of functions, by program (gen.py). No condition. -/
import Derived.Test.YtcmhnjhpnijpbaaZL
import Derived.Test.YtcmhnjhpnijpbaaZM
import Derived.Test.YtcmhnjhpnijpbaaZCB
import Derived.Test.YtcmhnjhpnijpbaaZS5
namespace Go.Proofs.Try
open Go Go.Abs Go.Stop
set_option maxRecDepth 8000
set_option linter.unusedVariables false
set_option linter.unusedSimpArgs false
theorem P233 (r_1:TPlan) (h:M233=some r_1) :
    PC prog 51 [] (fun rs=>rs=[(eTPlan r_1)]):=by
 refine PC.of_tr (cx:=⟨2,none,lay,0⟩) layOK func51 rfl rfl rfl rfl rfl (by simp [f51]) ?_
 unfold M233 at h
 refine sg ?_
 conv=>whnf
 refine sg ?_
 conv=>whnf
 refine orB_l ?_
 conv=>whnf
 refine Tr.ret ?_
 conv=>whnf
 cases h
 rfl
theorem P234 (q_1:TQuestion) (look_2:Int) (c_3:List TSegment) (c_4:List (List Int)) (c_5:List TPair) (c_6:List TRunner) (c_7:Int) (c_8:List TLook) (c_9:Int) (h:M234 q_1 look_2=some (c_3,c_4,c_5,c_6,c_7,c_8,c_9)) :
    PC prog 52 [(eTQuestion q_1),(.i .i64 look_2)] (fun rs=>rs=[(.fn 79 [(.ro [(.ls (List.map eTSegment c_3)),(.ls (List.map (eL eI) c_4)),(.ls (List.map eTPair c_5)),(.ls (List.map eTRunner c_6)),(.i .i64 c_7),(.ls (List.map eTLook c_8))]),(.ro [(.i .i64 c_9)])])]):=by
 refine PC.of_tr (cx:=⟨6,none,lay,0⟩) layOK func52 rfl rfl rfl rfl rfl (by simp [f52]) ?_
 unfold M234 at h
 refine sg ?_
 conv=>whnf
 refine sg ?_
 conv=>whnf
 refine Tr.ret ?_
 conv=>whnf
 cases h
 rfl
theorem P237 (c_1:List TSegment) (c_2:List (List Int)) (c_3:List TPair) (c_4:List TRunner) (c_5:Int) (c_6:List TLook) (c_7:Int) (ys:List (Int × TQuestion)) (h:M237 c_1 c_2 c_3 c_4 c_5 c_6 c_7=some ys) (xs:YL) (hx:Rem xs (fun a=>[(.i .i64 a.1),(eTQuestion a.2)]) 0 ys) :
    ItC prog 79 [(.ro [(.ls (List.map eTSegment c_1)),(.ls (List.map (eL eI) c_2)),(.ls (List.map eTPair c_3)),(.ls (List.map eTRunner c_4)),(.i .i64 c_5),(.ls (List.map eTLook c_6))]),(.ro [(.i .i64 c_7)])] xs:=by
 refine ItC.of_tr (cx:=⟨40,none,lay,0⟩) (hx:=hx) func79 rfl rfl rfl (by simp [f79]) rfl (fun l hx=>?_)
 unfold M237 at h
 refine TrY.seq ?_
 refine TrY.region layOK ?_
 conv=>whnf
 obtain ⟨x_8,hx_8,h⟩:=bS h
 refine ixP_of hx_8 ?_
 conv=>whnf
 refine lnS_map ?_
 conv=>whnf
 refine TrY.block ?_
 refine TrY.loopM (σ:=Int) (fun n s=>M235 c_1 c_2 c_3 c_4 c_5 c_6 c_7 x_8 M236 n s) _ (fun s=>([(0,.yl l),(1,.d (.ro [(.ls (List.map eTSegment c_1)),(.ls (List.map (eL eI) c_2)),(.ls (List.map eTPair c_3)),(.ls (List.map eTRunner c_4)),(.i .i64 c_5),(.ls (List.map eTLook c_6))])),(2,.d (.ro [(.i .i64 c_7)])),(13,.d (.ls (List.map eTSpan x_8.Answers))),(14,(dI (((x_8.Answers).length:Int)))),(15,(dI s))],[])) (((((x_8.Answers).length:Int)) - 0:Int).toNat+1) (0) h (fun s=>rfl) hx (Wk.mk2 [] 0 rfl rfl (by decide) rfl trivial ⟨rr,rr,rr,rr,rr,rr,trivial⟩) ?_
 clear h hx
 rintro n_11 v_10 i_22 ys_23 h hx
 replace h:M235 c_1 c_2 c_3 c_4 c_5 c_6 c_7 x_8 M236 (n_11+1) v_10=some ys_23:=h
 rw [M235] at h
 refine TrY.seq ?_
 refine TrY.region layOK ?_
 conv=>whnf
 refine TrY.seq ?_
 refine TrY.cond ?_
 conv=>whnf
 refine cB h (fun hb14 h=>?_) (fun hb14 h=>?_)
 ·refine TrY.skip ?_
  conv=>whnf
  refine TrY.seq ?_
  refine TrY.block ?_
  refine TrY.seq ?_
  refine TrY.region layOK ?_
  conv=>whnf
  obtain ⟨x_15,hx_15,h⟩:=bS h
  refine ixP_of hx_15 ?_
  conv=>whnf
  refine TrY.seq ?_
  refine TrY.drawN layOK mixed [(12,1)] [(0,2),(1,2),(2,2),(3,2),(4,2),(5,2),(6,3),(7,1),(8,1),(9,1),(10,1),(11,0),(12,0),(13,1)] (by kernel_rfl) ?_
  conv=>whnf
  refine q2 ?_
  conv=>whnf
  refine q2 ?_
  conv=>whnf
  refine q2 ?_
  conv=>whnf
  refine q2 ?_
  conv=>whnf
  obtain ⟨x_16,hx_16,h⟩:=bS h
  refine q3 (ixP_of hx_16 rr) ?_
  conv=>whnf
  refine q2 ?_
  conv=>whnf
  refine q2 ?_
  conv=>whnf
  obtain ⟨⟨r_17,r_18⟩,hc19,h⟩:=bS h
  refine q1 ?_ (fun _=>pe (P231 (({ Field:=({ Clocks:=({ Segments:=c_1,Far:=c_2 }:TClocks),Pairs:=c_3,Runners:=c_4 }:TField),Runner:=c_5,Looks:=c_6 }:TQuestion)) x_16 x_15 r_17 r_18 hc19) rr)
  conv=>whnf
  refine q1 ?_
  conv=>whnf
  refine q1 ?_
  conv=>whnf
  refine q1 ?_
  conv=>whnf
  refine ⟨_,_,rr,kp_ok (by repeat (first | exact trivial | refine ⟨trivial,?_⟩ | refine ⟨rfl,?_⟩)),?_⟩
  conv=>whnf
  refine ⟨_,_,rr,kp_ok (by repeat (first | exact trivial | refine ⟨trivial,?_⟩ | refine ⟨rfl,?_⟩)),?_⟩
  conv=>whnf
  refine q1 ?_
  conv=>whnf
  refine TrY.seq ?_
  refine TrY.region layOK ?_
  conv=>whnf
  refine cB h (fun hb20 h=>?_) (fun hb20 h=>?_)
  ·conv=>whnf
   obtain ⟨l_21,h_21,e_21⟩:=bS h
   clear h
   cases e_21
   have h:=h_21
   clear h_21
   refine ylS_of hx rfl (fun gb_21 h1_21 h2_21=>?_)
   cases gb_21
   ·have hend_21:=h2_21 rfl
    clear h1_21 h2_21 h hx
    conv=>whnf
    refine ⟨rfl,?_⟩
    conv=>whnf
    refine TrY.cond ?_
    conv=>whnf
    refine TrY.ret ?_
    conv=>whnf
    exact hend_21
   replace hx:=h1_21 rfl
   clear h1_21 h2_21
   conv=>whnf
   refine ⟨rfl,?_⟩
   conv=>whnf
   refine TrY.cond ?_
   conv=>whnf
   refine TrY.skip ?_
   conv=>whnf
   refine TrY.region layOK ?_
   conv=>whnf
   refine arS_raw ?_
   conv=>whnf
   refine ⟨((w64 (v_10+1))),_,h,hx,?_⟩
   exact Wk.mk2 [] 0 rfl rfl (by decide) rfl trivial ⟨rr,rr,rr,rr,rr,rr,trivial⟩
  conv=>whnf
  refine TrY.cond ?_
  conv=>whnf
  refine TrY.skip ?_
  conv=>whnf
  refine TrY.region layOK ?_
  conv=>whnf
  refine arS_raw ?_
  conv=>whnf
  refine ⟨((w64 (v_10+1))),_,h,hx,?_⟩
  exact Wk.mk2 [] 2 rfl rfl (by decide) rfl trivial ⟨rr,rr,rr,rr,rr,rr,trivial⟩
 refine TrY.exit ?_
 conv=>whnf
 unfold M236 at h
 cases h
 exact Rem.done hx
theorem P242 (rc_9105:TQuestion→Int→(List Bool)→Option (Option (TPlan × List Bool))) (ih_9105:∀ (q_1:TQuestion) (left_2:Int) (l_3:List Bool) (q:Option (TPlan × List Bool)),rc_9105 q_1 left_2 l_3=some q→MCP prog 49 [.d (eTQuestion q_1),(dI left_2),.pt 0 0,.pt 2 0] [.var [.sl 1 1 0 (List.length l_3)],.arr 1 (List.map .d (List.map eB l_3)),.var [.fn 49 [.pt 0 0,.pt 2 0]]] (fun rs Bs=>∃ r_4:TPlan,∃ l_5:List Bool,q=some (r_4,l_5)∧rs=[(eTPlan r_4)]∧Bs=[.var [.sl 1 1 0 (List.length l_5)],.arr 1 (List.map .d (List.map eB l_5)),.var [.fn 49 [.pt 0 0,.pt 2 0]]]) (fun pv=>pv=(.iface 38 (.int .i64 361))∧q=none)) (q_1:TQuestion) (left_2:Int) (l_3:List Bool) (q:Option (TPlan × List Bool)) (h:M242 rc_9105 q_1 left_2 l_3=some q) :
    MCP prog 49 [.d (eTQuestion q_1),(dI left_2),.pt 0 0,.pt 2 0] [.var [.sl 1 1 0 (List.length l_3)],.arr 1 (List.map .d (List.map eB l_3)),.var [.fn 49 [.pt 0 0,.pt 2 0]]] (fun rs Bs=>∃ r_4:TPlan,∃ l_5:List Bool,q=some (r_4,l_5)∧rs=[(eTPlan r_4)]∧Bs=[.var [.sl 1 1 0 (List.length l_5)],.arr 1 (List.map .d (List.map eB l_5)),.var [.fn 49 [.pt 0 0,.pt 2 0]]]) (fun pv=>pv=(.iface 38 (.int .i64 361))∧q=none):=by
 refine MCP.of_tr (cx:=⟨80,none,lay,3⟩) layOK func49 rfl rfl rfl rfl rfl (by simp [f49]) ?_
 refine Tr.unW ?_
 unfold M242 at h
 refine sg ?_
 conv=>whnf
 refine Tr.seq ?_
 refine sg ?_
 conv=>whnf
 obtain ⟨r_6,hc7,h⟩:=bS h
 refine PC.ecall (P232 q_1 r_6 hc7) (fun rs hrs=>?_)
 subst hrs
 conv=>whnf
 refine Tr.cond ?_
 conv=>whnf
 refine cB h (fun hb8 h=>?_) (fun hb8 h=>?_)
 ·refine sg ?_
  conv=>whnf
  obtain ⟨r_9,hc10,h⟩:=bS h
  refine PC.ecall (P233 r_9 hc10) (fun rs hrs=>?_)
  subst hrs
  conv=>whnf
  refine Tr.ret ?_
  conv=>whnf
  refine endH ?_
  conv=>whnf
  cases h
  exact ⟨[.var [.sl 1 1 0 (List.length l_3)],.arr 1 (List.map .d (List.map eB l_3)),.var [.fn 49 [.pt 0 0,.pt 2 0]]],rfl,rfl,⟨rfl,⟨_,rfl⟩,rfl,trivial⟩,_,_,rfl,rfl,rfl⟩
 refine Tr.skip ?_
 conv=>whnf
 refine sg ?_
 conv=>whnf
 refine Tr.seq ?_
 refine sg ?_
 conv=>whnf
 refine lnS_map ?_
 conv=>whnf
 obtain ⟨best_18,hv48,h⟩:=bS h
 refine Tr.cutQ1 ([(2,.pt 0 0),(3,.pt 2 0),(4,.pt 3 0),(5,.pt 4 0),(6,.pt 5 0),(7,(dI best_18))]) ([some (.var [.sl 1 1 0 (List.length l_3)]),some (.arr 1 (List.map .d (List.map eB l_3))),some (.var [.fn 49 [.pt 0 0,.pt 2 0]]),some (.var [.d (.ls (List.map eTSegment q_1.Field.Clocks.Segments)),.d (.ls (List.map (eL eI) q_1.Field.Clocks.Far)),.d (.ls (List.map eTPair q_1.Field.Pairs)),.d (.ls (List.map eTRunner q_1.Field.Runners)),(dI q_1.Runner),.d (.ls (List.map eTLook q_1.Looks))]),some (.var [(dI left_2)]),some (.var [(dI 0),.nsl])]) ?_ (fun T1 H1 hw=>?_)
 ·replace h:=hv48; clear hv48
  refine Tr.block ?_
  refine Tr.loopM (σ:=Int × Int × Int) (fun n s=>M239 q_1 l_3 n s.1 s.2.1 s.2.2) best_18 (fun s=>([(2,.pt 0 0),(3,.pt 2 0),(4,.pt 3 0),(5,.pt 4 0),(6,.pt 5 0),(7,(dI s.1)),(8,(dI s.2.1)),(22,(dI (((q_1.Looks).length:Int)))),(23,(dI s.2.2))],[some (.var [.sl 1 1 0 (List.length l_3)]),some (.arr 1 (List.map .d (List.map eB l_3))),some (.var [.fn 49 [.pt 0 0,.pt 2 0]]),some (.var [.d (.ls (List.map eTSegment q_1.Field.Clocks.Segments)),.d (.ls (List.map (eL eI) q_1.Field.Clocks.Far)),.d (.ls (List.map eTPair q_1.Field.Pairs)),.d (.ls (List.map eTRunner q_1.Field.Runners)),(dI q_1.Runner),.d (.ls (List.map eTLook q_1.Looks))]),some (.var [(dI left_2)]),some (.var [(dI 0),.nsl])])) (((((q_1.Looks).length:Int)) - 0:Int).toNat+1) ((-1),0,0) h (fun s=>rfl) (Wk.mk2 [0,1,2,3,4,5] 6 rfl rfl (by decide) rfl ⟨rr,daS_d rfl,rr,rr,rr,rr,trivial⟩ ⟨rr,rr,rr,rr,rr,rr,rr,rr,rr,trivial⟩) ?_
  clear h
  rintro n_17 ⟨best_14,least_15,v_16⟩ h
  replace h:M239 q_1 l_3 (n_17+1) best_14 least_15 v_16=some best_18:=h
  rw [M239] at h
  refine sg ?_
  conv=>whnf
  refine Tr.seq ?_
  refine Tr.cond ?_
  conv=>whnf
  refine cB h (fun hb21 h=>?_) (fun hb21 h=>?_)
  ·refine Tr.skip ?_
   conv=>whnf
   refine Tr.seq ?_
   obtain ⟨⟨best_22,least_23⟩,hv24,h⟩:=bS h
   refine Tr.cutQ1 ([(2,.pt 0 0),(3,.pt 2 0),(4,.pt 3 0),(5,.pt 4 0),(6,.pt 5 0),(7,(dI best_22)),(8,(dI least_23)),(22,(dI (((q_1.Looks).length:Int)))),(23,(dI v_16))]) ([some (.var [.sl 1 1 0 (List.length l_3)]),some (.arr 1 (List.map .d (List.map eB l_3))),some (.var [.fn 49 [.pt 0 0,.pt 2 0]]),some (.var [.d (.ls (List.map eTSegment q_1.Field.Clocks.Segments)),.d (.ls (List.map (eL eI) q_1.Field.Clocks.Far)),.d (.ls (List.map eTPair q_1.Field.Pairs)),.d (.ls (List.map eTRunner q_1.Field.Runners)),(dI q_1.Runner),.d (.ls (List.map eTLook q_1.Looks))]),some (.var [(dI left_2)]),some (.var [(dI 0),.nsl])]) ?_ (fun T1 H1 hw=>?_)
   ·replace h:=hv24; clear hv24
    refine Tr.block ?_
    refine sg ?_
    conv=>whnf
    refine Tr.seq ?_
    refine sg ?_
    conv=>whnf
    obtain ⟨x_25,hx_25,h⟩:=bS h
    refine ixS_of hx_25 rfl ?_
    conv=>whnf
    refine elP_of hx_25 ?_
    conv=>whnf
    refine Tr.cond ?_
    conv=>whnf
    refine cB h (fun hb26 h=>?_) (fun hb26 h=>?_)
    ·refine Tr.exit ?_
     conv=>whnf
     cases h
     exact Wk.mk2 [0,1,2,3,4,5] 6 rfl rfl (by decide) rfl ⟨rr,daS_d rfl,rr,rr,rr,rr,trivial⟩ ⟨rr,rr,rr,rr,rr,rr,rr,rr,rr,trivial⟩
    refine Tr.skip ?_
    conv=>whnf
    refine sg ?_
    conv=>whnf
    refine Tr.seq ?_
    refine sg ?_
    conv=>whnf
    obtain ⟨⟨c_27,c_28,c_29,c_30,c_31,c_32,c_33⟩,hc34,h⟩:=bS h
    refine PC.ecall (P234 q_1 v_16 c_27 c_28 c_29 c_30 c_31 c_32 c_33 hc34) (fun rs hrs=>?_)
    subst hrs
    conv=>whnf
    obtain ⟨l_35,hl36,h⟩:=bS h
    obtain ⟨v_44,hv47,h⟩:=bS h
    refine Tr.block ?_
    refine Tr.rangeM layOK rfl (ge:=fun a=>[(.i .i64 a.1),(eTQuestion a.2)]) rfl (P237 c_27 c_28 c_29 c_30 c_31 c_32 c_33 l_35 hl36) (fun _=>rfl) rfl (fun s=>[some (.var [.sl 1 1 0 (List.length l_3)]),some (.arr 1 (List.map .d (List.map eB l_3))),some (.var [.fn 49 [.pt 0 0,.pt 2 0]]),some (.var [.d (.ls (List.map eTSegment q_1.Field.Clocks.Segments)),.d (.ls (List.map (eL eI) q_1.Field.Clocks.Far)),.d (.ls (List.map eTPair q_1.Field.Pairs)),.d (.ls (List.map eTRunner q_1.Field.Runners)),(dI q_1.Runner),.d (.ls (List.map eTLook q_1.Looks))]),some (.var [(dI left_2)]),some (.var [(dI 0),.nsl]),some (.var [(dI s)])]) M238 (0) v_44 hv47 (Wk.mk2 [0,1,2,3,4,5,6] 7 rfl rfl (by decide) rfl ⟨⟨rfl,rfl⟩,daS_d rfl,⟨rfl,rfl⟩,⟨rfl,rfl⟩,⟨rfl,rfl⟩,⟨rfl,rfl⟩,⟨rfl,rfl⟩,trivial⟩ trivial) ?_ ?_
    ·clear h hv47
     rintro li ⟨y_37,y_38⟩ v_40 s_41 ha h
     replace h:M238 (y_37,y_38) v_40=some s_41:=h
     unfold M238 at h
     dsimp only at h
     conv=>whnf
     refine TrE.region layOK ?_
     conv=>whnf
     refine Tr.block ?_
     refine dq [(4,6)] [(0,9),(1,10),(2,1),(3,1),(4,0)] ?_
     conv=>whnf
     refine q2 ?_
     conv=>whnf
     refine q2 ?_
     conv=>whnf
     obtain ⟨r_42,hc43,h⟩:=bS h
     refine q1 ?_ (fun _=>pe (P232 y_38 r_42 hc43) rr)
     conv=>whnf
     refine q1 ?_
     conv=>whnf
     refine ⟨_,_,rr,kp_ok (by repeat (first | exact trivial | refine ⟨trivial,?_⟩ | refine ⟨rfl,?_⟩)),?_⟩
     conv=>whnf
     cases h
     exact Wk.mk2 [0,1,2,3,4,5,6] 8 rfl rfl (by decide) rfl ⟨rr,daS_d rfl,rr,rr,rr,rr,rr,trivial⟩ trivial
    clear hv47
    conv=>whnf
    refine sg ?_
    conv=>whnf
    refine cB h (fun hb45 h=>?_) (fun hb45 h=>?_)
    ·conv=>whnf
     refine Tr.cond ?_
     conv=>whnf
     refine dq [] [(0,1),(1,9),(2,1),(3,1)] ?_
     conv=>whnf
     refine q1 ?_
     conv=>whnf
     refine q2 ?_
     conv=>whnf
     refine q1 ?_
     conv=>whnf
     refine q1 ?_
     conv=>whnf
     cases h
     exact Wk.mk2 [0,1,2,3,4,5] 7 rfl rfl (by decide) rfl ⟨rr,daS_d rfl,rr,rr,rr,rr,trivial⟩ ⟨rr,rr,rr,rr,rr,rr,rr,rr,rr,trivial⟩
    conv=>whnf
    refine Tr.cond ?_
    conv=>whnf
    refine cB h (fun hb46 h=>?_) (fun hb46 h=>?_)
    ·refine dq [] [(0,1),(1,9),(2,1),(3,1)] ?_
     conv=>whnf
     refine q1 ?_
     conv=>whnf
     refine q2 ?_
     conv=>whnf
     refine q1 ?_
     conv=>whnf
     refine q1 ?_
     conv=>whnf
     cases h
     exact Wk.mk2 [0,1,2,3,4,5] 7 rfl rfl (by decide) rfl ⟨rr,daS_d rfl,rr,rr,rr,rr,trivial⟩ ⟨rr,rr,rr,rr,rr,rr,rr,rr,rr,trivial⟩
    refine Tr.skip ?_
    conv=>whnf
    cases h
    exact Wk.mk2 [0,1,2,3,4,5] 7 rfl rfl (by decide) rfl ⟨rr,daS_d rfl,rr,rr,rr,rr,trivial⟩ ⟨rr,rr,rr,rr,rr,rr,rr,rr,rr,trivial⟩
   clear hv24
   conv=>whnf
   refine Tr.weak hw ?_
   refine rg ?_
   conv=>whnf
   refine arS_raw ?_
   conv=>whnf
   refine ⟨(best_22,least_23,(w64 (v_16+1))),h,?_⟩
   exact Wk.mk2 [0,1,2,3,4,5] 6 rfl rfl (by decide) rfl ⟨rr,daS_d rfl,rr,rr,rr,rr,trivial⟩ ⟨rr,rr,rr,rr,rr,rr,rr,rr,rr,trivial⟩
  refine Tr.exit ?_
  conv=>whnf
  cases h
  exact Wk.mk2 [0,1,2,3,4,5] 6 rfl rfl (by decide) rfl ⟨rr,daS_d rfl,rr,rr,rr,rr,trivial⟩ ⟨rr,rr,rr,rr,rr,rr,trivial⟩
 clear hv48
 conv=>whnf
 refine Tr.weak hw ?_
 refine Tr.seq ?_
 refine sg ?_
 conv=>whnf
 refine cB h (fun hb49 h=>?_) (fun hb49 h=>?_)
 ·conv=>whnf
  refine Tr.cond ?_
  conv=>whnf
  refine Tr.regionP layOK ?_
  conv=>whnf
  refine .inr ⟨_,rfl,by kernel_rfl,?_⟩
  conv=>whnf
  refine .inr ⟨_,_,rfl,?_⟩
  conv=>whnf
  refine endH ?_
  conv=>whnf
  cases h
  exact ⟨_,rfl,rfl,rfl⟩
 conv=>whnf
 refine Tr.cond ?_
 conv=>whnf
 refine cB h (fun hb50 h=>?_) (fun hb50 h=>?_)
 ·refine Tr.regionP layOK ?_
  conv=>whnf
  refine .inr ⟨_,rfl,by kernel_rfl,?_⟩
  conv=>whnf
  refine .inr ⟨_,_,rfl,?_⟩
  conv=>whnf
  refine endH ?_
  conv=>whnf
  cases h
  exact ⟨_,rfl,rfl,rfl⟩
 refine Tr.skip ?_
 conv=>whnf
 refine sg ?_
 conv=>whnf
 refine ECall.of_tr (cx:=⟨25,none,lay,6⟩) layOK func53 rfl rfl rfl rfl rfl (by simp [f53]) ?_
 refine sg ?_
 conv=>whnf
 refine sg ?_
 conv=>whnf
 refine orB_l ?_
 conv=>whnf
 refine Tr.seq ?_
 refine sg ?_
 conv=>whnf
 obtain ⟨x_51,hx_51,h⟩:=bS h
 refine ixP_of hx_51 ?_
 conv=>whnf
 refine lnS_map ?_
 conv=>whnf
 obtain ⟨l_57,hv64,h⟩:=bS h
 refine Tr.cutQ1 ([(4,.pt 6 0),(5,.pt 7 0)]) ([some (.var [.sl 1 1 0 (List.length l_3)]),some (.arr 1 (List.map .d (List.map eB l_3))),some (.var [.fn 49 [.pt 0 0,.pt 2 0]]),some (.var [.d (.ls (List.map eTSegment q_1.Field.Clocks.Segments)),.d (.ls (List.map (eL eI) q_1.Field.Clocks.Far)),.d (.ls (List.map eTPair q_1.Field.Pairs)),.d (.ls (List.map eTRunner q_1.Field.Runners)),(dI q_1.Runner),.d (.ls (List.map eTLook q_1.Looks))]),some (.var [(dI left_2)]),some (.var [(dI 0),.nsl]),some (.var [(dI 0),.nsl]),some (.var [(dI best_18),.sl 8 2 0 (List.length l_57)]),some (.arr 2 (List.map .d (List.map eTPlan0 l_57)))]) ?_ (fun T1 H1 hw=>?_)
 ·replace h:=hv64; clear hv64
  refine Tr.block ?_
  refine Tr.loopM (σ:=Int × List TPlan0) (fun n s=>M240 x_51 n s.1 s.2) l_57 (fun s=>([(4,.pt 6 0),(5,.pt 7 0),(14,(dI (((x_51.Answers).length:Int)))),(15,(dI s.1))],[some (.var [.sl 1 1 0 (List.length l_3)]),some (.arr 1 (List.map .d (List.map eB l_3))),some (.var [.fn 49 [.pt 0 0,.pt 2 0]]),some (.var [.d (.ls (List.map eTSegment q_1.Field.Clocks.Segments)),.d (.ls (List.map (eL eI) q_1.Field.Clocks.Far)),.d (.ls (List.map eTPair q_1.Field.Pairs)),.d (.ls (List.map eTRunner q_1.Field.Runners)),(dI q_1.Runner),.d (.ls (List.map eTLook q_1.Looks))]),some (.var [(dI left_2)]),some (.var [(dI 0),.nsl]),some (.var [(dI 0),.nsl]),some (.var [(dI best_18),.sl 8 2 0 (List.length s.2)]),some (.arr 2 (List.map .d (List.map eTPlan0 s.2)))])) (((((x_51.Answers).length:Int)) - 0:Int).toNat+1) (0,(([]:List TPlan0))) h (fun s=>rfl) (Wk.mk2 [0,1,2,3,4,5,7,8,9] 9 rfl rfl (by decide) rfl ⟨rr,daS_d rfl,rr,rr,rr,rr,rr,⟨rfl,(by first | rfl | (simp only [↓hb8,↓hb49,↓hb50,bl,List.length_set]; done) | (simp only [↓hb8,↓hb49,↓hb50,bl,List.length_set]; rfl))⟩,rfl,trivial⟩ ⟨⟨rfl,(by first | rfl | (simp only [↓hb8,↓hb49,↓hb50,bl,List.length_set]; done) | (simp only [↓hb8,↓hb49,↓hb50,bl,List.length_set]; rfl))⟩,⟨rfl,(by first | rfl | (simp only [↓hb8,↓hb49,↓hb50,bl,List.length_set]; done) | (simp only [↓hb8,↓hb49,↓hb50,bl,List.length_set]; rfl))⟩,rr,rr,trivial⟩) ?_
  clear h
  rintro n_56 ⟨v_54,l_55⟩ h
  replace h:M240 x_51 (n_56+1) v_54 l_55=some l_57:=h
  rw [M240] at h
  refine sg ?_
  conv=>whnf
  refine Tr.seq ?_
  refine Tr.cond ?_
  conv=>whnf
  refine cB h (fun hb60 h=>?_) (fun hb60 h=>?_)
  ·refine Tr.skip ?_
   conv=>whnf
   refine Tr.seq ?_
   refine Tr.block ?_
   refine dq [(4,8),(6,7)] [(0,10),(1,10),(2,1),(3,1),(4,0),(5,10),(6,0)] ?_
   conv=>whnf
   refine q2 ?_
   conv=>whnf
   refine q2 ?_
   conv=>whnf
   obtain ⟨r_61,hc62,h⟩:=bS h
   refine q1 ?_ (fun _=>pe (P233 r_61 hc62) rr)
   conv=>whnf
   refine q1 ?_ (fun _=>orB_r rr)
   conv=>whnf
   obtain ⟨l_63,hl_63,h⟩:=bS h
   refine ⟨_,_,(by (conv=>whnf); (refine frP_no ?_); (conv=>whnf); (refine eqS_mk (by first | rfl | simp) ?_); (conv=>whnf); (refine apS_of hl_63 (aQ (f:=eTPlan0) (l:=(([(pTPlan r_61)]:List TPlan0))) fun _=>rfl) (by first | rfl | simp) (by first | rfl | simp) (fun he=>?_)); (conv=>whnf); (refine rS (es':=List.map .d (List.map eTPlan0 l_63)) (n':=List.length l_63) (by subst he; simp only [List.map_append,List.map_cons,List.map_nil,List.nil_append]; first | done | rfl) (by subst he; simp <;> omega) ?_); (clear he); (conv=>whnf); (exact rr)),kp_ok (by repeat (first | exact trivial | refine ⟨trivial,?_⟩ | refine ⟨rfl,?_⟩)),?_⟩
   conv=>whnf
   refine q2 ?_
   conv=>whnf
   refine ⟨_,_,(by (conv=>whnf); (refine orB_l ?_); (conv=>whnf); (exact rr)),kp_ok (by repeat (first | exact trivial | refine ⟨trivial,?_⟩ | refine ⟨rfl,?_⟩)),?_⟩
   conv=>whnf
   refine rg ?_
   conv=>whnf
   refine arS_raw ?_
   conv=>whnf
   refine ⟨((w64 (v_54+1)),l_63),h,?_⟩
   exact Wk.mk2 [0,1,2,3,4,5,6,7,9] 10 rfl rfl (by decide) rfl ⟨rr,daS_d rfl,rr,rr,rr,rr,rr,⟨rfl,(by first | rfl | (simp only [↓hb8,↓hb49,↓hb50,↓hb60,bl,List.length_set]; done) | (simp only [↓hb8,↓hb49,↓hb50,↓hb60,bl,List.length_set]; rfl))⟩,daS_d rfl,trivial⟩ ⟨rr,rr,rr,rr,trivial⟩
  refine Tr.exit ?_
  conv=>whnf
  cases h
  exact Wk.mk2 [0,1,2,3,4,5,6,7,8] 9 rfl rfl (by decide) rfl ⟨rr,daS_d rfl,rr,rr,rr,rr,rr,rr,daS_d rfl,trivial⟩ ⟨rr,rr,trivial⟩
 clear hv64
 conv=>whnf
 refine Tr.weak hw ?_
 refine sg ?_
 conv=>whnf
 refine orB_l ?_
 conv=>whnf
 refine Tr.ret ?_
 conv=>whnf
 refine orB_l ?_
 conv=>whnf
 refine sg ?_
 conv=>whnf
 obtain ⟨x_65,hx_65,h⟩:=bS h
 refine ixS_of hx_65 rfl ?_
 conv=>whnf
 refine elP_of hx_65 ?_
 conv=>whnf
 refine lvS_mk (es':=List.map .d (List.map eB (List.set l_3 (Int.toNat best_18) true))) (by simp only [Nat.zero_add,List.map_set]; first | done | rfl) ?_
 conv=>whnf
 refine Tr.seq ?_
 refine sg ?_
 conv=>whnf
 obtain ⟨⟨c_66,c_67,c_68,c_69,c_70,c_71,c_72⟩,hc73,h⟩:=bS h
 refine PC.ecall (P234 q_1 best_18 c_66 c_67 c_68 c_69 c_70 c_71 c_72 hc73) (fun rs hrs=>?_)
 subst hrs
 conv=>whnf
 obtain ⟨l_74,hl75,h⟩:=bS h
 obtain ⟨q_93,hv92,h⟩:=bS h
 refine Tr.block ?_
 refine Tr.rangeP (σ:=List Bool × List TPlan0) (ρ:=Empty) layOK rfl (ge:=fun a=>[(.i .i64 a.1),(eTQuestion a.2)]) rfl (P237 c_66 c_67 c_68 c_69 c_70 c_71 c_72 l_74 hl75) (fun _=>rfl) rfl ((.iface 38 (.int .i64 361))) (fun s=>[some (.var [.sl 1 1 0 (List.length s.1)]),some (.arr 1 (List.map .d (List.map eB s.1))),some (.var [.fn 49 [.pt 0 0,.pt 2 0]]),some (.var [.d (.ls (List.map eTSegment q_1.Field.Clocks.Segments)),.d (.ls (List.map (eL eI) q_1.Field.Clocks.Far)),.d (.ls (List.map eTPair q_1.Field.Pairs)),.d (.ls (List.map eTRunner q_1.Field.Runners)),(dI q_1.Runner),.d (.ls (List.map eTLook q_1.Looks))]),some (.var [(dI left_2)]),some (.var [(dI 0),.nsl]),some (.var [(dI best_18),.sl 8 2 0 (List.length s.2)]),some (.var [(dI best_18),.sl 8 2 0 (List.length s.2)]),some (.arr 2 (List.map .d (List.map eTPlan0 s.2))),some (.var [(dI best_18),.sl 8 2 0 (List.length s.2)])]) (fun s=>[]) [none,none,none,none,none,none,none,none,none,none] .ret (.inl rfl) (M241 left_2 rc_9105) ((List.set l_3 (Int.toNat best_18) true),l_57) q_93 hv92 (Wk.mk2 [0,1,2,3,4,5,6,7,8,9] 10 rfl rfl (by decide) rfl ⟨⟨rfl,(by first | rfl | (simp only [↓hb8,↓hb49,↓hb50,bl,List.length_set]; done) | (simp only [↓hb8,↓hb49,↓hb50,bl,List.length_set]; rfl))⟩,daS_d rfl,⟨rfl,rfl⟩,⟨rfl,rfl⟩,⟨rfl,rfl⟩,⟨rfl,rfl⟩,⟨rfl,rfl⟩,⟨rfl,rfl⟩,daS_d rfl,⟨rfl,rfl⟩,trivial⟩ trivial) ?_ ?_
 ·clear h hv92
  rintro li ⟨y_76,y_77⟩ ⟨l_80,l_81⟩ s_82 ha h
  replace h:(M241 left_2 rc_9105) (y_76,y_77) (l_80,l_81)=some s_82:=h
  unfold M241 at h
  dsimp only at h
  conv=>whnf
  refine TrE.seq ?_
  refine TrE.region layOK ?_
  conv=>whnf
  refine TrE.region layOK ?_
  conv=>whnf
  refine Tr.block ?_
  refine Tr.drawPA layOK mixed [(7,0),(7,1),(7,2),(9,8)] [7] [(0,12),(1,12),(2,1),(3,5),(4,13),(5,7),(6,1),(7,0),(8,11),(9,0)] (by kernel_rfl) ?_
  conv=>whnf
  refine q2 ?_
  conv=>whnf
  refine q2 ?_
  conv=>whnf
  refine q1 ?_
  conv=>whnf
  refine q2 ?_
  conv=>whnf
  refine q2 ?_
  conv=>whnf
  refine q2 ?_
  conv=>whnf
  refine q4 ?_
  conv=>whnf
  obtain ⟨q_85,hc86,h⟩:=bS h
  refine MCP.ecall (ih_9105 y_77 ((w64 (left_2 - 1))) l_80 q_85 hc86) [0,1,2] (by decide) rfl rfl ?_ (fun rs Bs1 hrs=>?_) (fun pv hpv=>?_)
  · exact ⟨⟨rfl,rfl⟩,⟨⟨_,rfl⟩,rfl⟩,⟨rfl,rfl⟩,trivial⟩
  rotate_left
  ·obtain ⟨rfl,rfl⟩:=hpv
   rw [onP_none] at h
   intro T9
   conv=>whnf
   cases h
   refine ⟨rfl,?_⟩
   exact Wk.mk2 [0,1,2,12,14,16,18,20,22,24] 11 rfl rfl (by decide) rfl trivial trivial
  obtain ⟨r_83,l_84,rfl,rfl,rfl⟩:=hrs
  rw [onP_some] at h
  conv=>whnf
  refine ⟨kp_ok (by repeat (first | exact trivial | refine ⟨trivial,?_⟩ | refine ⟨rfl,?_⟩)),?_⟩
  conv=>whnf
  obtain ⟨_,hl87,h⟩:=bS h
  obtain ⟨x_88,hx_88,h⟩:=bS h
  refine q3 (ixS_of hx_88 rfl rr) ?_
  conv=>whnf
  refine ⟨_,_,(by (conv=>whnf); (refine elP_of hx_88 ?_); (conv=>whnf); (refine lvS_mk (es':=List.map .d (List.map eTPlan0 (List.set l_81 (Int.toNat y_76) (pTPlan r_83)))) (by simp only [Nat.zero_add,List.map_set]; first | done | rfl) ?_); (conv=>whnf); (exact rr)),kp_ok (by repeat (first | exact trivial | refine ⟨trivial,?_⟩ | refine ⟨rfl,?_⟩)),?_⟩
  conv=>whnf
  cases h
  refine ⟨rfl,?_⟩
  exact Wk.mk2 [0,1,2,3,4,5,6,7,8,9] 11 rfl rfl (by decide) rfl ⟨⟨rfl,(by first | rfl | (simp only [↓hb8,↓hb49,↓hb50,bl,List.length_set]; done) | (simp only [↓hb8,↓hb49,↓hb50,bl,List.length_set]; rfl))⟩,daS_d rfl,rr,rr,rr,rr,⟨rfl,(by first | rfl | (simp only [↓hb8,↓hb49,↓hb50,bl,List.length_set]; done) | (simp only [↓hb8,↓hb49,↓hb50,bl,List.length_set]; rfl))⟩,⟨rfl,(by first | rfl | (simp only [↓hb8,↓hb49,↓hb50,bl,List.length_set]; done) | (simp only [↓hb8,↓hb49,↓hb50,bl,List.length_set]; rfl))⟩,daS_d rfl,⟨rfl,(by first | rfl | (simp only [↓hb8,↓hb49,↓hb50,bl,List.length_set]; done) | (simp only [↓hb8,↓hb49,↓hb50,bl,List.length_set]; rfl))⟩,trivial⟩ trivial
 clear hv92
 rcases q_93 with _ | (⟨l_89,l_90⟩ | e_q_93)
 ·dsimp only at h
  conv=>whnf
  refine endH ?_
  conv=>whnf
  cases h
  exact ⟨_,rfl,rfl,rfl⟩
 ·dsimp only at h
  conv=>whnf
  refine sg ?_
  conv=>whnf
  obtain ⟨x_91,hx_91,h⟩:=bS h
  refine ixS_of hx_91 (by first | rfl | simp) ?_
  conv=>whnf
  refine elP_of hx_91 ?_
  conv=>whnf
  refine lvS_mk (es':=List.map .d (List.map eB (List.set l_89 (Int.toNat best_18) false))) (by simp only [Nat.zero_add,List.map_set]; first | done | rfl) ?_
  conv=>whnf
  refine sg ?_
  conv=>whnf
  refine orB_l ?_
  conv=>whnf
  refine Tr.ret ?_
  conv=>whnf
  refine endH ?_
  conv=>whnf
  refine frE_of (f:=eTPlan0) (l:=l_90) rfl ?_
  conv=>whnf
  cases h
  exact ⟨[.var [.sl 1 1 0 (List.length (List.set l_89 (Int.toNat best_18) false))],.arr 1 (List.map .d (List.map eB (List.set l_89 (Int.toNat best_18) false))),.var [.fn 49 [.pt 0 0,.pt 2 0]]],rfl,(by first | rfl | (simp only [List.length_set]; rfl) | simp [List.length_set]),⟨rfl,⟨_,rfl⟩,rfl,trivial⟩,_,_,rfl,rfl,rfl⟩
 exact e_q_93.elim
theorem P243 (n:Nat):∀ (q_1:TQuestion) (left_2:Int) (l_3:List Bool) (q:Option (TPlan × List Bool)),M243 n q_1 left_2 l_3=some q→MCP prog 49 [.d (eTQuestion q_1),(dI left_2),.pt 0 0,.pt 2 0] [.var [.sl 1 1 0 (List.length l_3)],.arr 1 (List.map .d (List.map eB l_3)),.var [.fn 49 [.pt 0 0,.pt 2 0]]] (fun rs Bs=>∃ r_4:TPlan,∃ l_5:List Bool,q=some (r_4,l_5)∧rs=[(eTPlan r_4)]∧Bs=[.var [.sl 1 1 0 (List.length l_5)],.arr 1 (List.map .d (List.map eB l_5)),.var [.fn 49 [.pt 0 0,.pt 2 0]]]) (fun pv=>pv=(.iface 38 (.int .i64 361))∧q=none):=by
 induction n with
 | zero =>
  intros
  rename_i h
  cases h
 | succ n ih=>exact P242 (M243 n) ih
theorem dr_looks_Greedy (H:Hp):DefR prog 48 [1,2] H:=by
 refine DefR.of_tr (cx:=⟨9,none,lay,H.length⟩) layOK rfl func48 rfl rfl rfl (by decide) 3 2 rfl rfl rfl rfl rfl rfl rfl rfl rfl ?_
 conv=>whnf
 refine TrE.seq ?_
 refine TrE.regionP layOK ?_
 conv=>whnf
 refine .inl ?_
 conv=>whnf
 refine .inr ⟨rfl,rfl,by kernel_rfl,.inr ⟨rfl,?_⟩⟩
 conv=>whnf
 refine TrE.cond ?_
 conv=>whnf
 refine TrE.skip ?_
 conv=>whnf
theorem P244 (q_1:TQuestion) (r_2:TPlan) (r_3:Int) (h:M244 q_1=some (r_2,r_3)) :
    PC prog 25 [(eTQuestion q_1)] (fun rs=>rs=[(eTPlan r_2),(.i .i64 r_3)]):=by
 refine PC.of_trF (cx:=⟨22,none,lay,0⟩) layOK func25 rfl rfl rfl rfl rfl (by simp [f25]) ?_
 unfold M244 at h
 refine TrF.seq layOK ?_
 refine TrE.region layOK ?_
 conv=>whnf
 refine TrF.seq layOK ?_
 refine TrE.seq ?_
 refine TrE.region layOK ?_
 conv=>whnf
 obtain ⟨r_4,hc5,h⟩:=bS h
 refine PC.ecall (P221 q_1 r_4 hc5) (fun rs hrs=>?_)
 subst hrs
 conv=>whnf
 refine TrE.seq ?_
 refine TrE.region layOK ?_
 conv=>whnf
 refine TrE.cond ?_
 conv=>whnf
 refine cB h (fun hb6 h=>?_) (fun hb6 h=>?_)
 ·refine TrE.seq ?_
  refine TrE.region layOK ?_
  conv=>whnf
  refine orB_l ?_
  conv=>whnf
  refine TrE.ret ?_
  conv=>whnf
  cases h
  rfl
 refine TrE.skip ?_
 conv=>whnf
 refine TrF.defer layOK rfl 48 [1,2] 13 rfl rfl rfl ?_ rfl rfl rfl ⟨_,_,func48,rfl,rfl⟩ (fun I=>?_)
 ·conv=>whnf
  exact ⟨rfl,rfl⟩
 conv=>whnf
 refine Tr.seq ?_
 refine Tr.region layOK ?_
 conv=>whnf
 refine lnS_map ?_
 conv=>whnf
 obtain ⟨n_7,hn_7,h⟩:=bS h
 refine msS_of hn_7 rfl ?_
 conv=>whnf
 refine rS (es':=List.map .d (List.map eB (List.replicate n_7 false))) (n':=List.length ((List.replicate n_7 false):List Bool)) (by simp only [List.map_replicate]; first | done | rfl) (by simp) ?_
 conv=>whnf
 refine orB_l ?_
 conv=>whnf
 refine Tr.seq ?_
 refine Tr.region layOK ?_
 conv=>whnf
 refine Tr.seq ?_
 refine Tr.region layOK ?_
 conv=>whnf
 refine orB_l ?_
 conv=>whnf
 refine Tr.seq ?_
 refine Tr.regionP layOK ?_
 conv=>whnf
 refine .inl ?_
 conv=>whnf
 refine .inl ?_
 conv=>whnf
 obtain ⟨q_10,hc11,h⟩:=bS h
 refine .inr ?_
 conv=>whnf
 refine MCP.ecall (P243 1000 q_1 6 (List.replicate n_7 false) q_10 hc11) [4,3,5] (by decide) rfl rfl ?_ (fun rs Bs1 hrs=>?_) (fun pv hpv=>?_)
 · exact ⟨⟨rfl,rfl⟩,⟨⟨_,rfl⟩,rfl⟩,⟨rfl,rfl⟩,trivial⟩
 rotate_left
 ·obtain ⟨rfl,rfl⟩:=hpv
  rw [onP_none] at h
  conv=>whnf
  refine ⟨_,rfl,?_⟩
  refine DefP.of_tr (cx:=⟨9,none,lay,6⟩) layOK rfl func48 rfl rfl rfl (by decide) 3 2 rfl rfl rfl rfl rfl rfl rfl rfl rfl ?_
  conv=>whnf
  refine TrE.seq ?_
  refine TrE.regionP layOK ?_
  conv=>whnf
  refine .inl ?_
  conv=>whnf
  refine .inr ⟨rfl,rfl,by kernel_rfl,.inl ⟨_,_,rfl,?_⟩⟩
  conv=>whnf
  refine TrE.cond ?_
  conv=>whnf
  refine TrE.draw layOK mixed [(3,1),(4,2)] [(0,1),(1,1),(2,1),(3,0),(4,0)] (by kernel_rfl) ?_
  conv=>whnf
  refine q1 ?_
  conv=>whnf
  refine q1 ?_
  conv=>whnf
  refine ⟨_,(fun _=>by (conv=>whnf); (refine ⟨_,(dI 361),rfl,by kernel_rfl,rfl,?_⟩); (conv=>whnf); (exact rr)),?_⟩
  conv=>whnf
  refine ⟨_,_,(by (conv=>whnf); (refine orB_l ?_); (conv=>whnf); (exact rr)),kp_ok (by repeat (first | exact trivial | refine ⟨trivial,?_⟩ | refine ⟨rfl,?_⟩)),?_⟩
  conv=>whnf
  refine ⟨_,_,rr,kp_ok (by repeat (first | exact trivial | refine ⟨trivial,?_⟩ | refine ⟨rfl,?_⟩)),?_⟩
  conv=>whnf
  cases h
  rfl
 obtain ⟨r_8,l_9,rfl,rfl,rfl⟩:=hrs
 rw [onP_some] at h
 conv=>whnf
 obtain ⟨_,hl12,h⟩:=bS h
 refine .inl ?_
 conv=>whnf
 refine .inl ?_
 conv=>whnf
 refine Tr.ret ?_
 conv=>whnf
 refine ⟨dr_looks_Greedy _,?_⟩
 conv=>whnf
 cases h
 rfl
theorem P245 (q_1:TQuestion) (r_2:Bool) (h:M245 q_1=some r_2) :
    PC prog 9 [(eTQuestion q_1)] (fun rs=>rs=[(.b r_2)]):=by
 refine PC.of_tr (cx:=⟨53,none,lay,0⟩) layOK func9 rfl rfl rfl rfl rfl (by simp [f9]) ?_
 unfold M245 at h
 refine sg ?_
 conv=>whnf
 refine Tr.seq ?_
 refine sg ?_
 conv=>whnf
 obtain ⟨r_3,hc4,h⟩:=bS h
 refine PC.ecall (P131 r_3 hc4) (fun rs hrs=>?_)
 subst hrs
 conv=>whnf
 refine Tr.cond ?_
 conv=>whnf
 refine cB h (fun hb5 h=>?_) (fun hb5 h=>?_)
 ·refine sg ?_
  conv=>whnf
  refine Tr.ret ?_
  conv=>whnf
  cases h
  rfl
 refine Tr.skip ?_
 conv=>whnf
 refine Tr.seq ?_
 refine sg ?_
 conv=>whnf
 obtain ⟨r_6,hc7,h⟩:=bS h
 refine PC.ecall_lend ?_ ⟨_,_,func12,rfl,rfl⟩
 conv=>whnf
 refine ⟨_,P144 q_1 (({ Look:=0,After:=(([]:List TPlan0)) }:TPlan)) r_6 hc7,fun rs hrs=>?_⟩
 subst hrs
 refine ⟨rfl,?_⟩
 conv=>whnf
 refine cB h (fun hb8 h=>?_) (fun hb8 h=>?_)
 ·conv=>whnf
  refine Tr.cond ?_
  conv=>whnf
  refine sg ?_
  conv=>whnf
  refine Tr.ret ?_
  conv=>whnf
  cases h
  rfl
 conv=>whnf
 obtain ⟨r_9,hc10,h⟩:=bS h
 refine PC.ecall (P221 q_1 r_9 hc10) (fun rs hrs=>?_)
 subst hrs
 conv=>whnf
 refine Tr.cond ?_
 conv=>whnf
 refine cB h (fun hb11 h=>?_) (fun hb11 h=>?_)
 ·refine sg ?_
  conv=>whnf
  refine Tr.ret ?_
  conv=>whnf
  cases h
  rfl
 refine Tr.skip ?_
 conv=>whnf
 refine sg ?_
 conv=>whnf
 obtain ⟨⟨r_12,r_13⟩,hc14,h⟩:=bS h
 refine PC.ecall (P244 q_1 r_12 r_13 hc14) (fun rs hrs=>?_)
 subst hrs
 conv=>whnf
 refine Tr.seq ?_
 refine sg ?_
 conv=>whnf
 refine Tr.cond ?_
 conv=>whnf
 refine cB h (fun hb15 h=>?_) (fun hb15 h=>?_)
 ·refine sg ?_
  conv=>whnf
  refine Tr.ret ?_
  conv=>whnf
  cases h
  rfl
 refine Tr.skip ?_
 conv=>whnf
 refine sg ?_
 conv=>whnf
 obtain ⟨r_16,hc17,h⟩:=bS h
 refine PC.ecall (P125 1000 r_12 r_16 hc17) (fun rs hrs=>?_)
 subst hrs
 conv=>whnf
 refine Tr.seq ?_
 refine sg ?_
 conv=>whnf
 obtain ⟨r_18,hc19,h⟩:=bS h
 refine PC.ecall (P130 q_1 r_12 r_18 hc19) (fun rs hrs=>?_)
 subst hrs
 conv=>whnf
 refine cB h (fun hb20 h=>?_) (fun hb20 h=>?_)
 ·conv=>whnf
  refine Tr.cond ?_
  conv=>whnf
  refine sg ?_
  conv=>whnf
  refine Tr.ret ?_
  conv=>whnf
  cases h
  rfl
 conv=>whnf
 refine Tr.cond ?_
 conv=>whnf
 refine cB h (fun hb21 h=>?_) (fun hb21 h=>?_)
 ·refine sg ?_
  conv=>whnf
  refine Tr.ret ?_
  conv=>whnf
  cases h
  rfl
 refine Tr.skip ?_
 conv=>whnf
 refine sg ?_
 conv=>whnf
 obtain ⟨⟨r_22,r_23⟩,hc24,h⟩:=bS h
 refine PC.ecall (P122 q_1 r_16 200 r_22 r_23 hc24) (fun rs hrs=>?_)
 subst hrs
 conv=>whnf
 refine sg ?_
 conv=>whnf
 refine cB h (fun hb25 h=>?_) (fun hb25 h=>?_)
 ·conv=>whnf
  refine cB h (fun hb26 h=>?_) (fun hb26 h=>?_)
  ·conv=>whnf
   refine Tr.ret ?_
   conv=>whnf
   cases h
   rfl
  conv=>whnf
  refine Tr.ret ?_
  conv=>whnf
  cases h
  rfl
 conv=>whnf
 refine Tr.ret ?_
 conv=>whnf
 cases h
 rfl
end Go.Proofs.Try
