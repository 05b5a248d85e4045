/- Contracts of functions, by program (gen.py). No condition. -/
import Derived.Test.YtcmhnjhpnijpbaaZL
import Derived.Test.YtcmhnjhpnijpbaaZM
import Derived.Test.YtcmhnjhpnijpbaaZCB
import Derived.Test.YtcmhnjhpnijpbaaZS4
namespace Go.Proofs.Try
open Go Go.Abs Go.Stop
set_option maxRecDepth 8000
set_option linter.unusedVariables false
set_option linter.unusedSimpArgs false
theorem P124 (rc_9059:TPlan→Option (Int)) (ih_9059:∀ (p_1:TPlan) (r_2:Int),rc_9059 p_1=some r_2→PC prog 17 [(eTPlan p_1)] (fun rs=>rs=[(.i .i64 r_2)])) (p_1:TPlan) (r_2:Int) (h:M124 rc_9059 p_1=some r_2) :
    PC prog 17 [(eTPlan p_1)] (fun rs=>rs=[(.i .i64 r_2)]):=by
 refine PC.of_tr (cx:=⟨22,none,lay,0⟩) layOK func17 rfl rfl rfl rfl rfl (by simp [f17]) ?_
 unfold M124 at h
 refine sg ?_
 conv=>whnf
 refine Tr.seq ?_
 refine sg ?_
 conv=>whnf
 refine Tr.cond ?_
 conv=>whnf
 refine cB h (fun hb3 h=>?_) (fun hb3 h=>?_)
 ·refine sg ?_
  conv=>whnf
  refine Tr.ret ?_
  conv=>whnf
  cases h
  rfl
 refine Tr.skip ?_
 conv=>whnf
 refine Tr.seq ?_
 refine sg ?_
 conv=>whnf
 refine lnS_map ?_
 conv=>whnf
 obtain ⟨n_9,hv17,h⟩:=bS h
 refine Tr.cutQ1 ([(2,(dI n_9))]) ([]) ?_ (fun T1 H1 hw=>?_)
 ·replace h:=hv17; clear hv17
  refine Tr.block ?_
  refine Tr.loopM (σ:=Int × Int) (fun n s=>M123 p_1 rc_9059 n s.1 s.2) n_9 (fun s=>([(2,(dI s.1)),(9,.d (.ls (List.map eTPlan0 p_1.After))),(10,(dI (((p_1.After).length:Int)))),(11,(dI s.2))],[])) (((((p_1.After).length:Int)) - 0:Int).toNat+1) (0,0) h (fun s=>rfl) (Wk.mk2 [] 1 rfl rfl (by decide) rfl trivial ⟨rr,rr,rr,rr,trivial⟩) ?_
  clear h
  rintro n_8 ⟨n_6,v_7⟩ h
  replace h:M123 p_1 rc_9059 (n_8+1) n_6 v_7=some n_9:=h
  rw [M123] at h
  refine sg ?_
  conv=>whnf
  refine Tr.seq ?_
  refine Tr.cond ?_
  conv=>whnf
  refine cB h (fun hb12 h=>?_) (fun hb12 h=>?_)
  ·refine Tr.skip ?_
   conv=>whnf
   refine Tr.seq ?_
   refine Tr.block ?_
   refine sg ?_
   conv=>whnf
   obtain ⟨x_13,hx_13,h⟩:=bS h
   obtain ⟨p_14,hp_14,h⟩:=bS h
   rw [uTPlan_eq hp_14] at hx_13
   refine ixP_of hx_13 ?_
   conv=>whnf
   refine rg ?_
   conv=>whnf
   obtain ⟨r_15,hc16,h⟩:=bS h
   refine PC.ecall (ih_9059 p_14 r_15 hc16) (fun rs hrs=>?_)
   subst hrs
   conv=>whnf
   refine rg ?_
   conv=>whnf
   refine arS_raw ?_
   conv=>whnf
   refine ⟨((maxG n_6 r_15),(w64 (v_7+1))),h,?_⟩
   exact Wk.mk2 [] 1 rfl rfl (by decide) rfl trivial ⟨rr,rr,rr,rr,trivial⟩
  refine Tr.exit ?_
  conv=>whnf
  cases h
  exact Wk.mk2 [] 0 rfl rfl (by decide) rfl trivial ⟨rr,trivial⟩
 clear hv17
 conv=>whnf
 refine Tr.weak hw ?_
 refine sg ?_
 conv=>whnf
 refine arS_raw ?_
 conv=>whnf
 refine Tr.ret ?_
 conv=>whnf
 cases h
 rfl
theorem P125 (n:Nat):∀ (p_1:TPlan) (r_2:Int),M125 n p_1=some r_2→PC prog 17 [(eTPlan p_1)] (fun rs=>rs=[(.i .i64 r_2)]):=by
 induction n with
 | zero =>
  intros
  rename_i h
  cases h
 | succ n ih=>exact P124 (M125 n) ih
theorem P128 (rc_9060:Tadvice_state→TPlan→(List TSegment)→(List (List Int))→(List TPair)→(List TRunner)→Int→(List TLook)→Option (Bool)) (ih_9060:∀ (s_1:Tadvice_state) (p_2:TPlan) (v_3:List TSegment) (v_4:List (List Int)) (v_5:List TPair) (v_6:List TRunner) (v_7:Int) (v_8:List TLook) (r_9:Bool),rc_9060 s_1 p_2 v_3 v_4 v_5 v_6 v_7 v_8=some r_9→MC prog 31 [.d (eTadvice_state s_1),.d (eTPlan p_2),.pt 0 0,.pt 1 0] [.var [.d (.ls (List.map eTSegment v_3)),.d (.ls (List.map (eL eI) v_4)),.d (.ls (List.map eTPair v_5)),.d (.ls (List.map eTRunner v_6)),(dI v_7),.d (.ls (List.map eTLook v_8))],.var [.fn 31 [.pt 0 0,.pt 1 0]]] (fun rs Bs=>rs=[(.b r_9)]∧Bs=[.var [.d (.ls (List.map eTSegment v_3)),.d (.ls (List.map (eL eI) v_4)),.d (.ls (List.map eTPair v_5)),.d (.ls (List.map eTRunner v_6)),(dI v_7),.d (.ls (List.map eTLook v_8))],.var [.fn 31 [.pt 0 0,.pt 1 0]]])) (s_1:Tadvice_state) (p_2:TPlan) (v_3:List TSegment) (v_4:List (List Int)) (v_5:List TPair) (v_6:List TRunner) (v_7:Int) (v_8:List TLook) (r_9:Bool) (h:M128 rc_9060 s_1 p_2 v_3 v_4 v_5 v_6 v_7 v_8=some r_9) :
    MC prog 31 [.d (eTadvice_state s_1),.d (eTPlan p_2),.pt 0 0,.pt 1 0] [.var [.d (.ls (List.map eTSegment v_3)),.d (.ls (List.map (eL eI) v_4)),.d (.ls (List.map eTPair v_5)),.d (.ls (List.map eTRunner v_6)),(dI v_7),.d (.ls (List.map eTLook v_8))],.var [.fn 31 [.pt 0 0,.pt 1 0]]] (fun rs Bs=>rs=[(.b r_9)]∧Bs=[.var [.d (.ls (List.map eTSegment v_3)),.d (.ls (List.map (eL eI) v_4)),.d (.ls (List.map eTPair v_5)),.d (.ls (List.map eTRunner v_6)),(dI v_7),.d (.ls (List.map eTLook v_8))],.var [.fn 31 [.pt 0 0,.pt 1 0]]]):=by
 refine MC.of_tr (cx:=⟨95,none,lay,2⟩) layOK func31 rfl rfl rfl rfl rfl (by simp [f31]) ?_
 refine Tr.unW ?_
 unfold M128 at h
 refine sg ?_
 conv=>whnf
 refine Tr.seq ?_
 refine sg ?_
 conv=>whnf
 refine Tr.cond ?_
 conv=>whnf
 refine cB h (fun hb10 h=>?_) (fun hb10 h=>?_)
 ·refine sg ?_
  conv=>whnf
  refine lnS_map ?_
  conv=>whnf
  refine cB h (fun hb11 h=>?_) (fun hb11 h=>?_)
  ·conv=>whnf
   obtain ⟨r_12,hc13,h⟩:=bS h
   refine PC.ecall (P110 s_1 r_12 hc13) (fun rs hrs=>?_)
   subst hrs
   conv=>whnf
   refine Tr.ret ?_
   conv=>whnf
   refine endH ?_
   conv=>whnf
   cases h
   exact endB rfl rfl rfl ⟨rfl,rfl,trivial⟩
  conv=>whnf
  refine Tr.ret ?_
  conv=>whnf
  refine endH ?_
  conv=>whnf
  cases h
  exact endB rfl rfl rfl ⟨rfl,rfl,trivial⟩
 refine Tr.skip ?_
 conv=>whnf
 refine Tr.seq ?_
 refine Tr.seq ?_
 obtain ⟨v_14,hv15,h⟩:=bS h
 refine Tr.cutQ1 ([(3,.pt 1 0),(4,.pt 2 0),(5,.pt 3 0),(6,.d (.b false)),(54,.d (.b v_14))]) ([some (.var [.d (.ls (List.map eTSegment v_3)),.d (.ls (List.map (eL eI) v_4)),.d (.ls (List.map eTPair v_5)),.d (.ls (List.map eTRunner v_6)),(dI v_7),.d (.ls (List.map eTLook v_8))]),some (.var [.fn 31 [.pt 0 0,.pt 1 0]]),some (.var [.d (.ls (List.map eTSegment s_1.q.Field.Clocks.Segments)),.d (.ls (List.map (eL eI) s_1.q.Field.Clocks.Far)),.d (.ls (List.map eTPair s_1.q.Field.Pairs)),.d (.ls (List.map eTRunner s_1.q.Field.Runners)),(dI s_1.q.Runner),.d (.ls (List.map eTLook s_1.q.Looks)),.d (.ls (List.map eB s_1.used))]),some (.var [(dI p_2.Look),.d (.ls (List.map eTPlan0 p_2.After))])]) ?_ (fun T1 H1 hw=>?_)
 ·replace h:=hv15; clear hv15
  refine dq [] [(0,6),(1,6),(2,1),(3,1),(4,6),(5,6),(6,3),(7,3),(8,2),(9,1),(10,1),(11,1),(12,5),(13,5),(14,6),(15,6),(16,2),(17,2),(18,1),(19,1),(20,6),(21,6),(22,2),(23,3),(24,3),(25,6),(26,6),(27,2),(28,2),(29,2),(30,2),(31,1),(32,1)] ?_
  conv=>whnf
  refine q2 ?_
  conv=>whnf
  refine q2 ?_
  conv=>whnf
  refine q1 ?_
  conv=>whnf
  refine q1 ?_
  conv=>whnf
  refine cB h (fun hb16 h=>?_) (fun hb16 h=>?_)
  ·conv=>whnf
   refine q1 ?_
   conv=>whnf
   refine q1 ?_
   conv=>whnf
   refine q1 ?_
   conv=>whnf
   refine q1 ?_
   conv=>whnf
   refine q1 ?_
   conv=>whnf
   cases h
   exact Wk.mk2 [0,1,2,3] 4 rfl rfl (by decide) rfl ⟨rr,rr,rr,rr,trivial⟩ ⟨rr,rr,rr,rr,rr,trivial⟩
  conv=>whnf
  refine q2 ?_
  conv=>whnf
  refine q2 ?_
  conv=>whnf
  refine q2 ?_
  conv=>whnf
  refine q2 ?_
  conv=>whnf
  refine q3 (lnS_map rr) ?_
  conv=>whnf
  refine q1 ?_
  conv=>whnf
  refine q1 ?_
  conv=>whnf
  refine q1 ?_
  conv=>whnf
  refine cB h (fun hb17 h=>?_) (fun hb17 h=>?_)
  ·conv=>whnf
   refine q1 ?_
   conv=>whnf
   refine q1 ?_
   conv=>whnf
   refine q1 ?_
   conv=>whnf
   cases h
   exact Wk.mk2 [0,1,2,3] 4 rfl rfl (by decide) rfl ⟨rr,rr,rr,rr,trivial⟩ ⟨rr,rr,rr,rr,rr,trivial⟩
  conv=>whnf
  refine q2 ?_
  conv=>whnf
  refine q2 ?_
  conv=>whnf
  refine q2 ?_
  conv=>whnf
  refine q2 ?_
  conv=>whnf
  obtain ⟨x_18,hx_18,h⟩:=bS h
  refine q3 (ixP_of hx_18 rr) ?_
  conv=>whnf
  refine q2 ?_
  conv=>whnf
  refine q1 ?_
  conv=>whnf
  refine q1 ?_
  conv=>whnf
  refine cB h (fun hb19 h=>?_) (fun hb19 h=>?_)
  ·conv=>whnf
   refine q1 ?_
   conv=>whnf
   cases h
   exact Wk.mk2 [0,1,2,3] 4 rfl rfl (by decide) rfl ⟨rr,rr,rr,rr,trivial⟩ ⟨rr,rr,rr,rr,rr,trivial⟩
  conv=>whnf
  refine q2 ?_
  conv=>whnf
  refine q2 ?_
  conv=>whnf
  refine q3 (lnS_map rr) ?_
  conv=>whnf
  refine q2 ?_
  conv=>whnf
  refine q2 ?_
  conv=>whnf
  refine q2 ?_
  conv=>whnf
  refine q2 ?_
  conv=>whnf
  obtain ⟨x_20,hx_20,h⟩:=bS h
  refine q3 (ixP_of hx_20 rr) ?_
  conv=>whnf
  refine q2 ?_
  conv=>whnf
  refine q2 ?_
  conv=>whnf
  refine q3 (lnS_map rr) ?_
  conv=>whnf
  refine q1 ?_
  conv=>whnf
  refine q1 ?_
  conv=>whnf
  cases h
  exact Wk.mk2 [0,1,2,3] 4 rfl rfl (by decide) rfl ⟨rr,rr,rr,rr,trivial⟩ ⟨rr,rr,rr,rr,rr,trivial⟩
 clear hv15
 conv=>whnf
 refine Tr.weak hw ?_
 refine Tr.cond ?_
 conv=>whnf
 refine cB h (fun hb21 h=>?_) (fun hb21 h=>?_)
 ·refine sg ?_
  conv=>whnf
  refine Tr.ret ?_
  conv=>whnf
  refine endH ?_
  conv=>whnf
  cases h
  exact endB rfl rfl rfl ⟨rfl,rfl,trivial⟩
 refine Tr.skip ?_
 conv=>whnf
 refine Tr.seq ?_
 refine sg ?_
 conv=>whnf
 refine lnS_map ?_
 conv=>whnf
 refine Tr.cutQ (α:=Unit) (fun s=>([(6,.d (.b false))],[some (.var [.d (.ls (List.map eTSegment v_3)),.d (.ls (List.map (eL eI) v_4)),.d (.ls (List.map eTPair v_5)),.d (.ls (List.map eTRunner v_6)),(dI v_7),.d (.ls (List.map eTLook v_8))]),some (.var [.fn 31 [.pt 0 0,.pt 1 0]])])) (fun s=>M127 s=some r_9) ?_ ?_
 ·refine Tr.block ?_
  refine Tr.loopM (σ:=Int) (fun n s=>M126 s_1 p_2 v_3 v_4 v_5 v_6 v_7 v_8 rc_9060 M127 n s) r_9 (fun s=>([(3,.pt 1 0),(4,.pt 2 0),(5,.pt 3 0),(6,.d (.b false)),(56,.d (.ls (List.map eTPlan0 p_2.After))),(57,(dI (((p_2.After).length:Int)))),(58,(dI s))],[some (.var [.d (.ls (List.map eTSegment v_3)),.d (.ls (List.map (eL eI) v_4)),.d (.ls (List.map eTPair v_5)),.d (.ls (List.map eTRunner v_6)),(dI v_7),.d (.ls (List.map eTLook v_8))]),some (.var [.fn 31 [.pt 0 0,.pt 1 0]]),some (.var [.d (.ls (List.map eTSegment s_1.q.Field.Clocks.Segments)),.d (.ls (List.map (eL eI) s_1.q.Field.Clocks.Far)),.d (.ls (List.map eTPair s_1.q.Field.Pairs)),.d (.ls (List.map eTRunner s_1.q.Field.Runners)),(dI s_1.q.Runner),.d (.ls (List.map eTLook s_1.q.Looks)),.d (.ls (List.map eB s_1.used))]),some (.var [(dI p_2.Look),.d (.ls (List.map eTPlan0 p_2.After))])])) (((((p_2.After).length:Int)) - 0:Int).toNat+1) (0) h (fun s=>rfl) (Wk.mk2 [0,1,2,3] 4 rfl rfl (by decide) rfl ⟨rr,rr,rr,rr,trivial⟩ ⟨rr,rr,rr,rr,rr,rr,rr,trivial⟩) ?_
  clear h
  rintro n_24 v_23 h
  replace h:M126 s_1 p_2 v_3 v_4 v_5 v_6 v_7 v_8 rc_9060 M127 (n_24+1) v_23=some r_9:=h
  rw [M126] at h
  refine sg ?_
  conv=>whnf
  refine Tr.seq ?_
  refine Tr.cond ?_
  conv=>whnf
  refine cB h (fun hb27 h=>?_) (fun hb27 h=>?_)
  ·refine Tr.skip ?_
   conv=>whnf
   refine Tr.seq ?_
   refine Tr.block ?_
   refine sg ?_
   conv=>whnf
   obtain ⟨x_28,hx_28,h⟩:=bS h
   obtain ⟨p_29,hp_29,h⟩:=bS h
   rw [uTPlan_eq hp_29] at hx_28
   refine ixP_of hx_28 ?_
   conv=>whnf
   refine sg ?_
   conv=>whnf
   obtain ⟨⟨r_30,r_31⟩,hc32,h⟩:=bS h
   refine PC.ecall (P115 s_1 p_2.Look v_23 r_30 r_31 hc32) (fun rs hrs=>?_)
   subst hrs
   conv=>whnf
   refine Tr.seq ?_
   obtain ⟨v_33,hv34,h⟩:=bS h
   refine Tr.cutQ1 ([(3,.pt 1 0),(4,.pt 2 0),(5,.pt 3 0),(6,.d (.b false)),(56,.d (.ls (List.map eTPlan0 p_2.After))),(57,(dI (((p_2.After).length:Int)))),(58,(dI v_23)),(93,.d (.b v_33))]) ([some (.var [.d (.ls (List.map eTSegment v_3)),.d (.ls (List.map (eL eI) v_4)),.d (.ls (List.map eTPair v_5)),.d (.ls (List.map eTRunner v_6)),(dI v_7),.d (.ls (List.map eTLook v_8))]),some (.var [.fn 31 [.pt 0 0,.pt 1 0]]),some (.var [.d (.ls (List.map eTSegment s_1.q.Field.Clocks.Segments)),.d (.ls (List.map (eL eI) s_1.q.Field.Clocks.Far)),.d (.ls (List.map eTPair s_1.q.Field.Pairs)),.d (.ls (List.map eTRunner s_1.q.Field.Runners)),(dI s_1.q.Runner),.d (.ls (List.map eTLook s_1.q.Looks)),.d (.ls (List.map eB s_1.used))]),some (.var [(dI p_2.Look),.d (.ls (List.map eTPlan0 p_2.After))])]) ?_ (fun T1 H1 hw=>?_)
   ·replace h:=hv34; clear hv34
    refine rg ?_
    conv=>whnf
    refine cB h (fun hb35 h=>?_) (fun hb35 h=>?_)
    ·conv=>whnf
     refine cB h (fun hb36 h=>?_) (fun hb36 h=>?_)
     ·conv=>whnf
      cases h
      exact Wk.mk2 [0,1,2,3] 6 rfl rfl (by decide) rfl ⟨rr,rr,rr,rr,trivial⟩ ⟨rr,rr,rr,rr,rr,rr,rr,rr,trivial⟩
     conv=>whnf
     refine lnS_map ?_
     conv=>whnf
     refine cB h (fun hb37 h=>?_) (fun hb37 h=>?_)
     ·conv=>whnf
      cases h
      exact Wk.mk2 [0,1,2,3] 6 rfl rfl (by decide) rfl ⟨rr,rr,rr,rr,trivial⟩ ⟨rr,rr,rr,rr,rr,rr,rr,rr,trivial⟩
     conv=>whnf
     refine condS_kf (by simpa using hb35) ?_
     conv=>whnf
     cases h
     exact Wk.mk2 [0,1,2,3] 6 rfl rfl (by decide) rfl ⟨rr,rr,rr,rr,trivial⟩ ⟨rr,rr,rr,rr,rr,rr,rr,rr,trivial⟩
    conv=>whnf
    refine condS_kt (by simpa using hb35) ?_
    conv=>whnf
    obtain ⟨r_38,hc39,h⟩:=bS h
    refine MC.ecall (ih_9060 r_30 p_29 v_3 v_4 v_5 v_6 v_7 v_8 r_38 hc39) [0,1] (by decide) rfl rfl ?_ (fun rs Bs1 hrs=>?_)
    · exact ⟨⟨rfl,rfl⟩,⟨rfl,rfl⟩,trivial⟩
    obtain ⟨rfl,rfl⟩:=hrs
    conv=>whnf
    cases h
    exact Wk.mk2 [0,1,2,3] 6 rfl rfl (by decide) rfl ⟨rr,rr,rr,rr,trivial⟩ ⟨rr,rr,rr,rr,rr,rr,rr,rr,trivial⟩
   clear hv34
   conv=>whnf
   refine Tr.weak hw ?_
   refine Tr.cond ?_
   conv=>whnf
   refine cB h (fun hb40 h=>?_) (fun hb40 h=>?_)
   ·refine sg ?_
    conv=>whnf
    refine Tr.ret ?_
    conv=>whnf
    refine endH ?_
    conv=>whnf
    cases h
    exact endB rfl rfl rfl ⟨rfl,rfl,trivial⟩
   refine Tr.skip ?_
   conv=>whnf
   refine rg ?_
   conv=>whnf
   refine arS_raw ?_
   conv=>whnf
   refine ⟨((w64 (v_23+1))),h,?_⟩
   exact Wk.mk2 [0,1,2,3] 4 rfl rfl (by decide) rfl ⟨rr,rr,rr,rr,trivial⟩ ⟨rr,rr,rr,rr,rr,rr,rr,trivial⟩
  refine Tr.exit ?_
  conv=>whnf
  refine ⟨(),h,?_⟩
  exact Wk.mk2 [0,1] 4 rfl rfl (by decide) rfl ⟨rr,rr,trivial⟩ ⟨rr,trivial⟩
 clear h
 rintro _ h T1 H1 hw
 replace h:M127 ()=some r_9:=h
 conv=>whnf
 refine Tr.weak hw ?_
 unfold M127 at h
 refine sg ?_
 conv=>whnf
 refine Tr.ret ?_
 conv=>whnf
 refine endH ?_
 conv=>whnf
 cases h
 exact endB rfl rfl rfl ⟨rfl,rfl,trivial⟩
theorem P129 (n:Nat):∀ (s_1:Tadvice_state) (p_2:TPlan) (v_3:List TSegment) (v_4:List (List Int)) (v_5:List TPair) (v_6:List TRunner) (v_7:Int) (v_8:List TLook) (r_9:Bool),M129 n s_1 p_2 v_3 v_4 v_5 v_6 v_7 v_8=some r_9→MC prog 31 [.d (eTadvice_state s_1),.d (eTPlan p_2),.pt 0 0,.pt 1 0] [.var [.d (.ls (List.map eTSegment v_3)),.d (.ls (List.map (eL eI) v_4)),.d (.ls (List.map eTPair v_5)),.d (.ls (List.map eTRunner v_6)),(dI v_7),.d (.ls (List.map eTLook v_8))],.var [.fn 31 [.pt 0 0,.pt 1 0]]] (fun rs Bs=>rs=[(.b r_9)]∧Bs=[.var [.d (.ls (List.map eTSegment v_3)),.d (.ls (List.map (eL eI) v_4)),.d (.ls (List.map eTPair v_5)),.d (.ls (List.map eTRunner v_6)),(dI v_7),.d (.ls (List.map eTLook v_8))],.var [.fn 31 [.pt 0 0,.pt 1 0]]]):=by
 induction n with
 | zero =>
  intros
  rename_i h
  cases h
 | succ n ih=>exact P128 (M129 n) ih
theorem P130 (q_1:TQuestion) (p_2:TPlan) (r_3:Int) (h:M130 q_1 p_2=some r_3) :
    PC prog 13 [(eTQuestion q_1),(eTPlan p_2)] (fun rs=>rs=[(.i .i64 r_3)]):=by
 refine PC.of_tr (cx:=⟨19,none,lay,0⟩) layOK func13 rfl rfl rfl rfl rfl (by simp [f13]) ?_
 unfold M130 at h
 refine sg ?_
 conv=>whnf
 refine Tr.seq ?_
 refine sg ?_
 conv=>whnf
 obtain ⟨r_4,hc5,h⟩:=bS h
 refine PC.ecall (P60 q_1 r_4 hc5) (fun rs hrs=>?_)
 subst hrs
 conv=>whnf
 refine Tr.cond ?_
 conv=>whnf
 refine cB h (fun hb6 h=>?_) (fun hb6 h=>?_)
 ·refine sg ?_
  conv=>whnf
  refine Tr.ret ?_
  conv=>whnf
  cases h
  rfl
 refine Tr.skip ?_
 conv=>whnf
 refine Tr.seq ?_
 refine sg ?_
 conv=>whnf
 obtain ⟨r_7,hc8,h⟩:=bS h
 refine PC.ecall (P125 1000 p_2 r_7 hc8) (fun rs hrs=>?_)
 subst hrs
 conv=>whnf
 refine Tr.cond ?_
 conv=>whnf
 refine cB h (fun hb9 h=>?_) (fun hb9 h=>?_)
 ·refine sg ?_
  conv=>whnf
  refine Tr.ret ?_
  conv=>whnf
  cases h
  rfl
 refine Tr.skip ?_
 conv=>whnf
 refine sg ?_
 conv=>whnf
 refine sg ?_
 conv=>whnf
 refine orB_l ?_
 conv=>whnf
 refine Tr.seq ?_
 refine sd [(4,0),(4,2)] [(0,5),(1,3),(2,1),(3,4),(4,0),(5,1)] ?_
 conv=>whnf
 refine q2 ?_
 conv=>whnf
 refine q2 ?_
 conv=>whnf
 obtain ⟨r_10,hc11,h⟩:=bS h
 refine q1 ?_ (fun _=>pe (P61 q_1 r_10 hc11) rr)
 conv=>whnf
 refine q2 ?_
 conv=>whnf
 obtain ⟨r_12,hc13,h⟩:=bS h
 refine ⟨_,_,(by (conv=>whnf); (refine MC.ecall (P129 1000 r_10 p_2 q_1.Field.Clocks.Segments q_1.Field.Clocks.Far q_1.Field.Pairs q_1.Field.Runners q_1.Runner q_1.Looks r_12 hc13) [0,2] (by decide) rfl rfl ?_ (fun rs Bs1 hrs=>?_)); (· exact ⟨⟨rfl,rfl⟩,⟨rfl,rfl⟩,trivial⟩); (obtain ⟨rfl,rfl⟩:=hrs); (conv=>whnf); (exact rr)),kp_ok (by repeat (first | exact trivial | refine ⟨trivial,?_⟩ | refine ⟨rfl,?_⟩)),?_⟩
 conv=>whnf
 refine q1 ?_
 conv=>whnf
 refine Tr.cond ?_
 conv=>whnf
 refine cB h (fun hb14 h=>?_) (fun hb14 h=>?_)
 ·refine sg ?_
  conv=>whnf
  refine Tr.ret ?_
  conv=>whnf
  cases h
  rfl
 refine Tr.skip ?_
 conv=>whnf
 refine sg ?_
 conv=>whnf
 refine Tr.ret ?_
 conv=>whnf
 cases h
 rfl
theorem P131 (r_1:Bool) (h:M131=some r_1) :
    PC prog 11 [] (fun rs=>rs=[(.b r_1)]):=by
 refine PC.of_tr (cx:=⟨115,none,lay,0⟩) layOK func11 rfl rfl rfl rfl rfl (by simp [f11]) ?_
 unfold M131 at h
 refine sg ?_
 conv=>whnf
 refine sg ?_
 conv=>whnf
 obtain ⟨r_2,hc3,h⟩:=bS h
 refine PC.ecall (P0 r_2 hc3) (fun rs hrs=>?_)
 subst hrs
 conv=>whnf
 refine orB_l ?_
 conv=>whnf
 refine sg ?_
 conv=>whnf
 refine orB_r ?_
 conv=>whnf
 refine sg ?_
 conv=>whnf
 obtain ⟨⟨r_4,r_5⟩,hc6,h⟩:=bS h
 refine PC.ecall_lend ?_ ⟨_,_,func15,rfl,rfl⟩
 conv=>whnf
 refine ⟨_,P3 (({ Look:=0,After:=(([(pTPlan ({ Look:=(-1),After:=(([]:List TPlan0)) }:TPlan)),(pTPlan ({ Look:=(-1),After:=(([]:List TPlan0)) }:TPlan))]:List TPlan0)) }:TPlan)) ((([]:List Int))) r_4 r_5 hc6,fun rs hrs=>?_⟩
 subst hrs
 refine ⟨rfl,?_⟩
 conv=>whnf
 refine sg ?_
 conv=>whnf
 refine orB_r ?_
 conv=>whnf
 obtain ⟨⟨r_7,r_8⟩,hc9,h⟩:=bS h
 refine PC.ecall_lend ?_ ⟨_,_,func15,rfl,rfl⟩
 conv=>whnf
 refine ⟨_,P3 (({ Look:=(-1),After:=(([]:List TPlan0)) }:TPlan)) ((([0]:List Int))) r_7 r_8 hc9,fun rs hrs=>?_⟩
 subst hrs
 refine ⟨rfl,?_⟩
 conv=>whnf
 refine sg ?_
 conv=>whnf
 obtain ⟨⟨r_10,r_11⟩,hc12,h⟩:=bS h
 refine PC.ecall (P122 r_2 1 100 r_10 r_11 hc12) (fun rs hrs=>?_)
 subst hrs
 conv=>whnf
 refine sg ?_
 conv=>whnf
 obtain ⟨⟨r_13,r_14⟩,hc15,h⟩:=bS h
 refine PC.ecall (P122 r_2 0 100 r_13 r_14 hc15) (fun rs hrs=>?_)
 subst hrs
 conv=>whnf
 refine sg ?_
 conv=>whnf
 obtain ⟨⟨r_16,r_17⟩,hc18,h⟩:=bS h
 refine PC.ecall (P122 r_2 7 1 r_16 r_17 hc18) (fun rs hrs=>?_)
 subst hrs
 conv=>whnf
 refine sg ?_
 conv=>whnf
 obtain ⟨⟨r_19,r_20⟩,hc21,h⟩:=bS h
 refine PC.ecall (P122 r_2 1 0 r_19 r_20 hc21) (fun rs hrs=>?_)
 subst hrs
 conv=>whnf
 refine Tr.seq ?_
 obtain ⟨one_22,hv23,h⟩:=bS h
 refine Tr.cutQ1 ([(0,.d (.b false)),(4,(dI r_4)),(5,.d (.b r_5)),(7,.d (.b r_8)),(8,.d (.b r_10)),(9,(dI r_11)),(10,.d (.b r_13)),(11,(dI r_14)),(13,(dI r_17)),(15,(dI r_20)),(16,.d (.b one_22))]) ([]) ?_ (fun T1 H1 hw=>?_)
 ·replace h:=hv23; clear hv23
  refine rg ?_
  conv=>whnf
  obtain ⟨r_24,hc25,h⟩:=bS h
  refine PC.ecall (P130 r_2 (({ Look:=0,After:=(([(pTPlan ({ Look:=(-1),After:=(([]:List TPlan0)) }:TPlan)),(pTPlan ({ Look:=(-1),After:=(([]:List TPlan0)) }:TPlan))]:List TPlan0)) }:TPlan)) r_24 hc25) (fun rs hrs=>?_)
  subst hrs
  conv=>whnf
  refine cB h (fun hb26 h=>?_) (fun hb26 h=>?_)
  ·conv=>whnf
   obtain ⟨r_27,hc28,h⟩:=bS h
   refine PC.ecall_lend ?_ ⟨_,_,func13,rfl,rfl⟩
   conv=>whnf
   refine ⟨_,P130 r_2 (({ Look:=(-1),After:=(([]:List TPlan0)) }:TPlan)) r_27 hc28,fun rs hrs=>?_⟩
   subst hrs
   refine ⟨rfl,?_⟩
   conv=>whnf
   refine cB h (fun hb29 h=>?_) (fun hb29 h=>?_)
   ·conv=>whnf
    obtain ⟨r_30,hc31,h⟩:=bS h
    refine PC.ecall_lend ?_ ⟨_,_,func13,rfl,rfl⟩
    conv=>whnf
    refine ⟨_,P130 (({ Field:=({ Clocks:=({ Segments:=(([]:List TSegment)),Far:=(([]:List (List Int))) }:TClocks),Pairs:=(([]:List TPair)),Runners:=(([]:List TRunner)) }:TField),Runner:=0,Looks:=(([]:List TLook)) }:TQuestion)) (({ Look:=(-1),After:=(([]:List TPlan0)) }:TPlan)) r_30 hc31,fun rs hrs=>?_⟩
    subst hrs
    refine ⟨rfl,?_⟩
    conv=>whnf
    refine cB h (fun hb32 h=>?_) (fun hb32 h=>?_)
    ·conv=>whnf
     obtain ⟨r_33,hc34,h⟩:=bS h
     refine PC.ecall_lend ?_ ⟨_,_,func17,rfl,rfl⟩
     conv=>whnf
     refine ⟨_,P125 1000 (({ Look:=(-1),After:=(([]:List TPlan0)) }:TPlan)) r_33 hc34,fun rs hrs=>?_⟩
     subst hrs
     refine ⟨rfl,?_⟩
     conv=>whnf
     refine cB h (fun hb35 h=>?_) (fun hb35 h=>?_)
     ·conv=>whnf
      obtain ⟨r_36,hc37,h⟩:=bS h
      refine PC.ecall (P125 1000 (({ Look:=0,After:=(([(pTPlan ({ Look:=(-1),After:=(([]:List TPlan0)) }:TPlan)),(pTPlan ({ Look:=(-1),After:=(([]:List TPlan0)) }:TPlan))]:List TPlan0)) }:TPlan)) r_36 hc37) (fun rs hrs=>?_)
      subst hrs
      conv=>whnf
      cases h
      exact Wk.mk2 [] 3 rfl rfl (by decide) rfl trivial ⟨rr,rr,rr,rr,rr,rr,rr,rr,rr,rr,rr,trivial⟩
     conv=>whnf
     cases h
     exact Wk.mk2 [] 3 rfl rfl (by decide) rfl trivial ⟨rr,rr,rr,rr,rr,rr,rr,rr,rr,rr,rr,trivial⟩
    conv=>whnf
    cases h
    exact Wk.mk2 [] 3 rfl rfl (by decide) rfl trivial ⟨rr,rr,rr,rr,rr,rr,rr,rr,rr,rr,rr,trivial⟩
   conv=>whnf
   cases h
   exact Wk.mk2 [] 3 rfl rfl (by decide) rfl trivial ⟨rr,rr,rr,rr,rr,rr,rr,rr,rr,rr,rr,trivial⟩
  conv=>whnf
  cases h
  exact Wk.mk2 [] 3 rfl rfl (by decide) rfl trivial ⟨rr,rr,rr,rr,rr,rr,rr,rr,rr,rr,rr,trivial⟩
 clear hv23
 conv=>whnf
 refine Tr.weak hw ?_
 refine Tr.seq ?_
 refine Tr.cutQ1 ([(0,.d (.b (one_22 && (r_5 && ((r_4 == 0) && ((!r_8) && (r_10 && ((r_11 == 0) && ((!r_13) && ((r_14 == 0) && ((r_17 == 1) && (r_20 == 3))))))))))))]) ([]) ?_ (fun T1 H1 hw=>?_)
 ·refine rg ?_
  conv=>whnf
  refine condS_mk (fun hb39=>?_) (fun hb39=>?_)
  ·conv=>whnf
   refine condS_mk (fun hb40=>?_) (fun hb40=>?_)
   ·conv=>whnf
    refine condS_mk (fun hb41=>?_) (fun hb41=>?_)
    ·conv=>whnf
     refine condS_mk (fun hb42=>?_) (fun hb42=>?_)
     ·conv=>whnf
      refine condS_mk (fun hb43=>?_) (fun hb43=>?_)
      ·conv=>whnf
       refine condS_mk (fun hb44=>?_) (fun hb44=>?_)
       ·conv=>whnf
        refine condS_mk (fun hb45=>?_) (fun hb45=>?_)
        ·conv=>whnf
         refine condS_mk (fun hb46=>?_) (fun hb46=>?_)
         ·conv=>whnf
          refine condS_mk (fun hb47=>?_) (fun hb47=>?_)
          ·conv=>whnf
           exact Wk.mk2 [] 0 rfl rfl (by decide) rfl trivial ⟨⟨rfl,(by first | rfl | (simp only [↓hb39,↓hb40,↓hb41,↓hb42,↓hb43,↓hb44,↓hb45,↓hb46,↓hb47,bl,List.length_set]; done) | (simp only [↓hb39,↓hb40,↓hb41,↓hb42,↓hb43,↓hb44,↓hb45,↓hb46,↓hb47,bl,List.length_set]; rfl))⟩,trivial⟩
          conv=>whnf
          exact Wk.mk2 [] 0 rfl rfl (by decide) rfl trivial ⟨⟨rfl,(by first | rfl | (simp only [↓hb39,↓hb40,↓hb41,↓hb42,↓hb43,↓hb44,↓hb45,↓hb46,↓hb47,bl,List.length_set]; done) | (simp only [↓hb39,↓hb40,↓hb41,↓hb42,↓hb43,↓hb44,↓hb45,↓hb46,↓hb47,bl,List.length_set]; rfl))⟩,trivial⟩
         conv=>whnf
         exact Wk.mk2 [] 0 rfl rfl (by decide) rfl trivial ⟨⟨rfl,(by first | rfl | (simp only [↓hb39,↓hb40,↓hb41,↓hb42,↓hb43,↓hb44,↓hb45,↓hb46,bl,List.length_set]; done) | (simp only [↓hb39,↓hb40,↓hb41,↓hb42,↓hb43,↓hb44,↓hb45,↓hb46,bl,List.length_set]; rfl))⟩,trivial⟩
        conv=>whnf
        exact Wk.mk2 [] 0 rfl rfl (by decide) rfl trivial ⟨⟨rfl,(by first | rfl | (simp only [↓hb39,↓hb40,↓hb41,↓hb42,↓hb43,↓hb44,↓hb45,bl,List.length_set]; done) | (simp only [↓hb39,↓hb40,↓hb41,↓hb42,↓hb43,↓hb44,↓hb45,bl,List.length_set]; rfl))⟩,trivial⟩
       conv=>whnf
       exact Wk.mk2 [] 0 rfl rfl (by decide) rfl trivial ⟨⟨rfl,(by first | rfl | (simp only [↓hb39,↓hb40,↓hb41,↓hb42,↓hb43,↓hb44,bl,List.length_set]; done) | (simp only [↓hb39,↓hb40,↓hb41,↓hb42,↓hb43,↓hb44,bl,List.length_set]; rfl))⟩,trivial⟩
      conv=>whnf
      exact Wk.mk2 [] 0 rfl rfl (by decide) rfl trivial ⟨⟨rfl,(by first | rfl | (simp only [↓hb39,↓hb40,↓hb41,↓hb42,↓hb43,bl,List.length_set]; done) | (simp only [↓hb39,↓hb40,↓hb41,↓hb42,↓hb43,bl,List.length_set]; rfl))⟩,trivial⟩
     conv=>whnf
     exact Wk.mk2 [] 0 rfl rfl (by decide) rfl trivial ⟨⟨rfl,(by first | rfl | (simp only [↓hb39,↓hb40,↓hb41,↓hb42,bl,List.length_set]; done) | (simp only [↓hb39,↓hb40,↓hb41,↓hb42,bl,List.length_set]; rfl))⟩,trivial⟩
    conv=>whnf
    exact Wk.mk2 [] 0 rfl rfl (by decide) rfl trivial ⟨⟨rfl,(by first | rfl | (simp only [↓hb39,↓hb40,↓hb41,bl,List.length_set]; done) | (simp only [↓hb39,↓hb40,↓hb41,bl,List.length_set]; rfl))⟩,trivial⟩
   conv=>whnf
   exact Wk.mk2 [] 0 rfl rfl (by decide) rfl trivial ⟨⟨rfl,(by first | rfl | (simp only [↓hb39,↓hb40,bl,List.length_set]; done) | (simp only [↓hb39,↓hb40,bl,List.length_set]; rfl))⟩,trivial⟩
  conv=>whnf
  exact Wk.mk2 [] 0 rfl rfl (by decide) rfl trivial ⟨⟨rfl,(by first | rfl | (simp only [↓hb39,bl,List.length_set]; done) | (simp only [↓hb39,bl,List.length_set]; rfl))⟩,trivial⟩
 conv=>whnf
 refine Tr.weak hw ?_
 refine Tr.ret ?_
 conv=>whnf
 cases h
 rfl
theorem P138 (f_1:TField) (r_2:Bool) (h:M138 f_1=some r_2) :
    PC prog 28 [(eTField f_1)] (fun rs=>rs=[(.b r_2)]):=by
 refine PC.of_tr (cx:=⟨83,none,lay,0⟩) layOK func28 rfl rfl rfl rfl rfl (by simp [f28]) ?_
 unfold M138 at h
 refine sg ?_
 conv=>whnf
 refine Tr.seq ?_
 refine sg ?_
 conv=>whnf
 refine Tr.cutQ (α:=Unit) (fun s=>([(1,.pt 0 0),(2,.d (.b false))],[some (.var [.d (.ls (List.map eTSegment f_1.Clocks.Segments)),.d (.ls (List.map (eL eI) f_1.Clocks.Far)),.d (.ls (List.map eTPair f_1.Pairs)),.d (.ls (List.map eTRunner f_1.Runners))])])) (fun s=>M137 f_1 s=some r_2) ?_ ?_
 ·refine Tr.block ?_
  refine Tr.loopM (σ:=Int) (fun n s=>M134 f_1 (M137 f_1) n s) r_2 (fun s=>([(1,.pt 0 0),(2,.d (.b false)),(3,(dI s))],[some (.var [.d (.ls (List.map eTSegment f_1.Clocks.Segments)),.d (.ls (List.map (eL eI) f_1.Clocks.Far)),.d (.ls (List.map eTPair f_1.Pairs)),.d (.ls (List.map eTRunner f_1.Runners))])])) (((((f_1.Runners).length:Int)) - 0:Int).toNat+1) (0) h (fun s=>rfl) (Wk.mk2 [0] 1 rfl rfl (by decide) rfl ⟨rr,trivial⟩ ⟨rr,rr,rr,trivial⟩) ?_
  clear h
  rintro n_5 i_4 h
  replace h:M134 f_1 (M137 f_1) (n_5+1) i_4=some r_2:=h
  rw [M134] at h
  refine Tr.seq ?_
  refine sg ?_
  conv=>whnf
  refine lnS_map ?_
  conv=>whnf
  refine Tr.cond ?_
  conv=>whnf
  refine cB h (fun hb8 h=>?_) (fun hb8 h=>?_)
  ·refine Tr.skip ?_
   conv=>whnf
   refine Tr.seq ?_
   refine Tr.block ?_
   refine sg ?_
   conv=>whnf
   obtain ⟨x_9,hx_9,h⟩:=bS h
   refine ixP_of hx_9 ?_
   conv=>whnf
   refine Tr.seq ?_
   refine sg ?_
   conv=>whnf
   refine lnS_map ?_
   conv=>whnf
   refine cB h (fun hb10 h=>?_) (fun hb10 h=>?_)
   ·conv=>whnf
    refine Tr.cond ?_
    conv=>whnf
    refine sg ?_
    conv=>whnf
    refine Tr.ret ?_
    conv=>whnf
    cases h
    rfl
   conv=>whnf
   refine lnS_map ?_
   conv=>whnf
   refine Tr.cond ?_
   conv=>whnf
   refine cB h (fun hb11 h=>?_) (fun hb11 h=>?_)
   ·refine sg ?_
    conv=>whnf
    refine Tr.ret ?_
    conv=>whnf
    cases h
    rfl
   refine Tr.skip ?_
   conv=>whnf
   refine sg ?_
   conv=>whnf
   refine Tr.cutQ (α:=Unit) (fun s=>([(1,.pt 0 0),(2,.d (.b false)),(3,(dI i_4))],[some (.var [.d (.ls (List.map eTSegment f_1.Clocks.Segments)),.d (.ls (List.map (eL eI) f_1.Clocks.Far)),.d (.ls (List.map eTPair f_1.Pairs)),.d (.ls (List.map eTRunner f_1.Runners))])])) (fun s=>M133 i_4 (M134 f_1 (M137 f_1) n_5) s=some r_2) ?_ ?_
   ·refine Tr.block ?_
    refine Tr.loopM (σ:=Int) (fun n s=>M132 x_9 (M133 i_4 (M134 f_1 (M137 f_1) n_5)) n s) r_2 (fun s=>([(1,.pt 0 0),(2,.d (.b false)),(3,(dI i_4)),(4,.pt 1 0),(5,(dI s))],[some (.var [.d (.ls (List.map eTSegment f_1.Clocks.Segments)),.d (.ls (List.map (eL eI) f_1.Clocks.Far)),.d (.ls (List.map eTPair f_1.Pairs)),.d (.ls (List.map eTRunner f_1.Runners))]),some (.var [(dI x_9.Bib),.d (.ls (List.map eI x_9.Keys)),.d (.ls (List.map (eL eTOutcome) x_9.Worlds))])])) (((((x_9.Worlds).length:Int)) - 0:Int).toNat+1) (0) h (fun s=>rfl) (Wk.mk2 [0,1] 2 rfl rfl (by decide) rfl ⟨rr,rr,trivial⟩ ⟨rr,rr,rr,rr,rr,trivial⟩) ?_
    clear h
    rintro n_14 w_13 h
    replace h:M132 x_9 (M133 i_4 (M134 f_1 (M137 f_1) n_5)) (n_14+1) w_13=some r_2:=h
    rw [M132] at h
    refine Tr.seq ?_
    refine sg ?_
    conv=>whnf
    refine lnS_map ?_
    conv=>whnf
    refine Tr.cond ?_
    conv=>whnf
    refine cB h (fun hb17 h=>?_) (fun hb17 h=>?_)
    ·refine Tr.skip ?_
     conv=>whnf
     refine Tr.seq ?_
     refine Tr.block ?_
     refine sg ?_
     conv=>whnf
     obtain ⟨x_18,hx_18,h⟩:=bS h
     refine ixP_of hx_18 ?_
     conv=>whnf
     refine lnS_map ?_
     conv=>whnf
     refine Tr.cond ?_
     conv=>whnf
     refine cB h (fun hb19 h=>?_) (fun hb19 h=>?_)
     ·refine sg ?_
      conv=>whnf
      refine Tr.ret ?_
      conv=>whnf
      cases h
      rfl
     refine Tr.skip ?_
     conv=>whnf
     refine rg ?_
     conv=>whnf
     refine arS_raw ?_
     conv=>whnf
     refine ⟨((w64 (w_13+1))),h,?_⟩
     exact Wk.mk2 [0,1] 2 rfl rfl (by decide) rfl ⟨rr,rr,trivial⟩ ⟨rr,rr,rr,rr,rr,trivial⟩
    refine Tr.exit ?_
    conv=>whnf
    refine ⟨(),h,?_⟩
    exact Wk.mk2 [0] 2 rfl rfl (by decide) rfl ⟨rr,trivial⟩ ⟨rr,rr,rr,trivial⟩
   clear h
   rintro _ h T1 H1 hw
   replace h:M133 i_4 (M134 f_1 (M137 f_1) n_5) ()=some r_2:=h
   conv=>whnf
   refine Tr.weak hw ?_
   unfold M133 at h
   refine rg ?_
   conv=>whnf
   refine arS_raw ?_
   conv=>whnf
   refine ⟨((w64 (i_4+1))),h,?_⟩
   exact Wk.mk2 [0] 1 rfl rfl (by decide) rfl ⟨rr,trivial⟩ ⟨rr,rr,rr,trivial⟩
  refine Tr.exit ?_
  conv=>whnf
  refine ⟨(),h,?_⟩
  exact Wk.mk2 [0] 1 rfl rfl (by decide) rfl ⟨rr,trivial⟩ ⟨rr,rr,trivial⟩
 clear h
 rintro _ h T1 H1 hw
 replace h:M137 f_1 ()=some r_2:=h
 conv=>whnf
 refine Tr.weak hw ?_
 unfold M137 at h
 refine Tr.seq ?_
 refine sg ?_
 conv=>whnf
 refine Tr.cutQ (α:=Unit) (fun s=>([(1,.pt 0 0),(2,.d (.b false))],[some (.var [.d (.ls (List.map eTSegment f_1.Clocks.Segments)),.d (.ls (List.map (eL eI) f_1.Clocks.Far)),.d (.ls (List.map eTPair f_1.Pairs)),.d (.ls (List.map eTRunner f_1.Runners))])])) (fun s=>M136 f_1 s=some r_2) ?_ ?_
 ·refine Tr.block ?_
  refine Tr.loopM (σ:=Int) (fun n s=>M135 f_1 (M136 f_1) n s) r_2 (fun s=>([(1,.pt 0 0),(2,.d (.b false)),(6,(dI s))],[some (.var [.d (.ls (List.map eTSegment f_1.Clocks.Segments)),.d (.ls (List.map (eL eI) f_1.Clocks.Far)),.d (.ls (List.map eTPair f_1.Pairs)),.d (.ls (List.map eTRunner f_1.Runners))])])) (((((f_1.Clocks.Far).length:Int)) - 0:Int).toNat+1) (0) h (fun s=>rfl) (Wk.mk2 [0] 1 rfl rfl (by decide) rfl ⟨rr,trivial⟩ ⟨rr,rr,rr,trivial⟩) ?_
  clear h
  rintro n_22 i_21 h
  replace h:M135 f_1 (M136 f_1) (n_22+1) i_21=some r_2:=h
  rw [M135] at h
  refine Tr.seq ?_
  refine sg ?_
  conv=>whnf
  refine lnS_map ?_
  conv=>whnf
  refine Tr.cond ?_
  conv=>whnf
  refine cB h (fun hb25 h=>?_) (fun hb25 h=>?_)
  ·refine Tr.skip ?_
   conv=>whnf
   refine Tr.seq ?_
   refine Tr.block ?_
   refine sg ?_
   conv=>whnf
   obtain ⟨x_26,hx_26,h⟩:=bS h
   refine ixP_of hx_26 ?_
   conv=>whnf
   refine lnS_map ?_
   conv=>whnf
   refine Tr.cond ?_
   conv=>whnf
   refine cB h (fun hb27 h=>?_) (fun hb27 h=>?_)
   ·refine sg ?_
    conv=>whnf
    refine Tr.ret ?_
    conv=>whnf
    cases h
    rfl
   refine Tr.skip ?_
   conv=>whnf
   refine rg ?_
   conv=>whnf
   refine arS_raw ?_
   conv=>whnf
   refine ⟨((w64 (i_21+1))),h,?_⟩
   exact Wk.mk2 [0] 1 rfl rfl (by decide) rfl ⟨rr,trivial⟩ ⟨rr,rr,rr,trivial⟩
  refine Tr.exit ?_
  conv=>whnf
  refine ⟨(),h,?_⟩
  exact Wk.mk2 [0] 1 rfl rfl (by decide) rfl ⟨rr,trivial⟩ ⟨rr,rr,trivial⟩
 clear h
 rintro _ h T1 H1 hw
 replace h:M136 f_1 ()=some r_2:=h
 conv=>whnf
 refine Tr.weak hw ?_
 unfold M136 at h
 refine Tr.seq ?_
 refine Tr.cutQ1 ([(2,.d (.b ((decide ((((f_1.Runners).length:Int))≤6)) && ((decide ((((f_1.Pairs).length:Int))≤3)) && ((decide ((((f_1.Clocks.Segments).length:Int))≤4)) && (decide ((((f_1.Clocks.Far).length:Int))≤6)))))))]) ([]) ?_ (fun T1 H1 hw=>?_)
 ·refine rg ?_
  conv=>whnf
  refine lnS_map ?_
  conv=>whnf
  refine condS_mk (fun hb29=>?_) (fun hb29=>?_)
  ·conv=>whnf
   refine lnS_map ?_
   conv=>whnf
   refine condS_mk (fun hb30=>?_) (fun hb30=>?_)
   ·conv=>whnf
    refine lnS_map ?_
    conv=>whnf
    refine condS_mk (fun hb31=>?_) (fun hb31=>?_)
    ·conv=>whnf
     refine lnS_map ?_
     conv=>whnf
     exact Wk.mk2 [] 1 rfl rfl (by decide) rfl trivial ⟨⟨rfl,(by first | rfl | (simp only [↓hb29,↓hb30,↓hb31,bl,List.length_set]; done) | (simp only [↓hb29,↓hb30,↓hb31,bl,List.length_set]; rfl))⟩,trivial⟩
    conv=>whnf
    exact Wk.mk2 [] 1 rfl rfl (by decide) rfl trivial ⟨⟨rfl,(by first | rfl | (simp only [↓hb29,↓hb30,↓hb31,bl,List.length_set]; done) | (simp only [↓hb29,↓hb30,↓hb31,bl,List.length_set]; rfl))⟩,trivial⟩
   conv=>whnf
   exact Wk.mk2 [] 1 rfl rfl (by decide) rfl trivial ⟨⟨rfl,(by first | rfl | (simp only [↓hb29,↓hb30,bl,List.length_set]; done) | (simp only [↓hb29,↓hb30,bl,List.length_set]; rfl))⟩,trivial⟩
  conv=>whnf
  exact Wk.mk2 [] 1 rfl rfl (by decide) rfl trivial ⟨⟨rfl,(by first | rfl | (simp only [↓hb29,bl,List.length_set]; done) | (simp only [↓hb29,bl,List.length_set]; rfl))⟩,trivial⟩
 conv=>whnf
 refine Tr.weak hw ?_
 refine Tr.ret ?_
 conv=>whnf
 cases h
 rfl
theorem P140 (rc_9063:TPlan→Int→Option (Int)) (ih_9063:∀ (p_1:TPlan) (depth_2:Int) (r_3:Int),rc_9063 p_1 depth_2=some r_3→PC prog 29 [(eTPlan p_1),(.i .i64 depth_2)] (fun rs=>rs=[(.i .i64 r_3)])) (p_1:TPlan) (depth_2:Int) (r_3:Int) (h:M140 rc_9063 p_1 depth_2=some r_3) :
    PC prog 29 [(eTPlan p_1),(.i .i64 depth_2)] (fun rs=>rs=[(.i .i64 r_3)]):=by
 refine PC.of_tr (cx:=⟨31,none,lay,0⟩) layOK func29 rfl rfl rfl rfl rfl (by simp [f29]) ?_
 unfold M140 at h
 refine sg ?_
 conv=>whnf
 refine Tr.seq ?_
 refine sg ?_
 conv=>whnf
 refine Tr.cond ?_
 conv=>whnf
 refine cB h (fun hb4 h=>?_) (fun hb4 h=>?_)
 ·refine sg ?_
  conv=>whnf
  refine Tr.ret ?_
  conv=>whnf
  cases h
  rfl
 refine Tr.skip ?_
 conv=>whnf
 refine sg ?_
 conv=>whnf
 refine Tr.seq ?_
 refine sg ?_
 conv=>whnf
 obtain ⟨n_10,hv19,h⟩:=bS h
 refine Tr.cutQ1 ([(4,(dI 0)),(5,(dI n_10))]) ([]) ?_ (fun T1 H1 hw=>?_)
 ·replace h:=hv19; clear hv19
  refine Tr.block ?_
  refine Tr.loopM (σ:=Int × Int) (fun n s=>M139 p_1 depth_2 rc_9063 n s.1 s.2) n_10 (fun s=>([(1,(dI depth_2)),(2,.pt 0 0),(4,(dI 0)),(5,(dI s.1)),(6,(dI s.2))],[some (.var [(dI p_1.Look),.d (.ls (List.map eTPlan0 p_1.After))])])) (((((p_1.After).length:Int)) - 0:Int).toNat+1) (1,0) h (fun s=>rfl) (Wk.mk2 [0] 1 rfl rfl (by decide) rfl ⟨rr,trivial⟩ ⟨rr,rr,rr,rr,rr,trivial⟩) ?_
  clear h
  rintro n_9 ⟨n_7,i_8⟩ h
  replace h:M139 p_1 depth_2 rc_9063 (n_9+1) n_7 i_8=some n_10:=h
  rw [M139] at h
  refine Tr.seq ?_
  refine sg ?_
  conv=>whnf
  refine lnS_map ?_
  conv=>whnf
  refine cB h (fun hb13 h=>?_) (fun hb13 h=>?_)
  ·conv=>whnf
   refine Tr.cond ?_
   conv=>whnf
   refine cB h (fun hb14 h=>?_) (fun hb14 h=>?_)
   ·refine Tr.skip ?_
    conv=>whnf
    refine Tr.seq ?_
    refine Tr.block ?_
    refine rg ?_
    conv=>whnf
    obtain ⟨x_15,hx_15,h⟩:=bS h
    obtain ⟨p_16,hp_16,h⟩:=bS h
    rw [uTPlan_eq hp_16] at hx_15
    refine ixP_of hx_15 ?_
    conv=>whnf
    refine arS_raw ?_
    conv=>whnf
    obtain ⟨r_17,hc18,h⟩:=bS h
    refine PC.ecall (ih_9063 p_16 ((w64 (depth_2+1))) r_17 hc18) (fun rs hrs=>?_)
    subst hrs
    conv=>whnf
    refine arS_raw ?_
    conv=>whnf
    refine rg ?_
    conv=>whnf
    refine arS_raw ?_
    conv=>whnf
    refine ⟨((w64 (n_7+r_17)),(w64 (i_8+1))),h,?_⟩
    exact Wk.mk2 [0] 1 rfl rfl (by decide) rfl ⟨rr,trivial⟩ ⟨rr,rr,rr,rr,rr,trivial⟩
   refine Tr.exit ?_
   conv=>whnf
   cases h
   exact Wk.mk2 [] 1 rfl rfl (by decide) rfl trivial ⟨rr,rr,trivial⟩
  conv=>whnf
  refine Tr.cond ?_
  conv=>whnf
  refine Tr.exit ?_
  conv=>whnf
  cases h
  exact Wk.mk2 [] 1 rfl rfl (by decide) rfl trivial ⟨rr,rr,trivial⟩
 clear hv19
 conv=>whnf
 refine Tr.weak hw ?_
 refine sg ?_
 conv=>whnf
 refine Tr.ret ?_
 conv=>whnf
 cases h
 rfl
theorem P141 (n:Nat):∀ (p_1:TPlan) (depth_2:Int) (r_3:Int),M141 n p_1 depth_2=some r_3→PC prog 29 [(eTPlan p_1),(.i .i64 depth_2)] (fun rs=>rs=[(.i .i64 r_3)]):=by
 induction n with
 | zero =>
  intros
  rename_i h
  cases h
 | succ n ih=>exact P140 (M141 n) ih
theorem P144 (q_1:TQuestion) (p_2:TPlan) (r_3:Bool) (h:M144 q_1 p_2=some r_3) :
    PC prog 12 [(eTQuestion q_1),(eTPlan p_2)] (fun rs=>rs=[(.b r_3)]):=by
 refine PC.of_tr (cx:=⟨35,none,lay,0⟩) layOK func12 rfl rfl rfl rfl rfl (by simp [f12]) ?_
 unfold M144 at h
 refine sg ?_
 conv=>whnf
 refine Tr.seq ?_
 refine sg ?_
 conv=>whnf
 refine Tr.cutQ (α:=Unit) (fun s=>([(2,.pt 0 0),(3,.pt 1 0),(4,.d (.b false))],[some (.var [.d (.ls (List.map eTSegment q_1.Field.Clocks.Segments)),.d (.ls (List.map (eL eI) q_1.Field.Clocks.Far)),.d (.ls (List.map eTPair q_1.Field.Pairs)),.d (.ls (List.map eTRunner q_1.Field.Runners)),(dI q_1.Runner),.d (.ls (List.map eTLook q_1.Looks))]),some (.var [(dI p_2.Look),.d (.ls (List.map eTPlan0 p_2.After))])])) (fun s=>M143 q_1 p_2 s=some r_3) ?_ ?_
 ·refine Tr.block ?_
  refine Tr.loopM (σ:=Int) (fun n s=>M142 q_1 (M143 q_1 p_2) n s) r_3 (fun s=>([(2,.pt 0 0),(3,.pt 1 0),(4,.d (.b false)),(5,(dI s))],[some (.var [.d (.ls (List.map eTSegment q_1.Field.Clocks.Segments)),.d (.ls (List.map (eL eI) q_1.Field.Clocks.Far)),.d (.ls (List.map eTPair q_1.Field.Pairs)),.d (.ls (List.map eTRunner q_1.Field.Runners)),(dI q_1.Runner),.d (.ls (List.map eTLook q_1.Looks))]),some (.var [(dI p_2.Look),.d (.ls (List.map eTPlan0 p_2.After))])])) (((((q_1.Looks).length:Int)) - 0:Int).toNat+1) (0) h (fun s=>rfl) (Wk.mk2 [0,1] 2 rfl rfl (by decide) rfl ⟨rr,rr,trivial⟩ ⟨rr,rr,rr,rr,trivial⟩) ?_
  clear h
  rintro n_6 i_5 h
  replace h:M142 q_1 (M143 q_1 p_2) (n_6+1) i_5=some r_3:=h
  rw [M142] at h
  refine Tr.seq ?_
  refine sg ?_
  conv=>whnf
  refine lnS_map ?_
  conv=>whnf
  refine Tr.cond ?_
  conv=>whnf
  refine cB h (fun hb9 h=>?_) (fun hb9 h=>?_)
  ·refine Tr.skip ?_
   conv=>whnf
   refine Tr.seq ?_
   refine Tr.block ?_
   refine sg ?_
   conv=>whnf
   obtain ⟨x_10,hx_10,h⟩:=bS h
   refine ixP_of hx_10 ?_
   conv=>whnf
   refine lnS_map ?_
   conv=>whnf
   refine Tr.cond ?_
   conv=>whnf
   refine cB h (fun hb11 h=>?_) (fun hb11 h=>?_)
   ·refine sg ?_
    conv=>whnf
    refine Tr.ret ?_
    conv=>whnf
    cases h
    rfl
   refine Tr.skip ?_
   conv=>whnf
   refine rg ?_
   conv=>whnf
   refine arS_raw ?_
   conv=>whnf
   refine ⟨((w64 (i_5+1))),h,?_⟩
   exact Wk.mk2 [0,1] 2 rfl rfl (by decide) rfl ⟨rr,rr,trivial⟩ ⟨rr,rr,rr,rr,trivial⟩
  refine Tr.exit ?_
  conv=>whnf
  refine ⟨(),h,?_⟩
  exact Wk.mk2 [0,1] 2 rfl rfl (by decide) rfl ⟨rr,rr,trivial⟩ ⟨rr,rr,rr,trivial⟩
 clear h
 rintro _ h T1 H1 hw
 replace h:M143 q_1 p_2 ()=some r_3:=h
 conv=>whnf
 refine Tr.weak hw ?_
 unfold M143 at h
 refine sg ?_
 conv=>whnf
 obtain ⟨r_12,hc13,h⟩:=bS h
 refine PC.ecall (P138 q_1.Field r_12 hc13) (fun rs hrs=>?_)
 subst hrs
 conv=>whnf
 refine cB h (fun hb14 h=>?_) (fun hb14 h=>?_)
 ·conv=>whnf
  refine lnS_map ?_
  conv=>whnf
  refine cB h (fun hb15 h=>?_) (fun hb15 h=>?_)
  ·conv=>whnf
   obtain ⟨r_16,hc17,h⟩:=bS h
   refine PC.ecall (P141 1000 p_2 0 r_16 hc17) (fun rs hrs=>?_)
   subst hrs
   conv=>whnf
   refine Tr.ret ?_
   conv=>whnf
   cases h
   rfl
  conv=>whnf
  refine Tr.ret ?_
  conv=>whnf
  cases h
  rfl
 conv=>whnf
 refine Tr.ret ?_
 conv=>whnf
 cases h
 rfl
theorem P214 (x_1:TOutcome) (answers_2:List TSpan) (r_3:Bool) (h:M214 x_1 answers_2=some r_3) :
    PC prog 47 [(eTOutcome x_1),(.ls (List.map eTSpan answers_2))] (fun rs=>rs=[(.b r_3)]):=by
 refine PC.of_tr (cx:=⟨35,none,lay,0⟩) layOK func47 rfl rfl rfl rfl rfl (by simp [f47]) ?_
 unfold M214 at h
 refine sg ?_
 conv=>whnf
 refine sg ?_
 conv=>whnf
 refine Tr.seq ?_
 refine sg ?_
 conv=>whnf
 refine lnS_map ?_
 conv=>whnf
 refine Tr.cutQ (α:=Unit) (fun s=>([(4,.d (.b false))],[])) (fun s=>M213 s=some r_3) ?_ ?_
 ·refine Tr.block ?_
  refine Tr.loopM (σ:=Int × Int) (fun n s=>M212 x_1 answers_2 M213 n s.1 s.2) r_3 (fun s=>([(2,.pt 0 0),(4,.d (.b false)),(5,(dI s.1)),(10,.d (.ls (List.map eTSpan answers_2))),(11,(dI (((answers_2).length:Int)))),(12,(dI s.2))],[some (.var [.d (.b x_1.Out),(dI x_1.Seg),(dI x_1.Lo),(dI x_1.Hi)])])) (((((answers_2).length:Int)) - 0:Int).toNat+1) (x_1.Lo,0) h (fun s=>rfl) (Wk.mk2 [0] 1 rfl rfl (by decide) rfl ⟨rr,trivial⟩ ⟨rr,rr,rr,rr,rr,rr,trivial⟩) ?_
  clear h
  rintro n_8 ⟨at_6,v_7⟩ h
  replace h:M212 x_1 answers_2 M213 (n_8+1) at_6 v_7=some r_3:=h
  rw [M212] at h
  refine sg ?_
  conv=>whnf
  refine Tr.seq ?_
  refine Tr.cond ?_
  conv=>whnf
  refine cB h (fun hb11 h=>?_) (fun hb11 h=>?_)
  ·refine Tr.skip ?_
   conv=>whnf
   refine Tr.seq ?_
   refine Tr.block ?_
   refine sg ?_
   conv=>whnf
   obtain ⟨x_12,hx_12,h⟩:=bS h
   refine ixP_of hx_12 ?_
   conv=>whnf
   refine Tr.seq ?_
   refine Tr.cutQ1 ([(2,.pt 0 0),(4,.d (.b false)),(5,(dI at_6)),(7,.pt 1 0),(10,.d (.ls (List.map eTSpan answers_2))),(11,(dI (((answers_2).length:Int)))),(12,(dI v_7)),(25,.d (.b ((decide (x_12.Lo≤at_6)) && (decide (at_6≤x_12.Hi)))))]) ([some (.var [.d (.b x_1.Out),(dI x_1.Seg),(dI x_1.Lo),(dI x_1.Hi)]),some (.var [(dI x_12.Lo),(dI x_12.Hi)])]) ?_ (fun T1 H1 hw=>?_)
   ·refine rg ?_
    conv=>whnf
    refine condS_mk (fun hb14=>?_) (fun hb14=>?_)
    ·conv=>whnf
     exact Wk.mk2 [0,1] 2 rfl rfl (by decide) rfl ⟨rr,rr,trivial⟩ ⟨rr,rr,rr,rr,rr,rr,rr,⟨rfl,(by first | rfl | (simp only [↓hb11,↓hb14,bl,List.length_set]; done) | (simp only [↓hb11,↓hb14,bl,List.length_set]; rfl))⟩,trivial⟩
    conv=>whnf
    exact Wk.mk2 [0,1] 2 rfl rfl (by decide) rfl ⟨rr,rr,trivial⟩ ⟨rr,rr,rr,rr,rr,rr,rr,⟨rfl,(by first | rfl | (simp only [↓hb11,↓hb14,bl,List.length_set]; done) | (simp only [↓hb11,↓hb14,bl,List.length_set]; rfl))⟩,trivial⟩
   conv=>whnf
   refine Tr.weak hw ?_
   refine Tr.cond ?_
   conv=>whnf
   refine cB h (fun hb15 h=>?_) (fun hb15 h=>?_)
   ·refine Tr.seq ?_
    refine sg ?_
    conv=>whnf
    refine Tr.cond ?_
    conv=>whnf
    refine cB h (fun hb16 h=>?_) (fun hb16 h=>?_)
    ·refine sg ?_
     conv=>whnf
     refine Tr.ret ?_
     conv=>whnf
     cases h
     rfl
    refine Tr.skip ?_
    conv=>whnf
    refine rg ?_
    conv=>whnf
    refine arS_raw ?_
    conv=>whnf
    refine rg ?_
    conv=>whnf
    refine arS_raw ?_
    conv=>whnf
    refine ⟨((w64 (x_12.Hi+1)),(w64 (v_7+1))),h,?_⟩
    exact Wk.mk2 [0] 2 rfl rfl (by decide) rfl ⟨rr,trivial⟩ ⟨rr,rr,rr,rr,rr,rr,trivial⟩
   refine Tr.skip ?_
   conv=>whnf
   refine rg ?_
   conv=>whnf
   refine arS_raw ?_
   conv=>whnf
   refine ⟨(at_6,(w64 (v_7+1))),h,?_⟩
   exact Wk.mk2 [0] 2 rfl rfl (by decide) rfl ⟨rr,trivial⟩ ⟨rr,rr,rr,rr,rr,rr,trivial⟩
  refine Tr.exit ?_
  conv=>whnf
  refine ⟨(),h,?_⟩
  exact Wk.mk2 [] 1 rfl rfl (by decide) rfl trivial ⟨rr,trivial⟩
 clear h
 rintro _ h T1 H1 hw
 replace h:M213 ()=some r_3:=h
 conv=>whnf
 refine Tr.weak hw ?_
 unfold M213 at h
 refine sg ?_
 conv=>whnf
 refine Tr.ret ?_
 conv=>whnf
 cases h
 rfl
theorem P221 (q_1:TQuestion) (r_2:Int) (h:M221 q_1=some r_2) :
    PC prog 24 [(eTQuestion q_1)] (fun rs=>rs=[(.i .i64 r_2)]):=by
 refine PC.of_tr (cx:=⟨119,none,lay,0⟩) layOK func24 rfl rfl rfl rfl rfl (by simp [f24]) ?_
 unfold M221 at h
 refine sg ?_
 conv=>whnf
 refine Tr.seq ?_
 refine Tr.seq ?_
 obtain ⟨v_3,hv4,h⟩:=bS h
 refine Tr.cutQ1 ([(1,.pt 0 0),(2,(dI 0)),(32,.d (.b v_3))]) ([some (.var [.d (.ls (List.map eTSegment q_1.Field.Clocks.Segments)),.d (.ls (List.map (eL eI) q_1.Field.Clocks.Far)),.d (.ls (List.map eTPair q_1.Field.Pairs)),.d (.ls (List.map eTRunner q_1.Field.Runners)),(dI q_1.Runner),.d (.ls (List.map eTLook q_1.Looks))])]) ?_ (fun T1 H1 hw=>?_)
 ·replace h:=hv4; clear hv4
  refine rg ?_
  conv=>whnf
  obtain ⟨r_5,hc6,h⟩:=bS h
  refine PC.ecall (P48 q_1.Field r_5 hc6) (fun rs hrs=>?_)
  subst hrs
  conv=>whnf
  refine cB h (fun hb7 h=>?_) (fun hb7 h=>?_)
  ·conv=>whnf
   cases h
   exact Wk.mk2 [0] 1 rfl rfl (by decide) rfl ⟨rr,trivial⟩ ⟨rr,rr,rr,trivial⟩
  conv=>whnf
  refine cB h (fun hb8 h=>?_) (fun hb8 h=>?_)
  ·conv=>whnf
   cases h
   exact Wk.mk2 [0] 1 rfl rfl (by decide) rfl ⟨rr,trivial⟩ ⟨rr,rr,rr,trivial⟩
  conv=>whnf
  refine lnS_map ?_
  conv=>whnf
  refine cB h (fun hb9 h=>?_) (fun hb9 h=>?_)
  ·conv=>whnf
   cases h
   exact Wk.mk2 [0] 1 rfl rfl (by decide) rfl ⟨rr,trivial⟩ ⟨rr,rr,rr,trivial⟩
  conv=>whnf
  refine lnS_map ?_
  conv=>whnf
  cases h
  exact Wk.mk2 [0] 1 rfl rfl (by decide) rfl ⟨rr,trivial⟩ ⟨rr,rr,rr,trivial⟩
 clear hv4
 conv=>whnf
 refine Tr.weak hw ?_
 refine Tr.cond ?_
 conv=>whnf
 refine cB h (fun hb10 h=>?_) (fun hb10 h=>?_)
 ·refine sg ?_
  conv=>whnf
  refine Tr.ret ?_
  conv=>whnf
  cases h
  rfl
 refine Tr.skip ?_
 conv=>whnf
 refine Tr.seq ?_
 refine sg ?_
 conv=>whnf
 refine lnS_map ?_
 conv=>whnf
 refine Tr.cutQ (α:=Unit) (fun s=>([(2,(dI 0))],[])) (fun s=>M220 s=some r_2) ?_ ?_
 ·refine Tr.block ?_
  refine Tr.loopM (σ:=Int) (fun n s=>M219 q_1 M220 n s) r_2 (fun s=>([(1,.pt 0 0),(2,(dI 0)),(34,.d (.ls (List.map eTLook q_1.Looks))),(35,(dI (((q_1.Looks).length:Int)))),(36,(dI s))],[some (.var [.d (.ls (List.map eTSegment q_1.Field.Clocks.Segments)),.d (.ls (List.map (eL eI) q_1.Field.Clocks.Far)),.d (.ls (List.map eTPair q_1.Field.Pairs)),.d (.ls (List.map eTRunner q_1.Field.Runners)),(dI q_1.Runner),.d (.ls (List.map eTLook q_1.Looks))])])) (((((q_1.Looks).length:Int)) - 0:Int).toNat+1) (0) h (fun s=>rfl) (Wk.mk2 [0] 1 rfl rfl (by decide) rfl ⟨rr,trivial⟩ ⟨rr,rr,rr,rr,rr,trivial⟩) ?_
  clear h
  rintro n_13 v_12 h
  replace h:M219 q_1 M220 (n_13+1) v_12=some r_2:=h
  rw [M219] at h
  refine sg ?_
  conv=>whnf
  refine Tr.seq ?_
  refine Tr.cond ?_
  conv=>whnf
  refine cB h (fun hb16 h=>?_) (fun hb16 h=>?_)
  ·refine Tr.skip ?_
   conv=>whnf
   refine Tr.seq ?_
   refine Tr.block ?_
   refine sg ?_
   conv=>whnf
   obtain ⟨x_17,hx_17,h⟩:=bS h
   refine ixP_of hx_17 ?_
   conv=>whnf
   refine Tr.seq ?_
   refine Tr.seq ?_
   refine Tr.cutQ1 ([(1,.pt 0 0),(2,(dI 0)),(4,.pt 1 0),(34,.d (.ls (List.map eTLook q_1.Looks))),(35,(dI (((q_1.Looks).length:Int)))),(36,(dI v_12)),(63,.d (.b ((decide (x_17.Runner < 0)) || ((decide (x_17.Runner≥(((q_1.Field.Runners).length:Int)))) || ((decide ((((x_17.Answers).length:Int)) < 1)) || (decide ((((x_17.Answers).length:Int)) > 4)))))))]) ([some (.var [.d (.ls (List.map eTSegment q_1.Field.Clocks.Segments)),.d (.ls (List.map (eL eI) q_1.Field.Clocks.Far)),.d (.ls (List.map eTPair q_1.Field.Pairs)),.d (.ls (List.map eTRunner q_1.Field.Runners)),(dI q_1.Runner),.d (.ls (List.map eTLook q_1.Looks))]),some (.var [(dI x_17.Runner),.d (.ls (List.map eTSpan x_17.Answers))])]) ?_ (fun T1 H1 hw=>?_)
   ·refine rg ?_
    conv=>whnf
    refine condS_mk (fun hb19=>?_) (fun hb19=>?_)
    ·conv=>whnf
     exact Wk.mk2 [0,1] 2 rfl rfl (by decide) rfl ⟨rr,rr,trivial⟩ ⟨rr,rr,rr,rr,rr,rr,⟨rfl,(by first | rfl | (simp only [↓hb10,↓hb16,↓hb19,bl,List.length_set]; done) | (simp only [↓hb10,↓hb16,↓hb19,bl,List.length_set]; rfl))⟩,trivial⟩
    conv=>whnf
    refine lnS_map ?_
    conv=>whnf
    refine condS_mk (fun hb20=>?_) (fun hb20=>?_)
    ·conv=>whnf
     exact Wk.mk2 [0,1] 2 rfl rfl (by decide) rfl ⟨rr,rr,trivial⟩ ⟨rr,rr,rr,rr,rr,rr,⟨rfl,(by first | rfl | (simp only [↓hb10,↓hb16,↓hb19,↓hb20,bl,List.length_set]; done) | (simp only [↓hb10,↓hb16,↓hb19,↓hb20,bl,List.length_set]; rfl))⟩,trivial⟩
    conv=>whnf
    refine lnS_map ?_
    conv=>whnf
    refine condS_mk (fun hb21=>?_) (fun hb21=>?_)
    ·conv=>whnf
     exact Wk.mk2 [0,1] 2 rfl rfl (by decide) rfl ⟨rr,rr,trivial⟩ ⟨rr,rr,rr,rr,rr,rr,⟨rfl,(by first | rfl | (simp only [↓hb10,↓hb16,↓hb19,↓hb20,↓hb21,bl,List.length_set]; done) | (simp only [↓hb10,↓hb16,↓hb19,↓hb20,↓hb21,bl,List.length_set]; rfl))⟩,trivial⟩
    conv=>whnf
    refine lnS_map ?_
    conv=>whnf
    exact Wk.mk2 [0,1] 2 rfl rfl (by decide) rfl ⟨rr,rr,trivial⟩ ⟨rr,rr,rr,rr,rr,rr,⟨rfl,(by first | rfl | (simp only [↓hb10,↓hb16,↓hb19,↓hb20,↓hb21,bl,List.length_set]; done) | (simp only [↓hb10,↓hb16,↓hb19,↓hb20,↓hb21,bl,List.length_set]; rfl))⟩,trivial⟩
   conv=>whnf
   refine Tr.weak hw ?_
   refine Tr.cond ?_
   conv=>whnf
   refine cB h (fun hb22 h=>?_) (fun hb22 h=>?_)
   ·refine sg ?_
    conv=>whnf
    refine Tr.ret ?_
    conv=>whnf
    cases h
    rfl
   refine Tr.skip ?_
   conv=>whnf
   refine Tr.seq ?_
   refine sg ?_
   conv=>whnf
   refine lnS_map ?_
   conv=>whnf
   refine Tr.cutQ (α:=Unit) (fun s=>([(1,.pt 0 0),(2,(dI 0)),(4,.pt 1 0),(34,.d (.ls (List.map eTLook q_1.Looks))),(35,(dI (((q_1.Looks).length:Int)))),(36,(dI v_12))],[some (.var [.d (.ls (List.map eTSegment q_1.Field.Clocks.Segments)),.d (.ls (List.map (eL eI) q_1.Field.Clocks.Far)),.d (.ls (List.map eTPair q_1.Field.Pairs)),.d (.ls (List.map eTRunner q_1.Field.Runners)),(dI q_1.Runner),.d (.ls (List.map eTLook q_1.Looks))]),some (.var [(dI x_17.Runner),.d (.ls (List.map eTSpan x_17.Answers))])])) (fun s=>M218 q_1 v_12 (M219 q_1 M220 n_13) x_17 s=some r_2) ?_ ?_
   ·refine Tr.block ?_
    refine Tr.loopM (σ:=Int) (fun n s=>M215 x_17 (M218 q_1 v_12 (M219 q_1 M220 n_13) x_17) n s) r_2 (fun s=>([(1,.pt 0 0),(2,(dI 0)),(4,.pt 1 0),(34,.d (.ls (List.map eTLook q_1.Looks))),(35,(dI (((q_1.Looks).length:Int)))),(36,(dI v_12)),(65,.d (.ls (List.map eTSpan x_17.Answers))),(66,(dI (((x_17.Answers).length:Int)))),(67,(dI s))],[some (.var [.d (.ls (List.map eTSegment q_1.Field.Clocks.Segments)),.d (.ls (List.map (eL eI) q_1.Field.Clocks.Far)),.d (.ls (List.map eTPair q_1.Field.Pairs)),.d (.ls (List.map eTRunner q_1.Field.Runners)),(dI q_1.Runner),.d (.ls (List.map eTLook q_1.Looks))]),some (.var [(dI x_17.Runner),.d (.ls (List.map eTSpan x_17.Answers))])])) (((((x_17.Answers).length:Int)) - 0:Int).toNat+1) (0) h (fun s=>rfl) (Wk.mk2 [0,1] 2 rfl rfl (by decide) rfl ⟨rr,rr,trivial⟩ ⟨rr,rr,rr,rr,rr,rr,rr,rr,rr,trivial⟩) ?_
    clear h
    rintro n_25 v_24 h
    replace h:M215 x_17 (M218 q_1 v_12 (M219 q_1 M220 n_13) x_17) (n_25+1) v_24=some r_2:=h
    rw [M215] at h
    refine sg ?_
    conv=>whnf
    refine Tr.seq ?_
    refine Tr.cond ?_
    conv=>whnf
    refine cB h (fun hb28 h=>?_) (fun hb28 h=>?_)
    ·refine Tr.skip ?_
     conv=>whnf
     refine Tr.seq ?_
     refine Tr.block ?_
     refine sg ?_
     conv=>whnf
     obtain ⟨x_29,hx_29,h⟩:=bS h
     refine ixP_of hx_29 ?_
     conv=>whnf
     refine sd [] [(0,5),(1,5),(2,5),(3,5),(4,1),(5,1),(6,1),(7,1),(8,1),(9,5),(10,5),(11,4),(12,4),(13,1),(14,1),(15,2),(16,2),(17,2),(18,1),(19,1),(20,1)] ?_
     conv=>whnf
     refine q2 ?_
     conv=>whnf
     refine q2 ?_
     conv=>whnf
     refine q2 ?_
     conv=>whnf
     refine q2 ?_
     conv=>whnf
     refine q1 ?_
     conv=>whnf
     refine q1 ?_
     conv=>whnf
     refine cB h (fun hb30 h=>?_) (fun hb30 h=>?_)
     ·conv=>whnf
      refine q1 ?_
      conv=>whnf
      refine Tr.cond ?_
      conv=>whnf
      refine sg ?_
      conv=>whnf
      refine Tr.ret ?_
      conv=>whnf
      cases h
      rfl
     conv=>whnf
     refine q1 ?_
     conv=>whnf
     refine q1 ?_
     conv=>whnf
     refine q1 ?_
     conv=>whnf
     refine cB h (fun hb31 h=>?_) (fun hb31 h=>?_)
     ·conv=>whnf
      refine q2 ?_
      conv=>whnf
      refine q2 ?_
      conv=>whnf
      refine q2 ?_
      conv=>whnf
      refine q2 ?_
      conv=>whnf
      refine q1 ?_
      conv=>whnf
      refine q4 ?_
      conv=>whnf
      obtain ⟨x_32,hx_32,h⟩:=bS h
      refine q3 (ixP_of hx_32 rr) ?_
      conv=>whnf
      refine q2 ?_
      conv=>whnf
      refine q2 ?_
      conv=>whnf
      refine q1 ?_
      conv=>whnf
      refine q1 ?_
      conv=>whnf
      refine q1 ?_
      conv=>whnf
      refine Tr.cond ?_
      conv=>whnf
      refine cB h (fun hb33 h=>?_) (fun hb33 h=>?_)
      ·refine sg ?_
       conv=>whnf
       refine Tr.ret ?_
       conv=>whnf
       cases h
       rfl
      refine Tr.skip ?_
      conv=>whnf
      refine rg ?_
      conv=>whnf
      refine arS_raw ?_
      conv=>whnf
      refine ⟨((w64 (v_24+1))),h,?_⟩
      exact Wk.mk2 [0,1] 3 rfl rfl (by decide) rfl ⟨rr,rr,trivial⟩ ⟨rr,rr,rr,rr,rr,rr,rr,rr,rr,trivial⟩
     conv=>whnf
     refine q1 ?_
     conv=>whnf
     refine q1 ?_
     conv=>whnf
     refine Tr.cond ?_
     conv=>whnf
     refine Tr.skip ?_
     conv=>whnf
     refine rg ?_
     conv=>whnf
     refine arS_raw ?_
     conv=>whnf
     refine ⟨((w64 (v_24+1))),h,?_⟩
     exact Wk.mk2 [0,1] 3 rfl rfl (by decide) rfl ⟨rr,rr,trivial⟩ ⟨rr,rr,rr,rr,rr,rr,rr,rr,rr,trivial⟩
    refine Tr.exit ?_
    conv=>whnf
    refine ⟨(),h,?_⟩
    exact Wk.mk2 [0,1] 2 rfl rfl (by decide) rfl ⟨rr,rr,trivial⟩ ⟨rr,rr,rr,rr,rr,rr,trivial⟩
   clear h
   rintro _ h T1 H1 hw
   replace h:M218 q_1 v_12 (M219 q_1 M220 n_13) x_17 ()=some r_2:=h
   conv=>whnf
   refine Tr.weak hw ?_
   unfold M218 at h
   refine sg ?_
   conv=>whnf
   obtain ⟨x_34,hx_34,h⟩:=bS h
   refine ixP_of hx_34 ?_
   conv=>whnf
   obtain ⟨r_35,hc36,h⟩:=bS h
   refine PC.ecall (P31 x_34.Worlds r_35 hc36) (fun rs hrs=>?_)
   subst hrs
   conv=>whnf
   refine lnS_map ?_
   conv=>whnf
   refine Tr.cutQ (α:=Unit) (fun s=>([(1,.pt 0 0),(2,(dI 0)),(34,.d (.ls (List.map eTLook q_1.Looks))),(35,(dI (((q_1.Looks).length:Int)))),(36,(dI v_12))],[some (.var [.d (.ls (List.map eTSegment q_1.Field.Clocks.Segments)),.d (.ls (List.map (eL eI) q_1.Field.Clocks.Far)),.d (.ls (List.map eTPair q_1.Field.Pairs)),.d (.ls (List.map eTRunner q_1.Field.Runners)),(dI q_1.Runner),.d (.ls (List.map eTLook q_1.Looks))])])) (fun s=>M217 v_12 (M219 q_1 M220 n_13) s=some r_2) ?_ ?_
   ·refine Tr.block ?_
    refine Tr.loopM (σ:=Int) (fun n s=>M216 x_17 r_35 (M217 v_12 (M219 q_1 M220 n_13)) n s) r_2 (fun s=>([(1,.pt 0 0),(2,(dI 0)),(4,.pt 1 0),(34,.d (.ls (List.map eTLook q_1.Looks))),(35,(dI (((q_1.Looks).length:Int)))),(36,(dI v_12)),(102,.d (.ls (List.map eTOutcome r_35))),(103,(dI (((r_35).length:Int)))),(104,(dI s))],[some (.var [.d (.ls (List.map eTSegment q_1.Field.Clocks.Segments)),.d (.ls (List.map (eL eI) q_1.Field.Clocks.Far)),.d (.ls (List.map eTPair q_1.Field.Pairs)),.d (.ls (List.map eTRunner q_1.Field.Runners)),(dI q_1.Runner),.d (.ls (List.map eTLook q_1.Looks))]),some (.var [(dI x_17.Runner),.d (.ls (List.map eTSpan x_17.Answers))])])) (((((r_35).length:Int)) - 0:Int).toNat+1) (0) h (fun s=>rfl) (Wk.mk2 [0,1] 2 rfl rfl (by decide) rfl ⟨rr,rr,trivial⟩ ⟨rr,rr,rr,rr,rr,rr,rr,rr,rr,trivial⟩) ?_
    clear h
    rintro n_39 v_38 h
    replace h:M216 x_17 r_35 (M217 v_12 (M219 q_1 M220 n_13)) (n_39+1) v_38=some r_2:=h
    rw [M216] at h
    refine sg ?_
    conv=>whnf
    refine Tr.seq ?_
    refine Tr.cond ?_
    conv=>whnf
    refine cB h (fun hb42 h=>?_) (fun hb42 h=>?_)
    ·refine Tr.skip ?_
     conv=>whnf
     refine Tr.seq ?_
     refine Tr.block ?_
     refine sg ?_
     conv=>whnf
     obtain ⟨x_43,hx_43,h⟩:=bS h
     refine ixP_of hx_43 ?_
     conv=>whnf
     refine sg ?_
     conv=>whnf
     refine cB h (fun hb44 h=>?_) (fun hb44 h=>?_)
     ·conv=>whnf
      refine Tr.cond ?_
      conv=>whnf
      refine sg ?_
      conv=>whnf
      refine Tr.ret ?_
      conv=>whnf
      cases h
      rfl
     conv=>whnf
     obtain ⟨r_45,hc46,h⟩:=bS h
     refine PC.ecall (P214 x_43 x_17.Answers r_45 hc46) (fun rs hrs=>?_)
     subst hrs
     conv=>whnf
     refine Tr.cond ?_
     conv=>whnf
     refine cB h (fun hb47 h=>?_) (fun hb47 h=>?_)
     ·refine sg ?_
      conv=>whnf
      refine Tr.ret ?_
      conv=>whnf
      cases h
      rfl
     refine Tr.skip ?_
     conv=>whnf
     refine rg ?_
     conv=>whnf
     refine arS_raw ?_
     conv=>whnf
     refine ⟨((w64 (v_38+1))),h,?_⟩
     exact Wk.mk2 [0,1] 3 rfl rfl (by decide) rfl ⟨rr,rr,trivial⟩ ⟨rr,rr,rr,rr,rr,rr,rr,rr,rr,trivial⟩
    refine Tr.exit ?_
    conv=>whnf
    refine ⟨(),h,?_⟩
    exact Wk.mk2 [0] 2 rfl rfl (by decide) rfl ⟨rr,trivial⟩ ⟨rr,rr,rr,rr,rr,trivial⟩
   clear h
   rintro _ h T1 H1 hw
   replace h:M217 v_12 (M219 q_1 M220 n_13) ()=some r_2:=h
   conv=>whnf
   refine Tr.weak hw ?_
   unfold M217 at h
   refine rg ?_
   conv=>whnf
   refine arS_raw ?_
   conv=>whnf
   refine ⟨((w64 (v_12+1))),h,?_⟩
   exact Wk.mk2 [0] 1 rfl rfl (by decide) rfl ⟨rr,trivial⟩ ⟨rr,rr,rr,rr,rr,trivial⟩
  refine Tr.exit ?_
  conv=>whnf
  refine ⟨(),h,?_⟩
  exact Wk.mk2 [] 1 rfl rfl (by decide) rfl trivial ⟨rr,trivial⟩
 clear h
 rintro _ h T1 H1 hw
 replace h:M220 ()=some r_2:=h
 conv=>whnf
 refine Tr.weak hw ?_
 unfold M220 at h
 refine sg ?_
 conv=>whnf
 refine Tr.ret ?_
 conv=>whnf
 cases h
 rfl
theorem P222 (r_1:TRunner) (c_2:Int) (r_3:Bool) (h:M222 r_1 c_2=some r_3) :
    PC prog 74 [(eTRunner r_1),(.ro [(.i .i64 c_2)])] (fun rs=>rs=[(.b r_3)]):=by
 refine PC.of_tr (cx:=⟨11,none,lay,0⟩) layOK func74 rfl rfl rfl rfl rfl (by simp [f74]) ?_
 unfold M222 at h
 refine sg ?_
 conv=>whnf
 refine sg ?_
 conv=>whnf
 obtain ⟨x_4,hx_4,h⟩:=bS h
 refine ixP_of hx_4 ?_
 conv=>whnf
 refine lnS_map ?_
 conv=>whnf
 refine Tr.ret ?_
 conv=>whnf
 cases h
 rfl
theorem P225 (s_1:List TRunner) (c_2:Int) (r_3:Int) (h:M225 s_1 c_2=some r_3) :
    PC prog 95 [(.ls (List.map eTRunner s_1)),(.fn 74 [(.ro [(.i .i64 c_2)])])] (fun rs=>rs=[(.i .i64 r_3)]):=by
 refine PC.of_tr (cx:=⟨19,none,lay,0⟩) layOK func95 rfl rfl rfl rfl rfl (by simp [f95]) ?_
 unfold M225 at h
 refine sg ?_
 conv=>whnf
 refine Tr.seq ?_
 refine sg ?_
 conv=>whnf
 refine lnS_map ?_
 conv=>whnf
 refine Tr.cutQ (α:=Unit) (fun s=>([(4,(dI 0))],[])) (fun s=>M224 s=some r_3) ?_ ?_
 ·refine Tr.block ?_
  refine Tr.loopM (σ:=Int) (fun n s=>M223 s_1 c_2 M224 n s) r_3 (fun s=>([(0,.d (.ls (List.map eTRunner s_1))),(1,.d (.fn 74 [(.ro [(.i .i64 c_2)])])),(4,(dI 0)),(7,(dI (((s_1).length:Int)))),(8,(dI s))],[])) (((((s_1).length:Int)) - 0:Int).toNat+1) (0) h (fun s=>rfl) (Wk.mk2 [] 0 rfl rfl (by decide) rfl trivial ⟨rr,rr,rr,rr,rr,trivial⟩) ?_
  clear h
  rintro n_6 v_5 h
  replace h:M223 s_1 c_2 M224 (n_6+1) v_5=some r_3:=h
  rw [M223] at h
  refine sg ?_
  conv=>whnf
  refine Tr.seq ?_
  refine Tr.cond ?_
  conv=>whnf
  refine cB h (fun hb9 h=>?_) (fun hb9 h=>?_)
  ·refine Tr.skip ?_
   conv=>whnf
   refine Tr.seq ?_
   refine Tr.block ?_
   refine sg ?_
   conv=>whnf
   refine sg ?_
   conv=>whnf
   obtain ⟨x_10,hx_10,h⟩:=bS h
   refine ixP_of hx_10 ?_
   conv=>whnf
   obtain ⟨r_11,hc12,h⟩:=bS h
   refine PC.ecall (P222 x_10 c_2 r_11 hc12) (fun rs hrs=>?_)
   subst hrs
   conv=>whnf
   refine Tr.cond ?_
   conv=>whnf
   refine cB h (fun hb13 h=>?_) (fun hb13 h=>?_)
   ·refine sg ?_
    conv=>whnf
    refine Tr.ret ?_
    conv=>whnf
    cases h
    rfl
   refine Tr.skip ?_
   conv=>whnf
   refine rg ?_
   conv=>whnf
   refine arS_raw ?_
   conv=>whnf
   refine ⟨((w64 (v_5+1))),h,?_⟩
   exact Wk.mk2 [] 0 rfl rfl (by decide) rfl trivial ⟨rr,rr,rr,rr,rr,trivial⟩
  refine Tr.exit ?_
  conv=>whnf
  refine ⟨(),h,?_⟩
  exact Wk.mk2 [] 0 rfl rfl (by decide) rfl trivial ⟨rr,trivial⟩
 clear h
 rintro _ h T1 H1 hw
 replace h:M224 ()=some r_3:=h
 conv=>whnf
 refine Tr.weak hw ?_
 unfold M224 at h
 refine sg ?_
 conv=>whnf
 refine Tr.ret ?_
 conv=>whnf
 cases h
 rfl
theorem P226 (s_1:List TRunner) (c_2:Int) (r_3:Bool) (h:M226 s_1 c_2=some r_3) :
    PC prog 73 [(.ls (List.map eTRunner s_1)),(.fn 74 [(.ro [(.i .i64 c_2)])])] (fun rs=>rs=[(.b r_3)]):=by
 refine PC.of_tr (cx:=⟨9,none,lay,0⟩) layOK func73 rfl rfl rfl rfl rfl (by simp [f73]) ?_
 unfold M226 at h
 refine sg ?_
 conv=>whnf
 refine sg ?_
 conv=>whnf
 obtain ⟨r_4,hc5,h⟩:=bS h
 refine PC.ecall (P225 s_1 c_2 r_4 hc5) (fun rs hrs=>?_)
 subst hrs
 conv=>whnf
 refine Tr.ret ?_
 conv=>whnf
 cases h
 rfl
theorem P231 (q_1:TQuestion) (x_2:TLook) (answer_3:TSpan) (r_4:TQuestion) (r_5:Bool) (h:M231 q_1 x_2 answer_3=some (r_4,r_5)) :
    PC prog 44 [(eTQuestion q_1),(eTLook x_2),(eTSpan answer_3)] (fun rs=>rs=[(eTQuestion r_4),(.b r_5)]):=by
 refine PC.of_tr (cx:=⟨91,none,lay,0⟩) layOK func44 rfl rfl rfl rfl rfl (by simp [f44]) ?_
 unfold M231 at h
 refine sg ?_
 conv=>whnf
 refine sg ?_
 conv=>whnf
 obtain ⟨l_6,hl_6,h⟩:=bS h
 refine NC.ecall (n_slices_Clone_Runner_Runner q_1.Field.Runners l_6 hl_6) (es':=List.map .d (List.map eTRunner l_6)) (n':=List.length l_6) rfl (fun es he=>by subst he; exact ⟨rfl,by simp⟩) ?_
 conv=>whnf
 refine orB_l ?_
 conv=>whnf
 refine sg ?_
 conv=>whnf
 obtain ⟨x_7,hx_7,h⟩:=bS h
 refine ixS_of hx_7 rfl ?_
 conv=>whnf
 refine sg ?_
 conv=>whnf
 refine Tr.seq ?_
 refine sg ?_
 conv=>whnf
 refine elP_of hx_7 ?_
 conv=>whnf
 refine lnS_map ?_
 conv=>whnf
 obtain ⟨l_13,hv32,h⟩:=bS h
 refine Tr.cutQ1 ([(3,.pt 0 0),(6,.pt 1 0),(7,.d (.b false)),(8,.pe 2 3 (0+Int.toNat x_2.Runner) 0),(9,.sl 3 1 0 (List.length l_13))]) ([some (.var [.d (.ls (List.map eTSegment q_1.Field.Clocks.Segments)),.d (.ls (List.map (eL eI) q_1.Field.Clocks.Far)),.d (.ls (List.map eTPair q_1.Field.Pairs)),.sl 2 3 0 (List.length l_6),(dI q_1.Runner),.d (.ls (List.map eTLook q_1.Looks))]),some (.var [.nsl,.nsl,.nsl,.nsl,(dI 0),.nsl]),some (.arr 3 (List.map .d (List.map eTRunner l_6))),some (.arr 1 (List.map .d (List.map (eL eTOutcome) l_13)))]) ?_ (fun T1 H1 hw=>?_)
 ·replace h:=hv32; clear hv32
  refine Tr.block ?_
  refine Tr.loopM (σ:=Int × List (List TOutcome)) (fun n s=>M228 answer_3 x_7 n s.1 s.2) l_13 (fun s=>([(3,.pt 0 0),(5,.pt 1 0),(6,.pt 2 0),(7,.d (.b false)),(8,.pe 3 3 (0+Int.toNat x_2.Runner) 0),(9,.sl 4 1 0 (List.length s.2)),(31,.d (.ls (List.map (eL eTOutcome) x_7.Worlds))),(32,(dI (((x_7.Worlds).length:Int)))),(33,(dI s.1))],[some (.var [.d (.ls (List.map eTSegment q_1.Field.Clocks.Segments)),.d (.ls (List.map (eL eI) q_1.Field.Clocks.Far)),.d (.ls (List.map eTPair q_1.Field.Pairs)),.sl 3 3 0 (List.length l_6),(dI q_1.Runner),.d (.ls (List.map eTLook q_1.Looks))]),some (.var [(dI answer_3.Lo),(dI answer_3.Hi)]),some (.var [.nsl,.nsl,.nsl,.nsl,(dI 0),.nsl]),some (.arr 3 (List.map .d (List.map eTRunner l_6))),some (.arr 1 (List.map .d (List.map (eL eTOutcome) s.2)))])) (((((x_7.Worlds).length:Int)) - 0:Int).toNat+1) (0,(([]:List (List TOutcome)))) h (fun s=>rfl) (Wk.mk2 [0,2,3,4,5] 5 rfl rfl (by decide) rfl ⟨⟨rfl,(by first | rfl | (simp only [List.length_set]; rfl) | simp)⟩,rr,rr,daS_d rfl,rfl,trivial⟩ ⟨rr,⟨rfl,(by first | rfl | (simp only [List.length_set]; rfl) | simp)⟩,⟨rfl,(by first | rfl | (simp only [List.length_set]; rfl) | simp)⟩,rr,⟨rfl,(by first | rfl | (simp only [List.length_set]; rfl) | simp)⟩,⟨rfl,(by first | rfl | (simp only [List.length_set]; rfl) | simp)⟩,rr,rr,rr,trivial⟩) ?_
  clear h
  rintro n_12 ⟨v_10,l_11⟩ h
  replace h:M228 answer_3 x_7 (n_12+1) v_10 l_11=some l_13:=h
  rw [M228] at h
  refine sg ?_
  conv=>whnf
  refine Tr.seq ?_
  refine Tr.cond ?_
  conv=>whnf
  refine cB h (fun hb16 h=>?_) (fun hb16 h=>?_)
  ·refine Tr.skip ?_
   conv=>whnf
   refine Tr.seq ?_
   refine Tr.block ?_
   refine sg ?_
   conv=>whnf
   obtain ⟨x_17,hx_17,h⟩:=bS h
   refine ixP_of hx_17 ?_
   conv=>whnf
   refine sg ?_
   conv=>whnf
   refine Tr.seq ?_
   refine sg ?_
   conv=>whnf
   refine lnS_map ?_
   conv=>whnf
   obtain ⟨l_23,hv30,h⟩:=bS h
   refine Tr.cutQ1 ([(3,.pt 0 0),(5,.pt 1 0),(6,.pt 2 0),(7,.d (.b false)),(8,.pe 3 3 (0+Int.toNat x_2.Runner) 0),(9,.sl 4 1 0 (List.length l_11)),(12,.sl 5 4 0 (List.length l_23)),(31,.d (.ls (List.map (eL eTOutcome) x_7.Worlds))),(32,(dI (((x_7.Worlds).length:Int)))),(33,(dI v_10))]) ([some (.var [.d (.ls (List.map eTSegment q_1.Field.Clocks.Segments)),.d (.ls (List.map (eL eI) q_1.Field.Clocks.Far)),.d (.ls (List.map eTPair q_1.Field.Pairs)),.sl 3 3 0 (List.length l_6),(dI q_1.Runner),.d (.ls (List.map eTLook q_1.Looks))]),some (.var [(dI answer_3.Lo),(dI answer_3.Hi)]),some (.var [.nsl,.nsl,.nsl,.nsl,(dI 0),.nsl]),some (.arr 3 (List.map .d (List.map eTRunner l_6))),some (.arr 1 (List.map .d (List.map (eL eTOutcome) l_11))),some (.arr 4 (List.map .d (List.map eTOutcome l_23)))]) ?_ (fun T1 H1 hw=>?_)
   ·replace h:=hv30; clear hv30
    refine Tr.block ?_
    refine Tr.loopM (σ:=Int × List TOutcome) (fun n s=>M227 answer_3 x_17 n s.1 s.2) l_23 (fun s=>([(3,.pt 0 0),(5,.pt 1 0),(6,.pt 2 0),(7,.d (.b false)),(8,.pe 3 3 (0+Int.toNat x_2.Runner) 0),(9,.sl 4 1 0 (List.length l_11)),(12,.sl 5 4 0 (List.length s.2)),(31,.d (.ls (List.map (eL eTOutcome) x_7.Worlds))),(32,(dI (((x_7.Worlds).length:Int)))),(33,(dI v_10)),(37,.d (.ls (List.map eTOutcome x_17))),(38,(dI (((x_17).length:Int)))),(39,(dI s.1))],[some (.var [.d (.ls (List.map eTSegment q_1.Field.Clocks.Segments)),.d (.ls (List.map (eL eI) q_1.Field.Clocks.Far)),.d (.ls (List.map eTPair q_1.Field.Pairs)),.sl 3 3 0 (List.length l_6),(dI q_1.Runner),.d (.ls (List.map eTLook q_1.Looks))]),some (.var [(dI answer_3.Lo),(dI answer_3.Hi)]),some (.var [.nsl,.nsl,.nsl,.nsl,(dI 0),.nsl]),some (.arr 3 (List.map .d (List.map eTRunner l_6))),some (.arr 1 (List.map .d (List.map (eL eTOutcome) l_11))),some (.arr 4 (List.map .d (List.map eTOutcome s.2)))])) (((((x_17).length:Int)) - 0:Int).toNat+1) (0,(([]:List TOutcome))) h (fun s=>rfl) (Wk.mk2 [0,1,2,3,4,5] 5 rfl rfl (by decide) rfl ⟨rr,rr,rr,daS_d rfl,daS_d rfl,rfl,trivial⟩ ⟨rr,rr,rr,rr,rr,rr,⟨rfl,(by first | rfl | (simp only [↓hb16,bl,List.length_set]; done) | (simp only [↓hb16,bl,List.length_set]; rfl))⟩,rr,rr,rr,rr,rr,rr,trivial⟩) ?_
    clear h
    rintro n_22 ⟨v_20,l_21⟩ h
    replace h:M227 answer_3 x_17 (n_22+1) v_20 l_21=some l_23:=h
    rw [M227] at h
    refine sg ?_
    conv=>whnf
    refine Tr.seq ?_
    refine Tr.cond ?_
    conv=>whnf
    refine cB h (fun hb26 h=>?_) (fun hb26 h=>?_)
    ·refine Tr.skip ?_
     conv=>whnf
     refine Tr.seq ?_
     refine Tr.block ?_
     refine sg ?_
     conv=>whnf
     obtain ⟨x_27,hx_27,h⟩:=bS h
     refine ixP_of hx_27 ?_
     conv=>whnf
     refine sd [(11,6),(13,6)] [(0,9),(1,9),(2,4),(3,4),(4,1),(5,9),(6,9),(7,4),(8,4),(9,1),(10,9),(11,0),(12,9),(13,0)] ?_
     conv=>whnf
     refine q2 ?_
     conv=>whnf
     refine q2 ?_
     conv=>whnf
     refine q2 ?_
     conv=>whnf
     refine q2 ?_
     conv=>whnf
     refine q1 ?_
     conv=>whnf
     refine q2 ?_
     conv=>whnf
     refine q2 ?_
     conv=>whnf
     refine q2 ?_
     conv=>whnf
     refine q2 ?_
     conv=>whnf
     refine q1 ?_
     conv=>whnf
     refine q2 ?_
     conv=>whnf
     refine ⟨_,_,rr,kp_ok (by repeat (first | exact trivial | refine ⟨trivial,?_⟩ | refine ⟨rfl,?_⟩)),?_⟩
     conv=>whnf
     refine q2 ?_
     conv=>whnf
     refine ⟨_,_,rr,kp_ok (by repeat (first | exact trivial | refine ⟨trivial,?_⟩ | refine ⟨rfl,?_⟩)),?_⟩
     conv=>whnf
     refine sg ?_
     conv=>whnf
     refine Tr.cond ?_
     conv=>whnf
     refine cB h (fun hb28 h=>?_) (fun hb28 h=>?_)
     ·refine rg ?_
      conv=>whnf
      refine orB_r ?_
      conv=>whnf
      refine frP_no ?_
      conv=>whnf
      refine eqS_mk (by first | rfl | simp) ?_
      conv=>whnf
      obtain ⟨l_29,hl_29,h⟩:=bS h
      refine apS_of hl_29 (aQ (f:=eTOutcome) (l:=(([({ Out:=x_27.Out,Seg:=x_27.Seg,Lo:=(maxG x_27.Lo answer_3.Lo),Hi:=(minG x_27.Hi answer_3.Hi) }:TOutcome)]:List TOutcome))) fun _=>rfl) (by first | rfl | simp) (by first | rfl | simp) (fun he=>?_)
      conv=>whnf
      refine rS (es':=List.map .d (List.map eTOutcome l_29)) (n':=List.length l_29) (by subst he; simp only [List.map_append,List.map_cons,List.map_nil,List.nil_append]; first | done | rfl) (by subst he; simp <;> omega) ?_
      clear he
      conv=>whnf
      refine rg ?_
      conv=>whnf
      refine arS_raw ?_
      conv=>whnf
      refine ⟨((w64 (v_20+1)),l_29),h,?_⟩
      exact Wk.mk2 [0,1,2,3,4,7] 8 rfl rfl (by decide) rfl ⟨rr,rr,rr,daS_d rfl,daS_d rfl,daS_d rfl,trivial⟩ ⟨rr,rr,rr,rr,rr,rr,⟨rfl,(by first | rfl | (simp only [↓hb16,↓hb26,↓hb28,bl,List.length_set]; done) | (simp only [↓hb16,↓hb26,↓hb28,bl,List.length_set]; rfl))⟩,rr,rr,rr,rr,rr,rr,trivial⟩
     refine Tr.skip ?_
     conv=>whnf
     refine rg ?_
     conv=>whnf
     refine arS_raw ?_
     conv=>whnf
     refine ⟨((w64 (v_20+1)),l_21),h,?_⟩
     exact Wk.mk2 [0,1,2,3,4,5] 7 rfl rfl (by decide) rfl ⟨rr,rr,rr,daS_d rfl,daS_d rfl,daS_d rfl,trivial⟩ ⟨rr,rr,rr,rr,rr,rr,rr,rr,rr,rr,rr,rr,rr,trivial⟩
    refine Tr.exit ?_
    conv=>whnf
    cases h
    exact Wk.mk2 [0,1,2,3,4,5] 6 rfl rfl (by decide) rfl ⟨rr,rr,rr,daS_d rfl,daS_d rfl,daS_d rfl,trivial⟩ ⟨rr,rr,rr,rr,rr,rr,rr,rr,rr,rr,trivial⟩
   clear hv30
   conv=>whnf
   refine Tr.weak hw ?_
   refine rg ?_
   conv=>whnf
   refine orB_r ?_
   conv=>whnf
   refine frE_of (f:=eTOutcome) (l:=l_23) rfl ?_
   conv=>whnf
   refine frP_no ?_
   conv=>whnf
   refine eqS_mk (by first | rfl | simp) ?_
   conv=>whnf
   obtain ⟨l_31,hl_31,h⟩:=bS h
   refine apS_of hl_31 (aQ (f:=(eL eTOutcome)) (l:=(([l_23]:List (List TOutcome)))) fun _=>rfl) (by first | rfl | simp) (by first | rfl | simp) (fun he=>?_)
   conv=>whnf
   refine rS (es':=List.map .d (List.map (eL eTOutcome) l_31)) (n':=List.length l_31) (by subst he; simp only [List.map_append,List.map_cons,List.map_nil,List.nil_append]; first | done | rfl) (by subst he; simp <;> omega) ?_
   clear he
   conv=>whnf
   refine rg ?_
   conv=>whnf
   refine arS_raw ?_
   conv=>whnf
   refine ⟨((w64 (v_10+1)),l_31),h,?_⟩
   exact Wk.mk2 [0,1,2,3,6] 7 rfl rfl (by decide) rfl ⟨rr,rr,rr,daS_d rfl,daS_d rfl,trivial⟩ ⟨rr,rr,rr,rr,rr,⟨rfl,(by first | rfl | (simp only [↓hb16,bl,List.length_set]; done) | (simp only [↓hb16,bl,List.length_set]; rfl))⟩,rr,rr,rr,trivial⟩
  refine Tr.exit ?_
  conv=>whnf
  cases h
  exact Wk.mk2 [0,2,3,4] 5 rfl rfl (by decide) rfl ⟨⟨rfl,(by first | rfl | (simp only [↓hb16,bl,List.length_set]; done) | (simp only [↓hb16,bl,List.length_set]; rfl))⟩,rr,daS_d rfl,daS_d rfl,trivial⟩ ⟨rr,⟨rfl,(by first | rfl | (simp only [↓hb16,bl,List.length_set]; done) | (simp only [↓hb16,bl,List.length_set]; rfl))⟩,rr,⟨rfl,(by first | rfl | (simp only [↓hb16,bl,List.length_set]; done) | (simp only [↓hb16,bl,List.length_set]; rfl))⟩,⟨rfl,(by first | rfl | (simp only [↓hb16,bl,List.length_set]; done) | (simp only [↓hb16,bl,List.length_set]; rfl))⟩,trivial⟩
 clear hv32
 conv=>whnf
 refine Tr.weak hw ?_
 refine sg ?_
 conv=>whnf
 refine orB_r ?_
 conv=>whnf
 refine frE_of (f:=(eL eTOutcome)) (l:=l_13) rfl ?_
 conv=>whnf
 refine elP_of hx_7 ?_
 conv=>whnf
 refine lvS_mk (es':=List.map .d (List.map eTRunner (List.set l_6 (Int.toNat x_2.Runner) ({ Bib:=x_7.Bib,Keys:=x_7.Keys,Worlds:=l_13 }:TRunner)))) (by simp only [Nat.zero_add,List.map_set]; first | done | rfl) ?_
 conv=>whnf
 refine Tr.seq ?_
 refine sg ?_
 conv=>whnf
 refine lnS_map ?_
 conv=>whnf
 refine arS_raw ?_
 conv=>whnf
 refine Tr.cutQ (α:=Unit) (fun s=>([(6,.pt 0 0),(7,.d (.b false))],[some (.var [.nsl,.nsl,.nsl,.nsl,(dI 0),.nsl])])) (fun s=>M230 s=some (r_4,r_5)) ?_ ?_
 ·refine Tr.block ?_
  refine Tr.loopM (σ:=Int) (fun n s=>M229 q_1 x_2 l_6 x_7 l_13 M230 n s) (r_4,r_5) (fun s=>([(3,.pt 0 0),(6,.pt 1 0),(7,.d (.b false)),(78,(dI (w64 ((((q_1.Field.Pairs).length:Int))+1)))),(79,(dI s))],[some (.var [.d (.ls (List.map eTSegment q_1.Field.Clocks.Segments)),.d (.ls (List.map (eL eI) q_1.Field.Clocks.Far)),.d (.ls (List.map eTPair q_1.Field.Pairs)),.sl 2 3 0 (List.length (List.set l_6 (Int.toNat x_2.Runner) ({ Bib:=x_7.Bib,Keys:=x_7.Keys,Worlds:=l_13 }:TRunner))),(dI q_1.Runner),.d (.ls (List.map eTLook q_1.Looks))]),some (.var [.nsl,.nsl,.nsl,.nsl,(dI 0),.nsl]),some (.arr 3 (List.map .d (List.map eTRunner (List.set l_6 (Int.toNat x_2.Runner) ({ Bib:=x_7.Bib,Keys:=x_7.Keys,Worlds:=l_13 }:TRunner)))))])) (((w64 ((((q_1.Field.Pairs).length:Int))+1)) - 0:Int).toNat+1) (0) h (fun s=>rfl) (Wk.mk2 [0,1,2] 4 rfl rfl (by decide) rfl ⟨⟨rfl,(by first | rfl | (simp only [List.length_set]; rfl) | simp)⟩,rr,daS_d rfl,trivial⟩ ⟨rr,rr,rr,rr,rr,trivial⟩) ?_
  clear h
  rintro n_35 v_34 h
  replace h:M229 q_1 x_2 l_6 x_7 l_13 M230 (n_35+1) v_34=some (r_4,r_5):=h
  rw [M229] at h
  refine sg ?_
  conv=>whnf
  refine Tr.seq ?_
  refine Tr.cond ?_
  conv=>whnf
  refine cB h (fun hb38 h=>?_) (fun hb38 h=>?_)
  ·refine Tr.skip ?_
   conv=>whnf
   refine Tr.seq ?_
   refine Tr.block ?_
   refine sg ?_
   conv=>whnf
   refine sg ?_
   conv=>whnf
   obtain ⟨r_39,hc40,h⟩:=bS h
   refine PC.ecall_lend ?_ ⟨_,_,func73,rfl,rfl⟩
   conv=>whnf
   refine frE_of (f:=eTRunner) (l:=(List.set l_6 (Int.toNat x_2.Runner) ({ Bib:=x_7.Bib,Keys:=x_7.Keys,Worlds:=l_13 }:TRunner))) rfl ?_
   conv=>whnf
   refine ⟨_,P226 ((List.set l_6 (Int.toNat x_2.Runner) ({ Bib:=x_7.Bib,Keys:=x_7.Keys,Worlds:=l_13 }:TRunner))) v_34 r_39 hc40,fun rs hrs=>?_⟩
   subst hrs
   refine ⟨rfl,?_⟩
   conv=>whnf
   refine Tr.cond ?_
   conv=>whnf
   refine cB h (fun hb41 h=>?_) (fun hb41 h=>?_)
   ·refine sg ?_
    conv=>whnf
    refine orB_l ?_
    conv=>whnf
    refine Tr.ret ?_
    conv=>whnf
    refine frE_of (f:=eTRunner) (l:=(List.set l_6 (Int.toNat x_2.Runner) ({ Bib:=x_7.Bib,Keys:=x_7.Keys,Worlds:=l_13 }:TRunner))) rfl ?_
    conv=>whnf
    cases h
    rfl
   refine Tr.skip ?_
   conv=>whnf
   refine rg ?_
   conv=>whnf
   refine arS_raw ?_
   conv=>whnf
   refine ⟨((w64 (v_34+1))),h,?_⟩
   exact Wk.mk2 [0,1,2] 4 rfl rfl (by decide) rfl ⟨rr,rr,daS_d rfl,trivial⟩ ⟨rr,rr,rr,rr,rr,trivial⟩
  refine Tr.exit ?_
  conv=>whnf
  refine ⟨(),h,?_⟩
  exact Wk.mk2 [1] 3 rfl rfl (by decide) rfl ⟨rr,trivial⟩ ⟨⟨rfl,(by first | rfl | (simp only [↓hb38,bl,List.length_set]; done) | (simp only [↓hb38,bl,List.length_set]; rfl))⟩,rr,trivial⟩
 clear h
 rintro _ h T1 H1 hw
 replace h:M230 ()=some (r_4,r_5):=h
 conv=>whnf
 refine Tr.weak hw ?_
 unfold M230 at h
 refine sg ?_
 conv=>whnf
 refine orB_l ?_
 conv=>whnf
 refine Tr.ret ?_
 conv=>whnf
 cases h
 rfl
theorem P232 (q_1:TQuestion) (r_2:Int) (h:M232 q_1=some r_2) :
    PC prog 50 [(eTQuestion q_1)] (fun rs=>rs=[(.i .i64 r_2)]):=by
 refine PC.of_tr (cx:=⟨31,none,lay,0⟩) layOK func50 rfl rfl rfl rfl rfl (by simp [f50]) ?_
 unfold M232 at h
 refine sg ?_
 conv=>whnf
 refine sg ?_
 conv=>whnf
 obtain ⟨⟨r_3,r_4⟩,hc5,h⟩:=bS h
 refine PC.ecall (P109 q_1.Field q_1.Runner r_3 r_4 hc5) (fun rs hrs=>?_)
 subst hrs
 conv=>whnf
 refine Tr.seq ?_
 refine Tr.block ?_
 refine sg ?_
 conv=>whnf
 refine Tr.cond ?_
 conv=>whnf
 refine cB h (fun hb6 h=>?_) (fun hb6 h=>?_)
 ·refine sg ?_
  conv=>whnf
  refine Tr.ret ?_
  conv=>whnf
  cases h
  rfl
 refine sg ?_
 conv=>whnf
 refine Tr.cond ?_
 conv=>whnf
 refine cB h (fun hb7 h=>?_) (fun hb7 h=>?_)
 ·refine sg ?_
  conv=>whnf
  refine arS_raw ?_
  conv=>whnf
  refine arS_raw ?_
  conv=>whnf
  refine Tr.ret ?_
  conv=>whnf
  cases h
  rfl
 refine Tr.skip ?_
 conv=>whnf
 refine sg ?_
 conv=>whnf
 refine arS_raw ?_
 conv=>whnf
 refine Tr.ret ?_
 conv=>whnf
 cases h
 rfl
end Go.Proofs.Try
