/- Contracts of functions, by program (gen.py). No condition. -/
import Derived.Test.YtcmhnjhpnijpbaaZL
import Derived.Test.YtcmhnjhpnijpbaaZM
import Derived.Test.YtcmhnjhpnijpbaaZCB
import Derived.Test.YtcmhnjhpnijpbaaZS1
namespace Go.Proofs.Try
open Go Go.Abs Go.Stop
set_option maxRecDepth 8000
set_option linter.unusedVariables false
set_option linter.unusedSimpArgs false
theorem P33 (k_1:TClocks) (x_2:TOutcome) (r_3:Int) (h:M33 k_1 x_2=some r_3) :
    PC prog 76 [(eTClocks k_1),(eTOutcome x_2)] (fun rs=>rs=[(.i .i64 r_3)]):=by
 refine PC.of_tr (cx:=⟨47,none,lay,0⟩) layOK func76 rfl rfl rfl rfl rfl (by simp [f76]) ?_
 unfold M33 at h
 refine sg ?_
 conv=>whnf
 refine Tr.seq ?_
 refine sg ?_
 conv=>whnf
 obtain ⟨r_4,hc5,h⟩:=bS h
 refine PC.ecall (P27 k_1 r_4 hc5) (fun rs hrs=>?_)
 subst hrs
 conv=>whnf
 refine sg ?_
 conv=>whnf
 refine Tr.cond ?_
 conv=>whnf
 refine cB h (fun hb6 h=>?_) (fun hb6 h=>?_)
 ·refine sg ?_
  conv=>whnf
  refine Tr.ret ?_
  conv=>whnf
  cases h
  rfl
 refine Tr.skip ?_
 conv=>whnf
 refine Tr.seq ?_
 refine Tr.cutQ1 ([(3,.pt 0 0),(4,(dI 0)),(6,.d (.b ((decide (x_2.Seg≥(-1))) && ((decide (x_2.Seg < (((k_1.Segments).length:Int)))) && ((decide (x_2.Lo≥(-288230376151711744))) && ((decide (x_2.Lo≤x_2.Hi)) && (decide (x_2.Hi≤288230376151711744))))))))]) ([some (.var [.d (.b x_2.Out),(dI x_2.Seg),(dI x_2.Lo),(dI x_2.Hi)])]) ?_ (fun T1 H1 hw=>?_)
 ·refine rg ?_
  conv=>whnf
  refine condS_mk (fun hb8=>?_) (fun hb8=>?_)
  ·conv=>whnf
   refine lnS_map ?_
   conv=>whnf
   refine condS_mk (fun hb9=>?_) (fun hb9=>?_)
   ·conv=>whnf
    refine condS_mk (fun hb10=>?_) (fun hb10=>?_)
    ·conv=>whnf
     refine condS_mk (fun hb11=>?_) (fun hb11=>?_)
     ·conv=>whnf
      exact Wk.mk2 [1] 2 rfl rfl (by decide) rfl ⟨rr,trivial⟩ ⟨⟨rfl,(by first | rfl | (simp only [↓hb6,↓hb8,↓hb9,↓hb10,↓hb11,bl,List.length_set]; done) | (simp only [↓hb6,↓hb8,↓hb9,↓hb10,↓hb11,bl,List.length_set]; rfl))⟩,rr,⟨rfl,(by first | rfl | (simp only [↓hb6,↓hb8,↓hb9,↓hb10,↓hb11,bl,List.length_set]; done) | (simp only [↓hb6,↓hb8,↓hb9,↓hb10,↓hb11,bl,List.length_set]; rfl))⟩,trivial⟩
     conv=>whnf
     exact Wk.mk2 [1] 2 rfl rfl (by decide) rfl ⟨rr,trivial⟩ ⟨⟨rfl,(by first | rfl | (simp only [↓hb6,↓hb8,↓hb9,↓hb10,↓hb11,bl,List.length_set]; done) | (simp only [↓hb6,↓hb8,↓hb9,↓hb10,↓hb11,bl,List.length_set]; rfl))⟩,rr,⟨rfl,(by first | rfl | (simp only [↓hb6,↓hb8,↓hb9,↓hb10,↓hb11,bl,List.length_set]; done) | (simp only [↓hb6,↓hb8,↓hb9,↓hb10,↓hb11,bl,List.length_set]; rfl))⟩,trivial⟩
    conv=>whnf
    exact Wk.mk2 [1] 2 rfl rfl (by decide) rfl ⟨rr,trivial⟩ ⟨⟨rfl,(by first | rfl | (simp only [↓hb6,↓hb8,↓hb9,↓hb10,bl,List.length_set]; done) | (simp only [↓hb6,↓hb8,↓hb9,↓hb10,bl,List.length_set]; rfl))⟩,rr,⟨rfl,(by first | rfl | (simp only [↓hb6,↓hb8,↓hb9,↓hb10,bl,List.length_set]; done) | (simp only [↓hb6,↓hb8,↓hb9,↓hb10,bl,List.length_set]; rfl))⟩,trivial⟩
   conv=>whnf
   exact Wk.mk2 [1] 2 rfl rfl (by decide) rfl ⟨rr,trivial⟩ ⟨⟨rfl,(by first | rfl | (simp only [↓hb6,↓hb8,↓hb9,bl,List.length_set]; done) | (simp only [↓hb6,↓hb8,↓hb9,bl,List.length_set]; rfl))⟩,rr,⟨rfl,(by first | rfl | (simp only [↓hb6,↓hb8,↓hb9,bl,List.length_set]; done) | (simp only [↓hb6,↓hb8,↓hb9,bl,List.length_set]; rfl))⟩,trivial⟩
  conv=>whnf
  exact Wk.mk2 [1] 2 rfl rfl (by decide) rfl ⟨rr,trivial⟩ ⟨⟨rfl,(by first | rfl | (simp only [↓hb6,↓hb8,bl,List.length_set]; done) | (simp only [↓hb6,↓hb8,bl,List.length_set]; rfl))⟩,rr,⟨rfl,(by first | rfl | (simp only [↓hb6,↓hb8,bl,List.length_set]; done) | (simp only [↓hb6,↓hb8,bl,List.length_set]; rfl))⟩,trivial⟩
 conv=>whnf
 refine Tr.weak hw ?_
 refine Tr.seq ?_
 refine sg ?_
 conv=>whnf
 refine Tr.cond ?_
 conv=>whnf
 refine cB h (fun hb12 h=>?_) (fun hb12 h=>?_)
 ·refine dq [] [(0,3),(1,1),(2,1),(3,1)] ?_
  conv=>whnf
  refine q2 ?_
  conv=>whnf
  obtain ⟨r_13,hc14,h⟩:=bS h
  refine q1 ?_ (fun _=>pe (P32 r_13 hc14) rr)
  conv=>whnf
  refine q1 ?_
  conv=>whnf
  refine q1 ?_
  conv=>whnf
  refine Tr.seq ?_
  refine sg ?_
  conv=>whnf
  refine Tr.cond ?_
  conv=>whnf
  refine cB h (fun hb15 h=>?_) (fun hb15 h=>?_)
  ·refine sg ?_
   conv=>whnf
   refine Tr.ret ?_
   conv=>whnf
   cases h
   rfl
  refine Tr.skip ?_
  conv=>whnf
  refine sg ?_
  conv=>whnf
  refine Tr.ret ?_
  conv=>whnf
  cases h
  rfl
 refine Tr.skip ?_
 conv=>whnf
 refine Tr.seq ?_
 refine sg ?_
 conv=>whnf
 refine Tr.cond ?_
 conv=>whnf
 refine cB h (fun hb16 h=>?_) (fun hb16 h=>?_)
 ·refine sg ?_
  conv=>whnf
  refine Tr.ret ?_
  conv=>whnf
  cases h
  rfl
 refine Tr.skip ?_
 conv=>whnf
 refine sg ?_
 conv=>whnf
 refine Tr.ret ?_
 conv=>whnf
 cases h
 rfl
theorem P34 (r_1:TRunner) (c_2:Int) (r_3:Bool) (h:M34 r_1 c_2=some r_3) :
    PC prog 101 [(eTRunner r_1),(.ro [(.i .i64 c_2)])] (fun rs=>rs=[(.b r_3)]):=by
 refine PC.of_tr (cx:=⟨11,none,lay,0⟩) layOK func101 rfl rfl rfl rfl rfl (by simp [f101]) ?_
 unfold M34 at h
 refine sg ?_
 conv=>whnf
 refine sg ?_
 conv=>whnf
 obtain ⟨x_4,hx_4,h⟩:=bS h
 refine ixP_of hx_4 ?_
 conv=>whnf
 refine lnS_map ?_
 conv=>whnf
 refine Tr.ret ?_
 conv=>whnf
 cases h
 rfl
theorem P37 (s_1:List TRunner) (c_2:Int) (r_3:Int) (h:M37 s_1 c_2=some r_3) :
    PC prog 95 [(.ls (List.map eTRunner s_1)),(.fn 101 [(.ro [(.i .i64 c_2)])])] (fun rs=>rs=[(.i .i64 r_3)]):=by
 refine PC.of_tr (cx:=⟨19,none,lay,0⟩) layOK func95 rfl rfl rfl rfl rfl (by simp [f95]) ?_
 unfold M37 at h
 refine sg ?_
 conv=>whnf
 refine Tr.seq ?_
 refine sg ?_
 conv=>whnf
 refine lnS_map ?_
 conv=>whnf
 refine Tr.cutQ (α:=Unit) (fun s=>([(4,(dI 0))],[])) (fun s=>M36 s=some r_3) ?_ ?_
 ·refine Tr.block ?_
  refine Tr.loopM (σ:=Int) (fun n s=>M35 s_1 c_2 M36 n s) r_3 (fun s=>([(0,.d (.ls (List.map eTRunner s_1))),(1,.d (.fn 101 [(.ro [(.i .i64 c_2)])])),(4,(dI 0)),(7,(dI (((s_1).length:Int)))),(8,(dI s))],[])) (((((s_1).length:Int)) - 0:Int).toNat+1) (0) h (fun s=>rfl) (Wk.mk2 [] 0 rfl rfl (by decide) rfl trivial ⟨rr,rr,rr,rr,rr,trivial⟩) ?_
  clear h
  rintro n_6 v_5 h
  replace h:M35 s_1 c_2 M36 (n_6+1) v_5=some r_3:=h
  rw [M35] at h
  refine sg ?_
  conv=>whnf
  refine Tr.seq ?_
  refine Tr.cond ?_
  conv=>whnf
  refine cB h (fun hb9 h=>?_) (fun hb9 h=>?_)
  ·refine Tr.skip ?_
   conv=>whnf
   refine Tr.seq ?_
   refine Tr.block ?_
   refine sg ?_
   conv=>whnf
   refine sg ?_
   conv=>whnf
   obtain ⟨x_10,hx_10,h⟩:=bS h
   refine ixP_of hx_10 ?_
   conv=>whnf
   obtain ⟨r_11,hc12,h⟩:=bS h
   refine PC.ecall (P34 x_10 c_2 r_11 hc12) (fun rs hrs=>?_)
   subst hrs
   conv=>whnf
   refine Tr.cond ?_
   conv=>whnf
   refine cB h (fun hb13 h=>?_) (fun hb13 h=>?_)
   ·refine sg ?_
    conv=>whnf
    refine Tr.ret ?_
    conv=>whnf
    cases h
    rfl
   refine Tr.skip ?_
   conv=>whnf
   refine rg ?_
   conv=>whnf
   refine arS_raw ?_
   conv=>whnf
   refine ⟨((w64 (v_5+1))),h,?_⟩
   exact Wk.mk2 [] 0 rfl rfl (by decide) rfl trivial ⟨rr,rr,rr,rr,rr,trivial⟩
  refine Tr.exit ?_
  conv=>whnf
  refine ⟨(),h,?_⟩
  exact Wk.mk2 [] 0 rfl rfl (by decide) rfl trivial ⟨rr,trivial⟩
 clear h
 rintro _ h T1 H1 hw
 replace h:M36 ()=some r_3:=h
 conv=>whnf
 refine Tr.weak hw ?_
 unfold M36 at h
 refine sg ?_
 conv=>whnf
 refine Tr.ret ?_
 conv=>whnf
 cases h
 rfl
theorem P38 (s_1:List TRunner) (c_2:Int) (r_3:Bool) (h:M38 s_1 c_2=some r_3) :
    PC prog 73 [(.ls (List.map eTRunner s_1)),(.fn 101 [(.ro [(.i .i64 c_2)])])] (fun rs=>rs=[(.b r_3)]):=by
 refine PC.of_tr (cx:=⟨9,none,lay,0⟩) layOK func73 rfl rfl rfl rfl rfl (by simp [f73]) ?_
 unfold M38 at h
 refine sg ?_
 conv=>whnf
 refine sg ?_
 conv=>whnf
 obtain ⟨r_4,hc5,h⟩:=bS h
 refine PC.ecall (P37 s_1 c_2 r_4 hc5) (fun rs hrs=>?_)
 subst hrs
 conv=>whnf
 refine Tr.ret ?_
 conv=>whnf
 cases h
 rfl
theorem P41 (f_1:TField) (r_2:Bool) (h:M41 f_1=some r_2) :
    PC prog 77 [(eTField f_1)] (fun rs=>rs=[(.b r_2)]):=by
 refine PC.of_tr (cx:=⟨17,none,lay,0⟩) layOK func77 rfl rfl rfl rfl rfl (by simp [f77]) ?_
 unfold M41 at h
 refine sg ?_
 conv=>whnf
 refine Tr.seq ?_
 refine sg ?_
 conv=>whnf
 refine lnS_map ?_
 conv=>whnf
 refine arS_raw ?_
 conv=>whnf
 refine Tr.cutQ (α:=Unit) (fun s=>([(2,.d (.b false))],[])) (fun s=>M40 s=some r_2) ?_ ?_
 ·refine Tr.block ?_
  refine Tr.loopM (σ:=Int) (fun n s=>M39 f_1 M40 n s) r_2 (fun s=>([(1,.pt 0 0),(2,.d (.b false)),(7,(dI (w64 ((((f_1.Pairs).length:Int))+1)))),(8,(dI s))],[some (.var [.d (.ls (List.map eTSegment f_1.Clocks.Segments)),.d (.ls (List.map (eL eI) f_1.Clocks.Far)),.d (.ls (List.map eTPair f_1.Pairs)),.d (.ls (List.map eTRunner f_1.Runners))])])) (((w64 ((((f_1.Pairs).length:Int))+1)) - 0:Int).toNat+1) (0) h (fun s=>rfl) (Wk.mk2 [0] 1 rfl rfl (by decide) rfl ⟨rr,trivial⟩ ⟨rr,rr,rr,rr,trivial⟩) ?_
  clear h
  rintro n_5 v_4 h
  replace h:M39 f_1 M40 (n_5+1) v_4=some r_2:=h
  rw [M39] at h
  refine sg ?_
  conv=>whnf
  refine Tr.seq ?_
  refine Tr.cond ?_
  conv=>whnf
  refine cB h (fun hb8 h=>?_) (fun hb8 h=>?_)
  ·refine Tr.skip ?_
   conv=>whnf
   refine Tr.seq ?_
   refine Tr.block ?_
   refine sg ?_
   conv=>whnf
   refine sg ?_
   conv=>whnf
   obtain ⟨r_9,hc10,h⟩:=bS h
   refine PC.ecall_lend ?_ ⟨_,_,func73,rfl,rfl⟩
   conv=>whnf
   refine ⟨_,P38 f_1.Runners v_4 r_9 hc10,fun rs hrs=>?_⟩
   subst hrs
   refine ⟨rfl,?_⟩
   conv=>whnf
   refine Tr.cond ?_
   conv=>whnf
   refine cB h (fun hb11 h=>?_) (fun hb11 h=>?_)
   ·refine sg ?_
    conv=>whnf
    refine Tr.ret ?_
    conv=>whnf
    cases h
    rfl
   refine Tr.skip ?_
   conv=>whnf
   refine rg ?_
   conv=>whnf
   refine arS_raw ?_
   conv=>whnf
   refine ⟨((w64 (v_4+1))),h,?_⟩
   exact Wk.mk2 [0] 2 rfl rfl (by decide) rfl ⟨rr,trivial⟩ ⟨rr,rr,rr,rr,trivial⟩
  refine Tr.exit ?_
  conv=>whnf
  refine ⟨(),h,?_⟩
  exact Wk.mk2 [] 1 rfl rfl (by decide) rfl trivial ⟨rr,trivial⟩
 clear h
 rintro _ h T1 H1 hw
 replace h:M40 ()=some r_2:=h
 conv=>whnf
 refine Tr.weak hw ?_
 unfold M40 at h
 refine sg ?_
 conv=>whnf
 refine Tr.ret ?_
 conv=>whnf
 cases h
 rfl
theorem P48 (f_1:TField) (r_2:Int) (h:M48 f_1=some r_2) :
    PC prog 45 [(eTField f_1)] (fun rs=>rs=[(.i .i64 r_2)]):=by
 refine PC.of_tr (cx:=⟨136,none,lay,0⟩) layOK func45 rfl rfl rfl rfl rfl (by simp [f45]) ?_
 unfold M48 at h
 refine sg ?_
 conv=>whnf
 refine Tr.seq ?_
 refine Tr.seq ?_
 obtain ⟨v_3,hv4,h⟩:=bS h
 refine Tr.cutQ1 ([(1,.pt 0 0),(2,(dI 0)),(32,.d (.b v_3))]) ([some (.var [.d (.ls (List.map eTSegment f_1.Clocks.Segments)),.d (.ls (List.map (eL eI) f_1.Clocks.Far)),.d (.ls (List.map eTPair f_1.Pairs)),.d (.ls (List.map eTRunner f_1.Runners))])]) ?_ (fun T1 H1 hw=>?_)
 ·replace h:=hv4; clear hv4
  refine rg ?_
  conv=>whnf
  obtain ⟨r_5,hc6,h⟩:=bS h
  refine PC.ecall (P27 f_1.Clocks r_5 hc6) (fun rs hrs=>?_)
  subst hrs
  conv=>whnf
  refine cB h (fun hb7 h=>?_) (fun hb7 h=>?_)
  ·conv=>whnf
   cases h
   exact Wk.mk2 [0] 1 rfl rfl (by decide) rfl ⟨rr,trivial⟩ ⟨rr,rr,rr,trivial⟩
  conv=>whnf
  refine lnS_map ?_
  conv=>whnf
  refine cB h (fun hb8 h=>?_) (fun hb8 h=>?_)
  ·conv=>whnf
   cases h
   exact Wk.mk2 [0] 1 rfl rfl (by decide) rfl ⟨rr,trivial⟩ ⟨rr,rr,rr,trivial⟩
  conv=>whnf
  refine lnS_map ?_
  conv=>whnf
  refine cB h (fun hb9 h=>?_) (fun hb9 h=>?_)
  ·conv=>whnf
   cases h
   exact Wk.mk2 [0] 1 rfl rfl (by decide) rfl ⟨rr,trivial⟩ ⟨rr,rr,rr,trivial⟩
  conv=>whnf
  refine lnS_map ?_
  conv=>whnf
  cases h
  exact Wk.mk2 [0] 1 rfl rfl (by decide) rfl ⟨rr,trivial⟩ ⟨rr,rr,rr,trivial⟩
 clear hv4
 conv=>whnf
 refine Tr.weak hw ?_
 refine Tr.cond ?_
 conv=>whnf
 refine cB h (fun hb10 h=>?_) (fun hb10 h=>?_)
 ·refine sg ?_
  conv=>whnf
  refine Tr.ret ?_
  conv=>whnf
  cases h
  rfl
 refine Tr.skip ?_
 conv=>whnf
 refine sg ?_
 conv=>whnf
 refine Tr.seq ?_
 refine sg ?_
 conv=>whnf
 refine lnS_map ?_
 conv=>whnf
 refine Tr.cutQ (α:=Unit) (fun s=>([(1,.pt 0 0),(2,(dI 0))],[some (.var [.d (.ls (List.map eTSegment f_1.Clocks.Segments)),.d (.ls (List.map (eL eI) f_1.Clocks.Far)),.d (.ls (List.map eTPair f_1.Pairs)),.d (.ls (List.map eTRunner f_1.Runners))])])) (fun s=>M47 f_1 s=some r_2) ?_ ?_
 ·refine Tr.block ?_
  refine Tr.loopM (σ:=Int × Int × Int) (fun n s=>M42 f_1 (M47 f_1) n s.1 s.2.1 s.2.2) r_2 (fun s=>([(1,.pt 0 0),(2,(dI 0)),(3,.pt 1 0),(34,.d (.ls (List.map eTPair f_1.Pairs))),(35,(dI (((f_1.Pairs).length:Int)))),(36,(dI s.1))],[some (.var [.d (.ls (List.map eTSegment f_1.Clocks.Segments)),.d (.ls (List.map (eL eI) f_1.Clocks.Far)),.d (.ls (List.map eTPair f_1.Pairs)),.d (.ls (List.map eTRunner f_1.Runners))]),some (.var [(dI s.2.1),(dI s.2.2)])])) (((((f_1.Pairs).length:Int)) - 0:Int).toNat+1) (0,0,0) h (fun s=>rfl) (Wk.mk2 [0,1] 2 rfl rfl (by decide) rfl ⟨rr,rr,trivial⟩ ⟨rr,rr,rr,rr,rr,rr,trivial⟩) ?_
  clear h
  rintro n_17 ⟨v_14,v_15,v_16⟩ h
  replace h:M42 f_1 (M47 f_1) (n_17+1) v_14 v_15 v_16=some r_2:=h
  rw [M42] at h
  refine sg ?_
  conv=>whnf
  refine Tr.seq ?_
  refine Tr.cond ?_
  conv=>whnf
  refine cB h (fun hb20 h=>?_) (fun hb20 h=>?_)
  ·refine Tr.skip ?_
   conv=>whnf
   refine Tr.seq ?_
   refine Tr.block ?_
   refine sg ?_
   conv=>whnf
   obtain ⟨x_21,hx_21,h⟩:=bS h
   refine ixP_of hx_21 ?_
   conv=>whnf
   refine Tr.seq ?_
   refine Tr.seq ?_
   refine Tr.cutQ1 ([(1,.pt 0 0),(2,(dI 0)),(3,.pt 1 0),(5,.pt 2 0),(34,.d (.ls (List.map eTPair f_1.Pairs))),(35,(dI (((f_1.Pairs).length:Int)))),(36,(dI v_14)),(75,.d (.b ((decide (x_21.A < 1)) || ((decide (x_21.A≥x_21.B)) || ((decide (x_21.B > 9999)) || ((decide (x_21.A < v_15)) || ((x_21.A == v_15) && (decide (x_21.B≤v_16)))))))))]) ([some (.var [.d (.ls (List.map eTSegment f_1.Clocks.Segments)),.d (.ls (List.map (eL eI) f_1.Clocks.Far)),.d (.ls (List.map eTPair f_1.Pairs)),.d (.ls (List.map eTRunner f_1.Runners))]),some (.var [(dI v_15),(dI v_16)]),some (.var [(dI x_21.A),(dI x_21.B)])]) ?_ (fun T1 H1 hw=>?_)
   ·refine rg ?_
    conv=>whnf
    refine condS_mk (fun hb23=>?_) (fun hb23=>?_)
    ·conv=>whnf
     exact Wk.mk2 [0,1,2] 3 rfl rfl (by decide) rfl ⟨rr,rr,rr,trivial⟩ ⟨rr,rr,rr,rr,rr,rr,rr,⟨rfl,(by first | rfl | (simp only [↓hb10,↓hb20,↓hb23,bl,List.length_set]; done) | (simp only [↓hb10,↓hb20,↓hb23,bl,List.length_set]; rfl))⟩,trivial⟩
    conv=>whnf
    refine condS_mk (fun hb24=>?_) (fun hb24=>?_)
    ·conv=>whnf
     exact Wk.mk2 [0,1,2] 3 rfl rfl (by decide) rfl ⟨rr,rr,rr,trivial⟩ ⟨rr,rr,rr,rr,rr,rr,rr,⟨rfl,(by first | rfl | (simp only [↓hb10,↓hb20,↓hb23,↓hb24,bl,List.length_set]; done) | (simp only [↓hb10,↓hb20,↓hb23,↓hb24,bl,List.length_set]; rfl))⟩,trivial⟩
    conv=>whnf
    refine condS_mk (fun hb25=>?_) (fun hb25=>?_)
    ·conv=>whnf
     exact Wk.mk2 [0,1,2] 3 rfl rfl (by decide) rfl ⟨rr,rr,rr,trivial⟩ ⟨rr,rr,rr,rr,rr,rr,rr,⟨rfl,(by first | rfl | (simp only [↓hb10,↓hb20,↓hb23,↓hb24,↓hb25,bl,List.length_set]; done) | (simp only [↓hb10,↓hb20,↓hb23,↓hb24,↓hb25,bl,List.length_set]; rfl))⟩,trivial⟩
    conv=>whnf
    refine condS_mk (fun hb26=>?_) (fun hb26=>?_)
    ·conv=>whnf
     exact Wk.mk2 [0,1,2] 3 rfl rfl (by decide) rfl ⟨rr,rr,rr,trivial⟩ ⟨rr,rr,rr,rr,rr,rr,rr,⟨rfl,(by first | rfl | (simp only [↓hb10,↓hb20,↓hb23,↓hb24,↓hb25,↓hb26,bl,List.length_set]; done) | (simp only [↓hb10,↓hb20,↓hb23,↓hb24,↓hb25,↓hb26,bl,List.length_set]; rfl))⟩,trivial⟩
    conv=>whnf
    refine condS_mk (fun hb27=>?_) (fun hb27=>?_)
    ·conv=>whnf
     exact Wk.mk2 [0,1,2] 3 rfl rfl (by decide) rfl ⟨rr,rr,rr,trivial⟩ ⟨rr,rr,rr,rr,rr,rr,rr,⟨rfl,(by first | rfl | (simp only [↓hb10,↓hb20,↓hb23,↓hb24,↓hb25,↓hb26,↓hb27,bl,List.length_set]; done) | (simp only [↓hb10,↓hb20,↓hb23,↓hb24,↓hb25,↓hb26,↓hb27,bl,List.length_set]; rfl))⟩,trivial⟩
    conv=>whnf
    exact Wk.mk2 [0,1,2] 3 rfl rfl (by decide) rfl ⟨rr,rr,rr,trivial⟩ ⟨rr,rr,rr,rr,rr,rr,rr,⟨rfl,(by first | rfl | (simp only [↓hb10,↓hb20,↓hb23,↓hb24,↓hb25,↓hb26,↓hb27,bl,List.length_set]; done) | (simp only [↓hb10,↓hb20,↓hb23,↓hb24,↓hb25,↓hb26,↓hb27,bl,List.length_set]; rfl))⟩,trivial⟩
   conv=>whnf
   refine Tr.weak hw ?_
   refine Tr.cond ?_
   conv=>whnf
   refine cB h (fun hb28 h=>?_) (fun hb28 h=>?_)
   ·refine sg ?_
    conv=>whnf
    refine Tr.ret ?_
    conv=>whnf
    cases h
    rfl
   refine Tr.skip ?_
   conv=>whnf
   refine rg ?_
   conv=>whnf
   refine rg ?_
   conv=>whnf
   refine arS_raw ?_
   conv=>whnf
   refine ⟨((w64 (v_14+1)),x_21.A,x_21.B),h,?_⟩
   exact Wk.mk2 [0,1] 3 rfl rfl (by decide) rfl ⟨rr,rr,trivial⟩ ⟨rr,rr,rr,rr,rr,rr,trivial⟩
  refine Tr.exit ?_
  conv=>whnf
  refine ⟨(),h,?_⟩
  exact Wk.mk2 [0] 2 rfl rfl (by decide) rfl ⟨rr,trivial⟩ ⟨rr,rr,trivial⟩
 clear h
 rintro _ h T1 H1 hw
 replace h:M47 f_1 ()=some r_2:=h
 conv=>whnf
 refine Tr.weak hw ?_
 unfold M47 at h
 refine sg ?_
 conv=>whnf
 refine Tr.seq ?_
 refine sg ?_
 conv=>whnf
 refine lnS_map ?_
 conv=>whnf
 refine Tr.cutQ (α:=Unit) (fun s=>([(1,.pt 0 0),(2,(dI 0))],[some (.var [.d (.ls (List.map eTSegment f_1.Clocks.Segments)),.d (.ls (List.map (eL eI) f_1.Clocks.Far)),.d (.ls (List.map eTPair f_1.Pairs)),.d (.ls (List.map eTRunner f_1.Runners))])])) (fun s=>M46 f_1 s=some r_2) ?_ ?_
 ·refine Tr.block ?_
  refine Tr.loopM (σ:=Int × Int) (fun n s=>M45 f_1 (M46 f_1) n s.1 s.2) r_2 (fun s=>([(1,.pt 0 0),(2,(dI 0)),(6,(dI s.1)),(79,.d (.ls (List.map eTRunner f_1.Runners))),(80,(dI (((f_1.Runners).length:Int)))),(81,(dI s.2))],[some (.var [.d (.ls (List.map eTSegment f_1.Clocks.Segments)),.d (.ls (List.map (eL eI) f_1.Clocks.Far)),.d (.ls (List.map eTPair f_1.Pairs)),.d (.ls (List.map eTRunner f_1.Runners))])])) (((((f_1.Runners).length:Int)) - 0:Int).toNat+1) (0,0) h (fun s=>rfl) (Wk.mk2 [0] 1 rfl rfl (by decide) rfl ⟨rr,trivial⟩ ⟨rr,rr,rr,rr,rr,rr,trivial⟩) ?_
  clear h
  rintro n_33 ⟨bib_31,v_32⟩ h
  replace h:M45 f_1 (M46 f_1) (n_33+1) bib_31 v_32=some r_2:=h
  rw [M45] at h
  refine sg ?_
  conv=>whnf
  refine Tr.seq ?_
  refine Tr.cond ?_
  conv=>whnf
  refine cB h (fun hb36 h=>?_) (fun hb36 h=>?_)
  ·refine Tr.skip ?_
   conv=>whnf
   refine Tr.seq ?_
   refine Tr.block ?_
   refine sg ?_
   conv=>whnf
   obtain ⟨x_37,hx_37,h⟩:=bS h
   refine ixP_of hx_37 ?_
   conv=>whnf
   refine Tr.seq ?_
   refine Tr.seq ?_
   obtain ⟨v_38,hv39,h⟩:=bS h
   refine Tr.cutQ1 ([(1,.pt 0 0),(2,(dI 0)),(6,(dI bib_31)),(8,.pt 1 0),(79,.d (.ls (List.map eTRunner f_1.Runners))),(80,(dI (((f_1.Runners).length:Int)))),(81,(dI v_32)),(115,.d (.b v_38))]) ([some (.var [.d (.ls (List.map eTSegment f_1.Clocks.Segments)),.d (.ls (List.map (eL eI) f_1.Clocks.Far)),.d (.ls (List.map eTPair f_1.Pairs)),.d (.ls (List.map eTRunner f_1.Runners))]),some (.var [(dI x_37.Bib),.d (.ls (List.map eI x_37.Keys)),.d (.ls (List.map (eL eTOutcome) x_37.Worlds))])]) ?_ (fun T1 H1 hw=>?_)
   ·replace h:=hv39; clear hv39
    refine dq [] [(0,4),(1,4),(2,1),(3,1),(4,1),(5,4),(6,4),(7,1),(8,1),(9,1),(10,4),(11,4),(12,2),(13,3),(14,3),(15,2),(16,2),(17,2),(18,2),(19,1),(20,1),(21,1),(22,4),(23,4),(24,2),(25,3),(26,3),(27,2),(28,1),(29,1),(30,1)] ?_
    conv=>whnf
    refine q2 ?_
    conv=>whnf
    refine q2 ?_
    conv=>whnf
    refine q1 ?_
    conv=>whnf
    refine q1 ?_
    conv=>whnf
    refine q1 ?_
    conv=>whnf
    refine cB h (fun hb40 h=>?_) (fun hb40 h=>?_)
    ·conv=>whnf
     refine q1 ?_
     conv=>whnf
     refine q1 ?_
     conv=>whnf
     refine q1 ?_
     conv=>whnf
     refine q1 ?_
     conv=>whnf
     refine q1 ?_
     conv=>whnf
     cases h
     exact Wk.mk2 [0,1] 2 rfl rfl (by decide) rfl ⟨rr,rr,trivial⟩ ⟨rr,rr,rr,rr,rr,rr,rr,rr,trivial⟩
    conv=>whnf
    refine q2 ?_
    conv=>whnf
    refine q2 ?_
    conv=>whnf
    refine q1 ?_
    conv=>whnf
    refine q1 ?_
    conv=>whnf
    refine q1 ?_
    conv=>whnf
    refine cB h (fun hb41 h=>?_) (fun hb41 h=>?_)
    ·conv=>whnf
     refine q1 ?_
     conv=>whnf
     refine q1 ?_
     conv=>whnf
     refine q1 ?_
     conv=>whnf
     cases h
     exact Wk.mk2 [0,1] 2 rfl rfl (by decide) rfl ⟨rr,rr,trivial⟩ ⟨rr,rr,rr,rr,rr,rr,rr,rr,trivial⟩
    conv=>whnf
    refine q2 ?_
    conv=>whnf
    refine q2 ?_
    conv=>whnf
    refine q3 (lnS_map rr) ?_
    conv=>whnf
    refine q2 ?_
    conv=>whnf
    refine q2 ?_
    conv=>whnf
    obtain ⟨x_42,hx_42,h⟩:=bS h
    refine q3 (ixP_of hx_42 rr) ?_
    conv=>whnf
    refine q2 ?_
    conv=>whnf
    refine q2 ?_
    conv=>whnf
    refine q3 (lnS_map rr) ?_
    conv=>whnf
    refine q1 ?_
    conv=>whnf
    refine q1 ?_
    conv=>whnf
    refine q1 ?_
    conv=>whnf
    refine cB h (fun hb43 h=>?_) (fun hb43 h=>?_)
    ·conv=>whnf
     refine q1 ?_
     conv=>whnf
     cases h
     exact Wk.mk2 [0,1] 2 rfl rfl (by decide) rfl ⟨rr,rr,trivial⟩ ⟨rr,rr,rr,rr,rr,rr,rr,rr,trivial⟩
    conv=>whnf
    refine q2 ?_
    conv=>whnf
    refine q2 ?_
    conv=>whnf
    refine q3 (lnS_map rr) ?_
    conv=>whnf
    refine q2 ?_
    conv=>whnf
    refine q2 ?_
    conv=>whnf
    refine q3 (lnS_map rr) ?_
    conv=>whnf
    refine q4 ?_
    conv=>whnf
    refine q1 ?_
    conv=>whnf
    refine q1 ?_
    conv=>whnf
    cases h
    exact Wk.mk2 [0,1] 2 rfl rfl (by decide) rfl ⟨rr,rr,trivial⟩ ⟨rr,rr,rr,rr,rr,rr,rr,rr,trivial⟩
   clear hv39
   conv=>whnf
   refine Tr.weak hw ?_
   refine Tr.cond ?_
   conv=>whnf
   refine cB h (fun hb44 h=>?_) (fun hb44 h=>?_)
   ·refine sg ?_
    conv=>whnf
    refine Tr.ret ?_
    conv=>whnf
    cases h
    rfl
   refine Tr.skip ?_
   conv=>whnf
   refine sg ?_
   conv=>whnf
   refine sg ?_
   conv=>whnf
   obtain ⟨r_45,hc46,h⟩:=bS h
   refine PC.ecall (P31 x_37.Worlds r_45 hc46) (fun rs hrs=>?_)
   subst hrs
   conv=>whnf
   refine lnS_map ?_
   conv=>whnf
   refine Tr.cutQ (α:=Unit) (fun s=>([(1,.pt 0 0),(2,(dI 0)),(6,(dI x_37.Bib)),(79,.d (.ls (List.map eTRunner f_1.Runners))),(80,(dI (((f_1.Runners).length:Int)))),(81,(dI v_32))],[some (.var [.d (.ls (List.map eTSegment f_1.Clocks.Segments)),.d (.ls (List.map (eL eI) f_1.Clocks.Far)),.d (.ls (List.map eTPair f_1.Pairs)),.d (.ls (List.map eTRunner f_1.Runners))])])) (fun s=>M44 v_32 (M45 f_1 (M46 f_1) n_33) x_37 s=some r_2) ?_ ?_
   ·refine Tr.block ?_
    refine Tr.loopM (σ:=Int) (fun n s=>M43 f_1 r_45 (M44 v_32 (M45 f_1 (M46 f_1) n_33) x_37) n s) r_2 (fun s=>([(1,.pt 0 0),(2,(dI 0)),(6,(dI x_37.Bib)),(79,.d (.ls (List.map eTRunner f_1.Runners))),(80,(dI (((f_1.Runners).length:Int)))),(81,(dI v_32)),(120,.d (.ls (List.map eTOutcome r_45))),(121,(dI (((r_45).length:Int)))),(122,(dI s))],[some (.var [.d (.ls (List.map eTSegment f_1.Clocks.Segments)),.d (.ls (List.map (eL eI) f_1.Clocks.Far)),.d (.ls (List.map eTPair f_1.Pairs)),.d (.ls (List.map eTRunner f_1.Runners))])])) (((((r_45).length:Int)) - 0:Int).toNat+1) (0) h (fun s=>rfl) (Wk.mk2 [0] 2 rfl rfl (by decide) rfl ⟨rr,trivial⟩ ⟨rr,rr,rr,rr,rr,rr,rr,rr,rr,trivial⟩) ?_
    clear h
    rintro n_49 v_48 h
    replace h:M43 f_1 r_45 (M44 v_32 (M45 f_1 (M46 f_1) n_33) x_37) (n_49+1) v_48=some r_2:=h
    rw [M43] at h
    refine sg ?_
    conv=>whnf
    refine Tr.seq ?_
    refine Tr.cond ?_
    conv=>whnf
    refine cB h (fun hb52 h=>?_) (fun hb52 h=>?_)
    ·refine Tr.skip ?_
     conv=>whnf
     refine Tr.seq ?_
     refine Tr.block ?_
     refine sg ?_
     conv=>whnf
     obtain ⟨x_53,hx_53,h⟩:=bS h
     refine ixP_of hx_53 ?_
     conv=>whnf
     refine sg ?_
     conv=>whnf
     obtain ⟨r_54,hc55,h⟩:=bS h
     refine PC.ecall (P33 f_1.Clocks x_53 r_54 hc55) (fun rs hrs=>?_)
     subst hrs
     conv=>whnf
     refine Tr.cond ?_
     conv=>whnf
     refine cB h (fun hb56 h=>?_) (fun hb56 h=>?_)
     ·refine sg ?_
      conv=>whnf
      refine Tr.ret ?_
      conv=>whnf
      cases h
      rfl
     refine Tr.skip ?_
     conv=>whnf
     refine rg ?_
     conv=>whnf
     refine arS_raw ?_
     conv=>whnf
     refine ⟨((w64 (v_48+1))),h,?_⟩
     exact Wk.mk2 [0] 2 rfl rfl (by decide) rfl ⟨rr,trivial⟩ ⟨rr,rr,rr,rr,rr,rr,rr,rr,rr,trivial⟩
    refine Tr.exit ?_
    conv=>whnf
    refine ⟨(),h,?_⟩
    exact Wk.mk2 [0] 1 rfl rfl (by decide) rfl ⟨rr,trivial⟩ ⟨rr,rr,rr,rr,rr,rr,trivial⟩
   clear h
   rintro _ h T1 H1 hw
   replace h:M44 v_32 (M45 f_1 (M46 f_1) n_33) x_37 ()=some r_2:=h
   conv=>whnf
   refine Tr.weak hw ?_
   unfold M44 at h
   refine rg ?_
   conv=>whnf
   refine arS_raw ?_
   conv=>whnf
   refine ⟨(x_37.Bib,(w64 (v_32+1))),h,?_⟩
   exact Wk.mk2 [0] 1 rfl rfl (by decide) rfl ⟨rr,trivial⟩ ⟨rr,rr,rr,rr,rr,rr,trivial⟩
  refine Tr.exit ?_
  conv=>whnf
  refine ⟨(),h,?_⟩
  exact Wk.mk2 [0] 1 rfl rfl (by decide) rfl ⟨rr,trivial⟩ ⟨rr,rr,trivial⟩
 clear h
 rintro _ h T1 H1 hw
 replace h:M46 f_1 ()=some r_2:=h
 conv=>whnf
 refine Tr.weak hw ?_
 unfold M46 at h
 refine Tr.seq ?_
 refine sg ?_
 conv=>whnf
 obtain ⟨r_57,hc58,h⟩:=bS h
 refine PC.ecall (P41 f_1 r_57 hc58) (fun rs hrs=>?_)
 subst hrs
 conv=>whnf
 refine Tr.cond ?_
 conv=>whnf
 refine cB h (fun hb59 h=>?_) (fun hb59 h=>?_)
 ·refine sg ?_
  conv=>whnf
  refine Tr.ret ?_
  conv=>whnf
  cases h
  rfl
 refine Tr.skip ?_
 conv=>whnf
 refine sg ?_
 conv=>whnf
 refine Tr.ret ?_
 conv=>whnf
 cases h
 rfl
theorem P51 (l_1:List TSpan) (x_2:TOutcome) (r_3:Bool) (h:M51 l_1 x_2=some r_3) :
    PC prog 56 [(.ls (List.map eTSpan l_1)),(eTOutcome x_2)] (fun rs=>rs=[(.b r_3)]):=by
 refine PC.of_tr (cx:=⟨35,none,lay,0⟩) layOK func56 rfl rfl rfl rfl rfl (by simp [f56]) ?_
 unfold M51 at h
 refine sg ?_
 conv=>whnf
 refine sg ?_
 conv=>whnf
 refine Tr.seq ?_
 refine sg ?_
 conv=>whnf
 refine lnS_map ?_
 conv=>whnf
 refine Tr.cutQ (α:=Unit) (fun s=>([(4,.d (.b false))],[])) (fun s=>M50 s=some r_3) ?_ ?_
 ·refine Tr.block ?_
  refine Tr.loopM (σ:=Int × Int) (fun n s=>M49 l_1 x_2 M50 n s.1 s.2) r_3 (fun s=>([(3,.pt 0 0),(4,.d (.b false)),(5,(dI s.1)),(10,.d (.ls (List.map eTSpan l_1))),(11,(dI (((l_1).length:Int)))),(12,(dI s.2))],[some (.var [.d (.b x_2.Out),(dI x_2.Seg),(dI x_2.Lo),(dI x_2.Hi)])])) (((((l_1).length:Int)) - 0:Int).toNat+1) (x_2.Lo,0) h (fun s=>rfl) (Wk.mk2 [0] 1 rfl rfl (by decide) rfl ⟨rr,trivial⟩ ⟨rr,rr,rr,rr,rr,rr,trivial⟩) ?_
  clear h
  rintro n_8 ⟨at_6,v_7⟩ h
  replace h:M49 l_1 x_2 M50 (n_8+1) at_6 v_7=some r_3:=h
  rw [M49] at h
  refine sg ?_
  conv=>whnf
  refine Tr.seq ?_
  refine Tr.cond ?_
  conv=>whnf
  refine cB h (fun hb11 h=>?_) (fun hb11 h=>?_)
  ·refine Tr.skip ?_
   conv=>whnf
   refine Tr.seq ?_
   refine Tr.block ?_
   refine sg ?_
   conv=>whnf
   obtain ⟨x_12,hx_12,h⟩:=bS h
   refine ixP_of hx_12 ?_
   conv=>whnf
   refine Tr.seq ?_
   refine sg ?_
   conv=>whnf
   refine cB h (fun hb13 h=>?_) (fun hb13 h=>?_)
   ·conv=>whnf
    refine Tr.cond ?_
    conv=>whnf
    refine Tr.exit ?_
    conv=>whnf
    refine rg ?_
    conv=>whnf
    refine arS_raw ?_
    conv=>whnf
    refine ⟨(at_6,(w64 (v_7+1))),h,?_⟩
    exact Wk.mk2 [0] 2 rfl rfl (by decide) rfl ⟨rr,trivial⟩ ⟨rr,rr,rr,rr,rr,rr,trivial⟩
   conv=>whnf
   refine Tr.cond ?_
   conv=>whnf
   refine cB h (fun hb14 h=>?_) (fun hb14 h=>?_)
   ·refine Tr.exit ?_
    conv=>whnf
    refine rg ?_
    conv=>whnf
    refine arS_raw ?_
    conv=>whnf
    refine ⟨(at_6,(w64 (v_7+1))),h,?_⟩
    exact Wk.mk2 [0] 2 rfl rfl (by decide) rfl ⟨rr,trivial⟩ ⟨rr,rr,rr,rr,rr,rr,trivial⟩
   refine Tr.skip ?_
   conv=>whnf
   refine Tr.seq ?_
   refine sg ?_
   conv=>whnf
   refine Tr.cond ?_
   conv=>whnf
   refine cB h (fun hb15 h=>?_) (fun hb15 h=>?_)
   ·refine sg ?_
    conv=>whnf
    refine Tr.ret ?_
    conv=>whnf
    cases h
    rfl
   refine Tr.skip ?_
   conv=>whnf
   refine rg ?_
   conv=>whnf
   refine arS_raw ?_
   conv=>whnf
   refine rg ?_
   conv=>whnf
   refine arS_raw ?_
   conv=>whnf
   refine ⟨((w64 (x_12.Hi+1)),(w64 (v_7+1))),h,?_⟩
   exact Wk.mk2 [0] 2 rfl rfl (by decide) rfl ⟨rr,trivial⟩ ⟨rr,rr,rr,rr,rr,rr,trivial⟩
  refine Tr.exit ?_
  conv=>whnf
  refine ⟨(),h,?_⟩
  exact Wk.mk2 [] 1 rfl rfl (by decide) rfl trivial ⟨rr,trivial⟩
 clear h
 rintro _ h T1 H1 hw
 replace h:M50 ()=some r_3:=h
 conv=>whnf
 refine Tr.weak hw ?_
 unfold M50 at h
 refine sg ?_
 conv=>whnf
 refine Tr.ret ?_
 conv=>whnf
 cases h
 rfl
theorem P60 (q_1:TQuestion) (r_2:Bool) (h:M60 q_1=some r_2) :
    PC prog 30 [(eTQuestion q_1)] (fun rs=>rs=[(.b r_2)]):=by
 refine PC.of_tr (cx:=⟨126,none,lay,0⟩) layOK func30 rfl rfl rfl rfl rfl (by simp [f30]) ?_
 unfold M60 at h
 refine sg ?_
 conv=>whnf
 refine sg ?_
 conv=>whnf
 refine Tr.seq ?_
 refine Tr.seq ?_
 obtain ⟨v_3,hv4,h⟩:=bS h
 refine Tr.cutQ1 ([(1,.pt 0 0),(2,.d (.b false)),(3,.pt 1 0),(35,.d (.b v_3))]) ([some (.var [.d (.ls (List.map eTSegment q_1.Field.Clocks.Segments)),.d (.ls (List.map (eL eI) q_1.Field.Clocks.Far)),.d (.ls (List.map eTPair q_1.Field.Pairs)),.d (.ls (List.map eTRunner q_1.Field.Runners)),(dI q_1.Runner),.d (.ls (List.map eTLook q_1.Looks))]),some (.var [.d (.ls (List.map eTSegment q_1.Field.Clocks.Segments)),.d (.ls (List.map (eL eI) q_1.Field.Clocks.Far)),.d (.ls (List.map eTPair q_1.Field.Pairs)),.d (.ls (List.map eTRunner q_1.Field.Runners))])]) ?_ (fun T1 H1 hw=>?_)
 ·replace h:=hv4; clear hv4
  refine rg ?_
  conv=>whnf
  obtain ⟨r_5,hc6,h⟩:=bS h
  refine PC.ecall (P48 q_1.Field r_5 hc6) (fun rs hrs=>?_)
  subst hrs
  conv=>whnf
  refine cB h (fun hb7 h=>?_) (fun hb7 h=>?_)
  ·conv=>whnf
   cases h
   exact Wk.mk2 [0,1] 2 rfl rfl (by decide) rfl ⟨rr,rr,trivial⟩ ⟨rr,rr,rr,rr,trivial⟩
  conv=>whnf
  refine cB h (fun hb8 h=>?_) (fun hb8 h=>?_)
  ·conv=>whnf
   cases h
   exact Wk.mk2 [0,1] 2 rfl rfl (by decide) rfl ⟨rr,rr,trivial⟩ ⟨rr,rr,rr,rr,trivial⟩
  conv=>whnf
  refine lnS_map ?_
  conv=>whnf
  refine cB h (fun hb9 h=>?_) (fun hb9 h=>?_)
  ·conv=>whnf
   cases h
   exact Wk.mk2 [0,1] 2 rfl rfl (by decide) rfl ⟨rr,rr,trivial⟩ ⟨rr,rr,rr,rr,trivial⟩
  conv=>whnf
  refine lnS_map ?_
  conv=>whnf
  cases h
  exact Wk.mk2 [0,1] 2 rfl rfl (by decide) rfl ⟨rr,rr,trivial⟩ ⟨rr,rr,rr,rr,trivial⟩
 clear hv4
 conv=>whnf
 refine Tr.weak hw ?_
 refine Tr.cond ?_
 conv=>whnf
 refine cB h (fun hb10 h=>?_) (fun hb10 h=>?_)
 ·refine sg ?_
  conv=>whnf
  refine Tr.ret ?_
  conv=>whnf
  cases h
  rfl
 refine Tr.skip ?_
 conv=>whnf
 refine Tr.seq ?_
 refine sg ?_
 conv=>whnf
 refine lnS_map ?_
 conv=>whnf
 refine Tr.cutQ (α:=Unit) (fun s=>([(2,.d (.b false))],[])) (fun s=>M59 s=some r_2) ?_ ?_
 ·refine Tr.block ?_
  refine Tr.loopM (σ:=Int) (fun n s=>M58 q_1 M59 n s) r_2 (fun s=>([(2,.d (.b false)),(3,.pt 0 0),(37,.d (.ls (List.map eTLook q_1.Looks))),(38,(dI (((q_1.Looks).length:Int)))),(39,(dI s))],[some (.var [.d (.ls (List.map eTSegment q_1.Field.Clocks.Segments)),.d (.ls (List.map (eL eI) q_1.Field.Clocks.Far)),.d (.ls (List.map eTPair q_1.Field.Pairs)),.d (.ls (List.map eTRunner q_1.Field.Runners))])])) (((((q_1.Looks).length:Int)) - 0:Int).toNat+1) (0) h (fun s=>rfl) (Wk.mk2 [1] 2 rfl rfl (by decide) rfl ⟨rr,trivial⟩ ⟨rr,⟨rfl,(by first | rfl | (simp only [↓hb10,bl,List.length_set]; done) | (simp only [↓hb10,bl,List.length_set]; rfl))⟩,rr,rr,rr,trivial⟩) ?_
  clear h
  rintro n_13 v_12 h
  replace h:M58 q_1 M59 (n_13+1) v_12=some r_2:=h
  rw [M58] at h
  refine sg ?_
  conv=>whnf
  refine Tr.seq ?_
  refine Tr.cond ?_
  conv=>whnf
  refine cB h (fun hb16 h=>?_) (fun hb16 h=>?_)
  ·refine Tr.skip ?_
   conv=>whnf
   refine Tr.seq ?_
   refine Tr.block ?_
   refine sg ?_
   conv=>whnf
   obtain ⟨x_17,hx_17,h⟩:=bS h
   refine ixP_of hx_17 ?_
   conv=>whnf
   refine Tr.seq ?_
   refine Tr.seq ?_
   refine Tr.cutQ1 ([(2,.d (.b false)),(3,.pt 0 0),(5,.pt 1 0),(37,.d (.ls (List.map eTLook q_1.Looks))),(38,(dI (((q_1.Looks).length:Int)))),(39,(dI v_12)),(65,.d (.b ((decide (x_17.Runner < 0)) || ((decide (x_17.Runner≥(((q_1.Field.Runners).length:Int)))) || ((decide ((((x_17.Answers).length:Int)) < 1)) || (decide ((((x_17.Answers).length:Int)) > 4)))))))]) ([some (.var [.d (.ls (List.map eTSegment q_1.Field.Clocks.Segments)),.d (.ls (List.map (eL eI) q_1.Field.Clocks.Far)),.d (.ls (List.map eTPair q_1.Field.Pairs)),.d (.ls (List.map eTRunner q_1.Field.Runners))]),some (.var [(dI x_17.Runner),.d (.ls (List.map eTSpan x_17.Answers))])]) ?_ (fun T1 H1 hw=>?_)
   ·refine rg ?_
    conv=>whnf
    refine condS_mk (fun hb19=>?_) (fun hb19=>?_)
    ·conv=>whnf
     exact Wk.mk2 [0,1] 2 rfl rfl (by decide) rfl ⟨rr,rr,trivial⟩ ⟨rr,rr,rr,rr,rr,rr,⟨rfl,(by first | rfl | (simp only [↓hb10,↓hb16,↓hb19,bl,List.length_set]; done) | (simp only [↓hb10,↓hb16,↓hb19,bl,List.length_set]; rfl))⟩,trivial⟩
    conv=>whnf
    refine lnS_map ?_
    conv=>whnf
    refine condS_mk (fun hb20=>?_) (fun hb20=>?_)
    ·conv=>whnf
     exact Wk.mk2 [0,1] 2 rfl rfl (by decide) rfl ⟨rr,rr,trivial⟩ ⟨rr,rr,rr,rr,rr,rr,⟨rfl,(by first | rfl | (simp only [↓hb10,↓hb16,↓hb19,↓hb20,bl,List.length_set]; done) | (simp only [↓hb10,↓hb16,↓hb19,↓hb20,bl,List.length_set]; rfl))⟩,trivial⟩
    conv=>whnf
    refine lnS_map ?_
    conv=>whnf
    refine condS_mk (fun hb21=>?_) (fun hb21=>?_)
    ·conv=>whnf
     exact Wk.mk2 [0,1] 2 rfl rfl (by decide) rfl ⟨rr,rr,trivial⟩ ⟨rr,rr,rr,rr,rr,rr,⟨rfl,(by first | rfl | (simp only [↓hb10,↓hb16,↓hb19,↓hb20,↓hb21,bl,List.length_set]; done) | (simp only [↓hb10,↓hb16,↓hb19,↓hb20,↓hb21,bl,List.length_set]; rfl))⟩,trivial⟩
    conv=>whnf
    refine lnS_map ?_
    conv=>whnf
    exact Wk.mk2 [0,1] 2 rfl rfl (by decide) rfl ⟨rr,rr,trivial⟩ ⟨rr,rr,rr,rr,rr,rr,⟨rfl,(by first | rfl | (simp only [↓hb10,↓hb16,↓hb19,↓hb20,↓hb21,bl,List.length_set]; done) | (simp only [↓hb10,↓hb16,↓hb19,↓hb20,↓hb21,bl,List.length_set]; rfl))⟩,trivial⟩
   conv=>whnf
   refine Tr.weak hw ?_
   refine Tr.cond ?_
   conv=>whnf
   refine cB h (fun hb22 h=>?_) (fun hb22 h=>?_)
   ·refine sg ?_
    conv=>whnf
    refine Tr.ret ?_
    conv=>whnf
    cases h
    rfl
   refine Tr.skip ?_
   conv=>whnf
   refine Tr.seq ?_
   refine sg ?_
   conv=>whnf
   refine lnS_map ?_
   conv=>whnf
   refine Tr.cutQ (α:=Unit) (fun s=>([(2,.d (.b false)),(3,.pt 0 0),(5,.pt 1 0),(37,.d (.ls (List.map eTLook q_1.Looks))),(38,(dI (((q_1.Looks).length:Int)))),(39,(dI v_12))],[some (.var [.d (.ls (List.map eTSegment q_1.Field.Clocks.Segments)),.d (.ls (List.map (eL eI) q_1.Field.Clocks.Far)),.d (.ls (List.map eTPair q_1.Field.Pairs)),.d (.ls (List.map eTRunner q_1.Field.Runners))]),some (.var [(dI x_17.Runner),.d (.ls (List.map eTSpan x_17.Answers))])])) (fun s=>M57 q_1 v_12 (M58 q_1 M59 n_13) x_17 s=some r_2) ?_ ?_
   ·refine Tr.block ?_
    refine Tr.loopM (σ:=Int) (fun n s=>M52 x_17 (M57 q_1 v_12 (M58 q_1 M59 n_13) x_17) n s) r_2 (fun s=>([(2,.d (.b false)),(3,.pt 0 0),(5,.pt 1 0),(37,.d (.ls (List.map eTLook q_1.Looks))),(38,(dI (((q_1.Looks).length:Int)))),(39,(dI v_12)),(67,.d (.ls (List.map eTSpan x_17.Answers))),(68,(dI (((x_17.Answers).length:Int)))),(69,(dI s))],[some (.var [.d (.ls (List.map eTSegment q_1.Field.Clocks.Segments)),.d (.ls (List.map (eL eI) q_1.Field.Clocks.Far)),.d (.ls (List.map eTPair q_1.Field.Pairs)),.d (.ls (List.map eTRunner q_1.Field.Runners))]),some (.var [(dI x_17.Runner),.d (.ls (List.map eTSpan x_17.Answers))])])) (((((x_17.Answers).length:Int)) - 0:Int).toNat+1) (0) h (fun s=>rfl) (Wk.mk2 [0,1] 2 rfl rfl (by decide) rfl ⟨rr,rr,trivial⟩ ⟨rr,rr,rr,rr,rr,rr,rr,rr,rr,trivial⟩) ?_
    clear h
    rintro n_25 v_24 h
    replace h:M52 x_17 (M57 q_1 v_12 (M58 q_1 M59 n_13) x_17) (n_25+1) v_24=some r_2:=h
    rw [M52] at h
    refine sg ?_
    conv=>whnf
    refine Tr.seq ?_
    refine Tr.cond ?_
    conv=>whnf
    refine cB h (fun hb28 h=>?_) (fun hb28 h=>?_)
    ·refine Tr.skip ?_
     conv=>whnf
     refine Tr.seq ?_
     refine Tr.block ?_
     refine sg ?_
     conv=>whnf
     obtain ⟨x_29,hx_29,h⟩:=bS h
     refine ixP_of hx_29 ?_
     conv=>whnf
     refine sd [] [(0,5),(1,5),(2,5),(3,5),(4,1),(5,1),(6,1),(7,1),(8,1),(9,5),(10,5),(11,4),(12,4),(13,1),(14,1),(15,2),(16,2),(17,2),(18,1),(19,1),(20,1)] ?_
     conv=>whnf
     refine q2 ?_
     conv=>whnf
     refine q2 ?_
     conv=>whnf
     refine q2 ?_
     conv=>whnf
     refine q2 ?_
     conv=>whnf
     refine q1 ?_
     conv=>whnf
     refine q1 ?_
     conv=>whnf
     refine cB h (fun hb30 h=>?_) (fun hb30 h=>?_)
     ·conv=>whnf
      refine q1 ?_
      conv=>whnf
      refine Tr.cond ?_
      conv=>whnf
      refine sg ?_
      conv=>whnf
      refine Tr.ret ?_
      conv=>whnf
      cases h
      rfl
     conv=>whnf
     refine q1 ?_
     conv=>whnf
     refine q1 ?_
     conv=>whnf
     refine q1 ?_
     conv=>whnf
     refine cB h (fun hb31 h=>?_) (fun hb31 h=>?_)
     ·conv=>whnf
      refine q2 ?_
      conv=>whnf
      refine q2 ?_
      conv=>whnf
      refine q2 ?_
      conv=>whnf
      refine q2 ?_
      conv=>whnf
      refine q1 ?_
      conv=>whnf
      refine q4 ?_
      conv=>whnf
      obtain ⟨x_32,hx_32,h⟩:=bS h
      refine q3 (ixP_of hx_32 rr) ?_
      conv=>whnf
      refine q2 ?_
      conv=>whnf
      refine q2 ?_
      conv=>whnf
      refine q1 ?_
      conv=>whnf
      refine q1 ?_
      conv=>whnf
      refine q1 ?_
      conv=>whnf
      refine Tr.cond ?_
      conv=>whnf
      refine cB h (fun hb33 h=>?_) (fun hb33 h=>?_)
      ·refine sg ?_
       conv=>whnf
       refine Tr.ret ?_
       conv=>whnf
       cases h
       rfl
      refine Tr.skip ?_
      conv=>whnf
      refine rg ?_
      conv=>whnf
      refine arS_raw ?_
      conv=>whnf
      refine ⟨((w64 (v_24+1))),h,?_⟩
      exact Wk.mk2 [0,1] 3 rfl rfl (by decide) rfl ⟨rr,rr,trivial⟩ ⟨rr,rr,rr,rr,rr,rr,rr,rr,rr,trivial⟩
     conv=>whnf
     refine q1 ?_
     conv=>whnf
     refine q1 ?_
     conv=>whnf
     refine Tr.cond ?_
     conv=>whnf
     refine Tr.skip ?_
     conv=>whnf
     refine rg ?_
     conv=>whnf
     refine arS_raw ?_
     conv=>whnf
     refine ⟨((w64 (v_24+1))),h,?_⟩
     exact Wk.mk2 [0,1] 3 rfl rfl (by decide) rfl ⟨rr,rr,trivial⟩ ⟨rr,rr,rr,rr,rr,rr,rr,rr,rr,trivial⟩
    refine Tr.exit ?_
    conv=>whnf
    refine ⟨(),h,?_⟩
    exact Wk.mk2 [0,1] 2 rfl rfl (by decide) rfl ⟨rr,rr,trivial⟩ ⟨rr,rr,rr,rr,rr,rr,trivial⟩
   clear h
   rintro _ h T1 H1 hw
   replace h:M57 q_1 v_12 (M58 q_1 M59 n_13) x_17 ()=some r_2:=h
   conv=>whnf
   refine Tr.weak hw ?_
   unfold M57 at h
   refine sg ?_
   conv=>whnf
   obtain ⟨x_34,hx_34,h⟩:=bS h
   refine ixP_of hx_34 ?_
   conv=>whnf
   refine lnS_map ?_
   conv=>whnf
   refine Tr.cutQ (α:=Unit) (fun s=>([(2,.d (.b false)),(3,.pt 0 0),(37,.d (.ls (List.map eTLook q_1.Looks))),(38,(dI (((q_1.Looks).length:Int)))),(39,(dI v_12))],[some (.var [.d (.ls (List.map eTSegment q_1.Field.Clocks.Segments)),.d (.ls (List.map (eL eI) q_1.Field.Clocks.Far)),.d (.ls (List.map eTPair q_1.Field.Pairs)),.d (.ls (List.map eTRunner q_1.Field.Runners))])])) (fun s=>M56 v_12 (M58 q_1 M59 n_13) s=some r_2) ?_ ?_
   ·refine Tr.block ?_
    refine Tr.loopM (σ:=Int) (fun n s=>M55 x_17 x_34 (M56 v_12 (M58 q_1 M59 n_13)) n s) r_2 (fun s=>([(2,.d (.b false)),(3,.pt 0 0),(5,.pt 1 0),(37,.d (.ls (List.map eTLook q_1.Looks))),(38,(dI (((q_1.Looks).length:Int)))),(39,(dI v_12)),(102,.d (.ls (List.map (eL eTOutcome) x_34.Worlds))),(103,(dI (((x_34.Worlds).length:Int)))),(104,(dI s))],[some (.var [.d (.ls (List.map eTSegment q_1.Field.Clocks.Segments)),.d (.ls (List.map (eL eI) q_1.Field.Clocks.Far)),.d (.ls (List.map eTPair q_1.Field.Pairs)),.d (.ls (List.map eTRunner q_1.Field.Runners))]),some (.var [(dI x_17.Runner),.d (.ls (List.map eTSpan x_17.Answers))])])) (((((x_34.Worlds).length:Int)) - 0:Int).toNat+1) (0) h (fun s=>rfl) (Wk.mk2 [0,1] 2 rfl rfl (by decide) rfl ⟨rr,rr,trivial⟩ ⟨rr,rr,rr,rr,rr,rr,rr,rr,rr,trivial⟩) ?_
    clear h
    rintro n_37 v_36 h
    replace h:M55 x_17 x_34 (M56 v_12 (M58 q_1 M59 n_13)) (n_37+1) v_36=some r_2:=h
    rw [M55] at h
    refine sg ?_
    conv=>whnf
    refine Tr.seq ?_
    refine Tr.cond ?_
    conv=>whnf
    refine cB h (fun hb40 h=>?_) (fun hb40 h=>?_)
    ·refine Tr.skip ?_
     conv=>whnf
     refine Tr.seq ?_
     refine Tr.block ?_
     refine sg ?_
     conv=>whnf
     obtain ⟨x_41,hx_41,h⟩:=bS h
     refine ixP_of hx_41 ?_
     conv=>whnf
     refine sg ?_
     conv=>whnf
     refine lnS_map ?_
     conv=>whnf
     refine Tr.cutQ (α:=Unit) (fun s=>([(2,.d (.b false)),(3,.pt 0 0),(5,.pt 1 0),(37,.d (.ls (List.map eTLook q_1.Looks))),(38,(dI (((q_1.Looks).length:Int)))),(39,(dI v_12)),(102,.d (.ls (List.map (eL eTOutcome) x_34.Worlds))),(103,(dI (((x_34.Worlds).length:Int)))),(104,(dI v_36))],[some (.var [.d (.ls (List.map eTSegment q_1.Field.Clocks.Segments)),.d (.ls (List.map (eL eI) q_1.Field.Clocks.Far)),.d (.ls (List.map eTPair q_1.Field.Pairs)),.d (.ls (List.map eTRunner q_1.Field.Runners))]),some (.var [(dI x_17.Runner),.d (.ls (List.map eTSpan x_17.Answers))])])) (fun s=>M54 v_36 (M55 x_17 x_34 (M56 v_12 (M58 q_1 M59 n_13)) n_37) s=some r_2) ?_ ?_
     ·refine Tr.block ?_
      refine Tr.loopM (σ:=Int) (fun n s=>M53 x_17 x_41 (M54 v_36 (M55 x_17 x_34 (M56 v_12 (M58 q_1 M59 n_13)) n_37)) n s) r_2 (fun s=>([(2,.d (.b false)),(3,.pt 0 0),(5,.pt 1 0),(37,.d (.ls (List.map eTLook q_1.Looks))),(38,(dI (((q_1.Looks).length:Int)))),(39,(dI v_12)),(102,.d (.ls (List.map (eL eTOutcome) x_34.Worlds))),(103,(dI (((x_34.Worlds).length:Int)))),(104,(dI v_36)),(108,.d (.ls (List.map eTOutcome x_41))),(109,(dI (((x_41).length:Int)))),(110,(dI s))],[some (.var [.d (.ls (List.map eTSegment q_1.Field.Clocks.Segments)),.d (.ls (List.map (eL eI) q_1.Field.Clocks.Far)),.d (.ls (List.map eTPair q_1.Field.Pairs)),.d (.ls (List.map eTRunner q_1.Field.Runners))]),some (.var [(dI x_17.Runner),.d (.ls (List.map eTSpan x_17.Answers))])])) (((((x_41).length:Int)) - 0:Int).toNat+1) (0) h (fun s=>rfl) (Wk.mk2 [0,1] 2 rfl rfl (by decide) rfl ⟨rr,rr,trivial⟩ ⟨rr,rr,rr,rr,rr,rr,rr,rr,rr,rr,rr,rr,trivial⟩) ?_
      clear h
      rintro n_44 v_43 h
      replace h:M53 x_17 x_41 (M54 v_36 (M55 x_17 x_34 (M56 v_12 (M58 q_1 M59 n_13)) n_37)) (n_44+1) v_43=some r_2:=h
      rw [M53] at h
      refine sg ?_
      conv=>whnf
      refine Tr.seq ?_
      refine Tr.cond ?_
      conv=>whnf
      refine cB h (fun hb47 h=>?_) (fun hb47 h=>?_)
      ·refine Tr.skip ?_
       conv=>whnf
       refine Tr.seq ?_
       refine Tr.block ?_
       refine sg ?_
       conv=>whnf
       obtain ⟨x_48,hx_48,h⟩:=bS h
       refine ixP_of hx_48 ?_
       conv=>whnf
       refine sg ?_
       conv=>whnf
       refine cB h (fun hb49 h=>?_) (fun hb49 h=>?_)
       ·conv=>whnf
        refine Tr.cond ?_
        conv=>whnf
        refine sg ?_
        conv=>whnf
        refine Tr.ret ?_
        conv=>whnf
        cases h
        rfl
       conv=>whnf
       obtain ⟨r_50,hc51,h⟩:=bS h
       refine PC.ecall (P51 x_17.Answers x_48 r_50 hc51) (fun rs hrs=>?_)
       subst hrs
       conv=>whnf
       refine Tr.cond ?_
       conv=>whnf
       refine cB h (fun hb52 h=>?_) (fun hb52 h=>?_)
       ·refine sg ?_
        conv=>whnf
        refine Tr.ret ?_
        conv=>whnf
        cases h
        rfl
       refine Tr.skip ?_
       conv=>whnf
       refine rg ?_
       conv=>whnf
       refine arS_raw ?_
       conv=>whnf
       refine ⟨((w64 (v_43+1))),h,?_⟩
       exact Wk.mk2 [0,1] 3 rfl rfl (by decide) rfl ⟨rr,rr,trivial⟩ ⟨rr,rr,rr,rr,rr,rr,rr,rr,rr,rr,rr,rr,trivial⟩
      refine Tr.exit ?_
      conv=>whnf
      refine ⟨(),h,?_⟩
      exact Wk.mk2 [0,1] 2 rfl rfl (by decide) rfl ⟨rr,rr,trivial⟩ ⟨rr,rr,rr,rr,rr,rr,rr,rr,rr,trivial⟩
     clear h
     rintro _ h T1 H1 hw
     replace h:M54 v_36 (M55 x_17 x_34 (M56 v_12 (M58 q_1 M59 n_13)) n_37) ()=some r_2:=h
     conv=>whnf
     refine Tr.weak hw ?_
     unfold M54 at h
     refine rg ?_
     conv=>whnf
     refine arS_raw ?_
     conv=>whnf
     refine ⟨((w64 (v_36+1))),h,?_⟩
     exact Wk.mk2 [0,1] 2 rfl rfl (by decide) rfl ⟨rr,rr,trivial⟩ ⟨rr,rr,rr,rr,rr,rr,rr,rr,rr,trivial⟩
    refine Tr.exit ?_
    conv=>whnf
    refine ⟨(),h,?_⟩
    exact Wk.mk2 [0] 2 rfl rfl (by decide) rfl ⟨rr,trivial⟩ ⟨rr,rr,rr,rr,rr,trivial⟩
   clear h
   rintro _ h T1 H1 hw
   replace h:M56 v_12 (M58 q_1 M59 n_13) ()=some r_2:=h
   conv=>whnf
   refine Tr.weak hw ?_
   unfold M56 at h
   refine rg ?_
   conv=>whnf
   refine arS_raw ?_
   conv=>whnf
   refine ⟨((w64 (v_12+1))),h,?_⟩
   exact Wk.mk2 [0] 1 rfl rfl (by decide) rfl ⟨rr,trivial⟩ ⟨rr,rr,rr,rr,rr,trivial⟩
  refine Tr.exit ?_
  conv=>whnf
  refine ⟨(),h,?_⟩
  exact Wk.mk2 [] 1 rfl rfl (by decide) rfl trivial ⟨rr,trivial⟩
 clear h
 rintro _ h T1 H1 hw
 replace h:M59 ()=some r_2:=h
 conv=>whnf
 refine Tr.weak hw ?_
 unfold M59 at h
 refine sg ?_
 conv=>whnf
 refine Tr.ret ?_
 conv=>whnf
 cases h
 rfl
theorem P61 (q_1:TQuestion) (r_2:Tadvice_state) (h:M61 q_1=some r_2) :
    PC prog 34 [(eTQuestion q_1)] (fun rs=>rs=[(eTadvice_state r_2)]):=by
 refine PC.of_tr (cx:=⟨9,none,lay,0⟩) layOK func34 rfl rfl rfl rfl rfl (by simp [f34]) ?_
 unfold M61 at h
 refine sg ?_
 conv=>whnf
 refine sd [(6,1)] [(0,3),(1,3),(2,3),(3,2),(4,0),(5,1),(6,0)] ?_
 conv=>whnf
 refine q2 ?_
 conv=>whnf
 refine q2 ?_
 conv=>whnf
 refine q2 ?_
 conv=>whnf
 refine q3 (lnS_map rr) ?_
 conv=>whnf
 obtain ⟨n_3,hn_3,h⟩:=bS h
 refine ⟨_,_,(by (conv=>whnf); (refine msS_of hn_3 rfl ?_); (conv=>whnf); (refine rS (es':=List.map .d (List.map eB (List.replicate n_3 false))) (n':=List.length ((List.replicate n_3 false):List Bool)) (by simp only [List.map_replicate]; first | done | rfl) (by simp) ?_); (conv=>whnf); (exact rr)),kp_ok (by repeat (first | exact trivial | refine ⟨trivial,?_⟩ | refine ⟨rfl,?_⟩)),?_⟩
 conv=>whnf
 refine q1 ?_
 conv=>whnf
 refine ⟨_,_,(by (conv=>whnf); (refine orB_l ?_); (conv=>whnf); (exact rr)),kp_ok (by repeat (first | exact trivial | refine ⟨trivial,?_⟩ | refine ⟨rfl,?_⟩)),?_⟩
 conv=>whnf
 refine Tr.ret ?_
 conv=>whnf
 refine frE_of (f:=eB) (l:=(List.replicate n_3 false)) rfl ?_
 conv=>whnf
 cases h
 rfl
theorem P62 (v_1:Int) (q:Option (Int)) (h:M62 v_1=some q) :
    MCP prog 37 [.pt 0 0] [.var [(dI v_1)]] (fun rs Bs=>∃ b_2:Int,q=some b_2∧rs=[]∧Bs=[.var [(dI b_2)]]) (fun pv=>pv=(.iface 78 (.agg #[]))∧q=none):=by
 refine MCP.of_tr (cx:=⟨16,none,lay,1⟩) layOK func37 rfl rfl rfl rfl rfl (by simp [f37]) ?_
 refine Tr.unW ?_
 unfold M62 at h
 refine Tr.seq ?_
 refine sg ?_
 conv=>whnf
 refine Tr.cond ?_
 conv=>whnf
 refine cB h (fun hb3 h=>?_) (fun hb3 h=>?_)
 ·refine Tr.regionP layOK ?_
  conv=>whnf
  refine .inr ⟨rfl,by kernel_rfl,?_⟩
  conv=>whnf
  refine .inr ⟨_,rfl,by kernel_rfl,?_⟩
  conv=>whnf
  refine .inr ⟨_,_,rfl,?_⟩
  conv=>whnf
  refine endH ?_
  conv=>whnf
  cases h
  exact ⟨_,rfl,rfl,rfl⟩
 refine Tr.skip ?_
 conv=>whnf
 refine rg ?_
 conv=>whnf
 refine arS_raw ?_
 conv=>whnf
 refine endH ?_
 conv=>whnf
 cases h
 exact ⟨[.var [(dI (w64 (v_1 - 1)))]],rfl,rfl,⟨rfl,trivial⟩,_,rfl,rfl,rfl⟩
theorem P65 (f_1:TField) (runners_2:List Int) (r_3:Int) (h:M65 f_1 runners_2=some r_3) :
    PC prog 42 [(eTField f_1),(.ls (List.map eI runners_2))] (fun rs=>rs=[(.i .i64 r_3)]):=by
 refine PC.of_tr (cx:=⟨26,none,lay,0⟩) layOK func42 rfl rfl rfl rfl rfl (by simp [f42]) ?_
 unfold M65 at h
 refine sg ?_
 conv=>whnf
 refine Tr.seq ?_
 refine sg ?_
 conv=>whnf
 obtain ⟨r_4,hc5,h⟩:=bS h
 refine PC.ecall (P48 f_1 r_4 hc5) (fun rs hrs=>?_)
 subst hrs
 conv=>whnf
 refine Tr.cond ?_
 conv=>whnf
 refine cB h (fun hb6 h=>?_) (fun hb6 h=>?_)
 ·refine sg ?_
  conv=>whnf
  refine Tr.ret ?_
  conv=>whnf
  cases h
  rfl
 refine Tr.skip ?_
 conv=>whnf
 refine Tr.seq ?_
 refine sg ?_
 conv=>whnf
 refine lnS_map ?_
 conv=>whnf
 refine Tr.cutQ (α:=Unit) (fun s=>([(4,(dI 0))],[])) (fun s=>M64 s=some r_3) ?_ ?_
 ·refine Tr.block ?_
  refine Tr.loopM (σ:=Int) (fun n s=>M63 f_1 runners_2 M64 n s) r_3 (fun s=>([(2,.pt 0 0),(4,(dI 0)),(10,.d (.ls (List.map eI runners_2))),(11,(dI (((runners_2).length:Int)))),(12,(dI s))],[some (.var [.d (.ls (List.map eTSegment f_1.Clocks.Segments)),.d (.ls (List.map (eL eI) f_1.Clocks.Far)),.d (.ls (List.map eTPair f_1.Pairs)),.d (.ls (List.map eTRunner f_1.Runners))])])) (((((runners_2).length:Int)) - 0:Int).toNat+1) (0) h (fun s=>rfl) (Wk.mk2 [0] 1 rfl rfl (by decide) rfl ⟨rr,trivial⟩ ⟨rr,rr,rr,rr,rr,trivial⟩) ?_
  clear h
  rintro n_9 v_8 h
  replace h:M63 f_1 runners_2 M64 (n_9+1) v_8=some r_3:=h
  rw [M63] at h
  refine sg ?_
  conv=>whnf
  refine Tr.seq ?_
  refine Tr.cond ?_
  conv=>whnf
  refine cB h (fun hb12 h=>?_) (fun hb12 h=>?_)
  ·refine Tr.skip ?_
   conv=>whnf
   refine Tr.seq ?_
   refine Tr.block ?_
   refine sg ?_
   conv=>whnf
   obtain ⟨x_13,hx_13,h⟩:=bS h
   refine ixP_of hx_13 ?_
   conv=>whnf
   refine sg ?_
   conv=>whnf
   refine cB h (fun hb14 h=>?_) (fun hb14 h=>?_)
   ·conv=>whnf
    refine Tr.cond ?_
    conv=>whnf
    refine sg ?_
    conv=>whnf
    refine Tr.ret ?_
    conv=>whnf
    cases h
    rfl
   conv=>whnf
   refine lnS_map ?_
   conv=>whnf
   refine Tr.cond ?_
   conv=>whnf
   refine cB h (fun hb15 h=>?_) (fun hb15 h=>?_)
   ·refine sg ?_
    conv=>whnf
    refine Tr.ret ?_
    conv=>whnf
    cases h
    rfl
   refine Tr.skip ?_
   conv=>whnf
   refine rg ?_
   conv=>whnf
   refine arS_raw ?_
   conv=>whnf
   refine ⟨((w64 (v_8+1))),h,?_⟩
   exact Wk.mk2 [0] 1 rfl rfl (by decide) rfl ⟨rr,trivial⟩ ⟨rr,rr,rr,rr,rr,trivial⟩
  refine Tr.exit ?_
  conv=>whnf
  refine ⟨(),h,?_⟩
  exact Wk.mk2 [] 1 rfl rfl (by decide) rfl trivial ⟨rr,trivial⟩
 clear h
 rintro _ h T1 H1 hw
 replace h:M64 ()=some r_3:=h
 conv=>whnf
 refine Tr.weak hw ?_
 unfold M64 at h
 refine sg ?_
 conv=>whnf
 refine Tr.ret ?_
 conv=>whnf
 cases h
 rfl
theorem P66 (f_1:TField) (c_2:List TSegment) (c_3:List (List Int)) (c_4:List TPair) (c_5:List TRunner) (h:M66 f_1=some (c_2,c_3,c_4,c_5)) :
    PC prog 67 [(eTField f_1)] (fun rs=>rs=[(.fn 85 [(.ro [(.ls (List.map eTSegment c_2)),(.ls (List.map (eL eI) c_3)),(.ls (List.map eTPair c_4)),(.ls (List.map eTRunner c_5))])])]):=by
 refine PC.of_tr (cx:=⟨4,none,lay,0⟩) layOK func67 rfl rfl rfl rfl rfl (by simp [f67]) ?_
 unfold M66 at h
 refine sg ?_
 conv=>whnf
 refine sg ?_
 conv=>whnf
 refine Tr.ret ?_
 conv=>whnf
 cases h
 rfl
theorem P67 (r_1:TRunner) (c_2:Int) (r_3:Bool) (h:M67 r_1 c_2=some r_3) :
    PC prog 86 [(eTRunner r_1),(.ro [(.i .i64 c_2)])] (fun rs=>rs=[(.b r_3)]):=by
 refine PC.of_tr (cx:=⟨11,none,lay,0⟩) layOK func86 rfl rfl rfl rfl rfl (by simp [f86]) ?_
 unfold M67 at h
 refine sg ?_
 conv=>whnf
 refine sg ?_
 conv=>whnf
 obtain ⟨x_4,hx_4,h⟩:=bS h
 refine ixP_of hx_4 ?_
 conv=>whnf
 refine lnS_map ?_
 conv=>whnf
 refine Tr.ret ?_
 conv=>whnf
 cases h
 rfl
theorem P70 (s_1:List TRunner) (c_2:Int) (r_3:Int) (h:M70 s_1 c_2=some r_3) :
    PC prog 95 [(.ls (List.map eTRunner s_1)),(.fn 86 [(.ro [(.i .i64 c_2)])])] (fun rs=>rs=[(.i .i64 r_3)]):=by
 refine PC.of_tr (cx:=⟨19,none,lay,0⟩) layOK func95 rfl rfl rfl rfl rfl (by simp [f95]) ?_
 unfold M70 at h
 refine sg ?_
 conv=>whnf
 refine Tr.seq ?_
 refine sg ?_
 conv=>whnf
 refine lnS_map ?_
 conv=>whnf
 refine Tr.cutQ (α:=Unit) (fun s=>([(4,(dI 0))],[])) (fun s=>M69 s=some r_3) ?_ ?_
 ·refine Tr.block ?_
  refine Tr.loopM (σ:=Int) (fun n s=>M68 s_1 c_2 M69 n s) r_3 (fun s=>([(0,.d (.ls (List.map eTRunner s_1))),(1,.d (.fn 86 [(.ro [(.i .i64 c_2)])])),(4,(dI 0)),(7,(dI (((s_1).length:Int)))),(8,(dI s))],[])) (((((s_1).length:Int)) - 0:Int).toNat+1) (0) h (fun s=>rfl) (Wk.mk2 [] 0 rfl rfl (by decide) rfl trivial ⟨rr,rr,rr,rr,rr,trivial⟩) ?_
  clear h
  rintro n_6 v_5 h
  replace h:M68 s_1 c_2 M69 (n_6+1) v_5=some r_3:=h
  rw [M68] at h
  refine sg ?_
  conv=>whnf
  refine Tr.seq ?_
  refine Tr.cond ?_
  conv=>whnf
  refine cB h (fun hb9 h=>?_) (fun hb9 h=>?_)
  ·refine Tr.skip ?_
   conv=>whnf
   refine Tr.seq ?_
   refine Tr.block ?_
   refine sg ?_
   conv=>whnf
   refine sg ?_
   conv=>whnf
   obtain ⟨x_10,hx_10,h⟩:=bS h
   refine ixP_of hx_10 ?_
   conv=>whnf
   obtain ⟨r_11,hc12,h⟩:=bS h
   refine PC.ecall (P67 x_10 c_2 r_11 hc12) (fun rs hrs=>?_)
   subst hrs
   conv=>whnf
   refine Tr.cond ?_
   conv=>whnf
   refine cB h (fun hb13 h=>?_) (fun hb13 h=>?_)
   ·refine sg ?_
    conv=>whnf
    refine Tr.ret ?_
    conv=>whnf
    cases h
    rfl
   refine Tr.skip ?_
   conv=>whnf
   refine rg ?_
   conv=>whnf
   refine arS_raw ?_
   conv=>whnf
   refine ⟨((w64 (v_5+1))),h,?_⟩
   exact Wk.mk2 [] 0 rfl rfl (by decide) rfl trivial ⟨rr,rr,rr,rr,rr,trivial⟩
  refine Tr.exit ?_
  conv=>whnf
  refine ⟨(),h,?_⟩
  exact Wk.mk2 [] 0 rfl rfl (by decide) rfl trivial ⟨rr,trivial⟩
 clear h
 rintro _ h T1 H1 hw
 replace h:M69 ()=some r_3:=h
 conv=>whnf
 refine Tr.weak hw ?_
 unfold M69 at h
 refine sg ?_
 conv=>whnf
 refine Tr.ret ?_
 conv=>whnf
 cases h
 rfl
end Go.Proofs.Try
