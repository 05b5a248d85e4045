/- Contracts of functions, by program (gen.py). No condition. -/
import Derived.Test.YtobjgfhbhhcfeaaZL
import Derived.Test.YtobjgfhbhhcfeaaZM
import Derived.Test.YtobjgfhbhhcfeaaZCB
import Derived.Test.YtobjgfhbhhcfeaaZS7
namespace Go.Proofs.Try
open Go Go.Abs Go.Stop
set_option maxRecDepth 8000
set_option linter.unusedVariables false
set_option linter.unusedSimpArgs false
theorem P263 (q_1:TQuestion) (look_2:Int) (answer_3:Int) (h_4:THistory) (r_5:Bool) (h:M263 q_1 look_2 answer_3 h_4=some r_5) :
    PC prog 9 [(eTQuestion q_1),(.i .u8 look_2),(.i .u8 answer_3),(eTHistory h_4)] (fun rs=>rs=[(.b r_5)]):=by
 refine PC.of_tr (cx:=⟨222,none,lay,0⟩) layOK func9 rfl rfl rfl rfl rfl (by simp [f9]) ?_
 unfold M263 at h
 refine sg ?_
 conv=>whnf
 refine Tr.seq ?_
 refine sg ?_
 conv=>whnf
 obtain ⟨r_6,hc7,h⟩:=bS h
 refine PC.ecall (P141 r_6 hc7) (fun rs hrs=>?_)
 subst hrs
 conv=>whnf
 refine Tr.cond ?_
 conv=>whnf
 refine cB h (fun hb8 h=>?_) (fun hb8 h=>?_)
 ·refine sg ?_
  conv=>whnf
  refine Tr.ret ?_
  conv=>whnf
  cases h
  rfl
 refine Tr.skip ?_
 conv=>whnf
 refine Tr.seq ?_
 refine sg ?_
 conv=>whnf
 obtain ⟨r_9,hc10,h⟩:=bS h
 refine PC.ecall (P151 q_1 r_9 hc10) (fun rs hrs=>?_)
 subst hrs
 conv=>whnf
 refine cB h (fun hb11 h=>?_) (fun hb11 h=>?_)
 ·conv=>whnf
  refine Tr.cond ?_
  conv=>whnf
  refine sg ?_
  conv=>whnf
  refine Tr.ret ?_
  conv=>whnf
  cases h
  rfl
 conv=>whnf
 obtain ⟨r_12,hc13,h⟩:=bS h
 refine PC.ecall (P197 q_1 r_12 hc13) (fun rs hrs=>?_)
 subst hrs
 conv=>whnf
 refine cB h (fun hb14 h=>?_) (fun hb14 h=>?_)
 ·conv=>whnf
  refine Tr.cond ?_
  conv=>whnf
  refine sg ?_
  conv=>whnf
  refine Tr.ret ?_
  conv=>whnf
  cases h
  rfl
 conv=>whnf
 refine lnS_map ?_
 conv=>whnf
 refine Tr.cond ?_
 conv=>whnf
 refine cB h (fun hb15 h=>?_) (fun hb15 h=>?_)
 ·refine sg ?_
  conv=>whnf
  refine Tr.ret ?_
  conv=>whnf
  cases h
  rfl
 refine Tr.skip ?_
 conv=>whnf
 refine sg ?_
 conv=>whnf
 refine arS_raw ?_
 conv=>whnf
 refine lnS_map ?_
 conv=>whnf
 obtain ⟨u_16,hu_16,h⟩:=bS h
 refine neS_mk (nz_ne hu_16) ?_
 conv=>whnf
 refine sg ?_
 conv=>whnf
 refine arS_raw ?_
 conv=>whnf
 obtain ⟨x_17,hx_17,h⟩:=bS h
 refine ixP_of hx_17 ?_
 conv=>whnf
 refine lnS_map ?_
 conv=>whnf
 obtain ⟨u_18,hu_18,h⟩:=bS h
 refine neS_mk (nz_ne hu_18) ?_
 conv=>whnf
 refine sg ?_
 conv=>whnf
 obtain ⟨⟨r_19,r_20⟩,hc21,h⟩:=bS h
 refine PC.ecall (P67 q_1 ((Int.tmod (w64 look_2) (((q_1.Looks).length:Int)))) ((Int.tmod (w64 answer_3) (((x_17.Answers).length:Int)))) r_19 r_20 hc21) (fun rs hrs=>?_)
 subst hrs
 conv=>whnf
 refine Tr.seq ?_
 obtain ⟨fits_22,hv23,h⟩:=bS h
 refine Tr.cutQ1 ([(4,.pt 0 0),(7,.pt 1 0),(8,.d (.b false)),(9,(dI (Int.tmod (w64 look_2) (((q_1.Looks).length:Int))))),(10,(dI (Int.tmod (w64 answer_3) (((x_17.Answers).length:Int))))),(11,.pt 2 0),(12,(dI r_20)),(13,.d (.b fits_22))]) ([some (.var [.d (.ls (List.map eTSegment q_1.Field.Clocks.Segments)),.d (.ls (List.map (eL eI) q_1.Field.Clocks.Far)),.d (.ls (List.map eTPair q_1.Field.Pairs)),.d (.ls (List.map eTRunner q_1.Field.Runners)),(dI q_1.Runner),.d (.ls (List.map eTLook q_1.Looks))]),some (.var [(dI h_4.World),.d (.ls (List.map eI h_4.Offsets)),.d (.ls (List.map eTChoice h_4.Choices))]),some (.var [.d (.ls (List.map eTSegment r_19.Field.Clocks.Segments)),.d (.ls (List.map (eL eI) r_19.Field.Clocks.Far)),.d (.ls (List.map eTPair r_19.Field.Pairs)),.d (.ls (List.map eTRunner r_19.Field.Runners)),(dI r_19.Runner),.d (.ls (List.map eTLook r_19.Looks))])]) ?_ (fun T1 H1 hw=>?_)
 ·replace h:=hv23; clear hv23
  refine rg ?_
  conv=>whnf
  obtain ⟨r_24,hc25,h⟩:=bS h
  refine PC.ecall (P218 h_4 r_24 hc25) (fun rs hrs=>?_)
  subst hrs
  conv=>whnf
  refine cB h (fun hb26 h=>?_) (fun hb26 h=>?_)
  ·conv=>whnf
   obtain ⟨r_27,hc28,h⟩:=bS h
   refine PC.ecall (P228 q_1.Field h_4 r_27 hc28) (fun rs hrs=>?_)
   subst hrs
   conv=>whnf
   cases h
   exact Wk.mk2 [0,1,2] 3 rfl rfl (by decide) rfl ⟨rr,rr,rr,trivial⟩ ⟨rr,rr,rr,rr,rr,rr,rr,rr,trivial⟩
  conv=>whnf
  cases h
  exact Wk.mk2 [0,1,2] 3 rfl rfl (by decide) rfl ⟨rr,rr,rr,trivial⟩ ⟨rr,rr,rr,rr,rr,rr,rr,rr,trivial⟩
 clear hv23
 conv=>whnf
 refine Tr.weak hw ?_
 refine Tr.seq ?_
 refine sg ?_
 conv=>whnf
 refine Tr.cond ?_
 conv=>whnf
 refine cB h (fun hb29 h=>?_) (fun hb29 h=>?_)
 ·refine sd [(21,3)] [(0,3),(1,3),(2,1),(3,2),(4,2),(5,2),(6,1),(7,2),(8,2),(9,4),(10,4),(11,3),(12,3),(13,1),(14,2),(15,2),(16,2),(17,2),(18,2),(19,2),(20,0),(21,0),(22,1)] ?_
  conv=>whnf
  refine q2 ?_
  conv=>whnf
  refine q2 ?_
  conv=>whnf
  refine q1 ?_
  conv=>whnf
  obtain ⟨x_30,hx_30,h⟩:=bS h
  refine q3 (ixP_of hx_30 rr) ?_
  conv=>whnf
  refine q2 ?_
  conv=>whnf
  refine q2 ?_
  conv=>whnf
  refine q1 ?_
  conv=>whnf
  obtain ⟨x_31,hx_31,h⟩:=bS h
  refine q3 (ixP_of hx_31 rr) ?_
  conv=>whnf
  refine q2 ?_
  conv=>whnf
  refine q2 ?_
  conv=>whnf
  refine q2 ?_
  conv=>whnf
  refine q2 ?_
  conv=>whnf
  refine q2 ?_
  conv=>whnf
  refine q1 ?_
  conv=>whnf
  obtain ⟨x_32,hx_32,h⟩:=bS h
  refine q3 (ixP_of hx_32 rr) ?_
  conv=>whnf
  refine q2 ?_
  conv=>whnf
  refine q2 ?_
  conv=>whnf
  obtain ⟨x_33,hx_33,h⟩:=bS h
  refine q3 (ixP_of hx_33 rr) ?_
  conv=>whnf
  refine q2 ?_
  conv=>whnf
  refine q2 ?_
  conv=>whnf
  refine ⟨_,_,rr,kp_ok (by repeat (first | exact trivial | refine ⟨trivial,?_⟩ | refine ⟨rfl,?_⟩)),?_⟩
  conv=>whnf
  refine ⟨_,_,rr,kp_ok (by repeat (first | exact trivial | refine ⟨trivial,?_⟩ | refine ⟨rfl,?_⟩)),?_⟩
  conv=>whnf
  refine q1 ?_
  conv=>whnf
  refine rg ?_
  conv=>whnf
  refine cB h (fun hb34 h=>?_) (fun hb34 h=>?_)
  ·conv=>whnf
   refine Tr.seq ?_
   refine sg ?_
   conv=>whnf
   refine Tr.cond ?_
   conv=>whnf
   refine cB h (fun hb35 h=>?_) (fun hb35 h=>?_)
   ·refine sg ?_
    conv=>whnf
    refine cB h (fun hb36 h=>?_) (fun hb36 h=>?_)
    ·conv=>whnf
     refine Tr.ret ?_
     conv=>whnf
     cases h
     rfl
    conv=>whnf
    refine Tr.ret ?_
    conv=>whnf
    cases h
    rfl
   refine Tr.skip ?_
   conv=>whnf
   refine Tr.seq ?_
   refine sg ?_
   conv=>whnf
   obtain ⟨r_37,hc38,h⟩:=bS h
   refine PC.ecall (P55 r_19 r_37 hc38) (fun rs hrs=>?_)
   subst hrs
   conv=>whnf
   refine cB h (fun hb39 h=>?_) (fun hb39 h=>?_)
   ·conv=>whnf
    refine Tr.cond ?_
    conv=>whnf
    refine sg ?_
    conv=>whnf
    refine Tr.ret ?_
    conv=>whnf
    cases h
    rfl
   conv=>whnf
   obtain ⟨r_40,hc41,h⟩:=bS h
   refine PC.ecall (P45 r_19.Field r_40 hc41) (fun rs hrs=>?_)
   subst hrs
   conv=>whnf
   refine cB h (fun hb42 h=>?_) (fun hb42 h=>?_)
   ·conv=>whnf
    refine Tr.cond ?_
    conv=>whnf
    refine sg ?_
    conv=>whnf
    refine Tr.ret ?_
    conv=>whnf
    cases h
    rfl
   conv=>whnf
   refine lnS_map ?_
   conv=>whnf
   refine lnS_map ?_
   conv=>whnf
   refine Tr.cond ?_
   conv=>whnf
   refine cB h (fun hb43 h=>?_) (fun hb43 h=>?_)
   ·refine sg ?_
    conv=>whnf
    refine Tr.ret ?_
    conv=>whnf
    cases h
    rfl
   refine Tr.skip ?_
   conv=>whnf
   refine Tr.seq ?_
   refine sg ?_
   conv=>whnf
   refine lnS_map ?_
   conv=>whnf
   refine Tr.cutQ (α:=Unit) (fun s=>([(8,.d (.b false))],[])) (fun s=>M258 s=some r_5) ?_ ?_
   ·refine Tr.block ?_
    refine Tr.loopM (σ:=Int) (fun n s=>M257 q_1 h_4 r_19 x_31 x_33 M258 n s) r_5 (fun s=>([(4,.pt 0 0),(7,.pt 1 0),(8,.d (.b false)),(11,.pt 2 0),(13,.d (.b (decide (x_33.X≤x_31.Hi)))),(133,(dI (((q_1.Field.Runners).length:Int)))),(134,(dI s))],[some (.var [.d (.ls (List.map eTSegment q_1.Field.Clocks.Segments)),.d (.ls (List.map (eL eI) q_1.Field.Clocks.Far)),.d (.ls (List.map eTPair q_1.Field.Pairs)),.d (.ls (List.map eTRunner q_1.Field.Runners)),(dI q_1.Runner),.d (.ls (List.map eTLook q_1.Looks))]),some (.var [(dI h_4.World),.d (.ls (List.map eI h_4.Offsets)),.d (.ls (List.map eTChoice h_4.Choices))]),some (.var [.d (.ls (List.map eTSegment r_19.Field.Clocks.Segments)),.d (.ls (List.map (eL eI) r_19.Field.Clocks.Far)),.d (.ls (List.map eTPair r_19.Field.Pairs)),.d (.ls (List.map eTRunner r_19.Field.Runners)),(dI r_19.Runner),.d (.ls (List.map eTLook r_19.Looks))])])) (((((q_1.Field.Runners).length:Int)) - 0:Int).toNat+1) (0) h (fun s=>rfl) (Wk.mk2 [0,1,2] 4 rfl rfl (by decide) rfl ⟨rr,rr,rr,trivial⟩ ⟨rr,rr,rr,rr,rr,rr,rr,trivial⟩) ?_
    clear h
    rintro n_46 v_45 h
    replace h:M257 q_1 h_4 r_19 x_31 x_33 M258 (n_46+1) v_45=some r_5:=h
    rw [M257] at h
    refine sg ?_
    conv=>whnf
    refine Tr.seq ?_
    refine Tr.cond ?_
    conv=>whnf
    refine cB h (fun hb49 h=>?_) (fun hb49 h=>?_)
    ·refine Tr.skip ?_
     conv=>whnf
     refine Tr.seq ?_
     refine Tr.block ?_
     refine sg ?_
     conv=>whnf
     refine sg ?_
     conv=>whnf
     obtain ⟨⟨r_50,r_51⟩,hc52,h⟩:=bS h
     refine PC.ecall (P114 q_1.Field v_45 r_50 r_51 hc52) (fun rs hrs=>?_)
     subst hrs
     conv=>whnf
     refine sg ?_
     conv=>whnf
     obtain ⟨⟨r_53,r_54⟩,hc55,h⟩:=bS h
     refine PC.ecall (P114 r_19.Field v_45 r_53 r_54 hc55) (fun rs hrs=>?_)
     subst hrs
     conv=>whnf
     refine Tr.seq ?_
     refine Tr.seq ?_
     refine Tr.cutQ1 ([(4,.pt 0 0),(7,.pt 1 0),(8,.d (.b false)),(11,.pt 2 0),(13,.d (.b (decide (x_33.X≤x_31.Hi)))),(16,(dI v_45)),(19,.pt 3 0),(133,(dI (((q_1.Field.Runners).length:Int)))),(134,(dI v_45)),(184,.d (.b ((r_51 != 0) || ((r_54 != 0) || (bif (r_53.Kind != 3) then ((decide (r_53.Lo < r_50.Lo)) || ((decide (r_53.Hi > r_50.Hi)) || (r_53.Out && (!r_50.Out)))) else (r_53.Out && (!r_50.Out)))))))]) ([some (.var [.d (.ls (List.map eTSegment q_1.Field.Clocks.Segments)),.d (.ls (List.map (eL eI) q_1.Field.Clocks.Far)),.d (.ls (List.map eTPair q_1.Field.Pairs)),.d (.ls (List.map eTRunner q_1.Field.Runners)),(dI q_1.Runner),.d (.ls (List.map eTLook q_1.Looks))]),some (.var [(dI h_4.World),.d (.ls (List.map eI h_4.Offsets)),.d (.ls (List.map eTChoice h_4.Choices))]),some (.var [.d (.ls (List.map eTSegment r_19.Field.Clocks.Segments)),.d (.ls (List.map (eL eI) r_19.Field.Clocks.Far)),.d (.ls (List.map eTPair r_19.Field.Pairs)),.d (.ls (List.map eTRunner r_19.Field.Runners)),(dI r_19.Runner),.d (.ls (List.map eTLook r_19.Looks))]),some (.var [(dI r_53.Bib),(dI r_53.Kind),(dI r_53.Lo),(dI r_53.Hi),.d (.b r_53.Out)])]) ?_ (fun T1 H1 hw=>?_)
     ·refine rg ?_
      conv=>whnf
      refine condS_mk (fun hb57=>?_) (fun hb57=>?_)
      ·conv=>whnf
       exact Wk.mk2 [0,1,2,4] 5 rfl rfl (by decide) rfl ⟨rr,rr,rr,rr,trivial⟩ ⟨rr,rr,rr,rr,rr,rr,⟨rfl,(by first | rfl | (simp only [↓hb8,↓hb11,↓hb14,↓hb15,↓hb29,↓hb34,↓hb35,↓hb39,↓hb42,↓hb43,↓hb49,↓hb57,bl,List.length_set]; done) | (simp only [↓hb8,↓hb11,↓hb14,↓hb15,↓hb29,↓hb34,↓hb35,↓hb39,↓hb42,↓hb43,↓hb49,↓hb57,bl,List.length_set]; rfl))⟩,rr,rr,⟨rfl,(by first | rfl | (simp only [↓hb8,↓hb11,↓hb14,↓hb15,↓hb29,↓hb34,↓hb35,↓hb39,↓hb42,↓hb43,↓hb49,↓hb57,bl,List.length_set]; done) | (simp only [↓hb8,↓hb11,↓hb14,↓hb15,↓hb29,↓hb34,↓hb35,↓hb39,↓hb42,↓hb43,↓hb49,↓hb57,bl,List.length_set]; rfl))⟩,trivial⟩
      conv=>whnf
      refine condS_mk (fun hb58=>?_) (fun hb58=>?_)
      ·conv=>whnf
       exact Wk.mk2 [0,1,2,4] 5 rfl rfl (by decide) rfl ⟨rr,rr,rr,rr,trivial⟩ ⟨rr,rr,rr,rr,rr,rr,⟨rfl,(by first | rfl | (simp only [↓hb8,↓hb11,↓hb14,↓hb15,↓hb29,↓hb34,↓hb35,↓hb39,↓hb42,↓hb43,↓hb49,↓hb57,↓hb58,bl,List.length_set]; done) | (simp only [↓hb8,↓hb11,↓hb14,↓hb15,↓hb29,↓hb34,↓hb35,↓hb39,↓hb42,↓hb43,↓hb49,↓hb57,↓hb58,bl,List.length_set]; rfl))⟩,rr,rr,⟨rfl,(by first | rfl | (simp only [↓hb8,↓hb11,↓hb14,↓hb15,↓hb29,↓hb34,↓hb35,↓hb39,↓hb42,↓hb43,↓hb49,↓hb57,↓hb58,bl,List.length_set]; done) | (simp only [↓hb8,↓hb11,↓hb14,↓hb15,↓hb29,↓hb34,↓hb35,↓hb39,↓hb42,↓hb43,↓hb49,↓hb57,↓hb58,bl,List.length_set]; rfl))⟩,trivial⟩
      conv=>whnf
      refine condS_mk (fun hb59=>?_) (fun hb59=>?_)
      ·conv=>whnf
       refine condS_mk (fun hb60=>?_) (fun hb60=>?_)
       ·conv=>whnf
        exact Wk.mk2 [0,1,2,4] 5 rfl rfl (by decide) rfl ⟨rr,rr,rr,rr,trivial⟩ ⟨rr,rr,rr,rr,rr,rr,⟨rfl,(by first | rfl | (simp only [↓hb8,↓hb11,↓hb14,↓hb15,↓hb29,↓hb34,↓hb35,↓hb39,↓hb42,↓hb43,↓hb49,↓hb57,↓hb58,↓hb59,↓hb60,bl,List.length_set]; done) | (simp only [↓hb8,↓hb11,↓hb14,↓hb15,↓hb29,↓hb34,↓hb35,↓hb39,↓hb42,↓hb43,↓hb49,↓hb57,↓hb58,↓hb59,↓hb60,bl,List.length_set]; rfl))⟩,rr,rr,⟨rfl,(by first | rfl | (simp only [↓hb8,↓hb11,↓hb14,↓hb15,↓hb29,↓hb34,↓hb35,↓hb39,↓hb42,↓hb43,↓hb49,↓hb57,↓hb58,↓hb59,↓hb60,bl,List.length_set]; done) | (simp only [↓hb8,↓hb11,↓hb14,↓hb15,↓hb29,↓hb34,↓hb35,↓hb39,↓hb42,↓hb43,↓hb49,↓hb57,↓hb58,↓hb59,↓hb60,bl,List.length_set]; rfl))⟩,trivial⟩
       conv=>whnf
       refine condS_mk (fun hb61=>?_) (fun hb61=>?_)
       ·conv=>whnf
        exact Wk.mk2 [0,1,2,4] 5 rfl rfl (by decide) rfl ⟨rr,rr,rr,rr,trivial⟩ ⟨rr,rr,rr,rr,rr,rr,⟨rfl,(by first | rfl | (simp only [↓hb8,↓hb11,↓hb14,↓hb15,↓hb29,↓hb34,↓hb35,↓hb39,↓hb42,↓hb43,↓hb49,↓hb57,↓hb58,↓hb59,↓hb60,↓hb61,bl,List.length_set]; done) | (simp only [↓hb8,↓hb11,↓hb14,↓hb15,↓hb29,↓hb34,↓hb35,↓hb39,↓hb42,↓hb43,↓hb49,↓hb57,↓hb58,↓hb59,↓hb60,↓hb61,bl,List.length_set]; rfl))⟩,rr,rr,⟨rfl,(by first | rfl | (simp only [↓hb8,↓hb11,↓hb14,↓hb15,↓hb29,↓hb34,↓hb35,↓hb39,↓hb42,↓hb43,↓hb49,↓hb57,↓hb58,↓hb59,↓hb60,↓hb61,bl,List.length_set]; done) | (simp only [↓hb8,↓hb11,↓hb14,↓hb15,↓hb29,↓hb34,↓hb35,↓hb39,↓hb42,↓hb43,↓hb49,↓hb57,↓hb58,↓hb59,↓hb60,↓hb61,bl,List.length_set]; rfl))⟩,trivial⟩
       conv=>whnf
       refine condS_mk (fun hb62=>?_) (fun hb62=>?_)
       ·conv=>whnf
        exact Wk.mk2 [0,1,2,4] 5 rfl rfl (by decide) rfl ⟨rr,rr,rr,rr,trivial⟩ ⟨rr,rr,rr,rr,rr,rr,⟨rfl,(by first | rfl | (simp only [↓hb8,↓hb11,↓hb14,↓hb15,↓hb29,↓hb34,↓hb35,↓hb39,↓hb42,↓hb43,↓hb49,↓hb57,↓hb58,↓hb59,↓hb60,↓hb61,↓hb62,bl,List.length_set]; done) | (simp only [↓hb8,↓hb11,↓hb14,↓hb15,↓hb29,↓hb34,↓hb35,↓hb39,↓hb42,↓hb43,↓hb49,↓hb57,↓hb58,↓hb59,↓hb60,↓hb61,↓hb62,bl,List.length_set]; rfl))⟩,rr,rr,⟨rfl,(by first | rfl | (simp only [↓hb8,↓hb11,↓hb14,↓hb15,↓hb29,↓hb34,↓hb35,↓hb39,↓hb42,↓hb43,↓hb49,↓hb57,↓hb58,↓hb59,↓hb60,↓hb61,↓hb62,bl,List.length_set]; done) | (simp only [↓hb8,↓hb11,↓hb14,↓hb15,↓hb29,↓hb34,↓hb35,↓hb39,↓hb42,↓hb43,↓hb49,↓hb57,↓hb58,↓hb59,↓hb60,↓hb61,↓hb62,bl,List.length_set]; rfl))⟩,trivial⟩
       conv=>whnf
       exact Wk.mk2 [0,1,2,4] 5 rfl rfl (by decide) rfl ⟨rr,rr,rr,rr,trivial⟩ ⟨rr,rr,rr,rr,rr,rr,⟨rfl,(by first | rfl | (simp only [↓hb8,↓hb11,↓hb14,↓hb15,↓hb29,↓hb34,↓hb35,↓hb39,↓hb42,↓hb43,↓hb49,↓hb57,↓hb58,↓hb59,↓hb60,↓hb61,↓hb62,bl,List.length_set]; done) | (simp only [↓hb8,↓hb11,↓hb14,↓hb15,↓hb29,↓hb34,↓hb35,↓hb39,↓hb42,↓hb43,↓hb49,↓hb57,↓hb58,↓hb59,↓hb60,↓hb61,↓hb62,bl,List.length_set]; rfl))⟩,rr,rr,⟨rfl,(by first | rfl | (simp only [↓hb8,↓hb11,↓hb14,↓hb15,↓hb29,↓hb34,↓hb35,↓hb39,↓hb42,↓hb43,↓hb49,↓hb57,↓hb58,↓hb59,↓hb60,↓hb61,↓hb62,bl,List.length_set]; done) | (simp only [↓hb8,↓hb11,↓hb14,↓hb15,↓hb29,↓hb34,↓hb35,↓hb39,↓hb42,↓hb43,↓hb49,↓hb57,↓hb58,↓hb59,↓hb60,↓hb61,↓hb62,bl,List.length_set]; rfl))⟩,trivial⟩
      conv=>whnf
      refine condS_mk (fun hb63=>?_) (fun hb63=>?_)
      ·conv=>whnf
       exact Wk.mk2 [0,1,2,4] 5 rfl rfl (by decide) rfl ⟨rr,rr,rr,rr,trivial⟩ ⟨rr,rr,rr,rr,rr,rr,⟨rfl,(by first | rfl | (simp only [↓hb8,↓hb11,↓hb14,↓hb15,↓hb29,↓hb34,↓hb35,↓hb39,↓hb42,↓hb43,↓hb49,↓hb57,↓hb58,↓hb59,↓hb63,bl,List.length_set]; done) | (simp only [↓hb8,↓hb11,↓hb14,↓hb15,↓hb29,↓hb34,↓hb35,↓hb39,↓hb42,↓hb43,↓hb49,↓hb57,↓hb58,↓hb59,↓hb63,bl,List.length_set]; rfl))⟩,rr,rr,⟨rfl,(by first | rfl | (simp only [↓hb8,↓hb11,↓hb14,↓hb15,↓hb29,↓hb34,↓hb35,↓hb39,↓hb42,↓hb43,↓hb49,↓hb57,↓hb58,↓hb59,↓hb63,bl,List.length_set]; done) | (simp only [↓hb8,↓hb11,↓hb14,↓hb15,↓hb29,↓hb34,↓hb35,↓hb39,↓hb42,↓hb43,↓hb49,↓hb57,↓hb58,↓hb59,↓hb63,bl,List.length_set]; rfl))⟩,trivial⟩
      conv=>whnf
      exact Wk.mk2 [0,1,2,4] 5 rfl rfl (by decide) rfl ⟨rr,rr,rr,rr,trivial⟩ ⟨rr,rr,rr,rr,rr,rr,⟨rfl,(by first | rfl | (simp only [↓hb8,↓hb11,↓hb14,↓hb15,↓hb29,↓hb34,↓hb35,↓hb39,↓hb42,↓hb43,↓hb49,↓hb57,↓hb58,↓hb59,↓hb63,bl,List.length_set]; done) | (simp only [↓hb8,↓hb11,↓hb14,↓hb15,↓hb29,↓hb34,↓hb35,↓hb39,↓hb42,↓hb43,↓hb49,↓hb57,↓hb58,↓hb59,↓hb63,bl,List.length_set]; rfl))⟩,rr,rr,⟨rfl,(by first | rfl | (simp only [↓hb8,↓hb11,↓hb14,↓hb15,↓hb29,↓hb34,↓hb35,↓hb39,↓hb42,↓hb43,↓hb49,↓hb57,↓hb58,↓hb59,↓hb63,bl,List.length_set]; done) | (simp only [↓hb8,↓hb11,↓hb14,↓hb15,↓hb29,↓hb34,↓hb35,↓hb39,↓hb42,↓hb43,↓hb49,↓hb57,↓hb58,↓hb59,↓hb63,bl,List.length_set]; rfl))⟩,trivial⟩
     conv=>whnf
     refine Tr.weak hw ?_
     refine Tr.cond ?_
     conv=>whnf
     refine cB h (fun hb64 h=>?_) (fun hb64 h=>?_)
     ·refine sg ?_
      conv=>whnf
      refine Tr.ret ?_
      conv=>whnf
      cases h
      rfl
     refine Tr.skip ?_
     conv=>whnf
     refine sg ?_
     conv=>whnf
     refine Tr.cond ?_
     conv=>whnf
     refine cB h (fun hb65 h=>?_) (fun hb65 h=>?_)
     ·refine sg ?_
      conv=>whnf
      obtain ⟨⟨r_66,r_67⟩,hc68,h⟩:=bS h
      refine PC.ecall (P256 q_1.Field h_4 v_45 r_66 r_67 hc68) (fun rs hrs=>?_)
      subst hrs
      conv=>whnf
      refine Tr.seq ?_
      refine Tr.cutQ1 ([(4,.pt 0 0),(7,.pt 1 0),(8,.d (.b false)),(11,.pt 2 0),(13,.d (.b (decide (x_33.X≤x_31.Hi)))),(133,(dI (((q_1.Field.Runners).length:Int)))),(134,(dI v_45)),(220,.d (.b ((r_67 != 0) || (bif (r_66 == 0) then ((!r_53.Out) || ((decide (r_66 > 0)) && ((decide (r_66 < r_53.Lo)) || (decide (r_66 > r_53.Hi))))) else ((decide (r_66 > 0)) && ((decide (r_66 < r_53.Lo)) || (decide (r_66 > r_53.Hi))))))))]) ([some (.var [.d (.ls (List.map eTSegment q_1.Field.Clocks.Segments)),.d (.ls (List.map (eL eI) q_1.Field.Clocks.Far)),.d (.ls (List.map eTPair q_1.Field.Pairs)),.d (.ls (List.map eTRunner q_1.Field.Runners)),(dI q_1.Runner),.d (.ls (List.map eTLook q_1.Looks))]),some (.var [(dI h_4.World),.d (.ls (List.map eI h_4.Offsets)),.d (.ls (List.map eTChoice h_4.Choices))]),some (.var [.d (.ls (List.map eTSegment r_19.Field.Clocks.Segments)),.d (.ls (List.map (eL eI) r_19.Field.Clocks.Far)),.d (.ls (List.map eTPair r_19.Field.Pairs)),.d (.ls (List.map eTRunner r_19.Field.Runners)),(dI r_19.Runner),.d (.ls (List.map eTLook r_19.Looks))])]) ?_ (fun T1 H1 hw=>?_)
      ·refine rg ?_
       conv=>whnf
       refine condS_mk (fun hb70=>?_) (fun hb70=>?_)
       ·conv=>whnf
        exact Wk.mk2 [0,1,2] 4 rfl rfl (by decide) rfl ⟨rr,rr,rr,trivial⟩ ⟨rr,rr,rr,rr,rr,rr,rr,⟨rfl,(by first | rfl | (simp only [↓hb8,↓hb11,↓hb14,↓hb15,↓hb29,↓hb34,↓hb35,↓hb39,↓hb42,↓hb43,↓hb49,↓hb64,↓hb65,↓hb70,bl,List.length_set]; done) | (simp only [↓hb8,↓hb11,↓hb14,↓hb15,↓hb29,↓hb34,↓hb35,↓hb39,↓hb42,↓hb43,↓hb49,↓hb64,↓hb65,↓hb70,bl,List.length_set]; rfl))⟩,trivial⟩
       conv=>whnf
       refine condS_mk (fun hb71=>?_) (fun hb71=>?_)
       ·conv=>whnf
        refine condS_mk (fun hb72=>?_) (fun hb72=>?_)
        ·conv=>whnf
         exact Wk.mk2 [0,1,2] 4 rfl rfl (by decide) rfl ⟨rr,rr,rr,trivial⟩ ⟨rr,rr,rr,rr,rr,rr,rr,⟨rfl,(by first | rfl | (simp only [↓hb8,↓hb11,↓hb14,↓hb15,↓hb29,↓hb34,↓hb35,↓hb39,↓hb42,↓hb43,↓hb49,↓hb64,↓hb65,↓hb70,↓hb71,↓hb72,bl,List.length_set]; done) | (simp only [↓hb8,↓hb11,↓hb14,↓hb15,↓hb29,↓hb34,↓hb35,↓hb39,↓hb42,↓hb43,↓hb49,↓hb64,↓hb65,↓hb70,↓hb71,↓hb72,bl,List.length_set]; rfl))⟩,trivial⟩
        conv=>whnf
        refine condS_mk (fun hb73=>?_) (fun hb73=>?_)
        ·conv=>whnf
         refine condS_mk (fun hb74=>?_) (fun hb74=>?_)
         ·conv=>whnf
          exact Wk.mk2 [0,1,2] 4 rfl rfl (by decide) rfl ⟨rr,rr,rr,trivial⟩ ⟨rr,rr,rr,rr,rr,rr,rr,⟨rfl,(by first | rfl | (simp only [↓hb8,↓hb11,↓hb14,↓hb15,↓hb29,↓hb34,↓hb35,↓hb39,↓hb42,↓hb43,↓hb49,↓hb64,↓hb65,↓hb70,↓hb71,↓hb72,↓hb73,↓hb74,bl,List.length_set]; done) | (simp only [↓hb8,↓hb11,↓hb14,↓hb15,↓hb29,↓hb34,↓hb35,↓hb39,↓hb42,↓hb43,↓hb49,↓hb64,↓hb65,↓hb70,↓hb71,↓hb72,↓hb73,↓hb74,bl,List.length_set]; rfl))⟩,trivial⟩
         conv=>whnf
         exact Wk.mk2 [0,1,2] 4 rfl rfl (by decide) rfl ⟨rr,rr,rr,trivial⟩ ⟨rr,rr,rr,rr,rr,rr,rr,⟨rfl,(by first | rfl | (simp only [↓hb8,↓hb11,↓hb14,↓hb15,↓hb29,↓hb34,↓hb35,↓hb39,↓hb42,↓hb43,↓hb49,↓hb64,↓hb65,↓hb70,↓hb71,↓hb72,↓hb73,↓hb74,bl,List.length_set]; done) | (simp only [↓hb8,↓hb11,↓hb14,↓hb15,↓hb29,↓hb34,↓hb35,↓hb39,↓hb42,↓hb43,↓hb49,↓hb64,↓hb65,↓hb70,↓hb71,↓hb72,↓hb73,↓hb74,bl,List.length_set]; rfl))⟩,trivial⟩
        conv=>whnf
        exact Wk.mk2 [0,1,2] 4 rfl rfl (by decide) rfl ⟨rr,rr,rr,trivial⟩ ⟨rr,rr,rr,rr,rr,rr,rr,⟨rfl,(by first | rfl | (simp only [↓hb8,↓hb11,↓hb14,↓hb15,↓hb29,↓hb34,↓hb35,↓hb39,↓hb42,↓hb43,↓hb49,↓hb64,↓hb65,↓hb70,↓hb71,↓hb72,↓hb73,bl,List.length_set]; done) | (simp only [↓hb8,↓hb11,↓hb14,↓hb15,↓hb29,↓hb34,↓hb35,↓hb39,↓hb42,↓hb43,↓hb49,↓hb64,↓hb65,↓hb70,↓hb71,↓hb72,↓hb73,bl,List.length_set]; rfl))⟩,trivial⟩
       conv=>whnf
       refine condS_mk (fun hb75=>?_) (fun hb75=>?_)
       ·conv=>whnf
        refine condS_mk (fun hb76=>?_) (fun hb76=>?_)
        ·conv=>whnf
         exact Wk.mk2 [0,1,2] 4 rfl rfl (by decide) rfl ⟨rr,rr,rr,trivial⟩ ⟨rr,rr,rr,rr,rr,rr,rr,⟨rfl,(by first | rfl | (simp only [↓hb8,↓hb11,↓hb14,↓hb15,↓hb29,↓hb34,↓hb35,↓hb39,↓hb42,↓hb43,↓hb49,↓hb64,↓hb65,↓hb70,↓hb71,↓hb75,↓hb76,bl,List.length_set]; done) | (simp only [↓hb8,↓hb11,↓hb14,↓hb15,↓hb29,↓hb34,↓hb35,↓hb39,↓hb42,↓hb43,↓hb49,↓hb64,↓hb65,↓hb70,↓hb71,↓hb75,↓hb76,bl,List.length_set]; rfl))⟩,trivial⟩
        conv=>whnf
        exact Wk.mk2 [0,1,2] 4 rfl rfl (by decide) rfl ⟨rr,rr,rr,trivial⟩ ⟨rr,rr,rr,rr,rr,rr,rr,⟨rfl,(by first | rfl | (simp only [↓hb8,↓hb11,↓hb14,↓hb15,↓hb29,↓hb34,↓hb35,↓hb39,↓hb42,↓hb43,↓hb49,↓hb64,↓hb65,↓hb70,↓hb71,↓hb75,↓hb76,bl,List.length_set]; done) | (simp only [↓hb8,↓hb11,↓hb14,↓hb15,↓hb29,↓hb34,↓hb35,↓hb39,↓hb42,↓hb43,↓hb49,↓hb64,↓hb65,↓hb70,↓hb71,↓hb75,↓hb76,bl,List.length_set]; rfl))⟩,trivial⟩
       conv=>whnf
       exact Wk.mk2 [0,1,2] 4 rfl rfl (by decide) rfl ⟨rr,rr,rr,trivial⟩ ⟨rr,rr,rr,rr,rr,rr,rr,⟨rfl,(by first | rfl | (simp only [↓hb8,↓hb11,↓hb14,↓hb15,↓hb29,↓hb34,↓hb35,↓hb39,↓hb42,↓hb43,↓hb49,↓hb64,↓hb65,↓hb70,↓hb71,↓hb75,bl,List.length_set]; done) | (simp only [↓hb8,↓hb11,↓hb14,↓hb15,↓hb29,↓hb34,↓hb35,↓hb39,↓hb42,↓hb43,↓hb49,↓hb64,↓hb65,↓hb70,↓hb71,↓hb75,bl,List.length_set]; rfl))⟩,trivial⟩
      conv=>whnf
      refine Tr.weak hw ?_
      refine Tr.cond ?_
      conv=>whnf
      refine cB h (fun hb77 h=>?_) (fun hb77 h=>?_)
      ·refine sg ?_
       conv=>whnf
       refine Tr.ret ?_
       conv=>whnf
       cases h
       rfl
      refine Tr.skip ?_
      conv=>whnf
      refine rg ?_
      conv=>whnf
      refine arS_raw ?_
      conv=>whnf
      refine ⟨((w64 (v_45+1))),h,?_⟩
      exact Wk.mk2 [0,1,2] 3 rfl rfl (by decide) rfl ⟨rr,rr,rr,trivial⟩ ⟨rr,rr,rr,rr,rr,rr,rr,trivial⟩
     refine Tr.skip ?_
     conv=>whnf
     refine rg ?_
     conv=>whnf
     refine arS_raw ?_
     conv=>whnf
     refine ⟨((w64 (v_45+1))),h,?_⟩
     exact Wk.mk2 [0,1,2] 4 rfl rfl (by decide) rfl ⟨rr,rr,rr,trivial⟩ ⟨rr,rr,rr,rr,rr,rr,rr,trivial⟩
    refine Tr.exit ?_
    conv=>whnf
    refine ⟨(),h,?_⟩
    exact Wk.mk2 [] 3 rfl rfl (by decide) rfl trivial ⟨rr,trivial⟩
   clear h
   rintro _ h T1 H1 hw
   replace h:M258 ()=some r_5:=h
   conv=>whnf
   refine Tr.weak hw ?_
   unfold M258 at h
   refine sg ?_
   conv=>whnf
   refine Tr.ret ?_
   conv=>whnf
   cases h
   rfl
  conv=>whnf
  refine Tr.seq ?_
  refine sg ?_
  conv=>whnf
  refine Tr.cond ?_
  conv=>whnf
  refine cB h (fun hb78 h=>?_) (fun hb78 h=>?_)
  ·refine sg ?_
   conv=>whnf
   refine cB h (fun hb79 h=>?_) (fun hb79 h=>?_)
   ·conv=>whnf
    refine Tr.ret ?_
    conv=>whnf
    cases h
    rfl
   conv=>whnf
   refine Tr.ret ?_
   conv=>whnf
   cases h
   rfl
  refine Tr.skip ?_
  conv=>whnf
  refine Tr.seq ?_
  refine sg ?_
  conv=>whnf
  obtain ⟨r_80,hc81,h⟩:=bS h
  refine PC.ecall (P55 r_19 r_80 hc81) (fun rs hrs=>?_)
  subst hrs
  conv=>whnf
  refine cB h (fun hb82 h=>?_) (fun hb82 h=>?_)
  ·conv=>whnf
   refine Tr.cond ?_
   conv=>whnf
   refine sg ?_
   conv=>whnf
   refine Tr.ret ?_
   conv=>whnf
   cases h
   rfl
  conv=>whnf
  obtain ⟨r_83,hc84,h⟩:=bS h
  refine PC.ecall (P45 r_19.Field r_83 hc84) (fun rs hrs=>?_)
  subst hrs
  conv=>whnf
  refine cB h (fun hb85 h=>?_) (fun hb85 h=>?_)
  ·conv=>whnf
   refine Tr.cond ?_
   conv=>whnf
   refine sg ?_
   conv=>whnf
   refine Tr.ret ?_
   conv=>whnf
   cases h
   rfl
  conv=>whnf
  refine lnS_map ?_
  conv=>whnf
  refine lnS_map ?_
  conv=>whnf
  refine Tr.cond ?_
  conv=>whnf
  refine cB h (fun hb86 h=>?_) (fun hb86 h=>?_)
  ·refine sg ?_
   conv=>whnf
   refine Tr.ret ?_
   conv=>whnf
   cases h
   rfl
  refine Tr.skip ?_
  conv=>whnf
  refine Tr.seq ?_
  refine sg ?_
  conv=>whnf
  refine lnS_map ?_
  conv=>whnf
  refine Tr.cutQ (α:=Unit) (fun s=>([(8,.d (.b false))],[])) (fun s=>M260 s=some r_5) ?_ ?_
  ·refine Tr.block ?_
   refine Tr.loopM (σ:=Int) (fun n s=>M259 q_1 r_19 M260 n s) r_5 (fun s=>([(4,.pt 0 0),(7,.pt 1 0),(8,.d (.b false)),(11,.pt 2 0),(13,.d (.b false)),(133,(dI (((q_1.Field.Runners).length:Int)))),(134,(dI s))],[some (.var [.d (.ls (List.map eTSegment q_1.Field.Clocks.Segments)),.d (.ls (List.map (eL eI) q_1.Field.Clocks.Far)),.d (.ls (List.map eTPair q_1.Field.Pairs)),.d (.ls (List.map eTRunner q_1.Field.Runners)),(dI q_1.Runner),.d (.ls (List.map eTLook q_1.Looks))]),some (.var [(dI h_4.World),.d (.ls (List.map eI h_4.Offsets)),.d (.ls (List.map eTChoice h_4.Choices))]),some (.var [.d (.ls (List.map eTSegment r_19.Field.Clocks.Segments)),.d (.ls (List.map (eL eI) r_19.Field.Clocks.Far)),.d (.ls (List.map eTPair r_19.Field.Pairs)),.d (.ls (List.map eTRunner r_19.Field.Runners)),(dI r_19.Runner),.d (.ls (List.map eTLook r_19.Looks))])])) (((((q_1.Field.Runners).length:Int)) - 0:Int).toNat+1) (0) h (fun s=>rfl) (Wk.mk2 [0,1,2] 4 rfl rfl (by decide) rfl ⟨rr,rr,rr,trivial⟩ ⟨rr,rr,rr,rr,rr,rr,rr,trivial⟩) ?_
   clear h
   rintro n_89 v_88 h
   replace h:M259 q_1 r_19 M260 (n_89+1) v_88=some r_5:=h
   rw [M259] at h
   refine sg ?_
   conv=>whnf
   refine Tr.seq ?_
   refine Tr.cond ?_
   conv=>whnf
   refine cB h (fun hb92 h=>?_) (fun hb92 h=>?_)
   ·refine Tr.skip ?_
    conv=>whnf
    refine Tr.seq ?_
    refine Tr.block ?_
    refine sg ?_
    conv=>whnf
    refine sg ?_
    conv=>whnf
    obtain ⟨⟨r_93,r_94⟩,hc95,h⟩:=bS h
    refine PC.ecall (P114 q_1.Field v_88 r_93 r_94 hc95) (fun rs hrs=>?_)
    subst hrs
    conv=>whnf
    refine sg ?_
    conv=>whnf
    obtain ⟨⟨r_96,r_97⟩,hc98,h⟩:=bS h
    refine PC.ecall (P114 r_19.Field v_88 r_96 r_97 hc98) (fun rs hrs=>?_)
    subst hrs
    conv=>whnf
    refine Tr.seq ?_
    refine Tr.seq ?_
    refine Tr.cutQ1 ([(4,.pt 0 0),(7,.pt 1 0),(8,.d (.b false)),(11,.pt 2 0),(13,.d (.b false)),(16,(dI v_88)),(19,.pt 3 0),(133,(dI (((q_1.Field.Runners).length:Int)))),(134,(dI v_88)),(184,.d (.b ((r_94 != 0) || ((r_97 != 0) || (bif (r_96.Kind != 3) then ((decide (r_96.Lo < r_93.Lo)) || ((decide (r_96.Hi > r_93.Hi)) || (r_96.Out && (!r_93.Out)))) else (r_96.Out && (!r_93.Out)))))))]) ([some (.var [.d (.ls (List.map eTSegment q_1.Field.Clocks.Segments)),.d (.ls (List.map (eL eI) q_1.Field.Clocks.Far)),.d (.ls (List.map eTPair q_1.Field.Pairs)),.d (.ls (List.map eTRunner q_1.Field.Runners)),(dI q_1.Runner),.d (.ls (List.map eTLook q_1.Looks))]),some (.var [(dI h_4.World),.d (.ls (List.map eI h_4.Offsets)),.d (.ls (List.map eTChoice h_4.Choices))]),some (.var [.d (.ls (List.map eTSegment r_19.Field.Clocks.Segments)),.d (.ls (List.map (eL eI) r_19.Field.Clocks.Far)),.d (.ls (List.map eTPair r_19.Field.Pairs)),.d (.ls (List.map eTRunner r_19.Field.Runners)),(dI r_19.Runner),.d (.ls (List.map eTLook r_19.Looks))]),some (.var [(dI r_96.Bib),(dI r_96.Kind),(dI r_96.Lo),(dI r_96.Hi),.d (.b r_96.Out)])]) ?_ (fun T1 H1 hw=>?_)
    ·refine rg ?_
     conv=>whnf
     refine condS_mk (fun hb100=>?_) (fun hb100=>?_)
     ·conv=>whnf
      exact Wk.mk2 [0,1,2,4] 5 rfl rfl (by decide) rfl ⟨rr,rr,rr,rr,trivial⟩ ⟨rr,rr,rr,rr,rr,rr,⟨rfl,(by first | rfl | (simp only [↓hb8,↓hb11,↓hb14,↓hb15,↓hb29,↓hb34,↓hb78,↓hb82,↓hb85,↓hb86,↓hb92,↓hb100,bl,List.length_set]; done) | (simp only [↓hb8,↓hb11,↓hb14,↓hb15,↓hb29,↓hb34,↓hb78,↓hb82,↓hb85,↓hb86,↓hb92,↓hb100,bl,List.length_set]; rfl))⟩,rr,rr,⟨rfl,(by first | rfl | (simp only [↓hb8,↓hb11,↓hb14,↓hb15,↓hb29,↓hb34,↓hb78,↓hb82,↓hb85,↓hb86,↓hb92,↓hb100,bl,List.length_set]; done) | (simp only [↓hb8,↓hb11,↓hb14,↓hb15,↓hb29,↓hb34,↓hb78,↓hb82,↓hb85,↓hb86,↓hb92,↓hb100,bl,List.length_set]; rfl))⟩,trivial⟩
     conv=>whnf
     refine condS_mk (fun hb101=>?_) (fun hb101=>?_)
     ·conv=>whnf
      exact Wk.mk2 [0,1,2,4] 5 rfl rfl (by decide) rfl ⟨rr,rr,rr,rr,trivial⟩ ⟨rr,rr,rr,rr,rr,rr,⟨rfl,(by first | rfl | (simp only [↓hb8,↓hb11,↓hb14,↓hb15,↓hb29,↓hb34,↓hb78,↓hb82,↓hb85,↓hb86,↓hb92,↓hb100,↓hb101,bl,List.length_set]; done) | (simp only [↓hb8,↓hb11,↓hb14,↓hb15,↓hb29,↓hb34,↓hb78,↓hb82,↓hb85,↓hb86,↓hb92,↓hb100,↓hb101,bl,List.length_set]; rfl))⟩,rr,rr,⟨rfl,(by first | rfl | (simp only [↓hb8,↓hb11,↓hb14,↓hb15,↓hb29,↓hb34,↓hb78,↓hb82,↓hb85,↓hb86,↓hb92,↓hb100,↓hb101,bl,List.length_set]; done) | (simp only [↓hb8,↓hb11,↓hb14,↓hb15,↓hb29,↓hb34,↓hb78,↓hb82,↓hb85,↓hb86,↓hb92,↓hb100,↓hb101,bl,List.length_set]; rfl))⟩,trivial⟩
     conv=>whnf
     refine condS_mk (fun hb102=>?_) (fun hb102=>?_)
     ·conv=>whnf
      refine condS_mk (fun hb103=>?_) (fun hb103=>?_)
      ·conv=>whnf
       exact Wk.mk2 [0,1,2,4] 5 rfl rfl (by decide) rfl ⟨rr,rr,rr,rr,trivial⟩ ⟨rr,rr,rr,rr,rr,rr,⟨rfl,(by first | rfl | (simp only [↓hb8,↓hb11,↓hb14,↓hb15,↓hb29,↓hb34,↓hb78,↓hb82,↓hb85,↓hb86,↓hb92,↓hb100,↓hb101,↓hb102,↓hb103,bl,List.length_set]; done) | (simp only [↓hb8,↓hb11,↓hb14,↓hb15,↓hb29,↓hb34,↓hb78,↓hb82,↓hb85,↓hb86,↓hb92,↓hb100,↓hb101,↓hb102,↓hb103,bl,List.length_set]; rfl))⟩,rr,rr,⟨rfl,(by first | rfl | (simp only [↓hb8,↓hb11,↓hb14,↓hb15,↓hb29,↓hb34,↓hb78,↓hb82,↓hb85,↓hb86,↓hb92,↓hb100,↓hb101,↓hb102,↓hb103,bl,List.length_set]; done) | (simp only [↓hb8,↓hb11,↓hb14,↓hb15,↓hb29,↓hb34,↓hb78,↓hb82,↓hb85,↓hb86,↓hb92,↓hb100,↓hb101,↓hb102,↓hb103,bl,List.length_set]; rfl))⟩,trivial⟩
      conv=>whnf
      refine condS_mk (fun hb104=>?_) (fun hb104=>?_)
      ·conv=>whnf
       exact Wk.mk2 [0,1,2,4] 5 rfl rfl (by decide) rfl ⟨rr,rr,rr,rr,trivial⟩ ⟨rr,rr,rr,rr,rr,rr,⟨rfl,(by first | rfl | (simp only [↓hb8,↓hb11,↓hb14,↓hb15,↓hb29,↓hb34,↓hb78,↓hb82,↓hb85,↓hb86,↓hb92,↓hb100,↓hb101,↓hb102,↓hb103,↓hb104,bl,List.length_set]; done) | (simp only [↓hb8,↓hb11,↓hb14,↓hb15,↓hb29,↓hb34,↓hb78,↓hb82,↓hb85,↓hb86,↓hb92,↓hb100,↓hb101,↓hb102,↓hb103,↓hb104,bl,List.length_set]; rfl))⟩,rr,rr,⟨rfl,(by first | rfl | (simp only [↓hb8,↓hb11,↓hb14,↓hb15,↓hb29,↓hb34,↓hb78,↓hb82,↓hb85,↓hb86,↓hb92,↓hb100,↓hb101,↓hb102,↓hb103,↓hb104,bl,List.length_set]; done) | (simp only [↓hb8,↓hb11,↓hb14,↓hb15,↓hb29,↓hb34,↓hb78,↓hb82,↓hb85,↓hb86,↓hb92,↓hb100,↓hb101,↓hb102,↓hb103,↓hb104,bl,List.length_set]; rfl))⟩,trivial⟩
      conv=>whnf
      refine condS_mk (fun hb105=>?_) (fun hb105=>?_)
      ·conv=>whnf
       exact Wk.mk2 [0,1,2,4] 5 rfl rfl (by decide) rfl ⟨rr,rr,rr,rr,trivial⟩ ⟨rr,rr,rr,rr,rr,rr,⟨rfl,(by first | rfl | (simp only [↓hb8,↓hb11,↓hb14,↓hb15,↓hb29,↓hb34,↓hb78,↓hb82,↓hb85,↓hb86,↓hb92,↓hb100,↓hb101,↓hb102,↓hb103,↓hb104,↓hb105,bl,List.length_set]; done) | (simp only [↓hb8,↓hb11,↓hb14,↓hb15,↓hb29,↓hb34,↓hb78,↓hb82,↓hb85,↓hb86,↓hb92,↓hb100,↓hb101,↓hb102,↓hb103,↓hb104,↓hb105,bl,List.length_set]; rfl))⟩,rr,rr,⟨rfl,(by first | rfl | (simp only [↓hb8,↓hb11,↓hb14,↓hb15,↓hb29,↓hb34,↓hb78,↓hb82,↓hb85,↓hb86,↓hb92,↓hb100,↓hb101,↓hb102,↓hb103,↓hb104,↓hb105,bl,List.length_set]; done) | (simp only [↓hb8,↓hb11,↓hb14,↓hb15,↓hb29,↓hb34,↓hb78,↓hb82,↓hb85,↓hb86,↓hb92,↓hb100,↓hb101,↓hb102,↓hb103,↓hb104,↓hb105,bl,List.length_set]; rfl))⟩,trivial⟩
      conv=>whnf
      exact Wk.mk2 [0,1,2,4] 5 rfl rfl (by decide) rfl ⟨rr,rr,rr,rr,trivial⟩ ⟨rr,rr,rr,rr,rr,rr,⟨rfl,(by first | rfl | (simp only [↓hb8,↓hb11,↓hb14,↓hb15,↓hb29,↓hb34,↓hb78,↓hb82,↓hb85,↓hb86,↓hb92,↓hb100,↓hb101,↓hb102,↓hb103,↓hb104,↓hb105,bl,List.length_set]; done) | (simp only [↓hb8,↓hb11,↓hb14,↓hb15,↓hb29,↓hb34,↓hb78,↓hb82,↓hb85,↓hb86,↓hb92,↓hb100,↓hb101,↓hb102,↓hb103,↓hb104,↓hb105,bl,List.length_set]; rfl))⟩,rr,rr,⟨rfl,(by first | rfl | (simp only [↓hb8,↓hb11,↓hb14,↓hb15,↓hb29,↓hb34,↓hb78,↓hb82,↓hb85,↓hb86,↓hb92,↓hb100,↓hb101,↓hb102,↓hb103,↓hb104,↓hb105,bl,List.length_set]; done) | (simp only [↓hb8,↓hb11,↓hb14,↓hb15,↓hb29,↓hb34,↓hb78,↓hb82,↓hb85,↓hb86,↓hb92,↓hb100,↓hb101,↓hb102,↓hb103,↓hb104,↓hb105,bl,List.length_set]; rfl))⟩,trivial⟩
     conv=>whnf
     refine condS_mk (fun hb106=>?_) (fun hb106=>?_)
     ·conv=>whnf
      exact Wk.mk2 [0,1,2,4] 5 rfl rfl (by decide) rfl ⟨rr,rr,rr,rr,trivial⟩ ⟨rr,rr,rr,rr,rr,rr,⟨rfl,(by first | rfl | (simp only [↓hb8,↓hb11,↓hb14,↓hb15,↓hb29,↓hb34,↓hb78,↓hb82,↓hb85,↓hb86,↓hb92,↓hb100,↓hb101,↓hb102,↓hb106,bl,List.length_set]; done) | (simp only [↓hb8,↓hb11,↓hb14,↓hb15,↓hb29,↓hb34,↓hb78,↓hb82,↓hb85,↓hb86,↓hb92,↓hb100,↓hb101,↓hb102,↓hb106,bl,List.length_set]; rfl))⟩,rr,rr,⟨rfl,(by first | rfl | (simp only [↓hb8,↓hb11,↓hb14,↓hb15,↓hb29,↓hb34,↓hb78,↓hb82,↓hb85,↓hb86,↓hb92,↓hb100,↓hb101,↓hb102,↓hb106,bl,List.length_set]; done) | (simp only [↓hb8,↓hb11,↓hb14,↓hb15,↓hb29,↓hb34,↓hb78,↓hb82,↓hb85,↓hb86,↓hb92,↓hb100,↓hb101,↓hb102,↓hb106,bl,List.length_set]; rfl))⟩,trivial⟩
     conv=>whnf
     exact Wk.mk2 [0,1,2,4] 5 rfl rfl (by decide) rfl ⟨rr,rr,rr,rr,trivial⟩ ⟨rr,rr,rr,rr,rr,rr,⟨rfl,(by first | rfl | (simp only [↓hb8,↓hb11,↓hb14,↓hb15,↓hb29,↓hb34,↓hb78,↓hb82,↓hb85,↓hb86,↓hb92,↓hb100,↓hb101,↓hb102,↓hb106,bl,List.length_set]; done) | (simp only [↓hb8,↓hb11,↓hb14,↓hb15,↓hb29,↓hb34,↓hb78,↓hb82,↓hb85,↓hb86,↓hb92,↓hb100,↓hb101,↓hb102,↓hb106,bl,List.length_set]; rfl))⟩,rr,rr,⟨rfl,(by first | rfl | (simp only [↓hb8,↓hb11,↓hb14,↓hb15,↓hb29,↓hb34,↓hb78,↓hb82,↓hb85,↓hb86,↓hb92,↓hb100,↓hb101,↓hb102,↓hb106,bl,List.length_set]; done) | (simp only [↓hb8,↓hb11,↓hb14,↓hb15,↓hb29,↓hb34,↓hb78,↓hb82,↓hb85,↓hb86,↓hb92,↓hb100,↓hb101,↓hb102,↓hb106,bl,List.length_set]; rfl))⟩,trivial⟩
    conv=>whnf
    refine Tr.weak hw ?_
    refine Tr.cond ?_
    conv=>whnf
    refine cB h (fun hb107 h=>?_) (fun hb107 h=>?_)
    ·refine sg ?_
     conv=>whnf
     refine Tr.ret ?_
     conv=>whnf
     cases h
     rfl
    refine Tr.skip ?_
    conv=>whnf
    refine sg ?_
    conv=>whnf
    refine Tr.cond ?_
    conv=>whnf
    refine Tr.skip ?_
    conv=>whnf
    refine rg ?_
    conv=>whnf
    refine arS_raw ?_
    conv=>whnf
    refine ⟨((w64 (v_88+1))),h,?_⟩
    exact Wk.mk2 [0,1,2] 4 rfl rfl (by decide) rfl ⟨rr,rr,rr,trivial⟩ ⟨rr,rr,rr,rr,rr,rr,rr,trivial⟩
   refine Tr.exit ?_
   conv=>whnf
   refine ⟨(),h,?_⟩
   exact Wk.mk2 [] 3 rfl rfl (by decide) rfl trivial ⟨rr,trivial⟩
  clear h
  rintro _ h T1 H1 hw
  replace h:M260 ()=some r_5:=h
  conv=>whnf
  refine Tr.weak hw ?_
  unfold M260 at h
  refine sg ?_
  conv=>whnf
  refine Tr.ret ?_
  conv=>whnf
  cases h
  rfl
 refine Tr.skip ?_
 conv=>whnf
 refine Tr.seq ?_
 refine sg ?_
 conv=>whnf
 refine Tr.cond ?_
 conv=>whnf
 refine cB h (fun hb108 h=>?_) (fun hb108 h=>?_)
 ·refine sg ?_
  conv=>whnf
  refine cB h (fun hb109 h=>?_) (fun hb109 h=>?_)
  ·conv=>whnf
   refine Tr.ret ?_
   conv=>whnf
   cases h
   rfl
  conv=>whnf
  refine Tr.ret ?_
  conv=>whnf
  cases h
  rfl
 refine Tr.skip ?_
 conv=>whnf
 refine Tr.seq ?_
 refine sg ?_
 conv=>whnf
 obtain ⟨r_110,hc111,h⟩:=bS h
 refine PC.ecall (P55 r_19 r_110 hc111) (fun rs hrs=>?_)
 subst hrs
 conv=>whnf
 refine cB h (fun hb112 h=>?_) (fun hb112 h=>?_)
 ·conv=>whnf
  refine Tr.cond ?_
  conv=>whnf
  refine sg ?_
  conv=>whnf
  refine Tr.ret ?_
  conv=>whnf
  cases h
  rfl
 conv=>whnf
 obtain ⟨r_113,hc114,h⟩:=bS h
 refine PC.ecall (P45 r_19.Field r_113 hc114) (fun rs hrs=>?_)
 subst hrs
 conv=>whnf
 refine cB h (fun hb115 h=>?_) (fun hb115 h=>?_)
 ·conv=>whnf
  refine Tr.cond ?_
  conv=>whnf
  refine sg ?_
  conv=>whnf
  refine Tr.ret ?_
  conv=>whnf
  cases h
  rfl
 conv=>whnf
 refine lnS_map ?_
 conv=>whnf
 refine lnS_map ?_
 conv=>whnf
 refine Tr.cond ?_
 conv=>whnf
 refine cB h (fun hb116 h=>?_) (fun hb116 h=>?_)
 ·refine sg ?_
  conv=>whnf
  refine Tr.ret ?_
  conv=>whnf
  cases h
  rfl
 refine Tr.skip ?_
 conv=>whnf
 refine Tr.seq ?_
 refine sg ?_
 conv=>whnf
 refine lnS_map ?_
 conv=>whnf
 refine Tr.cutQ (α:=Unit) (fun s=>([(8,.d (.b false))],[])) (fun s=>M262 s=some r_5) ?_ ?_
 ·refine Tr.block ?_
  refine Tr.loopM (σ:=Int) (fun n s=>M261 q_1 r_19 M262 n s) r_5 (fun s=>([(4,.pt 0 0),(7,.pt 1 0),(8,.d (.b false)),(11,.pt 2 0),(13,.d (.b fits_22)),(133,(dI (((q_1.Field.Runners).length:Int)))),(134,(dI s))],[some (.var [.d (.ls (List.map eTSegment q_1.Field.Clocks.Segments)),.d (.ls (List.map (eL eI) q_1.Field.Clocks.Far)),.d (.ls (List.map eTPair q_1.Field.Pairs)),.d (.ls (List.map eTRunner q_1.Field.Runners)),(dI q_1.Runner),.d (.ls (List.map eTLook q_1.Looks))]),some (.var [(dI h_4.World),.d (.ls (List.map eI h_4.Offsets)),.d (.ls (List.map eTChoice h_4.Choices))]),some (.var [.d (.ls (List.map eTSegment r_19.Field.Clocks.Segments)),.d (.ls (List.map (eL eI) r_19.Field.Clocks.Far)),.d (.ls (List.map eTPair r_19.Field.Pairs)),.d (.ls (List.map eTRunner r_19.Field.Runners)),(dI r_19.Runner),.d (.ls (List.map eTLook r_19.Looks))])])) (((((q_1.Field.Runners).length:Int)) - 0:Int).toNat+1) (0) h (fun s=>rfl) (Wk.mk2 [0,1,2] 3 rfl rfl (by decide) rfl ⟨rr,rr,rr,trivial⟩ ⟨rr,rr,rr,rr,rr,rr,rr,trivial⟩) ?_
  clear h
  rintro n_119 v_118 h
  replace h:M261 q_1 r_19 M262 (n_119+1) v_118=some r_5:=h
  rw [M261] at h
  refine sg ?_
  conv=>whnf
  refine Tr.seq ?_
  refine Tr.cond ?_
  conv=>whnf
  refine cB h (fun hb122 h=>?_) (fun hb122 h=>?_)
  ·refine Tr.skip ?_
   conv=>whnf
   refine Tr.seq ?_
   refine Tr.block ?_
   refine sg ?_
   conv=>whnf
   refine sg ?_
   conv=>whnf
   obtain ⟨⟨r_123,r_124⟩,hc125,h⟩:=bS h
   refine PC.ecall (P114 q_1.Field v_118 r_123 r_124 hc125) (fun rs hrs=>?_)
   subst hrs
   conv=>whnf
   refine sg ?_
   conv=>whnf
   obtain ⟨⟨r_126,r_127⟩,hc128,h⟩:=bS h
   refine PC.ecall (P114 r_19.Field v_118 r_126 r_127 hc128) (fun rs hrs=>?_)
   subst hrs
   conv=>whnf
   refine Tr.seq ?_
   refine Tr.seq ?_
   refine Tr.cutQ1 ([(4,.pt 0 0),(7,.pt 1 0),(8,.d (.b false)),(11,.pt 2 0),(13,.d (.b fits_22)),(16,(dI v_118)),(19,.pt 3 0),(133,(dI (((q_1.Field.Runners).length:Int)))),(134,(dI v_118)),(184,.d (.b ((r_124 != 0) || ((r_127 != 0) || (bif (r_126.Kind != 3) then ((decide (r_126.Lo < r_123.Lo)) || ((decide (r_126.Hi > r_123.Hi)) || (r_126.Out && (!r_123.Out)))) else (r_126.Out && (!r_123.Out)))))))]) ([some (.var [.d (.ls (List.map eTSegment q_1.Field.Clocks.Segments)),.d (.ls (List.map (eL eI) q_1.Field.Clocks.Far)),.d (.ls (List.map eTPair q_1.Field.Pairs)),.d (.ls (List.map eTRunner q_1.Field.Runners)),(dI q_1.Runner),.d (.ls (List.map eTLook q_1.Looks))]),some (.var [(dI h_4.World),.d (.ls (List.map eI h_4.Offsets)),.d (.ls (List.map eTChoice h_4.Choices))]),some (.var [.d (.ls (List.map eTSegment r_19.Field.Clocks.Segments)),.d (.ls (List.map (eL eI) r_19.Field.Clocks.Far)),.d (.ls (List.map eTPair r_19.Field.Pairs)),.d (.ls (List.map eTRunner r_19.Field.Runners)),(dI r_19.Runner),.d (.ls (List.map eTLook r_19.Looks))]),some (.var [(dI r_126.Bib),(dI r_126.Kind),(dI r_126.Lo),(dI r_126.Hi),.d (.b r_126.Out)])]) ?_ (fun T1 H1 hw=>?_)
   ·refine rg ?_
    conv=>whnf
    refine condS_mk (fun hb130=>?_) (fun hb130=>?_)
    ·conv=>whnf
     exact Wk.mk2 [0,1,2,4] 5 rfl rfl (by decide) rfl ⟨rr,rr,rr,rr,trivial⟩ ⟨rr,rr,rr,rr,rr,rr,⟨rfl,(by first | rfl | (simp only [↓hb8,↓hb11,↓hb14,↓hb15,↓hb29,↓hb108,↓hb112,↓hb115,↓hb116,↓hb122,↓hb130,bl,List.length_set]; done) | (simp only [↓hb8,↓hb11,↓hb14,↓hb15,↓hb29,↓hb108,↓hb112,↓hb115,↓hb116,↓hb122,↓hb130,bl,List.length_set]; rfl))⟩,rr,rr,⟨rfl,(by first | rfl | (simp only [↓hb8,↓hb11,↓hb14,↓hb15,↓hb29,↓hb108,↓hb112,↓hb115,↓hb116,↓hb122,↓hb130,bl,List.length_set]; done) | (simp only [↓hb8,↓hb11,↓hb14,↓hb15,↓hb29,↓hb108,↓hb112,↓hb115,↓hb116,↓hb122,↓hb130,bl,List.length_set]; rfl))⟩,trivial⟩
    conv=>whnf
    refine condS_mk (fun hb131=>?_) (fun hb131=>?_)
    ·conv=>whnf
     exact Wk.mk2 [0,1,2,4] 5 rfl rfl (by decide) rfl ⟨rr,rr,rr,rr,trivial⟩ ⟨rr,rr,rr,rr,rr,rr,⟨rfl,(by first | rfl | (simp only [↓hb8,↓hb11,↓hb14,↓hb15,↓hb29,↓hb108,↓hb112,↓hb115,↓hb116,↓hb122,↓hb130,↓hb131,bl,List.length_set]; done) | (simp only [↓hb8,↓hb11,↓hb14,↓hb15,↓hb29,↓hb108,↓hb112,↓hb115,↓hb116,↓hb122,↓hb130,↓hb131,bl,List.length_set]; rfl))⟩,rr,rr,⟨rfl,(by first | rfl | (simp only [↓hb8,↓hb11,↓hb14,↓hb15,↓hb29,↓hb108,↓hb112,↓hb115,↓hb116,↓hb122,↓hb130,↓hb131,bl,List.length_set]; done) | (simp only [↓hb8,↓hb11,↓hb14,↓hb15,↓hb29,↓hb108,↓hb112,↓hb115,↓hb116,↓hb122,↓hb130,↓hb131,bl,List.length_set]; rfl))⟩,trivial⟩
    conv=>whnf
    refine condS_mk (fun hb132=>?_) (fun hb132=>?_)
    ·conv=>whnf
     refine condS_mk (fun hb133=>?_) (fun hb133=>?_)
     ·conv=>whnf
      exact Wk.mk2 [0,1,2,4] 5 rfl rfl (by decide) rfl ⟨rr,rr,rr,rr,trivial⟩ ⟨rr,rr,rr,rr,rr,rr,⟨rfl,(by first | rfl | (simp only [↓hb8,↓hb11,↓hb14,↓hb15,↓hb29,↓hb108,↓hb112,↓hb115,↓hb116,↓hb122,↓hb130,↓hb131,↓hb132,↓hb133,bl,List.length_set]; done) | (simp only [↓hb8,↓hb11,↓hb14,↓hb15,↓hb29,↓hb108,↓hb112,↓hb115,↓hb116,↓hb122,↓hb130,↓hb131,↓hb132,↓hb133,bl,List.length_set]; rfl))⟩,rr,rr,⟨rfl,(by first | rfl | (simp only [↓hb8,↓hb11,↓hb14,↓hb15,↓hb29,↓hb108,↓hb112,↓hb115,↓hb116,↓hb122,↓hb130,↓hb131,↓hb132,↓hb133,bl,List.length_set]; done) | (simp only [↓hb8,↓hb11,↓hb14,↓hb15,↓hb29,↓hb108,↓hb112,↓hb115,↓hb116,↓hb122,↓hb130,↓hb131,↓hb132,↓hb133,bl,List.length_set]; rfl))⟩,trivial⟩
     conv=>whnf
     refine condS_mk (fun hb134=>?_) (fun hb134=>?_)
     ·conv=>whnf
      exact Wk.mk2 [0,1,2,4] 5 rfl rfl (by decide) rfl ⟨rr,rr,rr,rr,trivial⟩ ⟨rr,rr,rr,rr,rr,rr,⟨rfl,(by first | rfl | (simp only [↓hb8,↓hb11,↓hb14,↓hb15,↓hb29,↓hb108,↓hb112,↓hb115,↓hb116,↓hb122,↓hb130,↓hb131,↓hb132,↓hb133,↓hb134,bl,List.length_set]; done) | (simp only [↓hb8,↓hb11,↓hb14,↓hb15,↓hb29,↓hb108,↓hb112,↓hb115,↓hb116,↓hb122,↓hb130,↓hb131,↓hb132,↓hb133,↓hb134,bl,List.length_set]; rfl))⟩,rr,rr,⟨rfl,(by first | rfl | (simp only [↓hb8,↓hb11,↓hb14,↓hb15,↓hb29,↓hb108,↓hb112,↓hb115,↓hb116,↓hb122,↓hb130,↓hb131,↓hb132,↓hb133,↓hb134,bl,List.length_set]; done) | (simp only [↓hb8,↓hb11,↓hb14,↓hb15,↓hb29,↓hb108,↓hb112,↓hb115,↓hb116,↓hb122,↓hb130,↓hb131,↓hb132,↓hb133,↓hb134,bl,List.length_set]; rfl))⟩,trivial⟩
     conv=>whnf
     refine condS_mk (fun hb135=>?_) (fun hb135=>?_)
     ·conv=>whnf
      exact Wk.mk2 [0,1,2,4] 5 rfl rfl (by decide) rfl ⟨rr,rr,rr,rr,trivial⟩ ⟨rr,rr,rr,rr,rr,rr,⟨rfl,(by first | rfl | (simp only [↓hb8,↓hb11,↓hb14,↓hb15,↓hb29,↓hb108,↓hb112,↓hb115,↓hb116,↓hb122,↓hb130,↓hb131,↓hb132,↓hb133,↓hb134,↓hb135,bl,List.length_set]; done) | (simp only [↓hb8,↓hb11,↓hb14,↓hb15,↓hb29,↓hb108,↓hb112,↓hb115,↓hb116,↓hb122,↓hb130,↓hb131,↓hb132,↓hb133,↓hb134,↓hb135,bl,List.length_set]; rfl))⟩,rr,rr,⟨rfl,(by first | rfl | (simp only [↓hb8,↓hb11,↓hb14,↓hb15,↓hb29,↓hb108,↓hb112,↓hb115,↓hb116,↓hb122,↓hb130,↓hb131,↓hb132,↓hb133,↓hb134,↓hb135,bl,List.length_set]; done) | (simp only [↓hb8,↓hb11,↓hb14,↓hb15,↓hb29,↓hb108,↓hb112,↓hb115,↓hb116,↓hb122,↓hb130,↓hb131,↓hb132,↓hb133,↓hb134,↓hb135,bl,List.length_set]; rfl))⟩,trivial⟩
     conv=>whnf
     exact Wk.mk2 [0,1,2,4] 5 rfl rfl (by decide) rfl ⟨rr,rr,rr,rr,trivial⟩ ⟨rr,rr,rr,rr,rr,rr,⟨rfl,(by first | rfl | (simp only [↓hb8,↓hb11,↓hb14,↓hb15,↓hb29,↓hb108,↓hb112,↓hb115,↓hb116,↓hb122,↓hb130,↓hb131,↓hb132,↓hb133,↓hb134,↓hb135,bl,List.length_set]; done) | (simp only [↓hb8,↓hb11,↓hb14,↓hb15,↓hb29,↓hb108,↓hb112,↓hb115,↓hb116,↓hb122,↓hb130,↓hb131,↓hb132,↓hb133,↓hb134,↓hb135,bl,List.length_set]; rfl))⟩,rr,rr,⟨rfl,(by first | rfl | (simp only [↓hb8,↓hb11,↓hb14,↓hb15,↓hb29,↓hb108,↓hb112,↓hb115,↓hb116,↓hb122,↓hb130,↓hb131,↓hb132,↓hb133,↓hb134,↓hb135,bl,List.length_set]; done) | (simp only [↓hb8,↓hb11,↓hb14,↓hb15,↓hb29,↓hb108,↓hb112,↓hb115,↓hb116,↓hb122,↓hb130,↓hb131,↓hb132,↓hb133,↓hb134,↓hb135,bl,List.length_set]; rfl))⟩,trivial⟩
    conv=>whnf
    refine condS_mk (fun hb136=>?_) (fun hb136=>?_)
    ·conv=>whnf
     exact Wk.mk2 [0,1,2,4] 5 rfl rfl (by decide) rfl ⟨rr,rr,rr,rr,trivial⟩ ⟨rr,rr,rr,rr,rr,rr,⟨rfl,(by first | rfl | (simp only [↓hb8,↓hb11,↓hb14,↓hb15,↓hb29,↓hb108,↓hb112,↓hb115,↓hb116,↓hb122,↓hb130,↓hb131,↓hb132,↓hb136,bl,List.length_set]; done) | (simp only [↓hb8,↓hb11,↓hb14,↓hb15,↓hb29,↓hb108,↓hb112,↓hb115,↓hb116,↓hb122,↓hb130,↓hb131,↓hb132,↓hb136,bl,List.length_set]; rfl))⟩,rr,rr,⟨rfl,(by first | rfl | (simp only [↓hb8,↓hb11,↓hb14,↓hb15,↓hb29,↓hb108,↓hb112,↓hb115,↓hb116,↓hb122,↓hb130,↓hb131,↓hb132,↓hb136,bl,List.length_set]; done) | (simp only [↓hb8,↓hb11,↓hb14,↓hb15,↓hb29,↓hb108,↓hb112,↓hb115,↓hb116,↓hb122,↓hb130,↓hb131,↓hb132,↓hb136,bl,List.length_set]; rfl))⟩,trivial⟩
    conv=>whnf
    exact Wk.mk2 [0,1,2,4] 5 rfl rfl (by decide) rfl ⟨rr,rr,rr,rr,trivial⟩ ⟨rr,rr,rr,rr,rr,rr,⟨rfl,(by first | rfl | (simp only [↓hb8,↓hb11,↓hb14,↓hb15,↓hb29,↓hb108,↓hb112,↓hb115,↓hb116,↓hb122,↓hb130,↓hb131,↓hb132,↓hb136,bl,List.length_set]; done) | (simp only [↓hb8,↓hb11,↓hb14,↓hb15,↓hb29,↓hb108,↓hb112,↓hb115,↓hb116,↓hb122,↓hb130,↓hb131,↓hb132,↓hb136,bl,List.length_set]; rfl))⟩,rr,rr,⟨rfl,(by first | rfl | (simp only [↓hb8,↓hb11,↓hb14,↓hb15,↓hb29,↓hb108,↓hb112,↓hb115,↓hb116,↓hb122,↓hb130,↓hb131,↓hb132,↓hb136,bl,List.length_set]; done) | (simp only [↓hb8,↓hb11,↓hb14,↓hb15,↓hb29,↓hb108,↓hb112,↓hb115,↓hb116,↓hb122,↓hb130,↓hb131,↓hb132,↓hb136,bl,List.length_set]; rfl))⟩,trivial⟩
   conv=>whnf
   refine Tr.weak hw ?_
   refine Tr.cond ?_
   conv=>whnf
   refine cB h (fun hb137 h=>?_) (fun hb137 h=>?_)
   ·refine sg ?_
    conv=>whnf
    refine Tr.ret ?_
    conv=>whnf
    cases h
    rfl
   refine Tr.skip ?_
   conv=>whnf
   refine sg ?_
   conv=>whnf
   refine Tr.cond ?_
   conv=>whnf
   refine condS_kf hb29 ?_
   refine Tr.skip ?_
   conv=>whnf
   refine rg ?_
   conv=>whnf
   refine arS_raw ?_
   conv=>whnf
   refine ⟨((w64 (v_118+1))),h,?_⟩
   exact Wk.mk2 [0,1,2] 4 rfl rfl (by decide) rfl ⟨rr,rr,rr,trivial⟩ ⟨rr,rr,rr,rr,rr,rr,rr,trivial⟩
  refine Tr.exit ?_
  conv=>whnf
  refine ⟨(),h,?_⟩
  exact Wk.mk2 [] 3 rfl rfl (by decide) rfl trivial ⟨rr,trivial⟩
 clear h
 rintro _ h T1 H1 hw
 replace h:M262 ()=some r_5:=h
 conv=>whnf
 refine Tr.weak hw ?_
 unfold M262 at h
 refine sg ?_
 conv=>whnf
 refine Tr.ret ?_
 conv=>whnf
 cases h
 rfl
end Go.Proofs.Try
