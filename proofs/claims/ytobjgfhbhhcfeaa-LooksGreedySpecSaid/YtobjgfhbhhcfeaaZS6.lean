/- Contracts of functions, by program (gen.py). No condition. -/
import Derived.Test.YtobjgfhbhhcfeaaZL
import Derived.Test.YtobjgfhbhhcfeaaZM
import Derived.Test.YtobjgfhbhhcfeaaZCB
import Derived.Test.YtobjgfhbhhcfeaaZS5
namespace Go.Proofs.Try
open Go Go.Abs Go.Stop
set_option maxRecDepth 8000
set_option linter.unusedVariables false
set_option linter.unusedSimpArgs false
theorem P168 (n_1:Int) (r_2:Bool) (h:M168 n_1=some r_2) :
    PC prog 52 [(.i .i64 n_1)] (fun rs=>rs=[(.b r_2)]):=by
 refine PC.of_tr (cx:=⟨5,none,lay,0⟩) layOK func52 rfl rfl rfl rfl rfl (by simp [f52]) ?_
 unfold M168 at h
 refine sg ?_
 conv=>whnf
 refine sg ?_
 conv=>whnf
 obtain ⟨r_3,hc4,h⟩:=bS h
 refine PC.ecall (P167 n_1 1 9999 r_3 hc4) (fun rs hrs=>?_)
 subst hrs
 conv=>whnf
 refine Tr.ret ?_
 conv=>whnf
 cases h
 rfl
theorem P169 (k_1:TClocks) (x_2:TOutcome) (r_3:Int) (h:M169 k_1 x_2=some r_3) :
    PC prog 53 [(eTClocks k_1),(eTOutcome x_2)] (fun rs=>rs=[(.i .i64 r_3)]):=by
 refine PC.of_tr (cx:=⟨63,none,lay,0⟩) layOK func53 rfl rfl rfl rfl rfl (by simp [f53]) ?_
 unfold M169 at h
 refine sg ?_
 conv=>whnf
 refine sg ?_
 conv=>whnf
 obtain ⟨r_4,hc5,h⟩:=bS h
 refine PC.ecall (P166 k_1 r_4 hc5) (fun rs hrs=>?_)
 subst hrs
 conv=>whnf
 refine Tr.seq ?_
 refine sg ?_
 conv=>whnf
 refine Tr.cond ?_
 conv=>whnf
 refine cB h (fun hb6 h=>?_) (fun hb6 h=>?_)
 ·refine sg ?_
  conv=>whnf
  refine Tr.ret ?_
  conv=>whnf
  cases h
  rfl
 refine Tr.skip ?_
 conv=>whnf
 refine Tr.seq ?_
 refine Tr.seq ?_
 refine Tr.cutQ1 ([(4,(dI 0)),(62,.d (.b (bif x_2.Out then ((x_2.Seg != (-1)) || ((x_2.Lo != 0) || (x_2.Hi != 0))) else ((decide (x_2.Seg < (-1))) || ((decide (x_2.Seg≥(((k_1.Segments).length:Int)))) || ((decide (x_2.Lo < (-288230376151711744))) || ((decide (x_2.Lo > x_2.Hi)) || (decide (x_2.Hi > 288230376151711744)))))))))]) ([]) ?_ (fun T1 H1 hw=>?_)
 ·refine rg ?_
  conv=>whnf
  refine condS_mk (fun hb8=>?_) (fun hb8=>?_)
  ·conv=>whnf
   refine condS_mk (fun hb9=>?_) (fun hb9=>?_)
   ·conv=>whnf
    exact Wk.mk2 [] 2 rfl rfl (by decide) rfl trivial ⟨rr,⟨rfl,(by first | rfl | (simp only [↓hb6,↓hb8,↓hb9,bl,List.length_set]; done) | (simp only [↓hb6,↓hb8,↓hb9,bl,List.length_set]; rfl))⟩,trivial⟩
   conv=>whnf
   refine condS_mk (fun hb10=>?_) (fun hb10=>?_)
   ·conv=>whnf
    exact Wk.mk2 [] 2 rfl rfl (by decide) rfl trivial ⟨rr,⟨rfl,(by first | rfl | (simp only [↓hb6,↓hb8,↓hb9,↓hb10,bl,List.length_set]; done) | (simp only [↓hb6,↓hb8,↓hb9,↓hb10,bl,List.length_set]; rfl))⟩,trivial⟩
   conv=>whnf
   refine condS_mk (fun hb11=>?_) (fun hb11=>?_)
   ·conv=>whnf
    exact Wk.mk2 [] 2 rfl rfl (by decide) rfl trivial ⟨rr,⟨rfl,(by first | rfl | (simp only [↓hb6,↓hb8,↓hb9,↓hb10,↓hb11,bl,List.length_set]; done) | (simp only [↓hb6,↓hb8,↓hb9,↓hb10,↓hb11,bl,List.length_set]; rfl))⟩,trivial⟩
   conv=>whnf
   refine condS_kf (by rw [hb8]; rfl) ?_
   conv=>whnf
   exact Wk.mk2 [] 2 rfl rfl (by decide) rfl trivial ⟨rr,⟨rfl,(by first | rfl | (simp only [↓hb6,↓hb8,↓hb9,↓hb10,↓hb11,bl,List.length_set]; done) | (simp only [↓hb6,↓hb8,↓hb9,↓hb10,↓hb11,bl,List.length_set]; rfl))⟩,trivial⟩
  conv=>whnf
  refine condS_kt (by rw [hb8]; rfl) ?_
  conv=>whnf
  refine condS_mk (fun hb12=>?_) (fun hb12=>?_)
  ·conv=>whnf
   exact Wk.mk2 [] 2 rfl rfl (by decide) rfl trivial ⟨rr,⟨rfl,(by first | rfl | (simp only [↓hb6,↓hb8,↓hb12,bl,List.length_set]; done) | (simp only [↓hb6,↓hb8,↓hb12,bl,List.length_set]; rfl))⟩,trivial⟩
  conv=>whnf
  refine lnS_map ?_
  conv=>whnf
  refine condS_mk (fun hb13=>?_) (fun hb13=>?_)
  ·conv=>whnf
   exact Wk.mk2 [] 2 rfl rfl (by decide) rfl trivial ⟨rr,⟨rfl,(by first | rfl | (simp only [↓hb6,↓hb8,↓hb12,↓hb13,bl,List.length_set]; done) | (simp only [↓hb6,↓hb8,↓hb12,↓hb13,bl,List.length_set]; rfl))⟩,trivial⟩
  conv=>whnf
  refine condS_mk (fun hb14=>?_) (fun hb14=>?_)
  ·conv=>whnf
   exact Wk.mk2 [] 2 rfl rfl (by decide) rfl trivial ⟨rr,⟨rfl,(by first | rfl | (simp only [↓hb6,↓hb8,↓hb12,↓hb13,↓hb14,bl,List.length_set]; done) | (simp only [↓hb6,↓hb8,↓hb12,↓hb13,↓hb14,bl,List.length_set]; rfl))⟩,trivial⟩
  conv=>whnf
  refine condS_mk (fun hb15=>?_) (fun hb15=>?_)
  ·conv=>whnf
   exact Wk.mk2 [] 2 rfl rfl (by decide) rfl trivial ⟨rr,⟨rfl,(by first | rfl | (simp only [↓hb6,↓hb8,↓hb12,↓hb13,↓hb14,↓hb15,bl,List.length_set]; done) | (simp only [↓hb6,↓hb8,↓hb12,↓hb13,↓hb14,↓hb15,bl,List.length_set]; rfl))⟩,trivial⟩
  conv=>whnf
  exact Wk.mk2 [] 2 rfl rfl (by decide) rfl trivial ⟨rr,⟨rfl,(by first | rfl | (simp only [↓hb6,↓hb8,↓hb12,↓hb13,↓hb14,↓hb15,bl,List.length_set]; done) | (simp only [↓hb6,↓hb8,↓hb12,↓hb13,↓hb14,↓hb15,bl,List.length_set]; rfl))⟩,trivial⟩
 conv=>whnf
 refine Tr.weak hw ?_
 refine Tr.cond ?_
 conv=>whnf
 refine cB h (fun hb16 h=>?_) (fun hb16 h=>?_)
 ·refine sg ?_
  conv=>whnf
  refine Tr.ret ?_
  conv=>whnf
  cases h
  rfl
 refine Tr.skip ?_
 conv=>whnf
 refine sg ?_
 conv=>whnf
 refine Tr.ret ?_
 conv=>whnf
 cases h
 rfl
theorem P172 (f_1:TField) (world_2:Int) (r_3:Bool) (h:M172 f_1 world_2=some r_3) :
    PC prog 70 [(eTField f_1),(.i .i64 world_2)] (fun rs=>rs=[(.b r_3)]):=by
 refine PC.of_tr (cx:=⟨39,none,lay,0⟩) layOK func70 rfl rfl rfl rfl rfl (by simp [f70]) ?_
 unfold M172 at h
 refine sg ?_
 conv=>whnf
 refine Tr.seq ?_
 refine sg ?_
 conv=>whnf
 refine Tr.cutQ (α:=Unit) (fun s=>([(4,.d (.b false))],[])) (fun s=>M171 s=some r_3) ?_ ?_
 ·refine Tr.block ?_
  refine Tr.loopM (σ:=Int) (fun n s=>M170 f_1 world_2 M171 n s) r_3 (fun s=>([(1,(dI world_2)),(2,.pt 0 0),(4,.d (.b false)),(5,(dI s))],[some (.var [.d (.ls (List.map eTSegment f_1.Clocks.Segments)),.d (.ls (List.map (eL eI) f_1.Clocks.Far)),.d (.ls (List.map eTPair f_1.Pairs)),.d (.ls (List.map eTRunner f_1.Runners))])])) (((((f_1.Runners).length:Int)) - 0:Int).toNat+1) (0) h (fun s=>rfl) (Wk.mk2 [0] 1 rfl rfl (by decide) rfl ⟨rr,trivial⟩ ⟨rr,rr,rr,rr,trivial⟩) ?_
  clear h
  rintro n_6 i_5 h
  replace h:M170 f_1 world_2 M171 (n_6+1) i_5=some r_3:=h
  rw [M170] at h
  refine Tr.seq ?_
  refine sg ?_
  conv=>whnf
  refine lnS_map ?_
  conv=>whnf
  refine Tr.cond ?_
  conv=>whnf
  refine cB h (fun hb9 h=>?_) (fun hb9 h=>?_)
  ·refine Tr.skip ?_
   conv=>whnf
   refine Tr.seq ?_
   refine Tr.block ?_
   refine sg ?_
   conv=>whnf
   refine cB h (fun hb10 h=>?_) (fun hb10 h=>?_)
   ·conv=>whnf
    refine Tr.cond ?_
    conv=>whnf
    refine sg ?_
    conv=>whnf
    refine Tr.ret ?_
    conv=>whnf
    cases h
    rfl
   conv=>whnf
   obtain ⟨x_11,hx_11,h⟩:=bS h
   refine ixP_of hx_11 ?_
   conv=>whnf
   refine lnS_map ?_
   conv=>whnf
   refine cB h (fun hb12 h=>?_) (fun hb12 h=>?_)
   ·conv=>whnf
    refine Tr.cond ?_
    conv=>whnf
    refine sg ?_
    conv=>whnf
    refine Tr.ret ?_
    conv=>whnf
    cases h
    rfl
   conv=>whnf
   obtain ⟨x_13,hx_13,h⟩:=bS h
   refine ixP_of hx_13 ?_
   conv=>whnf
   obtain ⟨x_14,hx_14,h⟩:=bS h
   refine ixP_of hx_14 ?_
   conv=>whnf
   refine lnS_map ?_
   conv=>whnf
   refine Tr.cond ?_
   conv=>whnf
   refine cB h (fun hb15 h=>?_) (fun hb15 h=>?_)
   ·refine sg ?_
    conv=>whnf
    refine Tr.ret ?_
    conv=>whnf
    cases h
    rfl
   refine Tr.skip ?_
   conv=>whnf
   refine rg ?_
   conv=>whnf
   refine arS_raw ?_
   conv=>whnf
   refine ⟨((w64 (i_5+1))),h,?_⟩
   exact Wk.mk2 [0] 1 rfl rfl (by decide) rfl ⟨rr,trivial⟩ ⟨rr,rr,rr,rr,trivial⟩
  refine Tr.exit ?_
  conv=>whnf
  refine ⟨(),h,?_⟩
  exact Wk.mk2 [] 1 rfl rfl (by decide) rfl trivial ⟨rr,trivial⟩
 clear h
 rintro _ h T1 H1 hw
 replace h:M171 ()=some r_3:=h
 conv=>whnf
 refine Tr.weak hw ?_
 unfold M171 at h
 refine sg ?_
 conv=>whnf
 refine Tr.ret ?_
 conv=>whnf
 cases h
 rfl
theorem P175 (f_1:TField) (r_2:Bool) (h:M175 f_1=some r_2) :
    PC prog 54 [(eTField f_1)] (fun rs=>rs=[(.b r_2)]):=by
 refine PC.of_tr (cx:=⟨14,none,lay,0⟩) layOK func54 rfl rfl rfl rfl rfl (by simp [f54]) ?_
 unfold M175 at h
 refine sg ?_
 conv=>whnf
 refine Tr.seq ?_
 refine sg ?_
 conv=>whnf
 refine Tr.cutQ (α:=Unit) (fun s=>([(2,.d (.b false))],[])) (fun s=>M174 s=some r_2) ?_ ?_
 ·refine Tr.block ?_
  refine Tr.loopM (σ:=Int) (fun n s=>M173 f_1 M174 n s) r_2 (fun s=>([(1,.pt 0 0),(2,.d (.b false)),(3,(dI s))],[some (.var [.d (.ls (List.map eTSegment f_1.Clocks.Segments)),.d (.ls (List.map (eL eI) f_1.Clocks.Far)),.d (.ls (List.map eTPair f_1.Pairs)),.d (.ls (List.map eTRunner f_1.Runners))])])) (((((f_1.Pairs).length:Int))+1 - 0:Int).toNat+1) (0) h (fun s=>rfl) (Wk.mk2 [0] 1 rfl rfl (by decide) rfl ⟨rr,trivial⟩ ⟨rr,rr,rr,trivial⟩) ?_
  clear h
  rintro n_5 w_4 h
  replace h:M173 f_1 M174 (n_5+1) w_4=some r_2:=h
  rw [M173] at h
  refine Tr.seq ?_
  refine sg ?_
  conv=>whnf
  refine lnS_map ?_
  conv=>whnf
  refine Tr.cond ?_
  conv=>whnf
  refine cB h (fun hb8 h=>?_) (fun hb8 h=>?_)
  ·refine Tr.skip ?_
   conv=>whnf
   refine Tr.seq ?_
   refine Tr.block ?_
   refine sg ?_
   conv=>whnf
   obtain ⟨r_9,hc10,h⟩:=bS h
   refine PC.ecall (P172 f_1 w_4 r_9 hc10) (fun rs hrs=>?_)
   subst hrs
   conv=>whnf
   refine Tr.cond ?_
   conv=>whnf
   refine cB h (fun hb11 h=>?_) (fun hb11 h=>?_)
   ·refine sg ?_
    conv=>whnf
    refine Tr.ret ?_
    conv=>whnf
    cases h
    rfl
   refine Tr.skip ?_
   conv=>whnf
   refine rg ?_
   conv=>whnf
   refine arS_raw ?_
   conv=>whnf
   refine ⟨((w64 (w_4+1))),h,?_⟩
   exact Wk.mk2 [0] 1 rfl rfl (by decide) rfl ⟨rr,trivial⟩ ⟨rr,rr,rr,trivial⟩
  refine Tr.exit ?_
  conv=>whnf
  refine ⟨(),h,?_⟩
  exact Wk.mk2 [] 1 rfl rfl (by decide) rfl trivial ⟨rr,trivial⟩
 clear h
 rintro _ h T1 H1 hw
 replace h:M174 ()=some r_2:=h
 conv=>whnf
 refine Tr.weak hw ?_
 unfold M174 at h
 refine sg ?_
 conv=>whnf
 refine Tr.ret ?_
 conv=>whnf
 cases h
 rfl
theorem P184 (f_1:TField) (r_2:Int) (h:M184 f_1=some r_2) :
    PC prog 24 [(eTField f_1)] (fun rs=>rs=[(.i .i64 r_2)]):=by
 refine PC.of_tr (cx:=⟨182,none,lay,0⟩) layOK func24 rfl rfl rfl rfl rfl (by simp [f24]) ?_
 unfold M184 at h
 refine sg ?_
 conv=>whnf
 refine Tr.seq ?_
 refine Tr.seq ?_
 obtain ⟨v_3,hv4,h⟩:=bS h
 refine Tr.cutQ1 ([(1,.pt 0 0),(2,(dI 0)),(30,.d (.b v_3))]) ([some (.var [.d (.ls (List.map eTSegment f_1.Clocks.Segments)),.d (.ls (List.map (eL eI) f_1.Clocks.Far)),.d (.ls (List.map eTPair f_1.Pairs)),.d (.ls (List.map eTRunner f_1.Runners))])]) ?_ (fun T1 H1 hw=>?_)
 ·replace h:=hv4; clear hv4
  refine rg ?_
  conv=>whnf
  obtain ⟨r_5,hc6,h⟩:=bS h
  refine PC.ecall (P166 f_1.Clocks r_5 hc6) (fun rs hrs=>?_)
  subst hrs
  conv=>whnf
  refine cB h (fun hb7 h=>?_) (fun hb7 h=>?_)
  ·conv=>whnf
   cases h
   exact Wk.mk2 [0] 1 rfl rfl (by decide) rfl ⟨rr,trivial⟩ ⟨rr,rr,rr,trivial⟩
  conv=>whnf
  refine lnS_map ?_
  conv=>whnf
  refine cB h (fun hb8 h=>?_) (fun hb8 h=>?_)
  ·conv=>whnf
   cases h
   exact Wk.mk2 [0] 1 rfl rfl (by decide) rfl ⟨rr,trivial⟩ ⟨rr,rr,rr,trivial⟩
  conv=>whnf
  refine lnS_map ?_
  conv=>whnf
  refine cB h (fun hb9 h=>?_) (fun hb9 h=>?_)
  ·conv=>whnf
   cases h
   exact Wk.mk2 [0] 1 rfl rfl (by decide) rfl ⟨rr,trivial⟩ ⟨rr,rr,rr,trivial⟩
  conv=>whnf
  refine lnS_map ?_
  conv=>whnf
  cases h
  exact Wk.mk2 [0] 1 rfl rfl (by decide) rfl ⟨rr,trivial⟩ ⟨rr,rr,rr,trivial⟩
 clear hv4
 conv=>whnf
 refine Tr.weak hw ?_
 refine Tr.cond ?_
 conv=>whnf
 refine cB h (fun hb10 h=>?_) (fun hb10 h=>?_)
 ·refine sg ?_
  conv=>whnf
  refine Tr.ret ?_
  conv=>whnf
  cases h
  rfl
 refine Tr.skip ?_
 conv=>whnf
 refine Tr.seq ?_
 refine sg ?_
 conv=>whnf
 refine Tr.cutQ (α:=Unit) (fun s=>([(1,.pt 0 0),(2,(dI 0))],[some (.var [.d (.ls (List.map eTSegment f_1.Clocks.Segments)),.d (.ls (List.map (eL eI) f_1.Clocks.Far)),.d (.ls (List.map eTPair f_1.Pairs)),.d (.ls (List.map eTRunner f_1.Runners))])])) (fun s=>M183 f_1 s=some r_2) ?_ ?_
 ·refine Tr.block ?_
  refine Tr.loopM (σ:=Int) (fun n s=>M176 f_1 (M183 f_1) n s) r_2 (fun s=>([(1,.pt 0 0),(2,(dI 0)),(3,(dI s))],[some (.var [.d (.ls (List.map eTSegment f_1.Clocks.Segments)),.d (.ls (List.map (eL eI) f_1.Clocks.Far)),.d (.ls (List.map eTPair f_1.Pairs)),.d (.ls (List.map eTRunner f_1.Runners))])])) (((((f_1.Pairs).length:Int)) - 0:Int).toNat+1) (0) h (fun s=>rfl) (Wk.mk2 [0] 1 rfl rfl (by decide) rfl ⟨rr,trivial⟩ ⟨rr,rr,rr,trivial⟩) ?_
  clear h
  rintro n_13 i_12 h
  replace h:M176 f_1 (M183 f_1) (n_13+1) i_12=some r_2:=h
  rw [M176] at h
  refine Tr.seq ?_
  refine sg ?_
  conv=>whnf
  refine lnS_map ?_
  conv=>whnf
  refine Tr.cond ?_
  conv=>whnf
  refine cB h (fun hb16 h=>?_) (fun hb16 h=>?_)
  ·refine Tr.skip ?_
   conv=>whnf
   refine Tr.seq ?_
   refine Tr.block ?_
   refine sg ?_
   conv=>whnf
   obtain ⟨x_17,hx_17,h⟩:=bS h
   refine ixP_of hx_17 ?_
   conv=>whnf
   refine Tr.seq ?_
   refine sg ?_
   conv=>whnf
   refine cB h (fun hb18 h=>?_) (fun hb18 h=>?_)
   ·conv=>whnf
    refine Tr.cond ?_
    conv=>whnf
    refine sg ?_
    conv=>whnf
    refine Tr.ret ?_
    conv=>whnf
    cases h
    rfl
   conv=>whnf
   refine cB h (fun hb19 h=>?_) (fun hb19 h=>?_)
   ·conv=>whnf
    refine Tr.cond ?_
    conv=>whnf
    refine sg ?_
    conv=>whnf
    refine Tr.ret ?_
    conv=>whnf
    cases h
    rfl
   conv=>whnf
   refine Tr.cond ?_
   conv=>whnf
   refine cB h (fun hb20 h=>?_) (fun hb20 h=>?_)
   ·refine sg ?_
    conv=>whnf
    refine Tr.ret ?_
    conv=>whnf
    cases h
    rfl
   refine Tr.skip ?_
   conv=>whnf
   refine Tr.seq ?_
   obtain ⟨v_21,hv22,h⟩:=bS h
   refine Tr.cutQ1 ([(1,.pt 0 0),(2,(dI 0)),(3,(dI i_12)),(95,.d (.b v_21))]) ([some (.var [.d (.ls (List.map eTSegment f_1.Clocks.Segments)),.d (.ls (List.map (eL eI) f_1.Clocks.Far)),.d (.ls (List.map eTPair f_1.Pairs)),.d (.ls (List.map eTRunner f_1.Runners))])]) ?_ (fun T1 H1 hw=>?_)
   ·replace h:=hv22; clear hv22
    refine dq [] [(0,1),(1,1),(2,1),(3,3),(4,3),(5,1),(6,1),(7,2),(8,2),(9,2),(10,4),(11,4),(12,1),(13,1),(14,3),(15,3),(16,1),(17,1),(18,2),(19,2),(20,2),(21,4),(22,4),(23,1),(24,1),(25,3),(26,3),(27,1),(28,1),(29,2),(30,2),(31,2),(32,4),(33,4),(34,1),(35,1),(36,1),(37,1)] ?_
    conv=>whnf
    refine q1 ?_
    conv=>whnf
    refine q1 ?_
    conv=>whnf
    refine q1 ?_
    conv=>whnf
    refine cB h (fun hb23 h=>?_) (fun hb23 h=>?_)
    ·conv=>whnf
     refine q2 ?_
     conv=>whnf
     refine q2 ?_
     conv=>whnf
     refine q1 ?_
     conv=>whnf
     refine q4 ?_
     conv=>whnf
     obtain ⟨x_24,hx_24,h⟩:=bS h
     refine q3 (ixP_of hx_24 rr) ?_
     conv=>whnf
     refine q2 ?_
     conv=>whnf
     refine q2 ?_
     conv=>whnf
     refine q2 ?_
     conv=>whnf
     refine q2 ?_
     conv=>whnf
     refine q1 ?_
     conv=>whnf
     refine q1 ?_
     conv=>whnf
     refine cB h (fun hb25 h=>?_) (fun hb25 h=>?_)
     ·conv=>whnf
      refine q1 ?_
      conv=>whnf
      refine q1 ?_
      conv=>whnf
      cases h
      exact Wk.mk2 [0] 2 rfl rfl (by decide) rfl ⟨rr,trivial⟩ ⟨rr,rr,rr,rr,trivial⟩
     conv=>whnf
     refine q2 ?_
     conv=>whnf
     refine q2 ?_
     conv=>whnf
     refine q1 ?_
     conv=>whnf
     refine q4 ?_
     conv=>whnf
     obtain ⟨x_26,hx_26,h⟩:=bS h
     refine q3 (ixP_of hx_26 rr) ?_
     conv=>whnf
     refine q2 ?_
     conv=>whnf
     refine q2 ?_
     conv=>whnf
     refine q2 ?_
     conv=>whnf
     refine q2 ?_
     conv=>whnf
     refine q1 ?_
     conv=>whnf
     refine q1 ?_
     conv=>whnf
     refine cB h (fun hb27 h=>?_) (fun hb27 h=>?_)
     ·conv=>whnf
      refine q2 ?_
      conv=>whnf
      refine q2 ?_
      conv=>whnf
      refine q1 ?_
      conv=>whnf
      refine q4 ?_
      conv=>whnf
      obtain ⟨x_28,hx_28,h⟩:=bS h
      refine q3 (ixP_of hx_28 rr) ?_
      conv=>whnf
      refine q2 ?_
      conv=>whnf
      refine q2 ?_
      conv=>whnf
      refine q2 ?_
      conv=>whnf
      refine q2 ?_
      conv=>whnf
      refine q1 ?_
      conv=>whnf
      refine q1 ?_
      conv=>whnf
      refine q1 ?_
      conv=>whnf
      refine q1 ?_
      conv=>whnf
      cases h
      exact Wk.mk2 [0] 2 rfl rfl (by decide) rfl ⟨rr,trivial⟩ ⟨rr,rr,rr,rr,trivial⟩
     conv=>whnf
     refine q1 ?_
     conv=>whnf
     refine q1 ?_
     conv=>whnf
     refine q1 ?_
     conv=>whnf
     cases h
     exact Wk.mk2 [0] 2 rfl rfl (by decide) rfl ⟨rr,trivial⟩ ⟨rr,rr,rr,rr,trivial⟩
    conv=>whnf
    refine q1 ?_
    conv=>whnf
    cases h
    exact Wk.mk2 [0] 2 rfl rfl (by decide) rfl ⟨rr,trivial⟩ ⟨rr,rr,rr,rr,trivial⟩
   clear hv22
   conv=>whnf
   refine Tr.weak hw ?_
   refine Tr.cond ?_
   conv=>whnf
   refine cB h (fun hb29 h=>?_) (fun hb29 h=>?_)
   ·refine sg ?_
    conv=>whnf
    refine Tr.ret ?_
    conv=>whnf
    cases h
    rfl
   refine Tr.skip ?_
   conv=>whnf
   refine rg ?_
   conv=>whnf
   refine arS_raw ?_
   conv=>whnf
   refine ⟨((w64 (i_12+1))),h,?_⟩
   exact Wk.mk2 [0] 1 rfl rfl (by decide) rfl ⟨rr,trivial⟩ ⟨rr,rr,rr,trivial⟩
  refine Tr.exit ?_
  conv=>whnf
  refine ⟨(),h,?_⟩
  exact Wk.mk2 [0] 1 rfl rfl (by decide) rfl ⟨rr,trivial⟩ ⟨rr,rr,trivial⟩
 clear h
 rintro _ h T1 H1 hw
 replace h:M183 f_1 ()=some r_2:=h
 conv=>whnf
 refine Tr.weak hw ?_
 unfold M183 at h
 refine Tr.seq ?_
 refine sg ?_
 conv=>whnf
 refine Tr.cutQ (α:=Unit) (fun s=>([(1,.pt 0 0),(2,(dI 0))],[some (.var [.d (.ls (List.map eTSegment f_1.Clocks.Segments)),.d (.ls (List.map (eL eI) f_1.Clocks.Far)),.d (.ls (List.map eTPair f_1.Pairs)),.d (.ls (List.map eTRunner f_1.Runners))])])) (fun s=>M182 f_1 s=some r_2) ?_ ?_
 ·refine Tr.block ?_
  refine Tr.loopM (σ:=Int) (fun n s=>M181 f_1 (M182 f_1) n s) r_2 (fun s=>([(1,.pt 0 0),(2,(dI 0)),(5,(dI s))],[some (.var [.d (.ls (List.map eTSegment f_1.Clocks.Segments)),.d (.ls (List.map (eL eI) f_1.Clocks.Far)),.d (.ls (List.map eTPair f_1.Pairs)),.d (.ls (List.map eTRunner f_1.Runners))])])) (((((f_1.Runners).length:Int)) - 0:Int).toNat+1) (0) h (fun s=>rfl) (Wk.mk2 [0] 1 rfl rfl (by decide) rfl ⟨rr,trivial⟩ ⟨rr,rr,rr,trivial⟩) ?_
  clear h
  rintro n_32 i_31 h
  replace h:M181 f_1 (M182 f_1) (n_32+1) i_31=some r_2:=h
  rw [M181] at h
  refine Tr.seq ?_
  refine sg ?_
  conv=>whnf
  refine lnS_map ?_
  conv=>whnf
  refine Tr.cond ?_
  conv=>whnf
  refine cB h (fun hb35 h=>?_) (fun hb35 h=>?_)
  ·refine Tr.skip ?_
   conv=>whnf
   refine Tr.seq ?_
   refine Tr.block ?_
   refine sg ?_
   conv=>whnf
   obtain ⟨x_36,hx_36,h⟩:=bS h
   refine ixP_of hx_36 ?_
   conv=>whnf
   refine Tr.seq ?_
   refine Tr.seq ?_
   obtain ⟨v_37,hv38,h⟩:=bS h
   refine Tr.cutQ1 ([(1,.pt 0 0),(2,(dI 0)),(5,(dI i_31)),(6,.pt 1 0),(149,.d (.b v_37))]) ([some (.var [.d (.ls (List.map eTSegment f_1.Clocks.Segments)),.d (.ls (List.map (eL eI) f_1.Clocks.Far)),.d (.ls (List.map eTPair f_1.Pairs)),.d (.ls (List.map eTRunner f_1.Runners))]),some (.var [(dI x_36.Bib),.d (.ls (List.map eI x_36.Keys)),.d (.ls (List.map (eL eTOutcome) x_36.Worlds))])]) ?_ (fun T1 H1 hw=>?_)
   ·replace h:=hv38; clear hv38
    refine dq [] [(0,4),(1,4),(2,1),(3,1),(4,1),(5,1),(6,1),(7,1),(8,3),(9,3),(10,1),(11,1),(12,2),(13,2),(14,2),(15,4),(16,4),(17,1),(18,1),(19,1),(20,1),(21,4),(22,4),(23,2),(24,3),(25,3),(26,2),(27,2),(28,2),(29,2),(30,1),(31,1),(32,1),(33,4),(34,4),(35,2),(36,3),(37,3),(38,2),(39,1),(40,1),(41,1)] ?_
    conv=>whnf
    refine q2 ?_
    conv=>whnf
    refine q2 ?_
    conv=>whnf
    obtain ⟨r_39,hc40,h⟩:=bS h
    refine q1 ?_ (fun _=>pe (P168 x_36.Bib r_39 hc40) rr)
    conv=>whnf
    refine q1 ?_
    conv=>whnf
    refine q1 ?_
    conv=>whnf
    refine cB h (fun hb41 h=>?_) (fun hb41 h=>?_)
    ·conv=>whnf
     refine q1 ?_
     conv=>whnf
     refine q1 ?_
     conv=>whnf
     refine q1 ?_
     conv=>whnf
     refine q1 ?_
     conv=>whnf
     refine q1 ?_
     conv=>whnf
     cases h
     exact Wk.mk2 [0,1] 2 rfl rfl (by decide) rfl ⟨rr,rr,trivial⟩ ⟨rr,rr,rr,rr,rr,trivial⟩
    conv=>whnf
    refine q1 ?_
    conv=>whnf
    refine q1 ?_
    conv=>whnf
    refine q1 ?_
    conv=>whnf
    refine cB h (fun hb42 h=>?_) (fun hb42 h=>?_)
    ·conv=>whnf
     refine q2 ?_
     conv=>whnf
     refine q2 ?_
     conv=>whnf
     refine q1 ?_
     conv=>whnf
     refine q4 ?_
     conv=>whnf
     obtain ⟨x_43,hx_43,h⟩:=bS h
     refine q3 (ixP_of hx_43 rr) ?_
     conv=>whnf
     refine q2 ?_
     conv=>whnf
     refine q2 ?_
     conv=>whnf
     refine q2 ?_
     conv=>whnf
     refine q2 ?_
     conv=>whnf
     refine q1 ?_
     conv=>whnf
     refine q1 ?_
     conv=>whnf
     refine q1 ?_
     conv=>whnf
     refine q1 ?_
     conv=>whnf
     refine cB h (fun hb44 h=>?_) (fun hb44 h=>?_)
     ·conv=>whnf
      refine q1 ?_
      conv=>whnf
      refine q1 ?_
      conv=>whnf
      refine q1 ?_
      conv=>whnf
      cases h
      exact Wk.mk2 [0,1] 2 rfl rfl (by decide) rfl ⟨rr,rr,trivial⟩ ⟨rr,rr,rr,rr,rr,trivial⟩
     conv=>whnf
     refine q2 ?_
     conv=>whnf
     refine q2 ?_
     conv=>whnf
     refine q3 (lnS_map rr) ?_
     conv=>whnf
     refine q2 ?_
     conv=>whnf
     refine q2 ?_
     conv=>whnf
     obtain ⟨x_45,hx_45,h⟩:=bS h
     refine q3 (ixP_of hx_45 rr) ?_
     conv=>whnf
     refine q2 ?_
     conv=>whnf
     refine q2 ?_
     conv=>whnf
     refine q3 (lnS_map rr) ?_
     conv=>whnf
     refine q1 ?_
     conv=>whnf
     refine q1 ?_
     conv=>whnf
     refine q1 ?_
     conv=>whnf
     refine cB h (fun hb46 h=>?_) (fun hb46 h=>?_)
     ·conv=>whnf
      refine q1 ?_
      conv=>whnf
      cases h
      exact Wk.mk2 [0,1] 2 rfl rfl (by decide) rfl ⟨rr,rr,trivial⟩ ⟨rr,rr,rr,rr,rr,trivial⟩
     conv=>whnf
     refine q2 ?_
     conv=>whnf
     refine q2 ?_
     conv=>whnf
     refine q3 (lnS_map rr) ?_
     conv=>whnf
     refine q2 ?_
     conv=>whnf
     refine q2 ?_
     conv=>whnf
     refine q3 (lnS_map rr) ?_
     conv=>whnf
     refine q4 ?_
     conv=>whnf
     refine q1 ?_
     conv=>whnf
     refine q1 ?_
     conv=>whnf
     cases h
     exact Wk.mk2 [0,1] 2 rfl rfl (by decide) rfl ⟨rr,rr,trivial⟩ ⟨rr,rr,rr,rr,rr,trivial⟩
    conv=>whnf
    refine q1 ?_
    conv=>whnf
    refine q1 ?_
    conv=>whnf
    refine q1 ?_
    conv=>whnf
    refine q2 ?_
    conv=>whnf
    refine q2 ?_
    conv=>whnf
    refine q3 (lnS_map rr) ?_
    conv=>whnf
    refine q2 ?_
    conv=>whnf
    refine q2 ?_
    conv=>whnf
    obtain ⟨x_47,hx_47,h⟩:=bS h
    refine q3 (ixP_of hx_47 rr) ?_
    conv=>whnf
    refine q2 ?_
    conv=>whnf
    refine q2 ?_
    conv=>whnf
    refine q3 (lnS_map rr) ?_
    conv=>whnf
    refine q1 ?_
    conv=>whnf
    refine q1 ?_
    conv=>whnf
    refine q1 ?_
    conv=>whnf
    refine cB h (fun hb48 h=>?_) (fun hb48 h=>?_)
    ·conv=>whnf
     refine q1 ?_
     conv=>whnf
     cases h
     exact Wk.mk2 [0,1] 2 rfl rfl (by decide) rfl ⟨rr,rr,trivial⟩ ⟨rr,rr,rr,rr,rr,trivial⟩
    conv=>whnf
    refine q2 ?_
    conv=>whnf
    refine q2 ?_
    conv=>whnf
    refine q3 (lnS_map rr) ?_
    conv=>whnf
    refine q2 ?_
    conv=>whnf
    refine q2 ?_
    conv=>whnf
    refine q3 (lnS_map rr) ?_
    conv=>whnf
    refine q4 ?_
    conv=>whnf
    refine q1 ?_
    conv=>whnf
    refine q1 ?_
    conv=>whnf
    cases h
    exact Wk.mk2 [0,1] 2 rfl rfl (by decide) rfl ⟨rr,rr,trivial⟩ ⟨rr,rr,rr,rr,rr,trivial⟩
   clear hv38
   conv=>whnf
   refine Tr.weak hw ?_
   refine Tr.cond ?_
   conv=>whnf
   refine cB h (fun hb49 h=>?_) (fun hb49 h=>?_)
   ·refine sg ?_
    conv=>whnf
    refine Tr.ret ?_
    conv=>whnf
    cases h
    rfl
   refine Tr.skip ?_
   conv=>whnf
   refine sg ?_
   conv=>whnf
   refine Tr.cutQ (α:=Unit) (fun s=>([(1,.pt 0 0),(2,(dI 0)),(5,(dI i_31))],[some (.var [.d (.ls (List.map eTSegment f_1.Clocks.Segments)),.d (.ls (List.map (eL eI) f_1.Clocks.Far)),.d (.ls (List.map eTPair f_1.Pairs)),.d (.ls (List.map eTRunner f_1.Runners))])])) (fun s=>M180 i_31 (M181 f_1 (M182 f_1) n_32) s=some r_2) ?_ ?_
   ·refine Tr.block ?_
    refine Tr.loopM (σ:=Int) (fun n s=>M179 f_1 x_36 (M180 i_31 (M181 f_1 (M182 f_1) n_32)) n s) r_2 (fun s=>([(1,.pt 0 0),(2,(dI 0)),(5,(dI i_31)),(6,.pt 1 0),(7,(dI s))],[some (.var [.d (.ls (List.map eTSegment f_1.Clocks.Segments)),.d (.ls (List.map (eL eI) f_1.Clocks.Far)),.d (.ls (List.map eTPair f_1.Pairs)),.d (.ls (List.map eTRunner f_1.Runners))]),some (.var [(dI x_36.Bib),.d (.ls (List.map eI x_36.Keys)),.d (.ls (List.map (eL eTOutcome) x_36.Worlds))])])) (((((x_36.Worlds).length:Int)) - 0:Int).toNat+1) (0) h (fun s=>rfl) (Wk.mk2 [0,1] 2 rfl rfl (by decide) rfl ⟨rr,rr,trivial⟩ ⟨rr,rr,rr,rr,rr,trivial⟩) ?_
    clear h
    rintro n_52 w_51 h
    replace h:M179 f_1 x_36 (M180 i_31 (M181 f_1 (M182 f_1) n_32)) (n_52+1) w_51=some r_2:=h
    rw [M179] at h
    refine Tr.seq ?_
    refine sg ?_
    conv=>whnf
    refine lnS_map ?_
    conv=>whnf
    refine Tr.cond ?_
    conv=>whnf
    refine cB h (fun hb55 h=>?_) (fun hb55 h=>?_)
    ·refine Tr.skip ?_
     conv=>whnf
     refine Tr.seq ?_
     refine Tr.block ?_
     refine sg ?_
     conv=>whnf
     refine Tr.cutQ (α:=Unit) (fun s=>([(1,.pt 0 0),(2,(dI 0)),(5,(dI i_31)),(6,.pt 1 0),(7,(dI w_51))],[some (.var [.d (.ls (List.map eTSegment f_1.Clocks.Segments)),.d (.ls (List.map (eL eI) f_1.Clocks.Far)),.d (.ls (List.map eTPair f_1.Pairs)),.d (.ls (List.map eTRunner f_1.Runners))]),some (.var [(dI x_36.Bib),.d (.ls (List.map eI x_36.Keys)),.d (.ls (List.map (eL eTOutcome) x_36.Worlds))])])) (fun s=>M178 w_51 (M179 f_1 x_36 (M180 i_31 (M181 f_1 (M182 f_1) n_32)) n_52) s=some r_2) ?_ ?_
     ·refine Tr.block ?_
      refine Tr.loopM (σ:=Int) (fun n s=>M177 f_1 x_36 w_51 (M178 w_51 (M179 f_1 x_36 (M180 i_31 (M181 f_1 (M182 f_1) n_32)) n_52)) n s) r_2 (fun s=>([(1,.pt 0 0),(2,(dI 0)),(5,(dI i_31)),(6,.pt 1 0),(7,(dI w_51)),(8,(dI s))],[some (.var [.d (.ls (List.map eTSegment f_1.Clocks.Segments)),.d (.ls (List.map (eL eI) f_1.Clocks.Far)),.d (.ls (List.map eTPair f_1.Pairs)),.d (.ls (List.map eTRunner f_1.Runners))]),some (.var [(dI x_36.Bib),.d (.ls (List.map eI x_36.Keys)),.d (.ls (List.map (eL eTOutcome) x_36.Worlds))])])) ((((((Option.getD (idx x_36.Worlds w_51) default)).length:Int)) - 0:Int).toNat+1) (0) h (fun s=>rfl) (Wk.mk2 [0,1] 2 rfl rfl (by decide) rfl ⟨rr,rr,trivial⟩ ⟨rr,rr,rr,rr,rr,rr,trivial⟩) ?_
      clear h
      rintro n_58 n_57 h
      replace h:M177 f_1 x_36 w_51 (M178 w_51 (M179 f_1 x_36 (M180 i_31 (M181 f_1 (M182 f_1) n_32)) n_52)) (n_58+1) n_57=some r_2:=h
      rw [M177] at h
      refine Tr.seq ?_
      refine sg ?_
      conv=>whnf
      obtain ⟨x_61,hx_61,h⟩:=bS h
      refine ixP_of hx_61 ?_
      conv=>whnf
      refine lnS_map ?_
      conv=>whnf
      refine Tr.cond ?_
      conv=>whnf
      refine cB h (fun hb62 h=>?_) (fun hb62 h=>?_)
      ·refine Tr.skip ?_
       conv=>whnf
       refine Tr.seq ?_
       refine Tr.block ?_
       refine sd [] [(0,3),(1,3),(2,4),(3,4),(4,1),(5,2),(6,2),(7,1),(8,2),(9,2),(10,1),(11,1)] ?_
       conv=>whnf
       refine q2 ?_
       conv=>whnf
       refine q2 ?_
       conv=>whnf
       refine q2 ?_
       conv=>whnf
       refine q2 ?_
       conv=>whnf
       refine q1 ?_
       conv=>whnf
       obtain ⟨x_63,hx_63,h⟩:=bS h
       refine q3 (ixP_of hx_63 rr) ?_
       conv=>whnf
       refine q2 ?_
       conv=>whnf
       refine q1 ?_
       conv=>whnf
       obtain ⟨x_64,hx_64,h⟩:=bS h
       refine q3 (ixP_of hx_64 rr) ?_
       conv=>whnf
       refine q2 ?_
       conv=>whnf
       obtain ⟨r_65,hc66,h⟩:=bS h
       refine q1 ?_ (fun _=>pe (P169 f_1.Clocks x_64 r_65 hc66) rr)
       conv=>whnf
       refine q1 ?_
       conv=>whnf
       refine Tr.cond ?_
       conv=>whnf
       refine cB h (fun hb67 h=>?_) (fun hb67 h=>?_)
       ·refine sg ?_
        conv=>whnf
        refine Tr.ret ?_
        conv=>whnf
        cases h
        rfl
       refine Tr.skip ?_
       conv=>whnf
       refine rg ?_
       conv=>whnf
       refine arS_raw ?_
       conv=>whnf
       refine ⟨((w64 (n_57+1))),h,?_⟩
       exact Wk.mk2 [0,1] 2 rfl rfl (by decide) rfl ⟨rr,rr,trivial⟩ ⟨rr,rr,rr,rr,rr,rr,trivial⟩
      refine Tr.exit ?_
      conv=>whnf
      refine ⟨(),h,?_⟩
      exact Wk.mk2 [0,1] 2 rfl rfl (by decide) rfl ⟨rr,rr,trivial⟩ ⟨rr,rr,rr,rr,rr,trivial⟩
     clear h
     rintro _ h T1 H1 hw
     replace h:M178 w_51 (M179 f_1 x_36 (M180 i_31 (M181 f_1 (M182 f_1) n_32)) n_52) ()=some r_2:=h
     conv=>whnf
     refine Tr.weak hw ?_
     unfold M178 at h
     refine rg ?_
     conv=>whnf
     refine arS_raw ?_
     conv=>whnf
     refine ⟨((w64 (w_51+1))),h,?_⟩
     exact Wk.mk2 [0,1] 2 rfl rfl (by decide) rfl ⟨rr,rr,trivial⟩ ⟨rr,rr,rr,rr,rr,trivial⟩
    refine Tr.exit ?_
    conv=>whnf
    refine ⟨(),h,?_⟩
    exact Wk.mk2 [0] 2 rfl rfl (by decide) rfl ⟨rr,trivial⟩ ⟨rr,rr,rr,trivial⟩
   clear h
   rintro _ h T1 H1 hw
   replace h:M180 i_31 (M181 f_1 (M182 f_1) n_32) ()=some r_2:=h
   conv=>whnf
   refine Tr.weak hw ?_
   unfold M180 at h
   refine rg ?_
   conv=>whnf
   refine arS_raw ?_
   conv=>whnf
   refine ⟨((w64 (i_31+1))),h,?_⟩
   exact Wk.mk2 [0] 1 rfl rfl (by decide) rfl ⟨rr,trivial⟩ ⟨rr,rr,rr,trivial⟩
  refine Tr.exit ?_
  conv=>whnf
  refine ⟨(),h,?_⟩
  exact Wk.mk2 [0] 1 rfl rfl (by decide) rfl ⟨rr,trivial⟩ ⟨rr,rr,trivial⟩
 clear h
 rintro _ h T1 H1 hw
 replace h:M182 f_1 ()=some r_2:=h
 conv=>whnf
 refine Tr.weak hw ?_
 unfold M182 at h
 refine Tr.seq ?_
 refine sg ?_
 conv=>whnf
 obtain ⟨r_68,hc69,h⟩:=bS h
 refine PC.ecall (P175 f_1 r_68 hc69) (fun rs hrs=>?_)
 subst hrs
 conv=>whnf
 refine Tr.cond ?_
 conv=>whnf
 refine cB h (fun hb70 h=>?_) (fun hb70 h=>?_)
 ·refine sg ?_
  conv=>whnf
  refine Tr.ret ?_
  conv=>whnf
  cases h
  rfl
 refine Tr.skip ?_
 conv=>whnf
 refine sg ?_
 conv=>whnf
 refine Tr.ret ?_
 conv=>whnf
 cases h
 rfl
theorem P187 (x_1:TOutcome) (l_2:List TSpan) (r_3:Bool) (h:M187 x_1 l_2=some r_3) :
    PC prog 75 [(eTOutcome x_1),(.ls (List.map eTSpan l_2))] (fun rs=>rs=[(.b r_3)]):=by
 refine PC.of_tr (cx:=⟨45,none,lay,0⟩) layOK func75 rfl rfl rfl rfl rfl (by simp [f75]) ?_
 unfold M187 at h
 refine sg ?_
 conv=>whnf
 refine sg ?_
 conv=>whnf
 refine Tr.seq ?_
 refine sg ?_
 conv=>whnf
 refine Tr.cutQ (α:=Unit) (fun s=>([(4,.d (.b false))],[])) (fun s=>M186 s=some r_3) ?_ ?_
 ·refine Tr.block ?_
  refine Tr.loopM (σ:=Int × Int) (fun n s=>M185 x_1 l_2 M186 n s.1 s.2) r_3 (fun s=>([(1,.d (.ls (List.map eTSpan l_2))),(2,.pt 0 0),(4,.d (.b false)),(5,(dI s.1)),(6,(dI s.2))],[some (.var [.d (.b x_1.Out),(dI x_1.Seg),(dI x_1.Lo),(dI x_1.Hi)])])) (((((l_2).length:Int)) - 0:Int).toNat+1) (x_1.Lo,0) h (fun s=>rfl) (Wk.mk2 [0] 1 rfl rfl (by decide) rfl ⟨rr,trivial⟩ ⟨rr,rr,rr,rr,rr,trivial⟩) ?_
  clear h
  rintro n_8 ⟨at_6,i_7⟩ h
  replace h:M185 x_1 l_2 M186 (n_8+1) at_6 i_7=some r_3:=h
  rw [M185] at h
  refine Tr.seq ?_
  refine sg ?_
  conv=>whnf
  refine lnS_map ?_
  conv=>whnf
  refine Tr.cond ?_
  conv=>whnf
  refine cB h (fun hb11 h=>?_) (fun hb11 h=>?_)
  ·refine Tr.skip ?_
   conv=>whnf
   refine Tr.seq ?_
   refine Tr.block ?_
   refine Tr.seq ?_
   obtain ⟨v_12,hv13,h⟩:=bS h
   refine Tr.cutQ1 ([(1,.d (.ls (List.map eTSpan l_2))),(2,.pt 0 0),(4,.d (.b false)),(5,(dI at_6)),(6,(dI i_7)),(30,.d (.b v_12))]) ([some (.var [.d (.b x_1.Out),(dI x_1.Seg),(dI x_1.Lo),(dI x_1.Hi)])]) ?_ (fun T1 H1 hw=>?_)
   ·replace h:=hv13; clear hv13
    refine rg ?_
    conv=>whnf
    obtain ⟨x_14,hx_14,h⟩:=bS h
    refine ixP_of hx_14 ?_
    conv=>whnf
    refine cB h (fun hb15 h=>?_) (fun hb15 h=>?_)
    ·conv=>whnf
     obtain ⟨x_16,hx_16,h⟩:=bS h
     refine ixP_of hx_16 ?_
     conv=>whnf
     cases h
     exact Wk.mk2 [0] 1 rfl rfl (by decide) rfl ⟨rr,trivial⟩ ⟨rr,rr,rr,rr,rr,rr,trivial⟩
    conv=>whnf
    cases h
    exact Wk.mk2 [0] 1 rfl rfl (by decide) rfl ⟨rr,trivial⟩ ⟨rr,rr,rr,rr,rr,rr,trivial⟩
   clear hv13
   conv=>whnf
   refine Tr.weak hw ?_
   refine Tr.cond ?_
   conv=>whnf
   refine cB h (fun hb17 h=>?_) (fun hb17 h=>?_)
   ·refine Tr.seq ?_
    refine sd [] [(0,1),(1,1),(2,2),(3,2),(4,2),(5,3),(6,3),(7,1)] ?_
    conv=>whnf
    refine q1 ?_
    conv=>whnf
    refine q1 ?_
    conv=>whnf
    obtain ⟨x_18,hx_18,h⟩:=bS h
    refine q3 (ixP_of hx_18 rr) ?_
    conv=>whnf
    refine q2 ?_
    conv=>whnf
    refine q2 ?_
    conv=>whnf
    refine q2 ?_
    conv=>whnf
    refine q2 ?_
    conv=>whnf
    refine q1 ?_
    conv=>whnf
    refine Tr.cond ?_
    conv=>whnf
    refine cB h (fun hb19 h=>?_) (fun hb19 h=>?_)
    ·refine sg ?_
     conv=>whnf
     refine Tr.ret ?_
     conv=>whnf
     cases h
     rfl
    refine Tr.skip ?_
    conv=>whnf
    refine rg ?_
    conv=>whnf
    obtain ⟨x_20,hx_20,h⟩:=bS h
    refine ixP_of hx_20 ?_
    conv=>whnf
    refine arS_raw ?_
    conv=>whnf
    refine rg ?_
    conv=>whnf
    refine arS_raw ?_
    conv=>whnf
    refine ⟨((w64 (x_20.Hi+1)),(w64 (i_7+1))),h,?_⟩
    exact Wk.mk2 [0] 1 rfl rfl (by decide) rfl ⟨rr,trivial⟩ ⟨rr,rr,rr,rr,rr,trivial⟩
   refine Tr.skip ?_
   conv=>whnf
   refine rg ?_
   conv=>whnf
   refine arS_raw ?_
   conv=>whnf
   refine ⟨(at_6,(w64 (i_7+1))),h,?_⟩
   exact Wk.mk2 [0] 1 rfl rfl (by decide) rfl ⟨rr,trivial⟩ ⟨rr,rr,rr,rr,rr,trivial⟩
  refine Tr.exit ?_
  conv=>whnf
  refine ⟨(),h,?_⟩
  exact Wk.mk2 [] 1 rfl rfl (by decide) rfl trivial ⟨rr,trivial⟩
 clear h
 rintro _ h T1 H1 hw
 replace h:M186 ()=some r_3:=h
 conv=>whnf
 refine Tr.weak hw ?_
 unfold M186 at h
 refine sg ?_
 conv=>whnf
 refine Tr.ret ?_
 conv=>whnf
 cases h
 rfl
theorem P194 (f_1:TField) (x_2:TLook) (r_3:Bool) (h:M194 f_1 x_2=some r_3) :
    PC prog 40 [(eTField f_1),(eTLook x_2)] (fun rs=>rs=[(.b r_3)]):=by
 refine PC.of_tr (cx:=⟨115,none,lay,0⟩) layOK func40 rfl rfl rfl rfl rfl (by simp [f40]) ?_
 unfold M194 at h
 refine sg ?_
 conv=>whnf
 refine Tr.seq ?_
 refine Tr.seq ?_
 refine Tr.cutQ1 ([(2,.pt 0 0),(3,.pt 1 0),(4,.d (.b false)),(31,.d (.b ((decide (x_2.Runner < 0)) || ((decide (x_2.Runner≥(((f_1.Runners).length:Int)))) || ((decide ((((x_2.Answers).length:Int)) < 1)) || (decide ((((x_2.Answers).length:Int)) > 4)))))))]) ([some (.var [.d (.ls (List.map eTSegment f_1.Clocks.Segments)),.d (.ls (List.map (eL eI) f_1.Clocks.Far)),.d (.ls (List.map eTPair f_1.Pairs)),.d (.ls (List.map eTRunner f_1.Runners))]),some (.var [(dI x_2.Runner),.d (.ls (List.map eTSpan x_2.Answers))])]) ?_ (fun T1 H1 hw=>?_)
 ·refine rg ?_
  conv=>whnf
  refine condS_mk (fun hb5=>?_) (fun hb5=>?_)
  ·conv=>whnf
   exact Wk.mk2 [0,1] 2 rfl rfl (by decide) rfl ⟨rr,rr,trivial⟩ ⟨rr,rr,rr,⟨rfl,(by first | rfl | (simp only [↓hb5,bl,List.length_set]; done) | (simp only [↓hb5,bl,List.length_set]; rfl))⟩,trivial⟩
  conv=>whnf
  refine lnS_map ?_
  conv=>whnf
  refine condS_mk (fun hb6=>?_) (fun hb6=>?_)
  ·conv=>whnf
   exact Wk.mk2 [0,1] 2 rfl rfl (by decide) rfl ⟨rr,rr,trivial⟩ ⟨rr,rr,rr,⟨rfl,(by first | rfl | (simp only [↓hb5,↓hb6,bl,List.length_set]; done) | (simp only [↓hb5,↓hb6,bl,List.length_set]; rfl))⟩,trivial⟩
  conv=>whnf
  refine lnS_map ?_
  conv=>whnf
  refine condS_mk (fun hb7=>?_) (fun hb7=>?_)
  ·conv=>whnf
   exact Wk.mk2 [0,1] 2 rfl rfl (by decide) rfl ⟨rr,rr,trivial⟩ ⟨rr,rr,rr,⟨rfl,(by first | rfl | (simp only [↓hb5,↓hb6,↓hb7,bl,List.length_set]; done) | (simp only [↓hb5,↓hb6,↓hb7,bl,List.length_set]; rfl))⟩,trivial⟩
  conv=>whnf
  refine lnS_map ?_
  conv=>whnf
  exact Wk.mk2 [0,1] 2 rfl rfl (by decide) rfl ⟨rr,rr,trivial⟩ ⟨rr,rr,rr,⟨rfl,(by first | rfl | (simp only [↓hb5,↓hb6,↓hb7,bl,List.length_set]; done) | (simp only [↓hb5,↓hb6,↓hb7,bl,List.length_set]; rfl))⟩,trivial⟩
 conv=>whnf
 refine Tr.weak hw ?_
 refine Tr.cond ?_
 conv=>whnf
 refine cB h (fun hb8 h=>?_) (fun hb8 h=>?_)
 ·refine sg ?_
  conv=>whnf
  refine Tr.ret ?_
  conv=>whnf
  cases h
  rfl
 refine Tr.skip ?_
 conv=>whnf
 refine Tr.seq ?_
 refine sg ?_
 conv=>whnf
 refine Tr.cutQ (α:=Unit) (fun s=>([(2,.pt 0 0),(3,.pt 1 0),(4,.d (.b false))],[some (.var [.d (.ls (List.map eTSegment f_1.Clocks.Segments)),.d (.ls (List.map (eL eI) f_1.Clocks.Far)),.d (.ls (List.map eTPair f_1.Pairs)),.d (.ls (List.map eTRunner f_1.Runners))]),some (.var [(dI x_2.Runner),.d (.ls (List.map eTSpan x_2.Answers))])])) (fun s=>M193 f_1 x_2 s=some r_3) ?_ ?_
 ·refine Tr.block ?_
  refine Tr.loopM (σ:=Int) (fun n s=>M188 x_2 (M193 f_1 x_2) n s) r_3 (fun s=>([(2,.pt 0 0),(3,.pt 1 0),(4,.d (.b false)),(5,(dI s))],[some (.var [.d (.ls (List.map eTSegment f_1.Clocks.Segments)),.d (.ls (List.map (eL eI) f_1.Clocks.Far)),.d (.ls (List.map eTPair f_1.Pairs)),.d (.ls (List.map eTRunner f_1.Runners))]),some (.var [(dI x_2.Runner),.d (.ls (List.map eTSpan x_2.Answers))])])) (((((x_2.Answers).length:Int)) - 0:Int).toNat+1) (0) h (fun s=>rfl) (Wk.mk2 [0,1] 2 rfl rfl (by decide) rfl ⟨rr,rr,trivial⟩ ⟨rr,rr,rr,rr,trivial⟩) ?_
  clear h
  rintro n_11 i_10 h
  replace h:M188 x_2 (M193 f_1 x_2) (n_11+1) i_10=some r_3:=h
  rw [M188] at h
  refine Tr.seq ?_
  refine sg ?_
  conv=>whnf
  refine lnS_map ?_
  conv=>whnf
  refine Tr.cond ?_
  conv=>whnf
  refine cB h (fun hb14 h=>?_) (fun hb14 h=>?_)
  ·refine Tr.skip ?_
   conv=>whnf
   refine Tr.seq ?_
   refine Tr.block ?_
   refine sd [] [(0,4),(1,4),(2,1),(3,2),(4,2),(5,2),(6,4),(7,4),(8,1),(9,2),(10,2),(11,2),(12,1),(13,1),(14,1),(15,1),(16,1),(17,4),(18,4),(19,1),(20,2),(21,2),(22,2),(23,4),(24,4),(25,1),(26,1),(27,2),(28,2),(29,2),(30,1),(31,1),(32,1)] ?_
   conv=>whnf
   refine q2 ?_
   conv=>whnf
   refine q2 ?_
   conv=>whnf
   refine q1 ?_
   conv=>whnf
   obtain ⟨x_15,hx_15,h⟩:=bS h
   refine q3 (ixP_of hx_15 rr) ?_
   conv=>whnf
   refine q2 ?_
   conv=>whnf
   refine q2 ?_
   conv=>whnf
   refine q2 ?_
   conv=>whnf
   refine q2 ?_
   conv=>whnf
   refine q1 ?_
   conv=>whnf
   obtain ⟨x_16,hx_16,h⟩:=bS h
   refine q3 (ixP_of hx_16 rr) ?_
   conv=>whnf
   refine q2 ?_
   conv=>whnf
   refine q2 ?_
   conv=>whnf
   refine q1 ?_
   conv=>whnf
   refine q1 ?_
   conv=>whnf
   refine cB h (fun hb17 h=>?_) (fun hb17 h=>?_)
   ·conv=>whnf
    refine q1 ?_
    conv=>whnf
    refine Tr.cond ?_
    conv=>whnf
    refine sg ?_
    conv=>whnf
    refine Tr.ret ?_
    conv=>whnf
    cases h
    rfl
   conv=>whnf
   refine q1 ?_
   conv=>whnf
   refine q1 ?_
   conv=>whnf
   refine q1 ?_
   conv=>whnf
   refine cB h (fun hb18 h=>?_) (fun hb18 h=>?_)
   ·conv=>whnf
    refine q2 ?_
    conv=>whnf
    refine q2 ?_
    conv=>whnf
    refine q1 ?_
    conv=>whnf
    obtain ⟨x_19,hx_19,h⟩:=bS h
    refine q3 (ixP_of hx_19 rr) ?_
    conv=>whnf
    refine q2 ?_
    conv=>whnf
    refine q2 ?_
    conv=>whnf
    refine q2 ?_
    conv=>whnf
    refine q2 ?_
    conv=>whnf
    refine q1 ?_
    conv=>whnf
    refine q4 ?_
    conv=>whnf
    obtain ⟨x_20,hx_20,h⟩:=bS h
    refine q3 (ixP_of hx_20 rr) ?_
    conv=>whnf
    refine q2 ?_
    conv=>whnf
    refine q2 ?_
    conv=>whnf
    refine q1 ?_
    conv=>whnf
    refine q1 ?_
    conv=>whnf
    refine q1 ?_
    conv=>whnf
    refine Tr.cond ?_
    conv=>whnf
    refine cB h (fun hb21 h=>?_) (fun hb21 h=>?_)
    ·refine sg ?_
     conv=>whnf
     refine Tr.ret ?_
     conv=>whnf
     cases h
     rfl
    refine Tr.skip ?_
    conv=>whnf
    refine rg ?_
    conv=>whnf
    refine arS_raw ?_
    conv=>whnf
    refine ⟨((w64 (i_10+1))),h,?_⟩
    exact Wk.mk2 [0,1] 2 rfl rfl (by decide) rfl ⟨rr,rr,trivial⟩ ⟨rr,rr,rr,rr,trivial⟩
   conv=>whnf
   refine q1 ?_
   conv=>whnf
   refine q1 ?_
   conv=>whnf
   refine Tr.cond ?_
   conv=>whnf
   refine Tr.skip ?_
   conv=>whnf
   refine rg ?_
   conv=>whnf
   refine arS_raw ?_
   conv=>whnf
   refine ⟨((w64 (i_10+1))),h,?_⟩
   exact Wk.mk2 [0,1] 2 rfl rfl (by decide) rfl ⟨rr,rr,trivial⟩ ⟨rr,rr,rr,rr,trivial⟩
  refine Tr.exit ?_
  conv=>whnf
  refine ⟨(),h,?_⟩
  exact Wk.mk2 [0,1] 2 rfl rfl (by decide) rfl ⟨rr,rr,trivial⟩ ⟨rr,rr,rr,trivial⟩
 clear h
 rintro _ h T1 H1 hw
 replace h:M193 f_1 x_2 ()=some r_3:=h
 conv=>whnf
 refine Tr.weak hw ?_
 unfold M193 at h
 refine sg ?_
 conv=>whnf
 obtain ⟨x_22,hx_22,h⟩:=bS h
 refine ixP_of hx_22 ?_
 conv=>whnf
 refine Tr.seq ?_
 refine sg ?_
 conv=>whnf
 refine Tr.cutQ (α:=Unit) (fun s=>([(4,.d (.b false))],[])) (fun s=>M192 s=some r_3) ?_ ?_
 ·refine Tr.block ?_
  refine Tr.loopM (σ:=Int) (fun n s=>M191 x_2 x_22 M192 n s) r_3 (fun s=>([(3,.pt 0 0),(4,.d (.b false)),(6,.d (.ls (List.map (eL eTOutcome) x_22.Worlds))),(7,(dI s))],[some (.var [(dI x_2.Runner),.d (.ls (List.map eTSpan x_2.Answers))])])) (((((x_22.Worlds).length:Int)) - 0:Int).toNat+1) (0) h (fun s=>rfl) (Wk.mk2 [1] 2 rfl rfl (by decide) rfl ⟨rr,trivial⟩ ⟨⟨rfl,(by first | rfl | (simp only [↓hb8,bl,List.length_set]; done) | (simp only [↓hb8,bl,List.length_set]; rfl))⟩,rr,rr,rr,trivial⟩) ?_
  clear h
  rintro n_25 w_24 h
  replace h:M191 x_2 x_22 M192 (n_25+1) w_24=some r_3:=h
  rw [M191] at h
  refine Tr.seq ?_
  refine sg ?_
  conv=>whnf
  refine lnS_map ?_
  conv=>whnf
  refine Tr.cond ?_
  conv=>whnf
  refine cB h (fun hb28 h=>?_) (fun hb28 h=>?_)
  ·refine Tr.skip ?_
   conv=>whnf
   refine Tr.seq ?_
   refine Tr.block ?_
   refine sg ?_
   conv=>whnf
   refine Tr.cutQ (α:=Unit) (fun s=>([(3,.pt 0 0),(4,.d (.b false)),(6,.d (.ls (List.map (eL eTOutcome) x_22.Worlds))),(7,(dI w_24))],[some (.var [(dI x_2.Runner),.d (.ls (List.map eTSpan x_2.Answers))])])) (fun s=>M190 w_24 (M191 x_2 x_22 M192 n_25) s=some r_3) ?_ ?_
   ·refine Tr.block ?_
    refine Tr.loopM (σ:=Int) (fun n s=>M189 x_2 x_22 w_24 (M190 w_24 (M191 x_2 x_22 M192 n_25)) n s) r_3 (fun s=>([(3,.pt 0 0),(4,.d (.b false)),(6,.d (.ls (List.map (eL eTOutcome) x_22.Worlds))),(7,(dI w_24)),(8,(dI s))],[some (.var [(dI x_2.Runner),.d (.ls (List.map eTSpan x_2.Answers))])])) ((((((Option.getD (idx x_22.Worlds w_24) default)).length:Int)) - 0:Int).toNat+1) (0) h (fun s=>rfl) (Wk.mk2 [0] 1 rfl rfl (by decide) rfl ⟨rr,trivial⟩ ⟨rr,rr,rr,rr,rr,trivial⟩) ?_
    clear h
    rintro n_31 i_30 h
    replace h:M189 x_2 x_22 w_24 (M190 w_24 (M191 x_2 x_22 M192 n_25)) (n_31+1) i_30=some r_3:=h
    rw [M189] at h
    refine Tr.seq ?_
    refine sg ?_
    conv=>whnf
    obtain ⟨x_34,hx_34,h⟩:=bS h
    refine ixP_of hx_34 ?_
    conv=>whnf
    refine lnS_map ?_
    conv=>whnf
    refine Tr.cond ?_
    conv=>whnf
    refine cB h (fun hb35 h=>?_) (fun hb35 h=>?_)
    ·refine Tr.skip ?_
     conv=>whnf
     refine Tr.seq ?_
     refine Tr.block ?_
     refine sd [] [(0,1),(1,1),(2,2),(3,2),(4,1),(5,2),(6,2),(7,2),(8,1),(9,1),(10,1),(11,2),(12,2),(13,1),(14,2),(15,2),(16,3),(17,3),(18,1),(19,1),(20,1)] ?_
     conv=>whnf
     refine q1 ?_
     conv=>whnf
     refine q1 ?_
     conv=>whnf
     obtain ⟨x_36,hx_36,h⟩:=bS h
     refine q3 (ixP_of hx_36 rr) ?_
     conv=>whnf
     refine q2 ?_
     conv=>whnf
     refine q1 ?_
     conv=>whnf
     obtain ⟨x_37,hx_37,h⟩:=bS h
     refine q3 (ixP_of hx_37 rr) ?_
     conv=>whnf
     refine q2 ?_
     conv=>whnf
     refine q2 ?_
     conv=>whnf
     refine q1 ?_
     conv=>whnf
     refine cB h (fun hb38 h=>?_) (fun hb38 h=>?_)
     ·conv=>whnf
      refine q1 ?_
      conv=>whnf
      refine Tr.cond ?_
      conv=>whnf
      refine sg ?_
      conv=>whnf
      refine Tr.ret ?_
      conv=>whnf
      cases h
      rfl
     conv=>whnf
     refine q1 ?_
     conv=>whnf
     refine q1 ?_
     conv=>whnf
     obtain ⟨x_39,hx_39,h⟩:=bS h
     refine q3 (ixP_of hx_39 rr) ?_
     conv=>whnf
     refine q2 ?_
     conv=>whnf
     refine q1 ?_
     conv=>whnf
     obtain ⟨x_40,hx_40,h⟩:=bS h
     refine q3 (ixP_of hx_40 rr) ?_
     conv=>whnf
     refine q2 ?_
     conv=>whnf
     refine q2 ?_
     conv=>whnf
     refine q2 ?_
     conv=>whnf
     obtain ⟨r_41,hc42,h⟩:=bS h
     refine q1 ?_ (fun _=>pe (P187 x_40 x_2.Answers r_41 hc42) rr)
     conv=>whnf
     refine q1 ?_
     conv=>whnf
     refine q1 ?_
     conv=>whnf
     refine Tr.cond ?_
     conv=>whnf
     refine cB h (fun hb43 h=>?_) (fun hb43 h=>?_)
     ·refine sg ?_
      conv=>whnf
      refine Tr.ret ?_
      conv=>whnf
      cases h
      rfl
     refine Tr.skip ?_
     conv=>whnf
     refine rg ?_
     conv=>whnf
     refine arS_raw ?_
     conv=>whnf
     refine ⟨((w64 (i_30+1))),h,?_⟩
     exact Wk.mk2 [0] 1 rfl rfl (by decide) rfl ⟨rr,trivial⟩ ⟨rr,rr,rr,rr,rr,trivial⟩
    refine Tr.exit ?_
    conv=>whnf
    refine ⟨(),h,?_⟩
    exact Wk.mk2 [0] 1 rfl rfl (by decide) rfl ⟨rr,trivial⟩ ⟨rr,rr,rr,rr,trivial⟩
   clear h
   rintro _ h T1 H1 hw
   replace h:M190 w_24 (M191 x_2 x_22 M192 n_25) ()=some r_3:=h
   conv=>whnf
   refine Tr.weak hw ?_
   unfold M190 at h
   refine rg ?_
   conv=>whnf
   refine arS_raw ?_
   conv=>whnf
   refine ⟨((w64 (w_24+1))),h,?_⟩
   exact Wk.mk2 [0] 1 rfl rfl (by decide) rfl ⟨rr,trivial⟩ ⟨rr,rr,rr,rr,trivial⟩
  refine Tr.exit ?_
  conv=>whnf
  refine ⟨(),h,?_⟩
  exact Wk.mk2 [] 1 rfl rfl (by decide) rfl trivial ⟨rr,trivial⟩
 clear h
 rintro _ h T1 H1 hw
 replace h:M192 ()=some r_3:=h
 conv=>whnf
 refine Tr.weak hw ?_
 unfold M192 at h
 refine sg ?_
 conv=>whnf
 refine Tr.ret ?_
 conv=>whnf
 cases h
 rfl
theorem P197 (q_1:TQuestion) (r_2:Int) (h:M197 q_1=some r_2) :
    PC prog 16 [(eTQuestion q_1)] (fun rs=>rs=[(.i .i64 r_2)]):=by
 refine PC.of_tr (cx:=⟨44,none,lay,0⟩) layOK func16 rfl rfl rfl rfl rfl (by simp [f16]) ?_
 unfold M197 at h
 refine sg ?_
 conv=>whnf
 refine Tr.seq ?_
 refine Tr.seq ?_
 obtain ⟨v_3,hv4,h⟩:=bS h
 refine Tr.cutQ1 ([(1,.pt 0 0),(2,(dI 0)),(27,.d (.b v_3))]) ([some (.var [.d (.ls (List.map eTSegment q_1.Field.Clocks.Segments)),.d (.ls (List.map (eL eI) q_1.Field.Clocks.Far)),.d (.ls (List.map eTPair q_1.Field.Pairs)),.d (.ls (List.map eTRunner q_1.Field.Runners)),(dI q_1.Runner),.d (.ls (List.map eTLook q_1.Looks))])]) ?_ (fun T1 H1 hw=>?_)
 ·replace h:=hv4; clear hv4
  refine rg ?_
  conv=>whnf
  obtain ⟨r_5,hc6,h⟩:=bS h
  refine PC.ecall (P184 q_1.Field r_5 hc6) (fun rs hrs=>?_)
  subst hrs
  conv=>whnf
  refine cB h (fun hb7 h=>?_) (fun hb7 h=>?_)
  ·conv=>whnf
   cases h
   exact Wk.mk2 [0] 1 rfl rfl (by decide) rfl ⟨rr,trivial⟩ ⟨rr,rr,rr,trivial⟩
  conv=>whnf
  refine cB h (fun hb8 h=>?_) (fun hb8 h=>?_)
  ·conv=>whnf
   cases h
   exact Wk.mk2 [0] 1 rfl rfl (by decide) rfl ⟨rr,trivial⟩ ⟨rr,rr,rr,trivial⟩
  conv=>whnf
  refine lnS_map ?_
  conv=>whnf
  refine cB h (fun hb9 h=>?_) (fun hb9 h=>?_)
  ·conv=>whnf
   cases h
   exact Wk.mk2 [0] 1 rfl rfl (by decide) rfl ⟨rr,trivial⟩ ⟨rr,rr,rr,trivial⟩
  conv=>whnf
  refine lnS_map ?_
  conv=>whnf
  cases h
  exact Wk.mk2 [0] 1 rfl rfl (by decide) rfl ⟨rr,trivial⟩ ⟨rr,rr,rr,trivial⟩
 clear hv4
 conv=>whnf
 refine Tr.weak hw ?_
 refine Tr.cond ?_
 conv=>whnf
 refine cB h (fun hb10 h=>?_) (fun hb10 h=>?_)
 ·refine sg ?_
  conv=>whnf
  refine Tr.ret ?_
  conv=>whnf
  cases h
  rfl
 refine Tr.skip ?_
 conv=>whnf
 refine Tr.seq ?_
 refine sg ?_
 conv=>whnf
 refine Tr.cutQ (α:=Unit) (fun s=>([(2,(dI 0))],[])) (fun s=>M196 s=some r_2) ?_ ?_
 ·refine Tr.block ?_
  refine Tr.loopM (σ:=Int) (fun n s=>M195 q_1 M196 n s) r_2 (fun s=>([(1,.pt 0 0),(2,(dI 0)),(3,(dI s))],[some (.var [.d (.ls (List.map eTSegment q_1.Field.Clocks.Segments)),.d (.ls (List.map (eL eI) q_1.Field.Clocks.Far)),.d (.ls (List.map eTPair q_1.Field.Pairs)),.d (.ls (List.map eTRunner q_1.Field.Runners)),(dI q_1.Runner),.d (.ls (List.map eTLook q_1.Looks))])])) (((((q_1.Looks).length:Int)) - 0:Int).toNat+1) (0) h (fun s=>rfl) (Wk.mk2 [0] 1 rfl rfl (by decide) rfl ⟨rr,trivial⟩ ⟨rr,rr,rr,trivial⟩) ?_
  clear h
  rintro n_13 i_12 h
  replace h:M195 q_1 M196 (n_13+1) i_12=some r_2:=h
  rw [M195] at h
  refine Tr.seq ?_
  refine sg ?_
  conv=>whnf
  refine lnS_map ?_
  conv=>whnf
  refine Tr.cond ?_
  conv=>whnf
  refine cB h (fun hb16 h=>?_) (fun hb16 h=>?_)
  ·refine Tr.skip ?_
   conv=>whnf
   refine Tr.seq ?_
   refine Tr.block ?_
   refine sd [] [(0,3),(1,3),(2,3),(3,3),(4,1),(5,2),(6,2),(7,1),(8,1)] ?_
   conv=>whnf
   refine q2 ?_
   conv=>whnf
   refine q2 ?_
   conv=>whnf
   refine q2 ?_
   conv=>whnf
   refine q2 ?_
   conv=>whnf
   refine q1 ?_
   conv=>whnf
   obtain ⟨x_17,hx_17,h⟩:=bS h
   refine q3 (ixP_of hx_17 rr) ?_
   conv=>whnf
   refine q2 ?_
   conv=>whnf
   obtain ⟨r_18,hc19,h⟩:=bS h
   refine q1 ?_ (fun _=>pe (P194 q_1.Field x_17 r_18 hc19) rr)
   conv=>whnf
   refine q1 ?_
   conv=>whnf
   refine Tr.cond ?_
   conv=>whnf
   refine cB h (fun hb20 h=>?_) (fun hb20 h=>?_)
   ·refine sg ?_
    conv=>whnf
    refine Tr.ret ?_
    conv=>whnf
    cases h
    rfl
   refine Tr.skip ?_
   conv=>whnf
   refine rg ?_
   conv=>whnf
   refine arS_raw ?_
   conv=>whnf
   refine ⟨((w64 (i_12+1))),h,?_⟩
   exact Wk.mk2 [0] 1 rfl rfl (by decide) rfl ⟨rr,trivial⟩ ⟨rr,rr,rr,trivial⟩
  refine Tr.exit ?_
  conv=>whnf
  refine ⟨(),h,?_⟩
  exact Wk.mk2 [] 1 rfl rfl (by decide) rfl trivial ⟨rr,trivial⟩
 clear h
 rintro _ h T1 H1 hw
 replace h:M196 ()=some r_2:=h
 conv=>whnf
 refine Tr.weak hw ?_
 unfold M196 at h
 refine sg ?_
 conv=>whnf
 refine Tr.ret ?_
 conv=>whnf
 cases h
 rfl
theorem P199 (l_1:List TOutcome) (s_2:TSpan) (r_3:List TOutcome) (h:M199 l_1 s_2=some r_3) :
    PC prog 69 [(.ls (List.map eTOutcome l_1)),(eTSpan s_2)] (fun rs=>rs=[(.ls (List.map eTOutcome r_3))]):=by
 refine PC.of_tr (cx:=⟨41,none,lay,0⟩) layOK func69 rfl rfl rfl rfl rfl (by simp [f69]) ?_
 unfold M199 at h
 refine sg ?_
 conv=>whnf
 refine sg ?_
 conv=>whnf
 refine orB_l ?_
 conv=>whnf
 refine Tr.seq ?_
 refine sg ?_
 conv=>whnf
 obtain ⟨l_9,hv16,h⟩:=bS h
 refine Tr.cutQ1 ([(4,.nsl),(5,.sl 0 4 0 (List.length l_9))]) ([some (.arr 4 (List.map .d (List.map eTOutcome l_9)))]) ?_ (fun T1 H1 hw=>?_)
 ·replace h:=hv16; clear hv16
  refine Tr.block ?_
  refine Tr.loopM (σ:=Int × List TOutcome) (fun n s=>M198 l_1 s_2 n s.1 s.2) l_9 (fun s=>([(0,.d (.ls (List.map eTOutcome l_1))),(3,.pt 0 0),(4,.nsl),(5,.sl 1 4 0 (List.length s.2)),(6,(dI s.1))],[some (.var [(dI s_2.Lo),(dI s_2.Hi)]),some (.arr 4 (List.map .d (List.map eTOutcome s.2)))])) (((((l_1).length:Int)) - 0:Int).toNat+1) (0,(([]:List TOutcome))) h (fun s=>rfl) (Wk.mk2 [0,1] 2 rfl rfl (by decide) rfl ⟨rr,daS_d rfl,trivial⟩ ⟨rr,rr,rr,rr,rr,trivial⟩) ?_
  clear h
  rintro n_8 ⟨i_6,l_7⟩ h
  replace h:M198 l_1 s_2 (n_8+1) i_6 l_7=some l_9:=h
  rw [M198] at h
  refine Tr.seq ?_
  refine sg ?_
  conv=>whnf
  refine lnS_map ?_
  conv=>whnf
  refine Tr.cond ?_
  conv=>whnf
  refine cB h (fun hb12 h=>?_) (fun hb12 h=>?_)
  ·refine Tr.skip ?_
   conv=>whnf
   refine Tr.seq ?_
   refine Tr.block ?_
   refine sg ?_
   conv=>whnf
   obtain ⟨x_13,hx_13,h⟩:=bS h
   refine ixP_of hx_13 ?_
   conv=>whnf
   refine sg ?_
   conv=>whnf
   refine sg ?_
   conv=>whnf
   refine sg ?_
   conv=>whnf
   refine Tr.cond ?_
   conv=>whnf
   refine cB h (fun hb14 h=>?_) (fun hb14 h=>?_)
   ·refine rg ?_
    conv=>whnf
    refine orB_r ?_
    conv=>whnf
    refine frP_no ?_
    conv=>whnf
    refine eqS_mk (by first | rfl | simp) ?_
    conv=>whnf
    obtain ⟨l_15,hl_15,h⟩:=bS h
    refine apS_of hl_15 (aQ (f:=eTOutcome) (l:=(([({ Out:=x_13.Out,Seg:=x_13.Seg,Lo:=(maxG x_13.Lo s_2.Lo),Hi:=(minG x_13.Hi s_2.Hi) }:TOutcome)]:List TOutcome))) fun _=>rfl) (by first | rfl | simp) (by first | rfl | simp) (fun he=>?_)
    conv=>whnf
    refine rS (es':=List.map .d (List.map eTOutcome l_15)) (n':=List.length l_15) (by subst he; simp only [List.map_append,List.map_cons,List.map_nil,List.nil_append]; first | done | rfl) (by subst he; simp <;> omega) ?_
    clear he
    conv=>whnf
    refine rg ?_
    conv=>whnf
    refine arS_raw ?_
    conv=>whnf
    refine ⟨((w64 (i_6+1)),l_15),h,?_⟩
    exact Wk.mk2 [0,3] 4 rfl rfl (by decide) rfl ⟨rr,daS_d rfl,trivial⟩ ⟨rr,rr,rr,⟨rfl,(by first | rfl | (simp only [↓hb12,↓hb14,bl,List.length_set]; done) | (simp only [↓hb12,↓hb14,bl,List.length_set]; rfl))⟩,rr,trivial⟩
   refine Tr.skip ?_
   conv=>whnf
   refine rg ?_
   conv=>whnf
   refine arS_raw ?_
   conv=>whnf
   refine ⟨((w64 (i_6+1)),l_7),h,?_⟩
   exact Wk.mk2 [0,1] 3 rfl rfl (by decide) rfl ⟨rr,daS_d rfl,trivial⟩ ⟨rr,rr,rr,rr,rr,trivial⟩
  refine Tr.exit ?_
  conv=>whnf
  cases h
  exact Wk.mk2 [1] 2 rfl rfl (by decide) rfl ⟨daS_d rfl,trivial⟩ ⟨rr,⟨rfl,(by first | rfl | (simp only [↓hb12,bl,List.length_set]; done) | (simp only [↓hb12,bl,List.length_set]; rfl))⟩,trivial⟩
 clear hv16
 conv=>whnf
 refine Tr.weak hw ?_
 refine sg ?_
 conv=>whnf
 refine Tr.ret ?_
 conv=>whnf
 refine frE_of (f:=eTOutcome) (l:=l_9) rfl ?_
 conv=>whnf
 cases h
 rfl
theorem P203 (q_1:TQuestion) (look_2:Int) (answer_3:Int) (r_4:TQuestion) (r_5:Bool) (h:M203 q_1 look_2 answer_3=some (r_4,r_5)) :
    PC prog 35 [(eTQuestion q_1),(.i .i64 look_2),(.i .i64 answer_3)] (fun rs=>rs=[(eTQuestion r_4),(.b r_5)]):=by
 refine PC.of_tr (cx:=⟨75,none,lay,0⟩) layOK func35 rfl rfl rfl rfl rfl (by simp [f35]) ?_
 unfold M203 at h
 refine sg ?_
 conv=>whnf
 refine sg ?_
 conv=>whnf
 obtain ⟨x_6,hx_6,h⟩:=bS h
 refine ixP_of hx_6 ?_
 conv=>whnf
 refine sg ?_
 conv=>whnf
 refine orB_l ?_
 conv=>whnf
 refine frP_no ?_
 conv=>whnf
 refine eqS_mk (by first | rfl | simp) ?_
 conv=>whnf
 obtain ⟨l_7,hl_7,h⟩:=bS h
 refine apS_of hl_7 (aQ (f:=eTRunner) (l:=q_1.Field.Runners) fun _=>rfl) (by first | rfl | simp) (by first | rfl | simp) (fun he=>?_)
 conv=>whnf
 refine rS (es':=List.map .d (List.map eTRunner l_7)) (n':=List.length l_7) (by subst he; simp only [List.map_append,List.map_cons,List.map_nil,List.nil_append]; first | done | rfl) (by subst he; simp <;> omega) ?_
 clear he
 conv=>whnf
 refine sg ?_
 conv=>whnf
 obtain ⟨x_8,hx_8,h⟩:=bS h
 refine ixS_of hx_8 rfl ?_
 conv=>whnf
 refine elP_of hx_8 ?_
 conv=>whnf
 refine sg ?_
 conv=>whnf
 refine orB_l ?_
 conv=>whnf
 refine Tr.seq ?_
 refine sg ?_
 conv=>whnf
 obtain ⟨l_14,hv23,h⟩:=bS h
 refine Tr.cutQ1 ([(3,.pt 0 0),(6,.pt 1 0),(7,.d (.b false)),(8,.pt 2 0),(9,.sl 3 3 0 (List.length l_7)),(10,.pt 4 0),(11,.sl 5 1 0 (List.length l_14))]) ([some (.var [.d (.ls (List.map eTSegment q_1.Field.Clocks.Segments)),.d (.ls (List.map (eL eI) q_1.Field.Clocks.Far)),.d (.ls (List.map eTPair q_1.Field.Pairs)),.d (.ls (List.map eTRunner q_1.Field.Runners)),(dI q_1.Runner),.d (.ls (List.map eTLook q_1.Looks))]),some (.var [.nsl,.nsl,.nsl,.nsl,(dI 0),.nsl]),some (.var [(dI x_6.Runner),.d (.ls (List.map eTSpan x_6.Answers))]),some (.arr 3 (List.map .d (List.map eTRunner l_7))),some (.var [(dI x_8.Bib),.d (.ls (List.map eI x_8.Keys)),.d (.ls (List.map (eL eTOutcome) x_8.Worlds))]),some (.arr 1 (List.map .d (List.map (eL eTOutcome) l_14)))]) ?_ (fun T1 H1 hw=>?_)
 ·replace h:=hv23; clear hv23
  refine Tr.block ?_
  refine Tr.loopM (σ:=Int × List (List TOutcome)) (fun n s=>M200 answer_3 x_6 x_8 n s.1 s.2) l_14 (fun s=>([(2,(dI answer_3)),(3,.pt 0 0),(6,.pt 1 0),(7,.d (.b false)),(8,.pt 2 0),(9,.sl 3 3 0 (List.length l_7)),(10,.pt 4 0),(11,.sl 5 1 0 (List.length s.2)),(12,(dI s.1))],[some (.var [.d (.ls (List.map eTSegment q_1.Field.Clocks.Segments)),.d (.ls (List.map (eL eI) q_1.Field.Clocks.Far)),.d (.ls (List.map eTPair q_1.Field.Pairs)),.d (.ls (List.map eTRunner q_1.Field.Runners)),(dI q_1.Runner),.d (.ls (List.map eTLook q_1.Looks))]),some (.var [.nsl,.nsl,.nsl,.nsl,(dI 0),.nsl]),some (.var [(dI x_6.Runner),.d (.ls (List.map eTSpan x_6.Answers))]),some (.arr 3 (List.map .d (List.map eTRunner l_7))),some (.var [(dI x_8.Bib),.d (.ls (List.map eI x_8.Keys)),.d (.ls (List.map (eL eTOutcome) x_8.Worlds))]),some (.arr 1 (List.map .d (List.map (eL eTOutcome) s.2)))])) (((((x_8.Worlds).length:Int)) - 0:Int).toNat+1) (0,(([]:List (List TOutcome)))) h (fun s=>rfl) (Wk.mk2 [0,1,2,4,5,6] 7 rfl rfl (by decide) rfl ⟨rr,rr,rr,daS_d rfl,rr,daS_d rfl,trivial⟩ ⟨rr,rr,rr,rr,rr,⟨rfl,(by first | rfl | (simp only [List.length_set]; rfl) | simp)⟩,⟨rfl,(by first | rfl | (simp only [List.length_set]; rfl) | simp)⟩,⟨rfl,(by first | rfl | (simp only [List.length_set]; rfl) | simp)⟩,rr,trivial⟩) ?_
  clear h
  rintro n_13 ⟨w_11,l_12⟩ h
  replace h:M200 answer_3 x_6 x_8 (n_13+1) w_11 l_12=some l_14:=h
  rw [M200] at h
  refine Tr.seq ?_
  refine sg ?_
  conv=>whnf
  refine lnS_map ?_
  conv=>whnf
  refine Tr.cond ?_
  conv=>whnf
  refine cB h (fun hb17 h=>?_) (fun hb17 h=>?_)
  ·refine Tr.skip ?_
   conv=>whnf
   refine Tr.seq ?_
   refine Tr.block ?_
   refine dq [(13,5)] [(0,1),(1,7),(2,7),(3,1),(4,2),(5,2),(6,5),(7,5),(8,1),(9,2),(10,2),(11,1),(12,1),(13,0),(14,1)] ?_
   conv=>whnf
   refine q1 ?_
   conv=>whnf
   refine q2 ?_
   conv=>whnf
   refine q2 ?_
   conv=>whnf
   refine q1 ?_
   conv=>whnf
   obtain ⟨x_18,hx_18,h⟩:=bS h
   refine q3 (ixP_of hx_18 rr) ?_
   conv=>whnf
   refine q2 ?_
   conv=>whnf
   refine q2 ?_
   conv=>whnf
   refine q2 ?_
   conv=>whnf
   refine q1 ?_
   conv=>whnf
   obtain ⟨x_19,hx_19,h⟩:=bS h
   refine q3 (ixP_of hx_19 rr) ?_
   conv=>whnf
   refine q2 ?_
   conv=>whnf
   obtain ⟨r_20,hc21,h⟩:=bS h
   refine q1 ?_ (fun _=>pe (P199 x_18 x_19 r_20 hc21) rr)
   conv=>whnf
   refine q1 ?_ (fun _=>orB_r rr)
   conv=>whnf
   obtain ⟨l_22,hl_22,h⟩:=bS h
   refine ⟨_,_,(by (conv=>whnf); (refine frP_no ?_); (conv=>whnf); (refine eqS_mk (by first | rfl | simp) ?_); (conv=>whnf); (refine apS_of hl_22 (aQ (f:=(eL eTOutcome)) (l:=(([r_20]:List (List TOutcome)))) fun _=>rfl) (by first | rfl | simp) (by first | rfl | simp) (fun he=>?_)); (conv=>whnf); (refine rS (es':=List.map .d (List.map (eL eTOutcome) l_22)) (n':=List.length l_22) (by subst he; simp only [List.map_append,List.map_cons,List.map_nil,List.nil_append]; first | done | rfl) (by subst he; simp <;> omega) ?_); (clear he); (conv=>whnf); (exact rr)),kp_ok (by repeat (first | exact trivial | refine ⟨trivial,?_⟩ | refine ⟨rfl,?_⟩)),?_⟩
   conv=>whnf
   refine q1 ?_
   conv=>whnf
   refine rg ?_
   conv=>whnf
   refine arS_raw ?_
   conv=>whnf
   refine ⟨((w64 (w_11+1)),l_22),h,?_⟩
   exact Wk.mk2 [0,1,2,3,4,6] 7 rfl rfl (by decide) rfl ⟨rr,rr,rr,daS_d rfl,rr,daS_d rfl,trivial⟩ ⟨rr,rr,rr,rr,rr,rr,rr,⟨rfl,(by first | rfl | (simp only [↓hb17,bl,List.length_set]; done) | (simp only [↓hb17,bl,List.length_set]; rfl))⟩,rr,trivial⟩
  refine Tr.exit ?_
  conv=>whnf
  cases h
  exact Wk.mk2 [0,1,2,3,4,5] 6 rfl rfl (by decide) rfl ⟨rr,rr,rr,daS_d rfl,rr,daS_d rfl,trivial⟩ ⟨rr,rr,rr,rr,rr,rr,rr,trivial⟩
 clear hv23
 conv=>whnf
 refine Tr.weak hw ?_
 refine sg ?_
 conv=>whnf
 refine orB_l ?_
 conv=>whnf
 refine sg ?_
 conv=>whnf
 obtain ⟨x_24,hx_24,h⟩:=bS h
 refine ixS_of hx_24 rfl ?_
 conv=>whnf
 refine orB_r ?_
 conv=>whnf
 refine frE_of (f:=(eL eTOutcome)) (l:=l_14) rfl ?_
 conv=>whnf
 refine elP_of hx_24 ?_
 conv=>whnf
 refine lvS_mk (es':=List.map .d (List.map eTRunner (List.set l_7 (Int.toNat x_6.Runner) ({ Bib:=x_8.Bib,Keys:=x_8.Keys,Worlds:=l_14 }:TRunner)))) (by simp only [Nat.zero_add,List.map_set]; first | done | rfl) ?_
 conv=>whnf
 refine sg ?_
 conv=>whnf
 refine orB_l ?_
 conv=>whnf
 refine Tr.seq ?_
 refine sg ?_
 conv=>whnf
 refine Tr.cutQ (α:=Unit) (fun s=>([(6,.pt 0 0),(7,.d (.b false))],[some (.var [.nsl,.nsl,.nsl,.nsl,(dI 0),.nsl])])) (fun s=>M202 s=some (r_4,r_5)) ?_ ?_
 ·refine Tr.block ?_
  refine Tr.loopM (σ:=Int) (fun n s=>M201 q_1 x_6 l_7 x_8 l_14 M202 n s) (r_4,r_5) (fun s=>([(3,.pt 0 0),(6,.pt 1 0),(7,.d (.b false)),(13,(dI s))],[some (.var [.d (.ls (List.map eTSegment q_1.Field.Clocks.Segments)),.d (.ls (List.map (eL eI) q_1.Field.Clocks.Far)),.d (.ls (List.map eTPair q_1.Field.Pairs)),.sl 2 3 0 (List.length (List.set l_7 (Int.toNat x_6.Runner) ({ Bib:=x_8.Bib,Keys:=x_8.Keys,Worlds:=l_14 }:TRunner))),(dI q_1.Runner),.d (.ls (List.map eTLook q_1.Looks))]),some (.var [.nsl,.nsl,.nsl,.nsl,(dI 0),.nsl]),some (.arr 3 (List.map .d (List.map eTRunner (List.set l_7 (Int.toNat x_6.Runner) ({ Bib:=x_8.Bib,Keys:=x_8.Keys,Worlds:=l_14 }:TRunner)))))])) (((((q_1.Field.Pairs).length:Int))+1 - 0:Int).toNat+1) (0) h (fun s=>rfl) (Wk.mk2 [0,1,3] 6 rfl rfl (by decide) rfl ⟨⟨rfl,(by first | rfl | (simp only [List.length_set]; rfl) | simp)⟩,rr,daS_d rfl,trivial⟩ ⟨rr,rr,rr,rr,trivial⟩) ?_
  clear h
  rintro n_27 w_26 h
  replace h:M201 q_1 x_6 l_7 x_8 l_14 M202 (n_27+1) w_26=some (r_4,r_5):=h
  rw [M201] at h
  refine Tr.seq ?_
  refine sg ?_
  conv=>whnf
  refine lnS_map ?_
  conv=>whnf
  refine Tr.cond ?_
  conv=>whnf
  refine cB h (fun hb30 h=>?_) (fun hb30 h=>?_)
  ·refine Tr.skip ?_
   conv=>whnf
   refine Tr.seq ?_
   refine Tr.block ?_
   refine sg ?_
   conv=>whnf
   obtain ⟨r_31,hc32,h⟩:=bS h
   refine PC.ecall_lend ?_ ⟨_,_,func70,rfl,rfl⟩
   conv=>whnf
   refine frE_of (f:=eTRunner) (l:=(List.set l_7 (Int.toNat x_6.Runner) ({ Bib:=x_8.Bib,Keys:=x_8.Keys,Worlds:=l_14 }:TRunner))) rfl ?_
   conv=>whnf
   refine ⟨_,P172 (({ Clocks:=q_1.Field.Clocks,Pairs:=q_1.Field.Pairs,Runners:=(List.set l_7 (Int.toNat x_6.Runner) ({ Bib:=x_8.Bib,Keys:=x_8.Keys,Worlds:=l_14 }:TRunner)) }:TField)) w_26 r_31 hc32,fun rs hrs=>?_⟩
   subst hrs
   refine ⟨rfl,?_⟩
   conv=>whnf
   refine Tr.cond ?_
   conv=>whnf
   refine cB h (fun hb33 h=>?_) (fun hb33 h=>?_)
   ·refine sg ?_
    conv=>whnf
    refine orB_l ?_
    conv=>whnf
    refine Tr.ret ?_
    conv=>whnf
    refine frE_of (f:=eTRunner) (l:=(List.set l_7 (Int.toNat x_6.Runner) ({ Bib:=x_8.Bib,Keys:=x_8.Keys,Worlds:=l_14 }:TRunner))) rfl ?_
    conv=>whnf
    cases h
    rfl
   refine Tr.skip ?_
   conv=>whnf
   refine rg ?_
   conv=>whnf
   refine arS_raw ?_
   conv=>whnf
   refine ⟨((w64 (w_26+1))),h,?_⟩
   exact Wk.mk2 [0,1,2] 3 rfl rfl (by decide) rfl ⟨rr,rr,daS_d rfl,trivial⟩ ⟨rr,rr,rr,rr,trivial⟩
  refine Tr.exit ?_
  conv=>whnf
  refine ⟨(),h,?_⟩
  exact Wk.mk2 [1] 3 rfl rfl (by decide) rfl ⟨rr,trivial⟩ ⟨⟨rfl,(by first | rfl | (simp only [↓hb30,bl,List.length_set]; done) | (simp only [↓hb30,bl,List.length_set]; rfl))⟩,rr,trivial⟩
 clear h
 rintro _ h T1 H1 hw
 replace h:M202 ()=some (r_4,r_5):=h
 conv=>whnf
 refine Tr.weak hw ?_
 unfold M202 at h
 refine sg ?_
 conv=>whnf
 refine orB_l ?_
 conv=>whnf
 refine Tr.ret ?_
 conv=>whnf
 cases h
 rfl
theorem P204 (f_1:TField) (runner_2:Int) (r_3:Int) (h:M204 f_1 runner_2=some r_3) :
    PC prog 125 [(eTField f_1),(.i .i64 runner_2)] (fun rs=>rs=[(.i .i64 r_3)]):=by
 refine PC.of_tr (cx:=⟨19,none,lay,0⟩) layOK func125 rfl rfl rfl rfl rfl (by simp [f125]) ?_
 unfold M204 at h
 refine sg ?_
 conv=>whnf
 refine sg ?_
 conv=>whnf
 obtain ⟨r_4,hc5,h⟩:=bS h
 refine PC.ecall (P184 f_1 r_4 hc5) (fun rs hrs=>?_)
 subst hrs
 conv=>whnf
 refine Tr.seq ?_
 refine sg ?_
 conv=>whnf
 refine Tr.cond ?_
 conv=>whnf
 refine cB h (fun hb6 h=>?_) (fun hb6 h=>?_)
 ·refine sg ?_
  conv=>whnf
  refine Tr.ret ?_
  conv=>whnf
  cases h
  rfl
 refine Tr.skip ?_
 conv=>whnf
 refine Tr.seq ?_
 refine sg ?_
 conv=>whnf
 refine cB h (fun hb7 h=>?_) (fun hb7 h=>?_)
 ·conv=>whnf
  refine Tr.cond ?_
  conv=>whnf
  refine sg ?_
  conv=>whnf
  refine Tr.ret ?_
  conv=>whnf
  cases h
  rfl
 conv=>whnf
 refine lnS_map ?_
 conv=>whnf
 refine Tr.cond ?_
 conv=>whnf
 refine cB h (fun hb8 h=>?_) (fun hb8 h=>?_)
 ·refine sg ?_
  conv=>whnf
  refine Tr.ret ?_
  conv=>whnf
  cases h
  rfl
 refine Tr.skip ?_
 conv=>whnf
 refine sg ?_
 conv=>whnf
 refine Tr.ret ?_
 conv=>whnf
 cases h
 rfl
theorem P207 (f_1:TField) (world_2:Int) (r_3:Bool) (h:M207 f_1 world_2=some r_3) :
    PC prog 85 [(eTField f_1),(.i .i64 world_2)] (fun rs=>rs=[(.b r_3)]):=by
 refine PC.of_tr (cx:=⟨44,none,lay,0⟩) layOK func85 rfl rfl rfl rfl rfl (by simp [f85]) ?_
 unfold M207 at h
 refine sg ?_
 conv=>whnf
 refine Tr.seq ?_
 refine sg ?_
 conv=>whnf
 refine cB h (fun hb4 h=>?_) (fun hb4 h=>?_)
 ·conv=>whnf
  refine Tr.cond ?_
  conv=>whnf
  refine sg ?_
  conv=>whnf
  refine Tr.ret ?_
  conv=>whnf
  cases h
  rfl
 conv=>whnf
 refine lnS_map ?_
 conv=>whnf
 refine Tr.cond ?_
 conv=>whnf
 refine cB h (fun hb5 h=>?_) (fun hb5 h=>?_)
 ·refine sg ?_
  conv=>whnf
  refine Tr.ret ?_
  conv=>whnf
  cases h
  rfl
 refine Tr.skip ?_
 conv=>whnf
 refine Tr.seq ?_
 refine sg ?_
 conv=>whnf
 refine Tr.cutQ (α:=Unit) (fun s=>([(4,.d (.b false))],[])) (fun s=>M206 s=some r_3) ?_ ?_
 ·refine Tr.block ?_
  refine Tr.loopM (σ:=Int) (fun n s=>M205 f_1 world_2 M206 n s) r_3 (fun s=>([(1,(dI world_2)),(2,.pt 0 0),(4,.d (.b false)),(5,(dI s))],[some (.var [.d (.ls (List.map eTSegment f_1.Clocks.Segments)),.d (.ls (List.map (eL eI) f_1.Clocks.Far)),.d (.ls (List.map eTPair f_1.Pairs)),.d (.ls (List.map eTRunner f_1.Runners))])])) (((((f_1.Runners).length:Int)) - 0:Int).toNat+1) (0) h (fun s=>rfl) (Wk.mk2 [0] 1 rfl rfl (by decide) rfl ⟨rr,trivial⟩ ⟨rr,rr,rr,rr,trivial⟩) ?_
  clear h
  rintro n_8 i_7 h
  replace h:M205 f_1 world_2 M206 (n_8+1) i_7=some r_3:=h
  rw [M205] at h
  refine Tr.seq ?_
  refine sg ?_
  conv=>whnf
  refine lnS_map ?_
  conv=>whnf
  refine Tr.cond ?_
  conv=>whnf
  refine cB h (fun hb11 h=>?_) (fun hb11 h=>?_)
  ·refine Tr.skip ?_
   conv=>whnf
   refine Tr.seq ?_
   refine Tr.block ?_
   refine sg ?_
   conv=>whnf
   obtain ⟨x_12,hx_12,h⟩:=bS h
   refine ixP_of hx_12 ?_
   conv=>whnf
   refine lnS_map ?_
   conv=>whnf
   refine cB h (fun hb13 h=>?_) (fun hb13 h=>?_)
   ·conv=>whnf
    refine Tr.cond ?_
    conv=>whnf
    refine sg ?_
    conv=>whnf
    refine Tr.ret ?_
    conv=>whnf
    cases h
    rfl
   conv=>whnf
   obtain ⟨x_14,hx_14,h⟩:=bS h
   refine ixP_of hx_14 ?_
   conv=>whnf
   obtain ⟨x_15,hx_15,h⟩:=bS h
   refine ixP_of hx_15 ?_
   conv=>whnf
   refine lnS_map ?_
   conv=>whnf
   refine Tr.cond ?_
   conv=>whnf
   refine cB h (fun hb16 h=>?_) (fun hb16 h=>?_)
   ·refine sg ?_
    conv=>whnf
    refine Tr.ret ?_
    conv=>whnf
    cases h
    rfl
   refine Tr.skip ?_
   conv=>whnf
   refine rg ?_
   conv=>whnf
   refine arS_raw ?_
   conv=>whnf
   refine ⟨((w64 (i_7+1))),h,?_⟩
   exact Wk.mk2 [0] 1 rfl rfl (by decide) rfl ⟨rr,trivial⟩ ⟨rr,rr,rr,rr,trivial⟩
  refine Tr.exit ?_
  conv=>whnf
  refine ⟨(),h,?_⟩
  exact Wk.mk2 [] 1 rfl rfl (by decide) rfl trivial ⟨rr,trivial⟩
 clear h
 rintro _ h T1 H1 hw
 replace h:M206 ()=some r_3:=h
 conv=>whnf
 refine Tr.weak hw ?_
 unfold M206 at h
 refine sg ?_
 conv=>whnf
 refine Tr.ret ?_
 conv=>whnf
 cases h
 rfl
theorem P210 (a_1:List Int) (b_2:List Int) (r_3:Bool) (h:M210 a_1 b_2=some r_3) :
    PC prog 134 [(.ls (List.map eI a_1)),(.ls (List.map eI b_2))] (fun rs=>rs=[(.b r_3)]):=by
 refine PC.of_tr (cx:=⟨41,none,lay,0⟩) layOK func134 rfl rfl rfl rfl rfl (by simp [f134]) ?_
 unfold M210 at h
 refine sg ?_
 conv=>whnf
 refine Tr.seq ?_
 refine sg ?_
 conv=>whnf
 refine Tr.cutQ (α:=Unit) (fun s=>([(0,.d (.ls (List.map eI a_1))),(1,.d (.ls (List.map eI b_2))),(4,.d (.b false))],[])) (fun s=>M209 a_1 b_2 s=some r_3) ?_ ?_
 ·refine Tr.block ?_
  refine Tr.loopM (σ:=Int) (fun n s=>M208 a_1 b_2 (M209 a_1 b_2) n s) r_3 (fun s=>([(0,.d (.ls (List.map eI a_1))),(1,.d (.ls (List.map eI b_2))),(4,.d (.b false)),(5,(dI s))],[])) (((((a_1).length:Int)) - 0:Int).toNat+1) (0) h (fun s=>rfl) (Wk.mk2 [] 0 rfl rfl (by decide) rfl trivial ⟨rr,rr,rr,rr,trivial⟩) ?_
  clear h
  rintro n_6 i_5 h
  replace h:M208 a_1 b_2 (M209 a_1 b_2) (n_6+1) i_5=some r_3:=h
  rw [M208] at h
  refine Tr.seq ?_
  refine sg ?_
  conv=>whnf
  refine lnS_map ?_
  conv=>whnf
  refine cB h (fun hb9 h=>?_) (fun hb9 h=>?_)
  ·conv=>whnf
   refine lnS_map ?_
   conv=>whnf
   refine Tr.cond ?_
   conv=>whnf
   refine cB h (fun hb10 h=>?_) (fun hb10 h=>?_)
   ·refine Tr.skip ?_
    conv=>whnf
    refine Tr.seq ?_
    refine Tr.block ?_
    refine sd [] [(0,1),(1,1),(2,2),(3,2),(4,1),(5,1),(6,2),(7,2),(8,1)] ?_
    conv=>whnf
    refine q1 ?_
    conv=>whnf
    refine q1 ?_
    conv=>whnf
    obtain ⟨x_11,hx_11,h⟩:=bS h
    refine q3 (ixP_of hx_11 rr) ?_
    conv=>whnf
    refine q2 ?_
    conv=>whnf
    refine q1 ?_
    conv=>whnf
    refine q1 ?_
    conv=>whnf
    obtain ⟨x_12,hx_12,h⟩:=bS h
    refine q3 (ixP_of hx_12 rr) ?_
    conv=>whnf
    refine q2 ?_
    conv=>whnf
    refine q1 ?_
    conv=>whnf
    refine Tr.cond ?_
    conv=>whnf
    refine cB h (fun hb13 h=>?_) (fun hb13 h=>?_)
    ·refine sd [] [(0,1),(1,1),(2,2),(3,2),(4,1),(5,1),(6,2),(7,2),(8,1),(9,1)] ?_
     conv=>whnf
     refine q1 ?_
     conv=>whnf
     refine q1 ?_
     conv=>whnf
     obtain ⟨x_14,hx_14,h⟩:=bS h
     refine q3 (ixP_of hx_14 rr) ?_
     conv=>whnf
     refine q2 ?_
     conv=>whnf
     refine q1 ?_
     conv=>whnf
     refine q1 ?_
     conv=>whnf
     obtain ⟨x_15,hx_15,h⟩:=bS h
     refine q3 (ixP_of hx_15 rr) ?_
     conv=>whnf
     refine q2 ?_
     conv=>whnf
     refine q1 ?_
     conv=>whnf
     refine q1 ?_
     conv=>whnf
     refine Tr.ret ?_
     conv=>whnf
     cases h
     rfl
    refine Tr.skip ?_
    conv=>whnf
    refine rg ?_
    conv=>whnf
    refine arS_raw ?_
    conv=>whnf
    refine ⟨((w64 (i_5+1))),h,?_⟩
    exact Wk.mk2 [] 0 rfl rfl (by decide) rfl trivial ⟨rr,rr,rr,rr,trivial⟩
   refine Tr.exit ?_
   conv=>whnf
   refine ⟨(),h,?_⟩
   exact Wk.mk2 [] 0 rfl rfl (by decide) rfl trivial ⟨rr,rr,rr,trivial⟩
  conv=>whnf
  refine Tr.cond ?_
  conv=>whnf
  refine Tr.exit ?_
  conv=>whnf
  refine ⟨(),h,?_⟩
  exact Wk.mk2 [] 0 rfl rfl (by decide) rfl trivial ⟨rr,rr,rr,trivial⟩
 clear h
 rintro _ h T1 H1 hw
 replace h:M209 a_1 b_2 ()=some r_3:=h
 conv=>whnf
 refine Tr.weak hw ?_
 unfold M209 at h
 refine sg ?_
 conv=>whnf
 refine lnS_map ?_
 conv=>whnf
 refine lnS_map ?_
 conv=>whnf
 refine Tr.ret ?_
 conv=>whnf
 cases h
 rfl
theorem P211 (f_1:TField) (x_2:TOutcome) (runner_3:Int) (y_4:TOutcome) (rival_5:Int) (r_6:Bool) (h:M211 f_1 x_2 runner_3 y_4 rival_5=some r_6) :
    PC prog 132 [(eTField f_1),(eTOutcome x_2),(.i .i64 runner_3),(eTOutcome y_4),(.i .i64 rival_5)] (fun rs=>rs=[(.b r_6)]):=by
 refine PC.of_tr (cx:=⟨55,none,lay,0⟩) layOK func132 rfl rfl rfl rfl rfl (by simp [f132]) ?_
 unfold M211 at h
 refine sg ?_
 conv=>whnf
 refine Tr.seq ?_
 refine sg ?_
 conv=>whnf
 refine Tr.cond ?_
 conv=>whnf
 refine cB h (fun hb7 h=>?_) (fun hb7 h=>?_)
 ·refine sg ?_
  conv=>whnf
  refine Tr.ret ?_
  conv=>whnf
  cases h
  rfl
 refine Tr.skip ?_
 conv=>whnf
 refine sd [] [(0,5),(1,5),(2,3),(3,3),(4,3),(5,4),(6,4),(7,1),(8,2),(9,2),(10,5),(11,5),(12,1),(13,2),(14,2),(15,1),(16,4),(17,4),(18,1),(19,1)] ?_
 conv=>whnf
 refine q2 ?_
 conv=>whnf
 refine q2 ?_
 conv=>whnf
 refine q2 ?_
 conv=>whnf
 refine q2 ?_
 conv=>whnf
 refine q2 ?_
 conv=>whnf
 refine q2 ?_
 conv=>whnf
 refine q2 ?_
 conv=>whnf
 refine q4 ?_
 conv=>whnf
 obtain ⟨x_8,hx_8,h⟩:=bS h
 refine q3 (ixP_of hx_8 rr) ?_
 conv=>whnf
 refine q2 ?_
 conv=>whnf
 refine q2 ?_
 conv=>whnf
 refine q2 ?_
 conv=>whnf
 refine q4 ?_
 conv=>whnf
 obtain ⟨x_9,hx_9,h⟩:=bS h
 refine q3 (ixP_of hx_9 rr) ?_
 conv=>whnf
 refine q2 ?_
 conv=>whnf
 refine q4 ?_
 conv=>whnf
 refine q2 ?_
 conv=>whnf
 refine q2 ?_
 conv=>whnf
 refine q4 ?_
 conv=>whnf
 refine q1 ?_
 conv=>whnf
 refine sd [] [(0,1),(1,1),(2,1),(3,1),(4,1),(5,1),(6,3),(7,3),(8,1),(9,2),(10,2),(11,2),(12,3),(13,3),(14,1),(15,2),(16,2),(17,2),(18,1),(19,1),(20,1),(21,1),(22,1)] ?_
 conv=>whnf
 refine q1 ?_
 conv=>whnf
 refine q1 ?_
 conv=>whnf
 refine q1 ?_
 conv=>whnf
 refine cB h (fun hb10 h=>?_) (fun hb10 h=>?_)
 ·conv=>whnf
  refine q1 ?_
  conv=>whnf
  refine q1 ?_
  conv=>whnf
  refine Tr.ret ?_
  conv=>whnf
  cases h
  rfl
 conv=>whnf
 refine q1 ?_
 conv=>whnf
 refine q1 ?_
 conv=>whnf
 refine q1 ?_
 conv=>whnf
 refine cB h (fun hb11 h=>?_) (fun hb11 h=>?_)
 ·conv=>whnf
  refine q2 ?_
  conv=>whnf
  refine q2 ?_
  conv=>whnf
  refine q1 ?_
  conv=>whnf
  obtain ⟨x_12,hx_12,h⟩:=bS h
  refine q3 (ixP_of hx_12 rr) ?_
  conv=>whnf
  refine q2 ?_
  conv=>whnf
  refine q2 ?_
  conv=>whnf
  refine q2 ?_
  conv=>whnf
  refine q2 ?_
  conv=>whnf
  refine q1 ?_
  conv=>whnf
  obtain ⟨x_13,hx_13,h⟩:=bS h
  refine q3 (ixP_of hx_13 rr) ?_
  conv=>whnf
  refine q2 ?_
  conv=>whnf
  refine q2 ?_
  conv=>whnf
  obtain ⟨r_14,hc15,h⟩:=bS h
  refine q1 ?_ (fun _=>pe (P210 x_12.Keys x_13.Keys r_14 hc15) rr)
  conv=>whnf
  refine q1 ?_
  conv=>whnf
  refine q1 ?_
  conv=>whnf
  refine q1 ?_
  conv=>whnf
  refine q1 ?_
  conv=>whnf
  refine Tr.ret ?_
  conv=>whnf
  cases h
  rfl
 conv=>whnf
 refine q1 ?_
 conv=>whnf
 refine q1 ?_
 conv=>whnf
 refine q1 ?_
 conv=>whnf
 refine Tr.ret ?_
 conv=>whnf
 cases h
 rfl
end Go.Proofs.Try
