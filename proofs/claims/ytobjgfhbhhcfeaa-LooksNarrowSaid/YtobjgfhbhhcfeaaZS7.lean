/- Contracts of functions, by program (gen.py). No condition. -/
import Derived.Test.YtobjgfhbhhcfeaaZL
import Derived.Test.YtobjgfhbhhcfeaaZM
import Derived.Test.YtobjgfhbhhcfeaaZCB
import Derived.Test.YtobjgfhbhhcfeaaZS6
namespace Go.Proofs.Try
open Go Go.Abs Go.Stop
set_option maxRecDepth 8000
set_option linter.unusedVariables false
set_option linter.unusedSimpArgs false
theorem P233 (s_1:List TRunner) (c_2:Int) (r_3:Bool) (h:M233 s_1 c_2=some r_3) :
    PC prog 67 [(.ls (List.map eTRunner s_1)),(.fn 127 [(.ro [(.i .i64 c_2)])])] (fun rs=>rs=[(.b r_3)]):=by
 refine PC.of_tr (cx:=⟨9,none,lay,0⟩) layOK func67 rfl rfl rfl rfl rfl (by simp [f67]) ?_
 unfold M233 at h
 refine sg ?_
 conv=>whnf
 refine sg ?_
 conv=>whnf
 obtain ⟨r_4,hc5,h⟩:=bS h
 refine PC.ecall (P232 s_1 c_2 r_4 hc5) (fun rs hrs=>?_)
 subst hrs
 conv=>whnf
 refine Tr.ret ?_
 conv=>whnf
 cases h
 rfl
theorem P234 (f_1:TField) (world_2:Int) (r_3:Bool) (h:M234 f_1 world_2=some r_3) :
    PC prog 108 [(eTField f_1),(.i .i64 world_2)] (fun rs=>rs=[(.b r_3)]):=by
 refine PC.of_tr (cx:=⟨10,none,lay,0⟩) layOK func108 rfl rfl rfl rfl rfl (by simp [f108]) ?_
 unfold M234 at h
 refine sg ?_
 conv=>whnf
 refine sg ?_
 conv=>whnf
 obtain ⟨r_4,hc5,h⟩:=bS h
 refine PC.ecall_lend ?_ ⟨_,_,func67,rfl,rfl⟩
 conv=>whnf
 refine ⟨_,P233 f_1.Runners world_2 r_4 hc5,fun rs hrs=>?_⟩
 subst hrs
 refine ⟨rfl,?_⟩
 conv=>whnf
 refine Tr.ret ?_
 conv=>whnf
 cases h
 rfl
theorem P235 (n_1:Int) (r_2:Bool) (h:M235 n_1=some r_2) :
    PC prog 128 [(.i .i64 n_1)] (fun rs=>rs=[(.b r_2)]):=by
 refine PC.of_tr (cx:=⟨9,none,lay,0⟩) layOK func128 rfl rfl rfl rfl rfl (by simp [f128]) ?_
 unfold M235 at h
 refine sg ?_
 conv=>whnf
 refine sg ?_
 conv=>whnf
 refine cB h (fun hb3 h=>?_) (fun hb3 h=>?_)
 ·conv=>whnf
  refine Tr.ret ?_
  conv=>whnf
  cases h
  rfl
 conv=>whnf
 refine Tr.ret ?_
 conv=>whnf
 cases h
 rfl
theorem P238 (s_1:List Int) (r_2:Int) (h:M238 s_1=some r_2) :
    PC prog 123 [(.ls (List.map eI s_1)),(.fn 128 [])] (fun rs=>rs=[(.i .i64 r_2)]):=by
 refine PC.of_tr (cx:=⟨19,none,lay,0⟩) layOK func123 rfl rfl rfl rfl rfl (by simp [f123]) ?_
 unfold M238 at h
 refine sg ?_
 conv=>whnf
 refine Tr.seq ?_
 refine sg ?_
 conv=>whnf
 refine lnS_map ?_
 conv=>whnf
 refine Tr.cutQ (α:=Unit) (fun s=>([(4,(dI 0))],[])) (fun s=>M237 s=some r_2) ?_ ?_
 ·refine Tr.block ?_
  refine Tr.loopM (σ:=Int) (fun n s=>M236 s_1 M237 n s) r_2 (fun s=>([(0,.d (.ls (List.map eI s_1))),(1,.d (.fn 128 [])),(4,(dI 0)),(7,(dI (((s_1).length:Int)))),(8,(dI s))],[])) (((((s_1).length:Int)) - 0:Int).toNat+1) (0) h (fun s=>rfl) (Wk.mk2 [] 0 rfl rfl (by decide) rfl trivial ⟨rr,rr,rr,rr,rr,trivial⟩) ?_
  clear h
  rintro n_5 v_4 h
  replace h:M236 s_1 M237 (n_5+1) v_4=some r_2:=h
  rw [M236] at h
  refine sg ?_
  conv=>whnf
  refine Tr.seq ?_
  refine Tr.cond ?_
  conv=>whnf
  refine cB h (fun hb8 h=>?_) (fun hb8 h=>?_)
  ·refine Tr.skip ?_
   conv=>whnf
   refine Tr.seq ?_
   refine Tr.block ?_
   refine sg ?_
   conv=>whnf
   refine sg ?_
   conv=>whnf
   obtain ⟨x_9,hx_9,h⟩:=bS h
   refine ixP_of hx_9 ?_
   conv=>whnf
   obtain ⟨r_10,hc11,h⟩:=bS h
   refine PC.ecall (P235 x_9 r_10 hc11) (fun rs hrs=>?_)
   subst hrs
   conv=>whnf
   refine Tr.cond ?_
   conv=>whnf
   refine cB h (fun hb12 h=>?_) (fun hb12 h=>?_)
   ·refine sg ?_
    conv=>whnf
    refine Tr.ret ?_
    conv=>whnf
    cases h
    rfl
   refine Tr.skip ?_
   conv=>whnf
   refine rg ?_
   conv=>whnf
   refine arS_raw ?_
   conv=>whnf
   refine ⟨((w64 (v_4+1))),h,?_⟩
   exact Wk.mk2 [] 0 rfl rfl (by decide) rfl trivial ⟨rr,rr,rr,rr,rr,trivial⟩
  refine Tr.exit ?_
  conv=>whnf
  refine ⟨(),h,?_⟩
  exact Wk.mk2 [] 0 rfl rfl (by decide) rfl trivial ⟨rr,trivial⟩
 clear h
 rintro _ h T1 H1 hw
 replace h:M237 ()=some r_2:=h
 conv=>whnf
 refine Tr.weak hw ?_
 unfold M237 at h
 refine sg ?_
 conv=>whnf
 refine Tr.ret ?_
 conv=>whnf
 cases h
 rfl
theorem P239 (s_1:List Int) (r_2:Bool) (h:M239 s_1=some r_2) :
    PC prog 99 [(.ls (List.map eI s_1)),(.fn 128 [])] (fun rs=>rs=[(.b r_2)]):=by
 refine PC.of_tr (cx:=⟨9,none,lay,0⟩) layOK func99 rfl rfl rfl rfl rfl (by simp [f99]) ?_
 unfold M239 at h
 refine sg ?_
 conv=>whnf
 refine sg ?_
 conv=>whnf
 obtain ⟨r_3,hc4,h⟩:=bS h
 refine PC.ecall (P238 s_1 r_3 hc4) (fun rs hrs=>?_)
 subst hrs
 conv=>whnf
 refine Tr.ret ?_
 conv=>whnf
 cases h
 rfl
theorem P244 (k_1:TClocks) (offsets_2:List Int) (r_3:Bool) (h:M244 k_1 offsets_2=some r_3) :
    PC prog 109 [(eTClocks k_1),(.ls (List.map eI offsets_2))] (fun rs=>rs=[(.b r_3)]):=by
 refine PC.of_tr (cx:=⟨43,none,lay,0⟩) layOK func109 rfl rfl rfl rfl rfl (by simp [f109]) ?_
 unfold M244 at h
 refine sg ?_
 conv=>whnf
 refine sg ?_
 conv=>whnf
 refine orB_l ?_
 conv=>whnf
 refine frP_no ?_
 conv=>whnf
 refine eqS_mk (by first | rfl | simp) ?_
 conv=>whnf
 obtain ⟨l_4,hl_4,h⟩:=bS h
 refine apS_of hl_4 (aQ (f:=eI) (l:=offsets_2) fun _=>rfl) (by first | rfl | simp) (by first | rfl | simp) (fun he=>?_)
 conv=>whnf
 refine rS (es':=List.map .d (List.map eI l_4)) (n':=List.length l_4) (by subst he; simp only [List.map_append,List.map_cons,List.map_nil,List.nil_append]; first | done | rfl) (by subst he; simp <;> omega) ?_
 clear he
 conv=>whnf
 refine Tr.seq ?_
 refine sg ?_
 conv=>whnf
 obtain ⟨r_5,hc6,h⟩:=bS h
 refine PC.ecall_lend ?_ ⟨_,_,func99,rfl,rfl⟩
 conv=>whnf
 refine frE_of (f:=eI) (l:=l_4) rfl ?_
 conv=>whnf
 refine ⟨_,P239 l_4 r_5 hc6,fun rs hrs=>?_⟩
 subst hrs
 refine ⟨rfl,?_⟩
 conv=>whnf
 refine Tr.cond ?_
 conv=>whnf
 refine cB h (fun hb7 h=>?_) (fun hb7 h=>?_)
 ·refine sg ?_
  conv=>whnf
  refine Tr.ret ?_
  conv=>whnf
  cases h
  rfl
 refine Tr.skip ?_
 conv=>whnf
 refine Tr.seq ?_
 refine sg ?_
 conv=>whnf
 refine lnS_map ?_
 conv=>whnf
 refine Tr.cutQ (α:=Unit) (fun s=>([(4,.d (.b false))],[])) (fun s=>M243 s=some r_3) ?_ ?_
 ·refine Tr.block ?_
  refine Tr.loopM (σ:=Int) (fun n s=>M242 k_1 l_4 M243 n s) r_3 (fun s=>([(4,.d (.b false)),(5,.sl 0 1 0 (List.length l_4)),(16,.d (.ls (List.map (eL eI) k_1.Far))),(17,(dI (((k_1.Far).length:Int)))),(18,(dI s))],[some (.arr 1 (List.map .d (List.map eI l_4)))])) (((((k_1.Far).length:Int)) - 0:Int).toNat+1) (0) h (fun s=>rfl) (Wk.mk2 [2] 3 rfl rfl (by decide) rfl ⟨daS_d rfl,trivial⟩ ⟨rr,⟨rfl,(by first | rfl | (simp only [↓hb7,bl,List.length_set]; done) | (simp only [↓hb7,bl,List.length_set]; rfl))⟩,rr,rr,rr,trivial⟩) ?_
  clear h
  rintro n_10 v_9 h
  replace h:M242 k_1 l_4 M243 (n_10+1) v_9=some r_3:=h
  rw [M242] at h
  refine sg ?_
  conv=>whnf
  refine Tr.seq ?_
  refine Tr.cond ?_
  conv=>whnf
  refine cB h (fun hb13 h=>?_) (fun hb13 h=>?_)
  ·refine Tr.skip ?_
   conv=>whnf
   refine Tr.seq ?_
   refine Tr.block ?_
   refine sg ?_
   conv=>whnf
   obtain ⟨x_14,hx_14,h⟩:=bS h
   refine ixP_of hx_14 ?_
   conv=>whnf
   refine sg ?_
   conv=>whnf
   refine lnS_map ?_
   conv=>whnf
   refine Tr.cutQ (α:=Unit) (fun s=>([(4,.d (.b false)),(5,.sl 0 1 0 (List.length l_4)),(16,.d (.ls (List.map (eL eI) k_1.Far))),(17,(dI (((k_1.Far).length:Int)))),(18,(dI v_9))],[some (.arr 1 (List.map .d (List.map eI l_4)))])) (fun s=>M241 v_9 (M242 k_1 l_4 M243 n_10) s=some r_3) ?_ ?_
   ·refine Tr.block ?_
    refine Tr.loopM (σ:=Int) (fun n s=>M240 l_4 v_9 x_14 (M241 v_9 (M242 k_1 l_4 M243 n_10)) n s) r_3 (fun s=>([(4,.d (.b false)),(5,.sl 0 1 0 (List.length l_4)),(6,(dI v_9)),(16,.d (.ls (List.map (eL eI) k_1.Far))),(17,(dI (((k_1.Far).length:Int)))),(18,(dI v_9)),(23,.d (.ls (List.map eI x_14))),(24,(dI (((x_14).length:Int)))),(25,(dI s))],[some (.arr 1 (List.map .d (List.map eI l_4)))])) (((((x_14).length:Int)) - 0:Int).toNat+1) (0) h (fun s=>rfl) (Wk.mk2 [0] 1 rfl rfl (by decide) rfl ⟨daS_d rfl,trivial⟩ ⟨rr,rr,rr,rr,rr,rr,rr,rr,rr,trivial⟩) ?_
    clear h
    rintro n_17 v_16 h
    replace h:M240 l_4 v_9 x_14 (M241 v_9 (M242 k_1 l_4 M243 n_10)) (n_17+1) v_16=some r_3:=h
    rw [M240] at h
    refine sg ?_
    conv=>whnf
    refine Tr.seq ?_
    refine Tr.cond ?_
    conv=>whnf
    refine cB h (fun hb20 h=>?_) (fun hb20 h=>?_)
    ·refine Tr.skip ?_
     conv=>whnf
     refine Tr.seq ?_
     refine Tr.block ?_
     refine sg ?_
     conv=>whnf
     obtain ⟨x_21,hx_21,h⟩:=bS h
     refine ixP_of hx_21 ?_
     conv=>whnf
     refine sd [] [(0,1),(1,1),(2,3),(3,3),(4,1),(5,1),(6,3),(7,3),(8,1),(9,1),(10,1)] ?_
     conv=>whnf
     refine q1 ?_
     conv=>whnf
     refine q1 ?_
     conv=>whnf
     obtain ⟨x_22,hx_22,h⟩:=bS h
     refine q3 (ixS_of hx_22 rfl rr) ?_
     conv=>whnf
     refine q3 (elP_of hx_22 rr) ?_
     conv=>whnf
     refine q1 ?_
     conv=>whnf
     refine q1 ?_
     conv=>whnf
     obtain ⟨x_23,hx_23,h⟩:=bS h
     refine q3 (ixS_of hx_23 rfl rr) ?_
     conv=>whnf
     refine q3 (elP_of hx_23 rr) ?_
     conv=>whnf
     refine q4 ?_
     conv=>whnf
     refine q1 ?_
     conv=>whnf
     refine q1 ?_
     conv=>whnf
     refine Tr.cond ?_
     conv=>whnf
     refine cB h (fun hb24 h=>?_) (fun hb24 h=>?_)
     ·refine sg ?_
      conv=>whnf
      refine Tr.ret ?_
      conv=>whnf
      cases h
      rfl
     refine Tr.skip ?_
     conv=>whnf
     refine rg ?_
     conv=>whnf
     refine arS_raw ?_
     conv=>whnf
     refine ⟨((w64 (v_16+1))),h,?_⟩
     exact Wk.mk2 [0] 1 rfl rfl (by decide) rfl ⟨daS_d rfl,trivial⟩ ⟨rr,rr,rr,rr,rr,rr,rr,rr,rr,trivial⟩
    refine Tr.exit ?_
    conv=>whnf
    refine ⟨(),h,?_⟩
    exact Wk.mk2 [0] 1 rfl rfl (by decide) rfl ⟨daS_d rfl,trivial⟩ ⟨rr,rr,rr,rr,rr,trivial⟩
   clear h
   rintro _ h T1 H1 hw
   replace h:M241 v_9 (M242 k_1 l_4 M243 n_10) ()=some r_3:=h
   conv=>whnf
   refine Tr.weak hw ?_
   unfold M241 at h
   refine rg ?_
   conv=>whnf
   refine arS_raw ?_
   conv=>whnf
   refine ⟨((w64 (v_9+1))),h,?_⟩
   exact Wk.mk2 [0] 1 rfl rfl (by decide) rfl ⟨daS_d rfl,trivial⟩ ⟨rr,rr,rr,rr,rr,trivial⟩
  refine Tr.exit ?_
  conv=>whnf
  refine ⟨(),h,?_⟩
  exact Wk.mk2 [] 1 rfl rfl (by decide) rfl trivial ⟨rr,trivial⟩
 clear h
 rintro _ h T1 H1 hw
 replace h:M243 ()=some r_3:=h
 conv=>whnf
 refine Tr.weak hw ?_
 unfold M243 at h
 refine sg ?_
 conv=>whnf
 refine Tr.ret ?_
 conv=>whnf
 cases h
 rfl
theorem P245 (v_1:Thistory_view) (runner_2:Int) (r_3:List TOutcome) (h:M245 v_1 runner_2=some r_3) :
    PC prog 110 [(eThistory_view v_1),(.i .i64 runner_2)] (fun rs=>rs=[(.ls (List.map eTOutcome r_3))]):=by
 refine PC.of_tr (cx:=⟨17,none,lay,0⟩) layOK func110 rfl rfl rfl rfl rfl (by simp [f110]) ?_
 unfold M245 at h
 refine sg ?_
 conv=>whnf
 refine sd [] [(0,3),(1,3),(2,3),(3,1),(4,2),(5,2),(6,2),(7,3),(8,3),(9,3),(10,2),(11,2),(12,1)] ?_
 conv=>whnf
 refine q2 ?_
 conv=>whnf
 refine q2 ?_
 conv=>whnf
 refine q2 ?_
 conv=>whnf
 refine q1 ?_
 conv=>whnf
 obtain ⟨x_4,hx_4,h⟩:=bS h
 refine q3 (ixP_of hx_4 rr) ?_
 conv=>whnf
 refine q2 ?_
 conv=>whnf
 refine q2 ?_
 conv=>whnf
 refine q2 ?_
 conv=>whnf
 refine q2 ?_
 conv=>whnf
 refine q2 ?_
 conv=>whnf
 obtain ⟨x_5,hx_5,h⟩:=bS h
 refine q3 (ixP_of hx_5 rr) ?_
 conv=>whnf
 refine q2 ?_
 conv=>whnf
 refine q1 ?_
 conv=>whnf
 refine Tr.ret ?_
 conv=>whnf
 cases h
 rfl
theorem P246 (v_1:Thistory_view) (runner_2:Int) (r_3:TOutcome) (h:M246 v_1 runner_2=some r_3) :
    PC prog 87 [(eThistory_view v_1),(.i .i64 runner_2)] (fun rs=>rs=[(eTOutcome r_3)]):=by
 refine PC.of_tr (cx:=⟨17,none,lay,0⟩) layOK func87 rfl rfl rfl rfl rfl (by simp [f87]) ?_
 unfold M246 at h
 refine sg ?_
 conv=>whnf
 refine sd [(12,1)] [(0,3),(1,1),(2,1),(3,3),(4,3),(5,3),(6,1),(7,2),(8,2),(9,2),(10,2),(11,2),(12,0)] ?_
 conv=>whnf
 refine q2 ?_
 conv=>whnf
 refine q1 ?_
 conv=>whnf
 obtain ⟨r_4,hc5,h⟩:=bS h
 refine q1 ?_ (fun _=>pe (P245 v_1 runner_2 r_4 hc5) rr)
 conv=>whnf
 refine q2 ?_
 conv=>whnf
 refine q2 ?_
 conv=>whnf
 refine q2 ?_
 conv=>whnf
 refine q1 ?_
 conv=>whnf
 obtain ⟨x_6,hx_6,h⟩:=bS h
 refine q3 (ixP_of hx_6 rr) ?_
 conv=>whnf
 refine q2 ?_
 conv=>whnf
 refine q2 ?_
 conv=>whnf
 obtain ⟨x_7,hx_7,h⟩:=bS h
 refine q3 (ixP_of hx_7 rr) ?_
 conv=>whnf
 refine q2 ?_
 conv=>whnf
 refine ⟨_,_,rr,kp_ok (by repeat (first | exact trivial | refine ⟨trivial,?_⟩ | refine ⟨rfl,?_⟩)),?_⟩
 conv=>whnf
 refine Tr.ret ?_
 conv=>whnf
 cases h
 rfl
theorem P249 (f_1:TField) (h_2:THistory) (r_3:Thistory_view) (r_4:Int) (h:M249 f_1 h_2=some (r_3,r_4)) :
    PC prog 86 [(eTField f_1),(eTHistory h_2)] (fun rs=>rs=[(eThistory_view r_3),(.i .i64 r_4)]):=by
 refine PC.of_tr (cx:=⟨105,none,lay,0⟩) layOK func86 rfl rfl rfl rfl rfl (by simp [f86]) ?_
 unfold M249 at h
 refine sg ?_
 conv=>whnf
 refine Tr.seq ?_
 refine sg ?_
 conv=>whnf
 obtain ⟨r_5,hc6,h⟩:=bS h
 refine PC.ecall (P45 f_1 r_5 hc6) (fun rs hrs=>?_)
 subst hrs
 conv=>whnf
 refine Tr.cond ?_
 conv=>whnf
 refine cB h (fun hb7 h=>?_) (fun hb7 h=>?_)
 ·refine sg ?_
  conv=>whnf
  refine orB_l ?_
  conv=>whnf
  refine Tr.ret ?_
  conv=>whnf
  cases h
  rfl
 refine Tr.skip ?_
 conv=>whnf
 refine sg ?_
 conv=>whnf
 refine Tr.seq ?_
 refine Tr.seq ?_
 obtain ⟨v_8,hv9,h⟩:=bS h
 refine Tr.cutQ1 ([(3,.pt 0 0),(4,.pt 1 0),(5,(dI 0)),(60,.d (.b v_8))]) ([some (.var [(dI h_2.World),.d (.ls (List.map eI h_2.Offsets)),.d (.ls (List.map eTChoice h_2.Choices))]),some (.var [.d (.ls (List.map eTSegment f_1.Clocks.Segments)),.d (.ls (List.map (eL eI) f_1.Clocks.Far)),.d (.ls (List.map eTPair f_1.Pairs)),.d (.ls (List.map eTRunner f_1.Runners)),(dI h_2.World),.d (.ls (List.map eI h_2.Offsets)),.d (.ls (List.map eTChoice h_2.Choices))])]) ?_ (fun T1 H1 hw=>?_)
 ·replace h:=hv9; clear hv9
  refine rg ?_
  conv=>whnf
  refine cB h (fun hb10 h=>?_) (fun hb10 h=>?_)
  ·conv=>whnf
   cases h
   exact Wk.mk2 [1,2] 3 rfl rfl (by decide) rfl ⟨rr,rr,trivial⟩ ⟨⟨rfl,(by first | rfl | (simp only [↓hb7,↓hb10,bl,List.length_set]; done) | (simp only [↓hb7,↓hb10,bl,List.length_set]; rfl))⟩,⟨rfl,(by first | rfl | (simp only [↓hb7,↓hb10,bl,List.length_set]; done) | (simp only [↓hb7,↓hb10,bl,List.length_set]; rfl))⟩,rr,rr,trivial⟩
  conv=>whnf
  refine lnS_map ?_
  conv=>whnf
  refine cB h (fun hb11 h=>?_) (fun hb11 h=>?_)
  ·conv=>whnf
   cases h
   exact Wk.mk2 [1,2] 3 rfl rfl (by decide) rfl ⟨rr,rr,trivial⟩ ⟨⟨rfl,(by first | rfl | (simp only [↓hb7,↓hb10,↓hb11,bl,List.length_set]; done) | (simp only [↓hb7,↓hb10,↓hb11,bl,List.length_set]; rfl))⟩,⟨rfl,(by first | rfl | (simp only [↓hb7,↓hb10,↓hb11,bl,List.length_set]; done) | (simp only [↓hb7,↓hb10,↓hb11,bl,List.length_set]; rfl))⟩,rr,rr,trivial⟩
  conv=>whnf
  obtain ⟨r_12,hc13,h⟩:=bS h
  refine PC.ecall (P234 f_1 h_2.World r_12 hc13) (fun rs hrs=>?_)
  subst hrs
  conv=>whnf
  refine cB h (fun hb14 h=>?_) (fun hb14 h=>?_)
  ·conv=>whnf
   cases h
   exact Wk.mk2 [1,2] 3 rfl rfl (by decide) rfl ⟨rr,rr,trivial⟩ ⟨⟨rfl,(by first | rfl | (simp only [↓hb7,↓hb10,↓hb11,↓hb14,bl,List.length_set]; done) | (simp only [↓hb7,↓hb10,↓hb11,↓hb14,bl,List.length_set]; rfl))⟩,⟨rfl,(by first | rfl | (simp only [↓hb7,↓hb10,↓hb11,↓hb14,bl,List.length_set]; done) | (simp only [↓hb7,↓hb10,↓hb11,↓hb14,bl,List.length_set]; rfl))⟩,rr,rr,trivial⟩
  conv=>whnf
  refine lnS_map ?_
  conv=>whnf
  refine lnS_map ?_
  conv=>whnf
  refine cB h (fun hb15 h=>?_) (fun hb15 h=>?_)
  ·conv=>whnf
   cases h
   exact Wk.mk2 [1,2] 3 rfl rfl (by decide) rfl ⟨rr,rr,trivial⟩ ⟨⟨rfl,(by first | rfl | (simp only [↓hb7,↓hb10,↓hb11,↓hb14,↓hb15,bl,List.length_set]; done) | (simp only [↓hb7,↓hb10,↓hb11,↓hb14,↓hb15,bl,List.length_set]; rfl))⟩,⟨rfl,(by first | rfl | (simp only [↓hb7,↓hb10,↓hb11,↓hb14,↓hb15,bl,List.length_set]; done) | (simp only [↓hb7,↓hb10,↓hb11,↓hb14,↓hb15,bl,List.length_set]; rfl))⟩,rr,rr,trivial⟩
  conv=>whnf
  refine lnS_map ?_
  conv=>whnf
  refine lnS_map ?_
  conv=>whnf
  refine cB h (fun hb16 h=>?_) (fun hb16 h=>?_)
  ·conv=>whnf
   cases h
   exact Wk.mk2 [1,2] 3 rfl rfl (by decide) rfl ⟨rr,rr,trivial⟩ ⟨⟨rfl,(by first | rfl | (simp only [↓hb7,↓hb10,↓hb11,↓hb14,↓hb15,↓hb16,bl,List.length_set]; done) | (simp only [↓hb7,↓hb10,↓hb11,↓hb14,↓hb15,↓hb16,bl,List.length_set]; rfl))⟩,⟨rfl,(by first | rfl | (simp only [↓hb7,↓hb10,↓hb11,↓hb14,↓hb15,↓hb16,bl,List.length_set]; done) | (simp only [↓hb7,↓hb10,↓hb11,↓hb14,↓hb15,↓hb16,bl,List.length_set]; rfl))⟩,rr,rr,trivial⟩
  conv=>whnf
  obtain ⟨r_17,hc18,h⟩:=bS h
  refine PC.ecall (P244 f_1.Clocks h_2.Offsets r_17 hc18) (fun rs hrs=>?_)
  subst hrs
  conv=>whnf
  cases h
  exact Wk.mk2 [1,2] 3 rfl rfl (by decide) rfl ⟨rr,rr,trivial⟩ ⟨⟨rfl,(by first | rfl | (simp only [↓hb7,↓hb10,↓hb11,↓hb14,↓hb15,↓hb16,bl,List.length_set]; done) | (simp only [↓hb7,↓hb10,↓hb11,↓hb14,↓hb15,↓hb16,bl,List.length_set]; rfl))⟩,⟨rfl,(by first | rfl | (simp only [↓hb7,↓hb10,↓hb11,↓hb14,↓hb15,↓hb16,bl,List.length_set]; done) | (simp only [↓hb7,↓hb10,↓hb11,↓hb14,↓hb15,↓hb16,bl,List.length_set]; rfl))⟩,rr,rr,trivial⟩
 clear hv9
 conv=>whnf
 refine Tr.weak hw ?_
 refine Tr.cond ?_
 conv=>whnf
 refine cB h (fun hb19 h=>?_) (fun hb19 h=>?_)
 ·refine sg ?_
  conv=>whnf
  refine Tr.ret ?_
  conv=>whnf
  cases h
  rfl
 refine Tr.skip ?_
 conv=>whnf
 refine Tr.seq ?_
 refine sg ?_
 conv=>whnf
 refine lnS_map ?_
 conv=>whnf
 refine Tr.cutQ (α:=Unit) (fun s=>([(4,.pt 0 0),(5,(dI 0))],[some (.var [.d (.ls (List.map eTSegment f_1.Clocks.Segments)),.d (.ls (List.map (eL eI) f_1.Clocks.Far)),.d (.ls (List.map eTPair f_1.Pairs)),.d (.ls (List.map eTRunner f_1.Runners)),(dI h_2.World),.d (.ls (List.map eI h_2.Offsets)),.d (.ls (List.map eTChoice h_2.Choices))])])) (fun s=>M248 f_1 h_2 s=some (r_3,r_4)) ?_ ?_
 ·refine Tr.block ?_
  refine Tr.loopM (σ:=Int) (fun n s=>M247 f_1 h_2 (M248 f_1 h_2) n s) (r_3,r_4) (fun s=>([(4,.pt 0 0),(5,(dI 0)),(63,.d (.ls (List.map eTChoice h_2.Choices))),(64,(dI (((h_2.Choices).length:Int)))),(65,(dI s))],[some (.var [.d (.ls (List.map eTSegment f_1.Clocks.Segments)),.d (.ls (List.map (eL eI) f_1.Clocks.Far)),.d (.ls (List.map eTPair f_1.Pairs)),.d (.ls (List.map eTRunner f_1.Runners)),(dI h_2.World),.d (.ls (List.map eI h_2.Offsets)),.d (.ls (List.map eTChoice h_2.Choices))])])) (((((h_2.Choices).length:Int)) - 0:Int).toNat+1) (0) h (fun s=>rfl) (Wk.mk2 [1] 2 rfl rfl (by decide) rfl ⟨rr,trivial⟩ ⟨⟨rfl,(by first | rfl | (simp only [↓hb7,↓hb19,bl,List.length_set]; done) | (simp only [↓hb7,↓hb19,bl,List.length_set]; rfl))⟩,rr,rr,rr,rr,trivial⟩) ?_
  clear h
  rintro n_22 v_21 h
  replace h:M247 f_1 h_2 (M248 f_1 h_2) (n_22+1) v_21=some (r_3,r_4):=h
  rw [M247] at h
  refine sg ?_
  conv=>whnf
  refine Tr.seq ?_
  refine Tr.cond ?_
  conv=>whnf
  refine cB h (fun hb25 h=>?_) (fun hb25 h=>?_)
  ·refine Tr.skip ?_
   conv=>whnf
   refine Tr.seq ?_
   refine Tr.block ?_
   refine sg ?_
   conv=>whnf
   obtain ⟨x_26,hx_26,h⟩:=bS h
   refine ixP_of hx_26 ?_
   conv=>whnf
   refine Tr.seq ?_
   refine sd [] [(0,4),(1,4),(2,1),(3,1),(4,4),(5,4),(6,3),(7,1),(8,1),(9,2),(10,1),(11,1)] ?_
   conv=>whnf
   refine q2 ?_
   conv=>whnf
   refine q2 ?_
   conv=>whnf
   refine q1 ?_
   conv=>whnf
   refine q1 ?_
   conv=>whnf
   refine cB h (fun hb27 h=>?_) (fun hb27 h=>?_)
   ·conv=>whnf
    refine q1 ?_
    conv=>whnf
    refine Tr.cond ?_
    conv=>whnf
    refine sg ?_
    conv=>whnf
    refine Tr.ret ?_
    conv=>whnf
    cases h
    rfl
   conv=>whnf
   refine q2 ?_
   conv=>whnf
   refine q2 ?_
   conv=>whnf
   refine q2 ?_
   conv=>whnf
   refine q1 ?_
   conv=>whnf
   obtain ⟨r_28,hc29,h⟩:=bS h
   refine q1 ?_ (fun _=>pe (P245 ({ f:=f_1,h:=h_2 }:Thistory_view) v_21 r_28 hc29) rr)
   conv=>whnf
   refine q3 (lnS_map rr) ?_
   conv=>whnf
   refine q1 ?_
   conv=>whnf
   refine q1 ?_
   conv=>whnf
   refine Tr.cond ?_
   conv=>whnf
   refine cB h (fun hb30 h=>?_) (fun hb30 h=>?_)
   ·refine sg ?_
    conv=>whnf
    refine Tr.ret ?_
    conv=>whnf
    cases h
    rfl
   refine Tr.skip ?_
   conv=>whnf
   refine sg ?_
   conv=>whnf
   obtain ⟨r_31,hc32,h⟩:=bS h
   refine PC.ecall (P246 ({ f:=f_1,h:=h_2 }:Thistory_view) v_21 r_31 hc32) (fun rs hrs=>?_)
   subst hrs
   conv=>whnf
   refine Tr.seq ?_
   refine sg ?_
   conv=>whnf
   refine Tr.cond ?_
   conv=>whnf
   refine cB h (fun hb33 h=>?_) (fun hb33 h=>?_)
   ·refine rg ?_
    conv=>whnf
    refine sg ?_
    conv=>whnf
    refine cB h (fun hb34 h=>?_) (fun hb34 h=>?_)
    ·conv=>whnf
     refine Tr.cond ?_
     conv=>whnf
     refine sg ?_
     conv=>whnf
     refine Tr.ret ?_
     conv=>whnf
     cases h
     rfl
    conv=>whnf
    refine Tr.cond ?_
    conv=>whnf
    refine cB h (fun hb35 h=>?_) (fun hb35 h=>?_)
    ·refine sg ?_
     conv=>whnf
     refine Tr.ret ?_
     conv=>whnf
     cases h
     rfl
    refine Tr.skip ?_
    conv=>whnf
    refine rg ?_
    conv=>whnf
    refine arS_raw ?_
    conv=>whnf
    refine ⟨((w64 (v_21+1))),h,?_⟩
    exact Wk.mk2 [0] 3 rfl rfl (by decide) rfl ⟨rr,trivial⟩ ⟨rr,rr,rr,rr,rr,trivial⟩
   refine Tr.skip ?_
   conv=>whnf
   refine sg ?_
   conv=>whnf
   refine cB h (fun hb36 h=>?_) (fun hb36 h=>?_)
   ·conv=>whnf
    refine Tr.cond ?_
    conv=>whnf
    refine sg ?_
    conv=>whnf
    refine Tr.ret ?_
    conv=>whnf
    cases h
    rfl
   conv=>whnf
   refine Tr.cond ?_
   conv=>whnf
   refine cB h (fun hb37 h=>?_) (fun hb37 h=>?_)
   ·refine sg ?_
    conv=>whnf
    refine Tr.ret ?_
    conv=>whnf
    cases h
    rfl
   refine Tr.skip ?_
   conv=>whnf
   refine rg ?_
   conv=>whnf
   refine arS_raw ?_
   conv=>whnf
   refine ⟨((w64 (v_21+1))),h,?_⟩
   exact Wk.mk2 [0] 3 rfl rfl (by decide) rfl ⟨rr,trivial⟩ ⟨rr,rr,rr,rr,rr,trivial⟩
  refine Tr.exit ?_
  conv=>whnf
  refine ⟨(),h,?_⟩
  exact Wk.mk2 [0] 1 rfl rfl (by decide) rfl ⟨rr,trivial⟩ ⟨rr,rr,trivial⟩
 clear h
 rintro _ h T1 H1 hw
 replace h:M248 f_1 h_2 ()=some (r_3,r_4):=h
 conv=>whnf
 refine Tr.weak hw ?_
 unfold M248 at h
 refine sg ?_
 conv=>whnf
 refine Tr.ret ?_
 conv=>whnf
 cases h
 rfl
theorem P250 (f_1:TField) (h_2:THistory) (runner_3:Int) (r_4:Thistory_view) (r_5:Int) (h:M250 f_1 h_2 runner_3=some (r_4,r_5)) :
    PC prog 56 [(eTField f_1),(eTHistory h_2),(.i .i64 runner_3)] (fun rs=>rs=[(eThistory_view r_4),(.i .i64 r_5)]):=by
 refine PC.of_tr (cx:=⟨29,none,lay,0⟩) layOK func56 rfl rfl rfl rfl rfl (by simp [f56]) ?_
 unfold M250 at h
 refine sg ?_
 conv=>whnf
 refine Tr.seq ?_
 refine sg ?_
 conv=>whnf
 obtain ⟨⟨r_6,r_7⟩,hc8,h⟩:=bS h
 refine PC.ecall (P249 f_1 h_2 r_6 r_7 hc8) (fun rs hrs=>?_)
 subst hrs
 conv=>whnf
 refine sg ?_
 conv=>whnf
 refine cB h (fun hb9 h=>?_) (fun hb9 h=>?_)
 ·conv=>whnf
  refine cB h (fun hb10 h=>?_) (fun hb10 h=>?_)
  ·conv=>whnf
   refine Tr.cond ?_
   conv=>whnf
   refine rg ?_
   conv=>whnf
   refine sg ?_
   conv=>whnf
   refine Tr.ret ?_
   conv=>whnf
   cases h
   rfl
  conv=>whnf
  refine lnS_map ?_
  conv=>whnf
  refine Tr.cond ?_
  conv=>whnf
  refine cB h (fun hb11 h=>?_) (fun hb11 h=>?_)
  ·refine rg ?_
   conv=>whnf
   refine sg ?_
   conv=>whnf
   refine Tr.ret ?_
   conv=>whnf
   cases h
   rfl
  refine Tr.skip ?_
  conv=>whnf
  refine sg ?_
  conv=>whnf
  refine Tr.ret ?_
  conv=>whnf
  cases h
  rfl
 conv=>whnf
 refine Tr.cond ?_
 conv=>whnf
 refine Tr.skip ?_
 conv=>whnf
 refine sg ?_
 conv=>whnf
 refine Tr.ret ?_
 conv=>whnf
 cases h
 rfl
theorem P251 (v_1:Thistory_view) (runner_2:Int) (r_3:Int) (r_4:Bool) (h:M251 v_1 runner_2=some (r_3,r_4)) :
    PC prog 57 [(eThistory_view v_1),(.i .i64 runner_2)] (fun rs=>rs=[(.i .i64 r_3),(.b r_4)]):=by
 refine PC.of_tr (cx:=⟨32,none,lay,0⟩) layOK func57 rfl rfl rfl rfl rfl (by simp [f57]) ?_
 unfold M251 at h
 refine sg ?_
 conv=>whnf
 refine sg ?_
 conv=>whnf
 obtain ⟨r_5,hc6,h⟩:=bS h
 refine PC.ecall (P246 v_1 runner_2 r_5 hc6) (fun rs hrs=>?_)
 subst hrs
 conv=>whnf
 refine Tr.seq ?_
 refine sg ?_
 conv=>whnf
 refine Tr.cond ?_
 conv=>whnf
 refine cB h (fun hb7 h=>?_) (fun hb7 h=>?_)
 ·refine sg ?_
  conv=>whnf
  refine Tr.ret ?_
  conv=>whnf
  cases h
  rfl
 refine Tr.skip ?_
 conv=>whnf
 refine sg ?_
 conv=>whnf
 obtain ⟨x_8,hx_8,h⟩:=bS h
 refine ixP_of hx_8 ?_
 conv=>whnf
 refine Tr.seq ?_
 refine sg ?_
 conv=>whnf
 refine Tr.cond ?_
 conv=>whnf
 refine cB h (fun hb9 h=>?_) (fun hb9 h=>?_)
 ·refine rg ?_
  conv=>whnf
  obtain ⟨x_10,hx_10,h⟩:=bS h
  refine ixP_of hx_10 ?_
  conv=>whnf
  refine arS_raw ?_
  conv=>whnf
  refine sg ?_
  conv=>whnf
  refine Tr.ret ?_
  conv=>whnf
  cases h
  rfl
 refine Tr.skip ?_
 conv=>whnf
 refine sg ?_
 conv=>whnf
 refine Tr.ret ?_
 conv=>whnf
 cases h
 rfl
theorem P253 (v_1:Thistory_view) (r_2:List Thistory_pair_int_int) (h:M253 v_1=some r_2) :
    PC prog 58 [(eThistory_view v_1)] (fun rs=>rs=[(.ls (List.map eThistory_pair_int_int r_2))]):=by
 refine PC.of_tr (cx:=⟨28,none,lay,0⟩) layOK func58 rfl rfl rfl rfl rfl (by simp [f58]) ?_
 unfold M253 at h
 refine sg ?_
 conv=>whnf
 refine Tr.seq ?_
 refine sg ?_
 conv=>whnf
 refine lnS_map ?_
 conv=>whnf
 obtain ⟨l_8,hv17,h⟩:=bS h
 refine Tr.cutQ1 ([(2,.sl 0 2 0 (List.length l_8))]) ([some (.arr 2 (List.map .d (List.map eThistory_pair_int_int l_8)))]) ?_ (fun T1 H1 hw=>?_)
 ·replace h:=hv17; clear hv17
  refine Tr.block ?_
  refine Tr.loopM (σ:=Int × List Thistory_pair_int_int) (fun n s=>M252 v_1 n s.1 s.2) l_8 (fun s=>([(1,.pt 0 0),(2,.sl 1 2 0 (List.length s.2)),(9,(dI (((v_1.f.Runners).length:Int)))),(10,(dI s.1))],[some (.var [.d (.ls (List.map eTSegment v_1.f.Clocks.Segments)),.d (.ls (List.map (eL eI) v_1.f.Clocks.Far)),.d (.ls (List.map eTPair v_1.f.Pairs)),.d (.ls (List.map eTRunner v_1.f.Runners)),(dI v_1.h.World),.d (.ls (List.map eI v_1.h.Offsets)),.d (.ls (List.map eTChoice v_1.h.Choices))]),some (.arr 2 (List.map .d (List.map eThistory_pair_int_int s.2)))])) (((((v_1.f.Runners).length:Int)) - 0:Int).toNat+1) (0,(([]:List Thistory_pair_int_int))) h (fun s=>rfl) (Wk.mk2 [0,1] 1 rfl rfl (by decide) rfl ⟨rr,rfl,trivial⟩ ⟨rr,⟨rfl,(by first | rfl | (simp only [List.length_set]; rfl) | simp)⟩,rr,rr,trivial⟩) ?_
  clear h
  rintro n_7 ⟨v_5,l_6⟩ h
  replace h:M252 v_1 (n_7+1) v_5 l_6=some l_8:=h
  rw [M252] at h
  refine sg ?_
  conv=>whnf
  refine Tr.seq ?_
  refine Tr.cond ?_
  conv=>whnf
  refine cB h (fun hb11 h=>?_) (fun hb11 h=>?_)
  ·refine Tr.skip ?_
   conv=>whnf
   refine Tr.seq ?_
   refine Tr.block ?_
   refine sg ?_
   conv=>whnf
   refine sg ?_
   conv=>whnf
   obtain ⟨⟨r_12,r_13⟩,hc14,h⟩:=bS h
   refine PC.ecall (P251 v_1 v_5 r_12 r_13 hc14) (fun rs hrs=>?_)
   subst hrs
   conv=>whnf
   refine sg ?_
   conv=>whnf
   refine Tr.cond ?_
   conv=>whnf
   refine cB h (fun hb15 h=>?_) (fun hb15 h=>?_)
   ·refine rg ?_
    conv=>whnf
    refine orB_r ?_
    conv=>whnf
    refine frP_no ?_
    conv=>whnf
    refine eqS_mk (by first | rfl | simp) ?_
    conv=>whnf
    obtain ⟨l_16,hl_16,h⟩:=bS h
    refine apS_of hl_16 (aQ (f:=eThistory_pair_int_int) (l:=(([({ first:=v_5,second:=r_12 }:Thistory_pair_int_int)]:List Thistory_pair_int_int))) fun _=>rfl) (by first | rfl | simp) (by first | rfl | simp) (fun he=>?_)
    conv=>whnf
    refine rS (es':=List.map .d (List.map eThistory_pair_int_int l_16)) (n':=List.length l_16) (by subst he; simp only [List.map_append,List.map_cons,List.map_nil,List.nil_append]; first | done | rfl) (by subst he; simp <;> omega) ?_
    clear he
    conv=>whnf
    refine rg ?_
    conv=>whnf
    refine arS_raw ?_
    conv=>whnf
    refine ⟨((w64 (v_5+1)),l_16),h,?_⟩
    exact Wk.mk2 [0,2] 3 rfl rfl (by decide) rfl ⟨rr,daS_d rfl,trivial⟩ ⟨rr,⟨rfl,(by first | rfl | (simp only [↓hb11,↓hb15,bl,List.length_set]; done) | (simp only [↓hb11,↓hb15,bl,List.length_set]; rfl))⟩,rr,rr,trivial⟩
   refine Tr.skip ?_
   conv=>whnf
   refine rg ?_
   conv=>whnf
   refine arS_raw ?_
   conv=>whnf
   refine ⟨((w64 (v_5+1)),l_6),h,?_⟩
   exact Wk.mk2 [0,1] 2 rfl rfl (by decide) rfl ⟨rr,daS_d rfl,trivial⟩ ⟨rr,rr,rr,rr,trivial⟩
  refine Tr.exit ?_
  conv=>whnf
  cases h
  exact Wk.mk2 [1] 2 rfl rfl (by decide) rfl ⟨daS_d rfl,trivial⟩ ⟨⟨rfl,(by first | rfl | (simp only [↓hb11,bl,List.length_set]; done) | (simp only [↓hb11,bl,List.length_set]; rfl))⟩,trivial⟩
 clear hv17
 conv=>whnf
 refine Tr.weak hw ?_
 refine sg ?_
 conv=>whnf
 refine Tr.ret ?_
 conv=>whnf
 refine frE_of (f:=eThistory_pair_int_int) (l:=l_8) rfl ?_
 conv=>whnf
 cases h
 rfl
theorem P254 (v_1:Thistory_view) (a_2:Thistory_pair_int_int) (b_3:Thistory_pair_int_int) (r_4:Int) (h:M254 v_1 a_2 b_3=some r_4) :
    PC prog 59 [(eThistory_view v_1),(eThistory_pair_int_int a_2),(eThistory_pair_int_int b_3)] (fun rs=>rs=[(.i .i64 r_4)]):=by
 refine PC.of_tr (cx:=⟨31,none,lay,0⟩) layOK func59 rfl rfl rfl rfl rfl (by simp [f59]) ?_
 unfold M254 at h
 refine sg ?_
 conv=>whnf
 refine sd [] [(0,4),(1,4),(2,5),(3,5),(4,1),(5,3),(6,3),(7,3),(8,4),(9,4),(10,2),(11,2),(12,2),(13,3),(14,3),(15,3),(16,5),(17,5),(18,2),(19,2),(20,2),(21,1),(22,1),(23,0),(24,1)] ?_
 conv=>whnf
 refine q2 ?_
 conv=>whnf
 refine q2 ?_
 conv=>whnf
 refine q2 ?_
 conv=>whnf
 refine q2 ?_
 conv=>whnf
 obtain ⟨r_5,hc6,h⟩:=bS h
 refine q1 ?_ (fun _=>pe (P3 a_2.second b_3.second r_5 hc6) rr)
 conv=>whnf
 refine q2 ?_
 conv=>whnf
 refine q2 ?_
 conv=>whnf
 refine q2 ?_
 conv=>whnf
 refine q2 ?_
 conv=>whnf
 refine q2 ?_
 conv=>whnf
 obtain ⟨x_7,hx_7,h⟩:=bS h
 refine q3 (ixP_of hx_7 rr) ?_
 conv=>whnf
 refine q2 ?_
 conv=>whnf
 refine q2 ?_
 conv=>whnf
 refine q2 ?_
 conv=>whnf
 refine q2 ?_
 conv=>whnf
 refine q2 ?_
 conv=>whnf
 refine q2 ?_
 conv=>whnf
 refine q2 ?_
 conv=>whnf
 obtain ⟨x_8,hx_8,h⟩:=bS h
 refine q3 (ixP_of hx_8 rr) ?_
 conv=>whnf
 refine q2 ?_
 conv=>whnf
 refine q2 ?_
 conv=>whnf
 obtain ⟨r_9,hc10,h⟩:=bS h
 refine q1 ?_ (fun _=>pe (P92 x_7.Keys x_8.Keys r_9 hc10) rr)
 conv=>whnf
 refine q1 ?_ (fun _=>orB_r rr)
 conv=>whnf
 obtain ⟨r_11,hc12,h⟩:=bS h
 refine ⟨_,_,(by (conv=>whnf); (refine PC.ecall (P6 ((([r_5,r_9]:List Int))) r_11 hc12) (fun rs hrs=>?_)); (subst hrs); (conv=>whnf); (exact rr)),kp_ok (by repeat (first | exact trivial | refine ⟨trivial,?_⟩ | refine ⟨rfl,?_⟩)),?_⟩
 conv=>whnf
 refine q1 ?_
 conv=>whnf
 refine Tr.ret ?_
 conv=>whnf
 cases h
 rfl
theorem P256 (f_1:TField) (h_2:THistory) (runner_3:Int) (r_4:Int) (r_5:Int) (h:M256 f_1 h_2 runner_3=some (r_4,r_5)) :
    PC prog 27 [(eTField f_1),(eTHistory h_2),(.i .i64 runner_3)] (fun rs=>rs=[(.i .i64 r_4),(.i .i64 r_5)]):=by
 refine PC.of_tr (cx:=⟨52,none,lay,0⟩) layOK func27 rfl rfl rfl rfl rfl (by simp [f27]) ?_
 unfold M256 at h
 refine sg ?_
 conv=>whnf
 refine sg ?_
 conv=>whnf
 obtain ⟨⟨r_6,r_7⟩,hc8,h⟩:=bS h
 refine PC.ecall (P250 f_1 h_2 runner_3 r_6 r_7 hc8) (fun rs hrs=>?_)
 subst hrs
 conv=>whnf
 refine Tr.seq ?_
 refine sg ?_
 conv=>whnf
 refine Tr.cond ?_
 conv=>whnf
 refine cB h (fun hb9 h=>?_) (fun hb9 h=>?_)
 ·refine sg ?_
  conv=>whnf
  refine Tr.ret ?_
  conv=>whnf
  cases h
  rfl
 refine Tr.skip ?_
 conv=>whnf
 refine sg ?_
 conv=>whnf
 obtain ⟨⟨r_10,r_11⟩,hc12,h⟩:=bS h
 refine PC.ecall (P251 r_6 runner_3 r_10 r_11 hc12) (fun rs hrs=>?_)
 subst hrs
 conv=>whnf
 refine Tr.seq ?_
 refine sg ?_
 conv=>whnf
 refine Tr.cond ?_
 conv=>whnf
 refine cB h (fun hb13 h=>?_) (fun hb13 h=>?_)
 ·refine sg ?_
  conv=>whnf
  refine Tr.ret ?_
  conv=>whnf
  cases h
  rfl
 refine Tr.skip ?_
 conv=>whnf
 refine sg ?_
 conv=>whnf
 refine Tr.seq ?_
 refine sg ?_
 conv=>whnf
 obtain ⟨r_14,hc15,h⟩:=bS h
 refine PC.ecall (P253 r_6 r_14 hc15) (fun rs hrs=>?_)
 subst hrs
 conv=>whnf
 refine lnS_map ?_
 conv=>whnf
 obtain ⟨n_21,hv29,h⟩:=bS h
 refine Tr.cutQ1 ([(6,(dI n_21)),(7,(dI r_7))]) ([]) ?_ (fun T1 H1 hw=>?_)
 ·replace h:=hv29; clear hv29
  refine Tr.block ?_
  refine Tr.loopM (σ:=Int × Int) (fun n s=>M255 runner_3 r_6 r_10 r_14 n s.1 s.2) n_21 (fun s=>([(6,(dI s.1)),(7,(dI r_7)),(8,.pt 0 0),(11,.pt 1 0),(36,.d (.ls (List.map eThistory_pair_int_int r_14))),(37,(dI (((r_14).length:Int)))),(38,(dI s.2))],[some (.var [.d (.ls (List.map eTSegment r_6.f.Clocks.Segments)),.d (.ls (List.map (eL eI) r_6.f.Clocks.Far)),.d (.ls (List.map eTPair r_6.f.Pairs)),.d (.ls (List.map eTRunner r_6.f.Runners)),(dI r_6.h.World),.d (.ls (List.map eI r_6.h.Offsets)),.d (.ls (List.map eTChoice r_6.h.Choices))]),some (.var [(dI runner_3),(dI r_10)])])) (((((r_14).length:Int)) - 0:Int).toNat+1) (0,0) h (fun s=>rfl) (Wk.mk2 [2,3] 4 rfl rfl (by decide) rfl ⟨rr,rr,trivial⟩ ⟨rr,rr,⟨rfl,(by first | rfl | (simp only [↓hb9,↓hb13,bl,List.length_set]; done) | (simp only [↓hb9,↓hb13,bl,List.length_set]; rfl))⟩,⟨rfl,(by first | rfl | (simp only [↓hb9,↓hb13,bl,List.length_set]; done) | (simp only [↓hb9,↓hb13,bl,List.length_set]; rfl))⟩,rr,rr,rr,trivial⟩) ?_
  clear h
  rintro n_20 ⟨n_18,v_19⟩ h
  replace h:M255 runner_3 r_6 r_10 r_14 (n_20+1) n_18 v_19=some n_21:=h
  rw [M255] at h
  refine sg ?_
  conv=>whnf
  refine Tr.seq ?_
  refine Tr.cond ?_
  conv=>whnf
  refine cB h (fun hb24 h=>?_) (fun hb24 h=>?_)
  ·refine Tr.skip ?_
   conv=>whnf
   refine Tr.seq ?_
   refine Tr.block ?_
   refine sg ?_
   conv=>whnf
   obtain ⟨x_25,hx_25,h⟩:=bS h
   refine ixP_of hx_25 ?_
   conv=>whnf
   refine sg ?_
   conv=>whnf
   obtain ⟨r_26,hc27,h⟩:=bS h
   refine PC.ecall (P254 r_6 x_25 ({ first:=runner_3,second:=r_10 }:Thistory_pair_int_int) r_26 hc27) (fun rs hrs=>?_)
   subst hrs
   conv=>whnf
   refine Tr.cond ?_
   conv=>whnf
   refine cB h (fun hb28 h=>?_) (fun hb28 h=>?_)
   ·refine rg ?_
    conv=>whnf
    refine arS_raw ?_
    conv=>whnf
    refine rg ?_
    conv=>whnf
    refine arS_raw ?_
    conv=>whnf
    refine ⟨((w64 (n_18+1)),(w64 (v_19+1))),h,?_⟩
    exact Wk.mk2 [0,1] 3 rfl rfl (by decide) rfl ⟨rr,rr,trivial⟩ ⟨rr,rr,rr,rr,rr,rr,rr,trivial⟩
   refine Tr.skip ?_
   conv=>whnf
   refine rg ?_
   conv=>whnf
   refine arS_raw ?_
   conv=>whnf
   refine ⟨(n_18,(w64 (v_19+1))),h,?_⟩
   exact Wk.mk2 [0,1] 3 rfl rfl (by decide) rfl ⟨rr,rr,trivial⟩ ⟨rr,rr,rr,rr,rr,rr,rr,trivial⟩
  refine Tr.exit ?_
  conv=>whnf
  cases h
  exact Wk.mk2 [] 2 rfl rfl (by decide) rfl trivial ⟨rr,rr,trivial⟩
 clear hv29
 conv=>whnf
 refine Tr.weak hw ?_
 refine sg ?_
 conv=>whnf
 refine arS_raw ?_
 conv=>whnf
 refine Tr.ret ?_
 conv=>whnf
 cases h
 rfl
end Go.Proofs.Try
