/- Contracts of functions, by program (gen.py). No condition. -/
import Derived.Test.YthandbiapckgkaaZL
import Derived.Test.YthandbiapckgkaaZM
import Derived.Test.YthandbiapckgkaaZCB
namespace Go.Proofs.Try
open Go Go.Abs Go.Stop
set_option maxRecDepth 8000
set_option linter.unusedVariables false
set_option linter.unusedSimpArgs false
theorem P1 (times_1:List Int) (r_2:TField) (h:M1 times_1=some r_2) :
    PC prog 32 [(.ls (List.map eI times_1))] (fun rs=>rs=[(eTField r_2)]):=by
 refine PC.of_tr (cx:=⟨37,none,lay,0⟩) layOK func32 rfl rfl rfl rfl rfl (by simp [f32]) ?_
 unfold M1 at h
 refine sg ?_
 conv=>whnf
 refine sg ?_
 conv=>whnf
 refine orB_r ?_
 conv=>whnf
 refine orB_r ?_
 conv=>whnf
 refine orB_l ?_
 conv=>whnf
 refine Tr.seq ?_
 refine sg ?_
 conv=>whnf
 obtain ⟨l_8,hv15,h⟩:=bS h
 refine Tr.cutQ1 ([(2,.pt 0 0),(3,.pt 1 0)]) ([some (.var [.nsl,.nsl,.nsl,.nsl]),some (.var [.nsl,.d (.ls (List.map (eL eI) (([(([0]:List Int))]:List (List Int))))),.nsl,.sl 2 3 0 (List.length l_8)]),some (.arr 3 (List.map .d (List.map eTRunner l_8)))]) ?_ (fun T1 H1 hw=>?_)
 ·replace h:=hv15; clear hv15
  refine Tr.block ?_
  refine Tr.loopM (σ:=Int × List TRunner) (fun n s=>M0 times_1 n s.1 s.2) l_8 (fun s=>([(0,.d (.ls (List.map eI times_1))),(2,.pt 0 0),(3,.pt 1 0),(4,(dI s.1))],[some (.var [.nsl,.nsl,.nsl,.nsl]),some (.var [.nsl,.d (.ls (List.map (eL eI) (([(([0]:List Int))]:List (List Int))))),.nsl,.sl 2 3 0 (List.length s.2)]),some (.arr 3 (List.map .d (List.map eTRunner s.2)))])) (((((times_1).length:Int)) - (w64 (0+1)):Int).toNat+1) (0,(([]:List TRunner))) h (fun s=>rfl) (Wk.mk2 [0,1,2] 2 rfl rfl (by decide) rfl ⟨rr,⟨rfl,(by first | rfl | simp)⟩,rfl,trivial⟩ ⟨rr,rr,rr,rr,trivial⟩) ?_
  clear h
  rintro n_7 ⟨i_5,l_6⟩ h
  replace h:M0 times_1 (n_7+1) i_5 l_6=some l_8:=h
  rw [M0] at h
  refine Tr.seq ?_
  refine sg ?_
  conv=>whnf
  refine arS_raw ?_
  conv=>whnf
  refine lnS_map ?_
  conv=>whnf
  refine Tr.cond ?_
  conv=>whnf
  refine cB h (fun hb11 h=>?_) (fun hb11 h=>?_)
  ·refine Tr.skip ?_
   conv=>whnf
   refine Tr.seq ?_
   refine Tr.block ?_
   refine dq [(18,2),(20,1)] [(0,4),(1,4),(2,1),(3,1),(4,1),(5,1),(6,2),(7,2),(8,1),(9,1),(10,1),(11,2),(12,2),(13,1),(14,1),(15,1),(16,1),(17,0),(18,0),(19,4),(20,0)] ?_
   conv=>whnf
   refine q2 ?_
   conv=>whnf
   refine q2 ?_
   conv=>whnf
   refine q1 ?_
   conv=>whnf
   refine q4 ?_
   conv=>whnf
   refine q1 ?_
   conv=>whnf
   refine q1 ?_
   conv=>whnf
   obtain ⟨x_12,hx_12,h⟩:=bS h
   refine q3 (ixP_of hx_12 rr) ?_
   conv=>whnf
   refine q2 ?_
   conv=>whnf
   refine q1 ?_
   conv=>whnf
   refine q1 ?_
   conv=>whnf
   refine q4 ?_
   conv=>whnf
   obtain ⟨x_13,hx_13,h⟩:=bS h
   refine q3 (ixP_of hx_13 rr) ?_
   conv=>whnf
   refine q2 ?_
   conv=>whnf
   refine q1 ?_
   conv=>whnf
   refine q1 ?_ (fun _=>orB_r rr)
   conv=>whnf
   refine q1 ?_ (fun _=>orB_r rr)
   conv=>whnf
   refine q1 ?_
   conv=>whnf
   refine ⟨_,_,(by (conv=>whnf); (refine orB_r ?_); (conv=>whnf); (exact rr)),kp_ok (by repeat (first | exact trivial | refine ⟨trivial,?_⟩ | refine ⟨rfl,?_⟩)),?_⟩
   conv=>whnf
   obtain ⟨l_14,hl_14,h⟩:=bS h
   refine ⟨_,_,(by (conv=>whnf); (refine frP_no ?_); (conv=>whnf); (refine eqS_mk (by first | rfl | simp) ?_); (conv=>whnf); (refine apS_of hl_14 (aQ (f:=eTRunner) (l:=(([({ Bib:=(w64 (i_5+1)),Keys:=(([]:List Int)),Worlds:=(([(([({ Out:=false,Seg:=(-1),Lo:=x_12,Hi:=x_13 }:TOutcome)]:List TOutcome))]:List (List TOutcome))) }:TRunner)]:List TRunner))) fun _=>rfl) (by first | rfl | simp) (by first | rfl | simp) (fun he=>?_)); (conv=>whnf); (refine rS (es':=List.map .d (List.map eTRunner l_14)) (n':=List.length l_14) (by subst he; simp only [List.map_append,List.map_cons,List.map_nil,List.nil_append]; first | done | rfl) (by subst he; simp <;> omega) ?_); (clear he); (conv=>whnf); (exact rr)),kp_ok (by repeat (first | exact trivial | refine ⟨trivial,?_⟩ | refine ⟨rfl,?_⟩)),?_⟩
   conv=>whnf
   refine q2 ?_
   conv=>whnf
   refine ⟨_,_,(by (conv=>whnf); (refine orB_l ?_); (conv=>whnf); (exact rr)),kp_ok (by repeat (first | exact trivial | refine ⟨trivial,?_⟩ | refine ⟨rfl,?_⟩)),?_⟩
   conv=>whnf
   refine rg ?_
   conv=>whnf
   refine arS_raw ?_
   conv=>whnf
   refine ⟨((w64 (i_5+2)),l_14),h,?_⟩
   exact Wk.mk2 [0,1,3] 4 rfl rfl (by decide) rfl ⟨rr,⟨rfl,(by first | rfl | (simp only [↓hb11,bl]; done) | (simp only [↓hb11,bl]; rfl))⟩,daS_d rfl,trivial⟩ ⟨rr,rr,rr,rr,trivial⟩
  refine Tr.exit ?_
  conv=>whnf
  cases h
  exact Wk.mk2 [0,1,2] 3 rfl rfl (by decide) rfl ⟨rr,rr,daS_d rfl,trivial⟩ ⟨rr,rr,trivial⟩
 clear hv15
 conv=>whnf
 refine Tr.weak hw ?_
 refine sg ?_
 conv=>whnf
 refine orB_l ?_
 conv=>whnf
 refine Tr.ret ?_
 conv=>whnf
 refine frE_of (f:=eTRunner) (l:=l_8) rfl ?_
 conv=>whnf
 cases h
 rfl
theorem P2 (n_1:Int) (r_2:Bool) (h:M2 n_1=some r_2) :
    PC prog 83 [(.i .i64 n_1)] (fun rs=>rs=[(.b r_2)]):=by
 refine PC.of_tr (cx:=⟨9,none,lay,0⟩) layOK func83 rfl rfl rfl rfl rfl (by simp [f83]) ?_
 unfold M2 at h
 refine sg ?_
 conv=>whnf
 refine sg ?_
 conv=>whnf
 refine cB h (fun hb3 h=>?_) (fun hb3 h=>?_)
 ·conv=>whnf
  refine Tr.ret ?_
  conv=>whnf
  cases h
  rfl
 conv=>whnf
 refine Tr.ret ?_
 conv=>whnf
 cases h
 rfl
theorem P3 (x_1:Int) (r_2:Bool) (h:M3 x_1=some r_2) :
    PC prog 90 [(.i .i64 x_1)] (fun rs=>rs=[(.b r_2)]):=by
 refine PC.of_tr (cx:=⟨6,none,lay,0⟩) layOK func90 rfl rfl rfl rfl rfl (by simp [f90]) ?_
 unfold M3 at h
 refine sg ?_
 conv=>whnf
 refine sg ?_
 conv=>whnf
 refine Tr.ret ?_
 conv=>whnf
 cases h
 rfl
theorem P4 (x_1:Int) (y_2:Int) (r_3:Int) (h:M4 x_1 y_2=some r_3) :
    PC prog 79 [(.i .i64 x_1),(.i .i64 y_2)] (fun rs=>rs=[(.i .i64 r_3)]):=by
 refine PC.of_tr (cx:=⟨20,none,lay,0⟩) layOK func79 rfl rfl rfl rfl rfl (by simp [f79]) ?_
 unfold M4 at h
 refine sg ?_
 conv=>whnf
 refine sg ?_
 conv=>whnf
 obtain ⟨r_4,hc5,h⟩:=bS h
 refine PC.ecall (P3 x_1 r_4 hc5) (fun rs hrs=>?_)
 subst hrs
 conv=>whnf
 refine sg ?_
 conv=>whnf
 obtain ⟨r_6,hc7,h⟩:=bS h
 refine PC.ecall (P3 y_2 r_6 hc7) (fun rs hrs=>?_)
 subst hrs
 conv=>whnf
 refine Tr.seq ?_
 refine sg ?_
 conv=>whnf
 refine Tr.cond ?_
 conv=>whnf
 refine cB h (fun hb8 h=>?_) (fun hb8 h=>?_)
 ·refine Tr.seq ?_
  refine sg ?_
  conv=>whnf
  refine Tr.cond ?_
  conv=>whnf
  refine cB h (fun hb9 h=>?_) (fun hb9 h=>?_)
  ·refine sg ?_
   conv=>whnf
   refine Tr.ret ?_
   conv=>whnf
   cases h
   rfl
  refine Tr.skip ?_
  conv=>whnf
  refine sg ?_
  conv=>whnf
  refine Tr.ret ?_
  conv=>whnf
  cases h
  rfl
 refine Tr.skip ?_
 conv=>whnf
 refine Tr.seq ?_
 refine sg ?_
 conv=>whnf
 refine Tr.cond ?_
 conv=>whnf
 refine cB h (fun hb10 h=>?_) (fun hb10 h=>?_)
 ·refine sg ?_
  conv=>whnf
  refine Tr.ret ?_
  conv=>whnf
  cases h
  rfl
 refine Tr.skip ?_
 conv=>whnf
 refine Tr.seq ?_
 refine sg ?_
 conv=>whnf
 refine Tr.cond ?_
 conv=>whnf
 refine cB h (fun hb11 h=>?_) (fun hb11 h=>?_)
 ·refine sg ?_
  conv=>whnf
  refine Tr.ret ?_
  conv=>whnf
  cases h
  rfl
 refine Tr.skip ?_
 conv=>whnf
 refine Tr.seq ?_
 refine sg ?_
 conv=>whnf
 refine Tr.cond ?_
 conv=>whnf
 refine cB h (fun hb12 h=>?_) (fun hb12 h=>?_)
 ·refine sg ?_
  conv=>whnf
  refine Tr.ret ?_
  conv=>whnf
  cases h
  rfl
 refine Tr.skip ?_
 conv=>whnf
 refine sg ?_
 conv=>whnf
 refine Tr.ret ?_
 conv=>whnf
 cases h
 rfl
theorem P7 (vals_1:List Int) (r_2:Int) (h:M7 vals_1=some r_2) :
    PC prog 93 [(.ls (List.map eI vals_1))] (fun rs=>rs=[(.i .i64 r_2)]):=by
 refine PC.of_tr (cx:=⟨18,none,lay,0⟩) layOK func93 rfl rfl rfl rfl rfl (by simp [f93]) ?_
 unfold M7 at h
 refine sg ?_
 conv=>whnf
 refine sg ?_
 conv=>whnf
 refine Tr.seq ?_
 refine sg ?_
 conv=>whnf
 refine lnS_map ?_
 conv=>whnf
 refine Tr.cutQ (α:=Unit) (fun s=>([(2,(dI 0)),(3,(dI 0))],[])) (fun s=>M6 s=some r_2) ?_ ?_
 ·refine Tr.block ?_
  refine Tr.loopM (σ:=Int) (fun n s=>M5 vals_1 M6 n s) r_2 (fun s=>([(2,(dI 0)),(3,(dI 0)),(6,.d (.ls (List.map eI vals_1))),(7,(dI (((vals_1).length:Int)))),(8,(dI s))],[])) (((((vals_1).length:Int)) - 0:Int).toNat+1) (0) h (fun s=>rfl) (Wk.mk2 [] 0 rfl rfl (by decide) rfl trivial ⟨rr,rr,rr,rr,rr,trivial⟩) ?_
  clear h
  rintro n_5 v_4 h
  replace h:M5 vals_1 M6 (n_5+1) v_4=some r_2:=h
  rw [M5] at h
  refine sg ?_
  conv=>whnf
  refine Tr.seq ?_
  refine Tr.cond ?_
  conv=>whnf
  refine cB h (fun hb8 h=>?_) (fun hb8 h=>?_)
  ·refine Tr.skip ?_
   conv=>whnf
   refine Tr.seq ?_
   refine Tr.block ?_
   refine sg ?_
   conv=>whnf
   obtain ⟨x_9,hx_9,h⟩:=bS h
   refine ixP_of hx_9 ?_
   conv=>whnf
   refine sg ?_
   conv=>whnf
   refine Tr.cond ?_
   conv=>whnf
   refine cB h (fun hb10 h=>?_) (fun hb10 h=>?_)
   ·refine sg ?_
    conv=>whnf
    refine Tr.ret ?_
    conv=>whnf
    cases h
    rfl
   refine Tr.skip ?_
   conv=>whnf
   refine rg ?_
   conv=>whnf
   refine arS_raw ?_
   conv=>whnf
   refine ⟨((w64 (v_4+1))),h,?_⟩
   exact Wk.mk2 [] 0 rfl rfl (by decide) rfl trivial ⟨rr,rr,rr,rr,rr,trivial⟩
  refine Tr.exit ?_
  conv=>whnf
  refine ⟨(),h,?_⟩
  exact Wk.mk2 [] 0 rfl rfl (by decide) rfl trivial ⟨rr,rr,trivial⟩
 clear h
 rintro _ h T1 H1 hw
 replace h:M6 ()=some r_2:=h
 conv=>whnf
 refine Tr.weak hw ?_
 unfold M6 at h
 refine sg ?_
 conv=>whnf
 refine Tr.ret ?_
 conv=>whnf
 cases h
 rfl
theorem P8 (p_1:Tclocks_place) (q_2:Tclocks_place) (r_3:Int) (h:M8 p_1 q_2=some r_3) :
    PC prog 91 [(eTclocks_place p_1),(eTclocks_place q_2)] (fun rs=>rs=[(.i .i64 r_3)]):=by
 refine PC.of_tr (cx:=⟨17,none,lay,0⟩) layOK func91 rfl rfl rfl rfl rfl (by simp [f91]) ?_
 unfold M8 at h
 refine sg ?_
 conv=>whnf
 refine sd [] [(0,3),(1,3),(2,4),(3,4),(4,1),(5,3),(6,3),(7,4),(8,4),(9,1),(10,1),(11,0),(12,1)] ?_
 conv=>whnf
 refine q2 ?_
 conv=>whnf
 refine q2 ?_
 conv=>whnf
 refine q2 ?_
 conv=>whnf
 refine q2 ?_
 conv=>whnf
 obtain ⟨r_4,hc5,h⟩:=bS h
 refine q1 ?_ (fun _=>pe (P4 p_1.mat q_2.mat r_4 hc5) rr)
 conv=>whnf
 refine q2 ?_
 conv=>whnf
 refine q2 ?_
 conv=>whnf
 refine q2 ?_
 conv=>whnf
 refine q2 ?_
 conv=>whnf
 obtain ⟨r_6,hc7,h⟩:=bS h
 refine q1 ?_ (fun _=>pe (P4 p_1.epoch q_2.epoch r_6 hc7) rr)
 conv=>whnf
 refine q1 ?_ (fun _=>orB_r rr)
 conv=>whnf
 obtain ⟨r_8,hc9,h⟩:=bS h
 refine ⟨_,_,(by (conv=>whnf); (refine PC.ecall (P7 ((([r_4,r_6]:List Int))) r_8 hc9) (fun rs hrs=>?_)); (subst hrs); (conv=>whnf); (exact rr)),kp_ok (by repeat (first | exact trivial | refine ⟨trivial,?_⟩ | refine ⟨rfl,?_⟩)),?_⟩
 conv=>whnf
 refine q1 ?_
 conv=>whnf
 refine Tr.ret ?_
 conv=>whnf
 cases h
 rfl
theorem P9 (a_1:TSegment) (b_2:TSegment) (r_3:Int) (h:M9 a_1 b_2=some r_3) :
    PC prog 84 [(eTSegment a_1),(eTSegment b_2)] (fun rs=>rs=[(.i .i64 r_3)]):=by
 refine PC.of_tr (cx:=⟨16,none,lay,0⟩) layOK func84 rfl rfl rfl rfl rfl (by simp [f84]) ?_
 unfold M9 at h
 refine sg ?_
 conv=>whnf
 refine sg ?_
 conv=>whnf
 obtain ⟨r_4,hc5,h⟩:=bS h
 refine PC.ecall (P8 ({ mat:=a_1.Mat,epoch:=a_1.Epoch }:Tclocks_place) ({ mat:=b_2.Mat,epoch:=b_2.Epoch }:Tclocks_place) r_4 hc5) (fun rs hrs=>?_)
 subst hrs
 conv=>whnf
 refine Tr.ret ?_
 conv=>whnf
 cases h
 rfl
theorem P10 (w_1:Int) (r_2:Bool) (h:M10 w_1=some r_2) :
    PC prog 86 [(.i .i64 w_1)] (fun rs=>rs=[(.b r_2)]):=by
 refine PC.of_tr (cx:=⟨9,none,lay,0⟩) layOK func86 rfl rfl rfl rfl rfl (by simp [f86]) ?_
 unfold M10 at h
 refine sg ?_
 conv=>whnf
 refine sg ?_
 conv=>whnf
 refine cB h (fun hb3 h=>?_) (fun hb3 h=>?_)
 ·conv=>whnf
  refine Tr.ret ?_
  conv=>whnf
  cases h
  rfl
 conv=>whnf
 refine Tr.ret ?_
 conv=>whnf
 cases h
 rfl
theorem P13 (s_1:List Int) (r_2:Int) (h:M13 s_1=some r_2) :
    PC prog 92 [(.ls (List.map eI s_1)),(.fn 86 [])] (fun rs=>rs=[(.i .i64 r_2)]):=by
 refine PC.of_tr (cx:=⟨19,none,lay,0⟩) layOK func92 rfl rfl rfl rfl rfl (by simp [f92]) ?_
 unfold M13 at h
 refine sg ?_
 conv=>whnf
 refine Tr.seq ?_
 refine sg ?_
 conv=>whnf
 refine lnS_map ?_
 conv=>whnf
 refine Tr.cutQ (α:=Unit) (fun s=>([(4,(dI 0))],[])) (fun s=>M12 s=some r_2) ?_ ?_
 ·refine Tr.block ?_
  refine Tr.loopM (σ:=Int) (fun n s=>M11 s_1 M12 n s) r_2 (fun s=>([(0,.d (.ls (List.map eI s_1))),(1,.d (.fn 86 [])),(4,(dI 0)),(7,(dI (((s_1).length:Int)))),(8,(dI s))],[])) (((((s_1).length:Int)) - 0:Int).toNat+1) (0) h (fun s=>rfl) (Wk.mk2 [] 0 rfl rfl (by decide) rfl trivial ⟨rr,rr,rr,rr,rr,trivial⟩) ?_
  clear h
  rintro n_5 v_4 h
  replace h:M11 s_1 M12 (n_5+1) v_4=some r_2:=h
  rw [M11] at h
  refine sg ?_
  conv=>whnf
  refine Tr.seq ?_
  refine Tr.cond ?_
  conv=>whnf
  refine cB h (fun hb8 h=>?_) (fun hb8 h=>?_)
  ·refine Tr.skip ?_
   conv=>whnf
   refine Tr.seq ?_
   refine Tr.block ?_
   refine sg ?_
   conv=>whnf
   refine sg ?_
   conv=>whnf
   obtain ⟨x_9,hx_9,h⟩:=bS h
   refine ixP_of hx_9 ?_
   conv=>whnf
   obtain ⟨r_10,hc11,h⟩:=bS h
   refine PC.ecall (P10 x_9 r_10 hc11) (fun rs hrs=>?_)
   subst hrs
   conv=>whnf
   refine Tr.cond ?_
   conv=>whnf
   refine cB h (fun hb12 h=>?_) (fun hb12 h=>?_)
   ·refine sg ?_
    conv=>whnf
    refine Tr.ret ?_
    conv=>whnf
    cases h
    rfl
   refine Tr.skip ?_
   conv=>whnf
   refine rg ?_
   conv=>whnf
   refine arS_raw ?_
   conv=>whnf
   refine ⟨((w64 (v_4+1))),h,?_⟩
   exact Wk.mk2 [] 0 rfl rfl (by decide) rfl trivial ⟨rr,rr,rr,rr,rr,trivial⟩
  refine Tr.exit ?_
  conv=>whnf
  refine ⟨(),h,?_⟩
  exact Wk.mk2 [] 0 rfl rfl (by decide) rfl trivial ⟨rr,trivial⟩
 clear h
 rintro _ h T1 H1 hw
 replace h:M12 ()=some r_2:=h
 conv=>whnf
 refine Tr.weak hw ?_
 unfold M12 at h
 refine sg ?_
 conv=>whnf
 refine Tr.ret ?_
 conv=>whnf
 cases h
 rfl
theorem P14 (s_1:List Int) (r_2:Bool) (h:M14 s_1=some r_2) :
    PC prog 85 [(.ls (List.map eI s_1)),(.fn 86 [])] (fun rs=>rs=[(.b r_2)]):=by
 refine PC.of_tr (cx:=⟨9,none,lay,0⟩) layOK func85 rfl rfl rfl rfl rfl (by simp [f85]) ?_
 unfold M14 at h
 refine sg ?_
 conv=>whnf
 refine sg ?_
 conv=>whnf
 obtain ⟨r_3,hc4,h⟩:=bS h
 refine PC.ecall (P13 s_1 r_3 hc4) (fun rs hrs=>?_)
 subst hrs
 conv=>whnf
 refine Tr.ret ?_
 conv=>whnf
 cases h
 rfl
theorem P25 (k_1:TClocks) (r_2:Int) (h:M25 k_1=some r_2) :
    PC prog 74 [(eTClocks k_1)] (fun rs=>rs=[(.i .i64 r_2)]):=by
 refine PC.of_tr (cx:=⟨141,none,lay,0⟩) layOK func74 rfl rfl rfl rfl rfl (by simp [f74]) ?_
 unfold M25 at h
 refine sg ?_
 conv=>whnf
 refine sg ?_
 conv=>whnf
 refine lnS_map ?_
 conv=>whnf
 refine Tr.seq ?_
 refine sg ?_
 conv=>whnf
 refine cB h (fun hb3 h=>?_) (fun hb3 h=>?_)
 ·conv=>whnf
  refine Tr.cond ?_
  conv=>whnf
  refine sg ?_
  conv=>whnf
  refine Tr.ret ?_
  conv=>whnf
  cases h
  rfl
 conv=>whnf
 refine lnS_map ?_
 conv=>whnf
 refine arS_raw ?_
 conv=>whnf
 refine Tr.cond ?_
 conv=>whnf
 refine cB h (fun hb4 h=>?_) (fun hb4 h=>?_)
 ·refine sg ?_
  conv=>whnf
  refine Tr.ret ?_
  conv=>whnf
  cases h
  rfl
 refine Tr.skip ?_
 conv=>whnf
 refine Tr.seq ?_
 refine sg ?_
 conv=>whnf
 refine lnS_map ?_
 conv=>whnf
 refine Tr.cutQ (α:=Unit) (fun s=>([(1,.pt 0 0),(2,(dI 0)),(3,(dI (((k_1.Segments).length:Int))))],[some (.var [.d (.ls (List.map eTSegment k_1.Segments)),.d (.ls (List.map (eL eI) k_1.Far))])])) (fun s=>M24 k_1 s=some r_2) ?_ ?_
 ·refine Tr.block ?_
  refine Tr.loopM (σ:=Int) (fun n s=>M15 k_1 (M24 k_1) n s) r_2 (fun s=>([(1,.pt 0 0),(2,(dI 0)),(3,(dI (((k_1.Segments).length:Int)))),(27,.d (.ls (List.map eTSegment k_1.Segments))),(28,(dI (((k_1.Segments).length:Int)))),(29,(dI s))],[some (.var [.d (.ls (List.map eTSegment k_1.Segments)),.d (.ls (List.map (eL eI) k_1.Far))])])) (((((k_1.Segments).length:Int)) - 0:Int).toNat+1) (0) h (fun s=>rfl) (Wk.mk2 [0] 1 rfl rfl (by decide) rfl ⟨rr,trivial⟩ ⟨rr,rr,rr,rr,rr,rr,trivial⟩) ?_
  clear h
  rintro n_7 v_6 h
  replace h:M15 k_1 (M24 k_1) (n_7+1) v_6=some r_2:=h
  rw [M15] at h
  refine sg ?_
  conv=>whnf
  refine Tr.seq ?_
  refine Tr.cond ?_
  conv=>whnf
  refine cB h (fun hb10 h=>?_) (fun hb10 h=>?_)
  ·refine Tr.skip ?_
   conv=>whnf
   refine Tr.seq ?_
   refine Tr.block ?_
   refine sg ?_
   conv=>whnf
   obtain ⟨x_11,hx_11,h⟩:=bS h
   refine ixP_of hx_11 ?_
   conv=>whnf
   refine Tr.seq ?_
   obtain ⟨v_12,hv13,h⟩:=bS h
   refine Tr.cutQ1 ([(1,.pt 0 0),(2,(dI 0)),(3,(dI (((k_1.Segments).length:Int)))),(27,.d (.ls (List.map eTSegment k_1.Segments))),(28,(dI (((k_1.Segments).length:Int)))),(29,(dI v_6)),(72,.d (.b v_12))]) ([some (.var [.d (.ls (List.map eTSegment k_1.Segments)),.d (.ls (List.map (eL eI) k_1.Far))])]) ?_ (fun T1 H1 hw=>?_)
   ·replace h:=hv13; clear hv13
    refine dq [] [(0,4),(1,4),(2,1),(3,1),(4,4),(5,4),(6,1),(7,1),(8,1),(9,4),(10,4),(11,1),(12,1),(13,1),(14,4),(15,4),(16,1),(17,1),(18,1),(19,4),(20,4),(21,1),(22,1),(23,1),(24,1),(25,1),(26,1),(27,1),(28,3),(29,3),(30,1),(31,1),(32,2),(33,2),(34,4),(35,1),(36,1),(37,1),(38,1)] ?_
    conv=>whnf
    refine q2 ?_
    conv=>whnf
    refine q2 ?_
    conv=>whnf
    refine q1 ?_
    conv=>whnf
    refine q1 ?_
    conv=>whnf
    refine cB h (fun hb14 h=>?_) (fun hb14 h=>?_)
    ·conv=>whnf
     refine q1 ?_
     conv=>whnf
     refine q1 ?_
     conv=>whnf
     refine q1 ?_
     conv=>whnf
     refine q1 ?_
     conv=>whnf
     refine q1 ?_
     conv=>whnf
     refine q1 ?_
     conv=>whnf
     refine q1 ?_
     conv=>whnf
     refine q1 ?_
     conv=>whnf
     refine q1 ?_
     conv=>whnf
     cases h
     exact Wk.mk2 [0] 2 rfl rfl (by decide) rfl ⟨rr,trivial⟩ ⟨rr,rr,rr,rr,rr,rr,rr,trivial⟩
    conv=>whnf
    refine q2 ?_
    conv=>whnf
    refine q2 ?_
    conv=>whnf
    refine q1 ?_
    conv=>whnf
    refine q1 ?_
    conv=>whnf
    refine q1 ?_
    conv=>whnf
    refine cB h (fun hb15 h=>?_) (fun hb15 h=>?_)
    ·conv=>whnf
     refine q1 ?_
     conv=>whnf
     refine q1 ?_
     conv=>whnf
     refine q1 ?_
     conv=>whnf
     refine q1 ?_
     conv=>whnf
     refine q1 ?_
     conv=>whnf
     refine q1 ?_
     conv=>whnf
     refine q1 ?_
     conv=>whnf
     cases h
     exact Wk.mk2 [0] 2 rfl rfl (by decide) rfl ⟨rr,trivial⟩ ⟨rr,rr,rr,rr,rr,rr,rr,trivial⟩
    conv=>whnf
    refine q2 ?_
    conv=>whnf
    refine q2 ?_
    conv=>whnf
    refine q1 ?_
    conv=>whnf
    refine q1 ?_
    conv=>whnf
    refine q1 ?_
    conv=>whnf
    refine cB h (fun hb16 h=>?_) (fun hb16 h=>?_)
    ·conv=>whnf
     refine q1 ?_
     conv=>whnf
     refine q1 ?_
     conv=>whnf
     refine q1 ?_
     conv=>whnf
     refine q1 ?_
     conv=>whnf
     refine q1 ?_
     conv=>whnf
     cases h
     exact Wk.mk2 [0] 2 rfl rfl (by decide) rfl ⟨rr,trivial⟩ ⟨rr,rr,rr,rr,rr,rr,rr,trivial⟩
    conv=>whnf
    refine q2 ?_
    conv=>whnf
    refine q2 ?_
    conv=>whnf
    refine q1 ?_
    conv=>whnf
    refine q1 ?_
    conv=>whnf
    refine q1 ?_
    conv=>whnf
    refine cB h (fun hb17 h=>?_) (fun hb17 h=>?_)
    ·conv=>whnf
     refine q1 ?_
     conv=>whnf
     refine q1 ?_
     conv=>whnf
     refine q1 ?_
     conv=>whnf
     cases h
     exact Wk.mk2 [0] 2 rfl rfl (by decide) rfl ⟨rr,trivial⟩ ⟨rr,rr,rr,rr,rr,rr,rr,trivial⟩
    conv=>whnf
    refine q2 ?_
    conv=>whnf
    refine q2 ?_
    conv=>whnf
    obtain ⟨r_18,hc19,h⟩:=bS h
    refine q1 ?_ (fun _=>pe (P2 x_11.Anchor r_18 hc19) rr)
    conv=>whnf
    refine q1 ?_
    conv=>whnf
    refine q1 ?_
    conv=>whnf
    refine q1 ?_
    conv=>whnf
    refine cB h (fun hb20 h=>?_) (fun hb20 h=>?_)
    ·conv=>whnf
     refine q1 ?_
     conv=>whnf
     cases h
     exact Wk.mk2 [0] 2 rfl rfl (by decide) rfl ⟨rr,trivial⟩ ⟨rr,rr,rr,rr,rr,rr,rr,trivial⟩
    conv=>whnf
    refine q1 ?_
    conv=>whnf
    refine q1 ?_
    conv=>whnf
    refine q1 ?_
    conv=>whnf
    refine cB h (fun hb21 h=>?_) (fun hb21 h=>?_)
    ·conv=>whnf
     refine q2 ?_
     conv=>whnf
     refine q2 ?_
     conv=>whnf
     refine q1 ?_
     conv=>whnf
     refine q4 ?_
     conv=>whnf
     obtain ⟨x_22,hx_22,h⟩:=bS h
     refine q3 (ixP_of hx_22 rr) ?_
     conv=>whnf
     refine q2 ?_
     conv=>whnf
     refine q2 ?_
     conv=>whnf
     obtain ⟨r_23,hc24,h⟩:=bS h
     refine q1 ?_ (fun _=>pe (P9 x_22 x_11 r_23 hc24) rr)
     conv=>whnf
     refine q1 ?_
     conv=>whnf
     refine q1 ?_
     conv=>whnf
     refine q1 ?_
     conv=>whnf
     cases h
     exact Wk.mk2 [0] 2 rfl rfl (by decide) rfl ⟨rr,trivial⟩ ⟨rr,rr,rr,rr,rr,rr,rr,trivial⟩
    conv=>whnf
    refine q1 ?_
    conv=>whnf
    refine q1 ?_
    conv=>whnf
    cases h
    exact Wk.mk2 [0] 2 rfl rfl (by decide) rfl ⟨rr,trivial⟩ ⟨rr,rr,rr,rr,rr,rr,rr,trivial⟩
   clear hv13
   conv=>whnf
   refine Tr.weak hw ?_
   refine Tr.cond ?_
   conv=>whnf
   refine cB h (fun hb25 h=>?_) (fun hb25 h=>?_)
   ·refine sg ?_
    conv=>whnf
    refine Tr.ret ?_
    conv=>whnf
    cases h
    rfl
   refine Tr.skip ?_
   conv=>whnf
   refine rg ?_
   conv=>whnf
   refine arS_raw ?_
   conv=>whnf
   refine ⟨((w64 (v_6+1))),h,?_⟩
   exact Wk.mk2 [0] 1 rfl rfl (by decide) rfl ⟨rr,trivial⟩ ⟨rr,rr,rr,rr,rr,rr,trivial⟩
  refine Tr.exit ?_
  conv=>whnf
  refine ⟨(),h,?_⟩
  exact Wk.mk2 [0] 1 rfl rfl (by decide) rfl ⟨rr,trivial⟩ ⟨rr,rr,rr,trivial⟩
 clear h
 rintro _ h T1 H1 hw
 replace h:M24 k_1 ()=some r_2:=h
 conv=>whnf
 refine Tr.weak hw ?_
 unfold M24 at h
 refine Tr.seq ?_
 refine sg ?_
 conv=>whnf
 refine lnS_map ?_
 conv=>whnf
 refine Tr.cutQ (α:=Unit) (fun s=>([(1,.pt 0 0),(2,(dI 0)),(3,(dI (((k_1.Segments).length:Int))))],[some (.var [.d (.ls (List.map eTSegment k_1.Segments)),.d (.ls (List.map (eL eI) k_1.Far))])])) (fun s=>M23 k_1 s=some r_2) ?_ ?_
 ·refine Tr.block ?_
  refine Tr.loopM (σ:=Int) (fun n s=>M16 k_1 (M23 k_1) n s) r_2 (fun s=>([(1,.pt 0 0),(2,(dI 0)),(3,(dI (((k_1.Segments).length:Int)))),(75,.d (.ls (List.map (eL eI) k_1.Far))),(76,(dI (((k_1.Far).length:Int)))),(77,(dI s))],[some (.var [.d (.ls (List.map eTSegment k_1.Segments)),.d (.ls (List.map (eL eI) k_1.Far))])])) (((((k_1.Far).length:Int)) - 0:Int).toNat+1) (0) h (fun s=>rfl) (Wk.mk2 [0] 1 rfl rfl (by decide) rfl ⟨rr,trivial⟩ ⟨rr,rr,rr,rr,rr,rr,trivial⟩) ?_
  clear h
  rintro n_28 v_27 h
  replace h:M16 k_1 (M23 k_1) (n_28+1) v_27=some r_2:=h
  rw [M16] at h
  refine sg ?_
  conv=>whnf
  refine Tr.seq ?_
  refine Tr.cond ?_
  conv=>whnf
  refine cB h (fun hb31 h=>?_) (fun hb31 h=>?_)
  ·refine Tr.skip ?_
   conv=>whnf
   refine Tr.seq ?_
   refine Tr.block ?_
   refine sg ?_
   conv=>whnf
   obtain ⟨x_32,hx_32,h⟩:=bS h
   refine ixP_of hx_32 ?_
   conv=>whnf
   refine sg ?_
   conv=>whnf
   refine lnS_map ?_
   conv=>whnf
   refine arS_raw ?_
   conv=>whnf
   refine cB h (fun hb33 h=>?_) (fun hb33 h=>?_)
   ·conv=>whnf
    refine Tr.cond ?_
    conv=>whnf
    refine sg ?_
    conv=>whnf
    refine Tr.ret ?_
    conv=>whnf
    cases h
    rfl
   conv=>whnf
   obtain ⟨x_34,hx_34,h⟩:=bS h
   refine ixP_of hx_34 ?_
   conv=>whnf
   refine cB h (fun hb35 h=>?_) (fun hb35 h=>?_)
   ·conv=>whnf
    refine Tr.cond ?_
    conv=>whnf
    refine sg ?_
    conv=>whnf
    refine Tr.ret ?_
    conv=>whnf
    cases h
    rfl
   conv=>whnf
   obtain ⟨r_36,hc37,h⟩:=bS h
   refine PC.ecall (P14 x_32 r_36 hc37) (fun rs hrs=>?_)
   subst hrs
   conv=>whnf
   refine Tr.cond ?_
   conv=>whnf
   refine cB h (fun hb38 h=>?_) (fun hb38 h=>?_)
   ·refine sg ?_
    conv=>whnf
    refine Tr.ret ?_
    conv=>whnf
    cases h
    rfl
   refine Tr.skip ?_
   conv=>whnf
   refine rg ?_
   conv=>whnf
   refine arS_raw ?_
   conv=>whnf
   refine ⟨((w64 (v_27+1))),h,?_⟩
   exact Wk.mk2 [0] 1 rfl rfl (by decide) rfl ⟨rr,trivial⟩ ⟨rr,rr,rr,rr,rr,rr,trivial⟩
  refine Tr.exit ?_
  conv=>whnf
  refine ⟨(),h,?_⟩
  exact Wk.mk2 [0] 1 rfl rfl (by decide) rfl ⟨rr,trivial⟩ ⟨rr,rr,rr,trivial⟩
 clear h
 rintro _ h T1 H1 hw
 replace h:M23 k_1 ()=some r_2:=h
 conv=>whnf
 refine Tr.weak hw ?_
 unfold M23 at h
 refine Tr.seq ?_
 refine sg ?_
 conv=>whnf
 refine arS_raw ?_
 conv=>whnf
 refine Tr.cutQ (α:=Unit) (fun s=>([(2,(dI 0))],[])) (fun s=>M22 s=some r_2) ?_ ?_
 ·refine Tr.block ?_
  refine Tr.loopM (σ:=Int) (fun n s=>M21 k_1 M22 n s) r_2 (fun s=>([(1,.pt 0 0),(2,(dI 0)),(100,(dI (w64 ((((k_1.Segments).length:Int))+1)))),(101,(dI s))],[some (.var [.d (.ls (List.map eTSegment k_1.Segments)),.d (.ls (List.map (eL eI) k_1.Far))])])) (((w64 ((((k_1.Segments).length:Int))+1)) - 0:Int).toNat+1) (0) h (fun s=>rfl) (Wk.mk2 [0] 1 rfl rfl (by decide) rfl ⟨rr,trivial⟩ ⟨rr,rr,rr,rr,trivial⟩) ?_
  clear h
  rintro n_41 v_40 h
  replace h:M21 k_1 M22 (n_41+1) v_40=some r_2:=h
  rw [M21] at h
  refine sg ?_
  conv=>whnf
  refine Tr.seq ?_
  refine Tr.cond ?_
  conv=>whnf
  refine cB h (fun hb44 h=>?_) (fun hb44 h=>?_)
  ·refine Tr.skip ?_
   conv=>whnf
   refine Tr.seq ?_
   refine Tr.block ?_
   refine sg ?_
   conv=>whnf
   refine sg ?_
   conv=>whnf
   obtain ⟨x_45,hx_45,h⟩:=bS h
   refine ixP_of hx_45 ?_
   conv=>whnf
   refine lnS_map ?_
   conv=>whnf
   refine Tr.cutQ (α:=Unit) (fun s=>([(1,.pt 0 0),(2,(dI 0)),(100,(dI (w64 ((((k_1.Segments).length:Int))+1)))),(101,(dI v_40))],[some (.var [.d (.ls (List.map eTSegment k_1.Segments)),.d (.ls (List.map (eL eI) k_1.Far))])])) (fun s=>M20 v_40 (M21 k_1 M22 n_41) s=some r_2) ?_ ?_
   ·refine Tr.block ?_
    refine Tr.loopM (σ:=Int) (fun n s=>M19 k_1 v_40 x_45 (M20 v_40 (M21 k_1 M22 n_41)) n s) r_2 (fun s=>([(1,.pt 0 0),(2,(dI 0)),(8,(dI v_40)),(100,(dI (w64 ((((k_1.Segments).length:Int))+1)))),(101,(dI v_40)),(108,.d (.ls (List.map eI x_45))),(109,(dI (((x_45).length:Int)))),(110,(dI s))],[some (.var [.d (.ls (List.map eTSegment k_1.Segments)),.d (.ls (List.map (eL eI) k_1.Far))])])) (((((x_45).length:Int)) - 0:Int).toNat+1) (0) h (fun s=>rfl) (Wk.mk2 [0] 1 rfl rfl (by decide) rfl ⟨rr,trivial⟩ ⟨rr,rr,rr,rr,rr,rr,rr,rr,trivial⟩) ?_
    clear h
    rintro n_48 v_47 h
    replace h:M19 k_1 v_40 x_45 (M20 v_40 (M21 k_1 M22 n_41)) (n_48+1) v_47=some r_2:=h
    rw [M19] at h
    refine sg ?_
    conv=>whnf
    refine Tr.seq ?_
    refine Tr.cond ?_
    conv=>whnf
    refine cB h (fun hb51 h=>?_) (fun hb51 h=>?_)
    ·refine Tr.skip ?_
     conv=>whnf
     refine Tr.seq ?_
     refine Tr.block ?_
     refine sg ?_
     conv=>whnf
     obtain ⟨x_52,hx_52,h⟩:=bS h
     refine ixP_of hx_52 ?_
     conv=>whnf
     refine sg ?_
     conv=>whnf
     obtain ⟨x_53,hx_53,h⟩:=bS h
     refine ixP_of hx_53 ?_
     conv=>whnf
     refine lnS_map ?_
     conv=>whnf
     refine Tr.cutQ (α:=Unit) (fun s=>([(1,.pt 0 0),(2,(dI 0)),(8,(dI v_40)),(100,(dI (w64 ((((k_1.Segments).length:Int))+1)))),(101,(dI v_40)),(108,.d (.ls (List.map eI x_45))),(109,(dI (((x_45).length:Int)))),(110,(dI v_47))],[some (.var [.d (.ls (List.map eTSegment k_1.Segments)),.d (.ls (List.map (eL eI) k_1.Far))])])) (fun s=>M18 v_47 (M19 k_1 v_40 x_45 (M20 v_40 (M21 k_1 M22 n_41)) n_48) s=some r_2) ?_ ?_
     ·refine Tr.block ?_
      refine Tr.loopM (σ:=Int) (fun n s=>M17 k_1 v_40 x_52 x_53 (M18 v_47 (M19 k_1 v_40 x_45 (M20 v_40 (M21 k_1 M22 n_41)) n_48)) n s) r_2 (fun s=>([(1,.pt 0 0),(2,(dI 0)),(8,(dI v_40)),(10,(dI x_52)),(100,(dI (w64 ((((k_1.Segments).length:Int))+1)))),(101,(dI v_40)),(108,.d (.ls (List.map eI x_45))),(109,(dI (((x_45).length:Int)))),(110,(dI v_47)),(119,.d (.ls (List.map eI x_53))),(120,(dI (((x_53).length:Int)))),(121,(dI s))],[some (.var [.d (.ls (List.map eTSegment k_1.Segments)),.d (.ls (List.map (eL eI) k_1.Far))])])) (((((x_53).length:Int)) - 0:Int).toNat+1) (0) h (fun s=>rfl) (Wk.mk2 [0] 1 rfl rfl (by decide) rfl ⟨rr,trivial⟩ ⟨rr,rr,rr,rr,rr,rr,rr,rr,rr,rr,rr,rr,trivial⟩) ?_
      clear h
      rintro n_56 v_55 h
      replace h:M17 k_1 v_40 x_52 x_53 (M18 v_47 (M19 k_1 v_40 x_45 (M20 v_40 (M21 k_1 M22 n_41)) n_48)) (n_56+1) v_55=some r_2:=h
      rw [M17] at h
      refine sg ?_
      conv=>whnf
      refine Tr.seq ?_
      refine Tr.cond ?_
      conv=>whnf
      refine cB h (fun hb59 h=>?_) (fun hb59 h=>?_)
      ·refine Tr.skip ?_
       conv=>whnf
       refine Tr.seq ?_
       refine Tr.block ?_
       refine sg ?_
       conv=>whnf
       obtain ⟨x_60,hx_60,h⟩:=bS h
       refine ixP_of hx_60 ?_
       conv=>whnf
       refine sg ?_
       conv=>whnf
       obtain ⟨x_61,hx_61,h⟩:=bS h
       refine ixP_of hx_61 ?_
       conv=>whnf
       obtain ⟨x_62,hx_62,h⟩:=bS h
       refine ixP_of hx_62 ?_
       conv=>whnf
       refine arS_raw ?_
       conv=>whnf
       refine Tr.cond ?_
       conv=>whnf
       refine cB h (fun hb63 h=>?_) (fun hb63 h=>?_)
       ·refine sg ?_
        conv=>whnf
        refine Tr.ret ?_
        conv=>whnf
        cases h
        rfl
       refine Tr.skip ?_
       conv=>whnf
       refine rg ?_
       conv=>whnf
       refine arS_raw ?_
       conv=>whnf
       refine ⟨((w64 (v_55+1))),h,?_⟩
       exact Wk.mk2 [0] 1 rfl rfl (by decide) rfl ⟨rr,trivial⟩ ⟨rr,rr,rr,rr,rr,rr,rr,rr,rr,rr,rr,rr,trivial⟩
      refine Tr.exit ?_
      conv=>whnf
      refine ⟨(),h,?_⟩
      exact Wk.mk2 [0] 1 rfl rfl (by decide) rfl ⟨rr,trivial⟩ ⟨rr,rr,rr,rr,rr,rr,rr,rr,trivial⟩
     clear h
     rintro _ h T1 H1 hw
     replace h:M18 v_47 (M19 k_1 v_40 x_45 (M20 v_40 (M21 k_1 M22 n_41)) n_48) ()=some r_2:=h
     conv=>whnf
     refine Tr.weak hw ?_
     unfold M18 at h
     refine rg ?_
     conv=>whnf
     refine arS_raw ?_
     conv=>whnf
     refine ⟨((w64 (v_47+1))),h,?_⟩
     exact Wk.mk2 [0] 1 rfl rfl (by decide) rfl ⟨rr,trivial⟩ ⟨rr,rr,rr,rr,rr,rr,rr,rr,trivial⟩
    refine Tr.exit ?_
    conv=>whnf
    refine ⟨(),h,?_⟩
    exact Wk.mk2 [0] 1 rfl rfl (by decide) rfl ⟨rr,trivial⟩ ⟨rr,rr,rr,rr,trivial⟩
   clear h
   rintro _ h T1 H1 hw
   replace h:M20 v_40 (M21 k_1 M22 n_41) ()=some r_2:=h
   conv=>whnf
   refine Tr.weak hw ?_
   unfold M20 at h
   refine rg ?_
   conv=>whnf
   refine arS_raw ?_
   conv=>whnf
   refine ⟨((w64 (v_40+1))),h,?_⟩
   exact Wk.mk2 [0] 1 rfl rfl (by decide) rfl ⟨rr,trivial⟩ ⟨rr,rr,rr,rr,trivial⟩
  refine Tr.exit ?_
  conv=>whnf
  refine ⟨(),h,?_⟩
  exact Wk.mk2 [] 1 rfl rfl (by decide) rfl trivial ⟨rr,trivial⟩
 clear h
 rintro _ h T1 H1 hw
 replace h:M22 ()=some r_2:=h
 conv=>whnf
 refine Tr.weak hw ?_
 unfold M22 at h
 refine sg ?_
 conv=>whnf
 refine Tr.ret ?_
 conv=>whnf
 cases h
 rfl
theorem P29 (slices_1:List (List TOutcome)) (r_2:List TOutcome) (h:M29 slices_1=some r_2) :
    PC prog 75 [(.ls (List.map (eL eTOutcome) slices_1))] (fun rs=>rs=[(.ls (List.map eTOutcome r_2))]):=by
 refine PC.of_tr (cx:=⟨36,none,lay,0⟩) layOK func75 rfl rfl rfl rfl rfl (by simp [f75]) ?_
 unfold M29 at h
 refine sg ?_
 conv=>whnf
 refine sg ?_
 conv=>whnf
 refine Tr.seq ?_
 refine sg ?_
 conv=>whnf
 refine lnS_map ?_
 conv=>whnf
 obtain ⟨size_8,hv14,h⟩:=bS h
 refine Tr.cutQ1 ([(0,.d (.ls (List.map (eL eTOutcome) slices_1))),(2,.nsl),(3,(dI size_8))]) ([]) ?_ (fun T1 H1 hw=>?_)
 ·replace h:=hv14; clear hv14
  refine Tr.block ?_
  refine Tr.loopM (σ:=Int × Int) (fun n s=>M26 slices_1 n s.1 s.2) size_8 (fun s=>([(0,.d (.ls (List.map (eL eTOutcome) slices_1))),(2,.nsl),(3,(dI s.1)),(9,.d (.ls (List.map (eL eTOutcome) slices_1))),(10,(dI (((slices_1).length:Int)))),(11,(dI s.2))],[])) (((((slices_1).length:Int)) - 0:Int).toNat+1) (0,0) h (fun s=>rfl) (Wk.mk2 [] 0 rfl rfl (by decide) rfl trivial ⟨rr,rr,rr,rr,rr,rr,trivial⟩) ?_
  clear h
  rintro n_7 ⟨size_5,v_6⟩ h
  replace h:M26 slices_1 (n_7+1) size_5 v_6=some size_8:=h
  rw [M26] at h
  refine sg ?_
  conv=>whnf
  refine Tr.seq ?_
  refine Tr.cond ?_
  conv=>whnf
  refine cB h (fun hb11 h=>?_) (fun hb11 h=>?_)
  ·refine Tr.skip ?_
   conv=>whnf
   refine Tr.seq ?_
   refine Tr.block ?_
   refine sg ?_
   conv=>whnf
   obtain ⟨x_12,hx_12,h⟩:=bS h
   refine ixP_of hx_12 ?_
   conv=>whnf
   refine sg ?_
   conv=>whnf
   refine lnS_map ?_
   conv=>whnf
   refine arS_raw ?_
   conv=>whnf
   refine sg ?_
   conv=>whnf
   refine Tr.cond ?_
   conv=>whnf
   refine cB h (fun hb13 h=>?_) (fun hb13 h=>?_)
   ·refine rg ?_
    conv=>whnf
    cases h
   refine Tr.skip ?_
   conv=>whnf
   refine rg ?_
   conv=>whnf
   refine arS_raw ?_
   conv=>whnf
   refine ⟨((w64 (size_5+(((x_12).length:Int)))),(w64 (v_6+1))),h,?_⟩
   exact Wk.mk2 [] 0 rfl rfl (by decide) rfl trivial ⟨rr,rr,rr,rr,rr,rr,trivial⟩
  refine Tr.exit ?_
  conv=>whnf
  cases h
  exact Wk.mk2 [] 0 rfl rfl (by decide) rfl trivial ⟨rr,rr,rr,trivial⟩
 clear hv14
 conv=>whnf
 refine Tr.weak hw ?_
 refine sg ?_
 conv=>whnf
 refine ECall.of_tr (cx:=⟨27,none,lay,0⟩) layOK func87 rfl rfl rfl rfl rfl (by simp [f87]) ?_
 refine sg ?_
 conv=>whnf
 refine Tr.seq ?_
 refine sg ?_
 conv=>whnf
 refine Tr.cond ?_
 conv=>whnf
 refine cB h (fun hb15 h=>?_) (fun hb15 h=>?_)
 ·refine rg ?_
  conv=>whnf
  cases h
 refine Tr.skip ?_
 conv=>whnf
 refine Tr.seq ?_
 refine sg ?_
 conv=>whnf
 refine arS_raw ?_
 conv=>whnf
 refine arS_raw ?_
 conv=>whnf
 refine sg ?_
 conv=>whnf
 refine Tr.cond ?_
 conv=>whnf
 refine cB h (fun hb16 h=>?_) (fun hb16 h=>?_)
 ·refine rg ?_
  conv=>whnf
  refine slS_mk 0 0 rfl rfl (by first | decide | exact Nat.le_of_ble_eq_true rfl) (by first | decide | exact Nat.le_of_ble_eq_true rfl) ?_
  conv=>whnf
  obtain ⟨n_17,hn_17,h⟩:=bS h
  refine azS_of hn_17 ?_
  conv=>whnf
  refine rS (es':=List.map .d (List.map eTOutcome (List.replicate n_17 ({ Out:=false,Seg:=0,Lo:=0,Hi:=0 }:TOutcome)))) (n':=List.length (List.replicate n_17 ({ Out:=false,Seg:=0,Lo:=0,Hi:=0 }:TOutcome))) (by simp only [List.map_replicate]; first | done | rfl) (by simp) ?_
  conv=>whnf
  obtain ⟨l_18,hl_18,h⟩:=bS h
  refine slS_to hl_18 rfl rfl (fun he=>?_)
  conv=>whnf
  refine orS_r ?_
  conv=>whnf
  refine rS (es':=List.map .d (List.map eTOutcome l_18)) (n':=List.length l_18) (by subst he; simp [List.map_take]) (by simp [slcTo_len hl_18]) ?_
  clear he
  conv=>whnf
  refine sg ?_
  conv=>whnf
  refine Tr.ret ?_
  conv=>whnf
  refine Tr.seq ?_
  refine sg ?_
  conv=>whnf
  refine lnS_map ?_
  conv=>whnf
  obtain ⟨l_24,hv30,h⟩:=bS h
  refine Tr.cutQ1 ([(2,.nsl),(6,.sl 0 4 0 (List.length l_24))]) ([some (.arr 4 (List.map .d (List.map eTOutcome l_24)))]) ?_ (fun T1 H1 hw=>?_)
  ·replace h:=hv30; clear hv30
   refine Tr.block ?_
   refine Tr.loopM (σ:=Int × List TOutcome) (fun n s=>M27 slices_1 n s.1 s.2) l_24 (fun s=>([(2,.nsl),(6,.sl 0 4 0 (List.length s.2)),(25,.d (.ls (List.map (eL eTOutcome) slices_1))),(26,(dI (((slices_1).length:Int)))),(27,(dI s.1))],[some (.arr 4 (List.map .d (List.map eTOutcome s.2)))])) (((((slices_1).length:Int)) - 0:Int).toNat+1) (0,l_18) h (fun s=>rfl) (Wk.mk2 [0] 1 rfl rfl (by decide) rfl ⟨daS_d rfl,trivial⟩ ⟨rr,rr,rr,rr,rr,trivial⟩) ?_
   clear h
   rintro n_23 ⟨v_21,l_22⟩ h
   replace h:M27 slices_1 (n_23+1) v_21 l_22=some l_24:=h
   rw [M27] at h
   refine sg ?_
   conv=>whnf
   refine Tr.seq ?_
   refine Tr.cond ?_
   conv=>whnf
   refine cB h (fun hb27 h=>?_) (fun hb27 h=>?_)
   ·refine Tr.skip ?_
    conv=>whnf
    refine Tr.seq ?_
    refine Tr.block ?_
    refine sg ?_
    conv=>whnf
    obtain ⟨x_28,hx_28,h⟩:=bS h
    refine ixP_of hx_28 ?_
    conv=>whnf
    refine rg ?_
    conv=>whnf
    refine frP_no ?_
    conv=>whnf
    refine eqS_mk (by first | rfl | simp) ?_
    conv=>whnf
    obtain ⟨l_29,hl_29,h⟩:=bS h
    refine apS_of hl_29 (aQ (f:=eTOutcome) (l:=x_28) fun _=>rfl) (by first | rfl | simp) (by first | rfl | simp) (fun he=>?_)
    conv=>whnf
    refine rS (es':=List.map .d (List.map eTOutcome l_29)) (n':=List.length l_29) (by subst he; simp only [List.map_append,List.map_cons,List.map_nil,List.nil_append]; first | done | rfl) (by subst he; simp <;> omega) ?_
    clear he
    conv=>whnf
    refine rg ?_
    conv=>whnf
    refine arS_raw ?_
    conv=>whnf
    refine ⟨((w64 (v_21+1)),l_29),h,?_⟩
    exact Wk.mk2 [1] 2 rfl rfl (by decide) rfl ⟨daS_d rfl,trivial⟩ ⟨rr,⟨rfl,(by first | rfl | (simp only [↓hb15,↓hb16,↓hb27,bl]; done) | (simp only [↓hb15,↓hb16,↓hb27,bl]; rfl))⟩,rr,rr,rr,trivial⟩
   refine Tr.exit ?_
   conv=>whnf
   cases h
   exact Wk.mk2 [0] 1 rfl rfl (by decide) rfl ⟨daS_d rfl,trivial⟩ ⟨rr,rr,trivial⟩
  clear hv30
  conv=>whnf
  refine Tr.weak hw ?_
  refine sg ?_
  conv=>whnf
  refine Tr.ret ?_
  conv=>whnf
  refine frE_of (f:=eTOutcome) (l:=l_24) rfl ?_
  conv=>whnf
  cases h
  rfl
 refine Tr.skip ?_
 conv=>whnf
 refine sg ?_
 conv=>whnf
 refine Tr.ret ?_
 conv=>whnf
 refine Tr.seq ?_
 refine sg ?_
 conv=>whnf
 refine lnS_map ?_
 conv=>whnf
 obtain ⟨l_36,hv42,h⟩:=bS h
 refine Tr.cutQ1 ([(2,.nsl),(6,.sl 0 4 0 (List.length l_36))]) ([some (.arr 4 (List.map .d (List.map eTOutcome l_36)))]) ?_ (fun T1 H1 hw=>?_)
 ·replace h:=hv42; clear hv42
  refine Tr.block ?_
  refine Tr.loopM (σ:=Int × List TOutcome) (fun n s=>M28 slices_1 n s.1 s.2) l_36 (fun s=>([(2,.nsl),(6,.sl 0 4 0 (List.length s.2)),(25,.d (.ls (List.map (eL eTOutcome) slices_1))),(26,(dI (((slices_1).length:Int)))),(27,(dI s.1))],[some (.arr 4 (List.map .d (List.map eTOutcome s.2)))])) (((((slices_1).length:Int)) - 0:Int).toNat+1) (0,(([]:List TOutcome))) h (fun s=>rfl) (Wk.mk2 [0] 0 rfl rfl (by decide) rfl ⟨rfl,trivial⟩ ⟨rr,⟨rfl,(by first | rfl | (simp only [↓hb15,↓hb16,bl]; done) | (simp only [↓hb15,↓hb16,bl]; rfl))⟩,rr,rr,rr,trivial⟩) ?_
  clear h
  rintro n_35 ⟨v_33,l_34⟩ h
  replace h:M28 slices_1 (n_35+1) v_33 l_34=some l_36:=h
  rw [M28] at h
  refine sg ?_
  conv=>whnf
  refine Tr.seq ?_
  refine Tr.cond ?_
  conv=>whnf
  refine cB h (fun hb39 h=>?_) (fun hb39 h=>?_)
  ·refine Tr.skip ?_
   conv=>whnf
   refine Tr.seq ?_
   refine Tr.block ?_
   refine sg ?_
   conv=>whnf
   obtain ⟨x_40,hx_40,h⟩:=bS h
   refine ixP_of hx_40 ?_
   conv=>whnf
   refine rg ?_
   conv=>whnf
   refine frP_no ?_
   conv=>whnf
   refine eqS_mk (by first | rfl | simp) ?_
   conv=>whnf
   obtain ⟨l_41,hl_41,h⟩:=bS h
   refine apS_of hl_41 (aQ (f:=eTOutcome) (l:=x_40) fun _=>rfl) (by first | rfl | simp) (by first | rfl | simp) (fun he=>?_)
   conv=>whnf
   refine rS (es':=List.map .d (List.map eTOutcome l_41)) (n':=List.length l_41) (by subst he; simp only [List.map_append,List.map_cons,List.map_nil,List.nil_append]; first | done | rfl) (by subst he; simp <;> omega) ?_
   clear he
   conv=>whnf
   refine rg ?_
   conv=>whnf
   refine arS_raw ?_
   conv=>whnf
   refine ⟨((w64 (v_33+1)),l_41),h,?_⟩
   exact Wk.mk2 [1] 2 rfl rfl (by decide) rfl ⟨daS_d rfl,trivial⟩ ⟨rr,⟨rfl,(by first | rfl | (simp only [↓hb15,↓hb16,↓hb39,bl]; done) | (simp only [↓hb15,↓hb16,↓hb39,bl]; rfl))⟩,rr,rr,rr,trivial⟩
  refine Tr.exit ?_
  conv=>whnf
  cases h
  exact Wk.mk2 [0] 1 rfl rfl (by decide) rfl ⟨daS_d rfl,trivial⟩ ⟨rr,rr,trivial⟩
 clear hv42
 conv=>whnf
 refine Tr.weak hw ?_
 refine sg ?_
 conv=>whnf
 refine Tr.ret ?_
 conv=>whnf
 refine frE_of (f:=eTOutcome) (l:=l_36) rfl ?_
 conv=>whnf
 cases h
 rfl
theorem P30 (r_1:TOutcome) (h:M30=some r_1) :
    PC prog 88 [] (fun rs=>rs=[(eTOutcome r_1)]):=by
 refine PC.of_tr (cx:=⟨2,none,lay,0⟩) layOK func88 rfl rfl rfl rfl rfl (by simp [f88]) ?_
 unfold M30 at h
 refine sg ?_
 conv=>whnf
 refine sg ?_
 conv=>whnf
 refine Tr.ret ?_
 conv=>whnf
 cases h
 rfl
theorem P31 (k_1:TClocks) (x_2:TOutcome) (r_3:Int) (h:M31 k_1 x_2=some r_3) :
    PC prog 76 [(eTClocks k_1),(eTOutcome x_2)] (fun rs=>rs=[(.i .i64 r_3)]):=by
 refine PC.of_tr (cx:=⟨47,none,lay,0⟩) layOK func76 rfl rfl rfl rfl rfl (by simp [f76]) ?_
 unfold M31 at h
 refine sg ?_
 conv=>whnf
 refine Tr.seq ?_
 refine sg ?_
 conv=>whnf
 obtain ⟨r_4,hc5,h⟩:=bS h
 refine PC.ecall (P25 k_1 r_4 hc5) (fun rs hrs=>?_)
 subst hrs
 conv=>whnf
 refine sg ?_
 conv=>whnf
 refine Tr.cond ?_
 conv=>whnf
 refine cB h (fun hb6 h=>?_) (fun hb6 h=>?_)
 ·refine sg ?_
  conv=>whnf
  refine Tr.ret ?_
  conv=>whnf
  cases h
  rfl
 refine Tr.skip ?_
 conv=>whnf
 refine Tr.seq ?_
 refine Tr.cutQ1 ([(3,.pt 0 0),(4,(dI 0)),(6,.d (.b ((decide (x_2.Seg≥(-1))) && ((decide (x_2.Seg < (((k_1.Segments).length:Int)))) && ((decide (x_2.Lo≥(-288230376151711744))) && ((decide (x_2.Lo≤x_2.Hi)) && (decide (x_2.Hi≤288230376151711744))))))))]) ([some (.var [.d (.b x_2.Out),(dI x_2.Seg),(dI x_2.Lo),(dI x_2.Hi)])]) ?_ (fun T1 H1 hw=>?_)
 ·refine rg ?_
  conv=>whnf
  refine condS_mk (fun hb8=>?_) (fun hb8=>?_)
  ·conv=>whnf
   refine lnS_map ?_
   conv=>whnf
   refine condS_mk (fun hb9=>?_) (fun hb9=>?_)
   ·conv=>whnf
    refine condS_mk (fun hb10=>?_) (fun hb10=>?_)
    ·conv=>whnf
     refine condS_mk (fun hb11=>?_) (fun hb11=>?_)
     ·conv=>whnf
      exact Wk.mk2 [1] 2 rfl rfl (by decide) rfl ⟨rr,trivial⟩ ⟨⟨rfl,(by first | rfl | (simp only [↓hb6,↓hb8,↓hb9,↓hb10,↓hb11,bl]; done) | (simp only [↓hb6,↓hb8,↓hb9,↓hb10,↓hb11,bl]; rfl))⟩,rr,⟨rfl,(by first | rfl | (simp only [↓hb6,↓hb8,↓hb9,↓hb10,↓hb11,bl]; done) | (simp only [↓hb6,↓hb8,↓hb9,↓hb10,↓hb11,bl]; rfl))⟩,trivial⟩
     conv=>whnf
     exact Wk.mk2 [1] 2 rfl rfl (by decide) rfl ⟨rr,trivial⟩ ⟨⟨rfl,(by first | rfl | (simp only [↓hb6,↓hb8,↓hb9,↓hb10,↓hb11,bl]; done) | (simp only [↓hb6,↓hb8,↓hb9,↓hb10,↓hb11,bl]; rfl))⟩,rr,⟨rfl,(by first | rfl | (simp only [↓hb6,↓hb8,↓hb9,↓hb10,↓hb11,bl]; done) | (simp only [↓hb6,↓hb8,↓hb9,↓hb10,↓hb11,bl]; rfl))⟩,trivial⟩
    conv=>whnf
    exact Wk.mk2 [1] 2 rfl rfl (by decide) rfl ⟨rr,trivial⟩ ⟨⟨rfl,(by first | rfl | (simp only [↓hb6,↓hb8,↓hb9,↓hb10,bl]; done) | (simp only [↓hb6,↓hb8,↓hb9,↓hb10,bl]; rfl))⟩,rr,⟨rfl,(by first | rfl | (simp only [↓hb6,↓hb8,↓hb9,↓hb10,bl]; done) | (simp only [↓hb6,↓hb8,↓hb9,↓hb10,bl]; rfl))⟩,trivial⟩
   conv=>whnf
   exact Wk.mk2 [1] 2 rfl rfl (by decide) rfl ⟨rr,trivial⟩ ⟨⟨rfl,(by first | rfl | (simp only [↓hb6,↓hb8,↓hb9,bl]; done) | (simp only [↓hb6,↓hb8,↓hb9,bl]; rfl))⟩,rr,⟨rfl,(by first | rfl | (simp only [↓hb6,↓hb8,↓hb9,bl]; done) | (simp only [↓hb6,↓hb8,↓hb9,bl]; rfl))⟩,trivial⟩
  conv=>whnf
  exact Wk.mk2 [1] 2 rfl rfl (by decide) rfl ⟨rr,trivial⟩ ⟨⟨rfl,(by first | rfl | (simp only [↓hb6,↓hb8,bl]; done) | (simp only [↓hb6,↓hb8,bl]; rfl))⟩,rr,⟨rfl,(by first | rfl | (simp only [↓hb6,↓hb8,bl]; done) | (simp only [↓hb6,↓hb8,bl]; rfl))⟩,trivial⟩
 conv=>whnf
 refine Tr.weak hw ?_
 refine Tr.seq ?_
 refine sg ?_
 conv=>whnf
 refine Tr.cond ?_
 conv=>whnf
 refine cB h (fun hb12 h=>?_) (fun hb12 h=>?_)
 ·refine dq [] [(0,3),(1,1),(2,1),(3,1)] ?_
  conv=>whnf
  refine q2 ?_
  conv=>whnf
  obtain ⟨r_13,hc14,h⟩:=bS h
  refine q1 ?_ (fun _=>pe (P30 r_13 hc14) rr)
  conv=>whnf
  refine q1 ?_
  conv=>whnf
  refine q1 ?_
  conv=>whnf
  refine Tr.seq ?_
  refine sg ?_
  conv=>whnf
  refine Tr.cond ?_
  conv=>whnf
  refine cB h (fun hb15 h=>?_) (fun hb15 h=>?_)
  ·refine sg ?_
   conv=>whnf
   refine Tr.ret ?_
   conv=>whnf
   cases h
   rfl
  refine Tr.skip ?_
  conv=>whnf
  refine sg ?_
  conv=>whnf
  refine Tr.ret ?_
  conv=>whnf
  cases h
  rfl
 refine Tr.skip ?_
 conv=>whnf
 refine Tr.seq ?_
 refine sg ?_
 conv=>whnf
 refine Tr.cond ?_
 conv=>whnf
 refine cB h (fun hb16 h=>?_) (fun hb16 h=>?_)
 ·refine sg ?_
  conv=>whnf
  refine Tr.ret ?_
  conv=>whnf
  cases h
  rfl
 refine Tr.skip ?_
 conv=>whnf
 refine sg ?_
 conv=>whnf
 refine Tr.ret ?_
 conv=>whnf
 cases h
 rfl
end Go.Proofs.Try
