/- Contracts of functions, by program (gen.py). No condition. -/
import Derived.Test.YtcmhnjhpnijpbaaZL
import Derived.Test.YtcmhnjhpnijpbaaZM
import Derived.Test.YtcmhnjhpnijpbaaZCB
import Derived.Test.YtcmhnjhpnijpbaaZS4
namespace Go.Proofs.Try
open Go Go.Abs Go.Stop
set_option maxRecDepth 8000
set_option linter.unusedVariables false
set_option linter.unusedSimpArgs false
theorem P108 (f_1 : TField) (runner_2 : Int) (r_3 : TRank) (h : M108 f_1 runner_2 = some r_3) :
    PC prog 43 [(eTField f_1), (.i .i64 runner_2)] (fun rs => rs = [(eTRank r_3)]) := by
 refine PC.of_tr (cx := ⟨72, none, lay, 0⟩) layOK func43 rfl rfl rfl rfl rfl (by simp [f43]) ?_
 unfold M108 at h
 refine sg ?_
 conv=>whnf
 refine sg ?_
 conv=>whnf
 obtain ⟨x_4, hx_4, h⟩ := bS h
 refine ixP_of hx_4 ?_
 conv=>whnf
 refine Tr.seq ?_
 refine sg ?_
 conv=>whnf
 obtain ⟨⟨c_5, c_6, c_7, c_8⟩, hc9, h⟩ := bS h
 refine PC.ecall (P66 f_1 c_5 c_6 c_7 c_8 hc9) (fun rs hrs => ?_)
 subst hrs
 conv=>whnf
 obtain ⟨l_10, hl11, h⟩ := bS h
 obtain ⟨v_21, hv33, h⟩ := bS h
 refine Tr.block ?_
 refine Tr.rangeM layOK rfl (ge := fun a => [(.i .i64 a)]) rfl (P74 c_5 c_6 c_7 c_8 l_10 hl11) (fun _ => rfl) rfl (fun s => [some (.var [.d (.ls (List.map eTSegment f_1.Clocks.Segments)), .d (.ls (List.map (eL eI) f_1.Clocks.Far)), .d (.ls (List.map eTPair f_1.Pairs)), .d (.ls (List.map eTRunner f_1.Runners))]), some (.var [(dI runner_2)]), some (.var [(dI 0), (dI 0), (dI 0), (dI 0), .d (.b false)]), some (.var [(dI x_4.Bib), (dI 3), (dI 0), (dI 0), .d (.b s)])]) (M107 f_1 runner_2) (false) v_21 hv33 (Wk.mk2 [0, 1, 2, 3] 4 rfl rfl (by decide) rfl ⟨⟨rfl, rfl⟩, ⟨rfl, rfl⟩, ⟨rfl, rfl⟩, ⟨rfl, rfl⟩, trivial⟩ trivial) ?_ ?_
 ·clear h hv33
  rintro li y_12 v_14 s_15 ha h
  replace h : (M107 f_1 runner_2) y_12 v_14 = some s_15 := h
  unfold M107 at h
  dsimp only at h
  conv=>whnf
  refine Tr.block ?_
  refine rg ?_
  conv=>whnf
  refine cB h (fun hb16 h => ?_) (fun hb16 h => ?_)
  ·conv=>whnf
   cases h
   exact Wk.mk2 [0, 1, 2, 3] 4 rfl rfl (by decide) rfl ⟨rr, rr, rr, rr, trivial⟩ trivial
  conv=>whnf
  obtain ⟨x_17, hx_17, h⟩ := bS h
  refine ixP_of hx_17 ?_
  conv=>whnf
  obtain ⟨x_18, hx_18, h⟩ := bS h
  refine ixP_of hx_18 ?_
  conv=>whnf
  obtain ⟨r_19, hc20, h⟩ := bS h
  refine PC.ecall (P79 x_18 r_19 hc20) (fun rs hrs => ?_)
  subst hrs
  conv=>whnf
  cases h
  exact Wk.mk2 [0, 1, 2, 3] 4 rfl rfl (by decide) rfl ⟨rr, rr, rr, rr, trivial⟩ trivial
 clear hv33
 conv=>whnf
 refine sd [(8,4)] [(0,1),(1,3),(2,4),(3,1),(4,1),(5,1),(6,1),(7,0),(8,0),(9,1)] ?_
 conv=>whnf
 obtain ⟨_, hc22, h⟩ := bS h
 refine q1 ?_ (fun _ => pe (P80  hc22) rr)
 conv=>whnf
 refine q2 ?_
 conv=>whnf
 refine q2 ?_
 conv=>whnf
 obtain ⟨⟨r_23, r_24⟩, hc25, h⟩ := bS h
 refine q1 ?_ (fun _ => pe (P95 f_1 runner_2 r_23 r_24 hc25) rr)
 conv=>whnf
 refine q1 ?_
 conv=>whnf
 refine q1 ?_
 conv=>whnf
 refine q1 ?_
 conv=>whnf
 refine ⟨_, _, rr, kp_ok (by repeat (first | exact trivial | refine ⟨trivial, ?_⟩ | refine ⟨rfl, ?_⟩)), ?_⟩
 conv=>whnf
 refine ⟨_, _, rr, kp_ok (by repeat (first | exact trivial | refine ⟨trivial, ?_⟩ | refine ⟨rfl, ?_⟩)), ?_⟩
 conv=>whnf
 refine q1 ?_
 conv=>whnf
 refine Tr.seq ?_
 refine sg ?_
 conv=>whnf
 refine Tr.cond ?_
 conv=>whnf
 refine cB h (fun hb26 h => ?_) (fun hb26 h => ?_)
 ·refine sg ?_
  conv=>whnf
  refine Tr.ret ?_
  conv=>whnf
  cases h
  rfl
 refine Tr.skip ?_
 conv=>whnf
 refine sd [(8,5)] [(0,1),(1,3),(2,4),(3,1),(4,1),(5,1),(6,1),(7,0),(8,0),(9,1)] ?_
 conv=>whnf
 obtain ⟨_, hc27, h⟩ := bS h
 refine q1 ?_ (fun _ => pe (P96  hc27) rr)
 conv=>whnf
 refine q2 ?_
 conv=>whnf
 refine q2 ?_
 conv=>whnf
 obtain ⟨⟨r_28, r_29⟩, hc30, h⟩ := bS h
 refine q1 ?_ (fun _ => pe (P106 f_1 runner_2 r_28 r_29 hc30) rr)
 conv=>whnf
 refine q1 ?_
 conv=>whnf
 refine q1 ?_
 conv=>whnf
 refine q1 ?_
 conv=>whnf
 refine ⟨_, _, rr, kp_ok (by repeat (first | exact trivial | refine ⟨trivial, ?_⟩ | refine ⟨rfl, ?_⟩)), ?_⟩
 conv=>whnf
 refine ⟨_, _, rr, kp_ok (by repeat (first | exact trivial | refine ⟨trivial, ?_⟩ | refine ⟨rfl, ?_⟩)), ?_⟩
 conv=>whnf
 refine q1 ?_
 conv=>whnf
 refine sd [(5,3),(7,3),(9,3)] [(0,7),(1,7),(2,8),(3,8),(4,6),(5,0),(6,6),(7,0),(8,6),(9,0)] ?_
 conv=>whnf
 refine q2 ?_
 conv=>whnf
 refine q2 ?_
 conv=>whnf
 refine q2 ?_
 conv=>whnf
 refine q2 ?_
 conv=>whnf
 refine q2 ?_
 conv=>whnf
 refine ⟨_, _, rr, kp_ok (by repeat (first | exact trivial | refine ⟨trivial, ?_⟩ | refine ⟨rfl, ?_⟩)), ?_⟩
 conv=>whnf
 refine q2 ?_
 conv=>whnf
 refine ⟨_, _, rr, kp_ok (by repeat (first | exact trivial | refine ⟨trivial, ?_⟩ | refine ⟨rfl, ?_⟩)), ?_⟩
 conv=>whnf
 refine q2 ?_
 conv=>whnf
 refine ⟨_, _, rr, kp_ok (by repeat (first | exact trivial | refine ⟨trivial, ?_⟩ | refine ⟨rfl, ?_⟩)), ?_⟩
 conv=>whnf
 refine Tr.seq ?_
 refine sg ?_
 conv=>whnf
 refine cB h (fun hb31 h => ?_) (fun hb31 h => ?_)
 ·conv=>whnf
  refine Tr.cond ?_
  conv=>whnf
  refine cB h (fun hb32 h => ?_) (fun hb32 h => ?_)
  ·refine rg ?_
   conv=>whnf
   refine sg ?_
   conv=>whnf
   refine Tr.ret ?_
   conv=>whnf
   cases h
   rfl
  refine Tr.skip ?_
  conv=>whnf
  refine sg ?_
  conv=>whnf
  refine Tr.ret ?_
  conv=>whnf
  cases h
  rfl
 conv=>whnf
 refine Tr.cond ?_
 conv=>whnf
 refine Tr.skip ?_
 conv=>whnf
 refine sg ?_
 conv=>whnf
 refine Tr.ret ?_
 conv=>whnf
 cases h
 rfl
theorem P109 (f_1 : TField) (runner_2 : Int) (r_3 : TRank) (r_4 : Int) (h : M109 f_1 runner_2 = some (r_3, r_4)) :
    PC prog 22 [(eTField f_1), (.i .i64 runner_2)] (fun rs => rs = [(eTRank r_3), (.i .i64 r_4)]) := by
 refine PC.of_tr (cx := ⟨18, none, lay, 0⟩) layOK func22 rfl rfl rfl rfl rfl (by simp [f22]) ?_
 unfold M109 at h
 refine sg ?_
 conv=>whnf
 refine Tr.seq ?_
 refine sg ?_
 conv=>whnf
 refine orB_r ?_
 conv=>whnf
 obtain ⟨r_5, hc6, h⟩ := bS h
 refine PC.ecall (P65 f_1 ((([runner_2] : List Int))) r_5 hc6) (fun rs hrs => ?_)
 subst hrs
 conv=>whnf
 refine sg ?_
 conv=>whnf
 refine Tr.cond ?_
 conv=>whnf
 refine cB h (fun hb7 h => ?_) (fun hb7 h => ?_)
 ·refine sg ?_
  conv=>whnf
  refine Tr.ret ?_
  conv=>whnf
  cases h
  rfl
 refine Tr.skip ?_
 conv=>whnf
 refine sg ?_
 conv=>whnf
 obtain ⟨r_8, hc9, h⟩ := bS h
 refine PC.ecall (P108 f_1 runner_2 r_8 hc9) (fun rs hrs => ?_)
 subst hrs
 conv=>whnf
 refine Tr.ret ?_
 conv=>whnf
 cases h
 rfl
theorem P110 (s_1 : Tadvice_state) (r_2 : Bool) (h : M110 s_1 = some r_2) :
    PC prog 32 [(eTadvice_state s_1)] (fun rs => rs = [(.b r_2)]) := by
 refine PC.of_tr (cx := ⟨22, none, lay, 0⟩) layOK func32 rfl rfl rfl rfl rfl (by simp [f32]) ?_
 unfold M110 at h
 refine sg ?_
 conv=>whnf
 refine sg ?_
 conv=>whnf
 obtain ⟨⟨r_3, r_4⟩, hc5, h⟩ := bS h
 refine PC.ecall (P109 s_1.q.Field s_1.q.Runner r_3 r_4 hc5) (fun rs hrs => ?_)
 subst hrs
 conv=>whnf
 refine sg ?_
 conv=>whnf
 refine cB h (fun hb6 h => ?_) (fun hb6 h => ?_)
 ·conv=>whnf
  refine Tr.ret ?_
  conv=>whnf
  cases h
  rfl
 conv=>whnf
 refine Tr.ret ?_
 conv=>whnf
 cases h
 rfl
theorem P111 (s_1 : List Bool) (r_2 : List Bool) (h : M111 s_1 = some r_2) :
    PC prog 57 [(.ls (List.map eB s_1))] (fun rs => rs = [(.ls (List.map eB r_2))]) := by
 refine PC.of_tr (cx := ⟨8, none, lay, 0⟩) layOK func57 rfl rfl rfl rfl rfl (by simp [f57]) ?_
 unfold M111 at h
 refine sg ?_
 conv=>whnf
 refine Tr.seq ?_
 refine sg ?_
 conv=>whnf
 intro nb_3 hnb_3
 cases nb_3
 ·conv=>whnf
  refine Tr.cond ?_
  conv=>whnf
  refine Tr.skip ?_
  conv=>whnf
  refine sg ?_
  conv=>whnf
  refine orB_l ?_
  conv=>whnf
  refine frP_no ?_
  conv=>whnf
  refine eqS_mk (by first | rfl | simp) ?_
  conv=>whnf
  obtain ⟨l_4, hl_4, h⟩ := bS h
  refine apS_of hl_4 (aQ (f := eB) (l := s_1) fun _ => rfl) (by first | rfl | simp) (by first | rfl | simp) (fun he => ?_)
  conv=>whnf
  refine rS (es' := List.map .d (List.map eB l_4)) (n' := List.length l_4) (by subst he; simp only [List.map_append, List.map_cons, List.map_nil, List.nil_append]; first | done | rfl) (by subst he; simp <;> omega) ?_
  clear he
  conv=>whnf
  refine Tr.ret ?_
  conv=>whnf
  refine frE_of (f := eB) (l := l_4) rfl ?_
  conv=>whnf
  cases h
  rfl
 replace hnb_3 : s_1 = [] := by simpa using hnb_3 rfl
 subst hnb_3
 replace h : (some (([] : List Bool))) = some r_2 := by simpa [app] using h
 conv=>whnf
 refine Tr.cond ?_
 conv=>whnf
 refine sg ?_
 conv=>whnf
 refine Tr.ret ?_
 conv=>whnf
 cases h
 rfl
theorem n_slices_Clone_bool_bool (s_1 : List Bool) (r_2 : List Bool) (h : M111 s_1 = some r_2) :
    NC prog 57 [(.ls (List.map eB s_1))] 1 (fun es => es = List.map eB r_2) := by
 unfold NC
 refine ECall.of_tr (cx := ⟨8, none, lay, 0⟩) layOK func57 rfl rfl rfl rfl rfl (by simp [f57]) ?_
 unfold M111 at h
 refine sg ?_
 conv=>whnf
 refine Tr.seq ?_
 refine sg ?_
 conv=>whnf
 intro nb_3 hnb_3
 cases nb_3
 ·conv=>whnf
  refine Tr.cond ?_
  conv=>whnf
  refine Tr.skip ?_
  conv=>whnf
  refine sg ?_
  conv=>whnf
  refine orB_l ?_
  conv=>whnf
  refine frP_no ?_
  conv=>whnf
  refine eqS_mk (by first | rfl | simp) ?_
  conv=>whnf
  obtain ⟨l_4, hl_4, h⟩ := bS h
  refine apS_of hl_4 (aQ (f := eB) (l := s_1) fun _ => rfl) (by first | rfl | simp) (by first | rfl | simp) (fun he => ?_)
  conv=>whnf
  refine rS (es' := List.map .d (List.map eB l_4)) (n' := List.length l_4) (by subst he; simp only [List.map_append, List.map_cons, List.map_nil, List.nil_append]; first | done | rfl) (by subst he; simp <;> omega) ?_
  clear he
  conv=>whnf
  refine Tr.ret ?_
  conv=>whnf
  cases h
  exact ⟨1, List.map eB r_2, by rw [List.length_map]; rfl, rfl, rfl⟩
 replace hnb_3 : s_1 = [] := by simpa using hnb_3 rfl
 subst hnb_3
 replace h : (some (([] : List Bool))) = some r_2 := by simpa [app] using h
 conv=>whnf
 refine Tr.cond ?_
 conv=>whnf
 refine sg ?_
 conv=>whnf
 refine Tr.nslT 2 1 ?_
 conv=>whnf
 refine Tr.ret ?_
 conv=>whnf
 cases h
 exact ⟨_, [], rfl, rfl, rfl⟩
theorem P112 (s_1 : List TRunner) (r_2 : List TRunner) (h : M112 s_1 = some r_2) :
    PC prog 58 [(.ls (List.map eTRunner s_1))] (fun rs => rs = [(.ls (List.map eTRunner r_2))]) := by
 refine PC.of_tr (cx := ⟨8, none, lay, 0⟩) layOK func58 rfl rfl rfl rfl rfl (by simp [f58]) ?_
 unfold M112 at h
 refine sg ?_
 conv=>whnf
 refine Tr.seq ?_
 refine sg ?_
 conv=>whnf
 intro nb_3 hnb_3
 cases nb_3
 ·conv=>whnf
  refine Tr.cond ?_
  conv=>whnf
  refine Tr.skip ?_
  conv=>whnf
  refine sg ?_
  conv=>whnf
  refine orB_l ?_
  conv=>whnf
  refine frP_no ?_
  conv=>whnf
  refine eqS_mk (by first | rfl | simp) ?_
  conv=>whnf
  obtain ⟨l_4, hl_4, h⟩ := bS h
  refine apS_of hl_4 (aQ (f := eTRunner) (l := s_1) fun _ => rfl) (by first | rfl | simp) (by first | rfl | simp) (fun he => ?_)
  conv=>whnf
  refine rS (es' := List.map .d (List.map eTRunner l_4)) (n' := List.length l_4) (by subst he; simp only [List.map_append, List.map_cons, List.map_nil, List.nil_append]; first | done | rfl) (by subst he; simp <;> omega) ?_
  clear he
  conv=>whnf
  refine Tr.ret ?_
  conv=>whnf
  refine frE_of (f := eTRunner) (l := l_4) rfl ?_
  conv=>whnf
  cases h
  rfl
 replace hnb_3 : s_1 = [] := by simpa using hnb_3 rfl
 subst hnb_3
 replace h : (some (([] : List TRunner))) = some r_2 := by simpa [app] using h
 conv=>whnf
 refine Tr.cond ?_
 conv=>whnf
 refine sg ?_
 conv=>whnf
 refine Tr.ret ?_
 conv=>whnf
 cases h
 rfl
theorem n_slices_Clone_Runner_Runner (s_1 : List TRunner) (r_2 : List TRunner) (h : M112 s_1 = some r_2) :
    NC prog 58 [(.ls (List.map eTRunner s_1))] 3 (fun es => es = List.map eTRunner r_2) := by
 unfold NC
 refine ECall.of_tr (cx := ⟨8, none, lay, 0⟩) layOK func58 rfl rfl rfl rfl rfl (by simp [f58]) ?_
 unfold M112 at h
 refine sg ?_
 conv=>whnf
 refine Tr.seq ?_
 refine sg ?_
 conv=>whnf
 intro nb_3 hnb_3
 cases nb_3
 ·conv=>whnf
  refine Tr.cond ?_
  conv=>whnf
  refine Tr.skip ?_
  conv=>whnf
  refine sg ?_
  conv=>whnf
  refine orB_l ?_
  conv=>whnf
  refine frP_no ?_
  conv=>whnf
  refine eqS_mk (by first | rfl | simp) ?_
  conv=>whnf
  obtain ⟨l_4, hl_4, h⟩ := bS h
  refine apS_of hl_4 (aQ (f := eTRunner) (l := s_1) fun _ => rfl) (by first | rfl | simp) (by first | rfl | simp) (fun he => ?_)
  conv=>whnf
  refine rS (es' := List.map .d (List.map eTRunner l_4)) (n' := List.length l_4) (by subst he; simp only [List.map_append, List.map_cons, List.map_nil, List.nil_append]; first | done | rfl) (by subst he; simp <;> omega) ?_
  clear he
  conv=>whnf
  refine Tr.ret ?_
  conv=>whnf
  cases h
  exact ⟨1, List.map eTRunner r_2, by rw [List.length_map]; rfl, rfl, rfl⟩
 replace hnb_3 : s_1 = [] := by simpa using hnb_3 rfl
 subst hnb_3
 replace h : (some (([] : List TRunner))) = some r_2 := by simpa [app] using h
 conv=>whnf
 refine Tr.cond ?_
 conv=>whnf
 refine sg ?_
 conv=>whnf
 refine Tr.nslT 2 3 ?_
 conv=>whnf
 refine Tr.ret ?_
 conv=>whnf
 cases h
 exact ⟨_, [], rfl, rfl, rfl⟩
theorem P115 (s_1 : Tadvice_state) (look_2 : Int) (answer_3 : Int) (r_4 : Tadvice_state) (r_5 : Bool) (h : M115 s_1 look_2 answer_3 = some (r_4, r_5)) :
    PC prog 33 [(eTadvice_state s_1), (.i .i64 look_2), (.i .i64 answer_3)] (fun rs => rs = [(eTadvice_state r_4), (.b r_5)]) := by
 refine PC.of_tr (cx := ⟨107, none, lay, 0⟩) layOK func33 rfl rfl rfl rfl rfl (by simp [f33]) ?_
 unfold M115 at h
 refine sg ?_
 conv=>whnf
 refine sg ?_
 conv=>whnf
 obtain ⟨x_6, hx_6, h⟩ := bS h
 refine ixP_of hx_6 ?_
 conv=>whnf
 refine sg ?_
 conv=>whnf
 obtain ⟨x_7, hx_7, h⟩ := bS h
 refine ixP_of hx_7 ?_
 conv=>whnf
 refine sd [(6,1)] [(0,3),(1,3),(2,3),(3,3),(4,0),(5,1),(6,0)] ?_
 conv=>whnf
 refine q2 ?_
 conv=>whnf
 refine q2 ?_
 conv=>whnf
 refine q2 ?_
 conv=>whnf
 refine q2 ?_
 conv=>whnf
 obtain ⟨l_8, hl_8, h⟩ := bS h
 refine ⟨_, _, (by (conv=>whnf); (refine NC.ecall (n_slices_Clone_bool_bool s_1.used l_8 hl_8) (es' := List.map .d (List.map eB l_8)) (n' := List.length l_8) rfl (fun es he => by subst he; exact ⟨rfl, by simp⟩) ?_); (conv=>whnf); (exact rr)), kp_ok (by repeat (first | exact trivial | refine ⟨trivial, ?_⟩ | refine ⟨rfl, ?_⟩)), ?_⟩
 conv=>whnf
 refine q1 ?_
 conv=>whnf
 refine ⟨_, _, (by (conv=>whnf); (refine orB_l ?_); (conv=>whnf); (exact rr)), kp_ok (by repeat (first | exact trivial | refine ⟨trivial, ?_⟩ | refine ⟨rfl, ?_⟩)), ?_⟩
 conv=>whnf
 refine sg ?_
 conv=>whnf
 obtain ⟨x_9, hx_9, h⟩ := bS h
 refine ixS_of hx_9 rfl ?_
 conv=>whnf
 refine elP_of hx_9 ?_
 conv=>whnf
 refine lvS_mk (es' := List.map .d (List.map eB (List.set l_8 (Int.toNat look_2) true))) (by simp only [Nat.zero_add, List.map_set]; first | done | rfl) ?_
 conv=>whnf
 refine sg ?_
 conv=>whnf
 obtain ⟨l_10, hl_10, h⟩ := bS h
 refine NC.ecall (n_slices_Clone_Runner_Runner s_1.q.Field.Runners l_10 hl_10) (es' := List.map .d (List.map eTRunner l_10)) (n' := List.length l_10) rfl (fun es he => by subst he; exact ⟨rfl, by simp⟩) ?_
 conv=>whnf
 refine orB_l ?_
 conv=>whnf
 refine sg ?_
 conv=>whnf
 refine Tr.seq ?_
 refine sg ?_
 conv=>whnf
 obtain ⟨x_11, hx_11, h⟩ := bS h
 refine ixS_of hx_11 rfl ?_
 conv=>whnf
 refine elP_of hx_11 ?_
 conv=>whnf
 refine lnS_map ?_
 conv=>whnf
 obtain ⟨l_17, hv36, h⟩ := bS h
 refine Tr.cutQ1 ([(6, .pt 0 0), (7, .d (.b false)), (8, .pt 1 0), (10, .sl 2 1 0 (List.length l_17))]) ([some (.var [.d (.ls (List.map eTSegment s_1.q.Field.Clocks.Segments)), .d (.ls (List.map (eL eI) s_1.q.Field.Clocks.Far)), .d (.ls (List.map eTPair s_1.q.Field.Pairs)), .sl 3 3 0 (List.length l_10), (dI s_1.q.Runner), .d (.ls (List.map eTLook s_1.q.Looks)), .sl 4 1 0 (List.length (List.set l_8 (Int.toNat look_2) true))]), some (.var [(dI x_6.Runner), .d (.ls (List.map eTSpan x_6.Answers))]), some (.arr 1 (List.map .d (List.map (eL eTOutcome) l_17))), some (.arr 3 (List.map .d (List.map eTRunner l_10))), some (.arr 1 (List.map .d (List.map eB (List.set l_8 (Int.toNat look_2) true))))]) ?_ (fun T1 H1 hw => ?_)
 ·replace h := hv36; clear hv36
  refine Tr.block ?_
  refine Tr.loopM (σ := Int × List (List TOutcome)) (fun n s => M114 x_7 x_11 n s.1 s.2) l_17 (fun s => ([(6, .pt 0 0), (7, .d (.b false)), (8, .pt 1 0), (9, .pt 2 0), (10, .sl 3 1 0 (List.length s.2)), (53, .d (.ls (List.map (eL eTOutcome) x_11.Worlds))), (54, (dI (((x_11.Worlds).length : Int)))), (55, (dI s.1))], [some (.var [.d (.ls (List.map eTSegment s_1.q.Field.Clocks.Segments)), .d (.ls (List.map (eL eI) s_1.q.Field.Clocks.Far)), .d (.ls (List.map eTPair s_1.q.Field.Pairs)), .sl 4 3 0 (List.length l_10), (dI s_1.q.Runner), .d (.ls (List.map eTLook s_1.q.Looks)), .sl 5 1 0 (List.length (List.set l_8 (Int.toNat look_2) true))]), some (.var [(dI x_6.Runner), .d (.ls (List.map eTSpan x_6.Answers))]), some (.var [(dI x_7.Lo), (dI x_7.Hi)]), some (.arr 1 (List.map .d (List.map (eL eTOutcome) s.2))), some (.arr 3 (List.map .d (List.map eTRunner l_10))), some (.arr 1 (List.map .d (List.map eB (List.set l_8 (Int.toNat look_2) true))))])) (((((x_11.Worlds).length : Int)) - 0 : Int).toNat + 1) (0, (([] : List (List TOutcome)))) h (fun s => rfl) (Wk.mk2 [1, 2, 3, 6, 5, 4] 6 rfl rfl (by decide) rfl ⟨⟨rfl, (by first | rfl | (simp only [List.length_set]; rfl) | simp)⟩, rr, rr, rfl, daS_d rfl, daS_d rfl, trivial⟩ ⟨⟨rfl, (by first | rfl | (simp only [List.length_set]; rfl) | simp)⟩, rr, ⟨rfl, (by first | rfl | (simp only [List.length_set]; rfl) | simp)⟩, ⟨rfl, (by first | rfl | (simp only [List.length_set]; rfl) | simp)⟩, ⟨rfl, (by first | rfl | (simp only [List.length_set]; rfl) | simp)⟩, rr, rr, rr, trivial⟩) ?_
  clear h
  rintro n_16 ⟨v_14, l_15⟩ h
  replace h : M114 x_7 x_11 (n_16 + 1) v_14 l_15 = some l_17 := h
  rw [M114] at h
  refine sg ?_
  conv=>whnf
  refine Tr.seq ?_
  refine Tr.cond ?_
  conv=>whnf
  refine cB h (fun hb20 h => ?_) (fun hb20 h => ?_)
  ·refine Tr.skip ?_
   conv=>whnf
   refine Tr.seq ?_
   refine Tr.block ?_
   refine sg ?_
   conv=>whnf
   obtain ⟨x_21, hx_21, h⟩ := bS h
   refine ixP_of hx_21 ?_
   conv=>whnf
   refine sg ?_
   conv=>whnf
   refine Tr.seq ?_
   refine sg ?_
   conv=>whnf
   refine lnS_map ?_
   conv=>whnf
   obtain ⟨l_27, hv34, h⟩ := bS h
   refine Tr.cutQ1 ([(6, .pt 0 0), (7, .d (.b false)), (8, .pt 1 0), (9, .pt 2 0), (10, .sl 3 1 0 (List.length l_15)), (13, .sl 4 4 0 (List.length l_27)), (53, .d (.ls (List.map (eL eTOutcome) x_11.Worlds))), (54, (dI (((x_11.Worlds).length : Int)))), (55, (dI v_14))]) ([some (.var [.d (.ls (List.map eTSegment s_1.q.Field.Clocks.Segments)), .d (.ls (List.map (eL eI) s_1.q.Field.Clocks.Far)), .d (.ls (List.map eTPair s_1.q.Field.Pairs)), .sl 5 3 0 (List.length l_10), (dI s_1.q.Runner), .d (.ls (List.map eTLook s_1.q.Looks)), .sl 6 1 0 (List.length (List.set l_8 (Int.toNat look_2) true))]), some (.var [(dI x_6.Runner), .d (.ls (List.map eTSpan x_6.Answers))]), some (.var [(dI x_7.Lo), (dI x_7.Hi)]), some (.arr 1 (List.map .d (List.map (eL eTOutcome) l_15))), some (.arr 4 (List.map .d (List.map eTOutcome l_27))), some (.arr 3 (List.map .d (List.map eTRunner l_10))), some (.arr 1 (List.map .d (List.map eB (List.set l_8 (Int.toNat look_2) true))))]) ?_ (fun T1 H1 hw => ?_)
   ·replace h := hv34; clear hv34
    refine Tr.block ?_
    refine Tr.loopM (σ := Int × List TOutcome) (fun n s => M113 x_7 x_21 n s.1 s.2) l_27 (fun s => ([(6, .pt 0 0), (7, .d (.b false)), (8, .pt 1 0), (9, .pt 2 0), (10, .sl 3 1 0 (List.length l_15)), (13, .sl 4 4 0 (List.length s.2)), (53, .d (.ls (List.map (eL eTOutcome) x_11.Worlds))), (54, (dI (((x_11.Worlds).length : Int)))), (55, (dI v_14)), (59, .d (.ls (List.map eTOutcome x_21))), (60, (dI (((x_21).length : Int)))), (61, (dI s.1))], [some (.var [.d (.ls (List.map eTSegment s_1.q.Field.Clocks.Segments)), .d (.ls (List.map (eL eI) s_1.q.Field.Clocks.Far)), .d (.ls (List.map eTPair s_1.q.Field.Pairs)), .sl 5 3 0 (List.length l_10), (dI s_1.q.Runner), .d (.ls (List.map eTLook s_1.q.Looks)), .sl 6 1 0 (List.length (List.set l_8 (Int.toNat look_2) true))]), some (.var [(dI x_6.Runner), .d (.ls (List.map eTSpan x_6.Answers))]), some (.var [(dI x_7.Lo), (dI x_7.Hi)]), some (.arr 1 (List.map .d (List.map (eL eTOutcome) l_15))), some (.arr 4 (List.map .d (List.map eTOutcome s.2))), some (.arr 3 (List.map .d (List.map eTRunner l_10))), some (.arr 1 (List.map .d (List.map eB (List.set l_8 (Int.toNat look_2) true))))])) (((((x_21).length : Int)) - 0 : Int).toNat + 1) (0, (([] : List TOutcome))) h (fun s => rfl) (Wk.mk2 [0, 1, 2, 3, 6, 4, 5] 6 rfl rfl (by decide) rfl ⟨⟨rfl, (by first | rfl | (simp only [↓hb20, bl, List.length_set]; done) | (simp only [↓hb20, bl, List.length_set]; rfl))⟩, rr, rr, daS_d rfl, rfl, daS_d rfl, daS_d rfl, trivial⟩ ⟨rr, rr, rr, rr, rr, ⟨rfl, (by first | rfl | (simp only [↓hb20, bl, List.length_set]; done) | (simp only [↓hb20, bl, List.length_set]; rfl))⟩, rr, rr, rr, rr, rr, rr, trivial⟩) ?_
    clear h
    rintro n_26 ⟨v_24, l_25⟩ h
    replace h : M113 x_7 x_21 (n_26 + 1) v_24 l_25 = some l_27 := h
    rw [M113] at h
    refine sg ?_
    conv=>whnf
    refine Tr.seq ?_
    refine Tr.cond ?_
    conv=>whnf
    refine cB h (fun hb30 h => ?_) (fun hb30 h => ?_)
    ·refine Tr.skip ?_
     conv=>whnf
     refine Tr.seq ?_
     refine Tr.block ?_
     refine sg ?_
     conv=>whnf
     obtain ⟨x_31, hx_31, h⟩ := bS h
     refine ixP_of hx_31 ?_
     conv=>whnf
     refine sd [(11,7),(13,7)] [(0,10),(1,10),(2,5),(3,5),(4,1),(5,10),(6,10),(7,5),(8,5),(9,1),(10,10),(11,0),(12,10),(13,0)] ?_
     conv=>whnf
     refine q2 ?_
     conv=>whnf
     refine q2 ?_
     conv=>whnf
     refine q2 ?_
     conv=>whnf
     refine q2 ?_
     conv=>whnf
     refine q1 ?_
     conv=>whnf
     refine q2 ?_
     conv=>whnf
     refine q2 ?_
     conv=>whnf
     refine q2 ?_
     conv=>whnf
     refine q2 ?_
     conv=>whnf
     refine q1 ?_
     conv=>whnf
     refine q2 ?_
     conv=>whnf
     refine ⟨_, _, rr, kp_ok (by repeat (first | exact trivial | refine ⟨trivial, ?_⟩ | refine ⟨rfl, ?_⟩)), ?_⟩
     conv=>whnf
     refine q2 ?_
     conv=>whnf
     refine ⟨_, _, rr, kp_ok (by repeat (first | exact trivial | refine ⟨trivial, ?_⟩ | refine ⟨rfl, ?_⟩)), ?_⟩
     conv=>whnf
     refine sg ?_
     conv=>whnf
     refine Tr.cond ?_
     conv=>whnf
     refine cB h (fun hb32 h => ?_) (fun hb32 h => ?_)
     ·refine rg ?_
      conv=>whnf
      refine orB_r ?_
      conv=>whnf
      refine frP_no ?_
      conv=>whnf
      refine eqS_mk (by first | rfl | simp) ?_
      conv=>whnf
      obtain ⟨l_33, hl_33, h⟩ := bS h
      refine apS_of hl_33 (aQ (f := eTOutcome) (l := (([({ Out := x_31.Out, Seg := x_31.Seg, Lo := (maxG x_31.Lo x_7.Lo), Hi := (minG x_31.Hi x_7.Hi) } : TOutcome)] : List TOutcome))) fun _ => rfl) (by first | rfl | simp) (by first | rfl | simp) (fun he => ?_)
      conv=>whnf
      refine rS (es' := List.map .d (List.map eTOutcome l_33)) (n' := List.length l_33) (by subst he; simp only [List.map_append, List.map_cons, List.map_nil, List.nil_append]; first | done | rfl) (by subst he; simp <;> omega) ?_
      clear he
      conv=>whnf
      refine rg ?_
      conv=>whnf
      refine arS_raw ?_
      conv=>whnf
      refine ⟨((w64 (v_24 + 1)), l_33), h, ?_⟩
      exact Wk.mk2 [0, 1, 2, 3, 8, 5, 6] 9 rfl rfl (by decide) rfl ⟨rr, rr, rr, daS_d rfl, daS_d rfl, daS_d rfl, daS_d rfl, trivial⟩ ⟨rr, rr, rr, rr, rr, ⟨rfl, (by first | rfl | (simp only [↓hb20, ↓hb30, ↓hb32, bl, List.length_set]; done) | (simp only [↓hb20, ↓hb30, ↓hb32, bl, List.length_set]; rfl))⟩, rr, rr, rr, rr, rr, rr, trivial⟩
     refine Tr.skip ?_
     conv=>whnf
     refine rg ?_
     conv=>whnf
     refine arS_raw ?_
     conv=>whnf
     refine ⟨((w64 (v_24 + 1)), l_25), h, ?_⟩
     exact Wk.mk2 [0, 1, 2, 3, 4, 5, 6] 8 rfl rfl (by decide) rfl ⟨rr, rr, rr, daS_d rfl, daS_d rfl, daS_d rfl, daS_d rfl, trivial⟩ ⟨rr, rr, rr, rr, rr, rr, rr, rr, rr, rr, rr, rr, trivial⟩
    refine Tr.exit ?_
    conv=>whnf
    cases h
    exact Wk.mk2 [0, 1, 2, 3, 4, 5, 6] 7 rfl rfl (by decide) rfl ⟨rr, rr, rr, daS_d rfl, daS_d rfl, daS_d rfl, daS_d rfl, trivial⟩ ⟨rr, rr, rr, rr, rr, rr, rr, rr, rr, trivial⟩
   clear hv34
   conv=>whnf
   refine Tr.weak hw ?_
   refine rg ?_
   conv=>whnf
   refine orB_r ?_
   conv=>whnf
   refine frE_of (f := eTOutcome) (l := l_27) rfl ?_
   conv=>whnf
   refine frP_no ?_
   conv=>whnf
   refine eqS_mk (by first | rfl | simp) ?_
   conv=>whnf
   obtain ⟨l_35, hl_35, h⟩ := bS h
   refine apS_of hl_35 (aQ (f := (eL eTOutcome)) (l := (([l_27] : List (List TOutcome)))) fun _ => rfl) (by first | rfl | simp) (by first | rfl | simp) (fun he => ?_)
   conv=>whnf
   refine rS (es' := List.map .d (List.map (eL eTOutcome) l_35)) (n' := List.length l_35) (by subst he; simp only [List.map_append, List.map_cons, List.map_nil, List.nil_append]; first | done | rfl) (by subst he; simp <;> omega) ?_
   clear he
   conv=>whnf
   refine rg ?_
   conv=>whnf
   refine arS_raw ?_
   conv=>whnf
   refine ⟨((w64 (v_14 + 1)), l_35), h, ?_⟩
   exact Wk.mk2 [0, 1, 2, 7, 5, 6] 8 rfl rfl (by decide) rfl ⟨⟨rfl, (by first | rfl | (simp only [↓hb20, bl, List.length_set]; done) | (simp only [↓hb20, bl, List.length_set]; rfl))⟩, rr, rr, daS_d rfl, daS_d rfl, daS_d rfl, trivial⟩ ⟨rr, rr, rr, rr, ⟨rfl, (by first | rfl | (simp only [↓hb20, bl, List.length_set]; done) | (simp only [↓hb20, bl, List.length_set]; rfl))⟩, rr, rr, rr, trivial⟩
  refine Tr.exit ?_
  conv=>whnf
  cases h
  exact Wk.mk2 [0, 1, 3, 4, 5] 6 rfl rfl (by decide) rfl ⟨⟨rfl, (by first | rfl | (simp only [↓hb20, bl, List.length_set]; done) | (simp only [↓hb20, bl, List.length_set]; rfl))⟩, rr, daS_d rfl, daS_d rfl, daS_d rfl, trivial⟩ ⟨rr, rr, rr, ⟨rfl, (by first | rfl | (simp only [↓hb20, bl, List.length_set]; done) | (simp only [↓hb20, bl, List.length_set]; rfl))⟩, trivial⟩
 clear hv36
 conv=>whnf
 refine Tr.weak hw ?_
 refine sg ?_
 conv=>whnf
 obtain ⟨x_37, hx_37, h⟩ := bS h
 refine ixS_of hx_37 rfl ?_
 conv=>whnf
 refine orB_r ?_
 conv=>whnf
 refine frE_of (f := (eL eTOutcome)) (l := l_17) rfl ?_
 conv=>whnf
 refine elP_of hx_37 ?_
 conv=>whnf
 refine lvS_mk (es' := List.map .d (List.map eTRunner (List.set l_10 (Int.toNat x_6.Runner) ({ Bib := x_37.Bib, Keys := x_37.Keys, Worlds := l_17 } : TRunner)))) (by simp only [Nat.zero_add, List.map_set]; first | done | rfl) ?_
 conv=>whnf
 refine sd [(6,0)] [(0,3),(1,3),(2,3),(3,3),(4,0),(5,1),(6,0),(7,1)] ?_
 conv=>whnf
 refine q2 ?_
 conv=>whnf
 refine q2 ?_
 conv=>whnf
 refine q2 ?_
 conv=>whnf
 refine q2 ?_
 conv=>whnf
 obtain ⟨r_38, hc39, h⟩ := bS h
 refine ⟨_, _, (by (conv=>whnf); (refine PC.ecall_lend ?_ ⟨_, _, func45, rfl, rfl⟩); (conv=>whnf); (refine frE_of (f := eTRunner) (l := (List.set l_10 (Int.toNat x_6.Runner) ({ Bib := x_37.Bib, Keys := x_37.Keys, Worlds := l_17 } : TRunner))) (by first | rfl | simp) ?_); (conv=>whnf); (refine ⟨_, P48 (({ Clocks := s_1.q.Field.Clocks, Pairs := s_1.q.Field.Pairs, Runners := (List.set l_10 (Int.toNat x_6.Runner) ({ Bib := x_37.Bib, Keys := x_37.Keys, Worlds := l_17 } : TRunner)) } : TField)) r_38 hc39, fun rs hrs => ?_⟩); (subst hrs); (refine ⟨rfl, ?_⟩); (conv=>whnf); (exact rr)), kp_ok (by repeat (first | exact trivial | refine ⟨trivial, ?_⟩ | refine ⟨rfl, ?_⟩)), ?_⟩
 conv=>whnf
 refine q1 ?_
 conv=>whnf
 refine ⟨_, _, (by (conv=>whnf); (refine orB_l ?_); (conv=>whnf); (exact rr)), kp_ok (by repeat (first | exact trivial | refine ⟨trivial, ?_⟩ | refine ⟨rfl, ?_⟩)), ?_⟩
 conv=>whnf
 refine q1 ?_
 conv=>whnf
 refine Tr.ret ?_
 conv=>whnf
 refine frE_of (f := eTRunner) (l := (List.set l_10 (Int.toNat x_6.Runner) ({ Bib := x_37.Bib, Keys := x_37.Keys, Worlds := l_17 } : TRunner))) (by first | rfl | simp) ?_
 conv=>whnf
 refine frE_of (f := eB) (l := (List.set l_8 (Int.toNat look_2) true)) rfl ?_
 conv=>whnf
 cases h
 rfl
theorem P120 (rc_9027 : Tadvice_state → Int → Int → (List TSegment) → (List (List Int)) → (List TPair) → (List TRunner) → Int → (List TLook) → Option (Option (Bool × Int))) (ih_9027 : ∀ (s_1 : Tadvice_state) (left_2 : Int) (v_3 : Int) (v_4 : List TSegment) (v_5 : List (List Int)) (v_6 : List TPair) (v_7 : List TRunner) (v_8 : Int) (v_9 : List TLook) (q : Option (Bool × Int)), rc_9027 s_1 left_2 v_3 v_4 v_5 v_6 v_7 v_8 v_9 = some q → MCP prog 38 [.d (eTadvice_state s_1), (dI left_2), .pt 0 0, .pt 2 0, .pt 3 0] [.var [.fm 37 [.pt 1 0]], .var [(dI v_3)], .var [.d (.ls (List.map eTSegment v_4)), .d (.ls (List.map (eL eI) v_5)), .d (.ls (List.map eTPair v_6)), .d (.ls (List.map eTRunner v_7)), (dI v_8), .d (.ls (List.map eTLook v_9))], .var [.fn 38 [.pt 0 0, .pt 2 0, .pt 3 0]]] (fun rs Bs => ∃ r_10 : Bool, ∃ b_11 : Int, q = some (r_10, b_11) ∧ rs = [(.b r_10)] ∧ Bs = [.var [.fm 37 [.pt 1 0]], .var [(dI b_11)], .var [.d (.ls (List.map eTSegment v_4)), .d (.ls (List.map (eL eI) v_5)), .d (.ls (List.map eTPair v_6)), .d (.ls (List.map eTRunner v_7)), (dI v_8), .d (.ls (List.map eTLook v_9))], .var [.fn 38 [.pt 0 0, .pt 2 0, .pt 3 0]]]) (fun pv => pv = (.iface 78 (.agg #[])) ∧ q = none)) (s_1 : Tadvice_state) (left_2 : Int) (v_3 : Int) (v_4 : List TSegment) (v_5 : List (List Int)) (v_6 : List TPair) (v_7 : List TRunner) (v_8 : Int) (v_9 : List TLook) (q : Option (Bool × Int)) (h : M120 rc_9027 s_1 left_2 v_3 v_4 v_5 v_6 v_7 v_8 v_9 = some q) :
    MCP prog 38 [.d (eTadvice_state s_1), (dI left_2), .pt 0 0, .pt 2 0, .pt 3 0] [.var [.fm 37 [.pt 1 0]], .var [(dI v_3)], .var [.d (.ls (List.map eTSegment v_4)), .d (.ls (List.map (eL eI) v_5)), .d (.ls (List.map eTPair v_6)), .d (.ls (List.map eTRunner v_7)), (dI v_8), .d (.ls (List.map eTLook v_9))], .var [.fn 38 [.pt 0 0, .pt 2 0, .pt 3 0]]] (fun rs Bs => ∃ r_10 : Bool, ∃ b_11 : Int, q = some (r_10, b_11) ∧ rs = [(.b r_10)] ∧ Bs = [.var [.fm 37 [.pt 1 0]], .var [(dI b_11)], .var [.d (.ls (List.map eTSegment v_4)), .d (.ls (List.map (eL eI) v_5)), .d (.ls (List.map eTPair v_6)), .d (.ls (List.map eTRunner v_7)), (dI v_8), .d (.ls (List.map eTLook v_9))], .var [.fn 38 [.pt 0 0, .pt 2 0, .pt 3 0]]]) (fun pv => pv = (.iface 78 (.agg #[])) ∧ q = none) := by
 refine MCP.of_tr (cx := ⟨56, none, lay, 4⟩) layOK func38 rfl rfl rfl rfl rfl (by simp [f38]) ?_
 refine Tr.unW ?_
 unfold M120 at h
 refine sg ?_
 conv=>whnf
 refine Tr.scope ?_
 refine Tr.seq ?_
 refine Tr.regionP layOK ?_
 conv=>whnf
 refine .inl ?_
 conv=>whnf
 obtain ⟨q_13, hc14, h⟩ := bS h
 refine .inr ?_
 conv=>whnf
 refine MCP.ecall (P62 v_3 q_13 hc14) [1] (by decide) rfl rfl ?_ (fun rs Bs1 hrs => ?_) (fun pv hpv => ?_)
 · exact ⟨⟨rfl, rfl⟩, trivial⟩
 rotate_left
 ·obtain ⟨rfl, rfl⟩ := hpv
  rw [onP_none] at h
  conv=>whnf
  refine endH ?_
  conv=>whnf
  cases h
  exact ⟨_, rfl, rfl, rfl⟩
 obtain ⟨b_12, rfl, rfl, rfl⟩ := hrs
 rw [onP_some] at h
 conv=>whnf
 refine Tr.seq ?_
 refine sg ?_
 conv=>whnf
 obtain ⟨r_15, hc16, h⟩ := bS h
 refine PC.ecall (P110 s_1 r_15 hc16) (fun rs hrs => ?_)
 subst hrs
 conv=>whnf
 refine Tr.cond ?_
 conv=>whnf
 refine cB h (fun hb17 h => ?_) (fun hb17 h => ?_)
 ·refine sg ?_
  conv=>whnf
  refine Tr.ret ?_
  conv=>whnf
  refine endH ?_
  conv=>whnf
  cases h
  exact ⟨[.var [.fm 37 [.pt 1 0]], .var [(dI b_12)], .var [.d (.ls (List.map eTSegment v_4)), .d (.ls (List.map (eL eI) v_5)), .d (.ls (List.map eTPair v_6)), .d (.ls (List.map eTRunner v_7)), (dI v_8), .d (.ls (List.map eTLook v_9))], .var [.fn 38 [.pt 0 0, .pt 2 0, .pt 3 0]]], rfl, rfl, ⟨rfl, rfl, rfl, rfl, trivial⟩, _, _, rfl, rfl, rfl⟩
 refine Tr.skip ?_
 conv=>whnf
 refine Tr.seq ?_
 refine sg ?_
 conv=>whnf
 refine Tr.cond ?_
 conv=>whnf
 refine cB h (fun hb18 h => ?_) (fun hb18 h => ?_)
 ·refine sg ?_
  conv=>whnf
  refine Tr.ret ?_
  conv=>whnf
  refine endH ?_
  conv=>whnf
  cases h
  exact ⟨[.var [.fm 37 [.pt 1 0]], .var [(dI b_12)], .var [.d (.ls (List.map eTSegment v_4)), .d (.ls (List.map (eL eI) v_5)), .d (.ls (List.map eTPair v_6)), .d (.ls (List.map eTRunner v_7)), (dI v_8), .d (.ls (List.map eTLook v_9))], .var [.fn 38 [.pt 0 0, .pt 2 0, .pt 3 0]]], rfl, rfl, ⟨rfl, rfl, rfl, rfl, trivial⟩, _, _, rfl, rfl, rfl⟩
 refine Tr.skip ?_
 conv=>whnf
 refine Tr.seq ?_
 refine Tr.label ?_
 conv=>whnf
 refine Tr.seq ?_
 refine sg ?_
 conv=>whnf
 refine lnS_map ?_
 conv=>whnf
 refine Tr.cutQ (α := Int) (fun s => ([(7, .d (.b false))], [some (.var [.fm 37 [.pt 1 0]]), some (.var [(dI s)]), some (.var [.d (.ls (List.map eTSegment v_4)), .d (.ls (List.map (eL eI) v_5)), .d (.ls (List.map eTPair v_6)), .d (.ls (List.map eTRunner v_7)), (dI v_8), .d (.ls (List.map eTLook v_9))]), some (.var [.fn 38 [.pt 0 0, .pt 2 0, .pt 3 0]])])) (fun s => M119 s = some q) ?_ ?_
 ·refine Tr.block ?_
  refine Tr.loopM (σ := Int × Int) (fun n s => M118 s_1 left_2 v_4 v_5 v_6 v_7 v_8 v_9 rc_9027 M119 n s.1 s.2) q (fun s => ([(1, (dI left_2)), (4, .pt 3 0), (5, .pt 4 0), (7, .d (.b false)), (20, .d (.ls (List.map eTLook v_9))), (21, (dI (((v_9).length : Int)))), (22, (dI s.1))], [some (.var [.fm 37 [.pt 1 0]]), some (.var [(dI s.2)]), some (.var [.d (.ls (List.map eTSegment v_4)), .d (.ls (List.map (eL eI) v_5)), .d (.ls (List.map eTPair v_6)), .d (.ls (List.map eTRunner v_7)), (dI v_8), .d (.ls (List.map eTLook v_9))]), some (.var [.fn 38 [.pt 0 0, .pt 2 0, .pt 3 0]]), some (.var [.d (.ls (List.map eTSegment s_1.q.Field.Clocks.Segments)), .d (.ls (List.map (eL eI) s_1.q.Field.Clocks.Far)), .d (.ls (List.map eTPair s_1.q.Field.Pairs)), .d (.ls (List.map eTRunner s_1.q.Field.Runners)), (dI s_1.q.Runner), .d (.ls (List.map eTLook s_1.q.Looks)), .d (.ls (List.map eB s_1.used))])])) (((((v_9).length : Int)) - 0 : Int).toNat + 1) (0, b_12) h (fun s => rfl) (Wk.mk2 [0, 1, 2, 3, 4] 5 rfl rfl (by decide) rfl ⟨rr, rr, rr, rr, rr, trivial⟩ ⟨rr, rr, rr, rr, rr, rr, rr, trivial⟩) ?_
  clear h
  rintro n_23 ⟨v_21, v_22⟩ h
  replace h : M118 s_1 left_2 v_4 v_5 v_6 v_7 v_8 v_9 rc_9027 M119 (n_23 + 1) v_21 v_22 = some q := h
  rw [M118] at h
  refine sg ?_
  conv=>whnf
  refine Tr.seq ?_
  refine Tr.cond ?_
  conv=>whnf
  refine cB h (fun hb27 h => ?_) (fun hb27 h => ?_)
  ·refine Tr.skip ?_
   conv=>whnf
   refine Tr.seq ?_
   refine Tr.block ?_
   refine sg ?_
   conv=>whnf
   obtain ⟨x_28, hx_28, h⟩ := bS h
   refine ixP_of hx_28 ?_
   conv=>whnf
   refine Tr.seq ?_
   refine sg ?_
   conv=>whnf
   obtain ⟨x_29, hx_29, h⟩ := bS h
   refine ixP_of hx_29 ?_
   conv=>whnf
   refine Tr.cond ?_
   conv=>whnf
   refine cB h (fun hb30 h => ?_) (fun hb30 h => ?_)
   ·refine Tr.exit ?_
    conv=>whnf
    refine rg ?_
    conv=>whnf
    refine arS_raw ?_
    conv=>whnf
    refine ⟨((w64 (v_21 + 1)), v_22), h, ?_⟩
    exact Wk.mk2 [0, 1, 2, 3, 4] 6 rfl rfl (by decide) rfl ⟨rr, rr, rr, rr, rr, trivial⟩ ⟨rr, rr, rr, rr, rr, rr, rr, trivial⟩
   refine Tr.skip ?_
   conv=>whnf
   refine Tr.seq ?_
   refine sg ?_
   conv=>whnf
   refine lnS_map ?_
   conv=>whnf
   refine Tr.cutQ (α := Int) (fun s => ([(1, (dI left_2)), (4, .pt 3 0), (5, .pt 4 0), (7, .d (.b false)), (20, .d (.ls (List.map eTLook v_9))), (21, (dI (((v_9).length : Int)))), (22, (dI v_21))], [some (.var [.fm 37 [.pt 1 0]]), some (.var [(dI s)]), some (.var [.d (.ls (List.map eTSegment v_4)), .d (.ls (List.map (eL eI) v_5)), .d (.ls (List.map eTPair v_6)), .d (.ls (List.map eTRunner v_7)), (dI v_8), .d (.ls (List.map eTLook v_9))]), some (.var [.fn 38 [.pt 0 0, .pt 2 0, .pt 3 0]]), some (.var [.d (.ls (List.map eTSegment s_1.q.Field.Clocks.Segments)), .d (.ls (List.map (eL eI) s_1.q.Field.Clocks.Far)), .d (.ls (List.map eTPair s_1.q.Field.Pairs)), .d (.ls (List.map eTRunner s_1.q.Field.Runners)), (dI s_1.q.Runner), .d (.ls (List.map eTLook s_1.q.Looks)), .d (.ls (List.map eB s_1.used))])])) (fun s => M117 s = some q) ?_ ?_
   ·refine Tr.block ?_
    refine Tr.loopM (σ := Int × Int) (fun n s => M116 s_1 left_2 v_4 v_5 v_6 v_7 v_8 v_9 v_21 (M118 s_1 left_2 v_4 v_5 v_6 v_7 v_8 v_9 rc_9027 M119 n_23) x_28 rc_9027 M117 n s.1 s.2) q (fun s => ([(1, (dI left_2)), (4, .pt 3 0), (5, .pt 4 0), (7, .d (.b false)), (8, (dI v_21)), (20, .d (.ls (List.map eTLook v_9))), (21, (dI (((v_9).length : Int)))), (22, (dI v_21)), (34, (dI (((x_28.Answers).length : Int)))), (35, (dI s.1))], [some (.var [.fm 37 [.pt 1 0]]), some (.var [(dI s.2)]), some (.var [.d (.ls (List.map eTSegment v_4)), .d (.ls (List.map (eL eI) v_5)), .d (.ls (List.map eTPair v_6)), .d (.ls (List.map eTRunner v_7)), (dI v_8), .d (.ls (List.map eTLook v_9))]), some (.var [.fn 38 [.pt 0 0, .pt 2 0, .pt 3 0]]), some (.var [.d (.ls (List.map eTSegment s_1.q.Field.Clocks.Segments)), .d (.ls (List.map (eL eI) s_1.q.Field.Clocks.Far)), .d (.ls (List.map eTPair s_1.q.Field.Pairs)), .d (.ls (List.map eTRunner s_1.q.Field.Runners)), (dI s_1.q.Runner), .d (.ls (List.map eTLook s_1.q.Looks)), .d (.ls (List.map eB s_1.used))])])) (((((x_28.Answers).length : Int)) - 0 : Int).toNat + 1) (0, v_22) h (fun s => rfl) (Wk.mk2 [0, 1, 2, 3, 4] 6 rfl rfl (by decide) rfl ⟨rr, rr, rr, rr, rr, trivial⟩ ⟨rr, rr, rr, rr, rr, rr, rr, rr, rr, rr, trivial⟩) ?_
    clear h
    rintro n_35 ⟨v_33, v_34⟩ h
    replace h : M116 s_1 left_2 v_4 v_5 v_6 v_7 v_8 v_9 v_21 (M118 s_1 left_2 v_4 v_5 v_6 v_7 v_8 v_9 rc_9027 M119 n_23) x_28 rc_9027 M117 (n_35 + 1) v_33 v_34 = some q := h
    rw [M116] at h
    refine sg ?_
    conv=>whnf
    refine Tr.seq ?_
    refine Tr.cond ?_
    conv=>whnf
    refine cB h (fun hb39 h => ?_) (fun hb39 h => ?_)
    ·refine Tr.skip ?_
     conv=>whnf
     refine Tr.seq ?_
     refine Tr.block ?_
     refine sg ?_
     conv=>whnf
     refine sg ?_
     conv=>whnf
     obtain ⟨⟨r_40, r_41⟩, hc42, h⟩ := bS h
     refine PC.ecall (P115 s_1 v_21 v_33 r_40 r_41 hc42) (fun rs hrs => ?_)
     subst hrs
     conv=>whnf
     refine Tr.seq ?_
     refine Tr.regionP layOK ?_
     conv=>whnf
     refine .inl ?_
     conv=>whnf
     refine .inl ?_
     conv=>whnf
     refine cB h (fun hb43 h => ?_) (fun hb43 h => ?_)
     ·conv=>whnf
      refine .inl ?_
      conv=>whnf
      refine .inl ?_
      conv=>whnf
      refine .inl ?_
      conv=>whnf
      refine .inl ?_
      conv=>whnf
      refine arS_raw ?_
      conv=>whnf
      obtain ⟨q_46, hc47, h⟩ := bS h
      refine .inr ?_
      conv=>whnf
      refine MCP.ecall (ih_9027 r_40 ((w64 (left_2 - 1))) v_34 v_4 v_5 v_6 v_7 v_8 v_9 q_46 hc47) [0, 1, 2, 3] (by decide) rfl rfl ?_ (fun rs Bs1 hrs => ?_) (fun pv hpv => ?_)
      · exact ⟨⟨rfl, rfl⟩, ⟨rfl, rfl⟩, ⟨rfl, rfl⟩, ⟨rfl, rfl⟩, trivial⟩
      rotate_left
      ·obtain ⟨rfl, rfl⟩ := hpv
       rw [onP_none] at h
       conv=>whnf
       refine endH ?_
       conv=>whnf
       cases h
       exact ⟨_, rfl, rfl, rfl⟩
      obtain ⟨r_44, b_45, rfl, rfl, rfl⟩ := hrs
      rw [onP_some] at h
      conv=>whnf
      refine .inl ?_
      conv=>whnf
      refine .inl ?_
      conv=>whnf
      refine Tr.cond ?_
      conv=>whnf
      refine cB h (fun hb48 h => ?_) (fun hb48 h => ?_)
      ·refine Tr.exit ?_
       conv=>whnf
       refine rg ?_
       conv=>whnf
       refine arS_raw ?_
       conv=>whnf
       refine ⟨((w64 (v_21 + 1)), b_45), h, ?_⟩
       exact Wk.mk2 [0, 1, 2, 3, 4] 6 rfl rfl (by decide) rfl ⟨rr, rr, rr, rr, rr, trivial⟩ ⟨rr, rr, rr, rr, rr, rr, rr, trivial⟩
      refine Tr.skip ?_
      conv=>whnf
      refine rg ?_
      conv=>whnf
      refine arS_raw ?_
      conv=>whnf
      refine ⟨((w64 (v_33 + 1)), b_45), h, ?_⟩
      exact Wk.mk2 [0, 1, 2, 3, 4] 6 rfl rfl (by decide) rfl ⟨rr, rr, rr, rr, rr, trivial⟩ ⟨rr, rr, rr, rr, rr, rr, rr, rr, rr, rr, trivial⟩
     conv=>whnf
     refine .inl ?_
     conv=>whnf
     refine Tr.cond ?_
     conv=>whnf
     refine Tr.skip ?_
     conv=>whnf
     refine rg ?_
     conv=>whnf
     refine arS_raw ?_
     conv=>whnf
     refine ⟨((w64 (v_33 + 1)), v_34), h, ?_⟩
     exact Wk.mk2 [0, 1, 2, 3, 4] 6 rfl rfl (by decide) rfl ⟨rr, rr, rr, rr, rr, trivial⟩ ⟨rr, rr, rr, rr, rr, rr, rr, rr, rr, rr, trivial⟩
    refine Tr.exit ?_
    conv=>whnf
    refine ⟨(v_34), h, ?_⟩
    exact Wk.mk2 [0, 1, 2, 3, 4] 5 rfl rfl (by decide) rfl ⟨rr, rr, rr, rr, rr, trivial⟩ ⟨rr, rr, rr, rr, rr, rr, rr, trivial⟩
   clear h
   rintro v_36 h T1 H1 hw
   replace h : M117 v_36 = some q := h
   conv=>whnf
   refine Tr.weak hw ?_
   unfold M117 at h
   refine sg ?_
   conv=>whnf
   refine Tr.ret ?_
   conv=>whnf
   refine endH ?_
   conv=>whnf
   cases h
   exact ⟨[.var [.fm 37 [.pt 1 0]], .var [(dI v_36)], .var [.d (.ls (List.map eTSegment v_4)), .d (.ls (List.map (eL eI) v_5)), .d (.ls (List.map eTPair v_6)), .d (.ls (List.map eTRunner v_7)), (dI v_8), .d (.ls (List.map eTLook v_9))], .var [.fn 38 [.pt 0 0, .pt 2 0, .pt 3 0]]], rfl, rfl, ⟨rfl, rfl, rfl, rfl, trivial⟩, _, _, rfl, rfl, rfl⟩
  refine Tr.exit ?_
  conv=>whnf
  refine ⟨(v_22), h, ?_⟩
  exact Wk.mk2 [0, 1, 2, 3] 5 rfl rfl (by decide) rfl ⟨rr, rr, rr, rr, trivial⟩ ⟨rr, trivial⟩
 clear h
 rintro v_24 h T1 H1 hw
 replace h : M119 v_24 = some q := h
 conv=>whnf
 refine Tr.weak hw ?_
 unfold M119 at h
 refine sg ?_
 conv=>whnf
 refine Tr.ret ?_
 conv=>whnf
 refine endH ?_
 conv=>whnf
 cases h
 exact ⟨[.var [.fm 37 [.pt 1 0]], .var [(dI v_24)], .var [.d (.ls (List.map eTSegment v_4)), .d (.ls (List.map (eL eI) v_5)), .d (.ls (List.map eTPair v_6)), .d (.ls (List.map eTRunner v_7)), (dI v_8), .d (.ls (List.map eTLook v_9))], .var [.fn 38 [.pt 0 0, .pt 2 0, .pt 3 0]]], rfl, rfl, ⟨rfl, rfl, rfl, rfl, trivial⟩, _, _, rfl, rfl, rfl⟩
theorem P121 (n : Nat) : ∀ (s_1 : Tadvice_state) (left_2 : Int) (v_3 : Int) (v_4 : List TSegment) (v_5 : List (List Int)) (v_6 : List TPair) (v_7 : List TRunner) (v_8 : Int) (v_9 : List TLook) (q : Option (Bool × Int)), M121 n s_1 left_2 v_3 v_4 v_5 v_6 v_7 v_8 v_9 = some q → MCP prog 38 [.d (eTadvice_state s_1), (dI left_2), .pt 0 0, .pt 2 0, .pt 3 0] [.var [.fm 37 [.pt 1 0]], .var [(dI v_3)], .var [.d (.ls (List.map eTSegment v_4)), .d (.ls (List.map (eL eI) v_5)), .d (.ls (List.map eTPair v_6)), .d (.ls (List.map eTRunner v_7)), (dI v_8), .d (.ls (List.map eTLook v_9))], .var [.fn 38 [.pt 0 0, .pt 2 0, .pt 3 0]]] (fun rs Bs => ∃ r_10 : Bool, ∃ b_11 : Int, q = some (r_10, b_11) ∧ rs = [(.b r_10)] ∧ Bs = [.var [.fm 37 [.pt 1 0]], .var [(dI b_11)], .var [.d (.ls (List.map eTSegment v_4)), .d (.ls (List.map (eL eI) v_5)), .d (.ls (List.map eTPair v_6)), .d (.ls (List.map eTRunner v_7)), (dI v_8), .d (.ls (List.map eTLook v_9))], .var [.fn 38 [.pt 0 0, .pt 2 0, .pt 3 0]]]) (fun pv => pv = (.iface 78 (.agg #[])) ∧ q = none) := by
  induction n with
  | zero =>
    intros
    rename_i h
    cases h
  | succ n ih => exact P120 (M121 n) ih
theorem dr_advice_Enough (H : Hp) : DefR prog 36 [1, 2] H := by
 refine DefR.of_tr (cx := ⟨16, none, lay, H.length⟩) layOK rfl func36 rfl rfl rfl (by decide) 5 2 rfl rfl rfl rfl rfl rfl rfl rfl rfl ?_
 conv=>whnf
 refine TrE.seq ?_
 refine TrE.regionP layOK ?_
 conv=>whnf
 refine .inl ?_
 conv=>whnf
 refine .inr ⟨rfl, rfl, by kernel_rfl, .inr ⟨rfl, ?_⟩⟩
 conv=>whnf
 refine TrE.cond ?_
 conv=>whnf
 refine TrE.skip ?_
 conv=>whnf
theorem P122 (q_1 : TQuestion) (looks_2 : Int) (budget_3 : Int) (r_4 : Bool) (r_5 : Int) (h : M122 q_1 looks_2 budget_3 = some (r_4, r_5)) :
    PC prog 19 [(eTQuestion q_1), (.i .i64 looks_2), (.i .i64 budget_3)] (fun rs => rs = [(.b r_4), (.i .i64 r_5)]) := by
 refine PC.of_trF (cx := ⟨38, none, lay, 0⟩) layOK func19 rfl rfl rfl rfl rfl (by simp [f19]) ?_
 unfold M122 at h
 refine TrF.seq layOK ?_
 refine TrE.region layOK ?_
 conv=>whnf
 refine TrF.seq layOK ?_
 refine TrE.seq ?_
 refine TrE.region layOK ?_
 conv=>whnf
 obtain ⟨r_6, hc7, h⟩ := bS h
 refine PC.ecall (P60 q_1 r_6 hc7) (fun rs hrs => ?_)
 subst hrs
 conv=>whnf
 refine TrE.cond ?_
 conv=>whnf
 refine cB h (fun hb8 h => ?_) (fun hb8 h => ?_)
 ·refine TrE.seq ?_
  refine TrE.region layOK ?_
  conv=>whnf
  refine TrE.ret ?_
  conv=>whnf
  cases h
  rfl
 refine TrE.skip ?_
 conv=>whnf
 refine TrF.seq layOK ?_
 refine TrE.seq ?_
 refine TrE.cutQ1 ([(1, (dI looks_2)), (2, (dI budget_3)), (3, .pt 0 0), (6, .pt 1 0), (7, .pt 2 0), (26, .d (.b ((decide (looks_2 < 0)) || ((decide (looks_2 > 6)) || ((decide (budget_3 < 0)) || (decide (budget_3 > 1073741824)))))))]) ([some (.var [.d (.ls (List.map eTSegment q_1.Field.Clocks.Segments)), .d (.ls (List.map (eL eI) q_1.Field.Clocks.Far)), .d (.ls (List.map eTPair q_1.Field.Pairs)), .d (.ls (List.map eTRunner q_1.Field.Runners)), (dI q_1.Runner), .d (.ls (List.map eTLook q_1.Looks))]), some (.var [.d (.b false)]), some (.var [(dI 0)])]) ?_ (fun T1 H1 hw => ?_)
 ·refine TrE.region layOK ?_
  conv=>whnf
  refine condS_mk (fun hb10 => ?_) (fun hb10 => ?_)
  ·conv=>whnf
   exact Wk.mk2 [0, 1, 2] 3 rfl rfl (by decide) rfl ⟨rr, rr, rr, trivial⟩ ⟨rr, rr, rr, rr, rr, ⟨rfl, (by first | rfl | (simp only [↓hb8, ↓hb10, bl, List.length_set]; done) | (simp only [↓hb8, ↓hb10, bl, List.length_set]; rfl))⟩, trivial⟩
  conv=>whnf
  refine condS_mk (fun hb11 => ?_) (fun hb11 => ?_)
  ·conv=>whnf
   exact Wk.mk2 [0, 1, 2] 3 rfl rfl (by decide) rfl ⟨rr, rr, rr, trivial⟩ ⟨rr, rr, rr, rr, rr, ⟨rfl, (by first | rfl | (simp only [↓hb8, ↓hb10, ↓hb11, bl, List.length_set]; done) | (simp only [↓hb8, ↓hb10, ↓hb11, bl, List.length_set]; rfl))⟩, trivial⟩
  conv=>whnf
  refine condS_mk (fun hb12 => ?_) (fun hb12 => ?_)
  ·conv=>whnf
   exact Wk.mk2 [0, 1, 2] 3 rfl rfl (by decide) rfl ⟨rr, rr, rr, trivial⟩ ⟨rr, rr, rr, rr, rr, ⟨rfl, (by first | rfl | (simp only [↓hb8, ↓hb10, ↓hb11, ↓hb12, bl, List.length_set]; done) | (simp only [↓hb8, ↓hb10, ↓hb11, ↓hb12, bl, List.length_set]; rfl))⟩, trivial⟩
  conv=>whnf
  exact Wk.mk2 [0, 1, 2] 3 rfl rfl (by decide) rfl ⟨rr, rr, rr, trivial⟩ ⟨rr, rr, rr, rr, rr, ⟨rfl, (by first | rfl | (simp only [↓hb8, ↓hb10, ↓hb11, ↓hb12, bl, List.length_set]; done) | (simp only [↓hb8, ↓hb10, ↓hb11, ↓hb12, bl, List.length_set]; rfl))⟩, trivial⟩
 conv=>whnf
 refine TrE.weak hw ?_
 refine TrE.cond ?_
 conv=>whnf
 refine cB h (fun hb13 h => ?_) (fun hb13 h => ?_)
 ·refine TrE.seq ?_
  refine TrE.region layOK ?_
  conv=>whnf
  refine TrE.ret ?_
  conv=>whnf
  cases h
  rfl
 refine TrE.skip ?_
 conv=>whnf
 refine TrF.defer layOK rfl 36 [1, 2] 27 rfl rfl rfl ?_ rfl rfl rfl ⟨_, _, func36, rfl, rfl⟩ (fun I => ?_)
 ·conv=>whnf
  exact ⟨rfl, rfl⟩
 conv=>whnf
 refine Tr.seq ?_
 refine Tr.region layOK ?_
 conv=>whnf
 refine orB_l ?_
 conv=>whnf
 refine Tr.seq ?_
 refine Tr.region layOK ?_
 conv=>whnf
 refine Tr.seq ?_
 refine Tr.region layOK ?_
 conv=>whnf
 refine orB_l ?_
 conv=>whnf
 refine Tr.seq ?_
 refine Tr.drawP layOK mixed [(4, 0), (4, 4), (4, 5), (5, 1), (6, 2)] [4] [(0, 8), (1, 3), (2, 1), (3, 1), (4, 0), (5, 0), (6, 0)] (by kernel_rfl) ?_
 conv=>whnf
 refine q2 ?_
 conv=>whnf
 refine q2 ?_
 conv=>whnf
 obtain ⟨r_14, hc15, h⟩ := bS h
 refine q1 ?_ (fun _ => pe (P61 q_1 r_14 hc15) rr)
 conv=>whnf
 refine q1 ?_
 conv=>whnf
 obtain ⟨q_18, hc19, h⟩ := bS h
 refine MCP.ecall (P121 1000 r_14 looks_2 budget_3 q_1.Field.Clocks.Segments q_1.Field.Clocks.Far q_1.Field.Pairs q_1.Field.Runners q_1.Runner q_1.Looks q_18 hc19) [4, 3, 0, 5] (by decide) rfl rfl ?_ (fun rs Bs1 hrs => ?_) (fun pv hpv => ?_)
 · exact ⟨⟨rfl, rfl⟩, ⟨rfl, rfl⟩, ⟨rfl, rfl⟩, ⟨rfl, rfl⟩, trivial⟩
 rotate_left
 ·obtain ⟨rfl, rfl⟩ := hpv
  rw [onP_none] at h
  conv=>whnf
  refine ⟨_, rfl, ?_⟩
  refine DefP.of_tr (cx := ⟨16, none, lay, 6⟩) layOK rfl func36 rfl rfl rfl (by decide) 5 2 rfl rfl rfl rfl rfl rfl rfl rfl rfl ?_
  conv=>whnf
  refine TrE.seq ?_
  refine TrE.regionP layOK ?_
  conv=>whnf
  refine .inl ?_
  conv=>whnf
  refine .inr ⟨rfl, rfl, by kernel_rfl, .inl ⟨_, _, rfl, ?_⟩⟩
  conv=>whnf
  refine TrE.cond ?_
  conv=>whnf
  refine TrE.seq ?_
  refine TrE.seq ?_
  refine TrE.regionP layOK ?_
  conv=>whnf
  refine .inl ?_
  conv=>whnf
  refine .inr ⟨_, .d (.ag []), rfl, by kernel_rfl, rfl, ?_⟩
  conv=>whnf
  refine .inl ?_
  conv=>whnf
  refine .inl ?_
  conv=>whnf
  refine .inl ?_
  conv=>whnf
  refine .inl ?_
  conv=>whnf
  refine .inl ?_
  conv=>whnf
  refine .inl ?_
  conv=>whnf
  refine TrE.seq ?_
  refine TrE.regionP layOK ?_
  conv=>whnf
  refine .inl ?_
  conv=>whnf
  refine .inl ?_
  conv=>whnf
  refine TrE.cond ?_
  conv=>whnf
  refine TrE.skip ?_
  conv=>whnf
  refine TrE.regionP layOK ?_
  conv=>whnf
  refine .inl ?_
  conv=>whnf
  refine .inl ?_
  conv=>whnf
  cases h
  rfl
 obtain ⟨r_16, b_17, rfl, rfl, rfl⟩ := hrs
 rw [onP_some] at h
 conv=>whnf
 refine ⟨_, _, rr, kp_ok (by repeat (first | exact trivial | refine ⟨trivial, ?_⟩ | refine ⟨rfl, ?_⟩)), ?_⟩
 conv=>whnf
 refine ⟨_, _, rr, kp_ok (by repeat (first | exact trivial | refine ⟨trivial, ?_⟩ | refine ⟨rfl, ?_⟩)), ?_⟩
 conv=>whnf
 refine Tr.ret ?_
 conv=>whnf
 refine ⟨dr_advice_Enough _, ?_⟩
 conv=>whnf
 cases h
 rfl
theorem P124 (rc_9059 : TPlan → Option (Int)) (ih_9059 : ∀ (p_1 : TPlan) (r_2 : Int), rc_9059 p_1 = some r_2 → PC prog 17 [(eTPlan p_1)] (fun rs => rs = [(.i .i64 r_2)])) (p_1 : TPlan) (r_2 : Int) (h : M124 rc_9059 p_1 = some r_2) :
    PC prog 17 [(eTPlan p_1)] (fun rs => rs = [(.i .i64 r_2)]) := by
 refine PC.of_tr (cx := ⟨22, none, lay, 0⟩) layOK func17 rfl rfl rfl rfl rfl (by simp [f17]) ?_
 unfold M124 at h
 refine sg ?_
 conv=>whnf
 refine Tr.seq ?_
 refine sg ?_
 conv=>whnf
 refine Tr.cond ?_
 conv=>whnf
 refine cB h (fun hb3 h => ?_) (fun hb3 h => ?_)
 ·refine sg ?_
  conv=>whnf
  refine Tr.ret ?_
  conv=>whnf
  cases h
  rfl
 refine Tr.skip ?_
 conv=>whnf
 refine Tr.seq ?_
 refine sg ?_
 conv=>whnf
 refine lnS_map ?_
 conv=>whnf
 obtain ⟨n_9, hv17, h⟩ := bS h
 refine Tr.cutQ1 ([(2, (dI n_9))]) ([]) ?_ (fun T1 H1 hw => ?_)
 ·replace h := hv17; clear hv17
  refine Tr.block ?_
  refine Tr.loopM (σ := Int × Int) (fun n s => M123 p_1 rc_9059 n s.1 s.2) n_9 (fun s => ([(2, (dI s.1)), (9, .d (.ls (List.map eTPlan0 p_1.After))), (10, (dI (((p_1.After).length : Int)))), (11, (dI s.2))], [])) (((((p_1.After).length : Int)) - 0 : Int).toNat + 1) (0, 0) h (fun s => rfl) (Wk.mk2 [] 1 rfl rfl (by decide) rfl trivial ⟨rr, rr, rr, rr, trivial⟩) ?_
  clear h
  rintro n_8 ⟨n_6, v_7⟩ h
  replace h : M123 p_1 rc_9059 (n_8 + 1) n_6 v_7 = some n_9 := h
  rw [M123] at h
  refine sg ?_
  conv=>whnf
  refine Tr.seq ?_
  refine Tr.cond ?_
  conv=>whnf
  refine cB h (fun hb12 h => ?_) (fun hb12 h => ?_)
  ·refine Tr.skip ?_
   conv=>whnf
   refine Tr.seq ?_
   refine Tr.block ?_
   refine sg ?_
   conv=>whnf
   obtain ⟨x_13, hx_13, h⟩ := bS h
   obtain ⟨p_14, hp_14, h⟩ := bS h
   rw [uTPlan_eq hp_14] at hx_13
   refine ixP_of hx_13 ?_
   conv=>whnf
   refine rg ?_
   conv=>whnf
   obtain ⟨r_15, hc16, h⟩ := bS h
   refine PC.ecall (ih_9059 p_14 r_15 hc16) (fun rs hrs => ?_)
   subst hrs
   conv=>whnf
   refine rg ?_
   conv=>whnf
   refine arS_raw ?_
   conv=>whnf
   refine ⟨((maxG n_6 r_15), (w64 (v_7 + 1))), h, ?_⟩
   exact Wk.mk2 [] 1 rfl rfl (by decide) rfl trivial ⟨rr, rr, rr, rr, trivial⟩
  refine Tr.exit ?_
  conv=>whnf
  cases h
  exact Wk.mk2 [] 0 rfl rfl (by decide) rfl trivial ⟨rr, trivial⟩
 clear hv17
 conv=>whnf
 refine Tr.weak hw ?_
 refine sg ?_
 conv=>whnf
 refine arS_raw ?_
 conv=>whnf
 refine Tr.ret ?_
 conv=>whnf
 cases h
 rfl
theorem P125 (n : Nat) : ∀ (p_1 : TPlan) (r_2 : Int), M125 n p_1 = some r_2 → PC prog 17 [(eTPlan p_1)] (fun rs => rs = [(.i .i64 r_2)]) := by
  induction n with
  | zero =>
    intros
    rename_i h
    cases h
  | succ n ih => exact P124 (M125 n) ih
theorem P128 (rc_9060 : Tadvice_state → TPlan → (List TSegment) → (List (List Int)) → (List TPair) → (List TRunner) → Int → (List TLook) → Option (Bool)) (ih_9060 : ∀ (s_1 : Tadvice_state) (p_2 : TPlan) (v_3 : List TSegment) (v_4 : List (List Int)) (v_5 : List TPair) (v_6 : List TRunner) (v_7 : Int) (v_8 : List TLook) (r_9 : Bool), rc_9060 s_1 p_2 v_3 v_4 v_5 v_6 v_7 v_8 = some r_9 → MC prog 31 [.d (eTadvice_state s_1), .d (eTPlan p_2), .pt 0 0, .pt 1 0] [.var [.d (.ls (List.map eTSegment v_3)), .d (.ls (List.map (eL eI) v_4)), .d (.ls (List.map eTPair v_5)), .d (.ls (List.map eTRunner v_6)), (dI v_7), .d (.ls (List.map eTLook v_8))], .var [.fn 31 [.pt 0 0, .pt 1 0]]] (fun rs Bs => rs = [(.b r_9)] ∧ Bs = [.var [.d (.ls (List.map eTSegment v_3)), .d (.ls (List.map (eL eI) v_4)), .d (.ls (List.map eTPair v_5)), .d (.ls (List.map eTRunner v_6)), (dI v_7), .d (.ls (List.map eTLook v_8))], .var [.fn 31 [.pt 0 0, .pt 1 0]]])) (s_1 : Tadvice_state) (p_2 : TPlan) (v_3 : List TSegment) (v_4 : List (List Int)) (v_5 : List TPair) (v_6 : List TRunner) (v_7 : Int) (v_8 : List TLook) (r_9 : Bool) (h : M128 rc_9060 s_1 p_2 v_3 v_4 v_5 v_6 v_7 v_8 = some r_9) :
    MC prog 31 [.d (eTadvice_state s_1), .d (eTPlan p_2), .pt 0 0, .pt 1 0] [.var [.d (.ls (List.map eTSegment v_3)), .d (.ls (List.map (eL eI) v_4)), .d (.ls (List.map eTPair v_5)), .d (.ls (List.map eTRunner v_6)), (dI v_7), .d (.ls (List.map eTLook v_8))], .var [.fn 31 [.pt 0 0, .pt 1 0]]] (fun rs Bs => rs = [(.b r_9)] ∧ Bs = [.var [.d (.ls (List.map eTSegment v_3)), .d (.ls (List.map (eL eI) v_4)), .d (.ls (List.map eTPair v_5)), .d (.ls (List.map eTRunner v_6)), (dI v_7), .d (.ls (List.map eTLook v_8))], .var [.fn 31 [.pt 0 0, .pt 1 0]]]) := by
 refine MC.of_tr (cx := ⟨95, none, lay, 2⟩) layOK func31 rfl rfl rfl rfl rfl (by simp [f31]) ?_
 refine Tr.unW ?_
 unfold M128 at h
 refine sg ?_
 conv=>whnf
 refine Tr.seq ?_
 refine sg ?_
 conv=>whnf
 refine Tr.cond ?_
 conv=>whnf
 refine cB h (fun hb10 h => ?_) (fun hb10 h => ?_)
 ·refine sg ?_
  conv=>whnf
  refine lnS_map ?_
  conv=>whnf
  refine cB h (fun hb11 h => ?_) (fun hb11 h => ?_)
  ·conv=>whnf
   obtain ⟨r_12, hc13, h⟩ := bS h
   refine PC.ecall (P110 s_1 r_12 hc13) (fun rs hrs => ?_)
   subst hrs
   conv=>whnf
   refine Tr.ret ?_
   conv=>whnf
   refine endH ?_
   conv=>whnf
   cases h
   exact endB rfl rfl rfl ⟨rfl, rfl, trivial⟩
  conv=>whnf
  refine Tr.ret ?_
  conv=>whnf
  refine endH ?_
  conv=>whnf
  cases h
  exact endB rfl rfl rfl ⟨rfl, rfl, trivial⟩
 refine Tr.skip ?_
 conv=>whnf
 refine Tr.seq ?_
 refine Tr.seq ?_
 obtain ⟨v_14, hv15, h⟩ := bS h
 refine Tr.cutQ1 ([(3, .pt 1 0), (4, .pt 2 0), (5, .pt 3 0), (6, .d (.b false)), (54, .d (.b v_14))]) ([some (.var [.d (.ls (List.map eTSegment v_3)), .d (.ls (List.map (eL eI) v_4)), .d (.ls (List.map eTPair v_5)), .d (.ls (List.map eTRunner v_6)), (dI v_7), .d (.ls (List.map eTLook v_8))]), some (.var [.fn 31 [.pt 0 0, .pt 1 0]]), some (.var [.d (.ls (List.map eTSegment s_1.q.Field.Clocks.Segments)), .d (.ls (List.map (eL eI) s_1.q.Field.Clocks.Far)), .d (.ls (List.map eTPair s_1.q.Field.Pairs)), .d (.ls (List.map eTRunner s_1.q.Field.Runners)), (dI s_1.q.Runner), .d (.ls (List.map eTLook s_1.q.Looks)), .d (.ls (List.map eB s_1.used))]), some (.var [(dI p_2.Look), .d (.ls (List.map eTPlan0 p_2.After))])]) ?_ (fun T1 H1 hw => ?_)
 ·replace h := hv15; clear hv15
  refine dq [] [(0,6),(1,6),(2,1),(3,1),(4,6),(5,6),(6,3),(7,3),(8,2),(9,1),(10,1),(11,1),(12,5),(13,5),(14,6),(15,6),(16,2),(17,2),(18,1),(19,1),(20,6),(21,6),(22,2),(23,3),(24,3),(25,6),(26,6),(27,2),(28,2),(29,2),(30,2),(31,1),(32,1)] ?_
  conv=>whnf
  refine q2 ?_
  conv=>whnf
  refine q2 ?_
  conv=>whnf
  refine q1 ?_
  conv=>whnf
  refine q1 ?_
  conv=>whnf
  refine cB h (fun hb16 h => ?_) (fun hb16 h => ?_)
  ·conv=>whnf
   refine q1 ?_
   conv=>whnf
   refine q1 ?_
   conv=>whnf
   refine q1 ?_
   conv=>whnf
   refine q1 ?_
   conv=>whnf
   refine q1 ?_
   conv=>whnf
   cases h
   exact Wk.mk2 [0, 1, 2, 3] 4 rfl rfl (by decide) rfl ⟨rr, rr, rr, rr, trivial⟩ ⟨rr, rr, rr, rr, rr, trivial⟩
  conv=>whnf
  refine q2 ?_
  conv=>whnf
  refine q2 ?_
  conv=>whnf
  refine q2 ?_
  conv=>whnf
  refine q2 ?_
  conv=>whnf
  refine q3 (lnS_map rr) ?_
  conv=>whnf
  refine q1 ?_
  conv=>whnf
  refine q1 ?_
  conv=>whnf
  refine q1 ?_
  conv=>whnf
  refine cB h (fun hb17 h => ?_) (fun hb17 h => ?_)
  ·conv=>whnf
   refine q1 ?_
   conv=>whnf
   refine q1 ?_
   conv=>whnf
   refine q1 ?_
   conv=>whnf
   cases h
   exact Wk.mk2 [0, 1, 2, 3] 4 rfl rfl (by decide) rfl ⟨rr, rr, rr, rr, trivial⟩ ⟨rr, rr, rr, rr, rr, trivial⟩
  conv=>whnf
  refine q2 ?_
  conv=>whnf
  refine q2 ?_
  conv=>whnf
  refine q2 ?_
  conv=>whnf
  refine q2 ?_
  conv=>whnf
  obtain ⟨x_18, hx_18, h⟩ := bS h
  refine q3 (ixP_of hx_18 rr) ?_
  conv=>whnf
  refine q2 ?_
  conv=>whnf
  refine q1 ?_
  conv=>whnf
  refine q1 ?_
  conv=>whnf
  refine cB h (fun hb19 h => ?_) (fun hb19 h => ?_)
  ·conv=>whnf
   refine q1 ?_
   conv=>whnf
   cases h
   exact Wk.mk2 [0, 1, 2, 3] 4 rfl rfl (by decide) rfl ⟨rr, rr, rr, rr, trivial⟩ ⟨rr, rr, rr, rr, rr, trivial⟩
  conv=>whnf
  refine q2 ?_
  conv=>whnf
  refine q2 ?_
  conv=>whnf
  refine q3 (lnS_map rr) ?_
  conv=>whnf
  refine q2 ?_
  conv=>whnf
  refine q2 ?_
  conv=>whnf
  refine q2 ?_
  conv=>whnf
  refine q2 ?_
  conv=>whnf
  obtain ⟨x_20, hx_20, h⟩ := bS h
  refine q3 (ixP_of hx_20 rr) ?_
  conv=>whnf
  refine q2 ?_
  conv=>whnf
  refine q2 ?_
  conv=>whnf
  refine q3 (lnS_map rr) ?_
  conv=>whnf
  refine q1 ?_
  conv=>whnf
  refine q1 ?_
  conv=>whnf
  cases h
  exact Wk.mk2 [0, 1, 2, 3] 4 rfl rfl (by decide) rfl ⟨rr, rr, rr, rr, trivial⟩ ⟨rr, rr, rr, rr, rr, trivial⟩
 clear hv15
 conv=>whnf
 refine Tr.weak hw ?_
 refine Tr.cond ?_
 conv=>whnf
 refine cB h (fun hb21 h => ?_) (fun hb21 h => ?_)
 ·refine sg ?_
  conv=>whnf
  refine Tr.ret ?_
  conv=>whnf
  refine endH ?_
  conv=>whnf
  cases h
  exact endB rfl rfl rfl ⟨rfl, rfl, trivial⟩
 refine Tr.skip ?_
 conv=>whnf
 refine Tr.seq ?_
 refine sg ?_
 conv=>whnf
 refine lnS_map ?_
 conv=>whnf
 refine Tr.cutQ (α := Unit) (fun s => ([(6, .d (.b false))], [some (.var [.d (.ls (List.map eTSegment v_3)), .d (.ls (List.map (eL eI) v_4)), .d (.ls (List.map eTPair v_5)), .d (.ls (List.map eTRunner v_6)), (dI v_7), .d (.ls (List.map eTLook v_8))]), some (.var [.fn 31 [.pt 0 0, .pt 1 0]])])) (fun s => M127 s = some r_9) ?_ ?_
 ·refine Tr.block ?_
  refine Tr.loopM (σ := Int) (fun n s => M126 s_1 p_2 v_3 v_4 v_5 v_6 v_7 v_8 rc_9060 M127 n s) r_9 (fun s => ([(3, .pt 1 0), (4, .pt 2 0), (5, .pt 3 0), (6, .d (.b false)), (56, .d (.ls (List.map eTPlan0 p_2.After))), (57, (dI (((p_2.After).length : Int)))), (58, (dI s))], [some (.var [.d (.ls (List.map eTSegment v_3)), .d (.ls (List.map (eL eI) v_4)), .d (.ls (List.map eTPair v_5)), .d (.ls (List.map eTRunner v_6)), (dI v_7), .d (.ls (List.map eTLook v_8))]), some (.var [.fn 31 [.pt 0 0, .pt 1 0]]), some (.var [.d (.ls (List.map eTSegment s_1.q.Field.Clocks.Segments)), .d (.ls (List.map (eL eI) s_1.q.Field.Clocks.Far)), .d (.ls (List.map eTPair s_1.q.Field.Pairs)), .d (.ls (List.map eTRunner s_1.q.Field.Runners)), (dI s_1.q.Runner), .d (.ls (List.map eTLook s_1.q.Looks)), .d (.ls (List.map eB s_1.used))]), some (.var [(dI p_2.Look), .d (.ls (List.map eTPlan0 p_2.After))])])) (((((p_2.After).length : Int)) - 0 : Int).toNat + 1) (0) h (fun s => rfl) (Wk.mk2 [0, 1, 2, 3] 4 rfl rfl (by decide) rfl ⟨rr, rr, rr, rr, trivial⟩ ⟨rr, rr, rr, rr, rr, rr, rr, trivial⟩) ?_
  clear h
  rintro n_24 v_23 h
  replace h : M126 s_1 p_2 v_3 v_4 v_5 v_6 v_7 v_8 rc_9060 M127 (n_24 + 1) v_23 = some r_9 := h
  rw [M126] at h
  refine sg ?_
  conv=>whnf
  refine Tr.seq ?_
  refine Tr.cond ?_
  conv=>whnf
  refine cB h (fun hb27 h => ?_) (fun hb27 h => ?_)
  ·refine Tr.skip ?_
   conv=>whnf
   refine Tr.seq ?_
   refine Tr.block ?_
   refine sg ?_
   conv=>whnf
   obtain ⟨x_28, hx_28, h⟩ := bS h
   obtain ⟨p_29, hp_29, h⟩ := bS h
   rw [uTPlan_eq hp_29] at hx_28
   refine ixP_of hx_28 ?_
   conv=>whnf
   refine sg ?_
   conv=>whnf
   obtain ⟨⟨r_30, r_31⟩, hc32, h⟩ := bS h
   refine PC.ecall (P115 s_1 p_2.Look v_23 r_30 r_31 hc32) (fun rs hrs => ?_)
   subst hrs
   conv=>whnf
   refine Tr.seq ?_
   obtain ⟨v_33, hv34, h⟩ := bS h
   refine Tr.cutQ1 ([(3, .pt 1 0), (4, .pt 2 0), (5, .pt 3 0), (6, .d (.b false)), (56, .d (.ls (List.map eTPlan0 p_2.After))), (57, (dI (((p_2.After).length : Int)))), (58, (dI v_23)), (93, .d (.b v_33))]) ([some (.var [.d (.ls (List.map eTSegment v_3)), .d (.ls (List.map (eL eI) v_4)), .d (.ls (List.map eTPair v_5)), .d (.ls (List.map eTRunner v_6)), (dI v_7), .d (.ls (List.map eTLook v_8))]), some (.var [.fn 31 [.pt 0 0, .pt 1 0]]), some (.var [.d (.ls (List.map eTSegment s_1.q.Field.Clocks.Segments)), .d (.ls (List.map (eL eI) s_1.q.Field.Clocks.Far)), .d (.ls (List.map eTPair s_1.q.Field.Pairs)), .d (.ls (List.map eTRunner s_1.q.Field.Runners)), (dI s_1.q.Runner), .d (.ls (List.map eTLook s_1.q.Looks)), .d (.ls (List.map eB s_1.used))]), some (.var [(dI p_2.Look), .d (.ls (List.map eTPlan0 p_2.After))])]) ?_ (fun T1 H1 hw => ?_)
   ·replace h := hv34; clear hv34
    refine rg ?_
    conv=>whnf
    refine cB h (fun hb35 h => ?_) (fun hb35 h => ?_)
    ·conv=>whnf
     refine cB h (fun hb36 h => ?_) (fun hb36 h => ?_)
     ·conv=>whnf
      cases h
      exact Wk.mk2 [0, 1, 2, 3] 6 rfl rfl (by decide) rfl ⟨rr, rr, rr, rr, trivial⟩ ⟨rr, rr, rr, rr, rr, rr, rr, rr, trivial⟩
     conv=>whnf
     refine lnS_map ?_
     conv=>whnf
     refine cB h (fun hb37 h => ?_) (fun hb37 h => ?_)
     ·conv=>whnf
      cases h
      exact Wk.mk2 [0, 1, 2, 3] 6 rfl rfl (by decide) rfl ⟨rr, rr, rr, rr, trivial⟩ ⟨rr, rr, rr, rr, rr, rr, rr, rr, trivial⟩
     conv=>whnf
     refine condS_kf (by simpa using hb35) ?_
     conv=>whnf
     cases h
     exact Wk.mk2 [0, 1, 2, 3] 6 rfl rfl (by decide) rfl ⟨rr, rr, rr, rr, trivial⟩ ⟨rr, rr, rr, rr, rr, rr, rr, rr, trivial⟩
    conv=>whnf
    refine condS_kt (by simpa using hb35) ?_
    conv=>whnf
    obtain ⟨r_38, hc39, h⟩ := bS h
    refine MC.ecall (ih_9060 r_30 p_29 v_3 v_4 v_5 v_6 v_7 v_8 r_38 hc39) [0, 1] (by decide) rfl rfl ?_ (fun rs Bs1 hrs => ?_)
    · exact ⟨⟨rfl, rfl⟩, ⟨rfl, rfl⟩, trivial⟩
    obtain ⟨rfl, rfl⟩ := hrs
    conv=>whnf
    cases h
    exact Wk.mk2 [0, 1, 2, 3] 6 rfl rfl (by decide) rfl ⟨rr, rr, rr, rr, trivial⟩ ⟨rr, rr, rr, rr, rr, rr, rr, rr, trivial⟩
   clear hv34
   conv=>whnf
   refine Tr.weak hw ?_
   refine Tr.cond ?_
   conv=>whnf
   refine cB h (fun hb40 h => ?_) (fun hb40 h => ?_)
   ·refine sg ?_
    conv=>whnf
    refine Tr.ret ?_
    conv=>whnf
    refine endH ?_
    conv=>whnf
    cases h
    exact endB rfl rfl rfl ⟨rfl, rfl, trivial⟩
   refine Tr.skip ?_
   conv=>whnf
   refine rg ?_
   conv=>whnf
   refine arS_raw ?_
   conv=>whnf
   refine ⟨((w64 (v_23 + 1))), h, ?_⟩
   exact Wk.mk2 [0, 1, 2, 3] 4 rfl rfl (by decide) rfl ⟨rr, rr, rr, rr, trivial⟩ ⟨rr, rr, rr, rr, rr, rr, rr, trivial⟩
  refine Tr.exit ?_
  conv=>whnf
  refine ⟨(), h, ?_⟩
  exact Wk.mk2 [0, 1] 4 rfl rfl (by decide) rfl ⟨rr, rr, trivial⟩ ⟨rr, trivial⟩
 clear h
 rintro _ h T1 H1 hw
 replace h : M127 () = some r_9 := h
 conv=>whnf
 refine Tr.weak hw ?_
 unfold M127 at h
 refine sg ?_
 conv=>whnf
 refine Tr.ret ?_
 conv=>whnf
 refine endH ?_
 conv=>whnf
 cases h
 exact endB rfl rfl rfl ⟨rfl, rfl, trivial⟩
theorem P129 (n : Nat) : ∀ (s_1 : Tadvice_state) (p_2 : TPlan) (v_3 : List TSegment) (v_4 : List (List Int)) (v_5 : List TPair) (v_6 : List TRunner) (v_7 : Int) (v_8 : List TLook) (r_9 : Bool), M129 n s_1 p_2 v_3 v_4 v_5 v_6 v_7 v_8 = some r_9 → MC prog 31 [.d (eTadvice_state s_1), .d (eTPlan p_2), .pt 0 0, .pt 1 0] [.var [.d (.ls (List.map eTSegment v_3)), .d (.ls (List.map (eL eI) v_4)), .d (.ls (List.map eTPair v_5)), .d (.ls (List.map eTRunner v_6)), (dI v_7), .d (.ls (List.map eTLook v_8))], .var [.fn 31 [.pt 0 0, .pt 1 0]]] (fun rs Bs => rs = [(.b r_9)] ∧ Bs = [.var [.d (.ls (List.map eTSegment v_3)), .d (.ls (List.map (eL eI) v_4)), .d (.ls (List.map eTPair v_5)), .d (.ls (List.map eTRunner v_6)), (dI v_7), .d (.ls (List.map eTLook v_8))], .var [.fn 31 [.pt 0 0, .pt 1 0]]]) := by
  induction n with
  | zero =>
    intros
    rename_i h
    cases h
  | succ n ih => exact P128 (M129 n) ih
theorem P130 (q_1 : TQuestion) (p_2 : TPlan) (r_3 : Int) (h : M130 q_1 p_2 = some r_3) :
    PC prog 13 [(eTQuestion q_1), (eTPlan p_2)] (fun rs => rs = [(.i .i64 r_3)]) := by
 refine PC.of_tr (cx := ⟨19, none, lay, 0⟩) layOK func13 rfl rfl rfl rfl rfl (by simp [f13]) ?_
 unfold M130 at h
 refine sg ?_
 conv=>whnf
 refine Tr.seq ?_
 refine sg ?_
 conv=>whnf
 obtain ⟨r_4, hc5, h⟩ := bS h
 refine PC.ecall (P60 q_1 r_4 hc5) (fun rs hrs => ?_)
 subst hrs
 conv=>whnf
 refine Tr.cond ?_
 conv=>whnf
 refine cB h (fun hb6 h => ?_) (fun hb6 h => ?_)
 ·refine sg ?_
  conv=>whnf
  refine Tr.ret ?_
  conv=>whnf
  cases h
  rfl
 refine Tr.skip ?_
 conv=>whnf
 refine Tr.seq ?_
 refine sg ?_
 conv=>whnf
 obtain ⟨r_7, hc8, h⟩ := bS h
 refine PC.ecall (P125 1000 p_2 r_7 hc8) (fun rs hrs => ?_)
 subst hrs
 conv=>whnf
 refine Tr.cond ?_
 conv=>whnf
 refine cB h (fun hb9 h => ?_) (fun hb9 h => ?_)
 ·refine sg ?_
  conv=>whnf
  refine Tr.ret ?_
  conv=>whnf
  cases h
  rfl
 refine Tr.skip ?_
 conv=>whnf
 refine sg ?_
 conv=>whnf
 refine sg ?_
 conv=>whnf
 refine orB_l ?_
 conv=>whnf
 refine Tr.seq ?_
 refine sd [(4,0),(4,2)] [(0,5),(1,3),(2,1),(3,4),(4,0),(5,1)] ?_
 conv=>whnf
 refine q2 ?_
 conv=>whnf
 refine q2 ?_
 conv=>whnf
 obtain ⟨r_10, hc11, h⟩ := bS h
 refine q1 ?_ (fun _ => pe (P61 q_1 r_10 hc11) rr)
 conv=>whnf
 refine q2 ?_
 conv=>whnf
 obtain ⟨r_12, hc13, h⟩ := bS h
 refine ⟨_, _, (by (conv=>whnf); (refine MC.ecall (P129 1000 r_10 p_2 q_1.Field.Clocks.Segments q_1.Field.Clocks.Far q_1.Field.Pairs q_1.Field.Runners q_1.Runner q_1.Looks r_12 hc13) [0, 2] (by decide) rfl rfl ?_ (fun rs Bs1 hrs => ?_)); (· exact ⟨⟨rfl, rfl⟩, ⟨rfl, rfl⟩, trivial⟩); (obtain ⟨rfl, rfl⟩ := hrs); (conv=>whnf); (exact rr)), kp_ok (by repeat (first | exact trivial | refine ⟨trivial, ?_⟩ | refine ⟨rfl, ?_⟩)), ?_⟩
 conv=>whnf
 refine q1 ?_
 conv=>whnf
 refine Tr.cond ?_
 conv=>whnf
 refine cB h (fun hb14 h => ?_) (fun hb14 h => ?_)
 ·refine sg ?_
  conv=>whnf
  refine Tr.ret ?_
  conv=>whnf
  cases h
  rfl
 refine Tr.skip ?_
 conv=>whnf
 refine sg ?_
 conv=>whnf
 refine Tr.ret ?_
 conv=>whnf
 cases h
 rfl
theorem P131 (r_1 : Bool) (h : M131 = some r_1) :
    PC prog 11 [] (fun rs => rs = [(.b r_1)]) := by
 refine PC.of_tr (cx := ⟨115, none, lay, 0⟩) layOK func11 rfl rfl rfl rfl rfl (by simp [f11]) ?_
 unfold M131 at h
 refine sg ?_
 conv=>whnf
 refine sg ?_
 conv=>whnf
 obtain ⟨r_2, hc3, h⟩ := bS h
 refine PC.ecall (P0 r_2 hc3) (fun rs hrs => ?_)
 subst hrs
 conv=>whnf
 refine orB_l ?_
 conv=>whnf
 refine sg ?_
 conv=>whnf
 refine orB_r ?_
 conv=>whnf
 refine sg ?_
 conv=>whnf
 obtain ⟨⟨r_4, r_5⟩, hc6, h⟩ := bS h
 refine PC.ecall_lend ?_ ⟨_, _, func15, rfl, rfl⟩
 conv=>whnf
 refine ⟨_, P3 (({ Look := 0, After := (([(pTPlan ({ Look := (-1), After := (([] : List TPlan0)) } : TPlan)), (pTPlan ({ Look := (-1), After := (([] : List TPlan0)) } : TPlan))] : List TPlan0)) } : TPlan)) ((([] : List Int))) r_4 r_5 hc6, fun rs hrs => ?_⟩
 subst hrs
 refine ⟨rfl, ?_⟩
 conv=>whnf
 refine sg ?_
 conv=>whnf
 refine orB_r ?_
 conv=>whnf
 obtain ⟨⟨r_7, r_8⟩, hc9, h⟩ := bS h
 refine PC.ecall_lend ?_ ⟨_, _, func15, rfl, rfl⟩
 conv=>whnf
 refine ⟨_, P3 (({ Look := (-1), After := (([] : List TPlan0)) } : TPlan)) ((([0] : List Int))) r_7 r_8 hc9, fun rs hrs => ?_⟩
 subst hrs
 refine ⟨rfl, ?_⟩
 conv=>whnf
 refine sg ?_
 conv=>whnf
 obtain ⟨⟨r_10, r_11⟩, hc12, h⟩ := bS h
 refine PC.ecall (P122 r_2 1 100 r_10 r_11 hc12) (fun rs hrs => ?_)
 subst hrs
 conv=>whnf
 refine sg ?_
 conv=>whnf
 obtain ⟨⟨r_13, r_14⟩, hc15, h⟩ := bS h
 refine PC.ecall (P122 r_2 0 100 r_13 r_14 hc15) (fun rs hrs => ?_)
 subst hrs
 conv=>whnf
 refine sg ?_
 conv=>whnf
 obtain ⟨⟨r_16, r_17⟩, hc18, h⟩ := bS h
 refine PC.ecall (P122 r_2 7 1 r_16 r_17 hc18) (fun rs hrs => ?_)
 subst hrs
 conv=>whnf
 refine sg ?_
 conv=>whnf
 obtain ⟨⟨r_19, r_20⟩, hc21, h⟩ := bS h
 refine PC.ecall (P122 r_2 1 0 r_19 r_20 hc21) (fun rs hrs => ?_)
 subst hrs
 conv=>whnf
 refine Tr.seq ?_
 obtain ⟨one_22, hv23, h⟩ := bS h
 refine Tr.cutQ1 ([(0, .d (.b false)), (4, (dI r_4)), (5, .d (.b r_5)), (7, .d (.b r_8)), (8, .d (.b r_10)), (9, (dI r_11)), (10, .d (.b r_13)), (11, (dI r_14)), (13, (dI r_17)), (15, (dI r_20)), (16, .d (.b one_22))]) ([]) ?_ (fun T1 H1 hw => ?_)
 ·replace h := hv23; clear hv23
  refine rg ?_
  conv=>whnf
  obtain ⟨r_24, hc25, h⟩ := bS h
  refine PC.ecall (P130 r_2 (({ Look := 0, After := (([(pTPlan ({ Look := (-1), After := (([] : List TPlan0)) } : TPlan)), (pTPlan ({ Look := (-1), After := (([] : List TPlan0)) } : TPlan))] : List TPlan0)) } : TPlan)) r_24 hc25) (fun rs hrs => ?_)
  subst hrs
  conv=>whnf
  refine cB h (fun hb26 h => ?_) (fun hb26 h => ?_)
  ·conv=>whnf
   obtain ⟨r_27, hc28, h⟩ := bS h
   refine PC.ecall_lend ?_ ⟨_, _, func13, rfl, rfl⟩
   conv=>whnf
   refine ⟨_, P130 r_2 (({ Look := (-1), After := (([] : List TPlan0)) } : TPlan)) r_27 hc28, fun rs hrs => ?_⟩
   subst hrs
   refine ⟨rfl, ?_⟩
   conv=>whnf
   refine cB h (fun hb29 h => ?_) (fun hb29 h => ?_)
   ·conv=>whnf
    obtain ⟨r_30, hc31, h⟩ := bS h
    refine PC.ecall_lend ?_ ⟨_, _, func13, rfl, rfl⟩
    conv=>whnf
    refine ⟨_, P130 (({ Field := ({ Clocks := ({ Segments := (([] : List TSegment)), Far := (([] : List (List Int))) } : TClocks), Pairs := (([] : List TPair)), Runners := (([] : List TRunner)) } : TField), Runner := 0, Looks := (([] : List TLook)) } : TQuestion)) (({ Look := (-1), After := (([] : List TPlan0)) } : TPlan)) r_30 hc31, fun rs hrs => ?_⟩
    subst hrs
    refine ⟨rfl, ?_⟩
    conv=>whnf
    refine cB h (fun hb32 h => ?_) (fun hb32 h => ?_)
    ·conv=>whnf
     obtain ⟨r_33, hc34, h⟩ := bS h
     refine PC.ecall_lend ?_ ⟨_, _, func17, rfl, rfl⟩
     conv=>whnf
     refine ⟨_, P125 1000 (({ Look := (-1), After := (([] : List TPlan0)) } : TPlan)) r_33 hc34, fun rs hrs => ?_⟩
     subst hrs
     refine ⟨rfl, ?_⟩
     conv=>whnf
     refine cB h (fun hb35 h => ?_) (fun hb35 h => ?_)
     ·conv=>whnf
      obtain ⟨r_36, hc37, h⟩ := bS h
      refine PC.ecall (P125 1000 (({ Look := 0, After := (([(pTPlan ({ Look := (-1), After := (([] : List TPlan0)) } : TPlan)), (pTPlan ({ Look := (-1), After := (([] : List TPlan0)) } : TPlan))] : List TPlan0)) } : TPlan)) r_36 hc37) (fun rs hrs => ?_)
      subst hrs
      conv=>whnf
      cases h
      exact Wk.mk2 [] 3 rfl rfl (by decide) rfl trivial ⟨rr, rr, rr, rr, rr, rr, rr, rr, rr, rr, rr, trivial⟩
     conv=>whnf
     cases h
     exact Wk.mk2 [] 3 rfl rfl (by decide) rfl trivial ⟨rr, rr, rr, rr, rr, rr, rr, rr, rr, rr, rr, trivial⟩
    conv=>whnf
    cases h
    exact Wk.mk2 [] 3 rfl rfl (by decide) rfl trivial ⟨rr, rr, rr, rr, rr, rr, rr, rr, rr, rr, rr, trivial⟩
   conv=>whnf
   cases h
   exact Wk.mk2 [] 3 rfl rfl (by decide) rfl trivial ⟨rr, rr, rr, rr, rr, rr, rr, rr, rr, rr, rr, trivial⟩
  conv=>whnf
  cases h
  exact Wk.mk2 [] 3 rfl rfl (by decide) rfl trivial ⟨rr, rr, rr, rr, rr, rr, rr, rr, rr, rr, rr, trivial⟩
 clear hv23
 conv=>whnf
 refine Tr.weak hw ?_
 refine Tr.seq ?_
 refine Tr.cutQ1 ([(0, .d (.b (one_22 && (r_5 && ((r_4 == 0) && ((!r_8) && (r_10 && ((r_11 == 0) && ((!r_13) && ((r_14 == 0) && ((r_17 == 1) && (r_20 == 3))))))))))))]) ([]) ?_ (fun T1 H1 hw => ?_)
 ·refine rg ?_
  conv=>whnf
  refine condS_mk (fun hb39 => ?_) (fun hb39 => ?_)
  ·conv=>whnf
   refine condS_mk (fun hb40 => ?_) (fun hb40 => ?_)
   ·conv=>whnf
    refine condS_mk (fun hb41 => ?_) (fun hb41 => ?_)
    ·conv=>whnf
     refine condS_mk (fun hb42 => ?_) (fun hb42 => ?_)
     ·conv=>whnf
      refine condS_mk (fun hb43 => ?_) (fun hb43 => ?_)
      ·conv=>whnf
       refine condS_mk (fun hb44 => ?_) (fun hb44 => ?_)
       ·conv=>whnf
        refine condS_mk (fun hb45 => ?_) (fun hb45 => ?_)
        ·conv=>whnf
         refine condS_mk (fun hb46 => ?_) (fun hb46 => ?_)
         ·conv=>whnf
          refine condS_mk (fun hb47 => ?_) (fun hb47 => ?_)
          ·conv=>whnf
           exact Wk.mk2 [] 0 rfl rfl (by decide) rfl trivial ⟨⟨rfl, (by first | rfl | (simp only [↓hb39, ↓hb40, ↓hb41, ↓hb42, ↓hb43, ↓hb44, ↓hb45, ↓hb46, ↓hb47, bl, List.length_set]; done) | (simp only [↓hb39, ↓hb40, ↓hb41, ↓hb42, ↓hb43, ↓hb44, ↓hb45, ↓hb46, ↓hb47, bl, List.length_set]; rfl))⟩, trivial⟩
          conv=>whnf
          exact Wk.mk2 [] 0 rfl rfl (by decide) rfl trivial ⟨⟨rfl, (by first | rfl | (simp only [↓hb39, ↓hb40, ↓hb41, ↓hb42, ↓hb43, ↓hb44, ↓hb45, ↓hb46, ↓hb47, bl, List.length_set]; done) | (simp only [↓hb39, ↓hb40, ↓hb41, ↓hb42, ↓hb43, ↓hb44, ↓hb45, ↓hb46, ↓hb47, bl, List.length_set]; rfl))⟩, trivial⟩
         conv=>whnf
         exact Wk.mk2 [] 0 rfl rfl (by decide) rfl trivial ⟨⟨rfl, (by first | rfl | (simp only [↓hb39, ↓hb40, ↓hb41, ↓hb42, ↓hb43, ↓hb44, ↓hb45, ↓hb46, bl, List.length_set]; done) | (simp only [↓hb39, ↓hb40, ↓hb41, ↓hb42, ↓hb43, ↓hb44, ↓hb45, ↓hb46, bl, List.length_set]; rfl))⟩, trivial⟩
        conv=>whnf
        exact Wk.mk2 [] 0 rfl rfl (by decide) rfl trivial ⟨⟨rfl, (by first | rfl | (simp only [↓hb39, ↓hb40, ↓hb41, ↓hb42, ↓hb43, ↓hb44, ↓hb45, bl, List.length_set]; done) | (simp only [↓hb39, ↓hb40, ↓hb41, ↓hb42, ↓hb43, ↓hb44, ↓hb45, bl, List.length_set]; rfl))⟩, trivial⟩
       conv=>whnf
       exact Wk.mk2 [] 0 rfl rfl (by decide) rfl trivial ⟨⟨rfl, (by first | rfl | (simp only [↓hb39, ↓hb40, ↓hb41, ↓hb42, ↓hb43, ↓hb44, bl, List.length_set]; done) | (simp only [↓hb39, ↓hb40, ↓hb41, ↓hb42, ↓hb43, ↓hb44, bl, List.length_set]; rfl))⟩, trivial⟩
      conv=>whnf
      exact Wk.mk2 [] 0 rfl rfl (by decide) rfl trivial ⟨⟨rfl, (by first | rfl | (simp only [↓hb39, ↓hb40, ↓hb41, ↓hb42, ↓hb43, bl, List.length_set]; done) | (simp only [↓hb39, ↓hb40, ↓hb41, ↓hb42, ↓hb43, bl, List.length_set]; rfl))⟩, trivial⟩
     conv=>whnf
     exact Wk.mk2 [] 0 rfl rfl (by decide) rfl trivial ⟨⟨rfl, (by first | rfl | (simp only [↓hb39, ↓hb40, ↓hb41, ↓hb42, bl, List.length_set]; done) | (simp only [↓hb39, ↓hb40, ↓hb41, ↓hb42, bl, List.length_set]; rfl))⟩, trivial⟩
    conv=>whnf
    exact Wk.mk2 [] 0 rfl rfl (by decide) rfl trivial ⟨⟨rfl, (by first | rfl | (simp only [↓hb39, ↓hb40, ↓hb41, bl, List.length_set]; done) | (simp only [↓hb39, ↓hb40, ↓hb41, bl, List.length_set]; rfl))⟩, trivial⟩
   conv=>whnf
   exact Wk.mk2 [] 0 rfl rfl (by decide) rfl trivial ⟨⟨rfl, (by first | rfl | (simp only [↓hb39, ↓hb40, bl, List.length_set]; done) | (simp only [↓hb39, ↓hb40, bl, List.length_set]; rfl))⟩, trivial⟩
  conv=>whnf
  exact Wk.mk2 [] 0 rfl rfl (by decide) rfl trivial ⟨⟨rfl, (by first | rfl | (simp only [↓hb39, bl, List.length_set]; done) | (simp only [↓hb39, bl, List.length_set]; rfl))⟩, trivial⟩
 conv=>whnf
 refine Tr.weak hw ?_
 refine Tr.ret ?_
 conv=>whnf
 cases h
 rfl
end Go.Proofs.Try
