/- Contracts of functions, by program (gen.py). No condition. -/
import Derived.Test.YtkefiomhjjoekaaL
import Derived.Test.YtkefiomhjjoekaaM
import Derived.Test.YtkefiomhjjoekaaS5
namespace Go.Proofs.Try
open Go Go.Abs Go.Stop
set_option maxRecDepth 8000
set_option linter.unusedVariables false
set_option linter.unusedSimpArgs false

theorem s_stopwatchlaw26_HistoryCheckSpec (f_1 : TField) (h_2 : THistory) (r_3 : Bool) (h : m_stopwatchlaw26_HistoryCheckSpec f_1 h_2 = some r_3) :
    PC prog 3 [(eTField f_1), (eTHistory h_2)] (fun rs => rs = [(.b r_3)]) := by
  refine PC.of_tr (cx := ⟨18, none, lay, 0⟩) layOK func3 rfl rfl rfl rfl rfl (by simp [f3]) ?_
  unfold m_stopwatchlaw26_HistoryCheckSpec at h
  refine Tr.seq ?_
  refine Tr.region layOK ?_
  conv => whnf
  refine Tr.seq ?_
  refine Tr.seq ?_
  refine Tr.region layOK ?_
  conv => whnf
  obtain ⟨r_4, hc5, h⟩ := bind_some h
  refine PC.ecall (s_stopwatchlaw26_sane r_4 hc5) (fun rs hrs => ?_)
  subst hrs
  conv => whnf
  refine Tr.cond ?_
  conv => whnf
  refine condS_bif h (fun hb6 h => ?_) (fun hb6 h => ?_)
  · refine Tr.seq ?_
    refine Tr.region layOK ?_
    conv => whnf
    refine Tr.ret ?_
    conv => whnf
    cases h
    rfl
  · refine Tr.skip ?_
    conv => whnf
    refine Tr.seq ?_
    refine Tr.seq ?_
    refine Tr.region layOK ?_
    conv => whnf
    obtain ⟨r_7, hc8, h⟩ := bind_some h
    refine PC.ecall (s_stopwatchlaw26_few f_1 h_2 r_7 hc8) (fun rs hrs => ?_)
    subst hrs
    conv => whnf
    refine Tr.cond ?_
    conv => whnf
    refine condS_bif h (fun hb9 h => ?_) (fun hb9 h => ?_)
    · refine Tr.seq ?_
      refine Tr.region layOK ?_
      conv => whnf
      refine Tr.ret ?_
      conv => whnf
      cases h
      rfl
    · refine Tr.skip ?_
      conv => whnf
      refine Tr.seq ?_
      refine Tr.draw (DrawP.seqQ layOK mixed [] [(0, 3), (1, 4), (2, 1), (3, 3), (4, 4), (5, 1), (6, 1), (7, 1)] (by kernel_rfl) ?_)
      conv => whnf
      refine ⟨_, ⟨rfl, rfl, (by (conv => whnf); (exact ⟨rfl, rfl⟩))⟩, ?_⟩
      conv => whnf
      refine ⟨_, ⟨rfl, rfl, (by (conv => whnf); (exact ⟨rfl, rfl⟩))⟩, ?_⟩
      conv => whnf
      obtain ⟨r_10, hc11, h⟩ := bind_some h
      refine ⟨_, (fun H => by (conv => whnf); (refine PC.ecall (s_history_Check f_1 h_2 r_10 hc11) (fun rs hrs => ?_)); (subst hrs); (conv => whnf); (exact ⟨rfl, rfl⟩)), ?_⟩
      conv => whnf
      refine ⟨_, ⟨rfl, rfl, (by (conv => whnf); (exact ⟨rfl, rfl⟩))⟩, ?_⟩
      conv => whnf
      refine ⟨_, ⟨rfl, rfl, (by (conv => whnf); (exact ⟨rfl, rfl⟩))⟩, ?_⟩
      conv => whnf
      obtain ⟨r_12, hc13, h⟩ := bind_some h
      refine ⟨_, (fun H => by (conv => whnf); (refine PC.ecall (s_stopwatchref26_Check f_1 h_2 r_12 hc13) (fun rs hrs => ?_)); (subst hrs); (conv => whnf); (exact ⟨rfl, rfl⟩)), ?_⟩
      conv => whnf
      refine ⟨_, (fun H => by (conv => whnf); (exact ⟨rfl, rfl⟩)), ?_⟩
      conv => whnf
      refine ⟨_, (fun H => by (conv => whnf); (exact ⟨rfl, rfl⟩)), ?_⟩
      conv => whnf
      refine Tr.ret ?_
      conv => whnf
      cases h
      rfl
end Go.Proofs.Try
