/- Plain laws: few. No condition. -/
import Derived.Test.YthandbiapckgkaaP8
namespace Go.Stop
open Go Go.Abs

theorem few_L2 {x : TRunner} {kk : Unit → Option Bool} (h : x.Worlds.length ≤ 4) : m_stopwatchref25_Few_L2 x kk (x.Worlds.length + 1) 0 = chk (∀ w, w ∈ x.Worlds → w.length ≤ 4) false (kk ()) := by
  refine (chk_loop (ok := fun j => ∀ w, x.Worlds[j]? = some w → w.length ≤ 4) (k := kk ()) (r := false) (f := fun n j => m_stopwatchref25_Few_L2 x kk n (j : Int)) (fun n j hj => ?_) (fun n => ?_)).trans (chk_congr all_get fun _ => rfl)
  · show m_stopwatchref25_Few_L2 x kk (n + 1) (j : Int) = _
    have hx : x.Worlds[j]? = some x.Worlds[j] := by simp [hj]
    rw [m_stopwatchref25_Few_L2, dec_lt_nat, decide_eq_true hj, cond_true, idx_lt hj, some_bind, bif_dec, w64_succ (by omega), hx]
    generalize x.Worlds[j] = w
    simp only [Option.some.injEq, forall_eq']
    by_cases h1 : w.length ≤ 4
    · rw [if_neg (by omega), chk_pos h1]
    · rw [if_pos (by omega), chk_neg h1]
  · show m_stopwatchref25_Few_L2 x kk (n + 1) ((x.Worlds.length : Nat) : Int) = _
    rw [m_stopwatchref25_Few_L2]
    simp

def FewR (r : TRunner) : Prop := r.Keys.length ≤ 5 ∧ r.Worlds.length ≤ 4 ∧ ∀ w, w ∈ r.Worlds → w.length ≤ 4

theorem few_L1 {f : TField} {kk : Unit → Option Bool} (hl : f.Runners.length ≤ 9223372036854775807) : m_stopwatchref25_Few_L1 f kk (f.Runners.length + 1) 0 = chk (∀ r, r ∈ f.Runners → FewR r) false (kk ()) := by
  refine (chk_loop (ok := fun j => ∀ r, f.Runners[j]? = some r → FewR r) (k := kk ()) (r := false) (f := fun n j => m_stopwatchref25_Few_L1 f kk n (j : Int)) (fun n j hj => ?_) (fun n => ?_)).trans (chk_congr all_get fun _ => rfl)
  · show m_stopwatchref25_Few_L1 f kk (n + 1) (j : Int) = _
    have hx : f.Runners[j]? = some f.Runners[j] := by simp [hj]
    rw [m_stopwatchref25_Few_L1, dec_lt_nat, decide_eq_true hj, cond_true, idx_lt hj, some_bind, bif_dec, bif_dec, hx]
    generalize f.Runners[j] = r
    simp only [Option.some.injEq, forall_eq']
    unfold FewR
    by_cases h1 : r.Keys.length ≤ 5
    · rw [if_neg (by omega)]
      by_cases h2 : r.Worlds.length ≤ 4
      · rw [if_neg (by omega), fuel_sub, few_L2 h2]
        refine chk_congr (by simp [h1, h2]) fun _ => ?_
        show m_stopwatchref25_Few_L1 f kk n (w64 ((j : Int) + 1)) = _
        rw [w64_succ (by omega)]
      · rw [if_pos (by omega), chk_neg (fun h => h2 h.2.1)]
    · rw [if_pos (by omega), chk_neg (fun h => h1 h.1)]
  · show m_stopwatchref25_Few_L1 f kk (n + 1) ((f.Runners.length : Nat) : Int) = _
    rw [m_stopwatchref25_Few_L1]
    simp

theorem few_L4 {f : TField} {kk : Unit → Option Bool} (hl : f.Clocks.Far.length ≤ 9223372036854775807) : m_stopwatchref25_Few_L4 f kk (f.Clocks.Far.length + 1) 0 = chk (∀ r, r ∈ f.Clocks.Far → r.length ≤ 8) false (kk ()) := by
  refine (chk_loop (ok := fun j => ∀ r, f.Clocks.Far[j]? = some r → r.length ≤ 8) (k := kk ()) (r := false) (f := fun n j => m_stopwatchref25_Few_L4 f kk n (j : Int)) (fun n j hj => ?_) (fun n => ?_)).trans (chk_congr all_get fun _ => rfl)
  · show m_stopwatchref25_Few_L4 f kk (n + 1) (j : Int) = _
    have hx : f.Clocks.Far[j]? = some f.Clocks.Far[j] := by simp [hj]
    rw [m_stopwatchref25_Few_L4, dec_lt_nat, decide_eq_true hj, cond_true, idx_lt hj, some_bind, bif_dec, hx, w64_succ (by omega)]
    generalize f.Clocks.Far[j] = r
    simp only [Option.some.injEq, forall_eq']
    by_cases h1 : r.length ≤ 8
    · rw [if_neg (by omega), chk_pos h1]
    · rw [if_pos (by omega), chk_neg h1]
  · show m_stopwatchref25_Few_L4 f kk (n + 1) ((f.Clocks.Far.length : Nat) : Int) = _
    rw [m_stopwatchref25_Few_L4]
    simp

structure FewOK (f : TField) : Prop where
  runner : ∀ r, r ∈ f.Runners → FewR r
  far : ∀ r, r ∈ f.Clocks.Far → r.length ≤ 8
  runners : f.Runners.length ≤ 6
  pairs : f.Pairs.length ≤ 3
  segs : f.Clocks.Segments.length ≤ 4
  rows : f.Clocks.Far.length ≤ 6

theorem FewOK.small {f : TField} (h : FewOK f) : Small f where
  seg := by have := h.segs; omega
  pairs := by have := h.pairs; omega
  runners := by have := h.runners; omega
  worlds r hr := by
    obtain ⟨h1, h2, h3⟩ := h.runner r hr
    exact ⟨by omega, by omega, fun w hw => by have := h3 w hw; omega⟩

theorem few_eq {f : TField} (hw : wTField f) : ∃ b, m_stopwatchref25_Few f = some b ∧ (b = true ↔ FewOK f) := by
  obtain ⟨⟨_, hfar⟩, _, hrun⟩ := hw
  unfold m_stopwatchref25_Few
  rw [fuel_sub, few_L1 hrun.1]
  unfold m_stopwatchref25_Few_J6
  rw [fuel_sub, few_L4 hfar.1]
  unfold m_stopwatchref25_Few_J5
  by_cases h1 : ∀ r, r ∈ f.Runners → FewR r
  · rw [chk_pos h1]
    by_cases h2 : ∀ r, r ∈ f.Clocks.Far → r.length ≤ 8
    · rw [chk_pos h2]
      refine ⟨_, rfl, ?_⟩
      simp only [Bool.and_eq_true, decide_eq_true_eq]
      exact ⟨fun ⟨a, b, c, d⟩ => ⟨h1, h2, by omega, by omega, by omega, by omega⟩, fun h => by
        have := h.runners; have := h.pairs; have := h.segs; have := h.rows
        omega⟩
    · rw [chk_neg h2]
      exact ⟨false, rfl, by simp; exact fun h => h2 h.far⟩
  · rw [chk_neg h1]
    exact ⟨false, rfl, by simp; exact fun h => h1 h.runner⟩

end Go.Stop
