/- Plain laws: RanksAheadSpec. No condition. -/
import Derived.Test.YthandbiapckgkaaP9
namespace Go.Stop
open Go Go.Abs

theorem ahead_round {f : TField} (hs : Small f) (b x : Int) (kk : Unit → Option Bool) (hk : kk () = some true) : m_stopwatchlaw25_RanksAheadSpec_L2 f b x kk 3 0 = some true := by
  have step : ∀ (n : Nat) (i : Int) (y : Int), decide (i < 2) = true → idx (([b, (bitK .i64 (BitVec.ofInt 64 b &&& BitVec.ofInt 64 3))] : List Int)) i = some y → m_stopwatchlaw25_RanksAheadSpec_L2 f b x kk (n + 1) i = m_stopwatchlaw25_RanksAheadSpec_L2 f b x kk n (w64 (i + 1)) := by
    intro n i y hi hy
    obtain ⟨⟨r1, r2, r3⟩, h1, h2⟩ := Ahead_eq hs x y
    rw [m_stopwatchlaw25_RanksAheadSpec_L2, hi, cond_true, hy, some_bind, h1, h2]
    simp
  rw [step 2 0 b (by decide) (by rfl), step 1 _ _ (by decide) (by rfl)]
  exact hk

theorem RanksAheadSpec_true (y0 : TField) (y1 : Int) (y2 : Int) (w0 : wTField y0) (_w1 : wI y1) (_w2 : wI y2) : m_stopwatchlaw25_RanksAheadSpec y0 y1 y2 = some true := by
  unfold m_stopwatchlaw25_RanksAheadSpec
  rw [sane_true, some_bind]
  obtain ⟨b, h1, h2⟩ := few_eq w0
  rw [h1]
  cases b with
  | false => rfl
  | true =>
    have hs := (h2.1 rfl).small
    have step : ∀ (n : Nat) (i : Int) (y : Int), decide (i < 2) = true → idx (([y1, (bitK .i64 (BitVec.ofInt 64 y1 &&& BitVec.ofInt 64 3))] : List Int)) i = some y → m_stopwatchlaw25_RanksAheadSpec_L1 y0 y1 y2 m_stopwatchlaw25_RanksAheadSpec_J4 n (w64 (i + 1)) = some true → m_stopwatchlaw25_RanksAheadSpec_L1 y0 y1 y2 m_stopwatchlaw25_RanksAheadSpec_J4 (n + 1) i = some true := by
      intro n i y hi hy hn
      rw [m_stopwatchlaw25_RanksAheadSpec_L1, hi, cond_true, hy, some_bind]
      exact ahead_round hs y2 y _ hn
    show m_stopwatchlaw25_RanksAheadSpec_L1 y0 y1 y2 m_stopwatchlaw25_RanksAheadSpec_J4 3 0 = some true
    exact step 2 0 y1 (by decide) rfl (step 1 _ _ (by decide) rfl rfl)

end Go.Stop
