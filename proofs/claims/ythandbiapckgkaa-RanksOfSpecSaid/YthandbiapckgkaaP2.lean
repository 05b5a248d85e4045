/- Plain laws: what clocks are valid, by the reference; outcomes. No condition. -/
import Derived.Test.YthandbiapckgkaaP1
namespace Go.Stop
open Go Go.Abs

theorem ref16_L3 {k : TClocks} {kk : Unit → Option Int} (hl : k.Segments.length ≤ 511) {i : Nat} {row : List Int} (h1 : k.Far[i]? = some row) (h2 : idx k.Far (i : Int) = some row) (h3 : row.length = k.Segments.length + 1) :
    m_stopwatchref16_Check_L3 k i kk (k.Segments.length + 1 + 1) 0 = chk (∀ j, j < k.Segments.length + 1 → Entry (at2 k.Far i j)) 160 (kk ()) := by
  refine chk_loop (N := k.Segments.length + 1) (f := fun n j => m_stopwatchref16_Check_L3 k i kk n (j : Int)) (fun n j hj => ?_) (fun n => ?_)
  · show m_stopwatchref16_Check_L3 k i kk (n + 1) (j : Int) = _
    rw [m_stopwatchref16_Check_L3, dec_le_nat, decide_eq_true hj, cond_true, h2, some_bind, idx2 h1 (by omega), some_bind, some_bind, idx2 h1 (by omega), some_bind, w64_succ (by omega), bif_dec, bif_dec]
    unfold Entry
    by_cases h4 : at2 k.Far i j < -2199023255552
    · rw [if_pos h4, chk_neg (by omega)]
    · rw [if_neg h4]
      by_cases h5 : at2 k.Far i j > 2199023255552
      · rw [if_pos h5, chk_neg (by omega)]
      · rw [if_neg h5, chk_pos (by omega)]
  · show m_stopwatchref16_Check_L3 k i kk (n + 1) ((k.Segments.length + 1 : Nat) : Int) = _
    rw [m_stopwatchref16_Check_L3, dec_le_nat]
    simp

theorem ref16_L2 {k : TClocks} {kk : Unit → Option Int} (hl : k.Segments.length ≤ 511) (hf : k.Far.length = k.Segments.length + 1) :
    m_stopwatchref16_Check_L2 k kk (k.Segments.length + 1 + 1) 0 = chk (∀ i, i < k.Far.length → RowOK k i) 160 (kk ()) := by
  rw [hf]
  refine chk_loop (N := k.Segments.length + 1) (f := fun n i => m_stopwatchref16_Check_L2 k kk n (i : Int)) (fun n i hi => ?_) (fun n => ?_)
  · show m_stopwatchref16_Check_L2 k kk (n + 1) (i : Int) = _
    have hi' : i < k.Far.length := by omega
    have hi2 : idx k.Far (i : Int) = some k.Far[i] := idx_lt hi'
    have hx : k.Far[i]? = some k.Far[i] := by simp [hi']
    rw [m_stopwatchref16_Check_L2, dec_le_nat, decide_eq_true hi, cond_true, hi2, some_bind, some_bind, w64_succ (by omega), bif_ne]
    generalize k.Far[i] = row at hx hi2
    have hr : RowOK k i ↔ row.length = k.Segments.length + 1 ∧ at2 k.Far i i = 0 ∧ ∀ j, j < k.Segments.length + 1 → Entry (at2 k.Far i j) := by
      unfold RowOK; rw [hx]; rfl
    by_cases h1 : row.length = k.Segments.length + 1
    · rw [if_pos (by omega), idx2 hx (by omega), some_bind, bif_ne]
      by_cases h2 : at2 k.Far i i = 0
      · rw [if_pos h2, fuel_add, ref16_L3 hl hx hi2 h1]
        show chk _ _ (m_stopwatchref16_Check_L2 k kk n (w64 ((i : Int) + 1))) = _
        rw [w64_succ (by omega)]
        exact chk_congr ⟨fun h => hr.2 ⟨h1, h2, h⟩, fun h => (hr.1 h).2.2⟩ fun _ => rfl
      · rw [if_neg h2, chk_neg (fun h => h2 (hr.1 h).2.1)]
    · rw [if_neg (by omega), chk_neg (fun h => h1 (hr.1 h).1)]
  · show m_stopwatchref16_Check_L2 k kk (n + 1) ((k.Segments.length + 1 : Nat) : Int) = _
    rw [m_stopwatchref16_Check_L2, dec_le_nat]
    simp

theorem ref16_L7 {k : TClocks} {kk : Unit → Option Int} (hl : k.Segments.length ≤ 511) (hf : k.Far.length = k.Segments.length + 1) (h : ∀ i, i < k.Far.length → RowOK k i) {i j : Nat} (hi : i < k.Segments.length + 1) (hj : j < k.Segments.length + 1) :
    m_stopwatchref16_Check_L7 k i j kk (k.Segments.length + 1 + 1) 0 = chk (∀ m, m < k.Segments.length + 1 → ¬at2 k.Far i m > w64 (at2 k.Far i j + at2 k.Far j m)) 160 (kk ()) := by
  refine chk_loop (N := k.Segments.length + 1) (f := fun n m => m_stopwatchref16_Check_L7 k i j kk n (m : Int)) (fun n m hm => ?_) (fun n => ?_)
  · show m_stopwatchref16_Check_L7 k i j kk (n + 1) (m : Int) = _
    obtain ⟨row, h1, h2, h3⟩ := rows_get h hf hi
    obtain ⟨row', h1', h2', h3'⟩ := rows_get h hf hj
    rw [m_stopwatchref16_Check_L7, dec_le_nat, decide_eq_true hm, cond_true, h2, some_bind, idx2 h1 (by omega), some_bind, some_bind, idx2 h1 (by omega), some_bind, h2', some_bind, idx2 h1' (by omega), some_bind, w64_succ (by omega), bif_dec]
    by_cases h4 : at2 k.Far i m > w64 (at2 k.Far i j + at2 k.Far j m)
    · rw [if_pos h4, chk_neg (fun h => h h4)]
    · rw [if_neg h4, chk_pos h4]
  · show m_stopwatchref16_Check_L7 k i j kk (n + 1) ((k.Segments.length + 1 : Nat) : Int) = _
    rw [m_stopwatchref16_Check_L7, dec_le_nat]
    simp

theorem ref16_L6 {k : TClocks} {kk : Unit → Option Int} (hl : k.Segments.length ≤ 511) (hf : k.Far.length = k.Segments.length + 1) (h : ∀ i, i < k.Far.length → RowOK k i) {i : Nat} (hi : i < k.Segments.length + 1) :
    m_stopwatchref16_Check_L6 k i kk (k.Segments.length + 1 + 1) 0 = chk (∀ j, j < k.Segments.length + 1 → ∀ m, m < k.Segments.length + 1 → ¬at2 k.Far i m > w64 (at2 k.Far i j + at2 k.Far j m)) 160 (kk ()) := by
  refine chk_loop (N := k.Segments.length + 1) (f := fun n j => m_stopwatchref16_Check_L6 k i kk n (j : Int)) (fun n j hj => ?_) (fun n => ?_)
  · show m_stopwatchref16_Check_L6 k i kk (n + 1) (j : Int) = _
    rw [m_stopwatchref16_Check_L6, dec_le_nat, decide_eq_true hj, cond_true, fuel_add, ref16_L7 hl hf h hi hj]
    show chk _ _ (m_stopwatchref16_Check_L6 k i kk n (w64 ((j : Int) + 1))) = _
    rw [w64_succ (by omega)]
  · show m_stopwatchref16_Check_L6 k i kk (n + 1) ((k.Segments.length + 1 : Nat) : Int) = _
    rw [m_stopwatchref16_Check_L6, dec_le_nat]
    simp

theorem ref16_L5 {k : TClocks} {kk : Unit → Option Int} (hl : k.Segments.length ≤ 511) (hf : k.Far.length = k.Segments.length + 1) (h : ∀ i, i < k.Far.length → RowOK k i) :
    m_stopwatchref16_Check_L5 k kk (k.Segments.length + 1 + 1) 0 = chk (TriOK k) 160 (kk ()) := by
  refine chk_loop (N := k.Segments.length + 1) (f := fun n i => m_stopwatchref16_Check_L5 k kk n (i : Int)) (fun n i hi => ?_) (fun n => ?_)
  · show m_stopwatchref16_Check_L5 k kk (n + 1) (i : Int) = _
    rw [m_stopwatchref16_Check_L5, dec_le_nat, decide_eq_true hi, cond_true, fuel_add, ref16_L6 hl hf h hi]
    show chk _ _ (m_stopwatchref16_Check_L5 k kk n (w64 ((i : Int) + 1))) = _
    rw [w64_succ (by omega)]
  · show m_stopwatchref16_Check_L5 k kk (n + 1) ((k.Segments.length + 1 : Nat) : Int) = _
    rw [m_stopwatchref16_Check_L5, dec_le_nat]
    simp

theorem ref16_Check_eq {k : TClocks} (hw : k.Segments.length < 9223372036854775807) : m_stopwatchref16_Check k = chk (ClocksOK k) 160 (some 0) := by
  unfold m_stopwatchref16_Check
  rw [bif_dec, bif_ne, fuel_sub, w64_succ (by omega), ref16_L1 (by omega)]
  have e : chk (ClocksOK k) (160 : Int) (some 0) = chk (k.Segments.length ≤ 511 ∧ k.Far.length = k.Segments.length + 1 ∧ (∀ i, i < k.Segments.length → SegOK k.Segments i) ∧ (∀ i, i < k.Far.length → RowOK k i) ∧ TriOK k) 160 (some 0) := chk_congr (clocksOK_iff k) fun _ => rfl
  rw [e]
  by_cases h1 : k.Segments.length ≤ 511
  · rw [if_neg (by omega)]
    by_cases h2 : k.Far.length = k.Segments.length + 1
    · rw [if_pos (by omega)]
      refine Eq.trans ?_ (chk_congr (p := (∀ i, i < k.Segments.length → SegOK k.Segments i) ∧ (∀ i, i < k.Far.length → RowOK k i) ∧ TriOK k) (by simp [h1, h2]) fun _ => rfl)
      refine chk_and' fun _ => ?_
      show m_stopwatchref16_Check_L2 k (m_stopwatchref16_Check_J11 k) _ 0 = _
      rw [fuel_add, ref16_L2 h1 h2]
      refine chk_and' fun h3 => ?_
      show m_stopwatchref16_Check_L5 k m_stopwatchref16_Check_J10 _ 0 = _
      rw [fuel_add, ref16_L5 h1 h2 h3]
      rfl
    · rw [if_neg (by omega), chk_neg (fun h => h2 h.2.1)]
  · rw [if_pos (by omega), chk_neg (fun h => h1 h.1)]

/-- An outcome that is valid with some clocks. -/
def OutOK (k : TClocks) (x : TOutcome) : Prop :=
  (x.Out = true → x.Seg = -1 ∧ x.Lo = 0 ∧ x.Hi = 0) ∧ (x.Out = false → -1 ≤ x.Seg ∧ x.Seg < k.Segments.length ∧ -288230376151711744 ≤ x.Lo ∧ x.Lo ≤ x.Hi ∧ x.Hi ≤ 288230376151711744)

theorem outcome_Check_eq {k : TClocks} {x : TOutcome} (hw : k.Segments.length < 9223372036854775807) : m_outcome_Check k x = chk (ClocksOK k) 160 (chk (OutOK k x) 230 (some 0)) := by
  unfold m_outcome_Check
  rw [clocks_Check_eq hw]
  by_cases hk : ClocksOK k
  · rw [chk_pos hk, chk_pos hk, some_bind]
    simp only [bne_self_eq_false, cond_false]
    cases ho : x.Out with
    | true =>
      unfold OutOK m_outcome_out
      rw [some_bind, ho]
      by_cases h : x.Seg = -1 ∧ x.Lo = 0 ∧ x.Hi = 0
      · obtain ⟨h1, h2, h3⟩ := h
        rw [chk_pos (by simp [h1, h2, h3])]
        simp [h1, h2, h3]
      · rw [chk_neg (by simpa using h)]
        rw [cond_true]
        have e : ((true == true) && ((x.Seg == -1) && ((x.Lo == 0) && ((x.Hi == 0) && true)))) = false := by
          rw [← Bool.not_eq_true]
          intro h'
          simp at h'
          exact h h'
        rw [e]
        rfl
    | false =>
      unfold OutOK
      rw [ho]
      by_cases h : -1 ≤ x.Seg ∧ x.Seg < k.Segments.length ∧ -288230376151711744 ≤ x.Lo ∧ x.Lo ≤ x.Hi ∧ x.Hi ≤ 288230376151711744
      · rw [chk_pos (by simpa using h)]
        obtain ⟨h1, h2, h3, h4, h5⟩ := h
        simp [h1, h2, h3, h4, h5]
      · rw [chk_neg (by simpa using h)]
        rw [cond_false]
        have e : ((decide (x.Seg ≥ -1)) && ((decide (x.Seg < (k.Segments.length : Int))) && ((decide (x.Lo ≥ -288230376151711744)) && ((decide (x.Lo ≤ x.Hi)) && (decide (x.Hi ≤ 288230376151711744)))))) = false := by
          rw [← Bool.not_eq_true]
          intro h'
          simp at h'
          exact h h'
        rw [e]
        rfl
  · rw [chk_neg hk, chk_neg hk, some_bind]
    rfl

theorem ref23_Check_eq {k : TClocks} {x : TOutcome} (hw : k.Segments.length < 9223372036854775807) : m_stopwatchref23_Check k x = chk (ClocksOK k) 160 (chk (OutOK k x) 230 (some 0)) := by
  unfold m_stopwatchref23_Check
  rw [ref16_Check_eq hw]
  by_cases hk : ClocksOK k
  · rw [chk_pos hk, chk_pos hk, some_bind]
    simp only [bne_self_eq_false, cond_false]
    cases ho : x.Out with
    | true =>
      unfold OutOK
      rw [ho, cond_true]
      by_cases h : x.Seg = -1 ∧ x.Lo = 0 ∧ x.Hi = 0
      · obtain ⟨h1, h2, h3⟩ := h
        rw [chk_pos (by simp [h1, h2, h3])]
        simp [h1, h2, h3]
      · rw [chk_neg (by simpa using h)]
        have e : ((x.Seg != -1) || ((x.Lo != 0) || (x.Hi != 0))) = true := by
          simp only [Bool.or_eq_true, bne_iff_ne]; omega
        rw [e]
        rfl
    | false =>
      unfold OutOK
      rw [ho, cond_false]
      by_cases h : -1 ≤ x.Seg ∧ x.Seg < k.Segments.length ∧ -288230376151711744 ≤ x.Lo ∧ x.Lo ≤ x.Hi ∧ x.Hi ≤ 288230376151711744
      · rw [chk_pos (by simpa using h)]
        have e : ((decide (x.Seg < -1)) || ((decide (x.Seg ≥ (k.Segments.length : Int))) || ((decide (x.Lo < -288230376151711744)) || ((decide (x.Lo > x.Hi)) || (decide (x.Hi > 288230376151711744)))))) = false := by
          rw [← Bool.not_eq_true]
          simp only [Bool.or_eq_true, decide_eq_true_eq]; omega
        rw [e]
        rfl
      · rw [chk_neg (by simpa using h)]
        have e : ((decide (x.Seg < -1)) || ((decide (x.Seg ≥ (k.Segments.length : Int))) || ((decide (x.Lo < -288230376151711744)) || ((decide (x.Lo > x.Hi)) || (decide (x.Hi > 288230376151711744)))))) = true := by
          simp only [Bool.or_eq_true, decide_eq_true_eq]; omega
        rw [e]
        rfl
  · rw [chk_neg hk, chk_neg hk, some_bind]
    rfl

end Go.Stop
