/- Plain laws: what clocks are valid. No condition. -/
import Derived.Test.YthandbiapckgkaaP0
namespace Go.Stop
open Go Go.Abs

theorem cmp_eq (a b : Int) : m_cmp_Compare_int a b = some (if a < b then -1 else if b < a then 1 else 0) := by
  unfold m_cmp_Compare_int m_cmp_isNaN_int
  simp only [some_bind, bne_self_eq_false, cond_false, bif_dec]
  split
  · rfl
  · split
    · rfl
    · rfl
theorem or2_eq (a b : Int) : m_cmp_Or_int [a, b] = some (if a ≠ 0 then a else b) := by
  have s0 : m_cmp_Or_int [a, b] = bif a != 0 then some a else m_cmp_Or_int_L1 [a, b] m_cmp_Or_int_J2 2 1 := rfl
  have s1 : m_cmp_Or_int_L1 [a, b] m_cmp_Or_int_J2 2 1 = bif b != 0 then some b else m_cmp_Or_int_L1 [a, b] m_cmp_Or_int_J2 1 2 := rfl
  have s2 : m_cmp_Or_int_L1 [a, b] m_cmp_Or_int_J2 1 2 = some 0 := rfl
  rw [s0, s1, s2, bif_ne, bif_ne]
  by_cases ha : a = 0
  · by_cases hb : b = 0
    · simp [ha, hb]
    · simp [ha, hb]
  · simp [ha]

def SegLt (y x : TSegment) : Prop := y.Mat < x.Mat ∨ y.Mat = x.Mat ∧ y.Epoch < x.Epoch
theorem order_eq (y x : TSegment) : ∃ r, m_clocks_order y x = some r ∧ (r ≥ 0 ↔ ¬SegLt y x) := by
  unfold m_clocks_order m_clocks_place_compare SegLt
  simp only [cmp_eq, some_bind, or2_eq]
  refine ⟨_, rfl, ?_⟩
  by_cases h1 : y.Mat < x.Mat
  · simp [h1]
  · by_cases h2 : x.Mat < y.Mat
    · simp [h1, h2]; omega
    · have : y.Mat = x.Mat := by omega
      simp only [this, Int.lt_irrefl, if_false, ne_eq, not_true, false_or, true_and]
      by_cases h3 : y.Epoch < x.Epoch
      · rw [if_pos h3]; omega
      · rw [if_neg h3]
        split <;> omega
theorem less_eq (y x : TSegment) : ∃ r, m_stopwatchref16_less y x = some r ∧ (r = true ↔ SegLt y x) := by
  unfold m_stopwatchref16_less SegLt
  by_cases h1 : y.Mat < x.Mat
  · exact ⟨true, by simp [h1], by simp [h1]⟩
  · rw [bif_dec, if_neg h1, bif_eq]
    by_cases h2 : y.Mat = x.Mat
    · exact ⟨decide (y.Epoch < x.Epoch), by rw [if_pos h2], by simp [h2]⟩
    · exact ⟨false, by rw [if_neg h2], by simp [h2]; omega⟩
theorem time_eq (n : Int) : m_clocks_isTime n = some (decide (-1099511627776 ≤ n ∧ n ≤ 1099511627776)) := by
  unfold m_clocks_isTime; rw [bif_dec]; split
  · congr 1; simp; omega
  · congr 1; symm; simp; omega
theorem time16_eq (n : Int) : m_stopwatchref16_time n = some (decide (-1099511627776 ≤ n ∧ n ≤ 1099511627776)) := time_eq n

/-- One segment, with the one before it. -/
def SegOK (l : List TSegment) (i : Nat) : Prop := ∀ x, l[i]? = some x → 0 ≤ x.Mat ∧ x.Mat < 40 ∧ 0 ≤ x.Epoch ∧ x.Epoch ≤ 255 ∧ (-1099511627776 ≤ x.Anchor ∧ x.Anchor ≤ 1099511627776) ∧ (0 < i → ∀ y, l[i - 1]? = some y → SegLt y x)

theorem pred_nat {i : Nat} (h : 0 < i) (h' : i < 9223372036854775807) : w64 ((i : Int) - 1) = ((i - 1 : Nat) : Int) := by
  rw [w64_of (by omega) (by omega)]; omega

theorem clocks_L1 {k : TClocks} {kk : Unit → Option Int} (hl : k.Segments.length < 9223372036854775807) : m_clocks_Check_L1 k kk (k.Segments.length + 1) 0 = chk (∀ i, i < k.Segments.length → SegOK k.Segments i) 160 (kk ()) := by
  refine chk_loop (f := fun n i => m_clocks_Check_L1 k kk n (i : Int)) (fun n i hi => ?_) (fun n => ?_)
  · show m_clocks_Check_L1 k kk (n + 1) (i : Int) = _
    rw [m_clocks_Check_L1, dec_lt_nat, decide_eq_true hi, cond_true, idx_lt hi, some_bind, w64_succ (by omega)]
    have hx : k.Segments[i]? = some k.Segments[i] := by simp [hi]
    generalize k.Segments[i] = x at hx
    refine bind_chk ?_
    have hs : SegOK k.Segments i ↔ (0 ≤ x.Mat ∧ x.Mat < 40 ∧ 0 ≤ x.Epoch ∧ x.Epoch ≤ 255 ∧ (-1099511627776 ≤ x.Anchor ∧ x.Anchor ≤ 1099511627776) ∧ (0 < i → ∀ y, k.Segments[i - 1]? = some y → SegLt y x)) := by
      unfold SegOK; rw [hx]; simp
    rw [hs]
    simp only [bif_dec, time_eq, some_bind]
    by_cases h1 : x.Mat < 0
    · exact ⟨true, if_pos h1, by simp; omega⟩
    rw [if_neg h1]
    by_cases h2 : x.Mat ≥ 40
    · exact ⟨true, if_pos h2, by simp; omega⟩
    rw [if_neg h2]
    by_cases h3 : x.Epoch < 0
    · exact ⟨true, if_pos h3, by simp; omega⟩
    rw [if_neg h3]
    by_cases h4 : x.Epoch > 255
    · exact ⟨true, if_pos h4, by simp; omega⟩
    rw [if_neg h4]
    by_cases h5 : -1099511627776 ≤ x.Anchor ∧ x.Anchor ≤ 1099511627776
    · rw [decide_eq_true h5, Bool.not_true, cond_false]
      by_cases h6 : (i : Int) > 0
      · rw [if_pos h6]
        have h7 : 0 < i := by omega
        have h8 : i - 1 < k.Segments.length := by omega
        rw [pred_nat h7 (by omega), idx_lt h8, some_bind]
        obtain ⟨r, h9, h10⟩ := order_eq k.Segments[i - 1] x
        rw [h9, some_bind]
        refine ⟨_, rfl, ?_⟩
        rw [decide_eq_true_iff, h10]
        constructor
        · intro h11 h12
          exact h11 (h12.2.2.2.2.2 h7 _ (by simp [h8]))
        · intro h11 h12
          refine h11 ⟨by omega, by omega, by omega, by omega, h5, fun _ y hy => ?_⟩
          rw [List.getElem?_eq_getElem h8] at hy
          cases hy
          exact h12
      · rw [if_neg h6]
        refine ⟨false, rfl, ?_⟩
        simp only [Bool.false_eq_true, false_iff, Classical.not_not]
        exact ⟨by omega, by omega, by omega, by omega, h5, fun h => by omega⟩
    · rw [decide_eq_false h5, Bool.not_false, cond_true]
      refine ⟨true, rfl, ?_⟩
      simp only [true_iff]
      exact fun h => h5 h.2.2.2.2.1
  · show m_clocks_Check_L1 k kk (n + 1) ((k.Segments.length : Nat) : Int) = _
    rw [m_clocks_Check_L1]
    simp

theorem ref16_L1 {k : TClocks} {kk : Unit → Option Int} (hl : k.Segments.length < 9223372036854775807) : m_stopwatchref16_Check_L1 k kk (k.Segments.length + 1) 0 = chk (∀ i, i < k.Segments.length → SegOK k.Segments i) 160 (kk ()) := by
  refine chk_loop (f := fun n i => m_stopwatchref16_Check_L1 k kk n (i : Int)) (fun n i hi => ?_) (fun n => ?_)
  · show m_stopwatchref16_Check_L1 k kk (n + 1) (i : Int) = _
    rw [m_stopwatchref16_Check_L1, dec_lt_nat, decide_eq_true hi, cond_true, idx_lt hi, some_bind, w64_succ (by omega)]
    have hx : k.Segments[i]? = some k.Segments[i] := by simp [hi]
    generalize k.Segments[i] = x at hx
    refine bind_chk ?_
    have hs : SegOK k.Segments i ↔ (0 ≤ x.Mat ∧ x.Mat < 40 ∧ 0 ≤ x.Epoch ∧ x.Epoch ≤ 255 ∧ (-1099511627776 ≤ x.Anchor ∧ x.Anchor ≤ 1099511627776) ∧ (0 < i → ∀ y, k.Segments[i - 1]? = some y → SegLt y x)) := by
      unfold SegOK; rw [hx]; simp
    rw [hs]
    simp only [bif_dec, time16_eq, some_bind]
    by_cases h1 : x.Mat < 0
    · exact ⟨true, if_pos h1, by simp; omega⟩
    rw [if_neg h1]
    by_cases h2 : x.Mat ≥ 40
    · exact ⟨true, if_pos h2, by simp; omega⟩
    rw [if_neg h2]
    by_cases h3 : x.Epoch < 0
    · exact ⟨true, if_pos h3, by simp; omega⟩
    rw [if_neg h3]
    by_cases h4 : x.Epoch > 255
    · exact ⟨true, if_pos h4, by simp; omega⟩
    rw [if_neg h4]
    by_cases h5 : -1099511627776 ≤ x.Anchor ∧ x.Anchor ≤ 1099511627776
    · rw [decide_eq_true h5, Bool.not_true, cond_false]
      by_cases h6 : (i : Int) > 0
      · rw [if_pos h6]
        have h7 : 0 < i := by omega
        have h8 : i - 1 < k.Segments.length := by omega
        rw [pred_nat h7 (by omega), idx_lt h8, some_bind]
        obtain ⟨r, h9, h10⟩ := less_eq k.Segments[i - 1] x
        rw [h9, some_bind]
        refine ⟨_, rfl, ?_⟩
        rw [Bool.not_eq_true', ← Bool.not_eq_true, h10]
        constructor
        · intro h11 h12
          exact h11 (h12.2.2.2.2.2 h7 _ (by simp [h8]))
        · intro h11 h12
          refine h11 ⟨by omega, by omega, by omega, by omega, h5, fun _ y hy => ?_⟩
          rw [List.getElem?_eq_getElem h8] at hy
          cases hy
          exact h12
      · rw [if_neg h6]
        refine ⟨false, rfl, ?_⟩
        simp only [Bool.false_eq_true, false_iff, Classical.not_not]
        exact ⟨by omega, by omega, by omega, by omega, h5, fun h => by omega⟩
    · rw [decide_eq_false h5, Bool.not_false, cond_true]
      refine ⟨true, rfl, ?_⟩
      simp only [true_iff]
      exact fun h => h5 h.2.2.2.2.1
  · show m_stopwatchref16_Check_L1 k kk (n + 1) ((k.Segments.length : Nat) : Int) = _
    rw [m_stopwatchref16_Check_L1]
    simp

/-- An entry of the matrix. -/
def at2 (l : List (List Int)) (i j : Nat) : Int := ((l[i]?.getD [])[j]?).getD 0
def Entry (w : Int) : Prop := -2199023255552 ≤ w ∧ w ≤ 2199023255552
/-- One row of the matrix. -/
def RowOK (k : TClocks) (i : Nat) : Prop := (k.Far[i]?.getD []).length = k.Segments.length + 1 ∧ at2 k.Far i i = 0 ∧ ∀ j, j < k.Segments.length + 1 → Entry (at2 k.Far i j)
def TriOK (k : TClocks) : Prop := ∀ i, i < k.Segments.length + 1 → ∀ j, j < k.Segments.length + 1 → ∀ m, m < k.Segments.length + 1 → ¬at2 k.Far i m > w64 (at2 k.Far i j + at2 k.Far j m)

theorem idx2 {l : List (List Int)} {i j : Nat} {row : List Int} (h : l[i]? = some row) (hj : j < row.length) : idx row (j : Int) = some (at2 l i j) := by
  rw [idx_lt hj]; unfold at2; rw [h]; simp [hj]

theorem contains_eq (row : List Int) (hl : row.length < 9223372036854775807) : ∃ b, m_slices_ContainsFunc_int_int_with_clocks_Check_1 row = some b ∧ (b = true ↔ ∃ j, j < row.length ∧ ¬Entry (row[j]?.getD 0)) := by
  unfold m_slices_ContainsFunc_int_int_with_clocks_Check_1 m_slices_IndexFunc_int_int_with_clocks_Check_1
  rw [fuel_sub]
  obtain ⟨r, h1, h2⟩ := find_loop (N := row.length) (f := fun n i => m_slices_IndexFunc_int_int_with_clocks_Check_1_L1 row m_slices_IndexFunc_int_int_with_clocks_Check_1_J2 n (i : Int)) (p := fun j => ¬Entry (row[j]?.getD 0)) (fun n i hi => by
    show m_slices_IndexFunc_int_int_with_clocks_Check_1_L1 row _ (n + 1) (i : Int) = _
    rw [m_slices_IndexFunc_int_int_with_clocks_Check_1_L1, dec_lt_nat, decide_eq_true hi, cond_true, idx_lt hi, some_bind, w64_succ (by omega)]
    have hx : row[i]?.getD 0 = row[i] := by simp [hi]
    rw [hx]
    generalize row[i] = w
    unfold m_clocks_Check_1 Entry
    rw [bif_dec]
    by_cases h1 : w < -2199023255552
    · rw [if_pos h1, some_bind, cond_true, if_pos (by omega)]
    · rw [if_neg h1, some_bind, bif_dec]
      by_cases h2 : w > 2199023255552
      · rw [if_pos h2, if_pos (by omega)]
      · rw [if_neg h2, if_neg (by omega)]) (fun n => by
    show m_slices_IndexFunc_int_int_with_clocks_Check_1_L1 row _ (n + 1) ((row.length : Nat) : Int) = _
    rw [m_slices_IndexFunc_int_int_with_clocks_Check_1_L1]
    simp [m_slices_IndexFunc_int_int_with_clocks_Check_1_J2])
  refine ⟨decide (r ≥ 0), ?_, by rw [decide_eq_true_iff]; exact h2⟩
  have h1 : m_slices_IndexFunc_int_int_with_clocks_Check_1_L1 row m_slices_IndexFunc_int_int_with_clocks_Check_1_J2 (row.length + 1) 0 = some r := h1
  rw [h1]; rfl

theorem clocks_L2 {k : TClocks} {kk : Unit → Option Int} (hl : k.Segments.length ≤ 511) (hf : k.Far.length = k.Segments.length + 1) : m_clocks_Check_L2 k kk (k.Far.length + 1) 0 = chk (∀ i, i < k.Far.length → RowOK k i) 160 (kk ()) := by
  refine chk_loop (f := fun n i => m_clocks_Check_L2 k kk n (i : Int)) (fun n i hi => ?_) (fun n => ?_)
  · show m_clocks_Check_L2 k kk (n + 1) (i : Int) = _
    rw [m_clocks_Check_L2, dec_lt_nat, decide_eq_true hi, cond_true, idx_lt hi, some_bind, w64_succ (by omega), w64_succ (by omega)]
    have hx : k.Far[i]? = some k.Far[i] := by simp [hi]
    generalize k.Far[i] = row at hx
    rw [bif_ne]
    have hr : RowOK k i ↔ row.length = k.Segments.length + 1 ∧ at2 k.Far i i = 0 ∧ ∀ j, j < k.Segments.length + 1 → Entry (at2 k.Far i j) := by
      unfold RowOK; rw [hx]; rfl
    by_cases h1 : row.length = k.Segments.length + 1
    · rw [if_pos (by omega), idx2 hx (by omega), some_bind, bif_ne]
      by_cases h2 : at2 k.Far i i = 0
      · rw [if_pos h2]
        obtain ⟨b, h3, h4⟩ := contains_eq row (by omega)
        rw [h3]
        refine bind_chk ⟨b, rfl, ?_⟩
        rw [h4, hr, h1]
        constructor
        · rintro ⟨j, h5, h6⟩ ⟨_, _, h7⟩
          have := h7 j h5
          unfold at2 at this
          rw [hx] at this
          exact h6 this
        · intro h5
          refine Classical.byContradiction fun h6 => h5 ⟨rfl, h2, fun j hj => Classical.byContradiction fun h7 => h6 ⟨j, hj, fun h8 => h7 ?_⟩⟩
          unfold at2
          rw [hx]
          exact h8
      · rw [if_neg h2, chk_neg (fun h => h2 (hr.1 h).2.1)]
    · rw [if_neg (by omega), chk_neg (fun h => h1 (hr.1 h).1)]
  · show m_clocks_Check_L2 k kk (n + 1) ((k.Far.length : Nat) : Int) = _
    rw [m_clocks_Check_L2]
    simp

/-- What rows that are right give. -/
theorem rows_get {k : TClocks} (h : ∀ i, i < k.Far.length → RowOK k i) (hf : k.Far.length = k.Segments.length + 1) {i : Nat} (hi : i < k.Segments.length + 1) : ∃ row, k.Far[i]? = some row ∧ idx k.Far (i : Int) = some row ∧ row.length = k.Segments.length + 1 := by
  have hi' : i < k.Far.length := by omega
  refine ⟨k.Far[i], by simp [hi'], idx_lt hi', ?_⟩
  have := (h i hi').1
  simpa [hi'] using this

theorem clocks_L5 {k : TClocks} {kk : Unit → Option Int} (hl : k.Segments.length ≤ 511) (hf : k.Far.length = k.Segments.length + 1) (h : ∀ i, i < k.Far.length → RowOK k i) {i j : Nat} (hi : i < k.Segments.length + 1) {x : Int} {row : List Int} (hr : k.Far[j]? = some row) (hrl : row.length = k.Segments.length + 1) :
    m_clocks_Check_L5 k i x row kk (row.length + 1) 0 = chk (∀ m, m < row.length → ¬at2 k.Far i m > w64 (x + at2 k.Far j m)) 160 (kk ()) := by
  refine chk_loop (f := fun n m => m_clocks_Check_L5 k i x row kk n (m : Int)) (fun n m hm => ?_) (fun n => ?_)
  · show m_clocks_Check_L5 k i x row kk (n + 1) (m : Int) = _
    obtain ⟨row', h1, h2, h3⟩ := rows_get h hf hi
    rw [m_clocks_Check_L5, dec_lt_nat, decide_eq_true hm, cond_true, idx2 hr hm, some_bind, h2, some_bind, idx2 h1 (by omega), some_bind, w64_succ (by omega), bif_dec]
    by_cases h4 : at2 k.Far i m > w64 (x + at2 k.Far j m)
    · rw [if_pos h4, chk_neg (fun h => h h4)]
    · rw [if_neg h4, chk_pos h4]
  · show m_clocks_Check_L5 k i x row kk (n + 1) ((row.length : Nat) : Int) = _
    rw [m_clocks_Check_L5]
    simp

theorem clocks_L4 {k : TClocks} {kk : Unit → Option Int} (hl : k.Segments.length ≤ 511) (hf : k.Far.length = k.Segments.length + 1) (h : ∀ i, i < k.Far.length → RowOK k i) {i : Nat} (hi : i < k.Segments.length + 1) {row : List Int} (hr : k.Far[i]? = some row) (hrl : row.length = k.Segments.length + 1) :
    m_clocks_Check_L4 k i row kk (row.length + 1) 0 = chk (∀ j, j < row.length → ∀ m, m < k.Segments.length + 1 → ¬at2 k.Far i m > w64 (at2 k.Far i j + at2 k.Far j m)) 160 (kk ()) := by
  refine chk_loop (f := fun n j => m_clocks_Check_L4 k i row kk n (j : Int)) (fun n j hj => ?_) (fun n => ?_)
  · show m_clocks_Check_L4 k i row kk (n + 1) (j : Int) = _
    obtain ⟨row', h1, h2, h3⟩ := rows_get h hf (i := j) (by omega)
    rw [m_clocks_Check_L4, dec_lt_nat, decide_eq_true hj, cond_true, idx2 hr hj, some_bind, h2, some_bind, fuel_sub, clocks_L5 hl hf h hi h1 h3, h3]
    show chk _ _ (m_clocks_Check_L4 k i row kk n (w64 ((j : Int) + 1))) = _
    rw [w64_succ (by omega)]
  · show m_clocks_Check_L4 k i row kk (n + 1) ((row.length : Nat) : Int) = _
    rw [m_clocks_Check_L4]
    simp

theorem clocks_L3 {k : TClocks} {kk : Unit → Option Int} (hl : k.Segments.length ≤ 511) (hf : k.Far.length = k.Segments.length + 1) (h : ∀ i, i < k.Far.length → RowOK k i) :
    m_clocks_Check_L3 k kk (k.Segments.length + 1 + 1) 0 = chk (TriOK k) 160 (kk ()) := by
  refine chk_loop (N := k.Segments.length + 1) (f := fun n i => m_clocks_Check_L3 k kk n (i : Int)) (fun n i hi => ?_) (fun n => ?_)
  · show m_clocks_Check_L3 k kk (n + 1) (i : Int) = _
    obtain ⟨row, h1, h2, h3⟩ := rows_get h hf hi
    rw [m_clocks_Check_L3, w64_succ (by omega), dec_lt_nat, decide_eq_true hi, cond_true, h2, some_bind, fuel_sub, clocks_L4 hl hf h hi h1 h3, h3]
    show chk _ _ (m_clocks_Check_L3 k kk n (w64 ((i : Int) + 1))) = _
    rw [w64_succ (by omega)]
  · show m_clocks_Check_L3 k kk (n + 1) ((k.Segments.length + 1 : Nat) : Int) = _
    rw [m_clocks_Check_L3, w64_succ (by omega)]
    simp

/-- Clocks that are valid. -/
structure ClocksOK (k : TClocks) : Prop where
  few : k.Segments.length ≤ 511
  far : k.Far.length = k.Segments.length + 1
  seg : ∀ i, i < k.Segments.length → SegOK k.Segments i
  row : ∀ i, i < k.Far.length → RowOK k i
  tri : TriOK k

theorem clocksOK_iff (k : TClocks) : ClocksOK k ↔ k.Segments.length ≤ 511 ∧ k.Far.length = k.Segments.length + 1 ∧ (∀ i, i < k.Segments.length → SegOK k.Segments i) ∧ (∀ i, i < k.Far.length → RowOK k i) ∧ TriOK k :=
  ⟨fun ⟨a, b, c, d, e⟩ => ⟨a, b, c, d, e⟩, fun ⟨a, b, c, d, e⟩ => ⟨a, b, c, d, e⟩⟩

theorem chk_and' {β : Type} {p q : Prop} {r : β} {k k' : Option β} (h : p → k = chk q r k') : chk p r k = chk (p ∧ q) r k' := by
  rw [← chk_and]; exact chk_congr Iff.rfl h

theorem clocks_Check_eq {k : TClocks} (hw : k.Segments.length < 9223372036854775807) : m_clocks_Check k = chk (ClocksOK k) 160 (some 0) := by
  unfold m_clocks_Check
  rw [bif_dec, bif_ne, fuel_sub, w64_succ (by omega), clocks_L1 (by omega)]
  have e : chk (ClocksOK k) (160 : Int) (some 0) = chk (k.Segments.length ≤ 511 ∧ k.Far.length = k.Segments.length + 1 ∧ (∀ i, i < k.Segments.length → SegOK k.Segments i) ∧ (∀ i, i < k.Far.length → RowOK k i) ∧ TriOK k) 160 (some 0) := chk_congr (clocksOK_iff k) fun _ => rfl
  rw [e]
  by_cases h1 : k.Segments.length ≤ 511
  · rw [if_neg (by omega)]
    by_cases h2 : k.Far.length = k.Segments.length + 1
    · rw [if_pos (by omega)]
      refine Eq.trans ?_ (chk_congr (p := (∀ i, i < k.Segments.length → SegOK k.Segments i) ∧ (∀ i, i < k.Far.length → RowOK k i) ∧ TriOK k) (by simp [h1, h2]) fun _ => rfl)
      refine chk_and' fun _ => ?_
      show m_clocks_Check_L2 k (m_clocks_Check_J9 k) _ 0 = _
      rw [fuel_sub, clocks_L2 h1 h2]
      refine chk_and' fun h3 => ?_
      show m_clocks_Check_L3 k m_clocks_Check_J8 _ 0 = _
      rw [w64_succ (by omega), fuel_sub, clocks_L3 h1 h2 h3]
      rfl
    · rw [if_neg (by omega), chk_neg (fun h => h2 h.2.1)]
  · rw [if_pos (by omega), chk_neg (fun h => h1 h.1)]

end Go.Stop
