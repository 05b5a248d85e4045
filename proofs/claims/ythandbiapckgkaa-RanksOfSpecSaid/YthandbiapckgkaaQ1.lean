/- Plain laws: who is ahead, cleanly. No condition. -/
import Derived.Test.YthandbiapckgkaaQ0
namespace Go.Stop
open Go Go.Abs

/-- Keys compared. -/
def kLt : List Int → List Int → Bool
  | _, [] => false
  | [], _ :: _ => true
  | a :: s, b :: t => if a = b then kLt s t else decide (a < b)

theorem kLt_irrefl : ∀ (a : List Int), kLt a a = false
  | [] => rfl
  | a :: s => by unfold kLt; rw [if_pos rfl]; exact kLt_irrefl s
theorem kLt_trans : ∀ {a b c : List Int}, kLt a b = true → kLt b c = true → kLt a c = true
  | _, _, [], _, h => by unfold kLt at h; cases h
  | _, [], _, h, _ => by unfold kLt at h; cases h
  | [], _ :: _, _ :: _, _, _ => rfl
  | a :: s, b :: t, c :: u, h1, h2 => by
    unfold kLt at h1 h2 ⊢
    by_cases e1 : a = b
    · rw [if_pos e1] at h1
      by_cases e2 : b = c
      · rw [if_pos e2] at h2; rw [if_pos (by omega)]; exact kLt_trans h1 h2
      · rw [if_neg e2, decide_eq_true_iff] at h2; rw [if_neg (by omega), decide_eq_true_iff]; omega
    · rw [if_neg e1, decide_eq_true_iff] at h1
      by_cases e2 : b = c
      · rw [if_neg (by omega), decide_eq_true_iff]; omega
      · rw [if_neg e2, decide_eq_true_iff] at h2; rw [if_neg (by omega), decide_eq_true_iff]; omega
theorem kLt_total : ∀ {a b : List Int}, kLt a b = false → kLt b a = false → a = b
  | [], [], _, _ => rfl
  | [], _ :: _, h, _ => by unfold kLt at h; cases h
  | _ :: _, [], _, h => by unfold kLt at h; cases h
  | a :: s, b :: t, h1, h2 => by
    unfold kLt at h1 h2
    by_cases e : a = b
    · subst e
      rw [if_pos rfl] at h1 h2
      rw [kLt_total h1 h2]
    · rw [if_neg e, decide_eq_false_iff_not] at h1
      rw [if_neg (fun h => e h.symm), decide_eq_false_iff_not] at h2
      omega

theorem kLt_drop {a b : List Int} {i : Nat} (ha : i < a.length) (hb : i < b.length) : kLt (a.drop i) (b.drop i) = if a[i] = b[i] then kLt (a.drop (i + 1)) (b.drop (i + 1)) else decide (a[i] < b[i]) := by
  rw [List.drop_eq_getElem_cons ha, List.drop_eq_getElem_cons hb]; rfl
theorem kLt_end {a b : List Int} (h : b.length = 0) : kLt a b = false := by
  cases b with
  | nil => cases a <;> rfl
  | cons => simp at h
theorem kLt_start {a b : List Int} (h : a.length = 0) (h' : b.length ≠ 0) : kLt a b = true := by
  cases a with
  | nil => cases b with
    | nil => simp at h'
    | cons => rfl
  | cons => simp at h

theorem Less_eq (a b : List Int) (ha : a.length < 9223372036854775807) : m_stopwatchref25_Less a b = some (kLt a b) := by
  unfold m_stopwatchref25_Less
  rw [fuel_sub]
  have key : ∀ c i n, i + c = a.length → c ≤ n → i ≤ b.length → m_stopwatchref25_Less_L1 a b (m_stopwatchref25_Less_J2 a b) (n + 1) (i : Int) = some (kLt (a.drop i) (b.drop i)) := by
    intro c
    induction c with
    | zero =>
      intro i n h _ hb
      have : i = a.length := by omega
      subst this
      rw [m_stopwatchref25_Less_L1, dec_lt_nat, decide_eq_false (by omega), cond_false]
      unfold m_stopwatchref25_Less_J2
      rw [dec_lt_nat]
      by_cases h1 : a.length < b.length
      · rw [decide_eq_true h1, kLt_start (by simp) (by simp; omega)]
      · rw [decide_eq_false h1, kLt_end (by simp; omega)]
    | succ c ih =>
      intro i n h hn hb
      obtain ⟨n, rfl⟩ : ∃ n', n = n' + 1 := ⟨n - 1, by omega⟩
      have hi : i < a.length := by omega
      rw [m_stopwatchref25_Less_L1, dec_lt_nat, decide_eq_true hi, cond_true]
      by_cases h1 : i < b.length
      · rw [dec_lt_nat, decide_eq_true h1, cond_true, idx_lt hi, some_bind, idx_lt h1, some_bind, bif_ne, kLt_drop hi h1]
        by_cases h2 : a[i] = b[i]
        · rw [if_pos h2, if_pos h2, w64_succ (by omega), ih (i + 1) n (by omega) (by omega) (by omega)]
        · rw [if_neg h2, if_neg h2]; rfl
      · rw [dec_lt_nat, decide_eq_false h1, cond_false, kLt_end (by simp; omega)]
        unfold m_stopwatchref25_Less_J2
        rw [dec_lt_nat, decide_eq_false (by omega)]
  have := key a.length 0 a.length (by omega) (by omega) (by omega)
  simpa using this

theorem Compare_lt (a b : List Int) (ha : a.length < 9223372036854775807) : ∃ r, m_slices_Compare_int_int a b = some r ∧ decide (r < 0) = kLt a b := by
  obtain ⟨r, t, h1, h2, h3⟩ := less_compare a b ha
  rw [Less_eq a b ha] at h2
  refine ⟨r, h1, ?_⟩
  cases h2
  cases h : kLt a b with
  | true => rw [decide_eq_true_iff]; exact h3.2 h
  | false => rw [decide_eq_false_iff_not]; intro h4; rw [h3.1 h4] at h; cases h

/-- The variable of an outcome, the keys of a runner. -/
def vr (x : TOutcome) : Nat := (x.Seg + 1).toNat
def keys (f : TField) (i : Nat) : List Int := ((f.Runners[i]?).map (·.Keys)).getD []
abbrev far (f : TField) (i j : Nat) : Int := at2 f.Clocks.Far i j
abbrev nseg (f : TField) : Nat := f.Clocks.Segments.length

theorem keys_get {f : TField} {i : Nat} (h : i < f.Runners.length) : f.Runners[i].Keys = keys f i := by
  unfold keys; simp [h]
theorem keys_len {f : TField} (hs : Small f) {i : Nat} (h : i < f.Runners.length) : (keys f i).length < 9223372036854775807 := by
  rw [← keys_get h]; have := (hs.worlds _ (List.getElem_mem h)).1; omega

theorem vr_eq {k : TClocks} {x : TOutcome} (hk : ClocksOK k) (h : OutOK k x) (ho : x.Out = false) : w64 (x.Seg + 1) = (vr x : Int) ∧ vr x < k.Segments.length + 1 := by
  obtain ⟨h1, h2, _⟩ := h.2 ho
  have := hk.few
  unfold vr
  exact ⟨by rw [w64_of (by omega) (by omega)]; omega, by omega⟩

theorem far_bound {f : TField} (hf : FieldOK f) {i j : Nat} (hi : i < nseg f + 1) (hj : j < nseg f + 1) : -2199023255552 ≤ far f i j ∧ far f i j ≤ 2199023255552 :=
  (hf.clocks.row i (by rw [hf.clocks.far]; exact hi)).2.2 j hj
theorem far_self {f : TField} (hf : FieldOK f) {i : Nat} (hi : i < nseg f + 1) : far f i i = 0 :=
  (hf.clocks.row i (by rw [hf.clocks.far]; exact hi)).2.1
theorem far_tri {f : TField} (hf : FieldOK f) {i j m : Nat} (hi : i < nseg f + 1) (hj : j < nseg f + 1) (hm : m < nseg f + 1) : far f i m ≤ far f i j + far f j m := by
  have h := hf.clocks.tri i hi j hj m hm
  have h1 := far_bound hf hi hj
  have h2 := far_bound hf hj hm
  unfold far at h1 h2 ⊢
  rw [w64_of (by omega) (by omega)] at h
  omega

/-- Is a rival ahead, whose net time is greater by d? -/
def front (f : TField) (k r : Nat) (d : Int) : Bool := decide (d < 0) || (decide (d = 0) && kLt (keys f k) (keys f r))

/-- Is a rival k with the outcome y ahead of the runner r with the outcome x, whatever else holds; and can it be? -/
def forced (f : TField) (r : Nat) (x : TOutcome) (k : Nat) (y : TOutcome) : Bool := !y.Out && front f k r (y.Hi + far f (vr x) (vr y) - x.Lo)
def can (f : TField) (r : Nat) (x : TOutcome) (k : Nat) (y : TOutcome) : Bool := !y.Out && front f k r (y.Lo - far f (vr y) (vr x) - x.Hi)

theorem ahead_best_eq {f : TField} (hs : Small f) (hf : FieldOK f) {r k : Nat} (hr : r < f.Runners.length) (hk : k < f.Runners.length) {x y : TOutcome} (hx : OutOK f.Clocks x) (hy : OutOK f.Clocks y) (hxo : x.Out = false) :
    m_ranks_direction_ahead_with_ranks_best_2 f (r : Int) x (k : Int) y = some (forced f r x k y) := by
  unfold m_ranks_direction_ahead_with_ranks_best_2 m_ranks_hi m_ranks_lo m_ranks_best_1 forced front
  cases hyo : y.Out with
  | true => rfl
  | false =>
    obtain ⟨e1, h1⟩ := vr_eq hf.clocks hx hxo
    obtain ⟨e2, h2⟩ := vr_eq hf.clocks hy hyo
    obtain ⟨row, g1, g2⟩ := far_get hf.clocks h1 h2
    obtain ⟨_, _, b1, b2, b3⟩ := hx.2 hxo
    obtain ⟨_, _, b4, b5, b6⟩ := hy.2 hyo
    have b7 := far_bound hf h1 h2
    obtain ⟨c, g3, g4⟩ := Compare_lt (keys f k) (keys f r) (keys_len hs hk)
    unfold far at b7
    simp only [cond_false, some_bind, e1, e2, g1, g2, idx_lt hk, idx_lt hr, keys_get, g3, g4, Bool.not_false, Bool.true_and]
    rw [w64_of (n := y.Hi + at2 f.Clocks.Far (vr x) (vr y)) (by omega) (by omega), w64_of (by omega) (by omega)]
    generalize y.Hi + at2 f.Clocks.Far (vr x) (vr y) - x.Lo = d
    by_cases h6 : d < 0
    · simp [h6]
    · by_cases h7 : d = 0
      · simp [h7]
      · simp [h6, h7, bif_eq]

theorem late_eq {f : TField} (hs : Small f) (hf : FieldOK f) {r k : Nat} (hr : r < f.Runners.length) (hk : k < f.Runners.length) {x y : TOutcome} (hx : OutOK f.Clocks x) (hy : OutOK f.Clocks y) (hxo : x.Out = false) :
    m_stopwatchref25_late f x (r : Int) y (k : Int) = some (!forced f r x k y) := by
  obtain ⟨t, h1, h2⟩ := (by
    cases hyo : y.Out with
    | false => exact best_late hs hf (a := (k : Int)) (b := (r : Int)) ⟨by omega, by omega⟩ ⟨by omega, by omega⟩ hy hx hyo hxo
    | true => exact ⟨false, by unfold m_ranks_direction_ahead_with_ranks_best_2; rw [hyo]; rfl, by unfold m_stopwatchref25_late; rw [hyo]; rfl⟩ : ∃ t, m_ranks_direction_ahead_with_ranks_best_2 f (r : Int) x (k : Int) y = some t ∧ m_stopwatchref25_late f x (r : Int) y (k : Int) = some (!t))
  rw [ahead_best_eq hs hf hr hk hx hy hxo] at h1
  cases h1
  exact h2

theorem ahead_worst_eq {f : TField} (hs : Small f) (hf : FieldOK f) {r k : Nat} (hr : r < f.Runners.length) (hk : k < f.Runners.length) {x y : TOutcome} (hx : OutOK f.Clocks x) (hy : OutOK f.Clocks y) (hxo : x.Out = false) :
    m_ranks_direction_ahead_with_ranks_worst_2 f (r : Int) x (k : Int) y = some (can f r x k y) := by
  unfold m_ranks_direction_ahead_with_ranks_worst_2 m_ranks_hi m_ranks_lo m_ranks_worst_1 can front
  cases hyo : y.Out with
  | true => rfl
  | false =>
    obtain ⟨e1, h1⟩ := vr_eq hf.clocks hx hxo
    obtain ⟨e2, h2⟩ := vr_eq hf.clocks hy hyo
    obtain ⟨row, g1, g2⟩ := far_get hf.clocks h2 h1
    obtain ⟨_, _, b1, b2, b3⟩ := hx.2 hxo
    obtain ⟨_, _, b4, b5, b6⟩ := hy.2 hyo
    have b7 := far_bound hf h2 h1
    obtain ⟨c, g3, g4⟩ := Compare_lt (keys f k) (keys f r) (keys_len hs hk)
    unfold far at b7
    simp only [cond_false, some_bind, e1, e2, g1, g2, idx_lt hk, idx_lt hr, keys_get, g3, g4, Bool.not_false, Bool.true_and]
    rw [w64_of (n := 0 - at2 f.Clocks.Far (vr y) (vr x)) (by omega) (by omega), w64_of (n := y.Lo + _) (by omega) (by omega), w64_of (by omega) (by omega)]
    have e : y.Lo + (0 - at2 f.Clocks.Far (vr y) (vr x)) - x.Hi = y.Lo - at2 f.Clocks.Far (vr y) (vr x) - x.Hi := by omega
    rw [e]
    generalize y.Lo - at2 f.Clocks.Far (vr y) (vr x) - x.Hi = d
    by_cases h6 : d < 0
    · simp [h6]
    · by_cases h7 : d = 0
      · simp [h7]
      · simp [h6, h7, bif_eq]

theorem early_eq {f : TField} (hs : Small f) (hf : FieldOK f) {r k : Nat} (hr : r < f.Runners.length) (hk : k < f.Runners.length) {x y : TOutcome} (hx : OutOK f.Clocks x) (hy : OutOK f.Clocks y) (hxo : x.Out = false) :
    m_stopwatchref25_early f x (r : Int) y (k : Int) = some (can f r x k y) := by
  obtain ⟨t, h1, h2⟩ := (by
    cases hyo : y.Out with
    | false => exact worst_early hs hf (a := (k : Int)) (b := (r : Int)) ⟨by omega, by omega⟩ ⟨by omega, by omega⟩ hy hx hyo hxo
    | true => exact ⟨false, by unfold m_ranks_direction_ahead_with_ranks_worst_2; rw [hyo]; rfl, by unfold m_stopwatchref25_early; rw [hyo]; rfl⟩ : ∃ t, m_ranks_direction_ahead_with_ranks_worst_2 f (r : Int) x (k : Int) y = some t ∧ m_stopwatchref25_early f x (r : Int) y (k : Int) = some t)
  rw [ahead_worst_eq hs hf hr hk hx hy hxo] at h1
  cases h1
  exact h2

end Go.Stop
