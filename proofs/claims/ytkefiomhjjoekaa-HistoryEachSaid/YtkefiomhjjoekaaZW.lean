/- Plain laws about the models. No condition. -/
import Derived.Test.YtkefiomhjjoekaaZV
import Derived.KernelRfl
namespace Go.Stop
open Go Go.Abs
set_option linter.unusedVariables false
set_option linter.unusedSimpArgs false

theorem w64_of {n : Int} (h1 : -9223372036854775808 ≤ n) (h2 : n ≤ 9223372036854775807) : w64 n = n := by
  unfold w64; simp only [IntKind.wrap, IntKind.bits, IntKind.signed]; simp; omega

theorem w64_succ {i : Nat} (h : i < 9223372036854775807) : w64 ((i : Int) + 1) = ((i + 1 : Nat) : Int) := by
  rw [w64_of (by omega) (by omega)]; rfl

theorem idx_nat {α : Type} (l : List α) (i : Nat) : idx l (i : Int) = l[i]? := by
  unfold idx; simp

theorem idx_lt {α : Type} {l : List α} {i : Nat} (h : i < l.length) : idx l (i : Int) = some l[i] := by
  rw [idx_nat]; simp [h]

theorem some_bind {α β : Type} (a : α) (f : α → Option β) : (some a).bind f = f a := rfl

theorem dec_lt_nat (i n : Nat) : decide ((i : Int) < (n : Int)) = decide (i < n) := by simp

section
open Classical

/-- A test: k if p, else r. -/
noncomputable def chk {β : Type} (p : Prop) (r : β) (k : Option β) : Option β := if p then k else some r

theorem chk_and {β : Type} (p q : Prop) (r : β) (k : Option β) : chk p r (chk q r k) = chk (p ∧ q) r k := by
  unfold chk; by_cases hp : p <;> by_cases hq : q <;> simp [hp, hq]

theorem chk_congr {β : Type} {p q : Prop} {r : β} {k k' : Option β} (h : p ↔ q) (hk : p → k = k') : chk p r k = chk q r k' := by
  unfold chk
  by_cases hp : p
  · rw [if_pos hp, if_pos (h.1 hp), hk hp]
  · rw [if_neg hp, if_neg (fun hq => hp (h.2 hq))]

/-- A loop that leaves with r at the first number that is not right. -/
theorem chk_loop {β : Type} {N : Nat} {f : Nat → Nat → Option β} {r : β} {ok : Nat → Prop} {k : Option β} (hs : ∀ n i, i < N → f (n + 1) i = chk (ok i) r (f n (i + 1))) (he : ∀ n, f (n + 1) N = k) :
    f (N + 1) 0 = chk (∀ i, i < N → ok i) r k := by
  unfold chk at hs ⊢
  have key : ∀ c i n, i + c = N → c ≤ n → f (n + 1) i = if (∀ j, i ≤ j → j < N → ok j) then k else some r := by
    intro c
    induction c with
    | zero =>
      intro i n h _
      have : i = N := by omega
      subst this
      rw [he, if_pos (fun j h1 h2 => absurd h2 (by omega))]
    | succ c ih =>
      intro i n h hn
      rw [hs n i (by omega)]
      obtain ⟨n, rfl⟩ : ∃ n', n = n' + 1 := ⟨n - 1, by omega⟩
      by_cases h1 : ok i
      · rw [if_pos h1, ih (i + 1) n (by omega) (by omega)]
        by_cases h2 : ∀ j, i + 1 ≤ j → j < N → ok j
        · rw [if_pos h2, if_pos]
          intro j hj hjN
          by_cases e : j = i
          · exact e ▸ h1
          · exact h2 j (by omega) hjN
        · rw [if_neg h2, if_neg]
          intro h3
          exact h2 fun j hj hjN => h3 j (by omega) hjN
      · rw [if_neg h1, if_neg]
        intro h3
        exact h1 (h3 i (by omega) (by omega))
  rw [key N 0 N (by omega) (by omega)]
  simp

/-- .. where the right numbers so far may be leant on. -/
theorem chk_loop' {β : Type} {N : Nat} {f : Nat → Nat → Option β} {r : β} {ok : Nat → Prop} {k : Option β} (hs : ∀ n i, i < N → (∀ j, j < i → ok j) → f (n + 1) i = chk (ok i) r (f n (i + 1))) (he : ∀ n, (∀ j, j < N → ok j) → f (n + 1) N = k) :
    f (N + 1) 0 = chk (∀ i, i < N → ok i) r k := by
  have key : ∀ c i n, i + c = N → c ≤ n → (∀ j, j < i → ok j) → f (n + 1) i = chk (∀ j, j < N → ok j) r k := by
    intro c
    induction c with
    | zero =>
      intro i n h _ hp
      have : i = N := by omega
      subst this
      rw [he n hp]; unfold chk; rw [if_pos hp]
    | succ c ih =>
      intro i n h hn hp
      rw [hs n i (by omega) hp]
      obtain ⟨n, rfl⟩ : ∃ n', n = n' + 1 := ⟨n - 1, by omega⟩
      by_cases h1 : ok i
      · rw [ih (i + 1) n (by omega) (by omega) (fun j hj => by
          by_cases e : j = i
          · exact e ▸ h1
          · exact hp j (by omega))]
        unfold chk; rw [if_pos h1]
      · unfold chk; rw [if_neg h1, if_neg (fun h3 => h1 (h3 i (by omega)))]
  exact key N 0 N (by omega) (by omega) (fun j hj => absurd hj (by omega))

/-- A loop that keeps what is known of its state. -/
theorem run_inv {σ : Type} {N : Nat} {f : Nat → Nat → σ → Option σ} {I : Nat → σ → Prop} (hs : ∀ n i s, i < N → I i s → ∃ s', I (i + 1) s' ∧ f (n + 1) i s = f n (i + 1) s') (he : ∀ n s, f (n + 1) N s = some s) {s0 : σ} (h0 : I 0 s0) :
    ∃ s, f (N + 1) 0 s0 = some s ∧ I N s := by
  have key : ∀ c i n s, i + c = N → c ≤ n → I i s → ∃ s', f (n + 1) i s = some s' ∧ I N s' := by
    intro c
    induction c with
    | zero =>
      intro i n s h _ hi
      have : i = N := by omega
      subst this
      exact ⟨s, he n s, hi⟩
    | succ c ih =>
      intro i n s h hn hi
      obtain ⟨s', h1, h2⟩ := hs n i s (by omega) hi
      obtain ⟨n, rfl⟩ : ∃ n', n = n' + 1 := ⟨n - 1, by omega⟩
      rw [h2]
      exact ih (i + 1) n s' (by omega) (by omega) h1
  exact key N 0 N s0 (by omega) (by omega) h0

/-- A loop that leaves with its number at the first that is sought. -/
theorem find_loop {N : Nat} {f : Nat → Nat → Option Int} {p : Nat → Prop} (hs : ∀ n i, i < N → f (n + 1) i = if p i then some (i : Int) else f n (i + 1)) (he : ∀ n, f (n + 1) N = some (-1)) :
    ∃ r, f (N + 1) 0 = some r ∧ (r ≥ 0 ↔ ∃ i, i < N ∧ p i) := by
  have key : ∀ c i n, i + c = N → c ≤ n → ∃ r, f (n + 1) i = some r ∧ (r ≥ 0 ↔ ∃ j, i ≤ j ∧ j < N ∧ p j) := by
    intro c
    induction c with
    | zero =>
      intro i n h _
      have : i = N := by omega
      subst this
      refine ⟨-1, he n, by simp; omega⟩
    | succ c ih =>
      intro i n h hn
      rw [hs n i (by omega)]
      obtain ⟨n, rfl⟩ : ∃ n', n = n' + 1 := ⟨n - 1, by omega⟩
      by_cases h1 : p i
      · rw [if_pos h1]
        exact ⟨_, rfl, fun _ => ⟨i, Nat.le_refl _, by omega, h1⟩, fun _ => by omega⟩
      · rw [if_neg h1]
        obtain ⟨r, h2, h3⟩ := ih (i + 1) n (by omega) (by omega)
        refine ⟨r, h2, h3.trans ⟨fun ⟨j, a, b, c⟩ => ⟨j, by omega, b, c⟩, fun ⟨j, a, b, c⟩ => ⟨j, ?_, b, c⟩⟩⟩
        by_cases e : j = i
        · exact absurd (e ▸ c) h1
        · omega
  obtain ⟨r, h1, h2⟩ := key N 0 N (by omega) (by omega)
  exact ⟨r, h1, h2.trans ⟨fun ⟨j, _, b, c⟩ => ⟨j, b, c⟩, fun ⟨j, b, c⟩ => ⟨j, by omega, b, c⟩⟩⟩

end

theorem bif_dec {β : Type} (p : Prop) [Decidable p] (a b : β) : (bif decide p then a else b) = if p then a else b := by
  by_cases h : p <;> simp [h]

theorem bif_eq {β : Type} (x y : Int) (a b : β) : (bif x == y then a else b) = if x = y then a else b := by
  rw [Bool.cond_eq_ite]; simp only [beq_iff_eq]

theorem bif_ne {β : Type} (x y : Int) (a b : β) : (bif x != y then a else b) = if x = y then b else a := by
  rw [Bool.cond_eq_ite]; simp only [bne_iff_ne, ne_eq, ite_not]

theorem chk_pos {β : Type} {p : Prop} {r : β} {k : Option β} (h : p) : chk p r k = k := by unfold chk; rw [if_pos h]

theorem chk_neg {β : Type} {p : Prop} {r : β} {k : Option β} (h : ¬p) : chk p r k = some r := by unfold chk; rw [if_neg h]

/-- A test reckoned as a bool: it says whether something is wrong. -/
theorem bind_chk {β : Type} {p : Prop} {t : Option Bool} {r : β} {k : Option β} (h : ∃ b, t = some b ∧ (b = true ↔ ¬p)) : (t.bind fun v => bif v then some r else k) = chk p r k := by
  obtain ⟨b, rfl, hb⟩ := h
  cases b with
  | true => rw [chk_neg (hb.1 rfl)]; rfl
  | false => rw [chk_pos (Classical.byContradiction fun h => by simpa using hb.2 h)]; rfl

theorem fuel_sub (n : Nat) : ((n : Int) - 0).toNat + 1 = n + 1 := by omega

theorem cmp_eq (a b : Int) : M4 a b = some (if a < b then -1 else if b < a then 1 else 0) := by
  unfold M4 M3
  simp only [some_bind, bne_self_eq_false, cond_false, bif_dec]
  split
  · rfl
  · split
    · rfl
    · rfl

theorem or2_eq (a b : Int) : M7 [a, b] = some (if a ≠ 0 then a else b) := by
  have s0 : M7 [a, b] = bif a != 0 then some a else M5 [a, b] M6 2 1 := rfl
  have s1 : M5 [a, b] M6 2 1 = bif b != 0 then some b else M5 [a, b] M6 1 2 := rfl
  have s2 : M5 [a, b] M6 1 2 = some 0 := rfl
  rw [s0, s1, s2, bif_ne, bif_ne]
  by_cases ha : a = 0
  · by_cases hb : b = 0
    · simp [ha, hb]
    · simp [ha, hb]
  · simp [ha]

def SegLt (y x : TSegment) : Prop := y.Mat < x.Mat ∨ y.Mat = x.Mat ∧ y.Epoch < x.Epoch

theorem order_eq (y x : TSegment) : ∃ r, M9 y x = some r ∧ (r ≥ 0 ↔ ¬SegLt y x) := by
  unfold M9 M8 SegLt
  simp only [cmp_eq, some_bind, or2_eq]
  refine ⟨_, rfl, ?_⟩
  by_cases h1 : y.Mat < x.Mat
  · simp [h1]
  · by_cases h2 : x.Mat < y.Mat
    · simp [h1, h2]; omega
    · have : y.Mat = x.Mat := by omega
      simp only [this, Int.lt_irrefl, if_false, ne_eq, not_true, false_or, true_and]
      by_cases h3 : y.Epoch < x.Epoch
      · rw [if_pos h3]; omega
      · rw [if_neg h3]
        split <;> omega

theorem time_eq (n : Int) : M2 n = some (decide (-1099511627776 ≤ n ∧ n ≤ 1099511627776)) := by
  unfold M2; rw [bif_dec]; split
  · congr 1; simp; omega
  · congr 1; symm; simp; omega

/-- One segment, with the one before it. -/
def SegOK (l : List TSegment) (i : Nat) : Prop := ∀ x, l[i]? = some x → 0 ≤ x.Mat ∧ x.Mat < 40 ∧ 0 ≤ x.Epoch ∧ x.Epoch ≤ 255 ∧ (-1099511627776 ≤ x.Anchor ∧ x.Anchor ≤ 1099511627776) ∧ (0 < i → ∀ y, l[i - 1]? = some y → SegLt y x)

theorem pred_nat {i : Nat} (h : 0 < i) (h' : i < 9223372036854775807) : w64 ((i : Int) - 1) = ((i - 1 : Nat) : Int) := by
  rw [w64_of (by omega) (by omega)]; omega

theorem clocks_L1 {k : TClocks} {kk : Unit → Option Int} (hl : k.Segments.length < 9223372036854775807) : M15 k kk (k.Segments.length + 1) 0 = chk (∀ i, i < k.Segments.length → SegOK k.Segments i) 160 (kk ()) := by
  refine chk_loop (f := fun n i => M15 k kk n (i : Int)) (fun n i hi => ?_) (fun n => ?_)
  · show M15 k kk (n + 1) (i : Int) = _
    rw [M15, dec_lt_nat, decide_eq_true hi, cond_true, idx_lt hi, some_bind, w64_succ (by omega)]
    have hx : k.Segments[i]? = some k.Segments[i] := by simp [hi]
    generalize k.Segments[i] = x at hx
    refine bind_chk ?_
    have hs : SegOK k.Segments i ↔ (0 ≤ x.Mat ∧ x.Mat < 40 ∧ 0 ≤ x.Epoch ∧ x.Epoch ≤ 255 ∧ (-1099511627776 ≤ x.Anchor ∧ x.Anchor ≤ 1099511627776) ∧ (0 < i → ∀ y, k.Segments[i - 1]? = some y → SegLt y x)) := by
      unfold SegOK; rw [hx]; simp
    rw [hs]
    simp only [bif_dec, time_eq, some_bind]
    by_cases h1 : x.Mat < 0
    · exact ⟨true, if_pos h1, by simp; omega⟩
    rw [if_neg h1]
    by_cases h2 : x.Mat ≥ 40
    · exact ⟨true, if_pos h2, by simp; omega⟩
    rw [if_neg h2]
    by_cases h3 : x.Epoch < 0
    · exact ⟨true, if_pos h3, by simp; omega⟩
    rw [if_neg h3]
    by_cases h4 : x.Epoch > 255
    · exact ⟨true, if_pos h4, by simp; omega⟩
    rw [if_neg h4]
    by_cases h5 : -1099511627776 ≤ x.Anchor ∧ x.Anchor ≤ 1099511627776
    · rw [decide_eq_true h5, Bool.not_true, cond_false]
      by_cases h6 : (i : Int) > 0
      · rw [if_pos h6]
        have h7 : 0 < i := by omega
        have h8 : i - 1 < k.Segments.length := by omega
        rw [pred_nat h7 (by omega), idx_lt h8, some_bind]
        obtain ⟨r, h9, h10⟩ := order_eq k.Segments[i - 1] x
        rw [h9, some_bind]
        refine ⟨_, rfl, ?_⟩
        rw [decide_eq_true_iff, h10]
        constructor
        · intro h11 h12
          exact h11 (h12.2.2.2.2.2 h7 _ (by simp [h8]))
        · intro h11 h12
          refine h11 ⟨by omega, by omega, by omega, by omega, h5, fun _ y hy => ?_⟩
          rw [List.getElem?_eq_getElem h8] at hy
          cases hy
          exact h12
      · rw [if_neg h6]
        refine ⟨false, rfl, ?_⟩
        simp only [Bool.false_eq_true, false_iff, Classical.not_not]
        exact ⟨by omega, by omega, by omega, by omega, h5, fun h => by omega⟩
    · rw [decide_eq_false h5, Bool.not_false, cond_true]
      refine ⟨true, rfl, ?_⟩
      simp only [true_iff]
      exact fun h => h5 h.2.2.2.2.1
  · show M15 k kk (n + 1) ((k.Segments.length : Nat) : Int) = _
    rw [M15]
    simp

/-- An entry of the matrix. -/
def at2 (l : List (List Int)) (i j : Nat) : Int := ((l[i]?.getD [])[j]?).getD 0

def Entry (w : Int) : Prop := -2199023255552 ≤ w ∧ w ≤ 2199023255552

/-- One row of the matrix. -/
def RowOK (k : TClocks) (i : Nat) : Prop := (k.Far[i]?.getD []).length = k.Segments.length + 1 ∧ at2 k.Far i i = 0 ∧ ∀ j, j < k.Segments.length + 1 → Entry (at2 k.Far i j)

def TriOK (k : TClocks) : Prop := ∀ i, i < k.Segments.length + 1 → ∀ j, j < k.Segments.length + 1 → ∀ m, m < k.Segments.length + 1 → ¬at2 k.Far i m > w64 (at2 k.Far i j + at2 k.Far j m)

theorem idx2 {l : List (List Int)} {i j : Nat} {row : List Int} (h : l[i]? = some row) (hj : j < row.length) : idx row (j : Int) = some (at2 l i j) := by
  rw [idx_lt hj]; unfold at2; rw [h]; simp [hj]

theorem contains_eq (row : List Int) (hl : row.length < 9223372036854775807) : ∃ b, M14 row = some b ∧ (b = true ↔ ∃ j, j < row.length ∧ ¬Entry (row[j]?.getD 0)) := by
  unfold M14 M13
  rw [fuel_sub]
  obtain ⟨r, h1, h2⟩ := find_loop (N := row.length) (f := fun n i => M11 row M12 n (i : Int)) (p := fun j => ¬Entry (row[j]?.getD 0)) (fun n i hi => by
    show M11 row _ (n + 1) (i : Int) = _
    rw [M11, dec_lt_nat, decide_eq_true hi, cond_true, idx_lt hi, some_bind, w64_succ (by omega)]
    have hx : row[i]?.getD 0 = row[i] := by simp [hi]
    rw [hx]
    generalize row[i] = w
    unfold M10 Entry
    rw [bif_dec]
    by_cases h1 : w < -2199023255552
    · rw [if_pos h1, some_bind, cond_true, if_pos (by omega)]
    · rw [if_neg h1, some_bind, bif_dec]
      by_cases h2 : w > 2199023255552
      · rw [if_pos h2, if_pos (by omega)]
      · rw [if_neg h2, if_neg (by omega)]) (fun n => by
    show M11 row _ (n + 1) ((row.length : Nat) : Int) = _
    rw [M11]
    simp [M12])
  refine ⟨decide (r ≥ 0), ?_, by rw [decide_eq_true_iff]; exact h2⟩
  have h1 : M11 row M12 (row.length + 1) 0 = some r := h1
  rw [h1]; rfl

theorem clocks_L2 {k : TClocks} {kk : Unit → Option Int} (hl : k.Segments.length ≤ 511) (hf : k.Far.length = k.Segments.length + 1) : M16 k kk (k.Far.length + 1) 0 = chk (∀ i, i < k.Far.length → RowOK k i) 160 (kk ()) := by
  refine chk_loop (f := fun n i => M16 k kk n (i : Int)) (fun n i hi => ?_) (fun n => ?_)
  · show M16 k kk (n + 1) (i : Int) = _
    rw [M16, dec_lt_nat, decide_eq_true hi, cond_true, idx_lt hi, some_bind, w64_succ (by omega), w64_succ (by omega)]
    have hx : k.Far[i]? = some k.Far[i] := by simp [hi]
    generalize k.Far[i] = row at hx
    rw [bif_ne]
    have hr : RowOK k i ↔ row.length = k.Segments.length + 1 ∧ at2 k.Far i i = 0 ∧ ∀ j, j < k.Segments.length + 1 → Entry (at2 k.Far i j) := by
      unfold RowOK; rw [hx]; rfl
    by_cases h1 : row.length = k.Segments.length + 1
    · rw [if_pos (by omega), idx2 hx (by omega), some_bind, bif_ne]
      by_cases h2 : at2 k.Far i i = 0
      · rw [if_pos h2]
        obtain ⟨b, h3, h4⟩ := contains_eq row (by omega)
        rw [h3]
        refine bind_chk ⟨b, rfl, ?_⟩
        rw [h4, hr, h1]
        constructor
        · rintro ⟨j, h5, h6⟩ ⟨_, _, h7⟩
          have := h7 j h5
          unfold at2 at this
          rw [hx] at this
          exact h6 this
        · intro h5
          refine Classical.byContradiction fun h6 => h5 ⟨rfl, h2, fun j hj => Classical.byContradiction fun h7 => h6 ⟨j, hj, fun h8 => h7 ?_⟩⟩
          unfold at2
          rw [hx]
          exact h8
      · rw [if_neg h2, chk_neg (fun h => h2 (hr.1 h).2.1)]
    · rw [if_neg (by omega), chk_neg (fun h => h1 (hr.1 h).1)]
  · show M16 k kk (n + 1) ((k.Far.length : Nat) : Int) = _
    rw [M16]
    simp

/-- What rows that are right give. -/
theorem rows_get {k : TClocks} (h : ∀ i, i < k.Far.length → RowOK k i) (hf : k.Far.length = k.Segments.length + 1) {i : Nat} (hi : i < k.Segments.length + 1) : ∃ row, k.Far[i]? = some row ∧ idx k.Far (i : Int) = some row ∧ row.length = k.Segments.length + 1 := by
  have hi' : i < k.Far.length := by omega
  refine ⟨k.Far[i], by simp [hi'], idx_lt hi', ?_⟩
  have := (h i hi').1
  simpa [hi'] using this

theorem clocks_L5 {k : TClocks} {kk : Unit → Option Int} (hl : k.Segments.length ≤ 511) (hf : k.Far.length = k.Segments.length + 1) (h : ∀ i, i < k.Far.length → RowOK k i) {i j : Nat} (hi : i < k.Segments.length + 1) {x : Int} {row : List Int} (hr : k.Far[j]? = some row) (hrl : row.length = k.Segments.length + 1) :
    M17 k i x row kk (row.length + 1) 0 = chk (∀ m, m < row.length → ¬at2 k.Far i m > w64 (x + at2 k.Far j m)) 160 (kk ()) := by
  refine chk_loop (f := fun n m => M17 k i x row kk n (m : Int)) (fun n m hm => ?_) (fun n => ?_)
  · show M17 k i x row kk (n + 1) (m : Int) = _
    obtain ⟨row', h1, h2, h3⟩ := rows_get h hf hi
    rw [M17, dec_lt_nat, decide_eq_true hm, cond_true, idx2 hr hm, some_bind, h2, some_bind, idx2 h1 (by omega), some_bind, w64_succ (by omega), bif_dec]
    by_cases h4 : at2 k.Far i m > w64 (x + at2 k.Far j m)
    · rw [if_pos h4, chk_neg (fun h => h h4)]
    · rw [if_neg h4, chk_pos h4]
  · show M17 k i x row kk (n + 1) ((row.length : Nat) : Int) = _
    rw [M17]
    simp

theorem clocks_L4 {k : TClocks} {kk : Unit → Option Int} (hl : k.Segments.length ≤ 511) (hf : k.Far.length = k.Segments.length + 1) (h : ∀ i, i < k.Far.length → RowOK k i) {i : Nat} (hi : i < k.Segments.length + 1) {row : List Int} (hr : k.Far[i]? = some row) (hrl : row.length = k.Segments.length + 1) :
    M19 k i row kk (row.length + 1) 0 = chk (∀ j, j < row.length → ∀ m, m < k.Segments.length + 1 → ¬at2 k.Far i m > w64 (at2 k.Far i j + at2 k.Far j m)) 160 (kk ()) := by
  refine chk_loop (f := fun n j => M19 k i row kk n (j : Int)) (fun n j hj => ?_) (fun n => ?_)
  · show M19 k i row kk (n + 1) (j : Int) = _
    obtain ⟨row', h1, h2, h3⟩ := rows_get h hf (i := j) (by omega)
    rw [M19, dec_lt_nat, decide_eq_true hj, cond_true, idx2 hr hj, some_bind, h2, some_bind, fuel_sub, clocks_L5 hl hf h hi h1 h3, h3]
    show chk _ _ (M19 k i row kk n (w64 ((j : Int) + 1))) = _
    rw [w64_succ (by omega)]
  · show M19 k i row kk (n + 1) ((row.length : Nat) : Int) = _
    rw [M19]
    simp

theorem clocks_L3 {k : TClocks} {kk : Unit → Option Int} (hl : k.Segments.length ≤ 511) (hf : k.Far.length = k.Segments.length + 1) (h : ∀ i, i < k.Far.length → RowOK k i) :
    M21 k kk (k.Segments.length + 1 + 1) 0 = chk (TriOK k) 160 (kk ()) := by
  refine chk_loop (N := k.Segments.length + 1) (f := fun n i => M21 k kk n (i : Int)) (fun n i hi => ?_) (fun n => ?_)
  · show M21 k kk (n + 1) (i : Int) = _
    obtain ⟨row, h1, h2, h3⟩ := rows_get h hf hi
    rw [M21, w64_succ (by omega), dec_lt_nat, decide_eq_true hi, cond_true, h2, some_bind, fuel_sub, clocks_L4 hl hf h hi h1 h3, h3]
    show chk _ _ (M21 k kk n (w64 ((i : Int) + 1))) = _
    rw [w64_succ (by omega)]
  · show M21 k kk (n + 1) ((k.Segments.length + 1 : Nat) : Int) = _
    rw [M21, w64_succ (by omega)]
    simp

/-- Clocks that are valid. -/
structure ClocksOK (k : TClocks) : Prop where
  few : k.Segments.length ≤ 511
  far : k.Far.length = k.Segments.length + 1
  seg : ∀ i, i < k.Segments.length → SegOK k.Segments i
  row : ∀ i, i < k.Far.length → RowOK k i
  tri : TriOK k

theorem clocksOK_iff (k : TClocks) : ClocksOK k ↔ k.Segments.length ≤ 511 ∧ k.Far.length = k.Segments.length + 1 ∧ (∀ i, i < k.Segments.length → SegOK k.Segments i) ∧ (∀ i, i < k.Far.length → RowOK k i) ∧ TriOK k :=
  ⟨fun ⟨a, b, c, d, e⟩ => ⟨a, b, c, d, e⟩, fun ⟨a, b, c, d, e⟩ => ⟨a, b, c, d, e⟩⟩

theorem chk_and' {β : Type} {p q : Prop} {r : β} {k k' : Option β} (h : p → k = chk q r k') : chk p r k = chk (p ∧ q) r k' := by
  rw [← chk_and]; exact chk_congr Iff.rfl h

theorem clocks_Check_eq {k : TClocks} (hw : k.Segments.length < 9223372036854775807) : M25 k = chk (ClocksOK k) 160 (some 0) := by
  unfold M25
  rw [bif_dec, bif_ne, fuel_sub, w64_succ (by omega), clocks_L1 (by omega)]
  have e : chk (ClocksOK k) (160 : Int) (some 0) = chk (k.Segments.length ≤ 511 ∧ k.Far.length = k.Segments.length + 1 ∧ (∀ i, i < k.Segments.length → SegOK k.Segments i) ∧ (∀ i, i < k.Far.length → RowOK k i) ∧ TriOK k) 160 (some 0) := chk_congr (clocksOK_iff k) fun _ => rfl
  rw [e]
  by_cases h1 : k.Segments.length ≤ 511
  · rw [if_neg (by omega)]
    by_cases h2 : k.Far.length = k.Segments.length + 1
    · rw [if_pos (by omega)]
      refine Eq.trans ?_ (chk_congr (p := (∀ i, i < k.Segments.length → SegOK k.Segments i) ∧ (∀ i, i < k.Far.length → RowOK k i) ∧ TriOK k) (by simp [h1, h2]) fun _ => rfl)
      refine chk_and' fun _ => ?_
      show M16 k (M23 k) _ 0 = _
      rw [fuel_sub, clocks_L2 h1 h2]
      refine chk_and' fun h3 => ?_
      show M21 k M22 _ 0 = _
      rw [w64_succ (by omega), fuel_sub, clocks_L3 h1 h2 h3]
      rfl
    · rw [if_neg (by omega), chk_neg (fun h => h2 h.2.1)]
  · rw [if_pos (by omega), chk_neg (fun h => h1 h.1)]

/-- An outcome that is valid with some clocks. -/
def OutOK (k : TClocks) (x : TOutcome) : Prop :=
  (x.Out = true → x.Seg = -1 ∧ x.Lo = 0 ∧ x.Hi = 0) ∧ (x.Out = false → -1 ≤ x.Seg ∧ x.Seg < k.Segments.length ∧ -288230376151711744 ≤ x.Lo ∧ x.Lo ≤ x.Hi ∧ x.Hi ≤ 288230376151711744)

theorem outcome_Check_eq {k : TClocks} {x : TOutcome} (hw : k.Segments.length < 9223372036854775807) : M31 k x = chk (ClocksOK k) 160 (chk (OutOK k x) 230 (some 0)) := by
  unfold M31
  rw [clocks_Check_eq hw]
  by_cases hk : ClocksOK k
  · rw [chk_pos hk, chk_pos hk, some_bind]
    simp only [bne_self_eq_false, cond_false]
    cases ho : x.Out with
    | true =>
      unfold OutOK M30
      rw [some_bind, ho]
      by_cases h : x.Seg = -1 ∧ x.Lo = 0 ∧ x.Hi = 0
      · obtain ⟨h1, h2, h3⟩ := h
        rw [chk_pos (by simp [h1, h2, h3])]
        simp [h1, h2, h3]
      · rw [chk_neg (by simpa using h)]
        rw [cond_true]
        have e : ((true == true) && ((x.Seg == -1) && ((x.Lo == 0) && ((x.Hi == 0) && true)))) = false := by
          rw [← Bool.not_eq_true]
          intro h'
          simp at h'
          exact h h'
        rw [e]
        rfl
    | false =>
      unfold OutOK
      rw [ho]
      by_cases h : -1 ≤ x.Seg ∧ x.Seg < k.Segments.length ∧ -288230376151711744 ≤ x.Lo ∧ x.Lo ≤ x.Hi ∧ x.Hi ≤ 288230376151711744
      · rw [chk_pos (by simpa using h)]
        obtain ⟨h1, h2, h3, h4, h5⟩ := h
        simp [h1, h2, h3, h4, h5]
      · rw [chk_neg (by simpa using h)]
        rw [cond_false]
        have e : ((decide (x.Seg ≥ -1)) && ((decide (x.Seg < (k.Segments.length : Int))) && ((decide (x.Lo ≥ -288230376151711744)) && ((decide (x.Lo ≤ x.Hi)) && (decide (x.Hi ≤ 288230376151711744)))))) = false := by
          rw [← Bool.not_eq_true]
          intro h'
          simp at h'
          exact h h'
        rw [e]
        rfl
  · rw [chk_neg hk, chk_neg hk, some_bind]
    rfl

theorem app_ok {α : Type} {b : Nat} {l r : List α} (h : (l.length + r.length) * b ≤ 140737488355328) (h' : l.length + r.length < 9223372036854775808) : app b l r = some (l ++ r) := by
  unfold app; rw [if_pos ⟨h, h'⟩]

theorem flat_succ {α : Type} {ws : List (List α)} {i : Nat} (hi : i < ws.length) : (ws.take (i + 1)).flatten = (ws.take i).flatten ++ ws[i] := by
  rw [List.take_succ_eq_append_getElem hi, List.flatten_append]; simp

theorem concat_eq {ws : List (List TOutcome)} (h1 : ws.length ≤ 1000) (h2 : ∀ w, w ∈ ws → w.length ≤ 1000) : M29 ws = some ws.flatten := by
  have hw : ∀ i (hi : i < ws.length), ws[i].length ≤ 1000 := fun i hi => h2 _ (List.getElem_mem hi)
  unfold M29
  simp only [fuel_sub]
  obtain ⟨r, hr, hr0, hr1⟩ := run_inv (N := ws.length) (f := fun n i s => M26 ws n s (i : Int)) (I := fun i s => 0 ≤ s ∧ s ≤ 1000 * (i : Int)) (s0 := 0) (fun n i s hi hI => by
    refine ⟨s + ws[i].length, ?_, ?_⟩
    · have := hw i hi; omega
    · show M26 ws (n + 1) s (i : Int) = M26 ws n (s + ws[i].length) ((i + 1 : Nat) : Int)
      have := hw i hi
      rw [M26, dec_lt_nat, decide_eq_true hi, cond_true, idx_lt hi, some_bind, w64_of (by omega) (by omega), bif_dec, if_neg (by omega), w64_succ (by omega)]) (fun n s => by
    show M26 ws (n + 1) s ((ws.length : Nat) : Int) = _
    rw [M26]; simp) ⟨by omega, by omega⟩
  replace hr : M26 ws (ws.length + 1) 0 0 = some r := hr
  rw [hr, some_bind, bif_dec, if_neg (by omega), w64_of (by omega) (by omega), bif_dec]
  have hI : ∀ i (hi : i < ws.length), ((ws.take i).flatten.length ≤ 1000 * i) → ((ws.take (i + 1)).flatten.length ≤ 1000 * (i + 1)) := fun i hi h => by
    rw [flat_succ hi, List.length_append]; have := hw i hi; omega
  split
  · have e : mkZ 32 (r - 0) = some r.toNat := by
      unfold mkZ; rw [if_pos (by omega)]; simp
    rw [e, some_bind]
    have e2 : ∀ (l : List TOutcome), slcTo l 0 = some [] := fun l => by unfold slcTo; simp
    rw [e2, some_bind]
    obtain ⟨l, hl, rfl, _⟩ := run_inv (N := ws.length) (f := fun n i s => M27 ws n (i : Int) s) (I := fun i s => s = (ws.take i).flatten ∧ s.length ≤ 1000 * i) (s0 := []) (fun n i s hi hI' => by
      obtain ⟨rfl, hlen⟩ := hI'
      refine ⟨_, ⟨rfl, hI i hi hlen⟩, ?_⟩
      show M27 ws (n + 1) (i : Int) _ = M27 ws n ((i + 1 : Nat) : Int) _
      have := hw i hi
      rw [M27, dec_lt_nat, decide_eq_true hi, cond_true, idx_lt hi, some_bind, app_ok (by omega) (by omega), some_bind, w64_succ (by omega), flat_succ hi]) (fun n s => by
      show M27 ws (n + 1) ((ws.length : Nat) : Int) s = _
      rw [M27]; simp) ⟨rfl, by simp⟩
    replace hl : M27 ws (ws.length + 1) 0 [] = some (ws.take ws.length).flatten := hl
    rw [hl, some_bind, List.take_length]
  · obtain ⟨l, hl, rfl, _⟩ := run_inv (N := ws.length) (f := fun n i s => M28 ws n (i : Int) s) (I := fun i s => s = (ws.take i).flatten ∧ s.length ≤ 1000 * i) (s0 := []) (fun n i s hi hI' => by
      obtain ⟨rfl, hlen⟩ := hI'
      refine ⟨_, ⟨rfl, hI i hi hlen⟩, ?_⟩
      show M28 ws (n + 1) (i : Int) _ = M28 ws n ((i + 1 : Nat) : Int) _
      have := hw i hi
      rw [M28, dec_lt_nat, decide_eq_true hi, cond_true, idx_lt hi, some_bind, app_ok (by omega) (by omega), some_bind, w64_succ (by omega), flat_succ hi]) (fun n s => by
      show M28 ws (n + 1) ((ws.length : Nat) : Int) s = _
      rw [M28]; simp) ⟨rfl, by simp⟩
    replace hl : M28 ws (ws.length + 1) 0 [] = some (ws.take ws.length).flatten := hl
    rw [hl, some_bind, List.take_length]

/-- A field of no great size. -/
structure Small (f : TField) : Prop where
  seg : f.Clocks.Segments.length ≤ 1000
  pairs : f.Pairs.length ≤ 1000
  runners : f.Runners.length ≤ 1000000
  worlds : ∀ r, r ∈ f.Runners → r.Keys.length ≤ 1000 ∧ r.Worlds.length ≤ 1000 ∧ ∀ w, w ∈ r.Worlds → w.length ≤ 1000

def PairLt (q p : TPair) : Prop := q.A < p.A ∨ q.A = p.A ∧ q.B < p.B

def PairOK (l : List TPair) (i : Nat) : Prop := ∀ p, l[i]? = some p → 1 ≤ p.A ∧ p.A < p.B ∧ p.B ≤ 9999 ∧ (0 < i → ∀ q, l[i - 1]? = some q → PairLt q p)

/-- The pair before. -/
def lastP (l : List TPair) (i : Nat) : TPair := if i = 0 then ⟨0, 0⟩ else (l[i - 1]?).getD ⟨0, 0⟩

theorem field_L1 {f : TField} {kk : Unit → Option Int} (hl : f.Pairs.length ≤ 1000) : M40 f kk (f.Pairs.length + 1) 0 0 0 = chk (∀ i, i < f.Pairs.length → PairOK f.Pairs i) 240 (kk ()) := by
  refine chk_loop (f := fun n i => M40 f kk n (i : Int) (lastP f.Pairs i).A (lastP f.Pairs i).B) (fun n i hi => ?_) (fun n => ?_)
  · show M40 f kk (n + 1) (i : Int) _ _ = _
    rw [M40, dec_lt_nat, decide_eq_true hi, cond_true, idx_lt hi, some_bind, w64_succ (by omega)]
    have hx : f.Pairs[i]? = some f.Pairs[i] := by simp [hi]
    have hnext : lastP f.Pairs (i + 1) = f.Pairs[i] := by unfold lastP; simp [hi]
    rw [hnext]
    generalize f.Pairs[i] = p at hx
    have hok : PairOK f.Pairs i ↔ 1 ≤ p.A ∧ p.A < p.B ∧ p.B ≤ 9999 ∧ (0 < i → ∀ q, f.Pairs[i - 1]? = some q → PairLt q p) := by
      unfold PairOK; rw [hx]; simp
    have hlast : 1 ≤ p.A → ((0 < i → ∀ q, f.Pairs[i - 1]? = some q → PairLt q p) ↔ ¬(p.A < (lastP f.Pairs i).A ∨ p.A = (lastP f.Pairs i).A ∧ p.B ≤ (lastP f.Pairs i).B)) := by
      intro hA
      unfold lastP PairLt
      by_cases h0 : i = 0
      · subst h0; simp; omega
      · have h8 : i - 1 < f.Pairs.length := by omega
        rw [if_neg h0, List.getElem?_eq_getElem h8]
        simp only [Option.getD_some, Option.some.injEq, forall_eq']
        constructor
        · intro h; have := h (by omega); omega
        · intro h _; omega
    by_cases hOK : PairOK f.Pairs i
    · rw [chk_pos hOK]
      obtain ⟨h1, h2, h3, h4⟩ := hok.1 hOK
      have h5 := (hlast h1).1 h4
      rw [Bool.cond_eq_ite, if_neg]
      simp only [Bool.or_eq_true, Bool.and_eq_true, decide_eq_true_eq, beq_iff_eq]
      omega
    · rw [chk_neg hOK, Bool.cond_eq_ite, if_pos]
      simp only [Bool.or_eq_true, Bool.and_eq_true, decide_eq_true_eq, beq_iff_eq]
      by_cases h1 : 1 ≤ p.A
      · have h5 := hlast h1
        refine Classical.byContradiction fun h6 => hOK (hok.2 ⟨h1, by omega, by omega, h5.2 (by omega)⟩)
      · left; omega
  · show M40 f kk (n + 1) ((f.Pairs.length : Nat) : Int) _ _ = _
    rw [M40]
    simp

theorem all_get {α : Type} {l : List α} {p : α → Prop} : (∀ j, j < l.length → ∀ o, l[j]? = some o → p o) ↔ ∀ o, o ∈ l → p o := by
  constructor
  · intro h o ho
    obtain ⟨j, hj, rfl⟩ := List.mem_iff_getElem.1 ho
    exact h j hj _ (by simp [hj])
  · intro h j hj o ho
    exact h o (List.mem_of_getElem? ho)

theorem field_L3 {f : TField} {kk : Unit → Option Int} (hk : ClocksOK f.Clocks) {l : List TOutcome} (hl : l.length < 9223372036854775807) : M41 f l kk (l.length + 1) 0 = chk (∀ o, o ∈ l → OutOK f.Clocks o) 240 (kk ()) := by
  refine (chk_loop (ok := fun j => ∀ o, l[j]? = some o → OutOK f.Clocks o) (k := kk ()) (r := 240) (f := fun n i => M41 f l kk n (i : Int)) (fun n i hi => ?_) (fun n => ?_)).trans (chk_congr all_get fun _ => rfl)
  · show M41 f l kk (n + 1) (i : Int) = _
    have hw : f.Clocks.Segments.length < 9223372036854775807 := by have := hk.few; omega
    rw [M41, dec_lt_nat, decide_eq_true hi, cond_true, idx_lt hi, some_bind, w64_succ (by omega), outcome_Check_eq hw, chk_pos hk]
    have hx : l[i]? = some l[i] := by simp [hi]
    rw [hx]
    by_cases h : OutOK f.Clocks l[i]
    · rw [chk_pos h, some_bind, chk_pos (by simpa using h)]; rfl
    · rw [chk_neg h, some_bind, chk_neg (by simpa using h)]; rfl
  · show M41 f l kk (n + 1) ((l.length : Nat) : Int) = _
    rw [M41]
    simp

def RunnerOK (f : TField) (i : Nat) : Prop := ∀ r, f.Runners[i]? = some r → (1 ≤ r.Bib ∧ r.Bib ≤ 9999 ∧ (0 < i → ∀ q, f.Runners[i - 1]? = some q → q.Bib < r.Bib) ∧ (∀ z, f.Runners[0]? = some z → r.Keys.length = z.Keys.length) ∧ r.Worlds.length = f.Pairs.length + 1) ∧ ∀ w, w ∈ r.Worlds → ∀ o, o ∈ w → OutOK f.Clocks o

def lastB (f : TField) (i : Nat) : Int := if i = 0 then 0 else ((f.Runners[i - 1]?).map (·.Bib)).getD 0

theorem field_L2 {f : TField} {kk : Unit → Option Int} (hk : ClocksOK f.Clocks) (hs : Small f) : M43 f kk (f.Runners.length + 1) 0 0 = chk (∀ i, i < f.Runners.length → RunnerOK f i) 240 (kk ()) := by
  refine chk_loop' (f := fun n i => M43 f kk n (lastB f i) (i : Int)) (fun n i hi hp => ?_) (fun n _ => ?_)
  · show M43 f kk (n + 1) (lastB f i) (i : Int) = _
    have hsr := hs.runners
    have hsp := hs.pairs
    have h0 : 0 < f.Runners.length := by omega
    rw [M43, dec_lt_nat, decide_eq_true hi, cond_true, idx_lt hi, some_bind, w64_succ (by omega)]
    have hx : f.Runners[i]? = some f.Runners[i] := by simp [hi]
    have hz : idx f.Runners 0 = some f.Runners[0] := idx_lt (i := 0) h0
    have hz' : f.Runners[0]? = some f.Runners[0] := by simp [h0]
    rw [hz]
    have hnext : lastB f (i + 1) = f.Runners[i].Bib := by unfold lastB; simp [hi]
    obtain ⟨hw0, hw1, hw2⟩ := hs.worlds _ (List.getElem_mem hi)
    rw [hnext]
    generalize f.Runners[0] = z at hz'
    generalize f.Runners[i] = r at hx hw0 hw1 hw2
    have hok : RunnerOK f i ↔ (1 ≤ r.Bib ∧ r.Bib ≤ 9999 ∧ (0 < i → ∀ q, f.Runners[i - 1]? = some q → q.Bib < r.Bib) ∧ r.Keys.length = z.Keys.length ∧ r.Worlds.length = f.Pairs.length + 1) ∧ ∀ w, w ∈ r.Worlds → ∀ o, o ∈ w → OutOK f.Clocks o := by
      unfold RunnerOK; rw [hx, hz']; simp
    have hlast : lastB f i < r.Bib ↔ 1 ≤ r.Bib ∧ (0 < i → ∀ q, f.Runners[i - 1]? = some q → q.Bib < r.Bib) := by
      unfold lastB
      by_cases h0 : i = 0
      · subst h0; simp; omega
      · have h8 : i - 1 < f.Runners.length := by omega
        have := hp (i - 1) (by omega)
        unfold RunnerOK at this
        rw [List.getElem?_eq_getElem h8] at this
        have h9 := (this _ rfl).1.1
        rw [if_neg h0, List.getElem?_eq_getElem h8]
        simp only [Option.map_some, Option.getD_some, Option.some.injEq, forall_eq']
        constructor
        · intro h; exact ⟨by omega, fun _ => h⟩
        · intro h; exact h.2 (by omega)
    have hfin : (lastB f i < r.Bib ∧ r.Bib ≤ 9999 ∧ r.Keys.length = z.Keys.length ∧ r.Worlds.length = f.Pairs.length + 1) ∧ (∀ w, w ∈ r.Worlds → ∀ o, o ∈ w → OutOK f.Clocks o) ↔ RunnerOK f i := by
      rw [hok, hlast]
      constructor
      · rintro ⟨⟨⟨a, b⟩, c, d, e⟩, g⟩; exact ⟨⟨a, c, b, d, e⟩, g⟩
      · rintro ⟨⟨a, c, b, d, e⟩, g⟩; exact ⟨⟨⟨a, b⟩, c, d, e⟩, g⟩
    refine Eq.trans (bind_chk (p := lastB f i < r.Bib ∧ r.Bib ≤ 9999 ∧ r.Keys.length = z.Keys.length ∧ r.Worlds.length = f.Pairs.length + 1) ?_) (Eq.trans (chk_and' fun h => ?_) (chk_congr hfin fun _ => rfl))
    · rw [bif_dec, bif_dec, some_bind, bif_ne]
      by_cases h1 : r.Bib ≤ lastB f i
      · rw [if_pos h1]; exact ⟨true, rfl, by simp; omega⟩
      rw [if_neg h1]
      by_cases h2 : r.Bib > 9999
      · rw [if_pos h2]; exact ⟨true, rfl, by simp; omega⟩
      rw [if_neg h2]
      by_cases h3 : r.Keys.length = z.Keys.length
      · rw [if_pos (by omega)]
        refine ⟨_, rfl, ?_⟩
        rw [bne_iff_ne]
        omega
      · rw [if_neg (by omega)]; exact ⟨true, rfl, by simp [h3]⟩
    · rw [concat_eq hw1 hw2, some_bind, fuel_sub, field_L3 hk (by
        have : ∀ (ws : List (List TOutcome)), (∀ w, w ∈ ws → w.length ≤ 1000) → ws.flatten.length ≤ 1000 * ws.length := by
          intro ws
          induction ws with
          | nil => intro _; simp
          | cons a t ih =>
            intro h
            have h1 := ih (fun w hw => h w (by simp [hw]))
            have h2 := h a (by simp)
            simp only [List.flatten_cons, List.length_append, List.length_cons]
            omega
        have := this r.Worlds hw2
        omega)]
      refine chk_congr ?_ fun _ => ?_
      · simp only [List.mem_flatten]
        exact ⟨fun h w hw o ho => h o ⟨w, hw, ho⟩, fun h o ⟨w, hw, ho⟩ => h w hw o ho⟩
      · show M43 f kk n r.Bib (w64 ((i : Int) + 1)) = _
        rw [w64_succ (by omega)]
  · show M43 f kk (n + 1) _ ((f.Runners.length : Nat) : Int) = _
    rw [M43]
    simp

/-- The outcomes of a runner in a world. -/
def wl (l : List TRunner) (i w : Nat) : List TOutcome := ((l[i]?).bind fun r => r.Worlds[w]?).getD []

theorem wl_get {l : List TRunner} {i w : Nat} (hi : i < l.length) (hw : w < l[i].Worlds.length) : idx l[i].Worlds (w : Int) = some (wl l i w) := by
  rw [idx_lt hw]; unfold wl; simp [hi, hw]

def Poss (l : List TRunner) (w : Nat) : Prop := ∀ i, i < l.length → (wl l i w).length ≠ 0

theorem containsF_eq {l : List TRunner} {w : Nat} (hl : l.length ≤ 1000000) (hw : ∀ r, r ∈ l → w < r.Worlds.length) : ∃ b, M36 l (w : Int) = some b ∧ (b = true ↔ ¬Poss l w) := by
  unfold M36 M35
  rw [fuel_sub]
  obtain ⟨r, h1, h2⟩ := find_loop (N := l.length) (f := fun n i => M33 l (w : Int) M34 n (i : Int)) (p := fun i => (wl l i w).length = 0) (fun n i hi => by
    show M33 l (w : Int) _ (n + 1) (i : Int) = _
    rw [M33, dec_lt_nat, decide_eq_true hi, cond_true, idx_lt hi, some_bind, w64_succ (by omega)]
    unfold M32
    rw [wl_get hi (hw _ (List.getElem_mem hi)), some_bind, some_bind, bif_eq]
    by_cases h : (wl l i w).length = 0
    · rw [if_pos h, if_pos (by omega)]
    · rw [if_neg h, if_neg (by omega)]) (fun n => by
    show M33 l (w : Int) _ (n + 1) ((l.length : Nat) : Int) = _
    rw [M33]
    simp [M34])
  refine ⟨decide (r ≥ 0), ?_, ?_⟩
  · have h1 : M33 l (w : Int) M34 (l.length + 1) 0 = some r := h1
    rw [h1]; rfl
  · rw [decide_eq_true_iff, h2]
    unfold Poss
    simp only [Classical.not_forall, Classical.not_not, exists_prop]

theorem field_possible_eq {f : TField} (hs : Small f) (hr : ∀ r, r ∈ f.Runners → r.Worlds.length = f.Pairs.length + 1) : M39 f = chk (∀ w, w < f.Pairs.length + 1 → ¬Poss f.Runners w) true (some false) := by
  have hsr := hs.runners
  have hsp := hs.pairs
  unfold M39
  rw [w64_succ (by omega), fuel_sub]
  refine chk_loop (N := f.Pairs.length + 1) (f := fun n w => M37 f M38 n (w : Int)) (fun n w hw => ?_) (fun n => ?_)
  · show M37 f M38 (n + 1) (w : Int) = _
    obtain ⟨b, h1, h2⟩ := containsF_eq hsr (w := w) (fun r h => by rw [hr r h]; exact hw)
    rw [M37, w64_succ (by omega), dec_lt_nat, decide_eq_true hw, cond_true, h1, some_bind, w64_succ (by omega)]
    cases b with
    | true => rw [chk_pos (h2.1 rfl)]; rfl
    | false => rw [chk_neg (fun h => by simpa using h2.2 h)]; rfl
  · show M37 f M38 (n + 1) ((f.Pairs.length + 1 : Nat) : Int) = _
    rw [M37, w64_succ (by omega)]
    simp [M38]

/-- A field that is valid. -/
structure FieldOK (f : TField) : Prop where
  clocks : ClocksOK f.Clocks
  size : f.Pairs.length ≤ 16 ∧ 1 ≤ f.Runners.length ∧ f.Runners.length ≤ 4000
  pair : ∀ i, i < f.Pairs.length → PairOK f.Pairs i
  runner : ∀ i, i < f.Runners.length → RunnerOK f i
  poss : ¬∀ w, w < f.Pairs.length + 1 → ¬Poss f.Runners w

theorem worlds_of {f : TField} (h : ∀ i, i < f.Runners.length → RunnerOK f i) : ∀ r, r ∈ f.Runners → r.Worlds.length = f.Pairs.length + 1 := by
  intro r hr
  obtain ⟨i, hi, rfl⟩ := List.mem_iff_getElem.1 hr
  exact (h i hi _ (by simp [hi])).1.2.2.2.2

theorem fieldOK_iff (f : TField) : (ClocksOK f.Clocks ∧ f.Pairs.length ≤ 16 ∧ 1 ≤ f.Runners.length ∧ f.Runners.length ≤ 4000) ∧ (∀ i, i < f.Pairs.length → PairOK f.Pairs i) ∧ (∀ i, i < f.Runners.length → RunnerOK f i) ∧ (¬∀ w, w < f.Pairs.length + 1 → ¬Poss f.Runners w) ↔ FieldOK f :=
  ⟨fun ⟨⟨a, b⟩, c, d, e⟩ => ⟨a, b, c, d, e⟩, fun ⟨a, b, c, d, e⟩ => ⟨⟨a, b⟩, c, d, e⟩⟩

theorem field_Check_eq {f : TField} (hs : Small f) : M46 f = chk (FieldOK f) 240 (some 0) := by
  have hsg := hs.seg
  unfold M46
  refine Eq.trans (bind_chk (p := ClocksOK f.Clocks ∧ f.Pairs.length ≤ 16 ∧ 1 ≤ f.Runners.length ∧ f.Runners.length ≤ 4000) ?_) (Eq.trans (chk_and' (q := (∀ i, i < f.Pairs.length → PairOK f.Pairs i) ∧ (∀ i, i < f.Runners.length → RunnerOK f i) ∧ (¬∀ w, w < f.Pairs.length + 1 → ¬Poss f.Runners w)) fun h => ?_) (chk_congr (fieldOK_iff f) fun _ => rfl))
  · rw [clocks_Check_eq (by omega)]
    by_cases h1 : ClocksOK f.Clocks
    · rw [chk_pos h1, some_bind, bif_dec, bif_dec]
      simp only [bne_self_eq_false, cond_false]
      by_cases h2 : f.Pairs.length ≤ 16
      · rw [if_neg (by omega)]
        by_cases h3 : 1 ≤ f.Runners.length
        · rw [if_neg (by omega)]
          refine ⟨_, rfl, ?_⟩
          rw [decide_eq_true_iff]
          simp only [h1, h2, h3, true_and]
          omega
        · rw [if_pos (by omega)]; exact ⟨true, rfl, by simp [h3]⟩
      · rw [if_pos (by omega)]; exact ⟨true, rfl, by simp [h2]⟩
    · rw [chk_neg h1, some_bind]; exact ⟨true, rfl, by simp [h1]⟩
  · rw [fuel_sub, field_L1 hs.pairs]
    refine chk_and' fun h2 => ?_
    show M43 f (M44 f) _ 0 0 = _
    rw [fuel_sub, field_L2 h.1 hs]
    refine chk_and' fun h3 => ?_
    unfold M44
    rw [field_possible_eq hs (worlds_of h3)]
    by_cases h4 : ∀ w, w < f.Pairs.length + 1 → ¬Poss f.Runners w
    · rw [chk_pos h4, chk_neg (fun h => h h4)]; rfl
    · rw [chk_neg h4, chk_pos h4]; rfl

theorem wl_mem {f : TField} (hf : FieldOK f) {i w : Nat} (hi : i < f.Runners.length) (hw : w < f.Pairs.length + 1) : wl f.Runners i w ∈ f.Runners[i].Worlds ∧ idx f.Runners[i].Worlds (w : Int) = some (wl f.Runners i w) := by
  have hl := worlds_of hf.runner _ (List.getElem_mem hi)
  have hw' : w < f.Runners[i].Worlds.length := by omega
  refine ⟨?_, wl_get hi hw'⟩
  unfold wl
  simp [hi, hw']

theorem wl_ok {f : TField} (hf : FieldOK f) {i w : Nat} (hi : i < f.Runners.length) (hw : w < f.Pairs.length + 1) : ∀ o, o ∈ wl f.Runners i w → OutOK f.Clocks o :=
  fun o ho => (hf.runner i hi _ (by simp [hi])).2 _ (wl_mem hf hi hw).1 o ho

def FewR (r : TRunner) : Prop := r.Keys.length ≤ 5 ∧ r.Worlds.length ≤ 4 ∧ ∀ w, w ∈ r.Worlds → w.length ≤ 4

structure FewOK (f : TField) : Prop where
  runner : ∀ r, r ∈ f.Runners → FewR r
  far : ∀ r, r ∈ f.Clocks.Far → r.length ≤ 8
  runners : f.Runners.length ≤ 6
  pairs : f.Pairs.length ≤ 3
  segs : f.Clocks.Segments.length ≤ 4
  rows : f.Clocks.Far.length ≤ 6

theorem FewOK.small {f : TField} (h : FewOK f) : Small f where
  seg := by have := h.segs; omega
  pairs := by have := h.pairs; omega
  runners := by have := h.runners; omega
  worlds r hr := by
    obtain ⟨h1, h2, h3⟩ := h.runner r hr
    exact ⟨by omega, by omega, fun w hw => by have := h3 w hw; omega⟩

/-- A loop that keeps what is known of its state, and goes on. -/
theorem inv_loop {σ β : Type} {N : Nat} {f : Nat → Nat → σ → Option β} {k : σ → Option β} {I : Nat → σ → Prop} (hs : ∀ i s, i < N → I i s → ∃ s', I (i + 1) s' ∧ ∀ n, f (n + 1) i s = f n (i + 1) s') (he : ∀ n s, f (n + 1) N s = k s) {s0 : σ} (h0 : I 0 s0) :
    ∃ s, f (N + 1) 0 s0 = k s ∧ I N s := by
  have key : ∀ c i n s, i + c = N → c ≤ n → I i s → ∃ s', f (n + 1) i s = k s' ∧ I N s' := by
    intro c
    induction c with
    | zero =>
      intro i n s h _ hi
      have : i = N := by omega
      subst this
      exact ⟨s, he n s, hi⟩
    | succ c ih =>
      intro i n s h hn hi
      obtain ⟨s', h1, h2⟩ := hs i s (by omega) hi
      obtain ⟨n, rfl⟩ : ∃ n', n = n' + 1 := ⟨n - 1, by omega⟩
      rw [h2]
      exact ih (i + 1) n s' (by omega) (by omega) h1
  exact key N 0 N s0 (by omega) (by omega) h0

/-- Keys compared. -/
def kLt : List Int → List Int → Bool
  | _, [] => false
  | [], _ :: _ => true
  | a :: s, b :: t => if a = b then kLt s t else decide (a < b)

/-- The variable of an outcome, the keys of a runner. -/
def vr (x : TOutcome) : Nat := (x.Seg + 1).toNat

def keys (f : TField) (i : Nat) : List Int := ((f.Runners[i]?).map (·.Keys)).getD []

abbrev far (f : TField) (i j : Nat) : Int := at2 f.Clocks.Far i j

abbrev nseg (f : TField) : Nat := f.Clocks.Segments.length

theorem far_bound {f : TField} (hf : FieldOK f) {i j : Nat} (hi : i < nseg f + 1) (hj : j < nseg f + 1) : -2199023255552 ≤ far f i j ∧ far f i j ≤ 2199023255552 :=
  (hf.clocks.row i (by rw [hf.clocks.far]; exact hi)).2.2 j hj

theorem far_self {f : TField} (hf : FieldOK f) {i : Nat} (hi : i < nseg f + 1) : far f i i = 0 :=
  (hf.clocks.row i (by rw [hf.clocks.far]; exact hi)).2.1

theorem far_tri {f : TField} (hf : FieldOK f) {i j m : Nat} (hi : i < nseg f + 1) (hj : j < nseg f + 1) (hm : m < nseg f + 1) : far f i m ≤ far f i j + far f j m := by
  have h := hf.clocks.tri i hi j hj m hm
  have h1 := far_bound hf hi hj
  have h2 := far_bound hf hj hm
  unfold far at h1 h2 ⊢
  rw [w64_of (by omega) (by omega)] at h
  omega

/-- Is a rival ahead, whose net time is greater by d? -/
def front (f : TField) (k r : Nat) (d : Int) : Bool := decide (d < 0) || (decide (d = 0) && kLt (keys f k) (keys f r))

/-- Is a rival k with the outcome y ahead of the runner r with the outcome x, whatever else holds; and can it be? -/
def forced (f : TField) (r : Nat) (x : TOutcome) (k : Nat) (y : TOutcome) : Bool := !y.Out && front f k r (y.Hi + far f (vr x) (vr y) - x.Lo)

def can (f : TField) (r : Nat) (x : TOutcome) (k : Nat) (y : TOutcome) : Bool := !y.Out && front f k r (y.Lo - far f (vr y) (vr x) - x.Hi)

abbrev nrun (f : TField) : Nat := f.Runners.length

abbrev npair (f : TField) : Nat := f.Pairs.length

/-- Is a rival another one, and surely or possibly ahead? -/
def sureK (f : TField) (w : Nat) (r : Nat) (x : TOutcome) (k : Nat) : Bool := decide (k ≠ r) && (wl f.Runners k w).all (forced f r x k)

def mayK (f : TField) (w : Nat) (r : Nat) (x : TOutcome) (k : Nat) : Bool := decide (k ≠ r) && (wl f.Runners k w).any (can f r x k)

def nBest (f : TField) (w : Nat) (r : Nat) (x : TOutcome) : Nat := 1 + (List.range (nrun f)).countP (sureK f w r x)

def nWorst (f : TField) (w : Nat) (r : Nat) (x : TOutcome) : Nat := 1 + (List.range (nrun f)).countP (mayK f w r x)

/-- An outcome of a runner in a possible world, with its place. -/
def Occ (f : TField) (r w i : Nat) (x : TOutcome) : Prop := w < npair f + 1 ∧ Poss f.Runners w ∧ (wl f.Runners r w)[i]? = some x

def Vis (f : TField) (r w i : Nat) (w' i' : Nat) (x : TOutcome) : Prop := (w' < w ∨ w' = w ∧ i' < i) ∧ Occ f r w' i' x

theorem Occ.ok {f : TField} (hf : FieldOK f) {r w i : Nat} {x : TOutcome} (hr : r < nrun f) (h : Occ f r w i x) : OutOK f.Clocks x :=
  wl_ok hf hr h.1 _ (List.mem_of_getElem? h.2.2)

theorem Vis.all {f : TField} {r : Nat} (w' i' : Nat) (x' : TOutcome) : Vis f r (npair f + 1) 0 w' i' x' ↔ Occ f r w' i' x' := by
  unfold Vis
  exact ⟨fun h => h.2, fun h => ⟨.inl h.1, h⟩⟩

abbrev Occs := Nat → Nat → TOutcome → Prop

def IsLo (N : Nat → TOutcome → Int) (V : Occs) (lo : Int) : Prop := (lo = 0 ∧ ∀ w i x, V w i x → x.Out = true) ∨ ((∃ w i x, V w i x ∧ x.Out = false ∧ lo = N w x) ∧ ∀ w i x, V w i x → x.Out = false → lo ≤ N w x)

def IsHi (N : Nat → TOutcome → Int) (V : Occs) (hi : Int) : Prop := (hi = 0 ∧ ∀ w i x, V w i x → x.Out = true) ∨ ((∃ w i x, V w i x ∧ x.Out = false ∧ hi = N w x) ∧ ∀ w i x, V w i x → x.Out = false → N w x ≤ hi)

def IsOut (V : Occs) (out : Bool) : Prop := out = true ↔ ∃ w i x, V w i x ∧ x.Out = true

abbrev NB (f : TField) (r w : Nat) (x : TOutcome) : Int := (nBest f w r x : Int)

abbrev NW (f : TField) (r w : Nat) (x : TOutcome) : Int := (nWorst f w r x : Int)

/-- What is known about a runner's rank. -/
structure IsRank (f : TField) (r : Nat) (x : TRank) : Prop where
  bib : f.Runners[r]?.map (·.Bib) = some x.Bib
  lo : IsLo (NB f r) (Occ f r) x.Lo
  hi : IsHi (NW f r) (Occ f r) x.Hi
  out : IsOut (Occ f r) x.Out
  kind : x.Kind = if x.Lo = 0 then 3 else if x.Lo = x.Hi ∧ x.Out = false then 1 else 2

/-- The ranks of all runners. -/
def IsRanks (f : TField) (l : List TRank) : Prop := l.length = nrun f ∧ ∀ i x, l[i]? = some x → IsRank f i x

theorem IsRanks.snoc {f : TField} {i : Nat} {l : List TRank} {x : TRank} (h : l.length = i ∧ ∀ j x, l[j]? = some x → IsRank f j x) (hx : IsRank f i x) : (l ++ [x]).length = i + 1 ∧ ∀ j y, (l ++ [x])[j]? = some y → IsRank f j y := by
  obtain ⟨h1, h2⟩ := h
  refine ⟨by simp [h1], fun j y hj => ?_⟩
  by_cases e : j < l.length
  · rw [List.getElem?_append_left e] at hj; exact h2 j y hj
  · rw [List.getElem?_append_right (by omega)] at hj
    have : j - l.length = 0 := by
      have := (List.getElem?_eq_some_iff.1 hj).1
      simp at this; omega
    rw [this] at hj
    simp at hj
    subst hj
    have : j = i := by omega
    exact this ▸ hx

/-- The offset of a variable in a history. -/
def off (h : THistory) (i : Nat) : Int := ((0 :: h.Offsets)[i]?).getD 0

def ch (h : THistory) (k : Nat) : TChoice := (h.Choices[k]?).getD default

def oc (f : TField) (h : THistory) (k : Nat) : TOutcome := ((wl f.Runners k h.World.toNat)[(ch h k).Outcome.toNat]?).getD default

def net (f : TField) (h : THistory) (k : Nat) : Int := (ch h k).X + off h (vr (oc f h k))

/-- A history that is admissible. -/
structure Adm (f : TField) (h : THistory) : Prop where
  world : 0 ≤ h.World ∧ h.World < npair f + 1
  poss : Poss f.Runners h.World.toNat
  offs : h.Offsets.length = nseg f
  chs : h.Choices.length = nrun f
  small : ∀ i, i < nseg f + 1 → -1125899906842624 ≤ off h i ∧ off h i ≤ 1125899906842624
  tri : ∀ i, i < nseg f + 1 → ∀ k, k < nseg f + 1 → off h k - off h i ≤ far f i k
  choice : ∀ k, k < nrun f → 0 ≤ (ch h k).Outcome ∧ (ch h k).Outcome < (wl f.Runners k h.World.toNat).length ∧ ((oc f h k).Out = true → (ch h k).X = 0) ∧ ((oc f h k).Out = false → (oc f h k).Lo ≤ (ch h k).X ∧ (ch h k).X ≤ (oc f h k).Hi)

theorem ch_get {h : THistory} {k : Nat} (hk : k < h.Choices.length) : h.Choices[k] = ch h k := by unfold ch; simp [hk]

/-- Is a runner ahead of another one in a history; what rank has it? -/
def inFr (f : TField) (h : THistory) (a b : Nat) : Bool := !(oc f h a).Out && ((oc f h b).Out || front f a b (net f h a - net f h b))

def rank (f : TField) (h : THistory) (r : Nat) : Nat := if (oc f h r).Out = true then 0 else 1 + (List.range (nrun f)).countP (fun k => inFr f h k r)

def Lst {α : Type} (P : Nat → α → Prop) (i : Nat) (l : List α) : Prop := l.length = i ∧ ∀ j x, l[j]? = some x → P j x

theorem Lst.snoc {α : Type} {P : Nat → α → Prop} {i : Nat} {l : List α} {x : α} (h : Lst P i l) (hx : P i x) : Lst P (i + 1) (l ++ [x]) := by
  obtain ⟨h1, h2⟩ := h
  refine ⟨by simp [h1], fun j y hj => ?_⟩
  by_cases e : j < l.length
  · rw [List.getElem?_append_left e] at hj; exact h2 j y hj
  · rw [List.getElem?_append_right (by omega)] at hj
    have : j - l.length = 0 := by
      have := (List.getElem?_eq_some_iff.1 hj).1
      simp at this; omega
    rw [this] at hj
    simp at hj
    subst hj
    have : j = i := by omega
    exact this ▸ hx

theorem Lst.nil {α : Type} {P : Nat → α → Prop} : Lst P 0 [] := ⟨rfl, fun j x h => by simp at h⟩

theorem off_map {g : Nat → Int} {n k : Nat} (hk : k < n + 1) (h0 : g 0 = 0) {w : Int} {l : List TChoice} : off ⟨w, (List.range n).map (fun k => g (k + 1)), l⟩ k = g k := by
  unfold off
  cases k with
  | zero => simp [h0]
  | succ k =>
    have : k < n := by omega
    simp [this]

theorem ch_lst {P : Nat → TChoice → Prop} {n : Nat} {l : List TChoice} (h : Lst P n l) {w : Int} {o : List Int} {k : Nat} (hk : k < n) : P k (ch ⟨w, o, l⟩ k) := by
  have hk' : k < l.length := by rw [h.1]; exact hk
  refine h.2 k _ ?_
  unfold ch
  simp [hk']

theorem chk_bool (p : Prop) : ∃ b, chk p false (some true) = some b ∧ (b = true ↔ p) := by
  by_cases h : p
  · exact ⟨true, chk_pos h, by simp [h]⟩
  · exact ⟨false, chk_neg h, by simp [h]⟩

theorem few16_eq {k : TClocks} (hw : wTClocks k) : ∃ b, M96 k = some b ∧ (b = true → k.Segments.length ≤ 8 ∧ k.Far.length ≤ 10) := by
  obtain ⟨hsg, hfar⟩ := hw
  unfold M96
  rw [bif_dec, bif_dec]
  by_cases h1 : k.Segments.length ≤ 8
  · rw [if_neg (by omega)]
    by_cases h2 : k.Far.length ≤ 10
    · rw [if_neg (by omega), fuel_sub]
      obtain ⟨b, hb1, _⟩ := chk_bool (∀ i, i < k.Far.length → ∀ r, k.Far[i]? = some r → r.length ≤ 12)
      refine ⟨b, (chk_loop (N := k.Far.length) (f := fun n i => M94 k M95 n (i : Int)) (r := false) (k := some true) (ok := fun i => ∀ r, k.Far[i]? = some r → r.length ≤ 12) (fun n i hi => ?_) (fun n => ?_)).trans hb1, fun _ => ⟨h1, h2⟩⟩
      · show M94 k M95 (n + 1) (i : Int) = _
        have hx : k.Far[i]? = some k.Far[i] := by simp [hi]
        rw [M94, dec_lt_nat, decide_eq_true hi, cond_true, idx_lt hi, some_bind, bif_dec, w64_succ (by omega), hx]
        generalize k.Far[i] = r
        simp only [Option.some.injEq, forall_eq']
        by_cases h3 : r.length ≤ 12
        · rw [if_neg (by omega), chk_pos h3]
        · rw [if_pos (by omega), chk_neg h3]
      · show M94 k M95 (n + 1) ((k.Far.length : Nat) : Int) = _
        rw [M94]; simp [M95]
    · rw [if_pos (by omega)]; exact ⟨false, rfl, fun h => by cases h⟩
  · rw [if_pos (by omega)]; exact ⟨false, rfl, fun h => by cases h⟩

theorem few24_L2 {x : TRunner} (hx : x.Worlds.length ≤ 5) (hl : ∀ w, w ∈ x.Worlds → w.length ≤ 140737488351232) {c : Int} (hc : 0 ≤ c ∧ c ≤ 6000000000000000) :
    ∃ s : Int, M97 x (x.Worlds.length + 1) c 0 = some s ∧ c ≤ s ∧ s ≤ c + 5 * 140737488351232 ∧ ∀ w, w ∈ x.Worlds → (w.length : Int) ≤ s := by
  obtain ⟨s, h1, h2⟩ := inv_loop (N := x.Worlds.length) (f := fun n i (s : Int) => M97 x n s (i : Int)) (k := some) (I := fun i s => c ≤ s ∧ s ≤ c + i * 140737488351232 ∧ ∀ j, j < i → ∀ w, x.Worlds[j]? = some w → (w.length : Int) ≤ s) (s0 := c) (fun i s hi hI => by
    obtain ⟨h1, h2, h3⟩ := hI
    have hw := hl _ (List.getElem_mem hi)
    refine ⟨s + ((x.Worlds[i]).length : Int), ⟨by omega, by have : ((i + 1 : Nat) : Int) = (i : Int) + 1 := rfl; rw [this]; omega, fun j hj w hjw => ?_⟩, fun n => ?_⟩
    · by_cases e : j = i
      · subst e
        rw [List.getElem?_eq_getElem hi] at hjw
        cases hjw
        omega
      · have := h3 j (by omega) w hjw
        omega
    · show M97 x (n + 1) s (i : Int) = _
      rw [M97, dec_lt_nat, decide_eq_true hi, cond_true, idx_lt hi, some_bind, w64_succ (by omega), w64_of (by omega) (by omega)]) (fun n s => by
    show M97 x (n + 1) s ((x.Worlds.length : Nat) : Int) = _
    rw [M97]; simp) ⟨by omega, by omega, fun j hj => absurd hj (by omega)⟩
  refine ⟨s, h1, h2.1, by have := h2.2.1; omega, fun w hw => ?_⟩
  obtain ⟨j, hj, rfl⟩ := List.mem_iff_getElem.1 hw
  exact h2.2.2 j hj _ (by simp [hj])

theorem few24_eq {f : TField} (hw : wTField f) : ∃ b, M100 f = some b ∧ (b = true → Small f ∧ f.Runners.length ≤ 6 ∧ f.Pairs.length ≤ 3 ∧ f.Clocks.Segments.length ≤ 8 ∧ f.Clocks.Far.length ≤ 10 ∧ ∀ r, r ∈ f.Runners → r.Keys.length ≤ 8 ∧ r.Worlds.length ≤ 5 ∧ ∀ w, w ∈ r.Worlds → w.length ≤ 60) := by
  obtain ⟨hk, _, hrun⟩ := hw
  unfold M100
  rw [bif_dec, bif_dec]
  by_cases h1 : f.Runners.length ≤ 6
  · rw [if_neg (by omega)]
    by_cases h2 : f.Pairs.length ≤ 3
    · rw [if_neg (by omega)]
      obtain ⟨b, h3, h4⟩ := few16_eq hk
      rw [h3, some_bind]
      cases b with
      | false => exact ⟨false, rfl, fun h => by cases h⟩
      | true =>
        obtain ⟨h5, h6⟩ := h4 rfl
        simp only [Bool.not_true, cond_false]
        rw [fuel_sub]
        have key : ∀ c i n (s : Int), i + c = f.Runners.length → c ≤ n → 0 ≤ s → s ≤ i * (5 * 140737488351232) → (∀ j, j < i → ∀ r, f.Runners[j]? = some r → r.Keys.length ≤ 8 ∧ r.Worlds.length ≤ 5 ∧ ∀ w, w ∈ r.Worlds → (w.length : Int) ≤ s) →
            ∃ b, M98 f M99 (n + 1) s (i : Int) = some b ∧ (b = true → ∀ r, r ∈ f.Runners → r.Keys.length ≤ 8 ∧ r.Worlds.length ≤ 5 ∧ ∀ w, w ∈ r.Worlds → w.length ≤ 60) := by
          intro c
          induction c with
          | zero =>
            intro i n s h _ _ _ hI
            have : i = f.Runners.length := by omega
            subst this
            rw [M98, dec_lt_nat, decide_eq_false (by omega), cond_false]
            refine ⟨_, rfl, fun hb r hr => ?_⟩
            have hs : s ≤ 60 := by simpa using hb
            obtain ⟨j, hj, rfl⟩ := List.mem_iff_getElem.1 hr
            obtain ⟨a, b, c⟩ := hI j hj _ (List.getElem?_eq_getElem hj)
            exact ⟨a, b, fun w hw => by have := c w hw; omega⟩
          | succ c ih =>
            intro i n s h hn hs0 hs1 hI
            obtain ⟨n, rfl⟩ : ∃ n', n = n' + 1 := ⟨n - 1, by omega⟩
            have hi : i < f.Runners.length := by omega
            have hrw := hrun.2 _ (List.getElem_mem hi)
            rw [M98, dec_lt_nat, decide_eq_true hi, cond_true, idx_lt hi, some_bind, bif_dec, bif_dec, fuel_sub]
            have hx : f.Runners[i]? = some f.Runners[i] := by simp [hi]
            generalize f.Runners[i] = r at hx hrw
            by_cases g1 : r.Keys.length ≤ 8
            · rw [if_neg (by omega)]
              by_cases g2 : r.Worlds.length ≤ 5
              · rw [if_neg (by omega)]
                obtain ⟨s', k1, k2, k3, k4⟩ := few24_L2 g2 (fun w hw => (hrw.2.2.2 w hw).1) (c := s) ⟨hs0, by omega⟩
                rw [k1, some_bind, w64_succ (by omega)]
                refine ih (i + 1) n s' (by omega) (by omega) (by omega) (by have : ((i + 1 : Nat) : Int) = (i : Int) + 1 := rfl; rw [this]; omega) fun j hj q hq => ?_
                by_cases e : j = i
                · subst e
                  rw [hx] at hq; cases hq
                  exact ⟨g1, g2, k4⟩
                · obtain ⟨a, b, c⟩ := hI j (by omega) q hq
                  exact ⟨a, b, fun w hw => by have := c w hw; omega⟩
              · rw [if_pos (by omega)]; exact ⟨false, rfl, fun h => by cases h⟩
            · rw [if_pos (by omega)]; exact ⟨false, rfl, fun h => by cases h⟩
        obtain ⟨b, g1, g2⟩ := key f.Runners.length 0 f.Runners.length 0 (by omega) (by omega) (by omega) (by omega) (fun j hj => absurd hj (by omega))
        refine ⟨b, g1, fun hb => ?_⟩
        have g3 := g2 hb
        exact ⟨⟨by omega, by omega, by omega, fun r hr => by
          obtain ⟨a, b, c⟩ := g3 r hr
          exact ⟨by omega, by omega, fun w hw => by have := c w hw; omega⟩⟩, h1, h2, h5, h6, g3⟩
    · rw [if_pos (by omega)]; exact ⟨false, rfl, fun h => by cases h⟩
  · rw [if_pos (by omega)]; exact ⟨false, rfl, fun h => by cases h⟩

/-! What is admissible, by the program. -/

theorem containsH_eq {l : List TRunner} {w : Nat} (hl : l.length ≤ 1000000) (hw : ∀ r, r ∈ l → w < r.Worlds.length) : ∃ b, M51 l (w : Int) = some b ∧ (b = true ↔ ¬Poss l w) := by
  unfold M51 M50
  rw [fuel_sub]
  obtain ⟨r, h1, h2⟩ := find_loop (N := l.length) (f := fun n i => M48 l (w : Int) M49 n (i : Int)) (p := fun i => (wl l i w).length = 0) (fun n i hi => by
    show M48 l (w : Int) _ (n + 1) (i : Int) = _
    rw [M48, dec_lt_nat, decide_eq_true hi, cond_true, idx_lt hi, some_bind, w64_succ (by omega)]
    unfold M47
    rw [wl_get hi (hw _ (List.getElem_mem hi)), some_bind, some_bind, bif_eq]
    by_cases h : (wl l i w).length = 0
    · rw [if_pos h, if_pos (by omega)]
    · rw [if_neg h, if_neg (by omega)]) (fun n => by
    show M48 l (w : Int) _ (n + 1) ((l.length : Nat) : Int) = _
    rw [M48]
    simp [M49])
  refine ⟨decide (r ≥ 0), ?_, ?_⟩
  · have h1 : M48 l (w : Int) M49 (l.length + 1) 0 = some r := h1
    rw [h1]; rfl
  · rw [decide_eq_true_iff, h2]
    unfold Poss
    simp only [Classical.not_forall, Classical.not_not, exists_prop]

theorem containsA_eq {l : List Int} (hl : l.length ≤ 1000000) : ∃ b, M57 l = some b ∧ (b = true ↔ ¬∀ i, i < l.length → Entry ((l[i]?).getD 0)) := by
  unfold M57 M56
  rw [fuel_sub]
  obtain ⟨r, h1, h2⟩ := find_loop (N := l.length) (f := fun n i => M54 l M55 n (i : Int)) (p := fun j => ¬Entry ((l[j]?).getD 0)) (fun n i hi => by
    show M54 l _ (n + 1) (i : Int) = _
    rw [M54, dec_lt_nat, decide_eq_true hi, cond_true, idx_lt hi, some_bind, w64_succ (by omega)]
    have hx : (l[i]?).getD 0 = l[i] := by simp [hi]
    rw [hx]
    generalize l[i] = w
    unfold M53 Entry
    rw [bif_dec]
    by_cases h1 : w < -2199023255552
    · rw [if_pos h1, some_bind, cond_true, if_pos (by omega)]
    · rw [if_neg h1, some_bind, bif_dec]
      by_cases h2 : w > 2199023255552
      · rw [if_pos h2, if_pos (by omega)]
      · rw [if_neg h2, if_neg (by omega)]) (fun n => by
    show M54 l _ (n + 1) ((l.length : Nat) : Int) = _
    rw [M54]
    simp [M55])
  refine ⟨decide (r ≥ 0), ?_, ?_⟩
  · have h1 : M54 l M55 (l.length + 1) 0 = some r := h1
    rw [h1]; rfl
  · rw [decide_eq_true_iff, h2]
    simp only [Classical.not_forall, exists_prop]

theorem aligned_L2 {f : TField} (hf : FieldOK f) {l : List Int} {kk : Unit → Option Bool} (hl : l.length = nseg f + 1) (hb : ∀ i, i < l.length → Entry ((l[i]?).getD 0)) {i : Nat} (hi : i < nseg f + 1) {row : List Int} (hr : f.Clocks.Far[i]? = some row) (hrl : row.length = nseg f + 1) : M58 l (i : Int) row kk (row.length + 1) 0 = chk (∀ k, k < row.length → (l[k]?).getD 0 - (l[i]?).getD 0 ≤ far f i k) false (kk ()) := by
  refine chk_loop (f := fun n k => M58 l (i : Int) row kk n (k : Int)) (fun n k hk => ?_) (fun n => ?_)
  · show M58 l (i : Int) row kk (n + 1) (k : Int) = _
    have hi' : i < l.length := by omega
    have hk' : k < l.length := by omega
    have e1 : (l[i]?).getD 0 = l[i] := by simp [hi']
    have e2 : (l[k]?).getD 0 = l[k] := by simp [hk']
    have b1 := hb i hi'
    have b2 := hb k hk'
    have hsg : nseg f ≤ 511 := hf.clocks.few
    rw [M58, dec_lt_nat, decide_eq_true hk, cond_true, idx2 hr hk, some_bind, idx_lt hk', some_bind, idx_lt hi', some_bind, w64_succ (by omega), bif_dec, e1, e2]
    rw [e1] at b1
    rw [e2] at b2
    unfold Entry at b1 b2
    rw [w64_of (by omega) (by omega)]
    by_cases h1 : l[k] - l[i] > far f i k
    · rw [if_pos h1, chk_neg (by omega)]
    · rw [if_neg h1, chk_pos (by omega)]
  · show M58 l (i : Int) row kk (n + 1) ((row.length : Nat) : Int) = _
    rw [M58]; simp

theorem aligned_L1 {f : TField} (hf : FieldOK f) {l : List Int} {kk : Unit → Option Bool} (hl : l.length = nseg f + 1) (hb : ∀ i, i < l.length → Entry ((l[i]?).getD 0)) : M60 f.Clocks l kk (f.Clocks.Far.length + 1) 0 = chk (∀ i, i < l.length → ∀ k, k < l.length → (l[k]?).getD 0 - (l[i]?).getD 0 ≤ far f i k) false (kk ()) := by
  have hfl := hf.clocks.far
  have hE : l.length = f.Clocks.Far.length := by rw [hfl, hl]
  rw [← hE]
  refine chk_loop (f := fun n i => M60 f.Clocks l kk n (i : Int)) (fun n i hi => ?_) (fun n => ?_)
  · show M60 f.Clocks l kk (n + 1) (i : Int) = _
    have hsg : nseg f ≤ 511 := hf.clocks.few
    have hi' : i < f.Clocks.Far.length := by omega
    have hi2 : i < nseg f + 1 := by omega
    obtain ⟨row, h1, h2, h3⟩ := rows_get hf.clocks.row hf.clocks.far hi2
    rw [M60, dec_lt_nat, decide_eq_true hi', cond_true, h2, some_bind, fuel_sub, aligned_L2 hf hl hb hi2 h1 h3]
    show chk _ _ (M60 f.Clocks l kk n (w64 ((i : Int) + 1))) = _
    rw [w64_succ (by omega), h3, hl]
  · show M60 f.Clocks l kk (n + 1) ((l.length : Nat) : Int) = _
    rw [hE, M60]; simp

/-- Offsets that are possible. -/
def Offs (f : TField) (h : THistory) : Prop := (∀ i, i < nseg f + 1 → -1125899906842624 ≤ off h i ∧ off h i ≤ 1125899906842624) ∧ ∀ i, i < nseg f + 1 → ∀ k, k < nseg f + 1 → off h k - off h i ≤ far f i k

theorem aligned_eq {f : TField} (hf : FieldOK f) {h : THistory} (ho : h.Offsets.length = nseg f) : ∃ b, M62 f.Clocks h.Offsets = some b ∧ (b = true ↔ Offs f h) := by
  have hsg : nseg f ≤ 511 := hf.clocks.few
  unfold M62
  rw [app_ok (by simp [ho]; omega) (by simp [ho]; omega), some_bind, show ([0] ++ h.Offsets) = 0 :: h.Offsets from rfl]
  have hl : (0 :: h.Offsets).length = nseg f + 1 := by simp [ho]
  obtain ⟨b, h1, h2⟩ := containsA_eq (l := 0 :: h.Offsets) (by omega)
  rw [h1, some_bind]
  have h0 : off h 0 = 0 := rfl
  have hE : (∀ i, i < (0 :: h.Offsets).length → Entry (((0 :: h.Offsets)[i]?).getD 0)) ↔ ∀ i, i < nseg f + 1 → Entry (off h i) := by rw [hl]; rfl
  cases b with
  | true =>
    refine ⟨false, rfl, ?_⟩
    have h3 := h2.1 rfl
    rw [hE] at h3
    constructor
    · intro h; cases h
    · rintro ⟨_, h4⟩
      refine absurd (fun i hi => ?_) h3
      have a1 := h4 0 (by omega) i hi
      have a2 := h4 i hi 0 (by omega)
      have b1 := far_bound hf (i := 0) (j := i) (by omega) hi
      have b2 := far_bound hf (i := i) (j := 0) hi (by omega)
      unfold Entry
      omega
  | false =>
    have h3 : ∀ i, i < (0 :: h.Offsets).length → Entry (((0 :: h.Offsets)[i]?).getD 0) := Classical.byContradiction fun hh => by simpa using h2.2 hh
    rw [cond_false, fuel_sub, aligned_L1 hf hl h3, hl]
    unfold M61
    have hO : (∀ i, i < nseg f + 1 → ∀ k, k < nseg f + 1 → ((0 :: h.Offsets)[k]?).getD 0 - ((0 :: h.Offsets)[i]?).getD 0 ≤ far f i k) ↔ Offs f h := by
      constructor
      · intro h4
        refine ⟨fun i hi => ?_, h4⟩
        have := hE.1 h3 i hi
        unfold Entry at this
        omega
      · exact fun h4 => h4.2
    by_cases h4 : Offs f h
    · exact ⟨true, chk_pos (hO.2 h4), by simp [h4]⟩
    · exact ⟨false, chk_neg (fun h5 => h4 (hO.1 h5)), by simp [h4]⟩

theorem sane26_true : M93 = some true := by kernel_rfl

def ChOK (f : TField) (h : THistory) (k : Nat) : Prop := 0 ≤ (ch h k).Outcome ∧ (ch h k).Outcome < (wl f.Runners k h.World.toNat).length ∧ ((oc f h k).Out = true → (ch h k).X = 0) ∧ ((oc f h k).Out = false → (oc f h k).Lo ≤ (ch h k).X ∧ (ch h k).X ≤ (oc f h k).Hi)

theorem outcomes_eq {f : TField} (hf : FieldOK f) {h : THistory} (hw : 0 ≤ h.World ∧ h.World < npair f + 1) {k : Nat} (hk : k < nrun f) : M63 ⟨f, h⟩ (k : Int) = some (wl f.Runners k h.World.toNat) := by
  obtain ⟨_, hm⟩ := wl_mem hf hk (w := h.World.toNat) (by have : h.World < (npair f : Int) + 1 := hw.2; show _ < npair f + 1; omega)
  have ew : (h.World.toNat : Int) = h.World := by omega
  rw [ew] at hm
  unfold M63
  dsimp only
  rw [idx_lt hk, some_bind, hm, some_bind]

theorem outcomeV_eq {f : TField} (hf : FieldOK f) {h : THistory} (hw : 0 ≤ h.World ∧ h.World < npair f + 1) {k : Nat} (hk : k < nrun f) (hc : k < h.Choices.length) (h0 : 0 ≤ (ch h k).Outcome) (h1 : (ch h k).Outcome < (wl f.Runners k h.World.toNat).length) : M64 ⟨f, h⟩ (k : Int) = some (oc f h k) := by
  have e : (ch h k).Outcome = ((ch h k).Outcome.toNat : Int) := by omega
  have h3 : (ch h k).Outcome.toNat < (wl f.Runners k h.World.toNat).length := by omega
  unfold M64
  rw [outcomes_eq hf hw hk, some_bind]
  dsimp only
  rw [idx_lt hc, some_bind, ch_get hc, e, idx_lt h3, some_bind]
  unfold oc
  simp [h3]

theorem open_L1 {f : TField} (hs : Small f) (hf : FieldOK f) {h : THistory} (hw : 0 ≤ h.World ∧ h.World < npair f + 1) (hc : h.Choices.length = nrun f) : M65 f h (M66 f h) (h.Choices.length + 1) 0 = chk (∀ k, k < h.Choices.length → ChOK f h k) (⟨f, h⟩, 260) (some (⟨f, h⟩, 0)) := by
  refine chk_loop (f := fun n i => M65 f h (M66 f h) n (i : Int)) (fun n i hi => ?_) (fun n => ?_)
  · show M65 f h (M66 f h) (n + 1) (i : Int) = _
    have hlen : nrun f ≤ 1000000 := hs.runners
    have hi' : i < nrun f := by omega
    rw [M65, dec_lt_nat, decide_eq_true hi, cond_true, idx_lt hi, some_bind, w64_succ (by omega), ch_get hi, bif_dec]
    unfold ChOK
    by_cases h1 : (ch h i).Outcome < 0
    · rw [if_pos h1, chk_neg (by omega)]
    · rw [if_neg h1, outcomes_eq hf hw hi', some_bind, bif_dec]
      by_cases h2 : (ch h i).Outcome ≥ ((wl f.Runners i h.World.toNat).length : Int)
      · rw [if_pos h2, chk_neg (by omega)]
      · rw [if_neg h2, outcomeV_eq hf hw hi' hi (by omega) (by omega), some_bind]
        generalize oc f h i = x
        cases hx : x.Out with
        | true =>
          rw [cond_true, bif_dec, bif_dec]
          by_cases h5 : (ch h i).X < 0
          · rw [if_pos h5, chk_neg (fun hh => by have := hh.2.2.1 rfl; omega)]
          · rw [if_neg h5]
            by_cases h6 : (ch h i).X > 0
            · rw [if_pos h6, chk_neg (fun hh => by have := hh.2.2.1 rfl; omega)]
            · rw [if_neg h6, chk_pos ⟨by omega, by omega, fun _ => by omega, fun hh => by cases hh⟩]
        | false =>
          rw [cond_false, bif_dec, bif_dec]
          by_cases h5 : (ch h i).X < x.Lo
          · rw [if_pos h5, chk_neg (fun hh => by have := hh.2.2.2 rfl; omega)]
          · rw [if_neg h5]
            by_cases h6 : (ch h i).X > x.Hi
            · rw [if_pos h6, chk_neg (fun hh => by have := hh.2.2.2 rfl; omega)]
            · rw [if_neg h6, chk_pos ⟨by omega, by omega, fun hh => (by cases hh), fun _ => ⟨by omega, by omega⟩⟩]
  · show M65 f h (M66 f h) (n + 1) ((h.Choices.length : Nat) : Int) = _
    rw [M65]; simp [M66]

def zview : Thistory_view := ⟨⟨⟨[], []⟩, [], []⟩, ⟨0, [], []⟩⟩

theorem open_eq {f : TField} (hs : Small f) (h : THistory) : M67 f h = chk (FieldOK f) (zview, 240) (chk (Adm f h) (⟨f, h⟩, 260) (some (⟨f, h⟩, 0))) := by
  unfold M67
  rw [field_Check_eq hs]
  by_cases hf : FieldOK f
  · rw [chk_pos hf, chk_pos hf, some_bind]
    simp only [bne_self_eq_false, cond_false]
    have hsp : npair f ≤ 1000 := hs.pairs
    have hsr := hs.runners
    by_cases h1 : 0 ≤ h.World ∧ h.World < npair f + 1
    · have hwn : h.World.toNat < npair f + 1 := by omega
      have ew : h.World = (h.World.toNat : Int) := by omega
      obtain ⟨b, hb1, hb2⟩ := containsH_eq (l := f.Runners) (w := h.World.toNat) hsr (fun r hr => by rw [worlds_of hf.runner r hr]; exact hwn)
      rw [← ew] at hb1
      have e1 : decide (h.World < 0) = false := by simp; omega
      have e2 : decide (h.World > (f.Pairs.length : Int)) = false := by
        have : ((npair f : Nat) : Int) = (f.Pairs.length : Int) := rfl
        simp; omega
      rw [e1, e2]
      unfold M52
      simp only [cond_false, hb1, some_bind]
      by_cases h2 : Poss f.Runners h.World.toNat
      · have : b = false := by
          cases b with
          | false => rfl
          | true => exact absurd h2 (hb2.1 rfl)
        subst this
        simp only [Bool.not_false, Bool.not_true, cond_false, bif_ne]
        by_cases h3 : h.Offsets.length = nseg f
        · rw [if_pos (show (h.Offsets.length : Int) = (f.Clocks.Segments.length : Int) by rw [h3])]
          by_cases h4 : h.Choices.length = nrun f
          · rw [if_pos (show (h.Choices.length : Int) = (f.Runners.length : Int) by rw [h4])]
            obtain ⟨c, hc1, hc2⟩ := aligned_eq hf h3
            rw [hc1]
            cases c with
            | false =>
              rw [chk_neg (fun ha : Adm f h => by have := hc2.2 ⟨ha.small, ha.tri⟩; cases this)]
              rfl
            | true =>
              have hO := hc2.1 rfl
              simp only [some_bind, Bool.not_true, cond_false]
              rw [fuel_sub, open_L1 hs hf h1 h4]
              refine chk_congr ⟨fun hC => ⟨h1, h2, h3, h4, hO.1, hO.2, fun k hk => hC k (by omega)⟩, fun ha k hk => ha.choice k (by omega)⟩ fun _ => rfl
          · rw [if_neg (show ¬(h.Choices.length : Int) = (f.Runners.length : Int) from fun e => h4 (by have : (h.Choices.length : Int) = (nrun f : Int) := e; omega)), chk_neg (fun ha : Adm f h => h4 ha.chs)]
            rfl
        · rw [if_neg (show ¬(h.Offsets.length : Int) = (f.Clocks.Segments.length : Int) from fun e => h3 (by have : (h.Offsets.length : Int) = (nseg f : Int) := e; omega)), chk_neg (fun ha : Adm f h => h3 ha.offs)]
          rfl
      · have : b = true := hb2.2 h2
        subst this
        rw [chk_neg (fun ha : Adm f h => h2 ha.poss)]
        rfl
    · rw [chk_neg (fun ha : Adm f h => h1 ha.world)]
      by_cases e : h.World < 0
      · rw [decide_eq_true e]; rfl
      · have e2 : decide (h.World > (f.Pairs.length : Int)) = true := by
          have : ((npair f : Nat) : Int) = (f.Pairs.length : Int) := rfl
          simp; omega
        rw [decide_eq_false e, e2]; rfl
  · rw [chk_neg hf, chk_neg hf]
    rfl

theorem histCheck_eq {f : TField} (hs : Small f) (h : THistory) : M92 f h = chk (FieldOK f) 240 (chk (Adm f h) 260 (some 0)) := by
  unfold M92
  rw [open_eq hs]
  by_cases hf : FieldOK f
  · rw [chk_pos hf, chk_pos hf]
    by_cases ha : Adm f h
    · rw [chk_pos ha, chk_pos ha]; rfl
    · rw [chk_neg ha, chk_neg ha]; rfl
  · rw [chk_neg hf, chk_neg hf]; rfl

/-- The first row of the distances, as offsets. -/
theorem far0_offs {f : TField} (hf : FieldOK f) : ∃ row, idx f.Clocks.Far 0 = some row ∧ row.length = nseg f + 1 ∧ row.drop 1 = (List.range (nseg f)).map (fun k => far f 0 (k + 1)) := by
  have h1 := hf.clocks.far
  have h0 : 0 < f.Clocks.Far.length := by omega
  have hr := (hf.clocks.row 0 h0).1
  refine ⟨f.Clocks.Far[0], idx_lt h0, by simpa [h0] using hr, ?_⟩
  have hl : f.Clocks.Far[0].length = nseg f + 1 := by simpa [h0] using hr
  refine List.ext_getElem (by simp [hl]) fun i hi hi' => ?_
  have h3 : i + 1 < f.Clocks.Far[0].length := by simp at hi; omega
  simp only [List.getElem_drop, List.getElem_map, List.getElem_range]
  unfold far at2
  have e : 1 + i = i + 1 := by omega
  simp [h0, h3, e]

/-- A choice of an outcome at its least time. -/
def LoChoice (f : TField) (w k : Nat) (c : TChoice) : Prop := ∃ j : Nat, ∃ y, (wl f.Runners k w)[j]? = some y ∧ c = ⟨(j : Int), if y.Out = true then 0 else y.Lo⟩

theorem lo_adm {f : TField} (hf : FieldOK f) {w : Nat} (hw : w < npair f + 1) (hp : Poss f.Runners w) {l : List TChoice} (hl : Lst (LoChoice f w) (nrun f) l) :
    Adm f ⟨(w : Int), (List.range (nseg f)).map (fun k => far f 0 (k + 1)), l⟩ where
  world := ⟨by show 0 ≤ (w : Int); omega, by show (w : Int) < npair f + 1; omega⟩
  poss := by show Poss f.Runners ((w : Int)).toNat; rw [Int.toNat_natCast]; exact hp
  offs := by simp
  chs := hl.1
  small i hi := by
    have h0 : far f 0 0 = 0 := far_self hf (by omega)
    rw [off_map (g := fun k => far f 0 k) hi h0]
    have := far_bound hf (i := 0) (j := i) (by omega) hi
    omega
  tri i hi k hk := by
    have h0 : far f 0 0 = 0 := far_self hf (by omega)
    rw [off_map (g := fun k => far f 0 k) hi h0, off_map (g := fun k => far f 0 k) hk h0]
    have := far_tri hf (i := 0) (j := i) (m := k) (by omega) hi hk
    omega
  choice k hk := by
    obtain ⟨j, y, h1, h2⟩ := ch_lst hl (w := (w : Int)) (o := (List.range (nseg f)).map (fun k => far f 0 (k + 1))) hk
    have hlt := (List.getElem?_eq_some_iff.1 h1).1
    have hoc : oc f ⟨(w : Int), (List.range (nseg f)).map (fun k => far f 0 (k + 1)), l⟩ k = y := by
      unfold oc
      rw [h2]
      show ((wl f.Runners k ((w : Int)).toNat)[((j : Int)).toNat]?).getD default = y
      rw [Int.toNat_natCast, Int.toNat_natCast, h1]; rfl
    have hok : OutOK f.Clocks y := (show Occ f k w j y from ⟨hw, hp, h1⟩).ok hf hk
    rw [hoc, h2]
    refine ⟨by show 0 ≤ (j : Int); omega, by show (j : Int) < (wl f.Runners k ((w : Int)).toNat).length; rw [Int.toNat_natCast]; omega, fun hx => ?_, fun hx => ?_⟩
    · show (if y.Out = true then 0 else y.Lo) = 0
      rw [if_pos hx]
    · show y.Lo ≤ (if y.Out = true then 0 else y.Lo) ∧ (if y.Out = true then 0 else y.Lo) ≤ y.Hi
      rw [if_neg (by rw [hx]; decide)]
      exact ⟨Int.le_refl _, (hok.2 hx).2.2.2.1⟩

theorem count_ge {f : TField} (hs : Small f) (hf : FieldOK f) : ∃ n, M91 f 1048576 = some (n, 0) ∧ 1 ≤ n := by
  have hp := hf.size.1
  have hr := hf.size.2.2
  unfold M91
  rw [field_Check_eq hs, chk_pos hf]
  simp only [some_bind, bne_self_eq_false, cond_false]
  rw [decide_eq_false (by omega), cond_false, decide_eq_false (by omega), cond_false]
  have ew : w64 ((f.Pairs.length : Int) + 1) = ((f.Pairs.length + 1 : Nat) : Int) := w64_succ (by omega)
  have em : w64 ((1048576 : Int) + 1) = 1048577 := rfl
  have key : ∀ w : Nat, w < f.Pairs.length + 1 → ∃ z, M89 f 1048576 (w : Int) (nrun f + 1) 1 0 = some z ∧ 0 ≤ z ∧ z ≤ 1048577 ∧ (Poss f.Runners w → 1 ≤ z) := by
    intro w hw
    obtain ⟨s, h1, h2⟩ := inv_loop (N := nrun f) (f := fun n i s => M89 f 1048576 (w : Int) n s (i : Int)) (k := some) (I := fun _ s => 0 ≤ s ∧ s ≤ 1048577 ∧ (Poss f.Runners w → 1 ≤ s)) (s0 := (1 : Int)) (fun i s hi ⟨b1, b2, b3⟩ => by
      have hi' : i < f.Runners.length := hi
      obtain ⟨wm, hg⟩ := wl_mem hf hi' hw
      have hl := (hs.worlds _ (List.getElem_mem hi')).2.2 _ wm
      have c1 : 0 ≤ s * ((wl f.Runners i w).length : Int) := Int.mul_nonneg b1 (by omega)
      have c2 : s * ((wl f.Runners i w).length : Int) ≤ 1048577 * 1000 := Int.mul_le_mul b2 (by omega) (by omega) (by omega)
      refine ⟨minG (w64 (s * ((wl f.Runners i w).length : Int))) 1048577, ?_, fun n => ?_⟩
      · rw [w64_of (by omega) (by omega)]
        unfold minG
        refine ⟨?_, ?_, fun hP => ?_⟩
        · split <;> omega
        · split <;> omega
        · have c3 : 1 * 1 ≤ s * ((wl f.Runners i w).length : Int) := Int.mul_le_mul (b3 hP) (by have := hP i hi'; omega) (by omega) b1
          split <;> omega
      · show M89 f 1048576 (w : Int) (n + 1) s (i : Int) = _
        rw [M89, dec_lt_nat, decide_eq_true hi', cond_true, idx_lt hi', some_bind, hg, some_bind, w64_succ (by omega), em]) (fun n s => by
      show M89 f 1048576 (w : Int) (n + 1) s ((f.Runners.length : Nat) : Int) = _
      rw [M89, dec_lt_nat, decide_eq_false (by omega)]; rfl) ⟨by omega, by omega, fun _ => by omega⟩
    exact ⟨s, h1, h2⟩
  rw [ew, fuel_sub]
  obtain ⟨s, h1, b1, b2, b3⟩ := inv_loop (N := f.Pairs.length + 1) (f := fun n i s => M90 f 1048576 n s (i : Int)) (k := some) (I := fun i s => 0 ≤ s ∧ s ≤ 1048576 ∧ ((∃ w, w < i ∧ Poss f.Runners w) → 1 ≤ s)) (s0 := (0 : Int)) (fun i s hi ⟨b1, b2, b3⟩ => by
    obtain ⟨z, z1, z2, z3, z4⟩ := key i hi
    refine ⟨minG (w64 (s + z)) 1048576, ?_, fun n => ?_⟩
    · rw [w64_of (by omega) (by omega)]
      unfold minG
      refine ⟨?_, ?_, ?_⟩
      · split <;> omega
      · split <;> omega
      · rintro ⟨w, hw, hP⟩
        by_cases e : w = i
        · subst e
          have := z4 hP
          split <;> omega
        · have := b3 ⟨w, by omega, hP⟩
          split <;> omega
    · show M90 f 1048576 (n + 1) s (i : Int) = _
      rw [M90, ew, dec_lt_nat, decide_eq_true hi, cond_true, fuel_sub, z1, some_bind, w64_succ (by omega)]) (fun n s => by
    show M90 f 1048576 (n + 1) s ((f.Pairs.length + 1 : Nat) : Int) = _
    rw [M90, ew, dec_lt_nat, decide_eq_false (by omega)]; rfl) ⟨by omega, by omega, fun ⟨w, hw, _⟩ => by omega⟩
  replace h1 : M90 f 1048576 (f.Pairs.length + 1 + 1) 0 0 = some s := h1
  rw [h1]
  refine ⟨s, rfl, b3 ?_⟩
  have hq := hf.poss
  simp only [Classical.not_forall, Classical.not_not] at hq
  obtain ⟨w, hw, hP⟩ := hq
  exact ⟨w, hw, hP⟩

theorem each_L1 {f : TField} (hs : Small f) (hf : FieldOK f) {w : Nat} (hw : w < npair f + 1) {picks : List Int} (hpk : ∀ y, y ∈ picks → 0 ≤ y ∧ y ≤ 255) (K : Bool → List TChoice → Option Bool) :
    ∃ pos l, M176 f (w : Int) picks K (nrun f + 1) true 0 [] = K pos l ∧ ((pos = true ∧ Poss f.Runners w ∧ Lst (LoChoice f w) (nrun f) l) ∨ (pos = false ∧ ¬Poss f.Runners w)) := by
  have hlen : nrun f ≤ 1000000 := hs.runners
  obtain ⟨s, h1, h2, h3⟩ := inv_loop (N := nrun f) (f := fun n i (s : Bool × List TChoice) => M176 f (w : Int) picks K n s.1 (i : Int) s.2) (k := fun s => K s.1 s.2) (I := fun i s => s.2.length = i ∧ ((s.1 = true ∧ (∀ j, j < i → (wl f.Runners j w).length ≠ 0) ∧ Lst (LoChoice f w) i s.2) ∨ (s.1 = false ∧ ¬Poss f.Runners w))) (s0 := (true, [])) (fun i s hi ⟨hI, hI2⟩ => by
    obtain ⟨pos, l⟩ := s
    dsimp only at hI hI2
    have hi' : i < f.Runners.length := hi
    obtain ⟨wm, wg⟩ := wl_mem hf hi' hw
    have hl := (hs.worlds _ (List.getElem_mem hi')).2.2 _ wm
    have hwl : f.Runners[i].Worlds.length = npair f + 1 := worlds_of hf.runner f.Runners[i] (List.getElem_mem hi')
    by_cases h0 : (wl f.Runners i w).length = 0
    · refine ⟨(false, l ++ [⟨0, 0⟩]), ⟨by simp [hI], .inr ⟨rfl, fun hP => hP i hi' h0⟩⟩, fun n => ?_⟩
      show M176 f (w : Int) picks K (n + 1) pos (i : Int) l = M176 f (w : Int) picks K n false ((i + 1 : Nat) : Int) (l ++ [⟨0, 0⟩])
      rw [M176, dec_lt_nat, decide_eq_true hi', cond_true, idx_lt hi']
      simp only [some_bind]
      rw [decide_eq_false (by rw [hwl]; omega), cond_false, wg, some_bind, bif_eq, if_pos (by omega), app_ok (by simp; omega) (by simp; omega), some_bind]
      unfold M175
      rw [w64_succ (by omega)]
    · have hcase : ∃ j : Nat, ∃ y, (wl f.Runners i w)[j]? = some y ∧ ∀ n, M176 f (w : Int) picks K (n + 1) pos (i : Int) l = M176 f (w : Int) picks K n pos ((i + 1 : Nat) : Int) (l ++ [⟨(j : Int), if y.Out = true then 0 else y.Lo⟩]) := by
        by_cases hip : i < picks.length
        · obtain ⟨p1, p2⟩ := hpk _ (List.getElem_mem hip)
          obtain ⟨p, ep⟩ : ∃ p : Nat, picks[i] = (p : Int) := ⟨picks[i].toNat, by omega⟩
          have hj : p % (wl f.Runners i w).length < (wl f.Runners i w).length := Nat.mod_lt _ (by omega)
          have et : Int.tmod (w64 picks[i]) ((wl f.Runners i w).length : Int) = ((p % (wl f.Runners i w).length : Nat) : Int) := by
            rw [w64_of (by omega) (by omega), ep]; rfl
          refine ⟨p % (wl f.Runners i w).length, (wl f.Runners i w)[p % (wl f.Runners i w).length], by simp [hj], fun n => ?_⟩
          have hz : nz ((wl f.Runners i w).length : Int) = some () := by unfold nz; rw [if_neg (by omega)]
          rw [M176, dec_lt_nat, decide_eq_true hi', cond_true, idx_lt hi']
          simp only [some_bind]
          rw [decide_eq_false (by rw [hwl]; omega), cond_false, wg, some_bind, bif_eq, if_neg (by omega), dec_lt_nat, decide_eq_true hip, cond_true, idx_lt hip, some_bind, hz, some_bind, et, idx_lt hj]
          simp only [some_bind]
          unfold M175
          rw [w64_succ (by omega)]
          cases (wl f.Runners i w)[p % (wl f.Runners i w).length].Out with
          | true => simp only [Bool.not_true, cond_false, if_true]; rw [app_ok (by simp; omega) (by simp; omega), some_bind]
          | false => simp only [Bool.not_false, cond_true, Bool.false_eq_true, if_false]; rw [app_ok (by simp; omega) (by simp; omega), some_bind]
        · have hj : 0 < (wl f.Runners i w).length := by omega
          have g0 : idx (wl f.Runners i w) 0 = some (wl f.Runners i w)[0] := idx_lt hj
          refine ⟨0, (wl f.Runners i w)[0], by simp [hj], fun n => ?_⟩
          rw [M176, dec_lt_nat, decide_eq_true hi', cond_true, idx_lt hi']
          simp only [some_bind]
          rw [decide_eq_false (by rw [hwl]; omega), cond_false, wg, some_bind, bif_eq, if_neg (by omega), dec_lt_nat, decide_eq_false hip, cond_false, g0]
          simp only [some_bind]
          unfold M175
          rw [w64_succ (by omega)]
          cases (wl f.Runners i w)[0].Out with
          | true => simp only [Bool.not_true, cond_false, if_true]; rw [app_ok (by simp; omega) (by simp; omega), some_bind]; rfl
          | false => simp only [Bool.not_false, cond_true, Bool.false_eq_true, if_false]; rw [app_ok (by simp; omega) (by simp; omega), some_bind]; rfl
      obtain ⟨j, y, hy, hstep⟩ := hcase
      refine ⟨(pos, l ++ [⟨(j : Int), if y.Out = true then 0 else y.Lo⟩]), ⟨by simp [hI], ?_⟩, hstep⟩
      rcases hI2 with ⟨a, b, c⟩ | h
      · refine .inl ⟨a, fun k hk => ?_, c.snoc ⟨j, y, hy, rfl⟩⟩
        by_cases e : k = i
        · rw [e]; exact h0
        · exact b k (by omega)
      · exact .inr h) (fun n s => by
    show M176 f (w : Int) picks K (n + 1) s.1 ((f.Runners.length : Nat) : Int) s.2 = _
    rw [M176, dec_lt_nat, decide_eq_false (by omega)]; rfl) ⟨rfl, .inl ⟨rfl, fun j hj => by omega, .nil⟩⟩
  refine ⟨s.1, s.2, h1, ?_⟩
  rcases h3 with ⟨a, b, c⟩ | h
  · exact .inl ⟨a, fun i hi => b i hi, c⟩
  · exact .inr h

theorem HistoryEach_true (y0 : TField) (y1 : Int) (y2 : List Int) (w0 : wTField y0) (_w1 : wI y1) (w2 : (wL wU8) y2) : M178 y0 y1 y2 = some true := by
  unfold M178
  rw [sane26_true, some_bind]
  obtain ⟨b, h1, h2⟩ := few24_eq w0
  rw [h1]
  cases b with
  | false => rfl
  | true =>
    obtain ⟨hs, _⟩ := h2 rfl
    simp only [some_bind, Bool.not_true, cond_false]
    rw [field_Check_eq hs]
    by_cases hf : FieldOK y0
    · rw [chk_pos hf]
      simp only [some_bind, bne_self_eq_false, cond_false]
      by_cases c1 : y1 < 0
      · rw [decide_eq_true c1]; rfl
      · rw [decide_eq_false c1]
        by_cases c2 : y1 > (y0.Pairs.length : Int)
        · rw [decide_eq_true c2]; rfl
        · rw [decide_eq_false c2]
          obtain ⟨w, rfl⟩ : ∃ w : Nat, y1 = (w : Int) := ⟨y1.toNat, by omega⟩
          have hw : w < npair y0 + 1 := by show w < y0.Pairs.length + 1; omega
          obtain ⟨row, g1, g2, g3⟩ := far0_offs hf
          have hfl := hf.clocks.far
          have hsg := hs.seg
          have e1 : ((y0.Clocks.Far.length : Int) == 0) = false := by simp; intro h; rw [h] at hfl; simp at hfl
          have e2 : ((row.length : Int) != w64 ((y0.Clocks.Segments.length : Int) + 1)) = false := by
            rw [w64_succ (by omega), g2]; simp
          rw [e1, g1]
          simp only [some_bind, cond_false, e2]
          have hsl : slcFrom row 1 = some (row.drop 1) := by unfold slcFrom; rw [if_pos ⟨by omega, by omega⟩]; rfl
          have happ : app 8 ([] : List Int) (row.drop 1) = some (row.drop 1) := by
            rw [app_ok (by simp [g2]; unfold nseg; omega) (by simp [g2]; unfold nseg; omega)]; rfl
          rw [hsl, some_bind, happ, some_bind, fuel_sub, g3]
          obtain ⟨pos, l, k1, k2⟩ := each_L1 hs hf hw w2.2 (M177 y0 (w : Int) ((List.range (nseg y0)).map (fun k => far y0 0 (k + 1))))
          unfold nrun at k1
          rw [k1]
          unfold M177
          obtain ⟨n, q1, q2⟩ := count_ge hs hf
          rw [q1, some_bind]
          dsimp only
          rw [histCheck_eq hs, chk_pos hf]
          rcases k2 with ⟨rfl, hP, hL⟩ | ⟨rfl, hP⟩
          · rw [chk_pos (lo_adm hf hw hP hL)]
            simp [q2]
          · rw [chk_neg (fun ha => hP (by have := ha.poss; simpa using this))]
            simp [q2]
    · rw [chk_neg hf]; rfl

end Go.Stop
