/- Plain laws about the models. No condition. -/
import Derived.Test.YtkefiomhjjoekaaV
import Derived.KernelRfl
namespace Go.Stop
open Go Go.Abs

theorem w64_of {n : Int} (h1 : -9223372036854775808 ≤ n) (h2 : n ≤ 9223372036854775807) : w64 n = n := by
  unfold w64; simp only [IntKind.wrap, IntKind.bits, IntKind.signed]; simp; omega

theorem w64_succ {i : Nat} (h : i < 9223372036854775807) : w64 ((i : Int) + 1) = ((i + 1 : Nat) : Int) := by
  rw [w64_of (by omega) (by omega)]; rfl

theorem idx_nat {α : Type} (l : List α) (i : Nat) : idx l (i : Int) = l[i]? := by
  unfold idx; simp

theorem idx_lt {α : Type} {l : List α} {i : Nat} (h : i < l.length) : idx l (i : Int) = some l[i] := by
  rw [idx_nat]; simp [h]

theorem some_bind {α β : Type} (a : α) (f : α → Option β) : (some a).bind f = f a := rfl

theorem dec_lt_nat (i n : Nat) : decide ((i : Int) < (n : Int)) = decide (i < n) := by simp

section
open Classical

/-- A test: k if p, else r. -/
noncomputable def chk {β : Type} (p : Prop) (r : β) (k : Option β) : Option β := if p then k else some r

theorem chk_and {β : Type} (p q : Prop) (r : β) (k : Option β) : chk p r (chk q r k) = chk (p ∧ q) r k := by
  unfold chk; by_cases hp : p <;> by_cases hq : q <;> simp [hp, hq]

theorem chk_congr {β : Type} {p q : Prop} {r : β} {k k' : Option β} (h : p ↔ q) (hk : p → k = k') : chk p r k = chk q r k' := by
  unfold chk
  by_cases hp : p
  · rw [if_pos hp, if_pos (h.1 hp), hk hp]
  · rw [if_neg hp, if_neg (fun hq => hp (h.2 hq))]

/-- A loop that leaves with r at the first number that is not right. -/
theorem chk_loop {β : Type} {N : Nat} {f : Nat → Nat → Option β} {r : β} {ok : Nat → Prop} {k : Option β} (hs : ∀ n i, i < N → f (n + 1) i = chk (ok i) r (f n (i + 1))) (he : ∀ n, f (n + 1) N = k) :
    f (N + 1) 0 = chk (∀ i, i < N → ok i) r k := by
  unfold chk at hs ⊢
  have key : ∀ c i n, i + c = N → c ≤ n → f (n + 1) i = if (∀ j, i ≤ j → j < N → ok j) then k else some r := by
    intro c
    induction c with
    | zero =>
      intro i n h _
      have : i = N := by omega
      subst this
      rw [he, if_pos (fun j h1 h2 => absurd h2 (by omega))]
    | succ c ih =>
      intro i n h hn
      rw [hs n i (by omega)]
      obtain ⟨n, rfl⟩ : ∃ n', n = n' + 1 := ⟨n - 1, by omega⟩
      by_cases h1 : ok i
      · rw [if_pos h1, ih (i + 1) n (by omega) (by omega)]
        by_cases h2 : ∀ j, i + 1 ≤ j → j < N → ok j
        · rw [if_pos h2, if_pos]
          intro j hj hjN
          by_cases e : j = i
          · exact e ▸ h1
          · exact h2 j (by omega) hjN
        · rw [if_neg h2, if_neg]
          intro h3
          exact h2 fun j hj hjN => h3 j (by omega) hjN
      · rw [if_neg h1, if_neg]
        intro h3
        exact h1 (h3 i (by omega) (by omega))
  rw [key N 0 N (by omega) (by omega)]
  simp

/-- .. where the right numbers so far may be leant on. -/
theorem chk_loop' {β : Type} {N : Nat} {f : Nat → Nat → Option β} {r : β} {ok : Nat → Prop} {k : Option β} (hs : ∀ n i, i < N → (∀ j, j < i → ok j) → f (n + 1) i = chk (ok i) r (f n (i + 1))) (he : ∀ n, (∀ j, j < N → ok j) → f (n + 1) N = k) :
    f (N + 1) 0 = chk (∀ i, i < N → ok i) r k := by
  have key : ∀ c i n, i + c = N → c ≤ n → (∀ j, j < i → ok j) → f (n + 1) i = chk (∀ j, j < N → ok j) r k := by
    intro c
    induction c with
    | zero =>
      intro i n h _ hp
      have : i = N := by omega
      subst this
      rw [he n hp]; unfold chk; rw [if_pos hp]
    | succ c ih =>
      intro i n h hn hp
      rw [hs n i (by omega) hp]
      obtain ⟨n, rfl⟩ : ∃ n', n = n' + 1 := ⟨n - 1, by omega⟩
      by_cases h1 : ok i
      · rw [ih (i + 1) n (by omega) (by omega) (fun j hj => by
          by_cases e : j = i
          · exact e ▸ h1
          · exact hp j (by omega))]
        unfold chk; rw [if_pos h1]
      · unfold chk; rw [if_neg h1, if_neg (fun h3 => h1 (h3 i (by omega)))]
  exact key N 0 N (by omega) (by omega) (fun j hj => absurd hj (by omega))

/-- A loop that keeps what is known of its state. -/
theorem run_inv {σ : Type} {N : Nat} {f : Nat → Nat → σ → Option σ} {I : Nat → σ → Prop} (hs : ∀ n i s, i < N → I i s → ∃ s', I (i + 1) s' ∧ f (n + 1) i s = f n (i + 1) s') (he : ∀ n s, f (n + 1) N s = some s) {s0 : σ} (h0 : I 0 s0) :
    ∃ s, f (N + 1) 0 s0 = some s ∧ I N s := by
  have key : ∀ c i n s, i + c = N → c ≤ n → I i s → ∃ s', f (n + 1) i s = some s' ∧ I N s' := by
    intro c
    induction c with
    | zero =>
      intro i n s h _ hi
      have : i = N := by omega
      subst this
      exact ⟨s, he n s, hi⟩
    | succ c ih =>
      intro i n s h hn hi
      obtain ⟨s', h1, h2⟩ := hs n i s (by omega) hi
      obtain ⟨n, rfl⟩ : ∃ n', n = n' + 1 := ⟨n - 1, by omega⟩
      rw [h2]
      exact ih (i + 1) n s' (by omega) (by omega) h1
  exact key N 0 N s0 (by omega) (by omega) h0

/-- The numbers from i on that are taken. -/
noncomputable def listP (p : Nat → Prop) : Nat → Nat → List Int
  | _, 0 => []
  | i, c + 1 => if p i then (i : Int) :: listP p (i + 1) c else listP p (i + 1) c

/-- An iterator over numbers. -/
theorem it_loop {N : Nat} {f : Nat → Nat → Option (List Int)} {p : Nat → Prop} (hs : ∀ n i, i < N → f (n + 1) i = if p i then (f n (i + 1)).bind fun l => some ((i : Int) :: l) else f n (i + 1)) (he : ∀ n, f (n + 1) N = some []) : f (N + 1) 0 = some (listP p 0 N) := by
  have key : ∀ c i n, i + c = N → c ≤ n → f (n + 1) i = some (listP p i c) := by
    intro c
    induction c with
    | zero =>
      intro i n h _
      have : i = N := by omega
      subst this
      rw [he]; rfl
    | succ c ih =>
      intro i n h hn
      obtain ⟨n, rfl⟩ : ∃ n', n = n' + 1 := ⟨n - 1, by omega⟩
      rw [hs _ i (by omega), ih (i + 1) n (by omega) (by omega), listP]
      by_cases hp : p i
      · rw [if_pos hp, if_pos hp]; rfl
      · rw [if_neg hp, if_neg hp]
  exact key N 0 N (by omega) (by omega)

/-- A loop that leaves with its number at the first that is sought. -/
theorem find_loop {N : Nat} {f : Nat → Nat → Option Int} {p : Nat → Prop} (hs : ∀ n i, i < N → f (n + 1) i = if p i then some (i : Int) else f n (i + 1)) (he : ∀ n, f (n + 1) N = some (-1)) :
    ∃ r, f (N + 1) 0 = some r ∧ (r ≥ 0 ↔ ∃ i, i < N ∧ p i) := by
  have key : ∀ c i n, i + c = N → c ≤ n → ∃ r, f (n + 1) i = some r ∧ (r ≥ 0 ↔ ∃ j, i ≤ j ∧ j < N ∧ p j) := by
    intro c
    induction c with
    | zero =>
      intro i n h _
      have : i = N := by omega
      subst this
      refine ⟨-1, he n, by simp; omega⟩
    | succ c ih =>
      intro i n h hn
      rw [hs n i (by omega)]
      obtain ⟨n, rfl⟩ : ∃ n', n = n' + 1 := ⟨n - 1, by omega⟩
      by_cases h1 : p i
      · rw [if_pos h1]
        exact ⟨_, rfl, fun _ => ⟨i, Nat.le_refl _, by omega, h1⟩, fun _ => by omega⟩
      · rw [if_neg h1]
        obtain ⟨r, h2, h3⟩ := ih (i + 1) n (by omega) (by omega)
        refine ⟨r, h2, h3.trans ⟨fun ⟨j, a, b, c⟩ => ⟨j, by omega, b, c⟩, fun ⟨j, a, b, c⟩ => ⟨j, ?_, b, c⟩⟩⟩
        by_cases e : j = i
        · exact absurd (e ▸ c) h1
        · omega
  obtain ⟨r, h1, h2⟩ := key N 0 N (by omega) (by omega)
  exact ⟨r, h1, h2.trans ⟨fun ⟨j, _, b, c⟩ => ⟨j, b, c⟩, fun ⟨j, b, c⟩ => ⟨j, by omega, b, c⟩⟩⟩

end

theorem bif_dec {β : Type} (p : Prop) [Decidable p] (a b : β) : (bif decide p then a else b) = if p then a else b := by
  by_cases h : p <;> simp [h]

theorem bif_eq {β : Type} (x y : Int) (a b : β) : (bif x == y then a else b) = if x = y then a else b := by
  rw [Bool.cond_eq_ite]; simp only [beq_iff_eq]

theorem bif_ne {β : Type} (x y : Int) (a b : β) : (bif x != y then a else b) = if x = y then b else a := by
  rw [Bool.cond_eq_ite]; simp only [bne_iff_ne, ne_eq, ite_not]

theorem chk_pos {β : Type} {p : Prop} {r : β} {k : Option β} (h : p) : chk p r k = k := by unfold chk; rw [if_pos h]

theorem chk_neg {β : Type} {p : Prop} {r : β} {k : Option β} (h : ¬p) : chk p r k = some r := by unfold chk; rw [if_neg h]

/-- A test reckoned as a bool: it says whether something is wrong. -/
theorem bind_chk {β : Type} {p : Prop} {t : Option Bool} {r : β} {k : Option β} (h : ∃ b, t = some b ∧ (b = true ↔ ¬p)) : (t.bind fun v => bif v then some r else k) = chk p r k := by
  obtain ⟨b, rfl, hb⟩ := h
  cases b with
  | true => rw [chk_neg (hb.1 rfl)]; rfl
  | false => rw [chk_pos (Classical.byContradiction fun h => by simpa using hb.2 h)]; rfl

theorem fuel_sub (n : Nat) : ((n : Int) - 0).toNat + 1 = n + 1 := by omega

theorem cmp_eq (a b : Int) : m_cmp_Compare_int a b = some (if a < b then -1 else if b < a then 1 else 0) := by
  unfold m_cmp_Compare_int m_cmp_isNaN_int
  simp only [some_bind, bne_self_eq_false, cond_false, bif_dec]
  split
  · rfl
  · split
    · rfl
    · rfl

theorem or2_eq (a b : Int) : m_cmp_Or_int [a, b] = some (if a ≠ 0 then a else b) := by
  have s0 : m_cmp_Or_int [a, b] = bif a != 0 then some a else m_cmp_Or_int_L1 [a, b] m_cmp_Or_int_J2 2 1 := rfl
  have s1 : m_cmp_Or_int_L1 [a, b] m_cmp_Or_int_J2 2 1 = bif b != 0 then some b else m_cmp_Or_int_L1 [a, b] m_cmp_Or_int_J2 1 2 := rfl
  have s2 : m_cmp_Or_int_L1 [a, b] m_cmp_Or_int_J2 1 2 = some 0 := rfl
  rw [s0, s1, s2, bif_ne, bif_ne]
  by_cases ha : a = 0
  · by_cases hb : b = 0
    · simp [ha, hb]
    · simp [ha, hb]
  · simp [ha]

def SegLt (y x : TSegment) : Prop := y.Mat < x.Mat ∨ y.Mat = x.Mat ∧ y.Epoch < x.Epoch

theorem order_eq (y x : TSegment) : ∃ r, m_clocks_order y x = some r ∧ (r ≥ 0 ↔ ¬SegLt y x) := by
  unfold m_clocks_order m_clocks_place_compare SegLt
  simp only [cmp_eq, some_bind, or2_eq]
  refine ⟨_, rfl, ?_⟩
  by_cases h1 : y.Mat < x.Mat
  · simp [h1]
  · by_cases h2 : x.Mat < y.Mat
    · simp [h1, h2]; omega
    · have : y.Mat = x.Mat := by omega
      simp only [this, Int.lt_irrefl, if_false, ne_eq, not_true, false_or, true_and]
      by_cases h3 : y.Epoch < x.Epoch
      · rw [if_pos h3]; omega
      · rw [if_neg h3]
        split <;> omega

theorem time_eq (n : Int) : m_clocks_isTime n = some (decide (-1099511627776 ≤ n ∧ n ≤ 1099511627776)) := by
  unfold m_clocks_isTime; rw [bif_dec]; split
  · congr 1; simp; omega
  · congr 1; symm; simp; omega

/-- One segment, with the one before it. -/
def SegOK (l : List TSegment) (i : Nat) : Prop := ∀ x, l[i]? = some x → 0 ≤ x.Mat ∧ x.Mat < 40 ∧ 0 ≤ x.Epoch ∧ x.Epoch ≤ 255 ∧ (-1099511627776 ≤ x.Anchor ∧ x.Anchor ≤ 1099511627776) ∧ (0 < i → ∀ y, l[i - 1]? = some y → SegLt y x)

theorem pred_nat {i : Nat} (h : 0 < i) (h' : i < 9223372036854775807) : w64 ((i : Int) - 1) = ((i - 1 : Nat) : Int) := by
  rw [w64_of (by omega) (by omega)]; omega

theorem clocks_L1 {k : TClocks} {kk : Unit → Option Int} (hl : k.Segments.length < 9223372036854775807) : m_clocks_Check_L1 k kk (k.Segments.length + 1) 0 = chk (∀ i, i < k.Segments.length → SegOK k.Segments i) 160 (kk ()) := by
  refine chk_loop (f := fun n i => m_clocks_Check_L1 k kk n (i : Int)) (fun n i hi => ?_) (fun n => ?_)
  · show m_clocks_Check_L1 k kk (n + 1) (i : Int) = _
    rw [m_clocks_Check_L1, dec_lt_nat, decide_eq_true hi, cond_true, idx_lt hi, some_bind, w64_succ (by omega)]
    have hx : k.Segments[i]? = some k.Segments[i] := by simp [hi]
    generalize k.Segments[i] = x at hx
    refine bind_chk ?_
    have hs : SegOK k.Segments i ↔ (0 ≤ x.Mat ∧ x.Mat < 40 ∧ 0 ≤ x.Epoch ∧ x.Epoch ≤ 255 ∧ (-1099511627776 ≤ x.Anchor ∧ x.Anchor ≤ 1099511627776) ∧ (0 < i → ∀ y, k.Segments[i - 1]? = some y → SegLt y x)) := by
      unfold SegOK; rw [hx]; simp
    rw [hs]
    simp only [bif_dec, time_eq, some_bind]
    by_cases h1 : x.Mat < 0
    · exact ⟨true, if_pos h1, by simp; omega⟩
    rw [if_neg h1]
    by_cases h2 : x.Mat ≥ 40
    · exact ⟨true, if_pos h2, by simp; omega⟩
    rw [if_neg h2]
    by_cases h3 : x.Epoch < 0
    · exact ⟨true, if_pos h3, by simp; omega⟩
    rw [if_neg h3]
    by_cases h4 : x.Epoch > 255
    · exact ⟨true, if_pos h4, by simp; omega⟩
    rw [if_neg h4]
    by_cases h5 : -1099511627776 ≤ x.Anchor ∧ x.Anchor ≤ 1099511627776
    · rw [decide_eq_true h5, Bool.not_true, cond_false]
      by_cases h6 : (i : Int) > 0
      · rw [if_pos h6]
        have h7 : 0 < i := by omega
        have h8 : i - 1 < k.Segments.length := by omega
        rw [pred_nat h7 (by omega), idx_lt h8, some_bind]
        obtain ⟨r, h9, h10⟩ := order_eq k.Segments[i - 1] x
        rw [h9, some_bind]
        refine ⟨_, rfl, ?_⟩
        rw [decide_eq_true_iff, h10]
        constructor
        · intro h11 h12
          exact h11 (h12.2.2.2.2.2 h7 _ (by simp [h8]))
        · intro h11 h12
          refine h11 ⟨by omega, by omega, by omega, by omega, h5, fun _ y hy => ?_⟩
          rw [List.getElem?_eq_getElem h8] at hy
          cases hy
          exact h12
      · rw [if_neg h6]
        refine ⟨false, rfl, ?_⟩
        simp only [Bool.false_eq_true, false_iff, Classical.not_not]
        exact ⟨by omega, by omega, by omega, by omega, h5, fun h => by omega⟩
    · rw [decide_eq_false h5, Bool.not_false, cond_true]
      refine ⟨true, rfl, ?_⟩
      simp only [true_iff]
      exact fun h => h5 h.2.2.2.2.1
  · show m_clocks_Check_L1 k kk (n + 1) ((k.Segments.length : Nat) : Int) = _
    rw [m_clocks_Check_L1]
    simp

/-- An entry of the matrix. -/
def at2 (l : List (List Int)) (i j : Nat) : Int := ((l[i]?.getD [])[j]?).getD 0

def Entry (w : Int) : Prop := -2199023255552 ≤ w ∧ w ≤ 2199023255552

/-- One row of the matrix. -/
def RowOK (k : TClocks) (i : Nat) : Prop := (k.Far[i]?.getD []).length = k.Segments.length + 1 ∧ at2 k.Far i i = 0 ∧ ∀ j, j < k.Segments.length + 1 → Entry (at2 k.Far i j)

def TriOK (k : TClocks) : Prop := ∀ i, i < k.Segments.length + 1 → ∀ j, j < k.Segments.length + 1 → ∀ m, m < k.Segments.length + 1 → ¬at2 k.Far i m > w64 (at2 k.Far i j + at2 k.Far j m)

theorem idx2 {l : List (List Int)} {i j : Nat} {row : List Int} (h : l[i]? = some row) (hj : j < row.length) : idx row (j : Int) = some (at2 l i j) := by
  rw [idx_lt hj]; unfold at2; rw [h]; simp [hj]

theorem contains_eq (row : List Int) (hl : row.length < 9223372036854775807) : ∃ b, m_slices_ContainsFunc_int_int_with_clocks_Check_1 row = some b ∧ (b = true ↔ ∃ j, j < row.length ∧ ¬Entry (row[j]?.getD 0)) := by
  unfold m_slices_ContainsFunc_int_int_with_clocks_Check_1 m_slices_IndexFunc_int_int_with_clocks_Check_1
  rw [fuel_sub]
  obtain ⟨r, h1, h2⟩ := find_loop (N := row.length) (f := fun n i => m_slices_IndexFunc_int_int_with_clocks_Check_1_L1 row m_slices_IndexFunc_int_int_with_clocks_Check_1_J2 n (i : Int)) (p := fun j => ¬Entry (row[j]?.getD 0)) (fun n i hi => by
    show m_slices_IndexFunc_int_int_with_clocks_Check_1_L1 row _ (n + 1) (i : Int) = _
    rw [m_slices_IndexFunc_int_int_with_clocks_Check_1_L1, dec_lt_nat, decide_eq_true hi, cond_true, idx_lt hi, some_bind, w64_succ (by omega)]
    have hx : row[i]?.getD 0 = row[i] := by simp [hi]
    rw [hx]
    generalize row[i] = w
    unfold m_clocks_Check_1 Entry
    rw [bif_dec]
    by_cases h1 : w < -2199023255552
    · rw [if_pos h1, some_bind, cond_true, if_pos (by omega)]
    · rw [if_neg h1, some_bind, bif_dec]
      by_cases h2 : w > 2199023255552
      · rw [if_pos h2, if_pos (by omega)]
      · rw [if_neg h2, if_neg (by omega)]) (fun n => by
    show m_slices_IndexFunc_int_int_with_clocks_Check_1_L1 row _ (n + 1) ((row.length : Nat) : Int) = _
    rw [m_slices_IndexFunc_int_int_with_clocks_Check_1_L1]
    simp [m_slices_IndexFunc_int_int_with_clocks_Check_1_J2])
  refine ⟨decide (r ≥ 0), ?_, by rw [decide_eq_true_iff]; exact h2⟩
  have h1 : m_slices_IndexFunc_int_int_with_clocks_Check_1_L1 row m_slices_IndexFunc_int_int_with_clocks_Check_1_J2 (row.length + 1) 0 = some r := h1
  rw [h1]; rfl

theorem clocks_L2 {k : TClocks} {kk : Unit → Option Int} (hl : k.Segments.length ≤ 511) (hf : k.Far.length = k.Segments.length + 1) : m_clocks_Check_L2 k kk (k.Far.length + 1) 0 = chk (∀ i, i < k.Far.length → RowOK k i) 160 (kk ()) := by
  refine chk_loop (f := fun n i => m_clocks_Check_L2 k kk n (i : Int)) (fun n i hi => ?_) (fun n => ?_)
  · show m_clocks_Check_L2 k kk (n + 1) (i : Int) = _
    rw [m_clocks_Check_L2, dec_lt_nat, decide_eq_true hi, cond_true, idx_lt hi, some_bind, w64_succ (by omega), w64_succ (by omega)]
    have hx : k.Far[i]? = some k.Far[i] := by simp [hi]
    generalize k.Far[i] = row at hx
    rw [bif_ne]
    have hr : RowOK k i ↔ row.length = k.Segments.length + 1 ∧ at2 k.Far i i = 0 ∧ ∀ j, j < k.Segments.length + 1 → Entry (at2 k.Far i j) := by
      unfold RowOK; rw [hx]; rfl
    by_cases h1 : row.length = k.Segments.length + 1
    · rw [if_pos (by omega), idx2 hx (by omega), some_bind, bif_ne]
      by_cases h2 : at2 k.Far i i = 0
      · rw [if_pos h2]
        obtain ⟨b, h3, h4⟩ := contains_eq row (by omega)
        rw [h3]
        refine bind_chk ⟨b, rfl, ?_⟩
        rw [h4, hr, h1]
        constructor
        · rintro ⟨j, h5, h6⟩ ⟨_, _, h7⟩
          have := h7 j h5
          unfold at2 at this
          rw [hx] at this
          exact h6 this
        · intro h5
          refine Classical.byContradiction fun h6 => h5 ⟨rfl, h2, fun j hj => Classical.byContradiction fun h7 => h6 ⟨j, hj, fun h8 => h7 ?_⟩⟩
          unfold at2
          rw [hx]
          exact h8
      · rw [if_neg h2, chk_neg (fun h => h2 (hr.1 h).2.1)]
    · rw [if_neg (by omega), chk_neg (fun h => h1 (hr.1 h).1)]
  · show m_clocks_Check_L2 k kk (n + 1) ((k.Far.length : Nat) : Int) = _
    rw [m_clocks_Check_L2]
    simp

/-- What rows that are right give. -/
theorem rows_get {k : TClocks} (h : ∀ i, i < k.Far.length → RowOK k i) (hf : k.Far.length = k.Segments.length + 1) {i : Nat} (hi : i < k.Segments.length + 1) : ∃ row, k.Far[i]? = some row ∧ idx k.Far (i : Int) = some row ∧ row.length = k.Segments.length + 1 := by
  have hi' : i < k.Far.length := by omega
  refine ⟨k.Far[i], by simp [hi'], idx_lt hi', ?_⟩
  have := (h i hi').1
  simpa [hi'] using this

theorem clocks_L5 {k : TClocks} {kk : Unit → Option Int} (hl : k.Segments.length ≤ 511) (hf : k.Far.length = k.Segments.length + 1) (h : ∀ i, i < k.Far.length → RowOK k i) {i j : Nat} (hi : i < k.Segments.length + 1) {x : Int} {row : List Int} (hr : k.Far[j]? = some row) (hrl : row.length = k.Segments.length + 1) :
    m_clocks_Check_L5 k i x row kk (row.length + 1) 0 = chk (∀ m, m < row.length → ¬at2 k.Far i m > w64 (x + at2 k.Far j m)) 160 (kk ()) := by
  refine chk_loop (f := fun n m => m_clocks_Check_L5 k i x row kk n (m : Int)) (fun n m hm => ?_) (fun n => ?_)
  · show m_clocks_Check_L5 k i x row kk (n + 1) (m : Int) = _
    obtain ⟨row', h1, h2, h3⟩ := rows_get h hf hi
    rw [m_clocks_Check_L5, dec_lt_nat, decide_eq_true hm, cond_true, idx2 hr hm, some_bind, h2, some_bind, idx2 h1 (by omega), some_bind, w64_succ (by omega), bif_dec]
    by_cases h4 : at2 k.Far i m > w64 (x + at2 k.Far j m)
    · rw [if_pos h4, chk_neg (fun h => h h4)]
    · rw [if_neg h4, chk_pos h4]
  · show m_clocks_Check_L5 k i x row kk (n + 1) ((row.length : Nat) : Int) = _
    rw [m_clocks_Check_L5]
    simp

theorem clocks_L4 {k : TClocks} {kk : Unit → Option Int} (hl : k.Segments.length ≤ 511) (hf : k.Far.length = k.Segments.length + 1) (h : ∀ i, i < k.Far.length → RowOK k i) {i : Nat} (hi : i < k.Segments.length + 1) {row : List Int} (hr : k.Far[i]? = some row) (hrl : row.length = k.Segments.length + 1) :
    m_clocks_Check_L4 k i row kk (row.length + 1) 0 = chk (∀ j, j < row.length → ∀ m, m < k.Segments.length + 1 → ¬at2 k.Far i m > w64 (at2 k.Far i j + at2 k.Far j m)) 160 (kk ()) := by
  refine chk_loop (f := fun n j => m_clocks_Check_L4 k i row kk n (j : Int)) (fun n j hj => ?_) (fun n => ?_)
  · show m_clocks_Check_L4 k i row kk (n + 1) (j : Int) = _
    obtain ⟨row', h1, h2, h3⟩ := rows_get h hf (i := j) (by omega)
    rw [m_clocks_Check_L4, dec_lt_nat, decide_eq_true hj, cond_true, idx2 hr hj, some_bind, h2, some_bind, fuel_sub, clocks_L5 hl hf h hi h1 h3, h3]
    show chk _ _ (m_clocks_Check_L4 k i row kk n (w64 ((j : Int) + 1))) = _
    rw [w64_succ (by omega)]
  · show m_clocks_Check_L4 k i row kk (n + 1) ((row.length : Nat) : Int) = _
    rw [m_clocks_Check_L4]
    simp

theorem clocks_L3 {k : TClocks} {kk : Unit → Option Int} (hl : k.Segments.length ≤ 511) (hf : k.Far.length = k.Segments.length + 1) (h : ∀ i, i < k.Far.length → RowOK k i) :
    m_clocks_Check_L3 k kk (k.Segments.length + 1 + 1) 0 = chk (TriOK k) 160 (kk ()) := by
  refine chk_loop (N := k.Segments.length + 1) (f := fun n i => m_clocks_Check_L3 k kk n (i : Int)) (fun n i hi => ?_) (fun n => ?_)
  · show m_clocks_Check_L3 k kk (n + 1) (i : Int) = _
    obtain ⟨row, h1, h2, h3⟩ := rows_get h hf hi
    rw [m_clocks_Check_L3, w64_succ (by omega), dec_lt_nat, decide_eq_true hi, cond_true, h2, some_bind, fuel_sub, clocks_L4 hl hf h hi h1 h3, h3]
    show chk _ _ (m_clocks_Check_L3 k kk n (w64 ((i : Int) + 1))) = _
    rw [w64_succ (by omega)]
  · show m_clocks_Check_L3 k kk (n + 1) ((k.Segments.length + 1 : Nat) : Int) = _
    rw [m_clocks_Check_L3, w64_succ (by omega)]
    simp

/-- Clocks that are valid. -/
structure ClocksOK (k : TClocks) : Prop where
  few : k.Segments.length ≤ 511
  far : k.Far.length = k.Segments.length + 1
  seg : ∀ i, i < k.Segments.length → SegOK k.Segments i
  row : ∀ i, i < k.Far.length → RowOK k i
  tri : TriOK k

theorem clocksOK_iff (k : TClocks) : ClocksOK k ↔ k.Segments.length ≤ 511 ∧ k.Far.length = k.Segments.length + 1 ∧ (∀ i, i < k.Segments.length → SegOK k.Segments i) ∧ (∀ i, i < k.Far.length → RowOK k i) ∧ TriOK k :=
  ⟨fun ⟨a, b, c, d, e⟩ => ⟨a, b, c, d, e⟩, fun ⟨a, b, c, d, e⟩ => ⟨a, b, c, d, e⟩⟩

theorem chk_and' {β : Type} {p q : Prop} {r : β} {k k' : Option β} (h : p → k = chk q r k') : chk p r k = chk (p ∧ q) r k' := by
  rw [← chk_and]; exact chk_congr Iff.rfl h

theorem clocks_Check_eq {k : TClocks} (hw : k.Segments.length < 9223372036854775807) : m_clocks_Check k = chk (ClocksOK k) 160 (some 0) := by
  unfold m_clocks_Check
  rw [bif_dec, bif_ne, fuel_sub, w64_succ (by omega), clocks_L1 (by omega)]
  have e : chk (ClocksOK k) (160 : Int) (some 0) = chk (k.Segments.length ≤ 511 ∧ k.Far.length = k.Segments.length + 1 ∧ (∀ i, i < k.Segments.length → SegOK k.Segments i) ∧ (∀ i, i < k.Far.length → RowOK k i) ∧ TriOK k) 160 (some 0) := chk_congr (clocksOK_iff k) fun _ => rfl
  rw [e]
  by_cases h1 : k.Segments.length ≤ 511
  · rw [if_neg (by omega)]
    by_cases h2 : k.Far.length = k.Segments.length + 1
    · rw [if_pos (by omega)]
      refine Eq.trans ?_ (chk_congr (p := (∀ i, i < k.Segments.length → SegOK k.Segments i) ∧ (∀ i, i < k.Far.length → RowOK k i) ∧ TriOK k) (by simp [h1, h2]) fun _ => rfl)
      refine chk_and' fun _ => ?_
      show m_clocks_Check_L2 k (m_clocks_Check_J9 k) _ 0 = _
      rw [fuel_sub, clocks_L2 h1 h2]
      refine chk_and' fun h3 => ?_
      show m_clocks_Check_L3 k m_clocks_Check_J8 _ 0 = _
      rw [w64_succ (by omega), fuel_sub, clocks_L3 h1 h2 h3]
      rfl
    · rw [if_neg (by omega), chk_neg (fun h => h2 h.2.1)]
  · rw [if_pos (by omega), chk_neg (fun h => h1 h.1)]

/-- An outcome that is valid with some clocks. -/
def OutOK (k : TClocks) (x : TOutcome) : Prop :=
  (x.Out = true → x.Seg = -1 ∧ x.Lo = 0 ∧ x.Hi = 0) ∧ (x.Out = false → -1 ≤ x.Seg ∧ x.Seg < k.Segments.length ∧ -288230376151711744 ≤ x.Lo ∧ x.Lo ≤ x.Hi ∧ x.Hi ≤ 288230376151711744)

theorem outcome_Check_eq {k : TClocks} {x : TOutcome} (hw : k.Segments.length < 9223372036854775807) : m_outcome_Check k x = chk (ClocksOK k) 160 (chk (OutOK k x) 230 (some 0)) := by
  unfold m_outcome_Check
  rw [clocks_Check_eq hw]
  by_cases hk : ClocksOK k
  · rw [chk_pos hk, chk_pos hk, some_bind]
    simp only [bne_self_eq_false, cond_false]
    cases ho : x.Out with
    | true =>
      unfold OutOK m_outcome_out
      rw [some_bind, ho]
      by_cases h : x.Seg = -1 ∧ x.Lo = 0 ∧ x.Hi = 0
      · obtain ⟨h1, h2, h3⟩ := h
        rw [chk_pos (by simp [h1, h2, h3])]
        simp [h1, h2, h3]
      · rw [chk_neg (by simpa using h)]
        rw [cond_true]
        have e : ((true == true) && ((x.Seg == -1) && ((x.Lo == 0) && ((x.Hi == 0) && true)))) = false := by
          rw [← Bool.not_eq_true]
          intro h'
          simp at h'
          exact h h'
        rw [e]
        rfl
    | false =>
      unfold OutOK
      rw [ho]
      by_cases h : -1 ≤ x.Seg ∧ x.Seg < k.Segments.length ∧ -288230376151711744 ≤ x.Lo ∧ x.Lo ≤ x.Hi ∧ x.Hi ≤ 288230376151711744
      · rw [chk_pos (by simpa using h)]
        obtain ⟨h1, h2, h3, h4, h5⟩ := h
        simp [h1, h2, h3, h4, h5]
      · rw [chk_neg (by simpa using h)]
        rw [cond_false]
        have e : ((decide (x.Seg ≥ -1)) && ((decide (x.Seg < (k.Segments.length : Int))) && ((decide (x.Lo ≥ -288230376151711744)) && ((decide (x.Lo ≤ x.Hi)) && (decide (x.Hi ≤ 288230376151711744)))))) = false := by
          rw [← Bool.not_eq_true]
          intro h'
          simp at h'
          exact h h'
        rw [e]
        rfl
  · rw [chk_neg hk, chk_neg hk, some_bind]
    rfl

theorem app_ok {α : Type} {b : Nat} {l r : List α} (h : (l.length + r.length) * b ≤ 140737488355328) (h' : l.length + r.length < 9223372036854775808) : app b l r = some (l ++ r) := by
  unfold app; rw [if_pos ⟨h, h'⟩]

theorem flat_succ {α : Type} {ws : List (List α)} {i : Nat} (hi : i < ws.length) : (ws.take (i + 1)).flatten = (ws.take i).flatten ++ ws[i] := by
  rw [List.take_succ_eq_append_getElem hi, List.flatten_append]; simp

theorem concat_eq {ws : List (List TOutcome)} (h1 : ws.length ≤ 1000) (h2 : ∀ w, w ∈ ws → w.length ≤ 1000) : m_slices_Concat_Outcome_Outcome ws = some ws.flatten := by
  have hw : ∀ i (hi : i < ws.length), ws[i].length ≤ 1000 := fun i hi => h2 _ (List.getElem_mem hi)
  unfold m_slices_Concat_Outcome_Outcome
  simp only [fuel_sub]
  obtain ⟨r, hr, hr0, hr1⟩ := run_inv (N := ws.length) (f := fun n i s => m_slices_Concat_Outcome_Outcome_L1 ws n s (i : Int)) (I := fun i s => 0 ≤ s ∧ s ≤ 1000 * (i : Int)) (s0 := 0) (fun n i s hi hI => by
    refine ⟨s + ws[i].length, ?_, ?_⟩
    · have := hw i hi; omega
    · show m_slices_Concat_Outcome_Outcome_L1 ws (n + 1) s (i : Int) = m_slices_Concat_Outcome_Outcome_L1 ws n (s + ws[i].length) ((i + 1 : Nat) : Int)
      have := hw i hi
      rw [m_slices_Concat_Outcome_Outcome_L1, dec_lt_nat, decide_eq_true hi, cond_true, idx_lt hi, some_bind, w64_of (by omega) (by omega), bif_dec, if_neg (by omega), w64_succ (by omega)]) (fun n s => by
    show m_slices_Concat_Outcome_Outcome_L1 ws (n + 1) s ((ws.length : Nat) : Int) = _
    rw [m_slices_Concat_Outcome_Outcome_L1]; simp) ⟨by omega, by omega⟩
  replace hr : m_slices_Concat_Outcome_Outcome_L1 ws (ws.length + 1) 0 0 = some r := hr
  rw [hr, some_bind, bif_dec, if_neg (by omega), w64_of (by omega) (by omega), bif_dec]
  have hI : ∀ i (hi : i < ws.length), ((ws.take i).flatten.length ≤ 1000 * i) → ((ws.take (i + 1)).flatten.length ≤ 1000 * (i + 1)) := fun i hi h => by
    rw [flat_succ hi, List.length_append]; have := hw i hi; omega
  split
  · have e : mkZ 32 (r - 0) = some r.toNat := by
      unfold mkZ; rw [if_pos (by omega)]; simp
    rw [e, some_bind]
    have e2 : ∀ (l : List TOutcome), slcTo l 0 = some [] := fun l => by unfold slcTo; simp
    rw [e2, some_bind]
    obtain ⟨l, hl, rfl, _⟩ := run_inv (N := ws.length) (f := fun n i s => m_slices_Concat_Outcome_Outcome_L2 ws n (i : Int) s) (I := fun i s => s = (ws.take i).flatten ∧ s.length ≤ 1000 * i) (s0 := []) (fun n i s hi hI' => by
      obtain ⟨rfl, hlen⟩ := hI'
      refine ⟨_, ⟨rfl, hI i hi hlen⟩, ?_⟩
      show m_slices_Concat_Outcome_Outcome_L2 ws (n + 1) (i : Int) _ = m_slices_Concat_Outcome_Outcome_L2 ws n ((i + 1 : Nat) : Int) _
      have := hw i hi
      rw [m_slices_Concat_Outcome_Outcome_L2, dec_lt_nat, decide_eq_true hi, cond_true, idx_lt hi, some_bind, app_ok (by omega) (by omega), some_bind, w64_succ (by omega), flat_succ hi]) (fun n s => by
      show m_slices_Concat_Outcome_Outcome_L2 ws (n + 1) ((ws.length : Nat) : Int) s = _
      rw [m_slices_Concat_Outcome_Outcome_L2]; simp) ⟨rfl, by simp⟩
    replace hl : m_slices_Concat_Outcome_Outcome_L2 ws (ws.length + 1) 0 [] = some (ws.take ws.length).flatten := hl
    rw [hl, some_bind, List.take_length]
  · obtain ⟨l, hl, rfl, _⟩ := run_inv (N := ws.length) (f := fun n i s => m_slices_Concat_Outcome_Outcome_L3 ws n (i : Int) s) (I := fun i s => s = (ws.take i).flatten ∧ s.length ≤ 1000 * i) (s0 := []) (fun n i s hi hI' => by
      obtain ⟨rfl, hlen⟩ := hI'
      refine ⟨_, ⟨rfl, hI i hi hlen⟩, ?_⟩
      show m_slices_Concat_Outcome_Outcome_L3 ws (n + 1) (i : Int) _ = m_slices_Concat_Outcome_Outcome_L3 ws n ((i + 1 : Nat) : Int) _
      have := hw i hi
      rw [m_slices_Concat_Outcome_Outcome_L3, dec_lt_nat, decide_eq_true hi, cond_true, idx_lt hi, some_bind, app_ok (by omega) (by omega), some_bind, w64_succ (by omega), flat_succ hi]) (fun n s => by
      show m_slices_Concat_Outcome_Outcome_L3 ws (n + 1) ((ws.length : Nat) : Int) s = _
      rw [m_slices_Concat_Outcome_Outcome_L3]; simp) ⟨rfl, by simp⟩
    replace hl : m_slices_Concat_Outcome_Outcome_L3 ws (ws.length + 1) 0 [] = some (ws.take ws.length).flatten := hl
    rw [hl, some_bind, List.take_length]

/-- A field of no great size. -/
structure Small (f : TField) : Prop where
  seg : f.Clocks.Segments.length ≤ 1000
  pairs : f.Pairs.length ≤ 1000
  runners : f.Runners.length ≤ 1000000
  worlds : ∀ r, r ∈ f.Runners → r.Keys.length ≤ 1000 ∧ r.Worlds.length ≤ 1000 ∧ ∀ w, w ∈ r.Worlds → w.length ≤ 1000

def PairLt (q p : TPair) : Prop := q.A < p.A ∨ q.A = p.A ∧ q.B < p.B

def PairOK (l : List TPair) (i : Nat) : Prop := ∀ p, l[i]? = some p → 1 ≤ p.A ∧ p.A < p.B ∧ p.B ≤ 9999 ∧ (0 < i → ∀ q, l[i - 1]? = some q → PairLt q p)

/-- The pair before. -/
def lastP (l : List TPair) (i : Nat) : TPair := if i = 0 then ⟨0, 0⟩ else (l[i - 1]?).getD ⟨0, 0⟩

theorem field_L1 {f : TField} {kk : Unit → Option Int} (hl : f.Pairs.length ≤ 1000) : m_field_Check_L1 f kk (f.Pairs.length + 1) 0 0 0 = chk (∀ i, i < f.Pairs.length → PairOK f.Pairs i) 240 (kk ()) := by
  refine chk_loop (f := fun n i => m_field_Check_L1 f kk n (i : Int) (lastP f.Pairs i).A (lastP f.Pairs i).B) (fun n i hi => ?_) (fun n => ?_)
  · show m_field_Check_L1 f kk (n + 1) (i : Int) _ _ = _
    rw [m_field_Check_L1, dec_lt_nat, decide_eq_true hi, cond_true, idx_lt hi, some_bind, w64_succ (by omega)]
    have hx : f.Pairs[i]? = some f.Pairs[i] := by simp [hi]
    have hnext : lastP f.Pairs (i + 1) = f.Pairs[i] := by unfold lastP; simp [hi]
    rw [hnext]
    generalize f.Pairs[i] = p at hx
    have hok : PairOK f.Pairs i ↔ 1 ≤ p.A ∧ p.A < p.B ∧ p.B ≤ 9999 ∧ (0 < i → ∀ q, f.Pairs[i - 1]? = some q → PairLt q p) := by
      unfold PairOK; rw [hx]; simp
    have hlast : 1 ≤ p.A → ((0 < i → ∀ q, f.Pairs[i - 1]? = some q → PairLt q p) ↔ ¬(p.A < (lastP f.Pairs i).A ∨ p.A = (lastP f.Pairs i).A ∧ p.B ≤ (lastP f.Pairs i).B)) := by
      intro hA
      unfold lastP PairLt
      by_cases h0 : i = 0
      · subst h0; simp; omega
      · have h8 : i - 1 < f.Pairs.length := by omega
        rw [if_neg h0, List.getElem?_eq_getElem h8]
        simp only [Option.getD_some, Option.some.injEq, forall_eq']
        constructor
        · intro h; have := h (by omega); omega
        · intro h _; omega
    by_cases hOK : PairOK f.Pairs i
    · rw [chk_pos hOK]
      obtain ⟨h1, h2, h3, h4⟩ := hok.1 hOK
      have h5 := (hlast h1).1 h4
      rw [Bool.cond_eq_ite, if_neg]
      simp only [Bool.or_eq_true, Bool.and_eq_true, decide_eq_true_eq, beq_iff_eq]
      omega
    · rw [chk_neg hOK, Bool.cond_eq_ite, if_pos]
      simp only [Bool.or_eq_true, Bool.and_eq_true, decide_eq_true_eq, beq_iff_eq]
      by_cases h1 : 1 ≤ p.A
      · have h5 := hlast h1
        refine Classical.byContradiction fun h6 => hOK (hok.2 ⟨h1, by omega, by omega, h5.2 (by omega)⟩)
      · left; omega
  · show m_field_Check_L1 f kk (n + 1) ((f.Pairs.length : Nat) : Int) _ _ = _
    rw [m_field_Check_L1]
    simp

theorem all_get {α : Type} {l : List α} {p : α → Prop} : (∀ j, j < l.length → ∀ o, l[j]? = some o → p o) ↔ ∀ o, o ∈ l → p o := by
  constructor
  · intro h o ho
    obtain ⟨j, hj, rfl⟩ := List.mem_iff_getElem.1 ho
    exact h j hj _ (by simp [hj])
  · intro h j hj o ho
    exact h o (List.mem_of_getElem? ho)

theorem field_L3 {f : TField} {kk : Unit → Option Int} (hk : ClocksOK f.Clocks) {l : List TOutcome} (hl : l.length < 9223372036854775807) : m_field_Check_L3 f l kk (l.length + 1) 0 = chk (∀ o, o ∈ l → OutOK f.Clocks o) 240 (kk ()) := by
  refine (chk_loop (ok := fun j => ∀ o, l[j]? = some o → OutOK f.Clocks o) (k := kk ()) (r := 240) (f := fun n i => m_field_Check_L3 f l kk n (i : Int)) (fun n i hi => ?_) (fun n => ?_)).trans (chk_congr all_get fun _ => rfl)
  · show m_field_Check_L3 f l kk (n + 1) (i : Int) = _
    have hw : f.Clocks.Segments.length < 9223372036854775807 := by have := hk.few; omega
    rw [m_field_Check_L3, dec_lt_nat, decide_eq_true hi, cond_true, idx_lt hi, some_bind, w64_succ (by omega), outcome_Check_eq hw, chk_pos hk]
    have hx : l[i]? = some l[i] := by simp [hi]
    rw [hx]
    by_cases h : OutOK f.Clocks l[i]
    · rw [chk_pos h, some_bind, chk_pos (by simpa using h)]; rfl
    · rw [chk_neg h, some_bind, chk_neg (by simpa using h)]; rfl
  · show m_field_Check_L3 f l kk (n + 1) ((l.length : Nat) : Int) = _
    rw [m_field_Check_L3]
    simp

def RunnerOK (f : TField) (i : Nat) : Prop := ∀ r, f.Runners[i]? = some r → (1 ≤ r.Bib ∧ r.Bib ≤ 9999 ∧ (0 < i → ∀ q, f.Runners[i - 1]? = some q → q.Bib < r.Bib) ∧ (∀ z, f.Runners[0]? = some z → r.Keys.length = z.Keys.length) ∧ r.Worlds.length = f.Pairs.length + 1) ∧ ∀ w, w ∈ r.Worlds → ∀ o, o ∈ w → OutOK f.Clocks o

def lastB (f : TField) (i : Nat) : Int := if i = 0 then 0 else ((f.Runners[i - 1]?).map (·.Bib)).getD 0

theorem field_L2 {f : TField} {kk : Unit → Option Int} (hk : ClocksOK f.Clocks) (hs : Small f) : m_field_Check_L2 f kk (f.Runners.length + 1) 0 0 = chk (∀ i, i < f.Runners.length → RunnerOK f i) 240 (kk ()) := by
  refine chk_loop' (f := fun n i => m_field_Check_L2 f kk n (lastB f i) (i : Int)) (fun n i hi hp => ?_) (fun n _ => ?_)
  · show m_field_Check_L2 f kk (n + 1) (lastB f i) (i : Int) = _
    have hsr := hs.runners
    have hsp := hs.pairs
    have h0 : 0 < f.Runners.length := by omega
    rw [m_field_Check_L2, dec_lt_nat, decide_eq_true hi, cond_true, idx_lt hi, some_bind, w64_succ (by omega)]
    have hx : f.Runners[i]? = some f.Runners[i] := by simp [hi]
    have hz : idx f.Runners 0 = some f.Runners[0] := idx_lt (i := 0) h0
    have hz' : f.Runners[0]? = some f.Runners[0] := by simp [h0]
    rw [hz]
    have hnext : lastB f (i + 1) = f.Runners[i].Bib := by unfold lastB; simp [hi]
    obtain ⟨hw0, hw1, hw2⟩ := hs.worlds _ (List.getElem_mem hi)
    rw [hnext]
    generalize f.Runners[0] = z at hz'
    generalize f.Runners[i] = r at hx hw0 hw1 hw2
    have hok : RunnerOK f i ↔ (1 ≤ r.Bib ∧ r.Bib ≤ 9999 ∧ (0 < i → ∀ q, f.Runners[i - 1]? = some q → q.Bib < r.Bib) ∧ r.Keys.length = z.Keys.length ∧ r.Worlds.length = f.Pairs.length + 1) ∧ ∀ w, w ∈ r.Worlds → ∀ o, o ∈ w → OutOK f.Clocks o := by
      unfold RunnerOK; rw [hx, hz']; simp
    have hlast : lastB f i < r.Bib ↔ 1 ≤ r.Bib ∧ (0 < i → ∀ q, f.Runners[i - 1]? = some q → q.Bib < r.Bib) := by
      unfold lastB
      by_cases h0 : i = 0
      · subst h0; simp; omega
      · have h8 : i - 1 < f.Runners.length := by omega
        have := hp (i - 1) (by omega)
        unfold RunnerOK at this
        rw [List.getElem?_eq_getElem h8] at this
        have h9 := (this _ rfl).1.1
        rw [if_neg h0, List.getElem?_eq_getElem h8]
        simp only [Option.map_some, Option.getD_some, Option.some.injEq, forall_eq']
        constructor
        · intro h; exact ⟨by omega, fun _ => h⟩
        · intro h; exact h.2 (by omega)
    have hfin : (lastB f i < r.Bib ∧ r.Bib ≤ 9999 ∧ r.Keys.length = z.Keys.length ∧ r.Worlds.length = f.Pairs.length + 1) ∧ (∀ w, w ∈ r.Worlds → ∀ o, o ∈ w → OutOK f.Clocks o) ↔ RunnerOK f i := by
      rw [hok, hlast]
      constructor
      · rintro ⟨⟨⟨a, b⟩, c, d, e⟩, g⟩; exact ⟨⟨a, c, b, d, e⟩, g⟩
      · rintro ⟨⟨a, c, b, d, e⟩, g⟩; exact ⟨⟨⟨a, b⟩, c, d, e⟩, g⟩
    refine Eq.trans (bind_chk (p := lastB f i < r.Bib ∧ r.Bib ≤ 9999 ∧ r.Keys.length = z.Keys.length ∧ r.Worlds.length = f.Pairs.length + 1) ?_) (Eq.trans (chk_and' fun h => ?_) (chk_congr hfin fun _ => rfl))
    · rw [bif_dec, bif_dec, some_bind, bif_ne]
      by_cases h1 : r.Bib ≤ lastB f i
      · rw [if_pos h1]; exact ⟨true, rfl, by simp; omega⟩
      rw [if_neg h1]
      by_cases h2 : r.Bib > 9999
      · rw [if_pos h2]; exact ⟨true, rfl, by simp; omega⟩
      rw [if_neg h2]
      by_cases h3 : r.Keys.length = z.Keys.length
      · rw [if_pos (by omega)]
        refine ⟨_, rfl, ?_⟩
        rw [bne_iff_ne]
        omega
      · rw [if_neg (by omega)]; exact ⟨true, rfl, by simp [h3]⟩
    · rw [concat_eq hw1 hw2, some_bind, fuel_sub, field_L3 hk (by
        have : ∀ (ws : List (List TOutcome)), (∀ w, w ∈ ws → w.length ≤ 1000) → ws.flatten.length ≤ 1000 * ws.length := by
          intro ws
          induction ws with
          | nil => intro _; simp
          | cons a t ih =>
            intro h
            have h1 := ih (fun w hw => h w (by simp [hw]))
            have h2 := h a (by simp)
            simp only [List.flatten_cons, List.length_append, List.length_cons]
            omega
        have := this r.Worlds hw2
        omega)]
      refine chk_congr ?_ fun _ => ?_
      · simp only [List.mem_flatten]
        exact ⟨fun h w hw o ho => h o ⟨w, hw, ho⟩, fun h o ⟨w, hw, ho⟩ => h w hw o ho⟩
      · show m_field_Check_L2 f kk n r.Bib (w64 ((i : Int) + 1)) = _
        rw [w64_succ (by omega)]
  · show m_field_Check_L2 f kk (n + 1) _ ((f.Runners.length : Nat) : Int) = _
    rw [m_field_Check_L2]
    simp

/-- The outcomes of a runner in a world. -/
def wl (l : List TRunner) (i w : Nat) : List TOutcome := ((l[i]?).bind fun r => r.Worlds[w]?).getD []

theorem wl_get {l : List TRunner} {i w : Nat} (hi : i < l.length) (hw : w < l[i].Worlds.length) : idx l[i].Worlds (w : Int) = some (wl l i w) := by
  rw [idx_lt hw]; unfold wl; simp [hi, hw]

def Poss (l : List TRunner) (w : Nat) : Prop := ∀ i, i < l.length → (wl l i w).length ≠ 0

theorem containsF_eq {l : List TRunner} {w : Nat} (hl : l.length ≤ 1000000) (hw : ∀ r, r ∈ l → w < r.Worlds.length) : ∃ b, m_slices_ContainsFunc_Runner_Runner_with_field_possible_1 l (w : Int) = some b ∧ (b = true ↔ ¬Poss l w) := by
  unfold m_slices_ContainsFunc_Runner_Runner_with_field_possible_1 m_slices_IndexFunc_Runner_Runner_with_field_possible_1
  rw [fuel_sub]
  obtain ⟨r, h1, h2⟩ := find_loop (N := l.length) (f := fun n i => m_slices_IndexFunc_Runner_Runner_with_field_possible_1_L1 l (w : Int) m_slices_IndexFunc_Runner_Runner_with_field_possible_1_J2 n (i : Int)) (p := fun i => (wl l i w).length = 0) (fun n i hi => by
    show m_slices_IndexFunc_Runner_Runner_with_field_possible_1_L1 l (w : Int) _ (n + 1) (i : Int) = _
    rw [m_slices_IndexFunc_Runner_Runner_with_field_possible_1_L1, dec_lt_nat, decide_eq_true hi, cond_true, idx_lt hi, some_bind, w64_succ (by omega)]
    unfold m_field_possible_1
    rw [wl_get hi (hw _ (List.getElem_mem hi)), some_bind, some_bind, bif_eq]
    by_cases h : (wl l i w).length = 0
    · rw [if_pos h, if_pos (by omega)]
    · rw [if_neg h, if_neg (by omega)]) (fun n => by
    show m_slices_IndexFunc_Runner_Runner_with_field_possible_1_L1 l (w : Int) _ (n + 1) ((l.length : Nat) : Int) = _
    rw [m_slices_IndexFunc_Runner_Runner_with_field_possible_1_L1]
    simp [m_slices_IndexFunc_Runner_Runner_with_field_possible_1_J2])
  refine ⟨decide (r ≥ 0), ?_, ?_⟩
  · have h1 : m_slices_IndexFunc_Runner_Runner_with_field_possible_1_L1 l (w : Int) m_slices_IndexFunc_Runner_Runner_with_field_possible_1_J2 (l.length + 1) 0 = some r := h1
    rw [h1]; rfl
  · rw [decide_eq_true_iff, h2]
    unfold Poss
    simp only [Classical.not_forall, Classical.not_not, exists_prop]

theorem field_possible_eq {f : TField} (hs : Small f) (hr : ∀ r, r ∈ f.Runners → r.Worlds.length = f.Pairs.length + 1) : m_field_possible f = chk (∀ w, w < f.Pairs.length + 1 → ¬Poss f.Runners w) true (some false) := by
  have hsr := hs.runners
  have hsp := hs.pairs
  unfold m_field_possible
  rw [w64_succ (by omega), fuel_sub]
  refine chk_loop (N := f.Pairs.length + 1) (f := fun n w => m_field_possible_L1 f m_field_possible_J2 n (w : Int)) (fun n w hw => ?_) (fun n => ?_)
  · show m_field_possible_L1 f m_field_possible_J2 (n + 1) (w : Int) = _
    obtain ⟨b, h1, h2⟩ := containsF_eq hsr (w := w) (fun r h => by rw [hr r h]; exact hw)
    rw [m_field_possible_L1, w64_succ (by omega), dec_lt_nat, decide_eq_true hw, cond_true, h1, some_bind, w64_succ (by omega)]
    cases b with
    | true => rw [chk_pos (h2.1 rfl)]; rfl
    | false => rw [chk_neg (fun h => by simpa using h2.2 h)]; rfl
  · show m_field_possible_L1 f m_field_possible_J2 (n + 1) ((f.Pairs.length + 1 : Nat) : Int) = _
    rw [m_field_possible_L1, w64_succ (by omega)]
    simp [m_field_possible_J2]

/-- A field that is valid. -/
structure FieldOK (f : TField) : Prop where
  clocks : ClocksOK f.Clocks
  size : f.Pairs.length ≤ 16 ∧ 1 ≤ f.Runners.length ∧ f.Runners.length ≤ 4000
  pair : ∀ i, i < f.Pairs.length → PairOK f.Pairs i
  runner : ∀ i, i < f.Runners.length → RunnerOK f i
  poss : ¬∀ w, w < f.Pairs.length + 1 → ¬Poss f.Runners w

theorem worlds_of {f : TField} (h : ∀ i, i < f.Runners.length → RunnerOK f i) : ∀ r, r ∈ f.Runners → r.Worlds.length = f.Pairs.length + 1 := by
  intro r hr
  obtain ⟨i, hi, rfl⟩ := List.mem_iff_getElem.1 hr
  exact (h i hi _ (by simp [hi])).1.2.2.2.2

theorem fieldOK_iff (f : TField) : (ClocksOK f.Clocks ∧ f.Pairs.length ≤ 16 ∧ 1 ≤ f.Runners.length ∧ f.Runners.length ≤ 4000) ∧ (∀ i, i < f.Pairs.length → PairOK f.Pairs i) ∧ (∀ i, i < f.Runners.length → RunnerOK f i) ∧ (¬∀ w, w < f.Pairs.length + 1 → ¬Poss f.Runners w) ↔ FieldOK f :=
  ⟨fun ⟨⟨a, b⟩, c, d, e⟩ => ⟨a, b, c, d, e⟩, fun ⟨a, b, c, d, e⟩ => ⟨⟨a, b⟩, c, d, e⟩⟩

theorem field_Check_eq {f : TField} (hs : Small f) : m_field_Check f = chk (FieldOK f) 240 (some 0) := by
  have hsg := hs.seg
  unfold m_field_Check
  refine Eq.trans (bind_chk (p := ClocksOK f.Clocks ∧ f.Pairs.length ≤ 16 ∧ 1 ≤ f.Runners.length ∧ f.Runners.length ≤ 4000) ?_) (Eq.trans (chk_and' (q := (∀ i, i < f.Pairs.length → PairOK f.Pairs i) ∧ (∀ i, i < f.Runners.length → RunnerOK f i) ∧ (¬∀ w, w < f.Pairs.length + 1 → ¬Poss f.Runners w)) fun h => ?_) (chk_congr (fieldOK_iff f) fun _ => rfl))
  · rw [clocks_Check_eq (by omega)]
    by_cases h1 : ClocksOK f.Clocks
    · rw [chk_pos h1, some_bind, bif_dec, bif_dec]
      simp only [bne_self_eq_false, cond_false]
      by_cases h2 : f.Pairs.length ≤ 16
      · rw [if_neg (by omega)]
        by_cases h3 : 1 ≤ f.Runners.length
        · rw [if_neg (by omega)]
          refine ⟨_, rfl, ?_⟩
          rw [decide_eq_true_iff]
          simp only [h1, h2, h3, true_and]
          omega
        · rw [if_pos (by omega)]; exact ⟨true, rfl, by simp [h3]⟩
      · rw [if_pos (by omega)]; exact ⟨true, rfl, by simp [h2]⟩
    · rw [chk_neg h1, some_bind]; exact ⟨true, rfl, by simp [h1]⟩
  · rw [fuel_sub, field_L1 hs.pairs]
    refine chk_and' fun h2 => ?_
    show m_field_Check_L2 f (m_field_Check_J5 f) _ 0 0 = _
    rw [fuel_sub, field_L2 h.1 hs]
    refine chk_and' fun h3 => ?_
    unfold m_field_Check_J5
    rw [field_possible_eq hs (worlds_of h3)]
    by_cases h4 : ∀ w, w < f.Pairs.length + 1 → ¬Poss f.Runners w
    · rw [chk_pos h4, chk_neg (fun h => h h4)]; rfl
    · rw [chk_neg h4, chk_pos h4]; rfl

def InR (f : TField) (a : Int) : Prop := 0 ≤ a ∧ a < f.Runners.length

theorem ranks_check_eq {f : TField} (hs : Small f) {l : List Int} (hl : l.length ≤ 1000) : m_ranks_check f l = chk (FieldOK f) 240 (chk (∀ a, a ∈ l → InR f a) 250 (some 0)) := by
  unfold m_ranks_check
  rw [field_Check_eq hs]
  by_cases h : FieldOK f
  · rw [chk_pos h, chk_pos h, some_bind]
    simp only [bne_self_eq_false, cond_false]
    rw [fuel_sub]
    refine (chk_loop (ok := fun j => ∀ a, l[j]? = some a → InR f a) (k := some 0) (r := 250) (f := fun n j => m_ranks_check_L1 f l m_ranks_check_J2 n (j : Int)) (fun n j hj => ?_) (fun n => ?_)).trans (chk_congr all_get fun _ => rfl)
    · show m_ranks_check_L1 f l m_ranks_check_J2 (n + 1) (j : Int) = _
      rw [m_ranks_check_L1, dec_lt_nat, decide_eq_true hj, cond_true, idx_lt hj, some_bind, w64_succ (by omega), bif_dec, bif_dec]
      have hx : l[j]? = some l[j] := by simp [hj]
      rw [hx]
      generalize l[j] = a
      simp only [Option.some.injEq, forall_eq']
      unfold InR
      by_cases h1 : a < 0
      · rw [if_pos h1, chk_neg (by omega)]
      · rw [if_neg h1]
        by_cases h2 : a ≥ (f.Runners.length : Int)
        · rw [if_pos h2, chk_neg (by omega)]
        · rw [if_neg h2, chk_pos (by omega)]
    · show m_ranks_check_L1 f l m_ranks_check_J2 (n + 1) ((l.length : Nat) : Int) = _
      rw [m_ranks_check_L1]
      simp [m_ranks_check_J2]
  · rw [chk_neg h, chk_neg h]; rfl

/-- Keys compared: both ways of doing it. -/
theorem less_compare (a b : List Int) (ha : a.length < 9223372036854775807) : ∃ r t, m_slices_Compare_int_int a b = some r ∧ m_stopwatchref25_Less a b = some t ∧ (r < 0 ↔ t = true) := by
  unfold m_slices_Compare_int_int m_stopwatchref25_Less
  rw [fuel_sub]
  have key : ∀ c i n, i + c = a.length → c ≤ n → ∃ r t, m_slices_Compare_int_int_L1 a b (m_slices_Compare_int_int_J2 a b) (n + 1) (i : Int) = some r ∧ m_stopwatchref25_Less_L1 a b (m_stopwatchref25_Less_J2 a b) (n + 1) (i : Int) = some t ∧ (i ≤ b.length → (r < 0 ↔ t = true)) := by
    intro c
    induction c with
    | zero =>
      intro i n h _
      have : i = a.length := by omega
      subst this
      rw [m_slices_Compare_int_int_L1, m_stopwatchref25_Less_L1]
      simp only [dec_lt_nat, Nat.lt_irrefl, decide_false, cond_false]
      unfold m_slices_Compare_int_int_J2 m_stopwatchref25_Less_J2
      rw [dec_lt_nat, bif_dec]
      by_cases h1 : a.length < b.length
      · rw [if_pos h1]; exact ⟨_, _, rfl, rfl, fun _ => by simp [h1]⟩
      · rw [if_neg h1]; exact ⟨_, _, rfl, rfl, fun _ => by simp [h1]⟩
    | succ c ih =>
      intro i n h hn
      obtain ⟨n, rfl⟩ : ∃ n', n = n' + 1 := ⟨n - 1, by omega⟩
      have hi : i < a.length := by omega
      obtain ⟨r, t, h1, h2, h3⟩ := ih (i + 1) n (by omega) (by omega)
      rw [m_slices_Compare_int_int_L1, m_stopwatchref25_Less_L1, dec_lt_nat, decide_eq_true hi, cond_true, cond_true, idx_lt hi, some_bind, w64_succ (by omega), h1, h2]
      by_cases hb : i < b.length
      · rw [bif_dec, if_neg (by omega), dec_lt_nat, decide_eq_true hb, cond_true, idx_lt hb]
        simp only [some_bind, cmp_eq, bif_ne]
        generalize a[i] = p
        generalize b[i] = q
        rcases Int.lt_trichotomy p q with h5 | h5 | h5
        · have hX : (if p < q then (-1 : Int) else if q < p then 1 else 0) = -1 := if_pos h5
          rw [hX, if_neg (by decide), if_neg (by omega)]
          exact ⟨_, _, rfl, rfl, fun _ => by simp [h5]⟩
        · have hX : (if p < q then (-1 : Int) else if q < p then 1 else 0) = 0 := by rw [if_neg (by omega), if_neg (by omega)]
          rw [hX, if_pos rfl, if_pos h5]
          exact ⟨r, t, rfl, rfl, fun _ => h3 (by omega)⟩
        · have hX : (if p < q then (-1 : Int) else if q < p then 1 else 0) = 1 := by rw [if_neg (by omega), if_pos h5]
          rw [hX, if_neg (by decide), if_neg (by omega)]
          exact ⟨_, _, rfl, rfl, fun _ => by simp; omega⟩
      · rw [bif_dec, if_pos (by omega), dec_lt_nat, decide_eq_false hb, cond_false]
        unfold m_stopwatchref25_Less_J2
        refine ⟨_, _, rfl, rfl, fun _ => ?_⟩
        rw [dec_lt_nat]
        simp; omega
  obtain ⟨r, t, h1, h2, h3⟩ := key a.length 0 a.length (by omega) (by omega)
  exact ⟨r, t, h1, h2, h3 (by omega)⟩

theorem inR_nat {f : TField} {a : Int} (h : InR f a) : ∃ i : Nat, a = (i : Int) ∧ i < f.Runners.length := by
  obtain ⟨h1, h2⟩ := h
  exact ⟨a.toNat, by omega, by omega⟩

theorem far_get {k : TClocks} (hk : ClocksOK k) {i j : Nat} (hi : i < k.Segments.length + 1) (hj : j < k.Segments.length + 1) : ∃ row, idx k.Far (i : Int) = some row ∧ idx row (j : Int) = some (at2 k.Far i j) := by
  obtain ⟨row, h1, h2, h3⟩ := rows_get hk.row hk.far hi
  exact ⟨row, h2, idx2 h1 (by omega)⟩

theorem wl_mem {f : TField} (hf : FieldOK f) {i w : Nat} (hi : i < f.Runners.length) (hw : w < f.Pairs.length + 1) : wl f.Runners i w ∈ f.Runners[i].Worlds ∧ idx f.Runners[i].Worlds (w : Int) = some (wl f.Runners i w) := by
  have hl := worlds_of hf.runner _ (List.getElem_mem hi)
  have hw' : w < f.Runners[i].Worlds.length := by omega
  refine ⟨?_, wl_get hi hw'⟩
  unfold wl
  simp [hi, hw']

theorem wl_ok {f : TField} (hf : FieldOK f) {i w : Nat} (hi : i < f.Runners.length) (hw : w < f.Pairs.length + 1) : ∀ o, o ∈ wl f.Runners i w → OutOK f.Clocks o :=
  fun o ho => (hf.runner i hi _ (by simp [hi])).2 _ (wl_mem hf hi hw).1 o ho

theorem wl_len {f : TField} (hs : Small f) (hf : FieldOK f) {i w : Nat} (hi : i < f.Runners.length) (hw : w < f.Pairs.length + 1) : (wl f.Runners i w).length ≤ 1000 :=
  (hs.worlds _ (List.getElem_mem hi)).2.2 _ (wl_mem hf hi hw).1

theorem containsW_eq {l : List TRunner} {w : Nat} (hl : l.length ≤ 1000000) (hw : ∀ r, r ∈ l → w < r.Worlds.length) : ∃ b, m_slices_ContainsFunc_Runner_Runner_with_ranks_worlds_1_1 l (w : Int) = some b ∧ (b = true ↔ ¬Poss l w) := by
  unfold m_slices_ContainsFunc_Runner_Runner_with_ranks_worlds_1_1 m_slices_IndexFunc_Runner_Runner_with_ranks_worlds_1_1
  rw [fuel_sub]
  obtain ⟨r, h1, h2⟩ := find_loop (N := l.length) (f := fun n i => m_slices_IndexFunc_Runner_Runner_with_ranks_worlds_1_1_L1 l (w : Int) m_slices_IndexFunc_Runner_Runner_with_ranks_worlds_1_1_J2 n (i : Int)) (p := fun i => (wl l i w).length = 0) (fun n i hi => by
    show m_slices_IndexFunc_Runner_Runner_with_ranks_worlds_1_1_L1 l (w : Int) _ (n + 1) (i : Int) = _
    rw [m_slices_IndexFunc_Runner_Runner_with_ranks_worlds_1_1_L1, dec_lt_nat, decide_eq_true hi, cond_true, idx_lt hi, some_bind, w64_succ (by omega)]
    unfold m_ranks_worlds_1_1
    rw [wl_get hi (hw _ (List.getElem_mem hi)), some_bind, some_bind, bif_eq]
    by_cases h : (wl l i w).length = 0
    · rw [if_pos h, if_pos (by omega)]
    · rw [if_neg h, if_neg (by omega)]) (fun n => by
    show m_slices_IndexFunc_Runner_Runner_with_ranks_worlds_1_1_L1 l (w : Int) _ (n + 1) ((l.length : Nat) : Int) = _
    rw [m_slices_IndexFunc_Runner_Runner_with_ranks_worlds_1_1_L1]
    simp [m_slices_IndexFunc_Runner_Runner_with_ranks_worlds_1_1_J2])
  refine ⟨decide (r ≥ 0), ?_, ?_⟩
  · have h1 : m_slices_IndexFunc_Runner_Runner_with_ranks_worlds_1_1_L1 l (w : Int) m_slices_IndexFunc_Runner_Runner_with_ranks_worlds_1_1_J2 (l.length + 1) 0 = some r := h1
    rw [h1]; rfl
  · rw [decide_eq_true_iff, h2]
    unfold Poss
    simp only [Classical.not_forall, Classical.not_not, exists_prop]

theorem worlds_eq {f : TField} (hs : Small f) (hf : FieldOK f) : m_ranks_worlds_1 f.Clocks.Segments f.Clocks.Far f.Pairs f.Runners = some (listP (Poss f.Runners) 0 (f.Pairs.length + 1)) := by
  have hsr := hs.runners
  have hsp := hs.pairs
  unfold m_ranks_worlds_1
  rw [w64_succ (by omega), fuel_sub]
  refine it_loop (N := f.Pairs.length + 1) (f := fun n w => m_ranks_worlds_1_L1 f.Pairs f.Runners m_ranks_worlds_1_J2 n (w : Int)) (fun n w hw => ?_) (fun n => ?_)
  · show m_ranks_worlds_1_L1 f.Pairs f.Runners m_ranks_worlds_1_J2 (n + 1) (w : Int) = _
    obtain ⟨b, h1, h2⟩ := containsW_eq hsr (w := w) (fun r h => by rw [worlds_of hf.runner r h]; exact hw)
    rw [m_ranks_worlds_1_L1, w64_succ (by omega), dec_lt_nat, decide_eq_true hw, cond_true, h1, some_bind, w64_succ (by omega)]
    cases b with
    | true => rw [if_neg (h2.1 rfl)]; rfl
    | false => rw [if_pos (Classical.byContradiction fun h => by simpa using h2.2 h)]; rfl
  · show m_ranks_worlds_1_L1 f.Pairs f.Runners m_ranks_worlds_1_J2 (n + 1) ((f.Pairs.length + 1 : Nat) : Int) = _
    rw [m_ranks_worlds_1_L1, w64_succ (by omega)]
    simp [m_ranks_worlds_1_J2]

def FewR (r : TRunner) : Prop := r.Keys.length ≤ 5 ∧ r.Worlds.length ≤ 4 ∧ ∀ w, w ∈ r.Worlds → w.length ≤ 4

structure FewOK (f : TField) : Prop where
  runner : ∀ r, r ∈ f.Runners → FewR r
  far : ∀ r, r ∈ f.Clocks.Far → r.length ≤ 8
  runners : f.Runners.length ≤ 6
  pairs : f.Pairs.length ≤ 3
  segs : f.Clocks.Segments.length ≤ 4
  rows : f.Clocks.Far.length ≤ 6

theorem FewOK.small {f : TField} (h : FewOK f) : Small f where
  seg := by have := h.segs; omega
  pairs := by have := h.pairs; omega
  runners := by have := h.runners; omega
  worlds r hr := by
    obtain ⟨h1, h2, h3⟩ := h.runner r hr
    exact ⟨by omega, by omega, fun w hw => by have := h3 w hw; omega⟩

/-- A loop that leaves at the first element that is sought. -/
theorem find_at {α β : Type} {l : List α} {f : Nat → Nat → Option β} {p : α → Bool} {A : Nat → α → β} {k : Option β}
    (hs : ∀ n i (h : i < l.length), f (n + 1) i = if p l[i] = true then some (A i l[i]) else f n (i + 1)) (he : ∀ n, f (n + 1) l.length = k) :
    (∃ i, ∃ h : i < l.length, p l[i] = true ∧ f (l.length + 1) 0 = some (A i l[i]) ∧ ∀ j (hj : j < l.length), j < i → p l[j] = false) ∨ ((∀ x, x ∈ l → p x = false) ∧ f (l.length + 1) 0 = k) := by
  have key : ∀ c i n, i + c = l.length → c ≤ n → (∀ j (hj : j < l.length), j < i → p l[j] = false) → (∃ i', ∃ h : i' < l.length, p l[i'] = true ∧ f (n + 1) i = some (A i' l[i']) ∧ ∀ j (hj : j < l.length), j < i' → p l[j] = false) ∨ ((∀ x, x ∈ l → p x = false) ∧ f (n + 1) i = k) := by
    intro c
    induction c with
    | zero =>
      intro i n h _ hp
      have : i = l.length := by omega
      subst this
      refine .inr ⟨fun x hx => ?_, he n⟩
      obtain ⟨j, hj, rfl⟩ := List.mem_iff_getElem.1 hx
      exact hp j hj hj
    | succ c ih =>
      intro i n h hn hp
      have hi : i < l.length := by omega
      rw [hs n i hi]
      obtain ⟨n, rfl⟩ : ∃ n', n = n' + 1 := ⟨n - 1, by omega⟩
      by_cases h1 : p l[i] = true
      · rw [if_pos h1]
        exact .inl ⟨i, hi, h1, rfl, hp⟩
      · rw [if_neg h1]
        refine ih (i + 1) n (by omega) (by omega) fun j hj hlt => ?_
        by_cases e : j = i
        · subst e; simpa using h1
        · exact hp j hj (by omega)
  exact key l.length 0 l.length (by omega) (by omega) (fun j _ h => absurd h (by omega))

/-- A loop that counts. -/
theorem count_loop {β : Type} {N : Nat} {f : Nat → Nat → Int → Option β} {p : Nat → Bool} {k : Int → Option β} {c0 : Int}
    (hs : ∀ n i c, i < N → c0 ≤ c → c ≤ c0 + (i : Int) → f (n + 1) i c = f n (i + 1) (if p i = true then c + 1 else c)) (he : ∀ n c, f (n + 1) N c = k c) :
    f (N + 1) 0 c0 = k (c0 + ((List.range N).countP p : Nat)) := by
  have key : ∀ c i n, i + c = N → c ≤ n → f (n + 1) i (c0 + ((List.range i).countP p : Nat)) = k (c0 + ((List.range N).countP p : Nat)) := by
    intro c
    induction c with
    | zero =>
      intro i n h _
      have : i = N := by omega
      subst this
      exact he n _
    | succ c ih =>
      intro i n h hn
      have hle : (List.range i).countP p ≤ i := by have := List.countP_le_length (p := p) (l := List.range i); simpa using this
      obtain ⟨n, rfl⟩ : ∃ n', n = n' + 1 := ⟨n - 1, by omega⟩
      rw [hs _ i _ (by omega) (by omega) (by omega), ← ih (i + 1) n (by omega) (by omega), List.range_succ, List.countP_append]
      congr 1
      by_cases hp : p i = true
      · simp [hp]; omega
      · simp [hp]
  have := key N 0 N (by omega) (by omega)
  simpa using this

theorem count_le {N : Nat} {p : Nat → Bool} : (List.range N).countP p ≤ N := by
  have := List.countP_le_length (p := p) (l := List.range N); simpa using this

/-- A loop that keeps what is known of its state, and goes on. -/
theorem inv_loop {σ β : Type} {N : Nat} {f : Nat → Nat → σ → Option β} {k : σ → Option β} {I : Nat → σ → Prop} (hs : ∀ i s, i < N → I i s → ∃ s', I (i + 1) s' ∧ ∀ n, f (n + 1) i s = f n (i + 1) s') (he : ∀ n s, f (n + 1) N s = k s) {s0 : σ} (h0 : I 0 s0) :
    ∃ s, f (N + 1) 0 s0 = k s ∧ I N s := by
  have key : ∀ c i n s, i + c = N → c ≤ n → I i s → ∃ s', f (n + 1) i s = k s' ∧ I N s' := by
    intro c
    induction c with
    | zero =>
      intro i n s h _ hi
      have : i = N := by omega
      subst this
      exact ⟨s, he n s, hi⟩
    | succ c ih =>
      intro i n s h hn hi
      obtain ⟨s', h1, h2⟩ := hs i s (by omega) hi
      obtain ⟨n, rfl⟩ : ∃ n', n = n' + 1 := ⟨n - 1, by omega⟩
      rw [h2]
      exact ih (i + 1) n s' (by omega) (by omega) h1
  exact key N 0 N s0 (by omega) (by omega) h0

/-- A range over an iterator that keeps what is known. -/
theorem worlds_inv {σ : Type} {N : Nat} {p : Nat → Prop} {G : Int → σ → Option σ} {I : Nat → σ → Prop} (hs : ∀ i s, i < N → p i → I i s → ∃ s', G (i : Int) s = some s' ∧ I (i + 1) s') (hn : ∀ i s, i < N → ¬p i → I i s → I (i + 1) s) {s0 : σ} (h0 : I 0 s0) :
    ∃ s, foldO G (listP p 0 N) s0 = some s ∧ I N s := by
  have key : ∀ c i s, i + c = N → I i s → ∃ s', foldO G (listP p i c) s = some s' ∧ I N s' := by
    intro c
    induction c with
    | zero =>
      intro i s h hi
      have : i = N := by omega
      subst this
      exact ⟨s, rfl, hi⟩
    | succ c ih =>
      intro i s h hi
      rw [listP]
      by_cases hp : p i
      · obtain ⟨s', h1, h2⟩ := hs i s (by omega) hp hi
        rw [if_pos hp, foldO, h1]
        exact ih (i + 1) s' (by omega) h2
      · rw [if_neg hp]
        exact ih (i + 1) s (by omega) (hn i s (by omega) hp hi)
  exact key N 0 s0 (by omega) h0

/-- A loop that appends what it makes of each element. -/
theorem map_loop {α γ β : Type} {b : Nat} {l : List α} {f : Nat → Nat → List γ → Option β} {g : α → γ} {k : List γ → Option β} (hb : l.length * b ≤ 140737488355328) (hl : l.length < 9223372036854775808)
    (hs : ∀ n i (h : i < l.length) s, f (n + 1) i s = (app b s [g l[i]]).bind (f n (i + 1))) (he : ∀ n s, f (n + 1) l.length s = k s) :
    f (l.length + 1) 0 [] = k (l.map g) := by
  obtain ⟨s, h1, h2⟩ := inv_loop (N := l.length) (f := f) (k := k) (I := fun i s => s = (l.take i).map g) (s0 := []) (fun i s hi hI => by
    have hlen : s.length = i := by rw [hI]; simp; omega
    refine ⟨s ++ [g l[i]], ?_, fun n => ?_⟩
    · rw [hI, List.take_succ_eq_append_getElem hi, List.map_append]; rfl
    · have hm : (i + 1) * b ≤ l.length * b := Nat.mul_le_mul_right b (by omega)
      have e : s.length + [g l[i]].length = i + 1 := by rw [hlen]; rfl
      rw [hs n i hi s, app_ok (by rw [e]; omega) (by rw [e]; omega)]; rfl) he rfl
  rw [h1, h2, List.take_length]

/-- Keys compared. -/
def kLt : List Int → List Int → Bool
  | _, [] => false
  | [], _ :: _ => true
  | a :: s, b :: t => if a = b then kLt s t else decide (a < b)

theorem kLt_irrefl : ∀ (a : List Int), kLt a a = false
  | [] => rfl
  | a :: s => by unfold kLt; rw [if_pos rfl]; exact kLt_irrefl s

theorem kLt_drop {a b : List Int} {i : Nat} (ha : i < a.length) (hb : i < b.length) : kLt (a.drop i) (b.drop i) = if a[i] = b[i] then kLt (a.drop (i + 1)) (b.drop (i + 1)) else decide (a[i] < b[i]) := by
  rw [List.drop_eq_getElem_cons ha, List.drop_eq_getElem_cons hb]; rfl

theorem kLt_end {a b : List Int} (h : b.length = 0) : kLt a b = false := by
  cases b with
  | nil => cases a <;> rfl
  | cons => simp at h

theorem kLt_start {a b : List Int} (h : a.length = 0) (h' : b.length ≠ 0) : kLt a b = true := by
  cases a with
  | nil => cases b with
    | nil => simp at h'
    | cons => rfl
  | cons => simp at h

theorem Less_eq (a b : List Int) (ha : a.length < 9223372036854775807) : m_stopwatchref25_Less a b = some (kLt a b) := by
  unfold m_stopwatchref25_Less
  rw [fuel_sub]
  have key : ∀ c i n, i + c = a.length → c ≤ n → i ≤ b.length → m_stopwatchref25_Less_L1 a b (m_stopwatchref25_Less_J2 a b) (n + 1) (i : Int) = some (kLt (a.drop i) (b.drop i)) := by
    intro c
    induction c with
    | zero =>
      intro i n h _ hb
      have : i = a.length := by omega
      subst this
      rw [m_stopwatchref25_Less_L1, dec_lt_nat, decide_eq_false (by omega), cond_false]
      unfold m_stopwatchref25_Less_J2
      rw [dec_lt_nat]
      by_cases h1 : a.length < b.length
      · rw [decide_eq_true h1, kLt_start (by simp) (by simp; omega)]
      · rw [decide_eq_false h1, kLt_end (by simp; omega)]
    | succ c ih =>
      intro i n h hn hb
      obtain ⟨n, rfl⟩ : ∃ n', n = n' + 1 := ⟨n - 1, by omega⟩
      have hi : i < a.length := by omega
      rw [m_stopwatchref25_Less_L1, dec_lt_nat, decide_eq_true hi, cond_true]
      by_cases h1 : i < b.length
      · rw [dec_lt_nat, decide_eq_true h1, cond_true, idx_lt hi, some_bind, idx_lt h1, some_bind, bif_ne, kLt_drop hi h1]
        by_cases h2 : a[i] = b[i]
        · rw [if_pos h2, if_pos h2, w64_succ (by omega), ih (i + 1) n (by omega) (by omega) (by omega)]
        · rw [if_neg h2, if_neg h2]; rfl
      · rw [dec_lt_nat, decide_eq_false h1, cond_false, kLt_end (by simp; omega)]
        unfold m_stopwatchref25_Less_J2
        rw [dec_lt_nat, decide_eq_false (by omega)]
  have := key a.length 0 a.length (by omega) (by omega) (by omega)
  simpa using this

theorem Compare_lt (a b : List Int) (ha : a.length < 9223372036854775807) : ∃ r, m_slices_Compare_int_int a b = some r ∧ decide (r < 0) = kLt a b := by
  obtain ⟨r, t, h1, h2, h3⟩ := less_compare a b ha
  rw [Less_eq a b ha] at h2
  refine ⟨r, h1, ?_⟩
  cases h2
  cases h : kLt a b with
  | true => rw [decide_eq_true_iff]; exact h3.2 h
  | false => rw [decide_eq_false_iff_not]; intro h4; rw [h3.1 h4] at h; cases h

/-- The variable of an outcome, the keys of a runner. -/
def vr (x : TOutcome) : Nat := (x.Seg + 1).toNat

def keys (f : TField) (i : Nat) : List Int := ((f.Runners[i]?).map (·.Keys)).getD []

abbrev far (f : TField) (i j : Nat) : Int := at2 f.Clocks.Far i j

abbrev nseg (f : TField) : Nat := f.Clocks.Segments.length

theorem keys_get {f : TField} {i : Nat} (h : i < f.Runners.length) : f.Runners[i].Keys = keys f i := by
  unfold keys; simp [h]

theorem keys_len {f : TField} (hs : Small f) {i : Nat} (h : i < f.Runners.length) : (keys f i).length < 9223372036854775807 := by
  rw [← keys_get h]; have := (hs.worlds _ (List.getElem_mem h)).1; omega

theorem vr_eq {k : TClocks} {x : TOutcome} (hk : ClocksOK k) (h : OutOK k x) (ho : x.Out = false) : w64 (x.Seg + 1) = (vr x : Int) ∧ vr x < k.Segments.length + 1 := by
  obtain ⟨h1, h2, _⟩ := h.2 ho
  have := hk.few
  unfold vr
  exact ⟨by rw [w64_of (by omega) (by omega)]; omega, by omega⟩

theorem far_bound {f : TField} (hf : FieldOK f) {i j : Nat} (hi : i < nseg f + 1) (hj : j < nseg f + 1) : -2199023255552 ≤ far f i j ∧ far f i j ≤ 2199023255552 :=
  (hf.clocks.row i (by rw [hf.clocks.far]; exact hi)).2.2 j hj

theorem far_self {f : TField} (hf : FieldOK f) {i : Nat} (hi : i < nseg f + 1) : far f i i = 0 :=
  (hf.clocks.row i (by rw [hf.clocks.far]; exact hi)).2.1

theorem far_tri {f : TField} (hf : FieldOK f) {i j m : Nat} (hi : i < nseg f + 1) (hj : j < nseg f + 1) (hm : m < nseg f + 1) : far f i m ≤ far f i j + far f j m := by
  have h := hf.clocks.tri i hi j hj m hm
  have h1 := far_bound hf hi hj
  have h2 := far_bound hf hj hm
  unfold far at h1 h2 ⊢
  rw [w64_of (by omega) (by omega)] at h
  omega

/-- Is a rival ahead, whose net time is greater by d? -/
def front (f : TField) (k r : Nat) (d : Int) : Bool := decide (d < 0) || (decide (d = 0) && kLt (keys f k) (keys f r))

/-- Is a rival k with the outcome y ahead of the runner r with the outcome x, whatever else holds; and can it be? -/
def forced (f : TField) (r : Nat) (x : TOutcome) (k : Nat) (y : TOutcome) : Bool := !y.Out && front f k r (y.Hi + far f (vr x) (vr y) - x.Lo)

def can (f : TField) (r : Nat) (x : TOutcome) (k : Nat) (y : TOutcome) : Bool := !y.Out && front f k r (y.Lo - far f (vr y) (vr x) - x.Hi)

theorem ahead_best_eq {f : TField} (hs : Small f) (hf : FieldOK f) {r k : Nat} (hr : r < f.Runners.length) (hk : k < f.Runners.length) {x y : TOutcome} (hx : OutOK f.Clocks x) (hy : OutOK f.Clocks y) (hxo : x.Out = false) :
    m_ranks_direction_ahead_with_ranks_best_2 f (r : Int) x (k : Int) y = some (forced f r x k y) := by
  unfold m_ranks_direction_ahead_with_ranks_best_2 m_ranks_hi m_ranks_lo m_ranks_best_1 forced front
  cases hyo : y.Out with
  | true => rfl
  | false =>
    obtain ⟨e1, h1⟩ := vr_eq hf.clocks hx hxo
    obtain ⟨e2, h2⟩ := vr_eq hf.clocks hy hyo
    obtain ⟨row, g1, g2⟩ := far_get hf.clocks h1 h2
    obtain ⟨_, _, b1, b2, b3⟩ := hx.2 hxo
    obtain ⟨_, _, b4, b5, b6⟩ := hy.2 hyo
    have b7 := far_bound hf h1 h2
    obtain ⟨c, g3, g4⟩ := Compare_lt (keys f k) (keys f r) (keys_len hs hk)
    unfold far at b7
    simp only [cond_false, some_bind, e1, e2, g1, g2, idx_lt hk, idx_lt hr, keys_get, g3, g4, Bool.not_false, Bool.true_and]
    rw [w64_of (n := y.Hi + at2 f.Clocks.Far (vr x) (vr y)) (by omega) (by omega), w64_of (by omega) (by omega)]
    generalize y.Hi + at2 f.Clocks.Far (vr x) (vr y) - x.Lo = d
    by_cases h6 : d < 0
    · simp [h6]
    · by_cases h7 : d = 0
      · simp [h7]
      · simp [h6, h7, bif_eq]

theorem ahead_worst_eq {f : TField} (hs : Small f) (hf : FieldOK f) {r k : Nat} (hr : r < f.Runners.length) (hk : k < f.Runners.length) {x y : TOutcome} (hx : OutOK f.Clocks x) (hy : OutOK f.Clocks y) (hxo : x.Out = false) :
    m_ranks_direction_ahead_with_ranks_worst_2 f (r : Int) x (k : Int) y = some (can f r x k y) := by
  unfold m_ranks_direction_ahead_with_ranks_worst_2 m_ranks_hi m_ranks_lo m_ranks_worst_1 can front
  cases hyo : y.Out with
  | true => rfl
  | false =>
    obtain ⟨e1, h1⟩ := vr_eq hf.clocks hx hxo
    obtain ⟨e2, h2⟩ := vr_eq hf.clocks hy hyo
    obtain ⟨row, g1, g2⟩ := far_get hf.clocks h2 h1
    obtain ⟨_, _, b1, b2, b3⟩ := hx.2 hxo
    obtain ⟨_, _, b4, b5, b6⟩ := hy.2 hyo
    have b7 := far_bound hf h2 h1
    obtain ⟨c, g3, g4⟩ := Compare_lt (keys f k) (keys f r) (keys_len hs hk)
    unfold far at b7
    simp only [cond_false, some_bind, e1, e2, g1, g2, idx_lt hk, idx_lt hr, keys_get, g3, g4, Bool.not_false, Bool.true_and]
    rw [w64_of (n := 0 - at2 f.Clocks.Far (vr y) (vr x)) (by omega) (by omega), w64_of (n := y.Lo + _) (by omega) (by omega), w64_of (by omega) (by omega)]
    have e : y.Lo + (0 - at2 f.Clocks.Far (vr y) (vr x)) - x.Hi = y.Lo - at2 f.Clocks.Far (vr y) (vr x) - x.Hi := by omega
    rw [e]
    generalize y.Lo - at2 f.Clocks.Far (vr y) (vr x) - x.Hi = d
    by_cases h6 : d < 0
    · simp [h6]
    · by_cases h7 : d = 0
      · simp [h7]
      · simp [h6, h7, bif_eq]

abbrev nrun (f : TField) : Nat := f.Runners.length

abbrev npair (f : TField) : Nat := f.Pairs.length

/-- What a direction's choice of a rival's outcome is. -/
theorem choose_best_eq {f : TField} (hs : Small f) (hf : FieldOK f) {r k w : Nat} (hr : r < nrun f) (hk : k < nrun f) (hw : w < npair f + 1) (hne : (wl f.Runners k w).length ≠ 0) {x : TOutcome} (hx : OutOK f.Clocks x) (hxo : x.Out = false) :
    ∃ i : Nat, ∃ y, (wl f.Runners k w)[i]? = some y ∧ m_ranks_direction_choose_with_ranks_best_2 f (w : Int) (r : Int) x (k : Int) = some ((i : Int), (wl f.Runners k w).all (forced f r x k)) ∧ forced f r x k y = (wl f.Runners k w).all (forced f r x k) := by
  unfold m_ranks_direction_choose_with_ranks_best_2
  have e : m_ranks_best_2 2 1 = some false := rfl
  rw [e, some_bind, idx_lt hk, some_bind, (wl_mem hf hk hw).2, some_bind, fuel_sub]
  have hok := wl_ok hf hk hw
  have hlen := wl_len hs hf hk hw
  show ∃ i : Nat, ∃ y, (wl f.Runners k w)[i]? = some y ∧ m_ranks_direction_choose_with_ranks_best_2_L1 f (r : Int) x (k : Int) false (wl f.Runners k w) _ _ 0 = _ ∧ _
  generalize wl f.Runners k w = l at hok hlen hne
  rcases find_at (l := l) (f := fun n i => m_ranks_direction_choose_with_ranks_best_2_L1 f (r : Int) x (k : Int) false l (m_ranks_direction_choose_with_ranks_best_2_J2 false) n (i : Int)) (p := fun y => !forced f r x k y) (A := fun i _ => ((i : Int), false)) (k := some (0, true)) (fun n i hi => by
    show m_ranks_direction_choose_with_ranks_best_2_L1 f (r : Int) x (k : Int) false l _ (n + 1) (i : Int) = _
    rw [m_ranks_direction_choose_with_ranks_best_2_L1, dec_lt_nat, decide_eq_true hi, cond_true, idx_lt hi, some_bind, ahead_best_eq hs hf hr hk hx (hok _ (List.getElem_mem hi)) hxo, some_bind, w64_succ (by omega)]
    cases forced f r x k l[i] <;> rfl) (fun n => by
    show m_ranks_direction_choose_with_ranks_best_2_L1 f (r : Int) x (k : Int) false l _ (n + 1) ((l.length : Nat) : Int) = _
    rw [m_ranks_direction_choose_with_ranks_best_2_L1]; simp [m_ranks_direction_choose_with_ranks_best_2_J2]) with ⟨i, hi, h1, h2, _⟩ | ⟨h1, h2⟩
  · have ha : l.all (forced f r x k) = false := by
      rw [← Bool.not_eq_true]
      intro h
      rw [List.all_eq_true] at h
      rw [h _ (List.getElem_mem hi)] at h1
      cases h1
    exact ⟨i, l[i], by simp [hi], by rw [ha]; exact h2, by rw [ha]; simpa using h1⟩
  · have ha : l.all (forced f r x k) = true := by
      rw [List.all_eq_true]; intro y hy; simpa using h1 y hy
    have h0 : 0 < l.length := by omega
    exact ⟨0, l[0], by simp [h0], by rw [ha]; exact h2, by rw [ha]; simpa using h1 _ (List.getElem_mem h0)⟩

theorem choose_worst_eq {f : TField} (hs : Small f) (hf : FieldOK f) {r k w : Nat} (hr : r < nrun f) (hk : k < nrun f) (hw : w < npair f + 1) (hne : (wl f.Runners k w).length ≠ 0) {x : TOutcome} (hx : OutOK f.Clocks x) (hxo : x.Out = false) :
    ∃ i : Nat, ∃ y, (wl f.Runners k w)[i]? = some y ∧ m_ranks_direction_choose_with_ranks_worst_2 f (w : Int) (r : Int) x (k : Int) = some ((i : Int), (wl f.Runners k w).any (can f r x k)) ∧ can f r x k y = (wl f.Runners k w).any (can f r x k) := by
  unfold m_ranks_direction_choose_with_ranks_worst_2
  have e : m_ranks_worst_2 2 1 = some true := rfl
  rw [e, some_bind, idx_lt hk, some_bind, (wl_mem hf hk hw).2, some_bind, fuel_sub]
  have hok := wl_ok hf hk hw
  have hlen := wl_len hs hf hk hw
  show ∃ i : Nat, ∃ y, (wl f.Runners k w)[i]? = some y ∧ m_ranks_direction_choose_with_ranks_worst_2_L1 f (r : Int) x (k : Int) true (wl f.Runners k w) _ _ 0 = _ ∧ _
  generalize wl f.Runners k w = l at hok hlen hne
  rcases find_at (l := l) (f := fun n i => m_ranks_direction_choose_with_ranks_worst_2_L1 f (r : Int) x (k : Int) true l (m_ranks_direction_choose_with_ranks_worst_2_J2 true) n (i : Int)) (p := can f r x k) (A := fun i _ => ((i : Int), true)) (k := some (0, false)) (fun n i hi => by
    show m_ranks_direction_choose_with_ranks_worst_2_L1 f (r : Int) x (k : Int) true l _ (n + 1) (i : Int) = _
    rw [m_ranks_direction_choose_with_ranks_worst_2_L1, dec_lt_nat, decide_eq_true hi, cond_true, idx_lt hi, some_bind, ahead_worst_eq hs hf hr hk hx (hok _ (List.getElem_mem hi)) hxo, some_bind, w64_succ (by omega)]
    cases can f r x k l[i] <;> rfl) (fun n => by
    show m_ranks_direction_choose_with_ranks_worst_2_L1 f (r : Int) x (k : Int) true l _ (n + 1) ((l.length : Nat) : Int) = _
    rw [m_ranks_direction_choose_with_ranks_worst_2_L1]; simp [m_ranks_direction_choose_with_ranks_worst_2_J2]) with ⟨i, hi, h1, h2, _⟩ | ⟨h1, h2⟩
  · have ha : l.any (can f r x k) = true := List.any_eq_true.2 ⟨_, List.getElem_mem hi, h1⟩
    exact ⟨i, l[i], by simp [hi], by rw [ha]; exact h2, by rw [ha]; exact h1⟩
  · have ha : l.any (can f r x k) = false := by
      rw [← Bool.not_eq_true]
      intro h
      obtain ⟨y, hy, hp⟩ := List.any_eq_true.1 h
      rw [h1 y hy] at hp
      cases hp
    have h0 : 0 < l.length := by omega
    exact ⟨0, l[0], by simp [h0], by rw [ha]; exact h2, by rw [ha]; exact h1 _ (List.getElem_mem h0)⟩

/-- Is a rival another one, and surely or possibly ahead? -/
def sureK (f : TField) (w : Nat) (r : Nat) (x : TOutcome) (k : Nat) : Bool := decide (k ≠ r) && (wl f.Runners k w).all (forced f r x k)

def mayK (f : TField) (w : Nat) (r : Nat) (x : TOutcome) (k : Nat) : Bool := decide (k ≠ r) && (wl f.Runners k w).any (can f r x k)

def nBest (f : TField) (w : Nat) (r : Nat) (x : TOutcome) : Nat := 1 + (List.range (nrun f)).countP (sureK f w r x)

def nWorst (f : TField) (w : Nat) (r : Nat) (x : TOutcome) : Nat := 1 + (List.range (nrun f)).countP (mayK f w r x)

/-- An outcome of a runner in a possible world, with its place. -/
def Occ (f : TField) (r w i : Nat) (x : TOutcome) : Prop := w < npair f + 1 ∧ Poss f.Runners w ∧ (wl f.Runners r w)[i]? = some x

def Vis (f : TField) (r w i : Nat) (w' i' : Nat) (x : TOutcome) : Prop := (w' < w ∨ w' = w ∧ i' < i) ∧ Occ f r w' i' x

theorem Occ.ok {f : TField} (hf : FieldOK f) {r w i : Nat} {x : TOutcome} (hr : r < nrun f) (h : Occ f r w i x) : OutOK f.Clocks x :=
  wl_ok hf hr h.1 _ (List.mem_of_getElem? h.2.2)

theorem Vis.succ {f : TField} {r w i : Nat} {x : TOutcome} (h : Occ f r w i x) (w' i' : Nat) (x' : TOutcome) : Vis f r w (i + 1) w' i' x' ↔ Vis f r w i w' i' x' ∨ (w' = w ∧ i' = i ∧ x' = x) := by
  unfold Vis
  constructor
  · rintro ⟨h1, h2⟩
    by_cases e : w' = w ∧ i' = i
    · obtain ⟨rfl, rfl⟩ := e
      refine .inr ⟨rfl, rfl, ?_⟩
      have := h.2.2.symm.trans h2.2.2
      cases this; rfl
    · refine .inl ⟨?_, h2⟩
      omega
  · rintro (⟨h1, h2⟩ | ⟨rfl, rfl, rfl⟩)
    · exact ⟨by omega, h2⟩
    · exact ⟨by omega, h⟩

theorem Vis.zero {f : TField} {r : Nat} (w' i' : Nat) (x' : TOutcome) : ¬Vis f r 0 0 w' i' x' := by
  rintro ⟨h, _⟩; omega

theorem Vis.next {f : TField} {r w : Nat} (w' i' : Nat) (x' : TOutcome) : Vis f r (w + 1) 0 w' i' x' ↔ Vis f r w (wl f.Runners r w).length w' i' x' := by
  unfold Vis
  constructor
  · rintro ⟨h1, h2⟩
    refine ⟨?_, h2⟩
    by_cases e : w' = w
    · subst e
      exact .inr ⟨rfl, (List.getElem?_eq_some_iff.1 h2.2.2).1⟩
    · omega
  · rintro ⟨h1, h2⟩; exact ⟨by omega, h2⟩

theorem Vis.skip {f : TField} {r w : Nat} (hp : ¬Poss f.Runners w) (w' i' : Nat) (x' : TOutcome) : Vis f r (w + 1) 0 w' i' x' ↔ Vis f r w 0 w' i' x' := by
  unfold Vis
  constructor
  · rintro ⟨h1, h2⟩
    refine ⟨?_, h2⟩
    by_cases e : w' = w
    · subst e; exact absurd h2.2.1 hp
    · omega
  · rintro ⟨h1, h2⟩; exact ⟨by omega, h2⟩

theorem Vis.all {f : TField} {r : Nat} (w' i' : Nat) (x' : TOutcome) : Vis f r (npair f + 1) 0 w' i' x' ↔ Occ f r w' i' x' := by
  unfold Vis
  exact ⟨fun h => h.2, fun h => ⟨.inl h.1, h⟩⟩

abbrev Occs := Nat → Nat → TOutcome → Prop

def Ext1 (V V' : Occs) (w i : Nat) (x : TOutcome) : Prop := ∀ w' i' x', V' w' i' x' ↔ V w' i' x' ∨ (w' = w ∧ i' = i ∧ x' = x)

def Same (V V' : Occs) : Prop := ∀ w i x, V w i x ↔ V' w i x

def IsLo (N : Nat → TOutcome → Int) (V : Occs) (lo : Int) : Prop := (lo = 0 ∧ ∀ w i x, V w i x → x.Out = true) ∨ ((∃ w i x, V w i x ∧ x.Out = false ∧ lo = N w x) ∧ ∀ w i x, V w i x → x.Out = false → lo ≤ N w x)

def IsHi (N : Nat → TOutcome → Int) (V : Occs) (hi : Int) : Prop := (hi = 0 ∧ ∀ w i x, V w i x → x.Out = true) ∨ ((∃ w i x, V w i x ∧ x.Out = false ∧ hi = N w x) ∧ ∀ w i x, V w i x → x.Out = false → N w x ≤ hi)

def IsOut (V : Occs) (out : Bool) : Prop := out = true ↔ ∃ w i x, V w i x ∧ x.Out = true

theorem Same.lo {N : Nat → TOutcome → Int} {V V' : Occs} (h : Same V V') {lo : Int} (hl : IsLo N V lo) : IsLo N V' lo := by
  rcases hl with ⟨h1, h2⟩ | ⟨⟨w, i, x, h1, h2, h3⟩, h4⟩
  · exact .inl ⟨h1, fun w i x hv => h2 w i x ((h w i x).2 hv)⟩
  · exact .inr ⟨⟨w, i, x, (h w i x).1 h1, h2, h3⟩, fun w i x hv => h4 w i x ((h w i x).2 hv)⟩

theorem Same.hi {N : Nat → TOutcome → Int} {V V' : Occs} (h : Same V V') {hi : Int} (hl : IsHi N V hi) : IsHi N V' hi := by
  rcases hl with ⟨h1, h2⟩ | ⟨⟨w, i, x, h1, h2, h3⟩, h4⟩
  · exact .inl ⟨h1, fun w i x hv => h2 w i x ((h w i x).2 hv)⟩
  · exact .inr ⟨⟨w, i, x, (h w i x).1 h1, h2, h3⟩, fun w i x hv => h4 w i x ((h w i x).2 hv)⟩

theorem Same.out {V V' : Occs} (h : Same V V') {o : Bool} (hl : IsOut V o) : IsOut V' o := by
  unfold IsOut at hl ⊢
  rw [hl]
  exact ⟨fun ⟨w, i, x, h1, h2⟩ => ⟨w, i, x, (h w i x).1 h1, h2⟩, fun ⟨w, i, x, h1, h2⟩ => ⟨w, i, x, (h w i x).2 h1, h2⟩⟩

theorem IsLo.skip {N : Nat → TOutcome → Int} {V V' : Occs} {w i : Nat} {x : TOutcome} (h : Ext1 V V' w i x) (hx : x.Out = true) {lo : Int} (hl : IsLo N V lo) : IsLo N V' lo := by
  rcases hl with ⟨h1, h2⟩ | ⟨⟨w1, i1, x1, h1, h2, h3⟩, h4⟩
  · refine .inl ⟨h1, fun w' i' x' hv => ?_⟩
    rcases (h w' i' x').1 hv with hv | ⟨rfl, rfl, rfl⟩
    · exact h2 _ _ _ hv
    · exact hx
  · refine .inr ⟨⟨w1, i1, x1, (h _ _ _).2 (.inl h1), h2, h3⟩, fun w' i' x' hv hxo => ?_⟩
    rcases (h w' i' x').1 hv with hv | ⟨rfl, rfl, rfl⟩
    · exact h4 _ _ _ hv hxo
    · rw [hx] at hxo; cases hxo

theorem IsHi.skip {N : Nat → TOutcome → Int} {V V' : Occs} {w i : Nat} {x : TOutcome} (h : Ext1 V V' w i x) (hx : x.Out = true) {lo : Int} (hl : IsHi N V lo) : IsHi N V' lo := by
  rcases hl with ⟨h1, h2⟩ | ⟨⟨w1, i1, x1, h1, h2, h3⟩, h4⟩
  · refine .inl ⟨h1, fun w' i' x' hv => ?_⟩
    rcases (h w' i' x').1 hv with hv | ⟨rfl, rfl, rfl⟩
    · exact h2 _ _ _ hv
    · exact hx
  · refine .inr ⟨⟨w1, i1, x1, (h _ _ _).2 (.inl h1), h2, h3⟩, fun w' i' x' hv hxo => ?_⟩
    rcases (h w' i' x').1 hv with hv | ⟨rfl, rfl, rfl⟩
    · exact h4 _ _ _ hv hxo
    · rw [hx] at hxo; cases hxo

theorem IsOut.skip {V V' : Occs} {w i : Nat} {x : TOutcome} (h : Ext1 V V' w i x) (hx : x.Out = true) : IsOut V' true :=
  ⟨fun _ => ⟨w, i, x, (h _ _ _).2 (.inr ⟨rfl, rfl, rfl⟩), hx⟩, fun _ => rfl⟩

theorem IsOut.step {V V' : Occs} {w i : Nat} {x : TOutcome} (h : Ext1 V V' w i x) (hx : x.Out = false) {o : Bool} (ho : IsOut V o) : IsOut V' o := by
  unfold IsOut at ho ⊢
  rw [ho]
  constructor
  · rintro ⟨w', i', x', h1, h2⟩; exact ⟨w', i', x', (h _ _ _).2 (.inl h1), h2⟩
  · rintro ⟨w', i', x', h1, h2⟩
    rcases (h w' i' x').1 h1 with hv | ⟨rfl, rfl, rfl⟩
    · exact ⟨_, _, _, hv, h2⟩
    · rw [hx] at h2; cases h2

theorem IsLo.uniq {N : Nat → TOutcome → Int} {V : Occs} {a b : Int} (ha : IsLo N V a) (hb : IsLo N V b) : a = b := by
  rcases ha with ⟨h1, h2⟩ | ⟨⟨w1, i1, x1, h1, h2, h3⟩, h4⟩
  · rcases hb with ⟨h5, h6⟩ | ⟨⟨w1, i1, x1, h5, h6, h7⟩, h8⟩
    · omega
    · rw [h2 _ _ _ h5] at h6; cases h6
  · rcases hb with ⟨h5, h6⟩ | ⟨⟨w2, i2, x2, h5, h6, h7⟩, h8⟩
    · rw [h6 _ _ _ h1] at h2; cases h2
    · have := h4 _ _ _ h5 h6
      have := h8 _ _ _ h1 h2
      omega

theorem IsHi.uniq {N : Nat → TOutcome → Int} {V : Occs} {a b : Int} (ha : IsHi N V a) (hb : IsHi N V b) : a = b := by
  rcases ha with ⟨h1, h2⟩ | ⟨⟨w1, i1, x1, h1, h2, h3⟩, h4⟩
  · rcases hb with ⟨h5, h6⟩ | ⟨⟨w1, i1, x1, h5, h6, h7⟩, h8⟩
    · omega
    · rw [h2 _ _ _ h5] at h6; cases h6
  · rcases hb with ⟨h5, h6⟩ | ⟨⟨w2, i2, x2, h5, h6, h7⟩, h8⟩
    · rw [h6 _ _ _ h1] at h2; cases h2
    · have := h4 _ _ _ h5 h6
      have := h8 _ _ _ h1 h2
      omega

theorem IsOut.uniq {V : Occs} {a b : Bool} (ha : IsOut V a) (hb : IsOut V b) : a = b := by
  unfold IsOut at ha hb
  rw [← hb] at ha
  cases a <;> cases b <;> simp at ha ⊢

abbrev NB (f : TField) (r w : Nat) (x : TOutcome) : Int := (nBest f w r x : Int)

abbrev NW (f : TField) (r w : Nat) (x : TOutcome) : Int := (nWorst f w r x : Int)

theorem NB_pos (f : TField) (r w : Nat) (x : TOutcome) : 1 ≤ NB f r w x := by unfold NB nBest; omega

/-- What is known about a runner's rank. -/
structure IsRank (f : TField) (r : Nat) (x : TRank) : Prop where
  bib : f.Runners[r]?.map (·.Bib) = some x.Bib
  lo : IsLo (NB f r) (Occ f r) x.Lo
  hi : IsHi (NW f r) (Occ f r) x.Hi
  out : IsOut (Occ f r) x.Out
  kind : x.Kind = if x.Lo = 0 then 3 else if x.Lo = x.Hi ∧ x.Out = false then 1 else 2

theorem IsRank.uniq {f : TField} {r : Nat} {x y : TRank} (hx : IsRank f r x) (hy : IsRank f r y) : x = y := by
  obtain ⟨a1, a2, a3, a4, a5⟩ := hx
  obtain ⟨b1, b2, b3, b4, b5⟩ := hy
  obtain ⟨p1, p2, p3, p4, p5⟩ := x
  obtain ⟨q1, q2, q3, q4, q5⟩ := y
  dsimp only at *
  have e1 : p1 = q1 := Option.some.inj (a1.symm.trans b1)
  have e2 := a2.uniq b2
  have e3 := a3.uniq b3
  have e4 := a4.uniq b4
  subst e1 e2 e3 e4
  rw [a5, b5]

def ROf (f : TField) (r : Nat) (V : Occs) (s : Int × Int × Bool) : Prop := IsLo (NB f r) V s.1 ∧ IsHi (NW f r) V s.2.1 ∧ IsOut V s.2.2

theorem ROf.same {f : TField} {r : Nat} {V V' : Occs} (h : Same V V') {s : Int × Int × Bool} (hs : ROf f r V s) : ROf f r V' s := ⟨h.lo hs.1, h.hi hs.2.1, h.out hs.2.2⟩

theorem inR_of {f : TField} {r : Nat} (h : r < nrun f) : InR f (r : Int) := by
  have : r < f.Runners.length := h
  exact ⟨by omega, by omega⟩

theorem drive_best_count {f : TField} (hs : Small f) (hf : FieldOK f) {r w : Nat} (hr : r < nrun f) (hw : w < npair f + 1) (hp : Poss f.Runners w) {x : TOutcome} (hx : OutOK f.Clocks x) (hxo : x.Out = false) :
    m_ranks_direction_drive_with_ranks_best_2_L3 f (r : Int) (w : Int) x (nrun f + 1) 1 0 = some (NB f r w x) := by
  have hlen : nrun f ≤ 1000000 := hs.runners
  have h := count_loop (N := nrun f) (f := fun n i c => m_ranks_direction_drive_with_ranks_best_2_L3 f (r : Int) (w : Int) x n c (i : Int)) (p := sureK f w r x) (k := some) (c0 := 1) (fun n i c hi h1 h2 => by
    show m_ranks_direction_drive_with_ranks_best_2_L3 f (r : Int) (w : Int) x (n + 1) c (i : Int) = _
    rw [m_ranks_direction_drive_with_ranks_best_2_L3, dec_lt_nat, decide_eq_true hi, cond_true, bif_eq, w64_succ (by omega)]
    by_cases e : i = r
    · have e1 : sureK f w r x i = false := by unfold sureK; simp [e]
      rw [if_pos (by omega), e1]; rfl
    · obtain ⟨j, y, _, h3, _⟩ := choose_best_eq hs hf hr hi hw (hp i hi) hx hxo
      have e1 : sureK f w r x i = (wl f.Runners i w).all (forced f r x i) := by unfold sureK; simp [e]
      rw [if_neg (by omega), h3, some_bind, e1, w64_of (n := c + 1) (by omega) (by omega)]
      cases (wl f.Runners i w).all (forced f r x i) <;> rfl) (fun n c => by
    show m_ranks_direction_drive_with_ranks_best_2_L3 f (r : Int) (w : Int) x (n + 1) c ((nrun f : Nat) : Int) = _
    rw [m_ranks_direction_drive_with_ranks_best_2_L3]; simp)
  refine Eq.trans h ?_
  unfold NB nBest
  congr 1

theorem drive_worst_count {f : TField} (hs : Small f) (hf : FieldOK f) {r w : Nat} (hr : r < nrun f) (hw : w < npair f + 1) (hp : Poss f.Runners w) {x : TOutcome} (hx : OutOK f.Clocks x) (hxo : x.Out = false) :
    m_ranks_direction_drive_with_ranks_worst_2_L3 f (r : Int) (w : Int) x (nrun f + 1) 1 0 = some (NW f r w x) := by
  have hlen : nrun f ≤ 1000000 := hs.runners
  have h := count_loop (N := nrun f) (f := fun n i c => m_ranks_direction_drive_with_ranks_worst_2_L3 f (r : Int) (w : Int) x n c (i : Int)) (p := mayK f w r x) (k := some) (c0 := 1) (fun n i c hi h1 h2 => by
    show m_ranks_direction_drive_with_ranks_worst_2_L3 f (r : Int) (w : Int) x (n + 1) c (i : Int) = _
    rw [m_ranks_direction_drive_with_ranks_worst_2_L3, dec_lt_nat, decide_eq_true hi, cond_true, bif_eq, w64_succ (by omega)]
    by_cases e : i = r
    · have e1 : mayK f w r x i = false := by unfold mayK; simp [e]
      rw [if_pos (by omega), e1]; rfl
    · obtain ⟨j, y, _, h3, _⟩ := choose_worst_eq hs hf hr hi hw (hp i hi) hx hxo
      have e1 : mayK f w r x i = (wl f.Runners i w).any (can f r x i) := by unfold mayK; simp [e]
      rw [if_neg (by omega), h3, some_bind, e1, w64_of (n := c + 1) (by omega) (by omega)]
      cases (wl f.Runners i w).any (can f r x i) <;> rfl) (fun n c => by
    show m_ranks_direction_drive_with_ranks_worst_2_L3 f (r : Int) (w : Int) x (n + 1) c ((nrun f : Nat) : Int) = _
    rw [m_ranks_direction_drive_with_ranks_worst_2_L3]; simp)
  refine Eq.trans h ?_
  unfold NW nWorst
  congr 1

/-- Where a drive stands: nowhere yet, or at the place of its best rank. -/
def DrB (f : TField) (r : Nat) (V : Occs) (t : Int × Int × Int × Bool) : Prop :=
  (t.2.2.2 = false ∧ ∀ w i x, V w i x → x.Out = true) ∨ (t.2.2.2 = true ∧ (∃ w i x, V w i x ∧ x.Out = false ∧ t.1 = (w : Int) ∧ t.2.1 = (i : Int) ∧ t.2.2.1 = NB f r w x) ∧ ∀ w i x, V w i x → x.Out = false → t.2.2.1 ≤ NB f r w x)

def DrW (f : TField) (r : Nat) (V : Occs) (t : Int × Int × Int × Bool) : Prop :=
  (t.2.2.2 = false ∧ ∀ w i x, V w i x → x.Out = true) ∨ (t.2.2.2 = true ∧ (∃ w i x, V w i x ∧ x.Out = false ∧ t.1 = (w : Int) ∧ t.2.1 = (i : Int) ∧ t.2.2.1 = NW f r w x) ∧ ∀ w i x, V w i x → x.Out = false → NW f r w x ≤ t.2.2.1)

theorem DrB.same {f : TField} {r : Nat} {V V' : Occs} (h : Same V V') {t : Int × Int × Int × Bool} (ht : DrB f r V t) : DrB f r V' t := by
  rcases ht with ⟨h1, h2⟩ | ⟨h1, ⟨w, i, x, h2, h3⟩, h4⟩
  · exact .inl ⟨h1, fun w i x hv => h2 w i x ((h w i x).2 hv)⟩
  · exact .inr ⟨h1, ⟨w, i, x, (h w i x).1 h2, h3⟩, fun w i x hv => h4 w i x ((h w i x).2 hv)⟩

theorem DrW.same {f : TField} {r : Nat} {V V' : Occs} (h : Same V V') {t : Int × Int × Int × Bool} (ht : DrW f r V t) : DrW f r V' t := by
  rcases ht with ⟨h1, h2⟩ | ⟨h1, ⟨w, i, x, h2, h3⟩, h4⟩
  · exact .inl ⟨h1, fun w i x hv => h2 w i x ((h w i x).2 hv)⟩
  · exact .inr ⟨h1, ⟨w, i, x, (h w i x).1 h2, h3⟩, fun w i x hv => h4 w i x ((h w i x).2 hv)⟩

theorem DrB.skip {f : TField} {r : Nat} {V V' : Occs} {w i : Nat} {x : TOutcome} (h : Ext1 V V' w i x) (hx : x.Out = true) {t : Int × Int × Int × Bool} (ht : DrB f r V t) : DrB f r V' t := by
  rcases ht with ⟨h1, h2⟩ | ⟨h1, ⟨w1, i1, x1, h2, h3⟩, h4⟩
  · refine .inl ⟨h1, fun w' i' x' hv => ?_⟩
    rcases (h w' i' x').1 hv with hv | ⟨rfl, rfl, rfl⟩
    · exact h2 _ _ _ hv
    · exact hx
  · refine .inr ⟨h1, ⟨w1, i1, x1, (h _ _ _).2 (.inl h2), h3⟩, fun w' i' x' hv hxo => ?_⟩
    rcases (h w' i' x').1 hv with hv | ⟨rfl, rfl, rfl⟩
    · exact h4 _ _ _ hv hxo
    · rw [hx] at hxo; cases hxo

theorem DrW.skip {f : TField} {r : Nat} {V V' : Occs} {w i : Nat} {x : TOutcome} (h : Ext1 V V' w i x) (hx : x.Out = true) {t : Int × Int × Int × Bool} (ht : DrW f r V t) : DrW f r V' t := by
  rcases ht with ⟨h1, h2⟩ | ⟨h1, ⟨w1, i1, x1, h2, h3⟩, h4⟩
  · refine .inl ⟨h1, fun w' i' x' hv => ?_⟩
    rcases (h w' i' x').1 hv with hv | ⟨rfl, rfl, rfl⟩
    · exact h2 _ _ _ hv
    · exact hx
  · refine .inr ⟨h1, ⟨w1, i1, x1, (h _ _ _).2 (.inl h2), h3⟩, fun w' i' x' hv hxo => ?_⟩
    rcases (h w' i' x').1 hv with hv | ⟨rfl, rfl, rfl⟩
    · exact h4 _ _ _ hv hxo
    · rw [hx] at hxo; cases hxo

theorem DrB.step {f : TField} {r : Nat} {V V' : Occs} {w i : Nat} {x : TOutcome} (h : Ext1 V V' w i x) (hx : x.Out = false) {a b rk : Int} {ok : Bool} (ht : DrB f r V (a, b, rk, ok)) : DrB f r V' (if (!ok || decide (NB f r w x < rk)) = true then ((w : Int), (i : Int), NB f r w x, true) else (a, b, rk, ok)) := by
  by_cases hc : (!ok || decide (NB f r w x < rk)) = true
  · rw [if_pos hc]
    refine .inr ⟨rfl, ⟨w, i, x, (h _ _ _).2 (.inr ⟨rfl, rfl, rfl⟩), hx, rfl, rfl, rfl⟩, fun w' i' x' hv hxo => ?_⟩
    rcases (h w' i' x').1 hv with hv | ⟨rfl, rfl, rfl⟩
    · rcases ht with ⟨h1, h2⟩ | ⟨h1, _, h4⟩
      · rw [h2 _ _ _ hv] at hxo; cases hxo
      · have := h4 _ _ _ hv hxo
        dsimp only at h1 this ⊢
        subst h1
        simp at hc
        omega
    · exact Int.le_refl _
  · rw [if_neg hc]
    rcases ht with ⟨h1, h2⟩ | ⟨h1, ⟨w1, i1, x1, h2, h3⟩, h4⟩
    · dsimp only at h1; subst h1; simp at hc
    · refine .inr ⟨h1, ⟨w1, i1, x1, (h _ _ _).2 (.inl h2), h3⟩, fun w' i' x' hv hxo => ?_⟩
      rcases (h w' i' x').1 hv with hv | ⟨rfl, rfl, rfl⟩
      · exact h4 _ _ _ hv hxo
      · dsimp only at h1 ⊢; subst h1; simp at hc; exact hc

theorem DrW.step {f : TField} {r : Nat} {V V' : Occs} {w i : Nat} {x : TOutcome} (h : Ext1 V V' w i x) (hx : x.Out = false) {a b rk : Int} {ok : Bool} (ht : DrW f r V (a, b, rk, ok)) : DrW f r V' (if (!ok || decide (NW f r w x > rk)) = true then ((w : Int), (i : Int), NW f r w x, true) else (a, b, rk, ok)) := by
  by_cases hc : (!ok || decide (NW f r w x > rk)) = true
  · rw [if_pos hc]
    refine .inr ⟨rfl, ⟨w, i, x, (h _ _ _).2 (.inr ⟨rfl, rfl, rfl⟩), hx, rfl, rfl, rfl⟩, fun w' i' x' hv hxo => ?_⟩
    rcases (h w' i' x').1 hv with hv | ⟨rfl, rfl, rfl⟩
    · rcases ht with ⟨h1, h2⟩ | ⟨h1, _, h4⟩
      · rw [h2 _ _ _ hv] at hxo; cases hxo
      · have := h4 _ _ _ hv hxo
        dsimp only at h1 this ⊢
        subst h1
        simp at hc
        omega
    · exact Int.le_refl _
  · rw [if_neg hc]
    rcases ht with ⟨h1, h2⟩ | ⟨h1, ⟨w1, i1, x1, h2, h3⟩, h4⟩
    · dsimp only at h1; subst h1; simp at hc
    · refine .inr ⟨h1, ⟨w1, i1, x1, (h _ _ _).2 (.inl h2), h3⟩, fun w' i' x' hv hxo => ?_⟩
      rcases (h w' i' x').1 hv with hv | ⟨rfl, rfl, rfl⟩
      · exact h4 _ _ _ hv hxo
      · dsimp only at h1 ⊢; subst h1; simp at hc; exact hc

theorem drive_best_eq {f : TField} (hs : Small f) (hf : FieldOK f) {r : Nat} (hr : r < nrun f) :
    ∃ t : Int × Int × Int × Bool, m_ranks_direction_drive_with_ranks_best_2 f (r : Int) = some (⟨t.1, t.2.1, t.2.2.1⟩, t.2.2.2) ∧ DrB f r (Occ f r) t := by
  unfold m_ranks_direction_drive_with_ranks_best_2 m_ranks_worlds
  simp only [some_bind, worlds_eq hs hf]
  obtain ⟨t, h1, h2⟩ := worlds_inv (N := npair f + 1) (p := Poss f.Runners) (G := m_ranks_direction_drive_with_ranks_best_2_R1 f (r : Int)) (I := fun w t => DrB f r (Vis f r w 0) t) (s0 := (0, 0, 0, false)) (fun w t hw hp hI => by
    have hlen := wl_len hs hf hr hw
    obtain ⟨t', h1, h2⟩ := inv_loop (N := (wl f.Runners r w).length) (f := fun n i (t : Int × Int × Int × Bool) => m_ranks_direction_drive_with_ranks_best_2_L2 f (r : Int) (w : Int) (wl f.Runners r w) n (i : Int) t.1 t.2.1 t.2.2.1 t.2.2.2) (k := some) (I := fun i t => DrB f r (Vis f r w i) t) (s0 := t) (fun i t hi hI => by
      have ho : Occ f r w i (wl f.Runners r w)[i] := ⟨hw, hp, by simp [hi]⟩
      have hv : Ext1 (Vis f r w i) (Vis f r w (i + 1)) w i (wl f.Runners r w)[i] := Vis.succ ho
      have hxok := ho.ok hf hr
      have e1 : idx (wl f.Runners r w) (i : Int) = some (wl f.Runners r w)[i] := idx_lt hi
      generalize (wl f.Runners r w)[i] = x at ho hv hxok e1
      obtain ⟨a, b, rk, ok⟩ := t
      cases hx : x.Out with
      | true =>
        refine ⟨(a, b, rk, ok), hI.skip hv hx, fun n => ?_⟩
        show m_ranks_direction_drive_with_ranks_best_2_L2 f (r : Int) (w : Int) (wl f.Runners r w) (n + 1) (i : Int) a b rk ok = _
        rw [m_ranks_direction_drive_with_ranks_best_2_L2, dec_lt_nat, decide_eq_true hi, cond_true, e1, some_bind, hx, cond_true, w64_succ (by omega)]
      | false =>
        refine ⟨_, hI.step hv hx, fun n => ?_⟩
        show m_ranks_direction_drive_with_ranks_best_2_L2 f (r : Int) (w : Int) (wl f.Runners r w) (n + 1) (i : Int) a b rk ok = _
        rw [m_ranks_direction_drive_with_ranks_best_2_L2, dec_lt_nat, decide_eq_true hi, cond_true, e1, some_bind, hx, cond_false, fuel_sub, drive_best_count hs hf hr hw hp hxok hx, some_bind, w64_succ (by omega)]
        unfold m_ranks_best_2
        cases ok with
        | false => rfl
        | true =>
          simp only [Bool.not_true, cond_false, some_bind, Bool.false_or]
          rw [Bool.cond_eq_ite]
          split <;> rfl) (fun n t => by
      show m_ranks_direction_drive_with_ranks_best_2_L2 f (r : Int) (w : Int) (wl f.Runners r w) (n + 1) (((wl f.Runners r w).length : Nat) : Int) t.1 t.2.1 t.2.2.1 t.2.2.2 = _
      rw [m_ranks_direction_drive_with_ranks_best_2_L2]; simp) hI
    refine ⟨t', ?_, h2.same (fun a b c => (Vis.next a b c).symm)⟩
    obtain ⟨a, b, rk, ok⟩ := t
    show (idx f.Runners (r : Int)).bind _ = _
    rw [idx_lt hr, some_bind, (wl_mem hf hr hw).2, some_bind, fuel_sub]
    dsimp only at h1
    refine Eq.trans (congrArg (fun z => Option.bind z _) h1) ?_
    rfl) (fun w t hw hp hI => hI.same (fun a b c => (Vis.skip hp a b c).symm)) (.inl ⟨rfl, fun w i x h => absurd h (Vis.zero w i x)⟩)
  refine ⟨t, ?_, h2.same (fun a b c => Vis.all a b c)⟩
  show Option.bind (foldO _ (listP (Poss f.Runners) 0 (npair f + 1)) _) _ = _
  rw [h1]
  rfl

theorem drive_worst_eq {f : TField} (hs : Small f) (hf : FieldOK f) {r : Nat} (hr : r < nrun f) :
    ∃ t : Int × Int × Int × Bool, m_ranks_direction_drive_with_ranks_worst_2 f (r : Int) = some (⟨t.1, t.2.1, t.2.2.1⟩, t.2.2.2) ∧ DrW f r (Occ f r) t := by
  unfold m_ranks_direction_drive_with_ranks_worst_2 m_ranks_worlds
  simp only [some_bind, worlds_eq hs hf]
  obtain ⟨t, h1, h2⟩ := worlds_inv (N := npair f + 1) (p := Poss f.Runners) (G := m_ranks_direction_drive_with_ranks_worst_2_R1 f (r : Int)) (I := fun w t => DrW f r (Vis f r w 0) t) (s0 := (0, 0, 0, false)) (fun w t hw hp hI => by
    have hlen := wl_len hs hf hr hw
    obtain ⟨t', h1, h2⟩ := inv_loop (N := (wl f.Runners r w).length) (f := fun n i (t : Int × Int × Int × Bool) => m_ranks_direction_drive_with_ranks_worst_2_L2 f (r : Int) (w : Int) (wl f.Runners r w) n (i : Int) t.1 t.2.1 t.2.2.1 t.2.2.2) (k := some) (I := fun i t => DrW f r (Vis f r w i) t) (s0 := t) (fun i t hi hI => by
      have ho : Occ f r w i (wl f.Runners r w)[i] := ⟨hw, hp, by simp [hi]⟩
      have hv : Ext1 (Vis f r w i) (Vis f r w (i + 1)) w i (wl f.Runners r w)[i] := Vis.succ ho
      have hxok := ho.ok hf hr
      have e1 : idx (wl f.Runners r w) (i : Int) = some (wl f.Runners r w)[i] := idx_lt hi
      generalize (wl f.Runners r w)[i] = x at ho hv hxok e1
      obtain ⟨a, b, rk, ok⟩ := t
      cases hx : x.Out with
      | true =>
        refine ⟨(a, b, rk, ok), hI.skip hv hx, fun n => ?_⟩
        show m_ranks_direction_drive_with_ranks_worst_2_L2 f (r : Int) (w : Int) (wl f.Runners r w) (n + 1) (i : Int) a b rk ok = _
        rw [m_ranks_direction_drive_with_ranks_worst_2_L2, dec_lt_nat, decide_eq_true hi, cond_true, e1, some_bind, hx, cond_true, w64_succ (by omega)]
      | false =>
        refine ⟨_, hI.step hv hx, fun n => ?_⟩
        show m_ranks_direction_drive_with_ranks_worst_2_L2 f (r : Int) (w : Int) (wl f.Runners r w) (n + 1) (i : Int) a b rk ok = _
        rw [m_ranks_direction_drive_with_ranks_worst_2_L2, dec_lt_nat, decide_eq_true hi, cond_true, e1, some_bind, hx, cond_false, fuel_sub, drive_worst_count hs hf hr hw hp hxok hx, some_bind, w64_succ (by omega)]
        unfold m_ranks_worst_2
        cases ok with
        | false => rfl
        | true =>
          simp only [Bool.not_true, cond_false, some_bind, Bool.false_or]
          rw [Bool.cond_eq_ite]
          split <;> rfl) (fun n t => by
      show m_ranks_direction_drive_with_ranks_worst_2_L2 f (r : Int) (w : Int) (wl f.Runners r w) (n + 1) (((wl f.Runners r w).length : Nat) : Int) t.1 t.2.1 t.2.2.1 t.2.2.2 = _
      rw [m_ranks_direction_drive_with_ranks_worst_2_L2]; simp) hI
    refine ⟨t', ?_, h2.same (fun a b c => (Vis.next a b c).symm)⟩
    obtain ⟨a, b, rk, ok⟩ := t
    show (idx f.Runners (r : Int)).bind _ = _
    rw [idx_lt hr, some_bind, (wl_mem hf hr hw).2, some_bind, fuel_sub]
    dsimp only at h1
    refine Eq.trans (congrArg (fun z => Option.bind z _) h1) ?_
    rfl) (fun w t hw hp hI => hI.same (fun a b c => (Vis.skip hp a b c).symm)) (.inl ⟨rfl, fun w i x h => absurd h (Vis.zero w i x)⟩)
  refine ⟨t, ?_, h2.same (fun a b c => Vis.all a b c)⟩
  show Option.bind (foldO _ (listP (Poss f.Runners) 0 (npair f + 1)) _) _ = _
  rw [h1]
  rfl

theorem containsO_eq {l : List TOutcome} (hl : l.length ≤ 1000000) : m_slices_ContainsFunc_Outcome_Outcome_with_ranks_of_1 l = some (l.any (·.Out)) := by
  unfold m_slices_ContainsFunc_Outcome_Outcome_with_ranks_of_1 m_slices_IndexFunc_Outcome_Outcome_with_ranks_of_1
  rw [fuel_sub]
  rcases find_at (l := l) (f := fun n i => m_slices_IndexFunc_Outcome_Outcome_with_ranks_of_1_L1 l m_slices_IndexFunc_Outcome_Outcome_with_ranks_of_1_J2 n (i : Int)) (p := fun x => x.Out) (A := fun i _ => (i : Int)) (k := some (-1)) (fun n i hi => by
    show m_slices_IndexFunc_Outcome_Outcome_with_ranks_of_1_L1 l _ (n + 1) (i : Int) = _
    rw [m_slices_IndexFunc_Outcome_Outcome_with_ranks_of_1_L1, dec_lt_nat, decide_eq_true hi, cond_true, idx_lt hi, some_bind, w64_succ (by omega)]
    unfold m_ranks_of_1
    rw [some_bind, Bool.cond_eq_ite]) (fun n => by
    show m_slices_IndexFunc_Outcome_Outcome_with_ranks_of_1_L1 l _ (n + 1) ((l.length : Nat) : Int) = _
    rw [m_slices_IndexFunc_Outcome_Outcome_with_ranks_of_1_L1]
    simp [m_slices_IndexFunc_Outcome_Outcome_with_ranks_of_1_J2]) with ⟨i, hi, h1, h2, _⟩ | ⟨h1, h2⟩
  · have ha : l.any (·.Out) = true := List.any_eq_true.2 ⟨_, List.getElem_mem hi, h1⟩
    rw [ha]
    refine Eq.trans (congrArg (fun z => Option.bind z _) h2) ?_
    rw [some_bind, decide_eq_true (by omega)]
  · have ha : l.any (·.Out) = false := by
      rw [← Bool.not_eq_true]
      intro h
      obtain ⟨y, hy, hp⟩ := List.any_eq_true.1 h
      rw [h1 y hy] at hp
      cases hp
    rw [ha]
    refine Eq.trans (congrArg (fun z => Option.bind z _) h2) ?_
    rfl

theorem of_out {f : TField} (hs : Small f) (hf : FieldOK f) {r : Nat} (hr : r < nrun f) :
    ∃ o, foldO (m_ranks_of_R1 f (r : Int)) (listP (Poss f.Runners) 0 (npair f + 1)) false = some o ∧ IsOut (Occ f r) o := by
  obtain ⟨o, h1, h2⟩ := worlds_inv (N := npair f + 1) (p := Poss f.Runners) (G := m_ranks_of_R1 f (r : Int)) (I := fun w o => IsOut (Vis f r w 0) o) (s0 := false) (fun w o hw hp hI => by
    have hlen := wl_len hs hf hr hw
    refine ⟨o || (wl f.Runners r w).any (·.Out), ?_, ?_⟩
    · unfold m_ranks_of_R1
      dsimp only
      rw [idx_lt hr, some_bind, (wl_mem hf hr hw).2, some_bind, containsO_eq (by omega)]
      cases o <;> rfl
    · unfold IsOut at hI ⊢
      rw [Bool.or_eq_true, hI, List.any_eq_true]
      constructor
      · rintro (⟨w', i', x', h1, h2⟩ | ⟨x, h1, h2⟩)
        · exact ⟨w', i', x', ⟨by have := h1.1; omega, h1.2⟩, h2⟩
        · obtain ⟨i, hi, rfl⟩ := List.mem_iff_getElem.1 h1
          exact ⟨w, i, _, ⟨by omega, hw, hp, by simp [hi]⟩, h2⟩
      · rintro ⟨w', i', x', ⟨h1, h2⟩, h3⟩
        by_cases e : w' = w
        · subst e; exact .inr ⟨x', List.mem_of_getElem? h2.2.2, h3⟩
        · exact .inl ⟨w', i', x', ⟨by omega, h2⟩, h3⟩) (fun w o hw hp hI => by
    have h : Same (Vis f r w 0) (Vis f r (w + 1) 0) := fun a b c => (Vis.skip hp a b c).symm
    exact h.out hI) ⟨fun h => (by cases h), fun ⟨w, i, x, h, _⟩ => absurd h (Vis.zero w i x)⟩
  have h : Same (Vis f r (npair f + 1) 0) (Occ f r) := fun a b c => Vis.all a b c
  exact ⟨o, h1, h.out h2⟩

theorem of_eq {f : TField} (hs : Small f) (hf : FieldOK f) {r : Nat} (hr : r < nrun f) :
    ∃ x, m_ranks_of f (r : Int) = some x ∧ IsRank f r x := by
  obtain ⟨o, h1, h2⟩ := of_out hs hf hr
  obtain ⟨⟨a, b, rk, ok⟩, h3, h4⟩ := drive_best_eq hs hf hr
  obtain ⟨⟨a', b', rk', ok'⟩, h5, h6⟩ := drive_worst_eq hs hf hr
  have hw := worlds_eq hs hf
  unfold m_ranks_of m_ranks_worlds m_ranks_best m_ranks_worst
  rw [idx_lt hr]
  simp only [some_bind, hw]
  rw [show foldO (m_ranks_of_R1 f (r : Int)) (listP (Poss f.Runners) 0 (f.Pairs.length + 1)) false = some o from h1, some_bind, h3]
  simp only [some_bind]
  have hbib : f.Runners[r]?.map (·.Bib) = some f.Runners[r].Bib := by
    have : r < f.Runners.length := hr
    simp [this]
  rcases h4 with ⟨g1, g2⟩ | ⟨g1, ⟨w, i, x, g2, g3, g4, g5, g6⟩, g7⟩
  · dsimp only at g1
    subst g1
    rw [Bool.not_false, cond_true]
    exact ⟨_, rfl, hbib, .inl ⟨rfl, g2⟩, .inl ⟨rfl, g2⟩, h2, by simp⟩
  · dsimp only at g1 g4 g5 g6 g7
    subst g1
    rw [Bool.not_true, cond_false, h5]
    simp only [some_bind]
    have hlo : IsLo (NB f r) (Occ f r) rk := .inr ⟨⟨w, i, x, g2, g3, g6⟩, g7⟩
    have hhi : IsHi (NW f r) (Occ f r) rk' := by
      rcases h6 with ⟨k1, k2⟩ | ⟨k1, ⟨w', i', x', k2, k3, k4, k5, k6⟩, k7⟩
      · rw [k2 _ _ _ g2] at g3; cases g3
      · exact .inr ⟨⟨w', i', x', k2, k3, k6⟩, k7⟩
    have hz : rk ≠ 0 := by have := NB_pos f r w x; omega
    rw [bif_eq]
    by_cases e : rk = rk'
    · rw [if_pos e]
      cases o with
      | false => exact ⟨_, rfl, hbib, hlo, hhi, h2, by simp [hz, e]; intro h; omega⟩
      | true => exact ⟨_, rfl, hbib, hlo, hhi, h2, by simp [hz]⟩
    · rw [if_neg e]; exact ⟨_, rfl, hbib, hlo, hhi, h2, by simp [hz, e]⟩

/-- The ranks of all runners. -/
def IsRanks (f : TField) (l : List TRank) : Prop := l.length = nrun f ∧ ∀ i x, l[i]? = some x → IsRank f i x

theorem IsRanks.uniq {f : TField} {l m : List TRank} (hl : IsRanks f l) (hm : IsRanks f m) : l = m := by
  obtain ⟨h1, h2⟩ := hl
  obtain ⟨h3, h4⟩ := hm
  refine List.ext_getElem (by omega) fun i hi hj => ?_
  exact (h2 i _ (by simp [hi])).uniq (h4 i _ (by simp [hj]))

theorem IsRanks.snoc {f : TField} {i : Nat} {l : List TRank} {x : TRank} (h : l.length = i ∧ ∀ j x, l[j]? = some x → IsRank f j x) (hx : IsRank f i x) : (l ++ [x]).length = i + 1 ∧ ∀ j y, (l ++ [x])[j]? = some y → IsRank f j y := by
  obtain ⟨h1, h2⟩ := h
  refine ⟨by simp [h1], fun j y hj => ?_⟩
  by_cases e : j < l.length
  · rw [List.getElem?_append_left e] at hj; exact h2 j y hj
  · rw [List.getElem?_append_right (by omega)] at hj
    have : j - l.length = 0 := by
      have := (List.getElem?_eq_some_iff.1 hj).1
      simp at this; omega
    rw [this] at hj
    simp at hj
    subst hj
    have : j = i := by omega
    exact this ▸ hx

/-- The offset of a variable in a history. -/
def off (h : THistory) (i : Nat) : Int := ((0 :: h.Offsets)[i]?).getD 0

def ch (h : THistory) (k : Nat) : TChoice := (h.Choices[k]?).getD default

def oc (f : TField) (h : THistory) (k : Nat) : TOutcome := ((wl f.Runners k h.World.toNat)[(ch h k).Outcome.toNat]?).getD default

def net (f : TField) (h : THistory) (k : Nat) : Int := (ch h k).X + off h (vr (oc f h k))

/-- A history that is admissible. -/
structure Adm (f : TField) (h : THistory) : Prop where
  world : 0 ≤ h.World ∧ h.World < npair f + 1
  poss : Poss f.Runners h.World.toNat
  offs : h.Offsets.length = nseg f
  chs : h.Choices.length = nrun f
  small : ∀ i, i < nseg f + 1 → -1125899906842624 ≤ off h i ∧ off h i ≤ 1125899906842624
  tri : ∀ i, i < nseg f + 1 → ∀ k, k < nseg f + 1 → off h k - off h i ≤ far f i k
  choice : ∀ k, k < nrun f → 0 ≤ (ch h k).Outcome ∧ (ch h k).Outcome < (wl f.Runners k h.World.toNat).length ∧ ((oc f h k).Out = true → (ch h k).X = 0) ∧ ((oc f h k).Out = false → (oc f h k).Lo ≤ (ch h k).X ∧ (ch h k).X ≤ (oc f h k).Hi)

theorem Adm.nat {f : TField} {h : THistory} (ha : Adm f h) : h.World = (h.World.toNat : Int) ∧ h.World.toNat < npair f + 1 := by
  have := ha.world
  omega

theorem ch_get {h : THistory} {k : Nat} (hk : k < h.Choices.length) : h.Choices[k] = ch h k := by unfold ch; simp [hk]

theorem ch_idx {f : TField} {h : THistory} (ha : Adm f h) {k : Nat} (hk : k < nrun f) : idx h.Choices (k : Int) = some (ch h k) := by
  have : k < h.Choices.length := by rw [ha.chs]; exact hk
  rw [idx_lt this, ch_get this]

theorem oc_occ {f : TField} {h : THistory} (ha : Adm f h) {k : Nat} (hk : k < nrun f) : Occ f k h.World.toNat (ch h k).Outcome.toNat (oc f h k) := by
  obtain ⟨h1, h2, _⟩ := ha.choice k hk
  refine ⟨ha.nat.2, ha.poss, ?_⟩
  have : (ch h k).Outcome.toNat < (wl f.Runners k h.World.toNat).length := by omega
  unfold oc
  simp [this]

theorem oc_ok {f : TField} (hf : FieldOK f) {h : THistory} (ha : Adm f h) {k : Nat} (hk : k < nrun f) : OutOK f.Clocks (oc f h k) := (oc_occ ha hk).ok hf hk

theorem off_idx {f : TField} {h : THistory} (ha : Adm f h) {i : Nat} (hi : i < nseg f) : idx h.Offsets (i : Int) = some (off h (i + 1)) := by
  have : i < h.Offsets.length := by rw [ha.offs]; exact hi
  rw [idx_lt this]; unfold off; simp [this]

theorem vr_lt {f : TField} (hf : FieldOK f) {x : TOutcome} (hx : OutOK f.Clocks x) (hxo : x.Out = false) : vr x < nseg f + 1 := (vr_eq hf.clocks hx hxo).2

theorem net_bound {f : TField} (hf : FieldOK f) {h : THistory} (ha : Adm f h) {k : Nat} (hk : k < nrun f) (hxo : (oc f h k).Out = false) : -300000000000000000 ≤ net f h k ∧ net f h k ≤ 300000000000000000 := by
  have hx := oc_ok hf ha hk
  obtain ⟨_, _, h1, h2, h3⟩ := hx.2 hxo
  have h4 := (ha.choice k hk).2.2.2 hxo
  have h5 := ha.small _ (vr_lt hf hx hxo)
  unfold net
  omega

/-- Is a runner ahead of another one in a history; what rank has it? -/
def inFr (f : TField) (h : THistory) (a b : Nat) : Bool := !(oc f h a).Out && ((oc f h b).Out || front f a b (net f h a - net f h b))

def rank (f : TField) (h : THistory) (r : Nat) : Nat := if (oc f h r).Out = true then 0 else 1 + (List.range (nrun f)).countP (fun k => inFr f h k r)

theorem inFr_self {f : TField} {h : THistory} {r : Nat} (hxo : (oc f h r).Out = false) : inFr f h r r = false := by
  unfold inFr front
  rw [hxo]
  simp [kLt_irrefl]

theorem countP_eq_of {N : Nat} {p q : Nat → Bool} (h : ∀ i, i < N → p i = q i) : (List.range N).countP p = (List.range N).countP q :=
  List.countP_congr fun i hi => by rw [h i (by simpa using hi)]

def bOff (f : TField) (v k : Nat) : Int := far f v k - far f v 0

def wOff (f : TField) (v k : Nat) : Int := far f 0 v - far f k v

/-- What a direction chooses for a runner. -/
def BChoice (f : TField) (r w i : Nat) (x : TOutcome) (k : Nat) (c : TChoice) : Prop := (k = r ∧ c = ⟨(i : Int), x.Lo⟩) ∨ (k ≠ r ∧ ∃ j : Nat, ∃ y, (wl f.Runners k w)[j]? = some y ∧ c = ⟨(j : Int), if y.Out = true then 0 else y.Hi⟩ ∧ forced f r x k y = (wl f.Runners k w).all (forced f r x k))

def WChoice (f : TField) (r w i : Nat) (x : TOutcome) (k : Nat) (c : TChoice) : Prop := (k = r ∧ c = ⟨(i : Int), x.Hi⟩) ∨ (k ≠ r ∧ ∃ j : Nat, ∃ y, (wl f.Runners k w)[j]? = some y ∧ c = ⟨(j : Int), if y.Out = true then 0 else y.Lo⟩ ∧ can f r x k y = (wl f.Runners k w).any (can f r x k))

def Lst {α : Type} (P : Nat → α → Prop) (i : Nat) (l : List α) : Prop := l.length = i ∧ ∀ j x, l[j]? = some x → P j x

theorem Lst.snoc {α : Type} {P : Nat → α → Prop} {i : Nat} {l : List α} {x : α} (h : Lst P i l) (hx : P i x) : Lst P (i + 1) (l ++ [x]) := by
  obtain ⟨h1, h2⟩ := h
  refine ⟨by simp [h1], fun j y hj => ?_⟩
  by_cases e : j < l.length
  · rw [List.getElem?_append_left e] at hj; exact h2 j y hj
  · rw [List.getElem?_append_right (by omega)] at hj
    have : j - l.length = 0 := by
      have := (List.getElem?_eq_some_iff.1 hj).1
      simp at this; omega
    rw [this] at hj
    simp at hj
    subst hj
    have : j = i := by omega
    exact this ▸ hx

theorem Lst.nil {α : Type} {P : Nat → α → Prop} : Lst P 0 [] := ⟨rfl, fun j x h => by simp at h⟩

theorem hist1_best {f : TField} (hf : FieldOK f) {x : TOutcome} (hx : OutOK f.Clocks x) (hxo : x.Out = false) {k : Nat} (hk : k < nseg f + 1) {o : Int} (ho : -2199023255552 ≤ o ∧ o ≤ 2199023255552) :
    m_ranks_direction_history_1 (k : Int) o f.Clocks.Segments f.Clocks.Far f.Pairs f.Runners (w64 (x.Seg + 1)) = some (o + at2 f.Clocks.Far (vr x) k) := by
  obtain ⟨e1, h1⟩ := vr_eq hf.clocks hx hxo
  obtain ⟨row, g1, g2⟩ := far_get hf.clocks h1 hk
  have b := far_bound hf h1 hk
  unfold far at b
  unfold m_ranks_direction_history_1 m_ranks_best_1
  simp only [e1, g1, g2, some_bind]
  rw [w64_of (by omega) (by omega)]

theorem offs_best_L1 {f : TField} (hf : FieldOK f) {x : TOutcome} (hx : OutOK f.Clocks x) (hxo : x.Out = false) :
    m_ranks_direction_history_with_ranks_best_2_L1 f x (far f (vr x) 0) (nseg f + 1) 0 [] = some ((List.range (nseg f)).map fun k => bOff f (vr x) (k + 1)) := by
  have hsg : nseg f ≤ 511 := hf.clocks.few
  have hv := vr_lt hf hx hxo
  have b0 := far_bound hf hv (j := 0) (by omega)
  have := map_loop (b := 8) (l := List.range (nseg f)) (f := fun n i l => m_ranks_direction_history_with_ranks_best_2_L1 f x (far f (vr x) 0) n (i : Int) l) (g := fun k => bOff f (vr x) (k + 1)) (k := some) (by simp; omega) (by simp; omega) (fun n i hi s => by
    have hi' : i < nseg f := by simpa using hi
    show m_ranks_direction_history_with_ranks_best_2_L1 f x (far f (vr x) 0) (n + 1) (i : Int) s = _
    rw [m_ranks_direction_history_with_ranks_best_2_L1, dec_lt_nat, decide_eq_true hi', cond_true, w64_succ (by omega), w64_of (n := 0 - (far f (vr x) 0)) (by omega) (by omega), hist1_best hf hx hxo (k := i + 1) (by omega) (by omega), some_bind]
    have e : 0 - (far f (vr x) 0) + at2 f.Clocks.Far (vr x) (i + 1) = bOff f (vr x) (i + 1) := by unfold bOff far; omega
    rw [e]
    simp) (fun n s => by
    show m_ranks_direction_history_with_ranks_best_2_L1 f x (far f (vr x) 0) (n + 1) (((List.range (nseg f)).length : Nat) : Int) s = _
    rw [m_ranks_direction_history_with_ranks_best_2_L1]; simp)
  simpa using this

theorem offs_best_L3 {f : TField} (hf : FieldOK f) {x : TOutcome} (hx : OutOK f.Clocks x) (hxo : x.Out = false) (hz : vr x = 0) :
    m_ranks_direction_history_with_ranks_best_2_L3 f x (nseg f + 1) 0 [] = some ((List.range (nseg f)).map fun k => bOff f (vr x) (k + 1)) := by
  have hsg : nseg f ≤ 511 := hf.clocks.few
  have hv := vr_lt hf hx hxo
  have b0 := far_self hf (i := 0) (by omega)
  have := map_loop (b := 8) (l := List.range (nseg f)) (f := fun n i l => m_ranks_direction_history_with_ranks_best_2_L3 f x n (i : Int) l) (g := fun k => bOff f (vr x) (k + 1)) (k := some) (by simp; omega) (by simp; omega) (fun n i hi s => by
    have hi' : i < nseg f := by simpa using hi
    show m_ranks_direction_history_with_ranks_best_2_L3 f x (n + 1) (i : Int) s = _
    rw [m_ranks_direction_history_with_ranks_best_2_L3, dec_lt_nat, decide_eq_true hi', cond_true, w64_succ (by omega), hist1_best hf hx hxo (k := i + 1) (by omega) (by omega), some_bind]
    have e : 0 + at2 f.Clocks.Far (vr x) (i + 1) = bOff f (vr x) (i + 1) := by unfold bOff; rw [hz]; unfold far at b0 ⊢; omega
    rw [e]
    simp) (fun n s => by
    show m_ranks_direction_history_with_ranks_best_2_L3 f x (n + 1) (((List.range (nseg f)).length : Nat) : Int) s = _
    rw [m_ranks_direction_history_with_ranks_best_2_L3]; simp)
  simpa using this

theorem chs_best_L2 {f : TField} (hs : Small f) (hf : FieldOK f) {r w i : Nat} (hr : r < nrun f) {x : TOutcome} (ho : Occ f r w i x) (hxo : x.Out = false) (rk : Int) :
    ∃ l, m_ranks_direction_history_with_ranks_best_2_L2 f (r : Int) ⟨(w : Int), (i : Int), rk⟩ x (nrun f + 1) 0 [] = some l ∧ Lst (BChoice f r w i x) (nrun f) l := by
  have hlen : nrun f ≤ 1000000 := hs.runners
  have hx := ho.ok hf hr
  obtain ⟨hw, hp, ho'⟩ := ho
  exact inv_loop (N := nrun f) (f := fun n k l => m_ranks_direction_history_with_ranks_best_2_L2 f (r : Int) ⟨(w : Int), (i : Int), rk⟩ x n (k : Int) l) (k := some) (I := Lst (BChoice f r w i x)) (s0 := []) (fun k l hk hI => by
    have e1 := hI.1
    have happ : ∀ c : TChoice, app 16 l [c] = some (l ++ [c]) := fun c => app_ok (by simp; omega) (by simp; omega)
    by_cases hkr : k = r
    · refine ⟨l ++ [⟨(i : Int), x.Lo⟩], hI.snoc (.inl ⟨hkr, rfl⟩), fun n => ?_⟩
      have hil : i < (wl f.Runners r w).length := (List.getElem?_eq_some_iff.1 ho').1
      have hix : idx (wl f.Runners r w) (i : Int) = some x := by
        rw [idx_lt hil, ← List.getElem?_eq_getElem hil]; exact ho'
      subst hkr
      show m_ranks_direction_history_with_ranks_best_2_L2 f (k : Int) ⟨(w : Int), (i : Int), rk⟩ x (n + 1) (k : Int) l = _
      rw [m_ranks_direction_history_with_ranks_best_2_L2, dec_lt_nat, decide_eq_true hk, cond_true, idx_lt hk, some_bind, bif_ne, if_pos rfl, (wl_mem hf hk hw).2, some_bind, hix, some_bind, hxo, w64_succ (by omega)]
      unfold m_ranks_lo
      simp only [Bool.not_false, cond_true, some_bind, happ]
    · obtain ⟨j, y, h1, h2, h3⟩ := choose_best_eq hs hf hr hk hw (hp k hk) hx hxo
      have hjl : j < (wl f.Runners k w).length := (List.getElem?_eq_some_iff.1 h1).1
      have hjy : idx (wl f.Runners k w) (j : Int) = some y := by
        rw [idx_lt hjl, ← List.getElem?_eq_getElem hjl]; exact h1
      refine ⟨l ++ [⟨(j : Int), if y.Out = true then 0 else y.Hi⟩], hI.snoc (.inr ⟨hkr, j, y, h1, rfl, h3⟩), fun n => ?_⟩
      show m_ranks_direction_history_with_ranks_best_2_L2 f (r : Int) ⟨(w : Int), (i : Int), rk⟩ x (n + 1) (k : Int) l = _
      rw [m_ranks_direction_history_with_ranks_best_2_L2, dec_lt_nat, decide_eq_true hk, cond_true, idx_lt hk, some_bind, bif_ne, if_neg (by omega), h2, w64_succ (by omega)]
      unfold m_ranks_hi
      simp only [some_bind, (wl_mem hf hk hw).2, hjy]
      cases y.Out <;> simp [happ, some_bind]) (fun n l => by
    show m_ranks_direction_history_with_ranks_best_2_L2 f (r : Int) ⟨(w : Int), (i : Int), rk⟩ x (n + 1) ((nrun f : Nat) : Int) l = _
    rw [m_ranks_direction_history_with_ranks_best_2_L2]; simp) Lst.nil

theorem chs_best_L4 {f : TField} (hs : Small f) (hf : FieldOK f) {r w i : Nat} (hr : r < nrun f) {x : TOutcome} (ho : Occ f r w i x) (hxo : x.Out = false) (rk : Int) :
    ∃ l, m_ranks_direction_history_with_ranks_best_2_L4 f (r : Int) ⟨(w : Int), (i : Int), rk⟩ x (nrun f + 1) 0 [] = some l ∧ Lst (BChoice f r w i x) (nrun f) l := by
  have hlen : nrun f ≤ 1000000 := hs.runners
  have hx := ho.ok hf hr
  obtain ⟨hw, hp, ho'⟩ := ho
  exact inv_loop (N := nrun f) (f := fun n k l => m_ranks_direction_history_with_ranks_best_2_L4 f (r : Int) ⟨(w : Int), (i : Int), rk⟩ x n (k : Int) l) (k := some) (I := Lst (BChoice f r w i x)) (s0 := []) (fun k l hk hI => by
    have e1 := hI.1
    have happ : ∀ c : TChoice, app 16 l [c] = some (l ++ [c]) := fun c => app_ok (by simp; omega) (by simp; omega)
    by_cases hkr : k = r
    · refine ⟨l ++ [⟨(i : Int), x.Lo⟩], hI.snoc (.inl ⟨hkr, rfl⟩), fun n => ?_⟩
      have hil : i < (wl f.Runners r w).length := (List.getElem?_eq_some_iff.1 ho').1
      have hix : idx (wl f.Runners r w) (i : Int) = some x := by
        rw [idx_lt hil, ← List.getElem?_eq_getElem hil]; exact ho'
      subst hkr
      show m_ranks_direction_history_with_ranks_best_2_L4 f (k : Int) ⟨(w : Int), (i : Int), rk⟩ x (n + 1) (k : Int) l = _
      rw [m_ranks_direction_history_with_ranks_best_2_L4, dec_lt_nat, decide_eq_true hk, cond_true, idx_lt hk, some_bind, bif_ne, if_pos rfl, (wl_mem hf hk hw).2, some_bind, hix, some_bind, hxo, w64_succ (by omega)]
      unfold m_ranks_lo
      simp only [Bool.not_false, cond_true, some_bind, happ]
    · obtain ⟨j, y, h1, h2, h3⟩ := choose_best_eq hs hf hr hk hw (hp k hk) hx hxo
      have hjl : j < (wl f.Runners k w).length := (List.getElem?_eq_some_iff.1 h1).1
      have hjy : idx (wl f.Runners k w) (j : Int) = some y := by
        rw [idx_lt hjl, ← List.getElem?_eq_getElem hjl]; exact h1
      refine ⟨l ++ [⟨(j : Int), if y.Out = true then 0 else y.Hi⟩], hI.snoc (.inr ⟨hkr, j, y, h1, rfl, h3⟩), fun n => ?_⟩
      show m_ranks_direction_history_with_ranks_best_2_L4 f (r : Int) ⟨(w : Int), (i : Int), rk⟩ x (n + 1) (k : Int) l = _
      rw [m_ranks_direction_history_with_ranks_best_2_L4, dec_lt_nat, decide_eq_true hk, cond_true, idx_lt hk, some_bind, bif_ne, if_neg (by omega), h2, w64_succ (by omega)]
      unfold m_ranks_hi
      simp only [some_bind, (wl_mem hf hk hw).2, hjy]
      cases y.Out <;> simp [happ, some_bind]) (fun n l => by
    show m_ranks_direction_history_with_ranks_best_2_L4 f (r : Int) ⟨(w : Int), (i : Int), rk⟩ x (n + 1) ((nrun f : Nat) : Int) l = _
    rw [m_ranks_direction_history_with_ranks_best_2_L4]; simp) Lst.nil

theorem history_best_eq {f : TField} (hs : Small f) (hf : FieldOK f) {r w i : Nat} (hr : r < nrun f) {x : TOutcome} (ho : Occ f r w i x) (hxo : x.Out = false) (rk : Int) :
    ∃ l, m_ranks_direction_history_with_ranks_best_2 f (r : Int) ⟨(w : Int), (i : Int), rk⟩ = some ⟨(w : Int), (List.range (nseg f)).map (fun k => bOff f (vr x) (k + 1)), l⟩ ∧ Lst (BChoice f r w i x) (nrun f) l := by
  have hx := ho.ok hf hr
  have hil : i < (wl f.Runners r w).length := (List.getElem?_eq_some_iff.1 ho.2.2).1
  have hix : idx (wl f.Runners r w) (i : Int) = some x := by
    rw [idx_lt hil, ← List.getElem?_eq_getElem hil]; exact ho.2.2
  obtain ⟨e1, hv⟩ := vr_eq hf.clocks hx hxo
  unfold m_ranks_direction_history_with_ranks_best_2
  rw [idx_lt hr, some_bind, (wl_mem hf hr ho.1).2, some_bind, hix, some_bind, e1, bif_dec]
  by_cases hz : vr x = 0
  · obtain ⟨l, h1, h2⟩ := chs_best_L4 hs hf hr ho hxo rk
    rw [if_neg (by omega), fuel_sub, fuel_sub]
    replace h1 : m_ranks_direction_history_with_ranks_best_2_L4 f (r : Int) ⟨(w : Int), (i : Int), rk⟩ x (f.Runners.length + 1) 0 [] = some l := h1
    have h3 : m_ranks_direction_history_with_ranks_best_2_L3 f x (f.Clocks.Segments.length + 1) 0 [] = _ := offs_best_L3 hf hx hxo hz
    rw [h1, h3]
    exact ⟨l, rfl, h2⟩
  · obtain ⟨l, h1, h2⟩ := chs_best_L2 hs hf hr ho hxo rk
    obtain ⟨row, g1, g2⟩ := far_get hf.clocks hv (j := 0) (by omega)
    rw [if_pos (by omega)]
    unfold m_ranks_best_1
    have ez : ((0 : Nat) : Int) = 0 := rfl
    rw [ez] at g2
    rw [g1, some_bind, g2, some_bind, some_bind, fuel_sub, fuel_sub]
    replace h1 : m_ranks_direction_history_with_ranks_best_2_L2 f (r : Int) ⟨(w : Int), (i : Int), rk⟩ x (f.Runners.length + 1) 0 [] = some l := h1
    have h3 : m_ranks_direction_history_with_ranks_best_2_L1 f x (far f (vr x) 0) (f.Clocks.Segments.length + 1) 0 [] = _ := offs_best_L1 hf hx hxo
    rw [h1, h3]
    exact ⟨l, rfl, h2⟩

theorem hist1_worst {f : TField} (hf : FieldOK f) {x : TOutcome} (hx : OutOK f.Clocks x) (hxo : x.Out = false) {k : Nat} (hk : k < nseg f + 1) {o : Int} (ho : -2199023255552 ≤ o ∧ o ≤ 2199023255552) :
    m_ranks_direction_history_1_v2 (k : Int) o f.Clocks.Segments f.Clocks.Far f.Pairs f.Runners (w64 (x.Seg + 1)) = some (o + (0 - at2 f.Clocks.Far k (vr x))) := by
  obtain ⟨e1, h1⟩ := vr_eq hf.clocks hx hxo
  obtain ⟨row, g1, g2⟩ := far_get hf.clocks hk h1
  have b := far_bound hf hk h1
  unfold far at b
  unfold m_ranks_direction_history_1_v2 m_ranks_worst_1
  simp only [e1, g1, g2, some_bind]
  rw [w64_of (n := 0 - _) (by omega) (by omega), w64_of (by omega) (by omega)]

theorem offs_worst_L1 {f : TField} (hf : FieldOK f) {x : TOutcome} (hx : OutOK f.Clocks x) (hxo : x.Out = false) :
    m_ranks_direction_history_with_ranks_worst_2_L1 f x (0 - far f 0 (vr x)) (nseg f + 1) 0 [] = some ((List.range (nseg f)).map fun k => wOff f (vr x) (k + 1)) := by
  have hsg : nseg f ≤ 511 := hf.clocks.few
  have hv := vr_lt hf hx hxo
  have b0 := far_bound hf (i := 0) (by omega) hv
  have := map_loop (b := 8) (l := List.range (nseg f)) (f := fun n i l => m_ranks_direction_history_with_ranks_worst_2_L1 f x (0 - far f 0 (vr x)) n (i : Int) l) (g := fun k => wOff f (vr x) (k + 1)) (k := some) (by simp; omega) (by simp; omega) (fun n i hi s => by
    have hi' : i < nseg f := by simpa using hi
    show m_ranks_direction_history_with_ranks_worst_2_L1 f x (0 - far f 0 (vr x)) (n + 1) (i : Int) s = _
    rw [m_ranks_direction_history_with_ranks_worst_2_L1, dec_lt_nat, decide_eq_true hi', cond_true, w64_succ (by omega), w64_of (n := 0 - (0 - far f 0 (vr x))) (by omega) (by omega), hist1_worst hf hx hxo (k := i + 1) (by omega) (by omega), some_bind]
    have e : 0 - (0 - far f 0 (vr x)) + (0 - at2 f.Clocks.Far (i + 1) (vr x)) = wOff f (vr x) (i + 1) := by unfold wOff far; omega
    rw [e]
    simp) (fun n s => by
    show m_ranks_direction_history_with_ranks_worst_2_L1 f x (0 - far f 0 (vr x)) (n + 1) (((List.range (nseg f)).length : Nat) : Int) s = _
    rw [m_ranks_direction_history_with_ranks_worst_2_L1]; simp)
  simpa using this

theorem offs_worst_L3 {f : TField} (hf : FieldOK f) {x : TOutcome} (hx : OutOK f.Clocks x) (hxo : x.Out = false) (hz : vr x = 0) :
    m_ranks_direction_history_with_ranks_worst_2_L3 f x (nseg f + 1) 0 [] = some ((List.range (nseg f)).map fun k => wOff f (vr x) (k + 1)) := by
  have hsg : nseg f ≤ 511 := hf.clocks.few
  have hv := vr_lt hf hx hxo
  have b0 := far_self hf (i := 0) (by omega)
  have := map_loop (b := 8) (l := List.range (nseg f)) (f := fun n i l => m_ranks_direction_history_with_ranks_worst_2_L3 f x n (i : Int) l) (g := fun k => wOff f (vr x) (k + 1)) (k := some) (by simp; omega) (by simp; omega) (fun n i hi s => by
    have hi' : i < nseg f := by simpa using hi
    show m_ranks_direction_history_with_ranks_worst_2_L3 f x (n + 1) (i : Int) s = _
    rw [m_ranks_direction_history_with_ranks_worst_2_L3, dec_lt_nat, decide_eq_true hi', cond_true, w64_succ (by omega), hist1_worst hf hx hxo (k := i + 1) (by omega) (by omega), some_bind]
    have e : 0 + (0 - at2 f.Clocks.Far (i + 1) (vr x)) = wOff f (vr x) (i + 1) := by unfold wOff; rw [hz]; unfold far at b0 ⊢; omega
    rw [e]
    simp) (fun n s => by
    show m_ranks_direction_history_with_ranks_worst_2_L3 f x (n + 1) (((List.range (nseg f)).length : Nat) : Int) s = _
    rw [m_ranks_direction_history_with_ranks_worst_2_L3]; simp)
  simpa using this

theorem chs_worst_L2 {f : TField} (hs : Small f) (hf : FieldOK f) {r w i : Nat} (hr : r < nrun f) {x : TOutcome} (ho : Occ f r w i x) (hxo : x.Out = false) (rk : Int) :
    ∃ l, m_ranks_direction_history_with_ranks_worst_2_L2 f (r : Int) ⟨(w : Int), (i : Int), rk⟩ x (nrun f + 1) 0 [] = some l ∧ Lst (WChoice f r w i x) (nrun f) l := by
  have hlen : nrun f ≤ 1000000 := hs.runners
  have hx := ho.ok hf hr
  obtain ⟨hw, hp, ho'⟩ := ho
  exact inv_loop (N := nrun f) (f := fun n k l => m_ranks_direction_history_with_ranks_worst_2_L2 f (r : Int) ⟨(w : Int), (i : Int), rk⟩ x n (k : Int) l) (k := some) (I := Lst (WChoice f r w i x)) (s0 := []) (fun k l hk hI => by
    have e1 := hI.1
    have happ : ∀ c : TChoice, app 16 l [c] = some (l ++ [c]) := fun c => app_ok (by simp; omega) (by simp; omega)
    by_cases hkr : k = r
    · refine ⟨l ++ [⟨(i : Int), x.Hi⟩], hI.snoc (.inl ⟨hkr, rfl⟩), fun n => ?_⟩
      have hil : i < (wl f.Runners r w).length := (List.getElem?_eq_some_iff.1 ho').1
      have hix : idx (wl f.Runners r w) (i : Int) = some x := by
        rw [idx_lt hil, ← List.getElem?_eq_getElem hil]; exact ho'
      subst hkr
      show m_ranks_direction_history_with_ranks_worst_2_L2 f (k : Int) ⟨(w : Int), (i : Int), rk⟩ x (n + 1) (k : Int) l = _
      rw [m_ranks_direction_history_with_ranks_worst_2_L2, dec_lt_nat, decide_eq_true hk, cond_true, idx_lt hk, some_bind, bif_ne, if_pos rfl, (wl_mem hf hk hw).2, some_bind, hix, some_bind, hxo, w64_succ (by omega)]
      unfold m_ranks_hi
      simp only [Bool.not_false, cond_true, some_bind, happ]
    · obtain ⟨j, y, h1, h2, h3⟩ := choose_worst_eq hs hf hr hk hw (hp k hk) hx hxo
      have hjl : j < (wl f.Runners k w).length := (List.getElem?_eq_some_iff.1 h1).1
      have hjy : idx (wl f.Runners k w) (j : Int) = some y := by
        rw [idx_lt hjl, ← List.getElem?_eq_getElem hjl]; exact h1
      refine ⟨l ++ [⟨(j : Int), if y.Out = true then 0 else y.Lo⟩], hI.snoc (.inr ⟨hkr, j, y, h1, rfl, h3⟩), fun n => ?_⟩
      show m_ranks_direction_history_with_ranks_worst_2_L2 f (r : Int) ⟨(w : Int), (i : Int), rk⟩ x (n + 1) (k : Int) l = _
      rw [m_ranks_direction_history_with_ranks_worst_2_L2, dec_lt_nat, decide_eq_true hk, cond_true, idx_lt hk, some_bind, bif_ne, if_neg (by omega), h2, w64_succ (by omega)]
      unfold m_ranks_lo
      simp only [some_bind, (wl_mem hf hk hw).2, hjy]
      cases y.Out <;> simp [happ, some_bind]) (fun n l => by
    show m_ranks_direction_history_with_ranks_worst_2_L2 f (r : Int) ⟨(w : Int), (i : Int), rk⟩ x (n + 1) ((nrun f : Nat) : Int) l = _
    rw [m_ranks_direction_history_with_ranks_worst_2_L2]; simp) Lst.nil

theorem chs_worst_L4 {f : TField} (hs : Small f) (hf : FieldOK f) {r w i : Nat} (hr : r < nrun f) {x : TOutcome} (ho : Occ f r w i x) (hxo : x.Out = false) (rk : Int) :
    ∃ l, m_ranks_direction_history_with_ranks_worst_2_L4 f (r : Int) ⟨(w : Int), (i : Int), rk⟩ x (nrun f + 1) 0 [] = some l ∧ Lst (WChoice f r w i x) (nrun f) l := by
  have hlen : nrun f ≤ 1000000 := hs.runners
  have hx := ho.ok hf hr
  obtain ⟨hw, hp, ho'⟩ := ho
  exact inv_loop (N := nrun f) (f := fun n k l => m_ranks_direction_history_with_ranks_worst_2_L4 f (r : Int) ⟨(w : Int), (i : Int), rk⟩ x n (k : Int) l) (k := some) (I := Lst (WChoice f r w i x)) (s0 := []) (fun k l hk hI => by
    have e1 := hI.1
    have happ : ∀ c : TChoice, app 16 l [c] = some (l ++ [c]) := fun c => app_ok (by simp; omega) (by simp; omega)
    by_cases hkr : k = r
    · refine ⟨l ++ [⟨(i : Int), x.Hi⟩], hI.snoc (.inl ⟨hkr, rfl⟩), fun n => ?_⟩
      have hil : i < (wl f.Runners r w).length := (List.getElem?_eq_some_iff.1 ho').1
      have hix : idx (wl f.Runners r w) (i : Int) = some x := by
        rw [idx_lt hil, ← List.getElem?_eq_getElem hil]; exact ho'
      subst hkr
      show m_ranks_direction_history_with_ranks_worst_2_L4 f (k : Int) ⟨(w : Int), (i : Int), rk⟩ x (n + 1) (k : Int) l = _
      rw [m_ranks_direction_history_with_ranks_worst_2_L4, dec_lt_nat, decide_eq_true hk, cond_true, idx_lt hk, some_bind, bif_ne, if_pos rfl, (wl_mem hf hk hw).2, some_bind, hix, some_bind, hxo, w64_succ (by omega)]
      unfold m_ranks_hi
      simp only [Bool.not_false, cond_true, some_bind, happ]
    · obtain ⟨j, y, h1, h2, h3⟩ := choose_worst_eq hs hf hr hk hw (hp k hk) hx hxo
      have hjl : j < (wl f.Runners k w).length := (List.getElem?_eq_some_iff.1 h1).1
      have hjy : idx (wl f.Runners k w) (j : Int) = some y := by
        rw [idx_lt hjl, ← List.getElem?_eq_getElem hjl]; exact h1
      refine ⟨l ++ [⟨(j : Int), if y.Out = true then 0 else y.Lo⟩], hI.snoc (.inr ⟨hkr, j, y, h1, rfl, h3⟩), fun n => ?_⟩
      show m_ranks_direction_history_with_ranks_worst_2_L4 f (r : Int) ⟨(w : Int), (i : Int), rk⟩ x (n + 1) (k : Int) l = _
      rw [m_ranks_direction_history_with_ranks_worst_2_L4, dec_lt_nat, decide_eq_true hk, cond_true, idx_lt hk, some_bind, bif_ne, if_neg (by omega), h2, w64_succ (by omega)]
      unfold m_ranks_lo
      simp only [some_bind, (wl_mem hf hk hw).2, hjy]
      cases y.Out <;> simp [happ, some_bind]) (fun n l => by
    show m_ranks_direction_history_with_ranks_worst_2_L4 f (r : Int) ⟨(w : Int), (i : Int), rk⟩ x (n + 1) ((nrun f : Nat) : Int) l = _
    rw [m_ranks_direction_history_with_ranks_worst_2_L4]; simp) Lst.nil

theorem history_worst_eq {f : TField} (hs : Small f) (hf : FieldOK f) {r w i : Nat} (hr : r < nrun f) {x : TOutcome} (ho : Occ f r w i x) (hxo : x.Out = false) (rk : Int) :
    ∃ l, m_ranks_direction_history_with_ranks_worst_2 f (r : Int) ⟨(w : Int), (i : Int), rk⟩ = some ⟨(w : Int), (List.range (nseg f)).map (fun k => wOff f (vr x) (k + 1)), l⟩ ∧ Lst (WChoice f r w i x) (nrun f) l := by
  have hx := ho.ok hf hr
  have hil : i < (wl f.Runners r w).length := (List.getElem?_eq_some_iff.1 ho.2.2).1
  have hix : idx (wl f.Runners r w) (i : Int) = some x := by
    rw [idx_lt hil, ← List.getElem?_eq_getElem hil]; exact ho.2.2
  obtain ⟨e1, hv⟩ := vr_eq hf.clocks hx hxo
  unfold m_ranks_direction_history_with_ranks_worst_2
  rw [idx_lt hr, some_bind, (wl_mem hf hr ho.1).2, some_bind, hix, some_bind, e1, bif_dec]
  by_cases hz : vr x = 0
  · obtain ⟨l, h1, h2⟩ := chs_worst_L4 hs hf hr ho hxo rk
    rw [if_neg (by omega), fuel_sub, fuel_sub]
    replace h1 : m_ranks_direction_history_with_ranks_worst_2_L4 f (r : Int) ⟨(w : Int), (i : Int), rk⟩ x (f.Runners.length + 1) 0 [] = some l := h1
    have h3 : m_ranks_direction_history_with_ranks_worst_2_L3 f x (f.Clocks.Segments.length + 1) 0 [] = _ := offs_worst_L3 hf hx hxo hz
    rw [h1, h3]
    exact ⟨l, rfl, h2⟩
  · obtain ⟨l, h1, h2⟩ := chs_worst_L2 hs hf hr ho hxo rk
    obtain ⟨row, g1, g2⟩ := far_get hf.clocks (i := 0) (by omega) hv
    rw [if_pos (by omega)]
    unfold m_ranks_worst_1
    have ez : ((0 : Nat) : Int) = 0 := rfl
    rw [ez] at g1
    rw [g1, some_bind, g2, some_bind, some_bind, fuel_sub, fuel_sub]
    replace h1 : m_ranks_direction_history_with_ranks_worst_2_L2 f (r : Int) ⟨(w : Int), (i : Int), rk⟩ x (f.Runners.length + 1) 0 [] = some l := h1
    have h3 : m_ranks_direction_history_with_ranks_worst_2_L1 f x (0 - far f 0 (vr x)) (f.Clocks.Segments.length + 1) 0 [] = _ := offs_worst_L1 hf hx hxo
    have b0 := far_bound hf (i := 0) (by omega) hv
    rw [w64_of (n := 0 - at2 f.Clocks.Far 0 (vr x)) (by have : far f 0 (vr x) = at2 f.Clocks.Far 0 (vr x) := rfl; omega) (by have : far f 0 (vr x) = at2 f.Clocks.Far 0 (vr x) := rfl; omega)]
    rw [h1, h3]
    exact ⟨l, rfl, h2⟩

theorem off_map {g : Nat → Int} {n k : Nat} (hk : k < n + 1) (h0 : g 0 = 0) {w : Int} {l : List TChoice} : off ⟨w, (List.range n).map (fun k => g (k + 1)), l⟩ k = g k := by
  unfold off
  cases k with
  | zero => simp [h0]
  | succ k =>
    have : k < n := by omega
    simp [this]

theorem ch_lst {P : Nat → TChoice → Prop} {n : Nat} {l : List TChoice} (h : Lst P n l) {w : Int} {o : List Int} {k : Nat} (hk : k < n) : P k (ch ⟨w, o, l⟩ k) := by
  have hk' : k < l.length := by rw [h.1]; exact hk
  refine h.2 k _ ?_
  unfold ch
  simp [hk']

theorem best_adm {f : TField} (hf : FieldOK f) {r w i : Nat} (hr : r < nrun f) {x : TOutcome} (ho : Occ f r w i x) (hxo : x.Out = false) {l : List TChoice} (hl : Lst (BChoice f r w i x) (nrun f) l) :
    Adm f ⟨(w : Int), (List.range (nseg f)).map (fun k => bOff f (vr x) (k + 1)), l⟩ ∧ rank f ⟨(w : Int), (List.range (nseg f)).map (fun k => bOff f (vr x) (k + 1)), l⟩ r = nBest f w r x := by
  have hx := ho.ok hf hr
  have hv := vr_lt hf hx hxo
  have hz : bOff f (vr x) 0 = 0 := by unfold bOff; omega
  have hoff : ∀ k, k < nseg f + 1 → off ⟨(w : Int), (List.range (nseg f)).map (fun k => bOff f (vr x) (k + 1)), l⟩ k = bOff f (vr x) k := fun k hk => off_map hk hz
  have hch : ∀ k, k < nrun f → BChoice f r w i x k (ch ⟨(w : Int), (List.range (nseg f)).map (fun k => bOff f (vr x) (k + 1)), l⟩ k) := fun k hk => ch_lst hl hk
  have hW : (⟨(w : Int), (List.range (nseg f)).map (fun k => bOff f (vr x) (k + 1)), l⟩ : THistory).World.toNat = w := by simp
  have hW' : (⟨(w : Int), (List.range (nseg f)).map (fun k => bOff f (vr x) (k + 1)), l⟩ : THistory).World = (w : Int) := rfl
  have hO : (⟨(w : Int), (List.range (nseg f)).map (fun k => bOff f (vr x) (k + 1)), l⟩ : THistory).Offsets.length = nseg f := by simp
  have hC : (⟨(w : Int), (List.range (nseg f)).map (fun k => bOff f (vr x) (k + 1)), l⟩ : THistory).Choices.length = nrun f := hl.1
  generalize (⟨(w : Int), (List.range (nseg f)).map (fun k => bOff f (vr x) (k + 1)), l⟩ : THistory) = h at *
  have hown : oc f h r = x ∧ ch h r = ⟨(i : Int), x.Lo⟩ := by
    rcases hch r hr with ⟨_, e⟩ | ⟨hne, _⟩
    · refine ⟨?_, e⟩
      unfold oc
      rw [e, hW]
      simp only [Int.toNat_natCast, ho.2.2, Option.getD_some]
    · exact absurd rfl hne
  have hrest : ∀ k, k < nrun f → k ≠ r → ∃ j : Nat, ∃ y, (wl f.Runners k w)[j]? = some y ∧ oc f h k = y ∧ ch h k = ⟨(j : Int), if y.Out = true then 0 else y.Hi⟩ ∧ forced f r x k y = (wl f.Runners k w).all (forced f r x k) := by
    intro k hk hne
    rcases hch k hk with ⟨e, _⟩ | ⟨_, j, y, h1, h2, h3⟩
    · exact absurd e hne
    · refine ⟨j, y, h1, ?_, h2, h3⟩
      unfold oc
      rw [h2, hW]
      simp only [Int.toNat_natCast, h1, Option.getD_some]
  obtain ⟨_, _, b1, b2, b3⟩ := hx.2 hxo
  have ha : Adm f h := by
    have hw := ho.1
    refine ⟨⟨by rw [hW']; omega, by rw [hW']; omega⟩, by rw [hW]; exact ho.2.1, hO, hC, fun k hk => ?_, fun a hA b hB => ?_, fun k hk => ?_⟩
    · rw [hoff k hk]
      have f1 := far_bound hf hv hk
      have f2 := far_bound hf hv (j := 0) (by omega)
      unfold bOff
      omega
    · rw [hoff a hA, hoff b hB]
      have f1 := far_tri hf hv hA hB
      unfold bOff
      omega
    · rw [hW]
      by_cases e : k = r
      · subst e
        obtain ⟨e1, e2⟩ := hown
        have hil : i < (wl f.Runners k w).length := (List.getElem?_eq_some_iff.1 ho.2.2).1
        rw [e1, e2]
        exact ⟨by dsimp only; omega, by dsimp only; omega, fun h => (by rw [hxo] at h; cases h), fun _ => ⟨by dsimp only; omega, by dsimp only; omega⟩⟩
      · obtain ⟨j, y, h1, h2, h3, _⟩ := hrest k hk e
        have hjl : j < (wl f.Runners k w).length := (List.getElem?_eq_some_iff.1 h1).1
        have hy := wl_ok hf hk hw y (List.mem_of_getElem? h1)
        rw [h2, h3]
        refine ⟨by dsimp only; omega, by dsimp only; omega, fun h => by dsimp only; rw [if_pos h], fun h => ?_⟩
        obtain ⟨_, _, c1, c2, c3⟩ := hy.2 h
        dsimp only
        rw [if_neg (by rw [h]; decide)]
        exact ⟨by omega, by omega⟩
  refine ⟨ha, ?_⟩
  unfold rank nBest
  rw [hown.1, if_neg (by rw [hxo]; decide)]
  congr 1
  refine countP_eq_of fun k hk => ?_
  by_cases e : k = r
  · subst e
    rw [inFr_self (by rw [hown.1]; exact hxo)]
    unfold sureK; simp
  · obtain ⟨j, y, h1, h2, h3, h4⟩ := hrest k hk e
    have hy := wl_ok hf hk ho.1 y (List.mem_of_getElem? h1)
    have e1 : sureK f w r x k = (wl f.Runners k w).all (forced f r x k) := by unfold sureK; simp [e]
    rw [e1, ← h4]
    unfold inFr forced net
    rw [h2, h3, hown.1, hown.2, hxo]
    cases hyo : y.Out with
    | true => rfl
    | false =>
      have hvy := vr_lt hf hy hyo
      rw [hoff _ hv, hoff _ hvy]
      simp only [Bool.not_false, Bool.true_and, Bool.false_or, Bool.false_eq_true, if_false]
      congr 1
      have f1 := far_self hf hv
      unfold bOff
      omega

theorem worst_adm {f : TField} (hf : FieldOK f) {r w i : Nat} (hr : r < nrun f) {x : TOutcome} (ho : Occ f r w i x) (hxo : x.Out = false) {l : List TChoice} (hl : Lst (WChoice f r w i x) (nrun f) l) :
    Adm f ⟨(w : Int), (List.range (nseg f)).map (fun k => wOff f (vr x) (k + 1)), l⟩ ∧ rank f ⟨(w : Int), (List.range (nseg f)).map (fun k => wOff f (vr x) (k + 1)), l⟩ r = nWorst f w r x := by
  have hx := ho.ok hf hr
  have hv := vr_lt hf hx hxo
  have hz : wOff f (vr x) 0 = 0 := by unfold wOff; omega
  have hoff : ∀ k, k < nseg f + 1 → off ⟨(w : Int), (List.range (nseg f)).map (fun k => wOff f (vr x) (k + 1)), l⟩ k = wOff f (vr x) k := fun k hk => off_map hk hz
  have hch : ∀ k, k < nrun f → WChoice f r w i x k (ch ⟨(w : Int), (List.range (nseg f)).map (fun k => wOff f (vr x) (k + 1)), l⟩ k) := fun k hk => ch_lst hl hk
  have hW : (⟨(w : Int), (List.range (nseg f)).map (fun k => wOff f (vr x) (k + 1)), l⟩ : THistory).World.toNat = w := by simp
  have hW' : (⟨(w : Int), (List.range (nseg f)).map (fun k => wOff f (vr x) (k + 1)), l⟩ : THistory).World = (w : Int) := rfl
  have hO : (⟨(w : Int), (List.range (nseg f)).map (fun k => wOff f (vr x) (k + 1)), l⟩ : THistory).Offsets.length = nseg f := by simp
  have hC : (⟨(w : Int), (List.range (nseg f)).map (fun k => wOff f (vr x) (k + 1)), l⟩ : THistory).Choices.length = nrun f := hl.1
  generalize (⟨(w : Int), (List.range (nseg f)).map (fun k => wOff f (vr x) (k + 1)), l⟩ : THistory) = h at *
  have hown : oc f h r = x ∧ ch h r = ⟨(i : Int), x.Hi⟩ := by
    rcases hch r hr with ⟨_, e⟩ | ⟨hne, _⟩
    · refine ⟨?_, e⟩
      unfold oc
      rw [e, hW]
      simp only [Int.toNat_natCast, ho.2.2, Option.getD_some]
    · exact absurd rfl hne
  have hrest : ∀ k, k < nrun f → k ≠ r → ∃ j : Nat, ∃ y, (wl f.Runners k w)[j]? = some y ∧ oc f h k = y ∧ ch h k = ⟨(j : Int), if y.Out = true then 0 else y.Lo⟩ ∧ can f r x k y = (wl f.Runners k w).any (can f r x k) := by
    intro k hk hne
    rcases hch k hk with ⟨e, _⟩ | ⟨_, j, y, h1, h2, h3⟩
    · exact absurd e hne
    · refine ⟨j, y, h1, ?_, h2, h3⟩
      unfold oc
      rw [h2, hW]
      simp only [Int.toNat_natCast, h1, Option.getD_some]
  obtain ⟨_, _, b1, b2, b3⟩ := hx.2 hxo
  have ha : Adm f h := by
    have hw := ho.1
    refine ⟨⟨by rw [hW']; omega, by rw [hW']; omega⟩, by rw [hW]; exact ho.2.1, hO, hC, fun k hk => ?_, fun a hA b hB => ?_, fun k hk => ?_⟩
    · rw [hoff k hk]
      have f1 := far_bound hf hk hv
      have f2 := far_bound hf (i := 0) (by omega) hv
      unfold wOff
      omega
    · rw [hoff a hA, hoff b hB]
      have f1 := far_tri hf hA hB hv
      unfold wOff
      omega
    · rw [hW]
      by_cases e : k = r
      · subst e
        obtain ⟨e1, e2⟩ := hown
        have hil : i < (wl f.Runners k w).length := (List.getElem?_eq_some_iff.1 ho.2.2).1
        rw [e1, e2]
        exact ⟨by dsimp only; omega, by dsimp only; omega, fun h => (by rw [hxo] at h; cases h), fun _ => ⟨by dsimp only; omega, by dsimp only; omega⟩⟩
      · obtain ⟨j, y, h1, h2, h3, _⟩ := hrest k hk e
        have hjl : j < (wl f.Runners k w).length := (List.getElem?_eq_some_iff.1 h1).1
        have hy := wl_ok hf hk hw y (List.mem_of_getElem? h1)
        rw [h2, h3]
        refine ⟨by dsimp only; omega, by dsimp only; omega, fun h => by dsimp only; rw [if_pos h], fun h => ?_⟩
        obtain ⟨_, _, c1, c2, c3⟩ := hy.2 h
        dsimp only
        rw [if_neg (by rw [h]; decide)]
        exact ⟨by omega, by omega⟩
  refine ⟨ha, ?_⟩
  unfold rank nWorst
  rw [hown.1, if_neg (by rw [hxo]; decide)]
  congr 1
  refine countP_eq_of fun k hk => ?_
  by_cases e : k = r
  · subst e
    rw [inFr_self (by rw [hown.1]; exact hxo)]
    unfold mayK; simp
  · obtain ⟨j, y, h1, h2, h3, h4⟩ := hrest k hk e
    have hy := wl_ok hf hk ho.1 y (List.mem_of_getElem? h1)
    have e1 : mayK f w r x k = (wl f.Runners k w).any (can f r x k) := by unfold mayK; simp [e]
    rw [e1, ← h4]
    unfold inFr can net
    rw [h2, h3, hown.1, hown.2, hxo]
    cases hyo : y.Out with
    | true => rfl
    | false =>
      have hvy := vr_lt hf hy hyo
      rw [hoff _ hv, hoff _ hvy]
      simp only [Bool.not_false, Bool.true_and, Bool.false_or, Bool.false_eq_true, if_false]
      congr 1
      have f1 := far_self hf hv
      unfold wOff
      omega

/-- The extreme histories, and what they say. -/
theorem Best_ok {f : TField} (hs : Small f) (hf : FieldOK f) {r : Nat} (hr : r < nrun f) {x : TRank} (hx : IsRank f r x) :
    (x.Kind = 3 ∧ m_ranks_Best f (r : Int) = some (⟨0, [], []⟩, false, 0)) ∨ (x.Kind ≠ 3 ∧ ∃ h, m_ranks_Best f (r : Int) = some (h, true, 0) ∧ Adm f h ∧ (rank f h r : Int) = x.Lo) := by
  obtain ⟨⟨a, b, rk, ok⟩, h3, h4⟩ := drive_best_eq hs hf hr
  unfold m_ranks_Best m_ranks_best m_ranks_extreme_with_ranks_best_2
  rw [ranks_check_eq hs (by simp), chk_pos hf, chk_pos (by simpa using inR_of hr), h3]
  simp only [some_bind, bne_self_eq_false, cond_false]
  rcases h4 with ⟨g1, g2⟩ | ⟨g1, ⟨w, i, y, g2, g3, g4, g5, g6⟩, g7⟩
  · dsimp only at g1
    subst g1
    left
    have e : x.Lo = 0 := hx.lo.uniq (.inl ⟨rfl, g2⟩)
    exact ⟨by rw [hx.kind, if_pos e], rfl⟩
  · dsimp only at g1 g4 g5 g6 g7
    subst g1 g4 g5
    right
    have e : x.Lo = rk := hx.lo.uniq (.inr ⟨⟨w, i, y, g2, g3, g6⟩, g7⟩)
    have := NB_pos f r w y
    obtain ⟨l, k1, k2⟩ := history_best_eq hs hf hr g2 g3 rk
    obtain ⟨k3, k4⟩ := best_adm hf hr g2 g3 k2
    refine ⟨?_, _, ?_, k3, ?_⟩
    · rw [hx.kind, if_neg (by omega)]; split <;> decide
    · rw [Bool.not_true, cond_false, k1]; rfl
    · rw [k4, e, g6]

theorem Worst_ok {f : TField} (hs : Small f) (hf : FieldOK f) {r : Nat} (hr : r < nrun f) {x : TRank} (hx : IsRank f r x) :
    (x.Kind = 3 ∧ m_ranks_Worst f (r : Int) = some (⟨0, [], []⟩, false, 0)) ∨ (x.Kind ≠ 3 ∧ ∃ h, m_ranks_Worst f (r : Int) = some (h, true, 0) ∧ Adm f h ∧ (rank f h r : Int) = x.Hi) := by
  obtain ⟨⟨a, b, rk, ok⟩, h3, h4⟩ := drive_worst_eq hs hf hr
  unfold m_ranks_Worst m_ranks_worst m_ranks_extreme_with_ranks_worst_2
  rw [ranks_check_eq hs (by simp), chk_pos hf, chk_pos (by simpa using inR_of hr), h3]
  simp only [some_bind, bne_self_eq_false, cond_false]
  rcases h4 with ⟨g1, g2⟩ | ⟨g1, ⟨w, i, y, g2, g3, g4, g5, g6⟩, g7⟩
  · dsimp only at g1
    subst g1
    left
    have e : x.Lo = 0 := hx.lo.uniq (.inl ⟨rfl, g2⟩)
    exact ⟨by rw [hx.kind, if_pos e], rfl⟩
  · dsimp only at g1 g4 g5 g6 g7
    subst g1 g4 g5
    right
    have e : x.Hi = rk := hx.hi.uniq (.inr ⟨⟨w, i, y, g2, g3, g6⟩, g7⟩)
    have hlo : x.Lo ≠ 0 := by
      rcases hx.lo with ⟨_, q⟩ | ⟨⟨w', i', x', _, _, q⟩, _⟩
      · rw [q _ _ _ g2] at g3; cases g3
      · have := NB_pos f r w' x'; omega
    obtain ⟨l, k1, k2⟩ := history_worst_eq hs hf hr g2 g3 rk
    obtain ⟨k3, k4⟩ := worst_adm hf hr g2 g3 k2
    refine ⟨?_, _, ?_, k3, ?_⟩
    · rw [hx.kind, if_neg hlo]; split <;> decide
    · rw [Bool.not_true, cond_false, k1]; rfl
    · rw [k4, e, g6]

theorem Best_err {f : TField} (hs : Small f) {a : Int} {e : Int} (he : e ≠ 0) {x : TRank} (h : m_ranks_Of f a = some (x, e)) : m_ranks_Best f a = some (⟨0, [], []⟩, false, e) ∧ m_ranks_Worst f a = some (⟨0, [], []⟩, false, e) := by
  unfold m_ranks_Of at h
  unfold m_ranks_Best m_ranks_best m_ranks_extreme_with_ranks_best_2 m_ranks_Worst m_ranks_worst m_ranks_extreme_with_ranks_worst_2
  rw [ranks_check_eq hs (by simp)] at h ⊢
  by_cases hf : FieldOK f
  · rw [chk_pos hf] at h ⊢
    by_cases ha : ∀ b, b ∈ [a] → InR f b
    · rw [chk_pos ha, some_bind] at h
      simp only [bne_self_eq_false, cond_false] at h
      obtain ⟨y, _, h⟩ := Option.bind_eq_some_iff.1 h
      cases h
      exact absurd rfl he
    · rw [chk_neg ha] at h ⊢
      cases h
      exact ⟨rfl, rfl⟩
  · rw [chk_neg hf] at h ⊢
    cases h
    exact ⟨rfl, rfl⟩

theorem chk_bool (p : Prop) : ∃ b, chk p false (some true) = some b ∧ (b = true ↔ p) := by
  by_cases h : p
  · exact ⟨true, chk_pos h, by simp [h]⟩
  · exact ⟨false, chk_neg h, by simp [h]⟩

theorem few16_eq {k : TClocks} (hw : wTClocks k) : ∃ b, m_stopwatchref16_Few k = some b ∧ (b = true → k.Segments.length ≤ 8 ∧ k.Far.length ≤ 10) := by
  obtain ⟨hsg, hfar⟩ := hw
  unfold m_stopwatchref16_Few
  rw [bif_dec, bif_dec]
  by_cases h1 : k.Segments.length ≤ 8
  · rw [if_neg (by omega)]
    by_cases h2 : k.Far.length ≤ 10
    · rw [if_neg (by omega), fuel_sub]
      obtain ⟨b, hb1, _⟩ := chk_bool (∀ i, i < k.Far.length → ∀ r, k.Far[i]? = some r → r.length ≤ 12)
      refine ⟨b, (chk_loop (N := k.Far.length) (f := fun n i => m_stopwatchref16_Few_L1 k m_stopwatchref16_Few_J2 n (i : Int)) (r := false) (k := some true) (ok := fun i => ∀ r, k.Far[i]? = some r → r.length ≤ 12) (fun n i hi => ?_) (fun n => ?_)).trans hb1, fun _ => ⟨h1, h2⟩⟩
      · show m_stopwatchref16_Few_L1 k m_stopwatchref16_Few_J2 (n + 1) (i : Int) = _
        have hx : k.Far[i]? = some k.Far[i] := by simp [hi]
        rw [m_stopwatchref16_Few_L1, dec_lt_nat, decide_eq_true hi, cond_true, idx_lt hi, some_bind, bif_dec, w64_succ (by omega), hx]
        generalize k.Far[i] = r
        simp only [Option.some.injEq, forall_eq']
        by_cases h3 : r.length ≤ 12
        · rw [if_neg (by omega), chk_pos h3]
        · rw [if_pos (by omega), chk_neg h3]
      · show m_stopwatchref16_Few_L1 k m_stopwatchref16_Few_J2 (n + 1) ((k.Far.length : Nat) : Int) = _
        rw [m_stopwatchref16_Few_L1]; simp [m_stopwatchref16_Few_J2]
    · rw [if_pos (by omega)]; exact ⟨false, rfl, fun h => by cases h⟩
  · rw [if_pos (by omega)]; exact ⟨false, rfl, fun h => by cases h⟩

theorem few24_L2 {x : TRunner} (hx : x.Worlds.length ≤ 5) (hl : ∀ w, w ∈ x.Worlds → w.length ≤ 140737488351232) {c : Int} (hc : 0 ≤ c ∧ c ≤ 6000000000000000) :
    ∃ s : Int, m_stopwatchref24_Few_L2 x (x.Worlds.length + 1) c 0 = some s ∧ c ≤ s ∧ s ≤ c + 5 * 140737488351232 ∧ ∀ w, w ∈ x.Worlds → (w.length : Int) ≤ s := by
  obtain ⟨s, h1, h2⟩ := inv_loop (N := x.Worlds.length) (f := fun n i (s : Int) => m_stopwatchref24_Few_L2 x n s (i : Int)) (k := some) (I := fun i s => c ≤ s ∧ s ≤ c + i * 140737488351232 ∧ ∀ j, j < i → ∀ w, x.Worlds[j]? = some w → (w.length : Int) ≤ s) (s0 := c) (fun i s hi hI => by
    obtain ⟨h1, h2, h3⟩ := hI
    have hw := hl _ (List.getElem_mem hi)
    refine ⟨s + ((x.Worlds[i]).length : Int), ⟨by omega, by have : ((i + 1 : Nat) : Int) = (i : Int) + 1 := rfl; rw [this]; omega, fun j hj w hjw => ?_⟩, fun n => ?_⟩
    · by_cases e : j = i
      · subst e
        rw [List.getElem?_eq_getElem hi] at hjw
        cases hjw
        omega
      · have := h3 j (by omega) w hjw
        omega
    · show m_stopwatchref24_Few_L2 x (n + 1) s (i : Int) = _
      rw [m_stopwatchref24_Few_L2, dec_lt_nat, decide_eq_true hi, cond_true, idx_lt hi, some_bind, w64_succ (by omega), w64_of (by omega) (by omega)]) (fun n s => by
    show m_stopwatchref24_Few_L2 x (n + 1) s ((x.Worlds.length : Nat) : Int) = _
    rw [m_stopwatchref24_Few_L2]; simp) ⟨by omega, by omega, fun j hj => absurd hj (by omega)⟩
  refine ⟨s, h1, h2.1, by have := h2.2.1; omega, fun w hw => ?_⟩
  obtain ⟨j, hj, rfl⟩ := List.mem_iff_getElem.1 hw
  exact h2.2.2 j hj _ (by simp [hj])

theorem few24_eq {f : TField} (hw : wTField f) : ∃ b, m_stopwatchref24_Few f = some b ∧ (b = true → Small f ∧ f.Runners.length ≤ 6 ∧ f.Pairs.length ≤ 3 ∧ f.Clocks.Segments.length ≤ 8 ∧ f.Clocks.Far.length ≤ 10 ∧ ∀ r, r ∈ f.Runners → r.Keys.length ≤ 8 ∧ r.Worlds.length ≤ 5 ∧ ∀ w, w ∈ r.Worlds → w.length ≤ 60) := by
  obtain ⟨hk, _, hrun⟩ := hw
  unfold m_stopwatchref24_Few
  rw [bif_dec, bif_dec]
  by_cases h1 : f.Runners.length ≤ 6
  · rw [if_neg (by omega)]
    by_cases h2 : f.Pairs.length ≤ 3
    · rw [if_neg (by omega)]
      obtain ⟨b, h3, h4⟩ := few16_eq hk
      rw [h3, some_bind]
      cases b with
      | false => exact ⟨false, rfl, fun h => by cases h⟩
      | true =>
        obtain ⟨h5, h6⟩ := h4 rfl
        simp only [Bool.not_true, cond_false]
        rw [fuel_sub]
        have key : ∀ c i n (s : Int), i + c = f.Runners.length → c ≤ n → 0 ≤ s → s ≤ i * (5 * 140737488351232) → (∀ j, j < i → ∀ r, f.Runners[j]? = some r → r.Keys.length ≤ 8 ∧ r.Worlds.length ≤ 5 ∧ ∀ w, w ∈ r.Worlds → (w.length : Int) ≤ s) →
            ∃ b, m_stopwatchref24_Few_L1 f m_stopwatchref24_Few_J3 (n + 1) s (i : Int) = some b ∧ (b = true → ∀ r, r ∈ f.Runners → r.Keys.length ≤ 8 ∧ r.Worlds.length ≤ 5 ∧ ∀ w, w ∈ r.Worlds → w.length ≤ 60) := by
          intro c
          induction c with
          | zero =>
            intro i n s h _ _ _ hI
            have : i = f.Runners.length := by omega
            subst this
            rw [m_stopwatchref24_Few_L1, dec_lt_nat, decide_eq_false (by omega), cond_false]
            refine ⟨_, rfl, fun hb r hr => ?_⟩
            have hs : s ≤ 60 := by simpa using hb
            obtain ⟨j, hj, rfl⟩ := List.mem_iff_getElem.1 hr
            obtain ⟨a, b, c⟩ := hI j hj _ (List.getElem?_eq_getElem hj)
            exact ⟨a, b, fun w hw => by have := c w hw; omega⟩
          | succ c ih =>
            intro i n s h hn hs0 hs1 hI
            obtain ⟨n, rfl⟩ : ∃ n', n = n' + 1 := ⟨n - 1, by omega⟩
            have hi : i < f.Runners.length := by omega
            have hrw := hrun.2 _ (List.getElem_mem hi)
            rw [m_stopwatchref24_Few_L1, dec_lt_nat, decide_eq_true hi, cond_true, idx_lt hi, some_bind, bif_dec, bif_dec, fuel_sub]
            have hx : f.Runners[i]? = some f.Runners[i] := by simp [hi]
            generalize f.Runners[i] = r at hx hrw
            by_cases g1 : r.Keys.length ≤ 8
            · rw [if_neg (by omega)]
              by_cases g2 : r.Worlds.length ≤ 5
              · rw [if_neg (by omega)]
                obtain ⟨s', k1, k2, k3, k4⟩ := few24_L2 g2 (fun w hw => (hrw.2.2.2 w hw).1) (c := s) ⟨hs0, by omega⟩
                rw [k1, some_bind, w64_succ (by omega)]
                refine ih (i + 1) n s' (by omega) (by omega) (by omega) (by have : ((i + 1 : Nat) : Int) = (i : Int) + 1 := rfl; rw [this]; omega) fun j hj q hq => ?_
                by_cases e : j = i
                · subst e
                  rw [hx] at hq; cases hq
                  exact ⟨g1, g2, k4⟩
                · obtain ⟨a, b, c⟩ := hI j (by omega) q hq
                  exact ⟨a, b, fun w hw => by have := c w hw; omega⟩
              · rw [if_pos (by omega)]; exact ⟨false, rfl, fun h => by cases h⟩
            · rw [if_pos (by omega)]; exact ⟨false, rfl, fun h => by cases h⟩
        obtain ⟨b, g1, g2⟩ := key f.Runners.length 0 f.Runners.length 0 (by omega) (by omega) (by omega) (by omega) (fun j hj => absurd hj (by omega))
        refine ⟨b, g1, fun hb => ?_⟩
        have g3 := g2 hb
        exact ⟨⟨by omega, by omega, by omega, fun r hr => by
          obtain ⟨a, b, c⟩ := g3 r hr
          exact ⟨by omega, by omega, fun w hw => by have := c w hw; omega⟩⟩, h1, h2, h5, h6, g3⟩
    · rw [if_pos (by omega)]; exact ⟨false, rfl, fun h => by cases h⟩
  · rw [if_pos (by omega)]; exact ⟨false, rfl, fun h => by cases h⟩

/-! What is admissible, by the program. -/

theorem containsH_eq {l : List TRunner} {w : Nat} (hl : l.length ≤ 1000000) (hw : ∀ r, r ∈ l → w < r.Worlds.length) : ∃ b, m_slices_ContainsFunc_Runner_Runner_with_history_possible_1 l (w : Int) = some b ∧ (b = true ↔ ¬Poss l w) := by
  unfold m_slices_ContainsFunc_Runner_Runner_with_history_possible_1 m_slices_IndexFunc_Runner_Runner_with_history_possible_1
  rw [fuel_sub]
  obtain ⟨r, h1, h2⟩ := find_loop (N := l.length) (f := fun n i => m_slices_IndexFunc_Runner_Runner_with_history_possible_1_L1 l (w : Int) m_slices_IndexFunc_Runner_Runner_with_history_possible_1_J2 n (i : Int)) (p := fun i => (wl l i w).length = 0) (fun n i hi => by
    show m_slices_IndexFunc_Runner_Runner_with_history_possible_1_L1 l (w : Int) _ (n + 1) (i : Int) = _
    rw [m_slices_IndexFunc_Runner_Runner_with_history_possible_1_L1, dec_lt_nat, decide_eq_true hi, cond_true, idx_lt hi, some_bind, w64_succ (by omega)]
    unfold m_history_possible_1
    rw [wl_get hi (hw _ (List.getElem_mem hi)), some_bind, some_bind, bif_eq]
    by_cases h : (wl l i w).length = 0
    · rw [if_pos h, if_pos (by omega)]
    · rw [if_neg h, if_neg (by omega)]) (fun n => by
    show m_slices_IndexFunc_Runner_Runner_with_history_possible_1_L1 l (w : Int) _ (n + 1) ((l.length : Nat) : Int) = _
    rw [m_slices_IndexFunc_Runner_Runner_with_history_possible_1_L1]
    simp [m_slices_IndexFunc_Runner_Runner_with_history_possible_1_J2])
  refine ⟨decide (r ≥ 0), ?_, ?_⟩
  · have h1 : m_slices_IndexFunc_Runner_Runner_with_history_possible_1_L1 l (w : Int) m_slices_IndexFunc_Runner_Runner_with_history_possible_1_J2 (l.length + 1) 0 = some r := h1
    rw [h1]; rfl
  · rw [decide_eq_true_iff, h2]
    unfold Poss
    simp only [Classical.not_forall, Classical.not_not, exists_prop]

theorem containsA_eq {l : List Int} (hl : l.length ≤ 1000000) : ∃ b, m_slices_ContainsFunc_int_int_with_history_aligned_1 l = some b ∧ (b = true ↔ ¬∀ i, i < l.length → Entry ((l[i]?).getD 0)) := by
  unfold m_slices_ContainsFunc_int_int_with_history_aligned_1 m_slices_IndexFunc_int_int_with_history_aligned_1
  rw [fuel_sub]
  obtain ⟨r, h1, h2⟩ := find_loop (N := l.length) (f := fun n i => m_slices_IndexFunc_int_int_with_history_aligned_1_L1 l m_slices_IndexFunc_int_int_with_history_aligned_1_J2 n (i : Int)) (p := fun j => ¬Entry ((l[j]?).getD 0)) (fun n i hi => by
    show m_slices_IndexFunc_int_int_with_history_aligned_1_L1 l _ (n + 1) (i : Int) = _
    rw [m_slices_IndexFunc_int_int_with_history_aligned_1_L1, dec_lt_nat, decide_eq_true hi, cond_true, idx_lt hi, some_bind, w64_succ (by omega)]
    have hx : (l[i]?).getD 0 = l[i] := by simp [hi]
    rw [hx]
    generalize l[i] = w
    unfold m_history_aligned_1 Entry
    rw [bif_dec]
    by_cases h1 : w < -2199023255552
    · rw [if_pos h1, some_bind, cond_true, if_pos (by omega)]
    · rw [if_neg h1, some_bind, bif_dec]
      by_cases h2 : w > 2199023255552
      · rw [if_pos h2, if_pos (by omega)]
      · rw [if_neg h2, if_neg (by omega)]) (fun n => by
    show m_slices_IndexFunc_int_int_with_history_aligned_1_L1 l _ (n + 1) ((l.length : Nat) : Int) = _
    rw [m_slices_IndexFunc_int_int_with_history_aligned_1_L1]
    simp [m_slices_IndexFunc_int_int_with_history_aligned_1_J2])
  refine ⟨decide (r ≥ 0), ?_, ?_⟩
  · have h1 : m_slices_IndexFunc_int_int_with_history_aligned_1_L1 l m_slices_IndexFunc_int_int_with_history_aligned_1_J2 (l.length + 1) 0 = some r := h1
    rw [h1]; rfl
  · rw [decide_eq_true_iff, h2]
    simp only [Classical.not_forall, exists_prop]

theorem aligned_L2 {f : TField} (hf : FieldOK f) {l : List Int} {kk : Unit → Option Bool} (hl : l.length = nseg f + 1) (hb : ∀ i, i < l.length → Entry ((l[i]?).getD 0)) {i : Nat} (hi : i < nseg f + 1) {row : List Int} (hr : f.Clocks.Far[i]? = some row) (hrl : row.length = nseg f + 1) : m_history_aligned_L2 l (i : Int) row kk (row.length + 1) 0 = chk (∀ k, k < row.length → (l[k]?).getD 0 - (l[i]?).getD 0 ≤ far f i k) false (kk ()) := by
  refine chk_loop (f := fun n k => m_history_aligned_L2 l (i : Int) row kk n (k : Int)) (fun n k hk => ?_) (fun n => ?_)
  · show m_history_aligned_L2 l (i : Int) row kk (n + 1) (k : Int) = _
    have hi' : i < l.length := by omega
    have hk' : k < l.length := by omega
    have e1 : (l[i]?).getD 0 = l[i] := by simp [hi']
    have e2 : (l[k]?).getD 0 = l[k] := by simp [hk']
    have b1 := hb i hi'
    have b2 := hb k hk'
    have hsg : nseg f ≤ 511 := hf.clocks.few
    rw [m_history_aligned_L2, dec_lt_nat, decide_eq_true hk, cond_true, idx2 hr hk, some_bind, idx_lt hk', some_bind, idx_lt hi', some_bind, w64_succ (by omega), bif_dec, e1, e2]
    rw [e1] at b1
    rw [e2] at b2
    unfold Entry at b1 b2
    rw [w64_of (by omega) (by omega)]
    by_cases h1 : l[k] - l[i] > far f i k
    · rw [if_pos h1, chk_neg (by omega)]
    · rw [if_neg h1, chk_pos (by omega)]
  · show m_history_aligned_L2 l (i : Int) row kk (n + 1) ((row.length : Nat) : Int) = _
    rw [m_history_aligned_L2]; simp

theorem aligned_L1 {f : TField} (hf : FieldOK f) {l : List Int} {kk : Unit → Option Bool} (hl : l.length = nseg f + 1) (hb : ∀ i, i < l.length → Entry ((l[i]?).getD 0)) : m_history_aligned_L1 f.Clocks l kk (f.Clocks.Far.length + 1) 0 = chk (∀ i, i < l.length → ∀ k, k < l.length → (l[k]?).getD 0 - (l[i]?).getD 0 ≤ far f i k) false (kk ()) := by
  have hfl := hf.clocks.far
  have hE : l.length = f.Clocks.Far.length := by rw [hfl, hl]
  rw [← hE]
  refine chk_loop (f := fun n i => m_history_aligned_L1 f.Clocks l kk n (i : Int)) (fun n i hi => ?_) (fun n => ?_)
  · show m_history_aligned_L1 f.Clocks l kk (n + 1) (i : Int) = _
    have hsg : nseg f ≤ 511 := hf.clocks.few
    have hi' : i < f.Clocks.Far.length := by omega
    have hi2 : i < nseg f + 1 := by omega
    obtain ⟨row, h1, h2, h3⟩ := rows_get hf.clocks.row hf.clocks.far hi2
    rw [m_history_aligned_L1, dec_lt_nat, decide_eq_true hi', cond_true, h2, some_bind, fuel_sub, aligned_L2 hf hl hb hi2 h1 h3]
    show chk _ _ (m_history_aligned_L1 f.Clocks l kk n (w64 ((i : Int) + 1))) = _
    rw [w64_succ (by omega), h3, hl]
  · show m_history_aligned_L1 f.Clocks l kk (n + 1) ((l.length : Nat) : Int) = _
    rw [hE, m_history_aligned_L1]; simp

/-- Offsets that are possible. -/
def Offs (f : TField) (h : THistory) : Prop := (∀ i, i < nseg f + 1 → -1125899906842624 ≤ off h i ∧ off h i ≤ 1125899906842624) ∧ ∀ i, i < nseg f + 1 → ∀ k, k < nseg f + 1 → off h k - off h i ≤ far f i k

theorem aligned_eq {f : TField} (hf : FieldOK f) {h : THistory} (ho : h.Offsets.length = nseg f) : ∃ b, m_history_aligned f.Clocks h.Offsets = some b ∧ (b = true ↔ Offs f h) := by
  have hsg : nseg f ≤ 511 := hf.clocks.few
  unfold m_history_aligned
  rw [app_ok (by simp [ho]; omega) (by simp [ho]; omega), some_bind, show ([0] ++ h.Offsets) = 0 :: h.Offsets from rfl]
  have hl : (0 :: h.Offsets).length = nseg f + 1 := by simp [ho]
  obtain ⟨b, h1, h2⟩ := containsA_eq (l := 0 :: h.Offsets) (by omega)
  rw [h1, some_bind]
  have h0 : off h 0 = 0 := rfl
  have hE : (∀ i, i < (0 :: h.Offsets).length → Entry (((0 :: h.Offsets)[i]?).getD 0)) ↔ ∀ i, i < nseg f + 1 → Entry (off h i) := by rw [hl]; rfl
  cases b with
  | true =>
    refine ⟨false, rfl, ?_⟩
    have h3 := h2.1 rfl
    rw [hE] at h3
    constructor
    · intro h; cases h
    · rintro ⟨_, h4⟩
      refine absurd (fun i hi => ?_) h3
      have a1 := h4 0 (by omega) i hi
      have a2 := h4 i hi 0 (by omega)
      have b1 := far_bound hf (i := 0) (j := i) (by omega) hi
      have b2 := far_bound hf (i := i) (j := 0) hi (by omega)
      unfold Entry
      omega
  | false =>
    have h3 : ∀ i, i < (0 :: h.Offsets).length → Entry (((0 :: h.Offsets)[i]?).getD 0) := Classical.byContradiction fun hh => by simpa using h2.2 hh
    rw [cond_false, fuel_sub, aligned_L1 hf hl h3, hl]
    unfold m_history_aligned_J4
    have hO : (∀ i, i < nseg f + 1 → ∀ k, k < nseg f + 1 → ((0 :: h.Offsets)[k]?).getD 0 - ((0 :: h.Offsets)[i]?).getD 0 ≤ far f i k) ↔ Offs f h := by
      constructor
      · intro h4
        refine ⟨fun i hi => ?_, h4⟩
        have := hE.1 h3 i hi
        unfold Entry at this
        omega
      · exact fun h4 => h4.2
    by_cases h4 : Offs f h
    · exact ⟨true, chk_pos (hO.2 h4), by simp [h4]⟩
    · exact ⟨false, chk_neg (fun h5 => h4 (hO.1 h5)), by simp [h4]⟩

theorem sane26_true : m_stopwatchlaw26_sane = some true := by kernel_rfl

def ChOK (f : TField) (h : THistory) (k : Nat) : Prop := 0 ≤ (ch h k).Outcome ∧ (ch h k).Outcome < (wl f.Runners k h.World.toNat).length ∧ ((oc f h k).Out = true → (ch h k).X = 0) ∧ ((oc f h k).Out = false → (oc f h k).Lo ≤ (ch h k).X ∧ (ch h k).X ≤ (oc f h k).Hi)

theorem outcomes_eq {f : TField} (hf : FieldOK f) {h : THistory} (hw : 0 ≤ h.World ∧ h.World < npair f + 1) {k : Nat} (hk : k < nrun f) : m_history_view_outcomes ⟨f, h⟩ (k : Int) = some (wl f.Runners k h.World.toNat) := by
  obtain ⟨_, hm⟩ := wl_mem hf hk (w := h.World.toNat) (by have : h.World < (npair f : Int) + 1 := hw.2; show _ < npair f + 1; omega)
  have ew : (h.World.toNat : Int) = h.World := by omega
  rw [ew] at hm
  unfold m_history_view_outcomes
  dsimp only
  rw [idx_lt hk, some_bind, hm, some_bind]

theorem outcomeV_eq {f : TField} (hf : FieldOK f) {h : THistory} (hw : 0 ≤ h.World ∧ h.World < npair f + 1) {k : Nat} (hk : k < nrun f) (hc : k < h.Choices.length) (h0 : 0 ≤ (ch h k).Outcome) (h1 : (ch h k).Outcome < (wl f.Runners k h.World.toNat).length) : m_history_view_outcome ⟨f, h⟩ (k : Int) = some (oc f h k) := by
  have e : (ch h k).Outcome = ((ch h k).Outcome.toNat : Int) := by omega
  have h3 : (ch h k).Outcome.toNat < (wl f.Runners k h.World.toNat).length := by omega
  unfold m_history_view_outcome
  rw [outcomes_eq hf hw hk, some_bind]
  dsimp only
  rw [idx_lt hc, some_bind, ch_get hc, e, idx_lt h3, some_bind]
  unfold oc
  simp [h3]

theorem open_L1 {f : TField} (hs : Small f) (hf : FieldOK f) {h : THistory} (hw : 0 ≤ h.World ∧ h.World < npair f + 1) (hc : h.Choices.length = nrun f) : m_history_open_L1 f h (m_history_open_J2 f h) (h.Choices.length + 1) 0 = chk (∀ k, k < h.Choices.length → ChOK f h k) (⟨f, h⟩, 260) (some (⟨f, h⟩, 0)) := by
  refine chk_loop (f := fun n i => m_history_open_L1 f h (m_history_open_J2 f h) n (i : Int)) (fun n i hi => ?_) (fun n => ?_)
  · show m_history_open_L1 f h (m_history_open_J2 f h) (n + 1) (i : Int) = _
    have hlen : nrun f ≤ 1000000 := hs.runners
    have hi' : i < nrun f := by omega
    rw [m_history_open_L1, dec_lt_nat, decide_eq_true hi, cond_true, idx_lt hi, some_bind, w64_succ (by omega), ch_get hi, bif_dec]
    unfold ChOK
    by_cases h1 : (ch h i).Outcome < 0
    · rw [if_pos h1, chk_neg (by omega)]
    · rw [if_neg h1, outcomes_eq hf hw hi', some_bind, bif_dec]
      by_cases h2 : (ch h i).Outcome ≥ ((wl f.Runners i h.World.toNat).length : Int)
      · rw [if_pos h2, chk_neg (by omega)]
      · rw [if_neg h2, outcomeV_eq hf hw hi' hi (by omega) (by omega), some_bind]
        generalize oc f h i = x
        cases hx : x.Out with
        | true =>
          rw [cond_true, bif_dec, bif_dec]
          by_cases h5 : (ch h i).X < 0
          · rw [if_pos h5, chk_neg (fun hh => by have := hh.2.2.1 rfl; omega)]
          · rw [if_neg h5]
            by_cases h6 : (ch h i).X > 0
            · rw [if_pos h6, chk_neg (fun hh => by have := hh.2.2.1 rfl; omega)]
            · rw [if_neg h6, chk_pos ⟨by omega, by omega, fun _ => by omega, fun hh => by cases hh⟩]
        | false =>
          rw [cond_false, bif_dec, bif_dec]
          by_cases h5 : (ch h i).X < x.Lo
          · rw [if_pos h5, chk_neg (fun hh => by have := hh.2.2.2 rfl; omega)]
          · rw [if_neg h5]
            by_cases h6 : (ch h i).X > x.Hi
            · rw [if_pos h6, chk_neg (fun hh => by have := hh.2.2.2 rfl; omega)]
            · rw [if_neg h6, chk_pos ⟨by omega, by omega, fun hh => (by cases hh), fun _ => ⟨by omega, by omega⟩⟩]
  · show m_history_open_L1 f h (m_history_open_J2 f h) (n + 1) ((h.Choices.length : Nat) : Int) = _
    rw [m_history_open_L1]; simp [m_history_open_J2]

def zview : Thistory_view := ⟨⟨⟨[], []⟩, [], []⟩, ⟨0, [], []⟩⟩

theorem open_eq {f : TField} (hs : Small f) (h : THistory) : m_history_open f h = chk (FieldOK f) (zview, 240) (chk (Adm f h) (⟨f, h⟩, 260) (some (⟨f, h⟩, 0))) := by
  unfold m_history_open
  rw [field_Check_eq hs]
  by_cases hf : FieldOK f
  · rw [chk_pos hf, chk_pos hf, some_bind]
    simp only [bne_self_eq_false, cond_false]
    have hsp : npair f ≤ 1000 := hs.pairs
    have hsr := hs.runners
    by_cases h1 : 0 ≤ h.World ∧ h.World < npair f + 1
    · have hwn : h.World.toNat < npair f + 1 := by omega
      have ew : h.World = (h.World.toNat : Int) := by omega
      obtain ⟨b, hb1, hb2⟩ := containsH_eq (l := f.Runners) (w := h.World.toNat) hsr (fun r hr => by rw [worlds_of hf.runner r hr]; exact hwn)
      rw [← ew] at hb1
      have e1 : decide (h.World < 0) = false := by simp; omega
      have e2 : decide (h.World > (f.Pairs.length : Int)) = false := by
        have : ((npair f : Nat) : Int) = (f.Pairs.length : Int) := rfl
        simp; omega
      rw [e1, e2]
      unfold m_history_possible
      simp only [cond_false, hb1, some_bind]
      by_cases h2 : Poss f.Runners h.World.toNat
      · have : b = false := by
          cases b with
          | false => rfl
          | true => exact absurd h2 (hb2.1 rfl)
        subst this
        simp only [Bool.not_false, Bool.not_true, cond_false, bif_ne]
        by_cases h3 : h.Offsets.length = nseg f
        · rw [if_pos (show (h.Offsets.length : Int) = (f.Clocks.Segments.length : Int) by rw [h3])]
          by_cases h4 : h.Choices.length = nrun f
          · rw [if_pos (show (h.Choices.length : Int) = (f.Runners.length : Int) by rw [h4])]
            obtain ⟨c, hc1, hc2⟩ := aligned_eq hf h3
            rw [hc1]
            cases c with
            | false =>
              rw [chk_neg (fun ha : Adm f h => by have := hc2.2 ⟨ha.small, ha.tri⟩; cases this)]
              rfl
            | true =>
              have hO := hc2.1 rfl
              simp only [some_bind, Bool.not_true, cond_false]
              rw [fuel_sub, open_L1 hs hf h1 h4]
              refine chk_congr ⟨fun hC => ⟨h1, h2, h3, h4, hO.1, hO.2, fun k hk => hC k (by omega)⟩, fun ha k hk => ha.choice k (by omega)⟩ fun _ => rfl
          · rw [if_neg (show ¬(h.Choices.length : Int) = (f.Runners.length : Int) from fun e => h4 (by have : (h.Choices.length : Int) = (nrun f : Int) := e; omega)), chk_neg (fun ha : Adm f h => h4 ha.chs)]
            rfl
        · rw [if_neg (show ¬(h.Offsets.length : Int) = (f.Clocks.Segments.length : Int) from fun e => h3 (by have : (h.Offsets.length : Int) = (nseg f : Int) := e; omega)), chk_neg (fun ha : Adm f h => h3 ha.offs)]
          rfl
      · have : b = true := hb2.2 h2
        subst this
        rw [chk_neg (fun ha : Adm f h => h2 ha.poss)]
        rfl
    · rw [chk_neg (fun ha : Adm f h => h1 ha.world)]
      by_cases e : h.World < 0
      · rw [decide_eq_true e]; rfl
      · have e2 : decide (h.World > (f.Pairs.length : Int)) = true := by
          have : ((npair f : Nat) : Int) = (f.Pairs.length : Int) := rfl
          simp; omega
        rw [decide_eq_false e, e2]; rfl
  · rw [chk_neg hf, chk_neg hf]
    rfl

theorem netV_eq {f : TField} (hf : FieldOK f) {h : THistory} (ha : Adm f h) {k : Nat} (hk : k < nrun f) : m_history_view_net ⟨f, h⟩ (k : Int) = some (if (oc f h k).Out = true then (0, false) else (net f h k, true)) := by
  have hc : k < h.Choices.length := by rw [ha.chs]; exact hk
  obtain ⟨h1, h2, _⟩ := ha.choice k hk
  unfold m_history_view_net
  rw [outcomeV_eq hf ha.world hk hc h1 h2, some_bind]
  cases hxo : (oc f h k).Out with
  | true => rfl
  | false =>
    have hx := oc_ok hf ha hk
    have hb := net_bound hf ha hk hxo
    obtain ⟨g1, g2, _⟩ := hx.2 hxo
    unfold net at hb
    dsimp only
    rw [cond_false, ch_idx ha hk, some_bind, bif_dec]
    have ho : off h (vr (oc f h k)) = if (oc f h k).Seg ≥ 0 then off h ((oc f h k).Seg.toNat + 1) else 0 := by
      unfold vr
      by_cases h3 : (oc f h k).Seg ≥ 0
      · rw [if_pos h3]; congr 1; omega
      · rw [if_neg h3]
        have : ((oc f h k).Seg + 1).toNat = 0 := by omega
        rw [this]; rfl
    by_cases h3 : (oc f h k).Seg ≥ 0
    · have e2 : (oc f h k).Seg = ((oc f h k).Seg.toNat : Int) := by omega
      rw [if_pos h3] at ho ⊢
      have h4 : (oc f h k).Seg.toNat < nseg f := by
        have : (oc f h k).Seg < (nseg f : Int) := g2
        omega
      have h5 := off_idx ha h4
      rw [← e2] at h5
      rw [h5, some_bind, ← ho, w64_of (by omega) (by omega)]
      rfl
    · rw [if_neg h3] at ho ⊢
      rw [if_neg (by decide)]
      unfold net
      rw [ho]
      simp

/-- The runners with a net time, and the times. -/
def tm (f : TField) (h : THistory) (i : Nat) : Option Thistory_pair_int_int := if (oc f h i).Out = true then none else some ⟨(i : Int), net f h i⟩

def tms (f : TField) (h : THistory) (n : Nat) : List Thistory_pair_int_int := (List.range n).filterMap (tm f h)

theorem tms_succ (f : TField) (h : THistory) (n : Nat) : tms f h (n + 1) = tms f h n ++ (tm f h n).toList := by
  unfold tms
  rw [List.range_succ, List.filterMap_append]
  cases hq : tm f h n <;> simp [List.filterMap_cons, hq]

theorem tms_len (f : TField) (h : THistory) (n : Nat) : (tms f h n).length ≤ n := by
  unfold tms
  have := List.length_filterMap_le (tm f h) (List.range n)
  simpa using this

theorem tms_mem {f : TField} {h : THistory} {n : Nat} {p : Thistory_pair_int_int} (hp : p ∈ tms f h n) : ∃ i, i < n ∧ (oc f h i).Out = false ∧ p = ⟨(i : Int), net f h i⟩ := by
  unfold tms at hp
  obtain ⟨i, h1, h2⟩ := List.mem_filterMap.1 hp
  unfold tm at h2
  cases hx : (oc f h i).Out with
  | true => rw [hx] at h2; simp at h2
  | false => rw [hx] at h2; simp at h2; exact ⟨i, by simpa using h1, hx, h2.symm⟩

theorem times_eq {f : TField} (hs : Small f) (hf : FieldOK f) {h : THistory} (ha : Adm f h) : m_history_view_times ⟨f, h⟩ = some (tms f h (nrun f)) := by
  have hlen : nrun f ≤ 1000000 := hs.runners
  unfold m_history_view_times
  rw [fuel_sub]
  obtain ⟨s, h1, h2⟩ := inv_loop (N := nrun f) (f := fun n i l => m_history_view_times_L1 ⟨f, h⟩ n (i : Int) l) (k := some) (I := fun i l => l = tms f h i) (s0 := []) (fun i l hi hI => by
    refine ⟨_, rfl, fun n => ?_⟩
    subst hI
    have hl := tms_len f h i
    show m_history_view_times_L1 ⟨f, h⟩ (n + 1) (i : Int) (tms f h i) = _
    rw [m_history_view_times_L1]
    dsimp only
    rw [dec_lt_nat, decide_eq_true hi, cond_true, netV_eq hf ha hi, w64_succ (by omega), tms_succ]
    unfold tm
    cases (oc f h i).Out with
    | true => simp
    | false =>
      simp only [some_bind, Bool.false_eq_true, if_false, cond_true, Option.toList_some]
      rw [app_ok (by simp; omega) (by simp; omega), some_bind]) (fun n l => by
    show m_history_view_times_L1 ⟨f, h⟩ (n + 1) ((nrun f : Nat) : Int) l = _
    rw [m_history_view_times_L1]
    simp) rfl
  replace h1 : m_history_view_times_L1 ⟨f, h⟩ (f.Runners.length + 1) 0 [] = some s := h1
  dsimp only
  rw [h1, h2]; rfl

theorem compareV_eq {f : TField} (hs : Small f) {h : THistory} {a b : Nat} (ha : a < nrun f) (hb : b < nrun f) (p q : Int) : ∃ r, m_history_view_compare ⟨f, h⟩ ⟨(a : Int), p⟩ ⟨(b : Int), q⟩ = some r ∧ decide (r < 0) = front f a b (p - q) := by
  unfold m_history_view_compare front
  obtain ⟨c, g3, g4⟩ := Compare_lt (keys f a) (keys f b) (keys_len hs ha)
  simp only [cmp_eq, some_bind, idx_lt ha, idx_lt hb, keys_get, g3, or2_eq]
  refine ⟨_, rfl, ?_⟩
  rw [← g4]
  by_cases h1 : p < q
  · have e : p - q < 0 := by omega
    simp [h1, e]
  · by_cases h2 : q < p
    · have e1 : ¬(p - q < 0) := by omega
      have e2 : ¬(p - q = 0) := by omega
      simp [h1, h2, e1, e2]
    · have e : p = q := by omega
      subst e
      simp

theorem histRank_L1 {f : TField} (hs : Small f) {h : THistory} {r : Nat} (hr : r < nrun f) : m_history_Rank_L1 (r : Int) ⟨f, h⟩ (net f h r) (tms f h (nrun f)) ((tms f h (nrun f)).length + 1) 0 0 = some (((tms f h (nrun f)).countP fun p => front f p.first.toNat r (p.second - net f h r) : Nat) : Int) := by
  have hlen : nrun f ≤ 1000000 := hs.runners
  have htl := tms_len f h (nrun f)
  have hmem : ∀ p, p ∈ tms f h (nrun f) → ∃ i, i < nrun f ∧ p = ⟨(i : Int), net f h i⟩ := fun p hp => by
    obtain ⟨i, h1, _, h2⟩ := tms_mem hp; exact ⟨i, h1, h2⟩
  generalize tms f h (nrun f) = l at htl hmem
  obtain ⟨s, h1, h2⟩ := inv_loop (N := l.length) (f := fun n i c => m_history_Rank_L1 (r : Int) ⟨f, h⟩ (net f h r) l n c (i : Int)) (k := some) (I := fun i c => c = (((l.take i).countP fun p => front f p.first.toNat r (p.second - net f h r) : Nat) : Int)) (s0 := 0) (fun i c hi hI => by
    refine ⟨_, rfl, fun n => ?_⟩
    show m_history_Rank_L1 (r : Int) ⟨f, h⟩ (net f h r) l (n + 1) c (i : Int) = _
    obtain ⟨k, hk, hkp⟩ := hmem _ (List.getElem_mem hi)
    obtain ⟨x, hx1, hx2⟩ := compareV_eq hs (h := h) hk hr (net f h k) (net f h r)
    have hle := List.countP_le_length (p := fun p : Thistory_pair_int_int => front f p.first.toNat r (p.second - net f h r)) (l := l.take i)
    have hle2 : (l.take i).length ≤ i := by simp; omega
    rw [m_history_Rank_L1, dec_lt_nat, decide_eq_true hi, cond_true, idx_lt hi, some_bind, hkp, hx1, some_bind, hx2, w64_succ (by omega), hI, List.take_succ_eq_append_getElem hi, List.countP_append, hkp]
    generalize (l.take i).countP _ = q at hle
    rw [w64_of (n := (q : Int) + 1) (by omega) (by omega)]
    simp only [List.countP_cons, List.countP_nil, Int.toNat_natCast]
    by_cases hb : front f k r (net f h k - net f h r) = true
    · simp [hb]
    · simp [hb]) (fun n c => by
    show m_history_Rank_L1 (r : Int) ⟨f, h⟩ (net f h r) l (n + 1) c ((l.length : Nat) : Int) = _
    rw [m_history_Rank_L1]; simp) (by simp)
  rw [h2, List.take_length] at h1
  exact h1

theorem count_tms {f : TField} {h : THistory} {r : Nat} (hxo : (oc f h r).Out = false) (n : Nat) : (tms f h n).countP (fun p => front f p.first.toNat r (p.second - net f h r)) = (List.range n).countP fun k => inFr f h k r := by
  induction n with
  | zero => rfl
  | succ n ih =>
    rw [tms_succ, List.countP_append, ih, List.range_succ, List.countP_append]
    congr 1
    unfold tm inFr
    cases hx : (oc f h n).Out with
    | true => simp [hx]
    | false => simp [hxo, hx, List.countP_cons]

theorem histOf_eq {f : TField} (hs : Small f) (h : THistory) (r : Int) : m_history_of f h r = chk (FieldOK f) (zview, 240) (chk (Adm f h) (⟨f, h⟩, 260) (chk (InR f r) (⟨f, h⟩, 250) (some (⟨f, h⟩, 0)))) := by
  unfold m_history_of
  rw [open_eq hs]
  by_cases hf : FieldOK f
  · rw [chk_pos hf, chk_pos hf]
    by_cases ha : Adm f h
    · rw [chk_pos ha, chk_pos ha]
      simp only [some_bind, beq_self_eq_true, cond_true, bif_dec]
      unfold InR
      by_cases h1 : r < 0
      · rw [if_pos h1, chk_neg (by omega)]
      · rw [if_neg h1]
        by_cases h2 : r ≥ (f.Runners.length : Int)
        · rw [if_pos h2, chk_neg (by omega)]
        · rw [if_neg h2, chk_pos (by omega)]
    · rw [chk_neg ha, chk_neg ha]; rfl
  · rw [chk_neg hf, chk_neg hf]; rfl

theorem histRank_eq {f : TField} (hs : Small f) (h : THistory) (a : Int) : m_history_Rank f h a = chk (FieldOK f) (0, 240) (chk (Adm f h) (0, 260) (chk (InR f a) (0, 250) (some ((rank f h a.toNat : Int), 0)))) := by
  have hlen : nrun f ≤ 1000000 := hs.runners
  unfold m_history_Rank
  rw [histOf_eq hs]
  by_cases hf : FieldOK f
  · rw [chk_pos hf, chk_pos hf]
    by_cases ha : Adm f h
    · rw [chk_pos ha, chk_pos ha]
      by_cases hr : InR f a
      · rw [chk_pos hr, chk_pos hr]
        obtain ⟨r, rfl, hr'⟩ := inR_nat hr
        simp only [some_bind, bne_self_eq_false, cond_false, netV_eq hf ha hr', Int.toNat_natCast]
        unfold rank
        cases hxo : (oc f h r).Out with
        | true => rfl
        | false =>
          have hc := count_le (N := nrun f) (p := fun k => inFr f h k r)
          simp only [Bool.false_eq_true, if_false, Bool.not_true, cond_false, times_eq hs hf ha, some_bind, fuel_sub, histRank_L1 hs hr', count_tms hxo]
          rw [w64_of (by omega) (by omega), Int.natCast_add, Int.add_comm]
          rfl
      · rw [chk_neg hr, chk_neg hr]; rfl
    · rw [chk_neg ha, chk_neg ha]; rfl
  · rw [chk_neg hf, chk_neg hf]; rfl

theorem Of_some {f : TField} (hs : Small f) (hf : FieldOK f) {r : Nat} (hr : r < nrun f) : ∃ x, m_ranks_Of f (r : Int) = some (x, 0) ∧ IsRank f r x := by
  obtain ⟨x, h1, h2⟩ := of_eq hs hf hr
  refine ⟨x, ?_, h2⟩
  unfold m_ranks_Of
  rw [ranks_check_eq hs (by simp), chk_pos hf, chk_pos (by simpa using inR_of hr), some_bind, h1]
  rfl

theorem Of_none {f : TField} (hs : Small f) (a : Int) (h : ¬(FieldOK f ∧ InR f a)) : ∃ e, e ≠ 0 ∧ m_ranks_Of f a = some (⟨0, 0, 0, 0, false⟩, e) := by
  unfold m_ranks_Of
  rw [ranks_check_eq hs (by simp)]
  by_cases hf : FieldOK f
  · have ha : ¬InR f a := fun ha => h ⟨hf, ha⟩
    rw [chk_pos hf, chk_neg (by simpa using ha)]
    exact ⟨250, by decide, rfl⟩
  · rw [chk_neg hf]
    exact ⟨240, by decide, rfl⟩

theorem HistoryExtremes_true (y0 : TField) (y1 : Int) (w0 : wTField y0) (_w1 : wI y1) : m_stopwatchlaw26_HistoryExtremes y0 y1 = some true := by
  unfold m_stopwatchlaw26_HistoryExtremes
  rw [sane26_true, some_bind]
  obtain ⟨b, h1, h2⟩ := few24_eq w0
  rw [h1]
  cases b with
  | false => rfl
  | true =>
    obtain ⟨hs, _⟩ := h2 rfl
    simp only [some_bind, Bool.not_true, cond_false]
    by_cases h : FieldOK y0 ∧ InR y0 y1
    · obtain ⟨hf, hR⟩ := h
      obtain ⟨r, rfl, hr⟩ := inR_nat hR
      obtain ⟨x, g1, hx⟩ := Of_some hs hf hr
      rw [g1]
      rcases Best_ok hs hf hr hx with ⟨k1, k2⟩ | ⟨k1, h, k2, k3, k4⟩
      · rcases Worst_ok hs hf hr hx with ⟨k5, k6⟩ | ⟨k5, _⟩
        · rw [k2, k6]
          simp [k1]
        · exact absurd k1 k5
      · rcases Worst_ok hs hf hr hx with ⟨k5, _⟩ | ⟨k5, h', k6, k7, k8⟩
        · exact absurd k5 k1
        · have e : (x.Kind != 3) = true := by simpa using k1
          have q1 := histRank_eq hs h (r : Int)
          have q2 := histRank_eq hs h' (r : Int)
          rw [chk_pos hf, chk_pos k3, chk_pos (inR_of hr), Int.toNat_natCast] at q1
          rw [chk_pos hf, chk_pos k7, chk_pos (inR_of hr), Int.toNat_natCast] at q2
          rw [k2, k6]
          simp only [some_bind, bne_self_eq_false, cond_false, e, beq_self_eq_true, Bool.not_true, Bool.or_false, q1, q2, k4, k8, Bool.and_self, Bool.and_true]
    · obtain ⟨e, he, g2⟩ := Of_none hs y1 h
      obtain ⟨g3, g4⟩ := Best_err hs he g2
      rw [g2, g3, g4]
      have e1 : (e != 0) = true := by simpa using he
      simp [e1]

end Go.Stop
