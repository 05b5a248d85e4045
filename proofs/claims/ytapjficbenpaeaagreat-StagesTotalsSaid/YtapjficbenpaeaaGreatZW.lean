/- Plain laws about the models. No condition. -/
import Derived.Test.YtapjficbenpaeaaGreatZV
import Derived.KernelRfl
import Derived.Sort.AssemblyPlain
import Derived.Lib.BitFns
namespace Go.Stop
open Go Go.Abs
set_option linter.unusedVariables false
set_option linter.unusedSimpArgs false
theorem w64_of {n : Int} (h1 : -9223372036854775808 ≤ n) (h2 : n ≤ 9223372036854775807) : w64 n = n := by
  unfold w64; simp only [IntKind.wrap, IntKind.bits, IntKind.signed]; simp; omega
theorem w64_nat {n : Nat} (h : n ≤ 9223372036854775807) : w64 (n : Int) = n := w64_of (by omega) (by omega)
theorem w64_succ {i : Nat} (h : i < 9223372036854775807) : w64 ((i : Int) + 1) = ((i + 1 : Nat) : Int) := by
  rw [w64_of (by omega) (by omega)]; rfl
theorem idx_nat {α : Type} (l : List α) (i : Nat) : idx l (i : Int) = l[i]? := by
  unfold idx; simp
theorem idx_lt {α : Type} {l : List α} {i : Nat} (h : i < l.length) : idx l (i : Int) = some l[i] := by
  rw [idx_nat]; simp [h]
theorem some_bind {α β : Type} (a : α) (f : α → Option β) : (some a).bind f = f a := rfl
theorem dec_lt_nat (i n : Nat) : decide ((i : Int) < (n : Int)) = decide (i < n) := by simp
theorem dec_le_nat (i n : Nat) : decide ((i : Int) ≤ (n : Int)) = decide (i < n + 1) := by
  by_cases h : i < n + 1
  · simp [h]; omega
  · simp [h]; omega
section
open Classical
noncomputable def chk {β : Type} (p : Prop) (r : β) (k : Option β) : Option β := if p then k else some r
theorem chk_and {β : Type} (p q : Prop) (r : β) (k : Option β) : chk p r (chk q r k) = chk (p ∧ q) r k := by
  unfold chk; by_cases hp : p <;> by_cases hq : q <;> simp [hp, hq]
theorem chk_congr {β : Type} {p q : Prop} {r : β} {k k' : Option β} (h : p ↔ q) (hk : p → k = k') : chk p r k = chk q r k' := by
  unfold chk
  by_cases hp : p
  · rw [if_pos hp, if_pos (h.1 hp), hk hp]
  · rw [if_neg hp, if_neg (fun hq => hp (h.2 hq))]
theorem chk_loop {β : Type} {N : Nat} {f : Nat → Nat → Option β} {r : β} {ok : Nat → Prop} {k : Option β} (hs : ∀ n i, i < N → f (n + 1) i = chk (ok i) r (f n (i + 1))) (he : ∀ n, f (n + 1) N = k) :
    f (N + 1) 0 = chk (∀ i, i < N → ok i) r k := by
  unfold chk at hs ⊢
  have key : ∀ c i n, i + c = N → c ≤ n → f (n + 1) i = if (∀ j, i ≤ j → j < N → ok j) then k else some r := by
    intro c
    induction c with
    | zero =>
      intro i n h _
      have : i = N := by omega
      subst this
      rw [he, if_pos (fun j h1 h2 => absurd h2 (by omega))]
    | succ c ih =>
      intro i n h hn
      rw [hs n i (by omega)]
      obtain ⟨n, rfl⟩ : ∃ n', n = n' + 1 := ⟨n - 1, by omega⟩
      by_cases h1 : ok i
      · rw [if_pos h1, ih (i + 1) n (by omega) (by omega)]
        by_cases h2 : ∀ j, i + 1 ≤ j → j < N → ok j
        · rw [if_pos h2, if_pos]
          intro j hj hjN
          by_cases e : j = i
          · exact e ▸ h1
          · exact h2 j (by omega) hjN
        · rw [if_neg h2, if_neg]
          intro h3
          exact h2 fun j hj hjN => h3 j (by omega) hjN
      · rw [if_neg h1, if_neg]
        intro h3
        exact h1 (h3 i (by omega) (by omega))
  rw [key N 0 N (by omega) (by omega)]
  simp
theorem chk_loop' {β : Type} {N : Nat} {f : Nat → Nat → Option β} {r : β} {ok : Nat → Prop} {k : Option β} (hs : ∀ n i, i < N → (∀ j, j < i → ok j) → f (n + 1) i = chk (ok i) r (f n (i + 1))) (he : ∀ n, (∀ j, j < N → ok j) → f (n + 1) N = k) :
    f (N + 1) 0 = chk (∀ i, i < N → ok i) r k := by
  have key : ∀ c i n, i + c = N → c ≤ n → (∀ j, j < i → ok j) → f (n + 1) i = chk (∀ j, j < N → ok j) r k := by
    intro c
    induction c with
    | zero =>
      intro i n h _ hp
      have : i = N := by omega
      subst this
      rw [he n hp]; unfold chk; rw [if_pos hp]
    | succ c ih =>
      intro i n h hn hp
      rw [hs n i (by omega) hp]
      obtain ⟨n, rfl⟩ : ∃ n', n = n' + 1 := ⟨n - 1, by omega⟩
      by_cases h1 : ok i
      · rw [ih (i + 1) n (by omega) (by omega) (fun j hj => by
          by_cases e : j = i
          · exact e ▸ h1
          · exact hp j (by omega))]
        unfold chk; rw [if_pos h1]
      · unfold chk; rw [if_neg h1, if_neg (fun h3 => h1 (h3 i (by omega)))]
  exact key N 0 N (by omega) (by omega) (fun j hj => absurd hj (by omega))
theorem run_inv {σ : Type} {N : Nat} {f : Nat → Nat → σ → Option σ} {I : Nat → σ → Prop} (hs : ∀ n i s, i < N → I i s → ∃ s', I (i + 1) s' ∧ f (n + 1) i s = f n (i + 1) s') (he : ∀ n s, f (n + 1) N s = some s) {s0 : σ} (h0 : I 0 s0) :
    ∃ s, f (N + 1) 0 s0 = some s ∧ I N s := by
  have key : ∀ c i n s, i + c = N → c ≤ n → I i s → ∃ s', f (n + 1) i s = some s' ∧ I N s' := by
    intro c
    induction c with
    | zero =>
      intro i n s h _ hi
      have : i = N := by omega
      subst this
      exact ⟨s, he n s, hi⟩
    | succ c ih =>
      intro i n s h hn hi
      obtain ⟨s', h1, h2⟩ := hs n i s (by omega) hi
      obtain ⟨n, rfl⟩ : ∃ n', n = n' + 1 := ⟨n - 1, by omega⟩
      rw [h2]
      exact ih (i + 1) n s' (by omega) (by omega) h1
  exact key N 0 N s0 (by omega) (by omega) h0
theorem find_loop {N : Nat} {f : Nat → Nat → Option Int} {p : Nat → Prop} (hs : ∀ n i, i < N → f (n + 1) i = if p i then some (i : Int) else f n (i + 1)) (he : ∀ n, f (n + 1) N = some (-1)) :
    ∃ r, f (N + 1) 0 = some r ∧ (r ≥ 0 ↔ ∃ i, i < N ∧ p i) := by
  have key : ∀ c i n, i + c = N → c ≤ n → ∃ r, f (n + 1) i = some r ∧ (r ≥ 0 ↔ ∃ j, i ≤ j ∧ j < N ∧ p j) := by
    intro c
    induction c with
    | zero =>
      intro i n h _
      have : i = N := by omega
      subst this
      refine ⟨-1, he n, by simp; omega⟩
    | succ c ih =>
      intro i n h hn
      rw [hs n i (by omega)]
      obtain ⟨n, rfl⟩ : ∃ n', n = n' + 1 := ⟨n - 1, by omega⟩
      by_cases h1 : p i
      · rw [if_pos h1]
        exact ⟨_, rfl, fun _ => ⟨i, Nat.le_refl _, by omega, h1⟩, fun _ => by omega⟩
      · rw [if_neg h1]
        obtain ⟨r, h2, h3⟩ := ih (i + 1) n (by omega) (by omega)
        refine ⟨r, h2, h3.trans ⟨fun ⟨j, a, b, c⟩ => ⟨j, by omega, b, c⟩, fun ⟨j, a, b, c⟩ => ⟨j, ?_, b, c⟩⟩⟩
        by_cases e : j = i
        · exact absurd (e ▸ c) h1
        · omega
  obtain ⟨r, h1, h2⟩ := key N 0 N (by omega) (by omega)
  exact ⟨r, h1, h2.trans ⟨fun ⟨j, _, b, c⟩ => ⟨j, b, c⟩, fun ⟨j, b, c⟩ => ⟨j, by omega, b, c⟩⟩⟩
end
theorem bif_dec {β : Type} (p : Prop) [Decidable p] (a b : β) : (bif decide p then a else b) = if p then a else b := by
  by_cases h : p <;> simp [h]
theorem bif_eq {β : Type} (x y : Int) (a b : β) : (bif x == y then a else b) = if x = y then a else b := by
  rw [Bool.cond_eq_ite]; simp only [beq_iff_eq]
theorem bif_ne {β : Type} (x y : Int) (a b : β) : (bif x != y then a else b) = if x = y then b else a := by
  rw [Bool.cond_eq_ite]; simp only [bne_iff_ne, ne_eq, ite_not]
theorem chk_pos {β : Type} {p : Prop} {r : β} {k : Option β} (h : p) : chk p r k = k := by unfold chk; rw [if_pos h]
theorem chk_neg {β : Type} {p : Prop} {r : β} {k : Option β} (h : ¬p) : chk p r k = some r := by unfold chk; rw [if_neg h]
theorem bind_chk {β : Type} {p : Prop} {t : Option Bool} {r : β} {k : Option β} (h : ∃ b, t = some b ∧ (b = true ↔ ¬p)) : (t.bind fun v => bif v then some r else k) = chk p r k := by
  obtain ⟨b, rfl, hb⟩ := h
  cases b with
  | true => rw [chk_neg (hb.1 rfl)]; rfl
  | false => rw [chk_pos (Classical.byContradiction fun h => by simpa using hb.2 h)]; rfl
theorem fuel_sub (n : Nat) : ((n : Int) - 0).toNat + 1 = n + 1 := by omega
theorem fuel_add (n : Nat) : ((n : Int) + 1 - 0).toNat + 1 = (n + 1) + 1 := by omega
theorem cmp_eq (a b : Int) : M4 a b = some (if a < b then -1 else if b < a then 1 else 0) := by
  unfold M4 M3
  simp only [some_bind, bne_self_eq_false, cond_false, bif_dec]
  split
  · rfl
  · split
    · rfl
    · rfl
theorem or2_eq (a b : Int) : M7 [a, b] = some (if a ≠ 0 then a else b) := by
  have s0 : M7 [a, b] = bif a != 0 then some a else M5 [a, b] M6 2 1 := rfl
  have s1 : M5 [a, b] M6 2 1 = bif b != 0 then some b else M5 [a, b] M6 1 2 := rfl
  have s2 : M5 [a, b] M6 1 2 = some 0 := rfl
  rw [s0, s1, s2, bif_ne, bif_ne]
  by_cases ha : a = 0
  · by_cases hb : b = 0
    · simp [ha, hb]
    · simp [ha, hb]
  · simp [ha]
def SegLt (y x : TSegment) : Prop := y.Mat < x.Mat ∨ y.Mat = x.Mat ∧ y.Epoch < x.Epoch
theorem order_eq (y x : TSegment) : ∃ r, M9 y x = some r ∧ (r ≥ 0 ↔ ¬SegLt y x) := by
  unfold M9 M8 SegLt
  simp only [cmp_eq, some_bind, or2_eq]
  refine ⟨_, rfl, ?_⟩
  by_cases h1 : y.Mat < x.Mat
  · simp [h1]
  · by_cases h2 : x.Mat < y.Mat
    · simp [h1, h2]; omega
    · have : y.Mat = x.Mat := by omega
      simp only [this, Int.lt_irrefl, if_false, ne_eq, not_true, false_or, true_and]
      by_cases h3 : y.Epoch < x.Epoch
      · rw [if_pos h3]; omega
      · rw [if_neg h3]
        split <;> omega
theorem less_eq (y x : TSegment) : ∃ r, M255 y x = some r ∧ (r = true ↔ SegLt y x) := by
  unfold M255 SegLt
  by_cases h1 : y.Mat < x.Mat
  · exact ⟨true, by simp [h1], by simp [h1]⟩
  · rw [bif_dec, if_neg h1, bif_eq]
    by_cases h2 : y.Mat = x.Mat
    · exact ⟨decide (y.Epoch < x.Epoch), by rw [if_pos h2], by simp [h2]⟩
    · exact ⟨false, by rw [if_neg h2], by simp [h2]; omega⟩
theorem time_eq (n : Int) : M2 n = some (decide (-1099511627776 ≤ n ∧ n ≤ 1099511627776)) := by
  unfold M2; rw [bif_dec]; split
  · congr 1; simp; omega
  · congr 1; symm; simp; omega
theorem time16_eq (n : Int) : M254 n = some (decide (-1099511627776 ≤ n ∧ n ≤ 1099511627776)) := time_eq n
def SegOK (l : List TSegment) (i : Nat) : Prop := ∀ x, l[i]? = some x → 0 ≤ x.Mat ∧ x.Mat < 40 ∧ 0 ≤ x.Epoch ∧ x.Epoch ≤ 255 ∧ (-1099511627776 ≤ x.Anchor ∧ x.Anchor ≤ 1099511627776) ∧ (0 < i → ∀ y, l[i - 1]? = some y → SegLt y x)
theorem pred_nat {i : Nat} (h : 0 < i) (h' : i < 9223372036854775807) : w64 ((i : Int) - 1) = ((i - 1 : Nat) : Int) := by
  rw [w64_of (by omega) (by omega)]; omega
theorem clocks_L1 {k : TClocks} {kk : Unit → Option Int} (hl : k.Segments.length < 9223372036854775807) : M15 k kk (k.Segments.length + 1) 0 = chk (∀ i, i < k.Segments.length → SegOK k.Segments i) 160 (kk ()) := by
  refine chk_loop (f := fun n i => M15 k kk n (i : Int)) (fun n i hi => ?_) (fun n => ?_)
  · show M15 k kk (n + 1) (i : Int) = _
    rw [M15, dec_lt_nat, decide_eq_true hi, cond_true, idx_lt hi, some_bind, w64_succ (by omega)]
    have hx : k.Segments[i]? = some k.Segments[i] := by simp [hi]
    generalize k.Segments[i] = x at hx
    refine bind_chk ?_
    have hs : SegOK k.Segments i ↔ (0 ≤ x.Mat ∧ x.Mat < 40 ∧ 0 ≤ x.Epoch ∧ x.Epoch ≤ 255 ∧ (-1099511627776 ≤ x.Anchor ∧ x.Anchor ≤ 1099511627776) ∧ (0 < i → ∀ y, k.Segments[i - 1]? = some y → SegLt y x)) := by
      unfold SegOK; rw [hx]; simp
    rw [hs]
    simp only [bif_dec, time_eq, some_bind]
    by_cases h1 : x.Mat < 0
    · exact ⟨true, if_pos h1, by simp; omega⟩
    rw [if_neg h1]
    by_cases h2 : x.Mat ≥ 40
    · exact ⟨true, if_pos h2, by simp; omega⟩
    rw [if_neg h2]
    by_cases h3 : x.Epoch < 0
    · exact ⟨true, if_pos h3, by simp; omega⟩
    rw [if_neg h3]
    by_cases h4 : x.Epoch > 255
    · exact ⟨true, if_pos h4, by simp; omega⟩
    rw [if_neg h4]
    by_cases h5 : -1099511627776 ≤ x.Anchor ∧ x.Anchor ≤ 1099511627776
    · rw [decide_eq_true h5, Bool.not_true, cond_false]
      by_cases h6 : (i : Int) > 0
      · rw [if_pos h6]
        have h7 : 0 < i := by omega
        have h8 : i - 1 < k.Segments.length := by omega
        rw [pred_nat h7 (by omega), idx_lt h8, some_bind]
        obtain ⟨r, h9, h10⟩ := order_eq k.Segments[i - 1] x
        rw [h9, some_bind]
        refine ⟨_, rfl, ?_⟩
        rw [decide_eq_true_iff, h10]
        constructor
        · intro h11 h12
          exact h11 (h12.2.2.2.2.2 h7 _ (by simp [h8]))
        · intro h11 h12
          refine h11 ⟨by omega, by omega, by omega, by omega, h5, fun _ y hy => ?_⟩
          rw [List.getElem?_eq_getElem h8] at hy
          cases hy
          exact h12
      · rw [if_neg h6]
        refine ⟨false, rfl, ?_⟩
        simp only [Bool.false_eq_true, false_iff, Classical.not_not]
        exact ⟨by omega, by omega, by omega, by omega, h5, fun h => by omega⟩
    · rw [decide_eq_false h5, Bool.not_false, cond_true]
      refine ⟨true, rfl, ?_⟩
      simp only [true_iff]
      exact fun h => h5 h.2.2.2.2.1
  · show M15 k kk (n + 1) ((k.Segments.length : Nat) : Int) = _
    rw [M15]
    simp
theorem ref16_L1 {k : TClocks} {kk : Unit → Option Int} (hl : k.Segments.length < 9223372036854775807) : M256 k kk (k.Segments.length + 1) 0 = chk (∀ i, i < k.Segments.length → SegOK k.Segments i) 160 (kk ()) := by
  refine chk_loop (f := fun n i => M256 k kk n (i : Int)) (fun n i hi => ?_) (fun n => ?_)
  · show M256 k kk (n + 1) (i : Int) = _
    rw [M256, dec_lt_nat, decide_eq_true hi, cond_true, idx_lt hi, some_bind, w64_succ (by omega)]
    have hx : k.Segments[i]? = some k.Segments[i] := by simp [hi]
    generalize k.Segments[i] = x at hx
    refine bind_chk ?_
    have hs : SegOK k.Segments i ↔ (0 ≤ x.Mat ∧ x.Mat < 40 ∧ 0 ≤ x.Epoch ∧ x.Epoch ≤ 255 ∧ (-1099511627776 ≤ x.Anchor ∧ x.Anchor ≤ 1099511627776) ∧ (0 < i → ∀ y, k.Segments[i - 1]? = some y → SegLt y x)) := by
      unfold SegOK; rw [hx]; simp
    rw [hs]
    simp only [bif_dec, time16_eq, some_bind]
    by_cases h1 : x.Mat < 0
    · exact ⟨true, if_pos h1, by simp; omega⟩
    rw [if_neg h1]
    by_cases h2 : x.Mat ≥ 40
    · exact ⟨true, if_pos h2, by simp; omega⟩
    rw [if_neg h2]
    by_cases h3 : x.Epoch < 0
    · exact ⟨true, if_pos h3, by simp; omega⟩
    rw [if_neg h3]
    by_cases h4 : x.Epoch > 255
    · exact ⟨true, if_pos h4, by simp; omega⟩
    rw [if_neg h4]
    by_cases h5 : -1099511627776 ≤ x.Anchor ∧ x.Anchor ≤ 1099511627776
    · rw [decide_eq_true h5, Bool.not_true, cond_false]
      by_cases h6 : (i : Int) > 0
      · rw [if_pos h6]
        have h7 : 0 < i := by omega
        have h8 : i - 1 < k.Segments.length := by omega
        rw [pred_nat h7 (by omega), idx_lt h8, some_bind]
        obtain ⟨r, h9, h10⟩ := less_eq k.Segments[i - 1] x
        rw [h9, some_bind]
        refine ⟨_, rfl, ?_⟩
        rw [Bool.not_eq_true', ← Bool.not_eq_true, h10]
        constructor
        · intro h11 h12
          exact h11 (h12.2.2.2.2.2 h7 _ (by simp [h8]))
        · intro h11 h12
          refine h11 ⟨by omega, by omega, by omega, by omega, h5, fun _ y hy => ?_⟩
          rw [List.getElem?_eq_getElem h8] at hy
          cases hy
          exact h12
      · rw [if_neg h6]
        refine ⟨false, rfl, ?_⟩
        simp only [Bool.false_eq_true, false_iff, Classical.not_not]
        exact ⟨by omega, by omega, by omega, by omega, h5, fun h => by omega⟩
    · rw [decide_eq_false h5, Bool.not_false, cond_true]
      refine ⟨true, rfl, ?_⟩
      simp only [true_iff]
      exact fun h => h5 h.2.2.2.2.1
  · show M256 k kk (n + 1) ((k.Segments.length : Nat) : Int) = _
    rw [M256]
    simp
def at2 (l : List (List Int)) (i j : Nat) : Int := ((l[i]?.getD [])[j]?).getD 0
def Entry (w : Int) : Prop := -2199023255552 ≤ w ∧ w ≤ 2199023255552
def RowOK (k : TClocks) (i : Nat) : Prop := (k.Far[i]?.getD []).length = k.Segments.length + 1 ∧ at2 k.Far i i = 0 ∧ ∀ j, j < k.Segments.length + 1 → Entry (at2 k.Far i j)
def TriOK (k : TClocks) : Prop := ∀ i, i < k.Segments.length + 1 → ∀ j, j < k.Segments.length + 1 → ∀ m, m < k.Segments.length + 1 → ¬at2 k.Far i m > w64 (at2 k.Far i j + at2 k.Far j m)
theorem idx2 {l : List (List Int)} {i j : Nat} {row : List Int} (h : l[i]? = some row) (hj : j < row.length) : idx row (j : Int) = some (at2 l i j) := by
  rw [idx_lt hj]; unfold at2; rw [h]; simp [hj]
theorem contains_eq (row : List Int) (hl : row.length < 9223372036854775807) : ∃ b, M14 row = some b ∧ (b = true ↔ ∃ j, j < row.length ∧ ¬Entry (row[j]?.getD 0)) := by
  unfold M14 M13
  rw [fuel_sub]
  obtain ⟨r, h1, h2⟩ := find_loop (N := row.length) (f := fun n i => M11 row M12 n (i : Int)) (p := fun j => ¬Entry (row[j]?.getD 0)) (fun n i hi => by
    show M11 row _ (n + 1) (i : Int) = _
    rw [M11, dec_lt_nat, decide_eq_true hi, cond_true, idx_lt hi, some_bind, w64_succ (by omega)]
    have hx : row[i]?.getD 0 = row[i] := by simp [hi]
    rw [hx]
    generalize row[i] = w
    unfold M10 Entry
    rw [bif_dec]
    by_cases h1 : w < -2199023255552
    · rw [if_pos h1, some_bind, cond_true, if_pos (by omega)]
    · rw [if_neg h1, some_bind, bif_dec]
      by_cases h2 : w > 2199023255552
      · rw [if_pos h2, if_pos (by omega)]
      · rw [if_neg h2, if_neg (by omega)]) (fun n => by
    show M11 row _ (n + 1) ((row.length : Nat) : Int) = _
    rw [M11]
    simp [M12])
  refine ⟨decide (r ≥ 0), ?_, by rw [decide_eq_true_iff]; exact h2⟩
  have h1 : M11 row M12 (row.length + 1) 0 = some r := h1
  rw [h1]; rfl
theorem clocks_L2 {k : TClocks} {kk : Unit → Option Int} (hl : k.Segments.length ≤ 511) (hf : k.Far.length = k.Segments.length + 1) : M16 k kk (k.Far.length + 1) 0 = chk (∀ i, i < k.Far.length → RowOK k i) 160 (kk ()) := by
  refine chk_loop (f := fun n i => M16 k kk n (i : Int)) (fun n i hi => ?_) (fun n => ?_)
  · show M16 k kk (n + 1) (i : Int) = _
    rw [M16, dec_lt_nat, decide_eq_true hi, cond_true, idx_lt hi, some_bind, w64_succ (by omega), w64_succ (by omega)]
    have hx : k.Far[i]? = some k.Far[i] := by simp [hi]
    generalize k.Far[i] = row at hx
    rw [bif_ne]
    have hr : RowOK k i ↔ row.length = k.Segments.length + 1 ∧ at2 k.Far i i = 0 ∧ ∀ j, j < k.Segments.length + 1 → Entry (at2 k.Far i j) := by
      unfold RowOK; rw [hx]; rfl
    by_cases h1 : row.length = k.Segments.length + 1
    · rw [if_pos (by omega), idx2 hx (by omega), some_bind, bif_ne]
      by_cases h2 : at2 k.Far i i = 0
      · rw [if_pos h2]
        obtain ⟨b, h3, h4⟩ := contains_eq row (by omega)
        rw [h3]
        refine bind_chk ⟨b, rfl, ?_⟩
        rw [h4, hr, h1]
        constructor
        · rintro ⟨j, h5, h6⟩ ⟨_, _, h7⟩
          have := h7 j h5
          unfold at2 at this
          rw [hx] at this
          exact h6 this
        · intro h5
          refine Classical.byContradiction fun h6 => h5 ⟨rfl, h2, fun j hj => Classical.byContradiction fun h7 => h6 ⟨j, hj, fun h8 => h7 ?_⟩⟩
          unfold at2
          rw [hx]
          exact h8
      · rw [if_neg h2, chk_neg (fun h => h2 (hr.1 h).2.1)]
    · rw [if_neg (by omega), chk_neg (fun h => h1 (hr.1 h).1)]
  · show M16 k kk (n + 1) ((k.Far.length : Nat) : Int) = _
    rw [M16]
    simp
theorem rows_get {k : TClocks} (h : ∀ i, i < k.Far.length → RowOK k i) (hf : k.Far.length = k.Segments.length + 1) {i : Nat} (hi : i < k.Segments.length + 1) : ∃ row, k.Far[i]? = some row ∧ idx k.Far (i : Int) = some row ∧ row.length = k.Segments.length + 1 := by
  have hi' : i < k.Far.length := by omega
  refine ⟨k.Far[i], by simp [hi'], idx_lt hi', ?_⟩
  have := (h i hi').1
  simpa [hi'] using this
theorem clocks_L5 {k : TClocks} {kk : Unit → Option Int} (hl : k.Segments.length ≤ 511) (hf : k.Far.length = k.Segments.length + 1) (h : ∀ i, i < k.Far.length → RowOK k i) {i j : Nat} (hi : i < k.Segments.length + 1) {x : Int} {row : List Int} (hr : k.Far[j]? = some row) (hrl : row.length = k.Segments.length + 1) :
    M17 k i x row kk (row.length + 1) 0 = chk (∀ m, m < row.length → ¬at2 k.Far i m > w64 (x + at2 k.Far j m)) 160 (kk ()) := by
  refine chk_loop (f := fun n m => M17 k i x row kk n (m : Int)) (fun n m hm => ?_) (fun n => ?_)
  · show M17 k i x row kk (n + 1) (m : Int) = _
    obtain ⟨row', h1, h2, h3⟩ := rows_get h hf hi
    rw [M17, dec_lt_nat, decide_eq_true hm, cond_true, idx2 hr hm, some_bind, h2, some_bind, idx2 h1 (by omega), some_bind, w64_succ (by omega), bif_dec]
    by_cases h4 : at2 k.Far i m > w64 (x + at2 k.Far j m)
    · rw [if_pos h4, chk_neg (fun h => h h4)]
    · rw [if_neg h4, chk_pos h4]
  · show M17 k i x row kk (n + 1) ((row.length : Nat) : Int) = _
    rw [M17]
    simp
theorem clocks_L4 {k : TClocks} {kk : Unit → Option Int} (hl : k.Segments.length ≤ 511) (hf : k.Far.length = k.Segments.length + 1) (h : ∀ i, i < k.Far.length → RowOK k i) {i : Nat} (hi : i < k.Segments.length + 1) {row : List Int} (hr : k.Far[i]? = some row) (hrl : row.length = k.Segments.length + 1) :
    M19 k i row kk (row.length + 1) 0 = chk (∀ j, j < row.length → ∀ m, m < k.Segments.length + 1 → ¬at2 k.Far i m > w64 (at2 k.Far i j + at2 k.Far j m)) 160 (kk ()) := by
  refine chk_loop (f := fun n j => M19 k i row kk n (j : Int)) (fun n j hj => ?_) (fun n => ?_)
  · show M19 k i row kk (n + 1) (j : Int) = _
    obtain ⟨row', h1, h2, h3⟩ := rows_get h hf (i := j) (by omega)
    rw [M19, dec_lt_nat, decide_eq_true hj, cond_true, idx2 hr hj, some_bind, h2, some_bind, fuel_sub, clocks_L5 hl hf h hi h1 h3, h3]
    show chk _ _ (M19 k i row kk n (w64 ((j : Int) + 1))) = _
    rw [w64_succ (by omega)]
  · show M19 k i row kk (n + 1) ((row.length : Nat) : Int) = _
    rw [M19]
    simp
theorem clocks_L3 {k : TClocks} {kk : Unit → Option Int} (hl : k.Segments.length ≤ 511) (hf : k.Far.length = k.Segments.length + 1) (h : ∀ i, i < k.Far.length → RowOK k i) :
    M21 k kk (k.Segments.length + 1 + 1) 0 = chk (TriOK k) 160 (kk ()) := by
  refine chk_loop (N := k.Segments.length + 1) (f := fun n i => M21 k kk n (i : Int)) (fun n i hi => ?_) (fun n => ?_)
  · show M21 k kk (n + 1) (i : Int) = _
    obtain ⟨row, h1, h2, h3⟩ := rows_get h hf hi
    rw [M21, w64_succ (by omega), dec_lt_nat, decide_eq_true hi, cond_true, h2, some_bind, fuel_sub, clocks_L4 hl hf h hi h1 h3, h3]
    show chk _ _ (M21 k kk n (w64 ((i : Int) + 1))) = _
    rw [w64_succ (by omega)]
  · show M21 k kk (n + 1) ((k.Segments.length + 1 : Nat) : Int) = _
    rw [M21, w64_succ (by omega)]
    simp
structure ClocksOK (k : TClocks) : Prop where
  few : k.Segments.length ≤ 511
  far : k.Far.length = k.Segments.length + 1
  seg : ∀ i, i < k.Segments.length → SegOK k.Segments i
  row : ∀ i, i < k.Far.length → RowOK k i
  tri : TriOK k
theorem clocksOK_iff (k : TClocks) : ClocksOK k ↔ k.Segments.length ≤ 511 ∧ k.Far.length = k.Segments.length + 1 ∧ (∀ i, i < k.Segments.length → SegOK k.Segments i) ∧ (∀ i, i < k.Far.length → RowOK k i) ∧ TriOK k :=
  ⟨fun ⟨a, b, c, d, e⟩ => ⟨a, b, c, d, e⟩, fun ⟨a, b, c, d, e⟩ => ⟨a, b, c, d, e⟩⟩
theorem chk_and' {β : Type} {p q : Prop} {r : β} {k k' : Option β} (h : p → k = chk q r k') : chk p r k = chk (p ∧ q) r k' := by
  rw [← chk_and]; exact chk_congr Iff.rfl h
theorem clocks_Check_eq {k : TClocks} (hw : k.Segments.length < 9223372036854775807) : M25 k = chk (ClocksOK k) 160 (some 0) := by
  unfold M25
  rw [bif_dec, bif_ne, fuel_sub, w64_succ (by omega), clocks_L1 (by omega)]
  have e : chk (ClocksOK k) (160 : Int) (some 0) = chk (k.Segments.length ≤ 511 ∧ k.Far.length = k.Segments.length + 1 ∧ (∀ i, i < k.Segments.length → SegOK k.Segments i) ∧ (∀ i, i < k.Far.length → RowOK k i) ∧ TriOK k) 160 (some 0) := chk_congr (clocksOK_iff k) fun _ => rfl
  rw [e]
  by_cases h1 : k.Segments.length ≤ 511
  · rw [if_neg (by omega)]
    by_cases h2 : k.Far.length = k.Segments.length + 1
    · rw [if_pos (by omega)]
      refine Eq.trans ?_ (chk_congr (p := (∀ i, i < k.Segments.length → SegOK k.Segments i) ∧ (∀ i, i < k.Far.length → RowOK k i) ∧ TriOK k) (by simp [h1, h2]) fun _ => rfl)
      refine chk_and' fun _ => ?_
      show M16 k (M23 k) _ 0 = _
      rw [fuel_sub, clocks_L2 h1 h2]
      refine chk_and' fun h3 => ?_
      show M21 k M22 _ 0 = _
      rw [w64_succ (by omega), fuel_sub, clocks_L3 h1 h2 h3]
      rfl
    · rw [if_neg (by omega), chk_neg (fun h => h2 h.2.1)]
  · rw [if_pos (by omega), chk_neg (fun h => h1 h.1)]
theorem ref16_L3 {k : TClocks} {kk : Unit → Option Int} (hl : k.Segments.length ≤ 511) {i : Nat} {row : List Int} (h1 : k.Far[i]? = some row) (h2 : idx k.Far (i : Int) = some row) (h3 : row.length = k.Segments.length + 1) :
    M257 k i kk (k.Segments.length + 1 + 1) 0 = chk (∀ j, j < k.Segments.length + 1 → Entry (at2 k.Far i j)) 160 (kk ()) := by
  refine chk_loop (N := k.Segments.length + 1) (f := fun n j => M257 k i kk n (j : Int)) (fun n j hj => ?_) (fun n => ?_)
  · show M257 k i kk (n + 1) (j : Int) = _
    rw [M257, dec_le_nat, decide_eq_true hj, cond_true, h2, some_bind, idx2 h1 (by omega), some_bind, some_bind, idx2 h1 (by omega), some_bind, w64_succ (by omega), bif_dec, bif_dec]
    unfold Entry
    by_cases h4 : at2 k.Far i j < -2199023255552
    · rw [if_pos h4, chk_neg (by omega)]
    · rw [if_neg h4]
      by_cases h5 : at2 k.Far i j > 2199023255552
      · rw [if_pos h5, chk_neg (by omega)]
      · rw [if_neg h5, chk_pos (by omega)]
  · show M257 k i kk (n + 1) ((k.Segments.length + 1 : Nat) : Int) = _
    rw [M257, dec_le_nat]
    simp
theorem ref16_L2 {k : TClocks} {kk : Unit → Option Int} (hl : k.Segments.length ≤ 511) (hf : k.Far.length = k.Segments.length + 1) :
    M259 k kk (k.Segments.length + 1 + 1) 0 = chk (∀ i, i < k.Far.length → RowOK k i) 160 (kk ()) := by
  rw [hf]
  refine chk_loop (N := k.Segments.length + 1) (f := fun n i => M259 k kk n (i : Int)) (fun n i hi => ?_) (fun n => ?_)
  · show M259 k kk (n + 1) (i : Int) = _
    have hi' : i < k.Far.length := by omega
    have hi2 : idx k.Far (i : Int) = some k.Far[i] := idx_lt hi'
    have hx : k.Far[i]? = some k.Far[i] := by simp [hi']
    rw [M259, dec_le_nat, decide_eq_true hi, cond_true, hi2, some_bind, some_bind, w64_succ (by omega), bif_ne]
    generalize k.Far[i] = row at hx hi2
    have hr : RowOK k i ↔ row.length = k.Segments.length + 1 ∧ at2 k.Far i i = 0 ∧ ∀ j, j < k.Segments.length + 1 → Entry (at2 k.Far i j) := by
      unfold RowOK; rw [hx]; rfl
    by_cases h1 : row.length = k.Segments.length + 1
    · rw [if_pos (by omega), idx2 hx (by omega), some_bind, bif_ne]
      by_cases h2 : at2 k.Far i i = 0
      · rw [if_pos h2, fuel_add, ref16_L3 hl hx hi2 h1]
        show chk _ _ (M259 k kk n (w64 ((i : Int) + 1))) = _
        rw [w64_succ (by omega)]
        exact chk_congr ⟨fun h => hr.2 ⟨h1, h2, h⟩, fun h => (hr.1 h).2.2⟩ fun _ => rfl
      · rw [if_neg h2, chk_neg (fun h => h2 (hr.1 h).2.1)]
    · rw [if_neg (by omega), chk_neg (fun h => h1 (hr.1 h).1)]
  · show M259 k kk (n + 1) ((k.Segments.length + 1 : Nat) : Int) = _
    rw [M259, dec_le_nat]
    simp
theorem ref16_L7 {k : TClocks} {kk : Unit → Option Int} (hl : k.Segments.length ≤ 511) (hf : k.Far.length = k.Segments.length + 1) (h : ∀ i, i < k.Far.length → RowOK k i) {i j : Nat} (hi : i < k.Segments.length + 1) (hj : j < k.Segments.length + 1) :
    M260 k i j kk (k.Segments.length + 1 + 1) 0 = chk (∀ m, m < k.Segments.length + 1 → ¬at2 k.Far i m > w64 (at2 k.Far i j + at2 k.Far j m)) 160 (kk ()) := by
  refine chk_loop (N := k.Segments.length + 1) (f := fun n m => M260 k i j kk n (m : Int)) (fun n m hm => ?_) (fun n => ?_)
  · show M260 k i j kk (n + 1) (m : Int) = _
    obtain ⟨row, h1, h2, h3⟩ := rows_get h hf hi
    obtain ⟨row', h1', h2', h3'⟩ := rows_get h hf hj
    rw [M260, dec_le_nat, decide_eq_true hm, cond_true, h2, some_bind, idx2 h1 (by omega), some_bind, some_bind, idx2 h1 (by omega), some_bind, h2', some_bind, idx2 h1' (by omega), some_bind, w64_succ (by omega), bif_dec]
    by_cases h4 : at2 k.Far i m > w64 (at2 k.Far i j + at2 k.Far j m)
    · rw [if_pos h4, chk_neg (fun h => h h4)]
    · rw [if_neg h4, chk_pos h4]
  · show M260 k i j kk (n + 1) ((k.Segments.length + 1 : Nat) : Int) = _
    rw [M260, dec_le_nat]
    simp
theorem ref16_L6 {k : TClocks} {kk : Unit → Option Int} (hl : k.Segments.length ≤ 511) (hf : k.Far.length = k.Segments.length + 1) (h : ∀ i, i < k.Far.length → RowOK k i) {i : Nat} (hi : i < k.Segments.length + 1) :
    M262 k i kk (k.Segments.length + 1 + 1) 0 = chk (∀ j, j < k.Segments.length + 1 → ∀ m, m < k.Segments.length + 1 → ¬at2 k.Far i m > w64 (at2 k.Far i j + at2 k.Far j m)) 160 (kk ()) := by
  refine chk_loop (N := k.Segments.length + 1) (f := fun n j => M262 k i kk n (j : Int)) (fun n j hj => ?_) (fun n => ?_)
  · show M262 k i kk (n + 1) (j : Int) = _
    rw [M262, dec_le_nat, decide_eq_true hj, cond_true, fuel_add, ref16_L7 hl hf h hi hj]
    show chk _ _ (M262 k i kk n (w64 ((j : Int) + 1))) = _
    rw [w64_succ (by omega)]
  · show M262 k i kk (n + 1) ((k.Segments.length + 1 : Nat) : Int) = _
    rw [M262, dec_le_nat]
    simp
theorem ref16_L5 {k : TClocks} {kk : Unit → Option Int} (hl : k.Segments.length ≤ 511) (hf : k.Far.length = k.Segments.length + 1) (h : ∀ i, i < k.Far.length → RowOK k i) :
    M264 k kk (k.Segments.length + 1 + 1) 0 = chk (TriOK k) 160 (kk ()) := by
  refine chk_loop (N := k.Segments.length + 1) (f := fun n i => M264 k kk n (i : Int)) (fun n i hi => ?_) (fun n => ?_)
  · show M264 k kk (n + 1) (i : Int) = _
    rw [M264, dec_le_nat, decide_eq_true hi, cond_true, fuel_add, ref16_L6 hl hf h hi]
    show chk _ _ (M264 k kk n (w64 ((i : Int) + 1))) = _
    rw [w64_succ (by omega)]
  · show M264 k kk (n + 1) ((k.Segments.length + 1 : Nat) : Int) = _
    rw [M264, dec_le_nat]
    simp
theorem ref16_Check_eq {k : TClocks} (hw : k.Segments.length < 9223372036854775807) : M268 k = chk (ClocksOK k) 160 (some 0) := by
  unfold M268
  rw [bif_dec, bif_ne, fuel_sub, w64_succ (by omega), ref16_L1 (by omega)]
  have e : chk (ClocksOK k) (160 : Int) (some 0) = chk (k.Segments.length ≤ 511 ∧ k.Far.length = k.Segments.length + 1 ∧ (∀ i, i < k.Segments.length → SegOK k.Segments i) ∧ (∀ i, i < k.Far.length → RowOK k i) ∧ TriOK k) 160 (some 0) := chk_congr (clocksOK_iff k) fun _ => rfl
  rw [e]
  by_cases h1 : k.Segments.length ≤ 511
  · rw [if_neg (by omega)]
    by_cases h2 : k.Far.length = k.Segments.length + 1
    · rw [if_pos (by omega)]
      refine Eq.trans ?_ (chk_congr (p := (∀ i, i < k.Segments.length → SegOK k.Segments i) ∧ (∀ i, i < k.Far.length → RowOK k i) ∧ TriOK k) (by simp [h1, h2]) fun _ => rfl)
      refine chk_and' fun _ => ?_
      show M259 k (M266 k) _ 0 = _
      rw [fuel_add, ref16_L2 h1 h2]
      refine chk_and' fun h3 => ?_
      show M264 k M265 _ 0 = _
      rw [fuel_add, ref16_L5 h1 h2 h3]
      rfl
    · rw [if_neg (by omega), chk_neg (fun h => h2 h.2.1)]
  · rw [if_pos (by omega), chk_neg (fun h => h1 h.1)]
def OutOK (k : TClocks) (x : TOutcome) : Prop :=
  (x.Out = true → x.Seg = -1 ∧ x.Lo = 0 ∧ x.Hi = 0) ∧ (x.Out = false → -1 ≤ x.Seg ∧ x.Seg < k.Segments.length ∧ -288230376151711744 ≤ x.Lo ∧ x.Lo ≤ x.Hi ∧ x.Hi ≤ 288230376151711744)
theorem outcome_Check_eq {k : TClocks} {x : TOutcome} (hw : k.Segments.length < 9223372036854775807) : M31 k x = chk (ClocksOK k) 160 (chk (OutOK k x) 230 (some 0)) := by
  unfold M31
  rw [clocks_Check_eq hw]
  by_cases hk : ClocksOK k
  · rw [chk_pos hk, chk_pos hk, some_bind]
    simp only [bne_self_eq_false, cond_false]
    cases ho : x.Out with
    | true =>
      unfold OutOK M30
      rw [some_bind, ho]
      by_cases h : x.Seg = -1 ∧ x.Lo = 0 ∧ x.Hi = 0
      · obtain ⟨h1, h2, h3⟩ := h
        rw [chk_pos (by simp [h1, h2, h3])]
        simp [h1, h2, h3]
      · rw [chk_neg (by simpa using h)]
        rw [cond_true]
        have e : ((true == true) && ((x.Seg == -1) && ((x.Lo == 0) && ((x.Hi == 0) && true)))) = false := by
          rw [← Bool.not_eq_true]
          intro h'
          simp at h'
          exact h h'
        rw [e]
        rfl
    | false =>
      unfold OutOK
      rw [ho]
      by_cases h : -1 ≤ x.Seg ∧ x.Seg < k.Segments.length ∧ -288230376151711744 ≤ x.Lo ∧ x.Lo ≤ x.Hi ∧ x.Hi ≤ 288230376151711744
      · rw [chk_pos (by simpa using h)]
        obtain ⟨h1, h2, h3, h4, h5⟩ := h
        simp [h1, h2, h3, h4, h5]
      · rw [chk_neg (by simpa using h)]
        rw [cond_false]
        have e : ((decide (x.Seg ≥ -1)) && ((decide (x.Seg < (k.Segments.length : Int))) && ((decide (x.Lo ≥ -288230376151711744)) && ((decide (x.Lo ≤ x.Hi)) && (decide (x.Hi ≤ 288230376151711744)))))) = false := by
          rw [← Bool.not_eq_true]
          intro h'
          simp at h'
          exact h h'
        rw [e]
        rfl
  · rw [chk_neg hk, chk_neg hk, some_bind]
    rfl
theorem ref23_Check_eq {k : TClocks} {x : TOutcome} (hw : k.Segments.length < 9223372036854775807) : M271 k x = chk (ClocksOK k) 160 (chk (OutOK k x) 230 (some 0)) := by
  unfold M271
  rw [ref16_Check_eq hw]
  by_cases hk : ClocksOK k
  · rw [chk_pos hk, chk_pos hk, some_bind]
    simp only [bne_self_eq_false, cond_false]
    cases ho : x.Out with
    | true =>
      unfold OutOK
      rw [ho, cond_true]
      by_cases h : x.Seg = -1 ∧ x.Lo = 0 ∧ x.Hi = 0
      · obtain ⟨h1, h2, h3⟩ := h
        rw [chk_pos (by simp [h1, h2, h3])]
        simp [h1, h2, h3]
      · rw [chk_neg (by simpa using h)]
        have e : ((x.Seg != -1) || ((x.Lo != 0) || (x.Hi != 0))) = true := by
          simp only [Bool.or_eq_true, bne_iff_ne]; omega
        rw [e]
        rfl
    | false =>
      unfold OutOK
      rw [ho, cond_false]
      by_cases h : -1 ≤ x.Seg ∧ x.Seg < k.Segments.length ∧ -288230376151711744 ≤ x.Lo ∧ x.Lo ≤ x.Hi ∧ x.Hi ≤ 288230376151711744
      · rw [chk_pos (by simpa using h)]
        have e : ((decide (x.Seg < -1)) || ((decide (x.Seg ≥ (k.Segments.length : Int))) || ((decide (x.Lo < -288230376151711744)) || ((decide (x.Lo > x.Hi)) || (decide (x.Hi > 288230376151711744)))))) = false := by
          rw [← Bool.not_eq_true]
          simp only [Bool.or_eq_true, decide_eq_true_eq]; omega
        rw [e]
        rfl
      · rw [chk_neg (by simpa using h)]
        have e : ((decide (x.Seg < -1)) || ((decide (x.Seg ≥ (k.Segments.length : Int))) || ((decide (x.Lo < -288230376151711744)) || ((decide (x.Lo > x.Hi)) || (decide (x.Hi > 288230376151711744)))))) = true := by
          simp only [Bool.or_eq_true, decide_eq_true_eq]; omega
        rw [e]
        rfl
  · rw [chk_neg hk, chk_neg hk, some_bind]
    rfl
theorem app_ok {α : Type} {b : Nat} {l r : List α} (h : (l.length + r.length) * b ≤ 140737488355328) (h' : l.length + r.length < 9223372036854775808) : app b l r = some (l ++ r) := by
  unfold app; rw [if_pos ⟨h, h'⟩]
theorem flat_succ {α : Type} {ws : List (List α)} {i : Nat} (hi : i < ws.length) : (ws.take (i + 1)).flatten = (ws.take i).flatten ++ ws[i] := by
  rw [List.take_succ_eq_append_getElem hi, List.flatten_append]; simp
theorem concat_eq {ws : List (List TOutcome)} (h1 : ws.length ≤ 1000) (h2 : ∀ w, w ∈ ws → w.length ≤ 1000) : M29 ws = some ws.flatten := by
  have hw : ∀ i (hi : i < ws.length), ws[i].length ≤ 1000 := fun i hi => h2 _ (List.getElem_mem hi)
  unfold M29
  simp only [fuel_sub]
  obtain ⟨r, hr, hr0, hr1⟩ := run_inv (N := ws.length) (f := fun n i s => M26 ws n s (i : Int)) (I := fun i s => 0 ≤ s ∧ s ≤ 1000 * (i : Int)) (s0 := 0) (fun n i s hi hI => by
    refine ⟨s + ws[i].length, ?_, ?_⟩
    · have := hw i hi; omega
    · show M26 ws (n + 1) s (i : Int) = M26 ws n (s + ws[i].length) ((i + 1 : Nat) : Int)
      have := hw i hi
      rw [M26, dec_lt_nat, decide_eq_true hi, cond_true, idx_lt hi, some_bind, w64_of (by omega) (by omega), bif_dec, if_neg (by omega), w64_succ (by omega)]) (fun n s => by
    show M26 ws (n + 1) s ((ws.length : Nat) : Int) = _
    rw [M26]; simp) ⟨by omega, by omega⟩
  replace hr : M26 ws (ws.length + 1) 0 0 = some r := hr
  rw [hr, some_bind, bif_dec, if_neg (by omega), w64_of (by omega) (by omega), bif_dec]
  have hI : ∀ i (hi : i < ws.length), ((ws.take i).flatten.length ≤ 1000 * i) → ((ws.take (i + 1)).flatten.length ≤ 1000 * (i + 1)) := fun i hi h => by
    rw [flat_succ hi, List.length_append]; have := hw i hi; omega
  split
  · have e : mkZ 32 (r - 0) = some r.toNat := by
      unfold mkZ; rw [if_pos (by omega)]; simp
    rw [e, some_bind]
    have e2 : ∀ (l : List TOutcome), slcTo l 0 = some [] := fun l => by unfold slcTo; simp
    rw [e2, some_bind]
    obtain ⟨l, hl, rfl, _⟩ := run_inv (N := ws.length) (f := fun n i s => M27 ws n (i : Int) s) (I := fun i s => s = (ws.take i).flatten ∧ s.length ≤ 1000 * i) (s0 := []) (fun n i s hi hI' => by
      obtain ⟨rfl, hlen⟩ := hI'
      refine ⟨_, ⟨rfl, hI i hi hlen⟩, ?_⟩
      show M27 ws (n + 1) (i : Int) _ = M27 ws n ((i + 1 : Nat) : Int) _
      have := hw i hi
      rw [M27, dec_lt_nat, decide_eq_true hi, cond_true, idx_lt hi, some_bind, app_ok (by omega) (by omega), some_bind, w64_succ (by omega), flat_succ hi]) (fun n s => by
      show M27 ws (n + 1) ((ws.length : Nat) : Int) s = _
      rw [M27]; simp) ⟨rfl, by simp⟩
    replace hl : M27 ws (ws.length + 1) 0 [] = some (ws.take ws.length).flatten := hl
    rw [hl, some_bind, List.take_length]
  · obtain ⟨l, hl, rfl, _⟩ := run_inv (N := ws.length) (f := fun n i s => M28 ws n (i : Int) s) (I := fun i s => s = (ws.take i).flatten ∧ s.length ≤ 1000 * i) (s0 := []) (fun n i s hi hI' => by
      obtain ⟨rfl, hlen⟩ := hI'
      refine ⟨_, ⟨rfl, hI i hi hlen⟩, ?_⟩
      show M28 ws (n + 1) (i : Int) _ = M28 ws n ((i + 1 : Nat) : Int) _
      have := hw i hi
      rw [M28, dec_lt_nat, decide_eq_true hi, cond_true, idx_lt hi, some_bind, app_ok (by omega) (by omega), some_bind, w64_succ (by omega), flat_succ hi]) (fun n s => by
      show M28 ws (n + 1) ((ws.length : Nat) : Int) s = _
      rw [M28]; simp) ⟨rfl, by simp⟩
    replace hl : M28 ws (ws.length + 1) 0 [] = some (ws.take ws.length).flatten := hl
    rw [hl, some_bind, List.take_length]
structure Small (f : TField) : Prop where
  seg : f.Clocks.Segments.length ≤ 1000
  pairs : f.Pairs.length ≤ 1000
  runners : f.Runners.length ≤ 1000000
  worlds : ∀ r, r ∈ f.Runners → r.Keys.length ≤ 1000 ∧ r.Worlds.length ≤ 1000 ∧ ∀ w, w ∈ r.Worlds → w.length ≤ 1000
def PairLt (q p : TPair) : Prop := q.A < p.A ∨ q.A = p.A ∧ q.B < p.B
def PairOK (l : List TPair) (i : Nat) : Prop := ∀ p, l[i]? = some p → 1 ≤ p.A ∧ p.A < p.B ∧ p.B ≤ 9999 ∧ (0 < i → ∀ q, l[i - 1]? = some q → PairLt q p)
def lastP (l : List TPair) (i : Nat) : TPair := if i = 0 then ⟨0, 0⟩ else (l[i - 1]?).getD ⟨0, 0⟩
theorem field_L1 {f : TField} {kk : Unit → Option Int} (hl : f.Pairs.length ≤ 1000) : M40 f kk (f.Pairs.length + 1) 0 0 0 = chk (∀ i, i < f.Pairs.length → PairOK f.Pairs i) 240 (kk ()) := by
  refine chk_loop (f := fun n i => M40 f kk n (i : Int) (lastP f.Pairs i).A (lastP f.Pairs i).B) (fun n i hi => ?_) (fun n => ?_)
  · show M40 f kk (n + 1) (i : Int) _ _ = _
    rw [M40, dec_lt_nat, decide_eq_true hi, cond_true, idx_lt hi, some_bind, w64_succ (by omega)]
    have hx : f.Pairs[i]? = some f.Pairs[i] := by simp [hi]
    have hnext : lastP f.Pairs (i + 1) = f.Pairs[i] := by unfold lastP; simp [hi]
    rw [hnext]
    generalize f.Pairs[i] = p at hx
    have hok : PairOK f.Pairs i ↔ 1 ≤ p.A ∧ p.A < p.B ∧ p.B ≤ 9999 ∧ (0 < i → ∀ q, f.Pairs[i - 1]? = some q → PairLt q p) := by
      unfold PairOK; rw [hx]; simp
    have hlast : 1 ≤ p.A → ((0 < i → ∀ q, f.Pairs[i - 1]? = some q → PairLt q p) ↔ ¬(p.A < (lastP f.Pairs i).A ∨ p.A = (lastP f.Pairs i).A ∧ p.B ≤ (lastP f.Pairs i).B)) := by
      intro hA
      unfold lastP PairLt
      by_cases h0 : i = 0
      · subst h0; simp; omega
      · have h8 : i - 1 < f.Pairs.length := by omega
        rw [if_neg h0, List.getElem?_eq_getElem h8]
        simp only [Option.getD_some, Option.some.injEq, forall_eq']
        constructor
        · intro h; have := h (by omega); omega
        · intro h _; omega
    by_cases hOK : PairOK f.Pairs i
    · rw [chk_pos hOK]
      obtain ⟨h1, h2, h3, h4⟩ := hok.1 hOK
      have h5 := (hlast h1).1 h4
      rw [Bool.cond_eq_ite, if_neg]
      simp only [Bool.or_eq_true, Bool.and_eq_true, decide_eq_true_eq, beq_iff_eq]
      omega
    · rw [chk_neg hOK, Bool.cond_eq_ite, if_pos]
      simp only [Bool.or_eq_true, Bool.and_eq_true, decide_eq_true_eq, beq_iff_eq]
      by_cases h1 : 1 ≤ p.A
      · have h5 := hlast h1
        refine Classical.byContradiction fun h6 => hOK (hok.2 ⟨h1, by omega, by omega, h5.2 (by omega)⟩)
      · left; omega
  · show M40 f kk (n + 1) ((f.Pairs.length : Nat) : Int) _ _ = _
    rw [M40]
    simp
theorem ref24_L1 {f : TField} {kk : Unit → Option Int} (hl : f.Pairs.length ≤ 1000) : M278 f kk (f.Pairs.length + 1) 0 = chk (∀ i, i < f.Pairs.length → PairOK f.Pairs i) 240 (kk ()) := by
  refine chk_loop (f := fun n i => M278 f kk n (i : Int)) (fun n i hi => ?_) (fun n => ?_)
  · show M278 f kk (n + 1) (i : Int) = _
    rw [M278, dec_lt_nat, decide_eq_true hi, cond_true, idx_lt hi, some_bind, w64_succ (by omega)]
    have hx : f.Pairs[i]? = some f.Pairs[i] := by simp [hi]
    generalize f.Pairs[i] = p at hx
    have hok : PairOK f.Pairs i ↔ 1 ≤ p.A ∧ p.A < p.B ∧ p.B ≤ 9999 ∧ (0 < i → ∀ q, f.Pairs[i - 1]? = some q → PairLt q p) := by
      unfold PairOK; rw [hx]; simp
    rw [bif_dec, bif_dec, bif_dec]
    by_cases h1 : p.A < 1
    · rw [if_pos h1, chk_neg (fun h => by have := hok.1 h; omega)]
    rw [if_neg h1]
    by_cases h2 : p.A ≥ p.B
    · rw [if_pos h2, chk_neg (fun h => by have := hok.1 h; omega)]
    rw [if_neg h2]
    by_cases h3 : p.B > 9999
    · rw [if_pos h3, chk_neg (fun h => by have := hok.1 h; omega)]
    rw [if_neg h3]
    refine bind_chk ?_
    rw [hok, bif_dec]
    by_cases h6 : (i : Int) > 0
    · have h7 : 0 < i := by omega
      have h8 : i - 1 < f.Pairs.length := by omega
      rw [if_pos h6, pred_nat h7 (by omega), idx_lt h8, List.getElem?_eq_getElem h8]
      simp only [some_bind, bif_dec, bif_eq, Option.some.injEq, forall_eq']
      generalize f.Pairs[i - 1] = q
      unfold PairLt
      by_cases h9 : q.A > p.A
      · rw [if_pos h9]; exact ⟨true, rfl, by simp; omega⟩
      · rw [if_neg h9]
        by_cases h10 : q.A = p.A
        · rw [if_pos h10]; refine ⟨_, rfl, ?_⟩
          rw [decide_eq_true_iff]; omega
        · rw [if_neg h10]; refine ⟨false, rfl, ?_⟩
          simp; omega
    · rw [if_neg h6]
      refine ⟨false, rfl, ?_⟩
      simp only [Bool.false_eq_true, false_iff, Classical.not_not]
      exact ⟨by omega, by omega, by omega, fun h => by omega⟩
  · show M278 f kk (n + 1) ((f.Pairs.length : Nat) : Int) = _
    rw [M278]
    simp
theorem all_get {α : Type} {l : List α} {p : α → Prop} : (∀ j, j < l.length → ∀ o, l[j]? = some o → p o) ↔ ∀ o, o ∈ l → p o := by
  constructor
  · intro h o ho
    obtain ⟨j, hj, rfl⟩ := List.mem_iff_getElem.1 ho
    exact h j hj _ (by simp [hj])
  · intro h j hj o ho
    exact h o (List.mem_of_getElem? ho)
theorem field_L3 {f : TField} {kk : Unit → Option Int} (hk : ClocksOK f.Clocks) {l : List TOutcome} (hl : l.length < 9223372036854775807) : M41 f l kk (l.length + 1) 0 = chk (∀ o, o ∈ l → OutOK f.Clocks o) 240 (kk ()) := by
  refine (chk_loop (ok := fun j => ∀ o, l[j]? = some o → OutOK f.Clocks o) (k := kk ()) (r := 240) (f := fun n i => M41 f l kk n (i : Int)) (fun n i hi => ?_) (fun n => ?_)).trans (chk_congr all_get fun _ => rfl)
  · show M41 f l kk (n + 1) (i : Int) = _
    have hw : f.Clocks.Segments.length < 9223372036854775807 := by have := hk.few; omega
    rw [M41, dec_lt_nat, decide_eq_true hi, cond_true, idx_lt hi, some_bind, w64_succ (by omega), outcome_Check_eq hw, chk_pos hk]
    have hx : l[i]? = some l[i] := by simp [hi]
    rw [hx]
    by_cases h : OutOK f.Clocks l[i]
    · rw [chk_pos h, some_bind, chk_pos (by simpa using h)]; rfl
    · rw [chk_neg h, some_bind, chk_neg (by simpa using h)]; rfl
  · show M41 f l kk (n + 1) ((l.length : Nat) : Int) = _
    rw [M41]
    simp
theorem ref24_L4 {f : TField} {kk : Unit → Option Int} (hk : ClocksOK f.Clocks) {x : TRunner} {i : Nat} {l : List TOutcome} (hx : idx x.Worlds (i : Int) = some l) (hl : l.length < 9223372036854775807) : M279 f x i kk (l.length + 1) 0 = chk (∀ o, o ∈ l → OutOK f.Clocks o) 240 (kk ()) := by
  refine (chk_loop (ok := fun j => ∀ o, l[j]? = some o → OutOK f.Clocks o) (k := kk ()) (r := 240) (f := fun n j => M279 f x i kk n (j : Int)) (fun n j hj => ?_) (fun n => ?_)).trans (chk_congr all_get fun _ => rfl)
  · show M279 f x i kk (n + 1) (j : Int) = _
    have hw : f.Clocks.Segments.length < 9223372036854775807 := by have := hk.few; omega
    rw [M279, hx, some_bind, dec_lt_nat, decide_eq_true hj, cond_true, some_bind, idx_lt hj, some_bind, w64_succ (by omega), ref23_Check_eq hw, chk_pos hk]
    have hx : l[j]? = some l[j] := by simp [hj]
    rw [hx]
    by_cases h : OutOK f.Clocks l[j]
    · rw [chk_pos h, some_bind, chk_pos (by simpa using h)]; rfl
    · rw [chk_neg h, some_bind, chk_neg (by simpa using h)]; rfl
  · show M279 f x i kk (n + 1) ((l.length : Nat) : Int) = _
    rw [M279, hx, some_bind]
    simp
theorem ref24_L3 {f : TField} {kk : Unit → Option Int} (hk : ClocksOK f.Clocks) {x : TRunner} (h1 : x.Worlds.length ≤ 1000) (h2 : ∀ w, w ∈ x.Worlds → w.length ≤ 1000) : M281 f x kk (x.Worlds.length + 1) 0 = chk (∀ w, w ∈ x.Worlds → ∀ o, o ∈ w → OutOK f.Clocks o) 240 (kk ()) := by
  refine (chk_loop (ok := fun j => ∀ w, x.Worlds[j]? = some w → ∀ o, o ∈ w → OutOK f.Clocks o) (k := kk ()) (r := 240) (f := fun n j => M281 f x kk n (j : Int)) (fun n j hj => ?_) (fun n => ?_)).trans (chk_congr all_get fun _ => rfl)
  · show M281 f x kk (n + 1) (j : Int) = _
    have hx : x.Worlds[j]? = some x.Worlds[j] := by simp [hj]
    have hb := h2 _ (List.getElem_mem hj)
    rw [M281, dec_lt_nat, decide_eq_true hj, cond_true, idx_lt hj, Option.getD_some, fuel_sub, ref24_L4 hk (idx_lt hj) (by omega)]
    show chk _ _ (M281 f x kk n (w64 ((j : Int) + 1))) = _
    rw [w64_succ (by omega)]
    exact chk_congr (by rw [hx]; simp) fun _ => rfl
  · show M281 f x kk (n + 1) ((x.Worlds.length : Nat) : Int) = _
    rw [M281]
    simp
def RunnerOK (f : TField) (i : Nat) : Prop := ∀ r, f.Runners[i]? = some r → (1 ≤ r.Bib ∧ r.Bib ≤ 9999 ∧ (0 < i → ∀ q, f.Runners[i - 1]? = some q → q.Bib < r.Bib) ∧ (∀ z, f.Runners[0]? = some z → r.Keys.length = z.Keys.length) ∧ r.Worlds.length = f.Pairs.length + 1) ∧ ∀ w, w ∈ r.Worlds → ∀ o, o ∈ w → OutOK f.Clocks o
def lastB (f : TField) (i : Nat) : Int := if i = 0 then 0 else ((f.Runners[i - 1]?).map (·.Bib)).getD 0
theorem field_L2 {f : TField} {kk : Unit → Option Int} (hk : ClocksOK f.Clocks) (hs : Small f) : M43 f kk (f.Runners.length + 1) 0 0 = chk (∀ i, i < f.Runners.length → RunnerOK f i) 240 (kk ()) := by
  refine chk_loop' (f := fun n i => M43 f kk n (lastB f i) (i : Int)) (fun n i hi hp => ?_) (fun n _ => ?_)
  · show M43 f kk (n + 1) (lastB f i) (i : Int) = _
    have hsr := hs.runners
    have hsp := hs.pairs
    have h0 : 0 < f.Runners.length := by omega
    rw [M43, dec_lt_nat, decide_eq_true hi, cond_true, idx_lt hi, some_bind, w64_succ (by omega)]
    have hx : f.Runners[i]? = some f.Runners[i] := by simp [hi]
    have hz : idx f.Runners 0 = some f.Runners[0] := idx_lt (i := 0) h0
    have hz' : f.Runners[0]? = some f.Runners[0] := by simp [h0]
    rw [hz]
    have hnext : lastB f (i + 1) = f.Runners[i].Bib := by unfold lastB; simp [hi]
    obtain ⟨hw0, hw1, hw2⟩ := hs.worlds _ (List.getElem_mem hi)
    rw [hnext]
    generalize f.Runners[0] = z at hz'
    generalize f.Runners[i] = r at hx hw0 hw1 hw2
    have hok : RunnerOK f i ↔ (1 ≤ r.Bib ∧ r.Bib ≤ 9999 ∧ (0 < i → ∀ q, f.Runners[i - 1]? = some q → q.Bib < r.Bib) ∧ r.Keys.length = z.Keys.length ∧ r.Worlds.length = f.Pairs.length + 1) ∧ ∀ w, w ∈ r.Worlds → ∀ o, o ∈ w → OutOK f.Clocks o := by
      unfold RunnerOK; rw [hx, hz']; simp
    have hlast : lastB f i < r.Bib ↔ 1 ≤ r.Bib ∧ (0 < i → ∀ q, f.Runners[i - 1]? = some q → q.Bib < r.Bib) := by
      unfold lastB
      by_cases h0 : i = 0
      · subst h0; simp; omega
      · have h8 : i - 1 < f.Runners.length := by omega
        have := hp (i - 1) (by omega)
        unfold RunnerOK at this
        rw [List.getElem?_eq_getElem h8] at this
        have h9 := (this _ rfl).1.1
        rw [if_neg h0, List.getElem?_eq_getElem h8]
        simp only [Option.map_some, Option.getD_some, Option.some.injEq, forall_eq']
        constructor
        · intro h; exact ⟨by omega, fun _ => h⟩
        · intro h; exact h.2 (by omega)
    have hfin : (lastB f i < r.Bib ∧ r.Bib ≤ 9999 ∧ r.Keys.length = z.Keys.length ∧ r.Worlds.length = f.Pairs.length + 1) ∧ (∀ w, w ∈ r.Worlds → ∀ o, o ∈ w → OutOK f.Clocks o) ↔ RunnerOK f i := by
      rw [hok, hlast]
      constructor
      · rintro ⟨⟨⟨a, b⟩, c, d, e⟩, g⟩; exact ⟨⟨a, c, b, d, e⟩, g⟩
      · rintro ⟨⟨a, c, b, d, e⟩, g⟩; exact ⟨⟨⟨a, b⟩, c, d, e⟩, g⟩
    refine Eq.trans (bind_chk (p := lastB f i < r.Bib ∧ r.Bib ≤ 9999 ∧ r.Keys.length = z.Keys.length ∧ r.Worlds.length = f.Pairs.length + 1) ?_) (Eq.trans (chk_and' fun h => ?_) (chk_congr hfin fun _ => rfl))
    · rw [bif_dec, bif_dec, some_bind, bif_ne]
      by_cases h1 : r.Bib ≤ lastB f i
      · rw [if_pos h1]; exact ⟨true, rfl, by simp; omega⟩
      rw [if_neg h1]
      by_cases h2 : r.Bib > 9999
      · rw [if_pos h2]; exact ⟨true, rfl, by simp; omega⟩
      rw [if_neg h2]
      by_cases h3 : r.Keys.length = z.Keys.length
      · rw [if_pos (by omega)]
        refine ⟨_, rfl, ?_⟩
        rw [bne_iff_ne]
        omega
      · rw [if_neg (by omega)]; exact ⟨true, rfl, by simp [h3]⟩
    · rw [concat_eq hw1 hw2, some_bind, fuel_sub, field_L3 hk (by
        have : ∀ (ws : List (List TOutcome)), (∀ w, w ∈ ws → w.length ≤ 1000) → ws.flatten.length ≤ 1000 * ws.length := by
          intro ws
          induction ws with
          | nil => intro _; simp
          | cons a t ih =>
            intro h
            have h1 := ih (fun w hw => h w (by simp [hw]))
            have h2 := h a (by simp)
            simp only [List.flatten_cons, List.length_append, List.length_cons]
            omega
        have := this r.Worlds hw2
        omega)]
      refine chk_congr ?_ fun _ => ?_
      · simp only [List.mem_flatten]
        exact ⟨fun h w hw o ho => h o ⟨w, hw, ho⟩, fun h o ⟨w, hw, ho⟩ => h w hw o ho⟩
      · show M43 f kk n r.Bib (w64 ((i : Int) + 1)) = _
        rw [w64_succ (by omega)]
  · show M43 f kk (n + 1) _ ((f.Runners.length : Nat) : Int) = _
    rw [M43]
    simp
theorem bib_eq (n : Int) : M270 n = some (decide (1 ≤ n ∧ n ≤ 9999)) := by
  unfold M270 M269
  rw [bif_dec]
  by_cases h : 1 ≤ n
  · rw [if_pos (by omega)]; simp [h]
  · rw [if_neg (by omega)]; simp [h]
theorem ref24_L2 {f : TField} {kk : Unit → Option Int} (hk : ClocksOK f.Clocks) (hs : Small f) : M283 f kk (f.Runners.length + 1) 0 = chk (∀ i, i < f.Runners.length → RunnerOK f i) 240 (kk ()) := by
  refine chk_loop (f := fun n i => M283 f kk n (i : Int)) (fun n i hi => ?_) (fun n => ?_)
  · show M283 f kk (n + 1) (i : Int) = _
    have hsr := hs.runners
    have hsp := hs.pairs
    have h0 : 0 < f.Runners.length := by omega
    rw [M283, dec_lt_nat, decide_eq_true hi, cond_true, idx_lt hi, some_bind]
    have hx : f.Runners[i]? = some f.Runners[i] := by simp [hi]
    have hz : idx f.Runners 0 = some f.Runners[0] := idx_lt (i := 0) h0
    have hz' : f.Runners[0]? = some f.Runners[0] := by simp [h0]
    rw [hz]
    obtain ⟨hw0, hw1, hw2⟩ := hs.worlds _ (List.getElem_mem hi)
    generalize f.Runners[0] = z at hz'
    generalize f.Runners[i] = r at hx hw0 hw1 hw2
    have hok : ((1 ≤ r.Bib ∧ r.Bib ≤ 9999 ∧ (0 < i → ∀ q, f.Runners[i - 1]? = some q → q.Bib < r.Bib) ∧ r.Keys.length = z.Keys.length ∧ r.Worlds.length = f.Pairs.length + 1) ∧ ∀ w, w ∈ r.Worlds → ∀ o, o ∈ w → OutOK f.Clocks o) ↔ RunnerOK f i := by
      unfold RunnerOK; rw [hx, hz']; simp
    refine Eq.trans (bind_chk (p := 1 ≤ r.Bib ∧ r.Bib ≤ 9999 ∧ (0 < i → ∀ q, f.Runners[i - 1]? = some q → q.Bib < r.Bib) ∧ r.Keys.length = z.Keys.length ∧ r.Worlds.length = f.Pairs.length + 1) ?_) (Eq.trans (chk_and' fun h => ?_) (chk_congr hok fun _ => rfl))
    · rw [bib_eq, some_bind, bif_dec]
      by_cases h1 : 1 ≤ r.Bib ∧ r.Bib ≤ 9999
      · rw [decide_eq_true h1, Bool.not_true, cond_false]
        by_cases h6 : (i : Int) > 0
        · have h7 : 0 < i := by omega
          have h8 : i - 1 < f.Runners.length := by omega
          rw [if_pos h6, pred_nat h7 (by omega), idx_lt h8, List.getElem?_eq_getElem h8]
          simp only [some_bind, bif_dec, bif_ne, Option.some.injEq, forall_eq']
          generalize f.Runners[i - 1] = q
          by_cases h9 : q.Bib ≥ r.Bib
          · rw [if_pos h9]; exact ⟨true, rfl, by simp; omega⟩
          · rw [if_neg h9]
            by_cases h10 : r.Keys.length = z.Keys.length
            · rw [if_pos (by omega)]; refine ⟨_, rfl, ?_⟩
              rw [w64_succ (by omega), bne_iff_ne]; omega
            · rw [if_neg (by omega)]; exact ⟨true, rfl, by simp [h10]⟩
        · rw [if_neg h6, some_bind, bif_ne]
          have h7 : ¬0 < i := by omega
          by_cases h10 : r.Keys.length = z.Keys.length
          · rw [if_pos (by omega)]; refine ⟨_, rfl, ?_⟩
            rw [w64_succ (by omega), bne_iff_ne]; omega
          · rw [if_neg (by omega)]; exact ⟨true, rfl, by simp [h10]⟩
      · rw [decide_eq_false h1, Bool.not_false, cond_true]
        exact ⟨true, rfl, by simp; omega⟩
    · rw [fuel_sub, ref24_L3 hk hw1 hw2]
      show chk _ _ (M283 f kk n (w64 ((i : Int) + 1))) = _
      rw [w64_succ (by omega)]
  · show M283 f kk (n + 1) ((f.Runners.length : Nat) : Int) = _
    rw [M283]
    simp
def wl (l : List TRunner) (i w : Nat) : List TOutcome := ((l[i]?).bind fun r => r.Worlds[w]?).getD []
theorem wl_get {l : List TRunner} {i w : Nat} (hi : i < l.length) (hw : w < l[i].Worlds.length) : idx l[i].Worlds (w : Int) = some (wl l i w) := by
  rw [idx_lt hw]; unfold wl; simp [hi, hw]
def Poss (l : List TRunner) (w : Nat) : Prop := ∀ i, i < l.length → (wl l i w).length ≠ 0
theorem containsF_eq {l : List TRunner} {w : Nat} (hl : l.length ≤ 1000000) (hw : ∀ r, r ∈ l → w < r.Worlds.length) : ∃ b, M36 l (w : Int) = some b ∧ (b = true ↔ ¬Poss l w) := by
  unfold M36 M35
  rw [fuel_sub]
  obtain ⟨r, h1, h2⟩ := find_loop (N := l.length) (f := fun n i => M33 l (w : Int) M34 n (i : Int)) (p := fun i => (wl l i w).length = 0) (fun n i hi => by
    show M33 l (w : Int) _ (n + 1) (i : Int) = _
    rw [M33, dec_lt_nat, decide_eq_true hi, cond_true, idx_lt hi, some_bind, w64_succ (by omega)]
    unfold M32
    rw [wl_get hi (hw _ (List.getElem_mem hi)), some_bind, some_bind, bif_eq]
    by_cases h : (wl l i w).length = 0
    · rw [if_pos h, if_pos (by omega)]
    · rw [if_neg h, if_neg (by omega)]) (fun n => by
    show M33 l (w : Int) _ (n + 1) ((l.length : Nat) : Int) = _
    rw [M33]
    simp [M34])
  refine ⟨decide (r ≥ 0), ?_, ?_⟩
  · have h1 : M33 l (w : Int) M34 (l.length + 1) 0 = some r := h1
    rw [h1]; rfl
  · rw [decide_eq_true_iff, h2]
    unfold Poss
    simp only [Classical.not_forall, Classical.not_not, exists_prop]
theorem field_possible_eq {f : TField} (hs : Small f) (hr : ∀ r, r ∈ f.Runners → r.Worlds.length = f.Pairs.length + 1) : M39 f = chk (∀ w, w < f.Pairs.length + 1 → ¬Poss f.Runners w) true (some false) := by
  have hsr := hs.runners
  have hsp := hs.pairs
  unfold M39
  rw [w64_succ (by omega), fuel_sub]
  refine chk_loop (N := f.Pairs.length + 1) (f := fun n w => M37 f M38 n (w : Int)) (fun n w hw => ?_) (fun n => ?_)
  · show M37 f M38 (n + 1) (w : Int) = _
    obtain ⟨b, h1, h2⟩ := containsF_eq hsr (w := w) (fun r h => by rw [hr r h]; exact hw)
    rw [M37, w64_succ (by omega), dec_lt_nat, decide_eq_true hw, cond_true, h1, some_bind, w64_succ (by omega)]
    cases b with
    | true => rw [chk_pos (h2.1 rfl)]; rfl
    | false => rw [chk_neg (fun h => by simpa using h2.2 h)]; rfl
  · show M37 f M38 (n + 1) ((f.Pairs.length + 1 : Nat) : Int) = _
    rw [M37, w64_succ (by omega)]
    simp [M38]
theorem ref24_Possible_eq {f : TField} (hs : Small f) (hr : ∀ r, r ∈ f.Runners → r.Worlds.length = f.Pairs.length + 1) {w : Nat} (hw : w < f.Pairs.length + 1) : M274 f (w : Int) = chk (Poss f.Runners w) false (some true) := by
  have hsr := hs.runners
  have hsp := hs.pairs
  unfold M274
  rw [fuel_sub]
  refine chk_loop (f := fun n i => M272 f (w : Int) M273 n (i : Int)) (fun n i hi => ?_) (fun n => ?_)
  · show M272 f (w : Int) M273 (n + 1) (i : Int) = _
    have hwi : w < f.Runners[i].Worlds.length := by rw [hr _ (List.getElem_mem hi)]; exact hw
    rw [M272, dec_lt_nat, decide_eq_true hi, cond_true, bif_dec, if_neg (by omega), idx_lt hi, some_bind, bif_dec, if_neg (by omega), some_bind, wl_get hi hwi, some_bind, bif_eq, w64_succ (by omega)]
    by_cases h : (wl f.Runners i w).length = 0
    · rw [if_pos (by omega), chk_neg (fun h' => h' h)]
    · rw [if_neg (by omega), chk_pos h]
  · show M272 f (w : Int) M273 (n + 1) ((f.Runners.length : Nat) : Int) = _
    rw [M272]
    simp [M273]
theorem ref24_possible_eq {f : TField} (hs : Small f) (hr : ∀ r, r ∈ f.Runners → r.Worlds.length = f.Pairs.length + 1) : M277 f = chk (∀ w, w < f.Pairs.length + 1 → ¬Poss f.Runners w) true (some false) := by
  have hsr := hs.runners
  have hsp := hs.pairs
  unfold M277
  rw [fuel_add]
  refine chk_loop (N := f.Pairs.length + 1) (f := fun n w => M275 f M276 n (w : Int)) (fun n w hw => ?_) (fun n => ?_)
  · show M275 f M276 (n + 1) (w : Int) = _
    rw [M275, dec_le_nat, decide_eq_true hw, cond_true, ref24_Possible_eq hs hr hw, w64_succ (by omega)]
    by_cases h : Poss f.Runners w
    · rw [chk_pos h, chk_neg (fun h' => h' h)]; rfl
    · rw [chk_neg h, chk_pos h]; rfl
  · show M275 f M276 (n + 1) ((f.Pairs.length + 1 : Nat) : Int) = _
    rw [M275, dec_le_nat]
    simp [M276]
structure FieldOK (f : TField) : Prop where
  clocks : ClocksOK f.Clocks
  size : f.Pairs.length ≤ 16 ∧ 1 ≤ f.Runners.length ∧ f.Runners.length ≤ 4000
  pair : ∀ i, i < f.Pairs.length → PairOK f.Pairs i
  runner : ∀ i, i < f.Runners.length → RunnerOK f i
  poss : ¬∀ w, w < f.Pairs.length + 1 → ¬Poss f.Runners w
theorem worlds_of {f : TField} (h : ∀ i, i < f.Runners.length → RunnerOK f i) : ∀ r, r ∈ f.Runners → r.Worlds.length = f.Pairs.length + 1 := by
  intro r hr
  obtain ⟨i, hi, rfl⟩ := List.mem_iff_getElem.1 hr
  exact (h i hi _ (by simp [hi])).1.2.2.2.2
theorem fieldOK_iff (f : TField) : (ClocksOK f.Clocks ∧ f.Pairs.length ≤ 16 ∧ 1 ≤ f.Runners.length ∧ f.Runners.length ≤ 4000) ∧ (∀ i, i < f.Pairs.length → PairOK f.Pairs i) ∧ (∀ i, i < f.Runners.length → RunnerOK f i) ∧ (¬∀ w, w < f.Pairs.length + 1 → ¬Poss f.Runners w) ↔ FieldOK f :=
  ⟨fun ⟨⟨a, b⟩, c, d, e⟩ => ⟨a, b, c, d, e⟩, fun ⟨a, b, c, d, e⟩ => ⟨⟨a, b⟩, c, d, e⟩⟩
theorem field_Check_eq {f : TField} (hs : Small f) : M46 f = chk (FieldOK f) 240 (some 0) := by
  have hsg := hs.seg
  unfold M46
  refine Eq.trans (bind_chk (p := ClocksOK f.Clocks ∧ f.Pairs.length ≤ 16 ∧ 1 ≤ f.Runners.length ∧ f.Runners.length ≤ 4000) ?_) (Eq.trans (chk_and' (q := (∀ i, i < f.Pairs.length → PairOK f.Pairs i) ∧ (∀ i, i < f.Runners.length → RunnerOK f i) ∧ (¬∀ w, w < f.Pairs.length + 1 → ¬Poss f.Runners w)) fun h => ?_) (chk_congr (fieldOK_iff f) fun _ => rfl))
  · rw [clocks_Check_eq (by omega)]
    by_cases h1 : ClocksOK f.Clocks
    · rw [chk_pos h1, some_bind, bif_dec, bif_dec]
      simp only [bne_self_eq_false, cond_false]
      by_cases h2 : f.Pairs.length ≤ 16
      · rw [if_neg (by omega)]
        by_cases h3 : 1 ≤ f.Runners.length
        · rw [if_neg (by omega)]
          refine ⟨_, rfl, ?_⟩
          rw [decide_eq_true_iff]
          simp only [h1, h2, h3, true_and]
          omega
        · rw [if_pos (by omega)]; exact ⟨true, rfl, by simp [h3]⟩
      · rw [if_pos (by omega)]; exact ⟨true, rfl, by simp [h2]⟩
    · rw [chk_neg h1, some_bind]; exact ⟨true, rfl, by simp [h1]⟩
  · rw [fuel_sub, field_L1 hs.pairs]
    refine chk_and' fun h2 => ?_
    show M43 f (M44 f) _ 0 0 = _
    rw [fuel_sub, field_L2 h.1 hs]
    refine chk_and' fun h3 => ?_
    unfold M44
    rw [field_possible_eq hs (worlds_of h3)]
    by_cases h4 : ∀ w, w < f.Pairs.length + 1 → ¬Poss f.Runners w
    · rw [chk_pos h4, chk_neg (fun h => h h4)]; rfl
    · rw [chk_neg h4, chk_pos h4]; rfl
theorem ref24_Check_eq {f : TField} (hs : Small f) : M286 f = chk (FieldOK f) 240 (some 0) := by
  have hsg := hs.seg
  unfold M286
  refine Eq.trans (bind_chk (p := ClocksOK f.Clocks ∧ f.Pairs.length ≤ 16 ∧ 1 ≤ f.Runners.length ∧ f.Runners.length ≤ 4000) ?_) (Eq.trans (chk_and' (q := (∀ i, i < f.Pairs.length → PairOK f.Pairs i) ∧ (∀ i, i < f.Runners.length → RunnerOK f i) ∧ (¬∀ w, w < f.Pairs.length + 1 → ¬Poss f.Runners w)) fun h => ?_) (chk_congr (fieldOK_iff f) fun _ => rfl))
  · rw [ref16_Check_eq (by omega)]
    by_cases h1 : ClocksOK f.Clocks
    · rw [chk_pos h1, some_bind, bif_dec, bif_dec]
      simp only [bne_self_eq_false, cond_false]
      by_cases h2 : f.Pairs.length ≤ 16
      · rw [if_neg (by omega)]
        by_cases h3 : 1 ≤ f.Runners.length
        · rw [if_neg (by omega)]
          refine ⟨_, rfl, ?_⟩
          rw [decide_eq_true_iff]
          simp only [h1, h2, h3, true_and]
          omega
        · rw [if_pos (by omega)]; exact ⟨true, rfl, by simp [h3]⟩
      · rw [if_pos (by omega)]; exact ⟨true, rfl, by simp [h2]⟩
    · rw [chk_neg h1, some_bind]; exact ⟨true, rfl, by simp [h1]⟩
  · rw [fuel_sub, ref24_L1 hs.pairs]
    refine chk_and' fun h2 => ?_
    show M283 f (M284 f) _ 0 = _
    rw [fuel_sub, ref24_L2 h.1 hs]
    refine chk_and' fun h3 => ?_
    unfold M284
    rw [ref24_possible_eq hs (worlds_of h3)]
    by_cases h4 : ∀ w, w < f.Pairs.length + 1 → ¬Poss f.Runners w
    · rw [chk_pos h4, chk_neg (fun h => h h4)]; rfl
    · rw [chk_neg h4, chk_pos h4]; rfl
theorem far_get {k : TClocks} (hk : ClocksOK k) {i j : Nat} (hi : i < k.Segments.length + 1) (hj : j < k.Segments.length + 1) : ∃ row, idx k.Far (i : Int) = some row ∧ idx row (j : Int) = some (at2 k.Far i j) := by
  obtain ⟨row, h1, h2, h3⟩ := rows_get hk.row hk.far hi
  exact ⟨row, h2, idx2 h1 (by omega)⟩
theorem wl_mem {f : TField} (hf : FieldOK f) {i w : Nat} (hi : i < f.Runners.length) (hw : w < f.Pairs.length + 1) : wl f.Runners i w ∈ f.Runners[i].Worlds ∧ idx f.Runners[i].Worlds (w : Int) = some (wl f.Runners i w) := by
  have hl := worlds_of hf.runner _ (List.getElem_mem hi)
  have hw' : w < f.Runners[i].Worlds.length := by omega
  refine ⟨?_, wl_get hi hw'⟩
  unfold wl
  simp [hi, hw']
theorem wl_ok {f : TField} (hf : FieldOK f) {i w : Nat} (hi : i < f.Runners.length) (hw : w < f.Pairs.length + 1) : ∀ o, o ∈ wl f.Runners i w → OutOK f.Clocks o :=
  fun o ho => (hf.runner i hi _ (by simp [hi])).2 _ (wl_mem hf hi hw).1 o ho
theorem wl_len {f : TField} (hs : Small f) (hf : FieldOK f) {i w : Nat} (hi : i < f.Runners.length) (hw : w < f.Pairs.length + 1) : (wl f.Runners i w).length ≤ 1000 :=
  (hs.worlds _ (List.getElem_mem hi)).2.2 _ (wl_mem hf hi hw).1
theorem find_at {α β : Type} {l : List α} {f : Nat → Nat → Option β} {p : α → Bool} {A : Nat → α → β} {k : Option β}
    (hs : ∀ n i (h : i < l.length), f (n + 1) i = if p l[i] = true then some (A i l[i]) else f n (i + 1)) (he : ∀ n, f (n + 1) l.length = k) :
    (∃ i, ∃ h : i < l.length, p l[i] = true ∧ f (l.length + 1) 0 = some (A i l[i]) ∧ ∀ j (hj : j < l.length), j < i → p l[j] = false) ∨ ((∀ x, x ∈ l → p x = false) ∧ f (l.length + 1) 0 = k) := by
  have key : ∀ c i n, i + c = l.length → c ≤ n → (∀ j (hj : j < l.length), j < i → p l[j] = false) → (∃ i', ∃ h : i' < l.length, p l[i'] = true ∧ f (n + 1) i = some (A i' l[i']) ∧ ∀ j (hj : j < l.length), j < i' → p l[j] = false) ∨ ((∀ x, x ∈ l → p x = false) ∧ f (n + 1) i = k) := by
    intro c
    induction c with
    | zero =>
      intro i n h _ hp
      have : i = l.length := by omega
      subst this
      refine .inr ⟨fun x hx => ?_, he n⟩
      obtain ⟨j, hj, rfl⟩ := List.mem_iff_getElem.1 hx
      exact hp j hj hj
    | succ c ih =>
      intro i n h hn hp
      have hi : i < l.length := by omega
      rw [hs n i hi]
      obtain ⟨n, rfl⟩ : ∃ n', n = n' + 1 := ⟨n - 1, by omega⟩
      by_cases h1 : p l[i] = true
      · rw [if_pos h1]
        exact .inl ⟨i, hi, h1, rfl, hp⟩
      · rw [if_neg h1]
        refine ih (i + 1) n (by omega) (by omega) fun j hj hlt => ?_
        by_cases e : j = i
        · subst e; simpa using h1
        · exact hp j hj (by omega)
  exact key l.length 0 l.length (by omega) (by omega) (fun j _ h => absurd h (by omega))
theorem any_loop {α β : Type} {l : List α} {f : Nat → Nat → Option β} {p : α → Bool} {r : β} {k : Option β}
    (hs : ∀ n i (h : i < l.length), f (n + 1) i = if p l[i] = true then some r else f n (i + 1)) (he : ∀ n, f (n + 1) l.length = k) :
    f (l.length + 1) 0 = if l.any p = true then some r else k := by
  rcases find_at (A := fun _ _ => r) hs he with ⟨i, h, h1, h2, _⟩ | ⟨h1, h2⟩
  · rw [h2, if_pos]
    rw [List.any_eq_true]
    exact ⟨_, List.getElem_mem h, h1⟩
  · rw [h2, if_neg]
    intro h
    obtain ⟨x, hx, hp⟩ := List.any_eq_true.1 h
    rw [h1 x hx] at hp
    cases hp
theorem inv_loop {σ β : Type} {N : Nat} {f : Nat → Nat → σ → Option β} {k : σ → Option β} {I : Nat → σ → Prop} (hs : ∀ i s, i < N → I i s → ∃ s', I (i + 1) s' ∧ ∀ n, f (n + 1) i s = f n (i + 1) s') (he : ∀ n s, f (n + 1) N s = k s) {s0 : σ} (h0 : I 0 s0) :
    ∃ s, f (N + 1) 0 s0 = k s ∧ I N s := by
  have key : ∀ c i n s, i + c = N → c ≤ n → I i s → ∃ s', f (n + 1) i s = k s' ∧ I N s' := by
    intro c
    induction c with
    | zero =>
      intro i n s h _ hi
      have : i = N := by omega
      subst this
      exact ⟨s, he n s, hi⟩
    | succ c ih =>
      intro i n s h hn hi
      obtain ⟨s', h1, h2⟩ := hs i s (by omega) hi
      obtain ⟨n, rfl⟩ : ∃ n', n = n' + 1 := ⟨n - 1, by omega⟩
      rw [h2]
      exact ih (i + 1) n s' (by omega) (by omega) h1
  exact key N 0 N s0 (by omega) (by omega) h0
def kLt : List Int → List Int → Bool
  | _, [] => false
  | [], _ :: _ => true
  | a :: s, b :: t => if a = b then kLt s t else decide (a < b)
def vr (x : TOutcome) : Nat := (x.Seg + 1).toNat
def keys (f : TField) (i : Nat) : List Int := ((f.Runners[i]?).map (·.Keys)).getD []
abbrev far (f : TField) (i j : Nat) : Int := at2 f.Clocks.Far i j
abbrev nseg (f : TField) : Nat := f.Clocks.Segments.length
theorem vr_eq {k : TClocks} {x : TOutcome} (hk : ClocksOK k) (h : OutOK k x) (ho : x.Out = false) : w64 (x.Seg + 1) = (vr x : Int) ∧ vr x < k.Segments.length + 1 := by
  obtain ⟨h1, h2, _⟩ := h.2 ho
  have := hk.few
  unfold vr
  exact ⟨by rw [w64_of (by omega) (by omega)]; omega, by omega⟩
theorem far_bound {f : TField} (hf : FieldOK f) {i j : Nat} (hi : i < nseg f + 1) (hj : j < nseg f + 1) : -2199023255552 ≤ far f i j ∧ far f i j ≤ 2199023255552 :=
  (hf.clocks.row i (by rw [hf.clocks.far]; exact hi)).2.2 j hj
theorem far_self {f : TField} (hf : FieldOK f) {i : Nat} (hi : i < nseg f + 1) : far f i i = 0 :=
  (hf.clocks.row i (by rw [hf.clocks.far]; exact hi)).2.1
theorem far_tri {f : TField} (hf : FieldOK f) {i j m : Nat} (hi : i < nseg f + 1) (hj : j < nseg f + 1) (hm : m < nseg f + 1) : far f i m ≤ far f i j + far f j m := by
  have h := hf.clocks.tri i hi j hj m hm
  have h1 := far_bound hf hi hj
  have h2 := far_bound hf hj hm
  unfold far at h1 h2 ⊢
  rw [w64_of (by omega) (by omega)] at h
  omega
def front (f : TField) (k r : Nat) (d : Int) : Bool := decide (d < 0) || (decide (d = 0) && kLt (keys f k) (keys f r))
def forced (f : TField) (r : Nat) (x : TOutcome) (k : Nat) (y : TOutcome) : Bool := !y.Out && front f k r (y.Hi + far f (vr x) (vr y) - x.Lo)
def can (f : TField) (r : Nat) (x : TOutcome) (k : Nat) (y : TOutcome) : Bool := !y.Out && front f k r (y.Lo - far f (vr y) (vr x) - x.Hi)
abbrev nrun (f : TField) : Nat := f.Runners.length
abbrev npair (f : TField) : Nat := f.Pairs.length
def Occ (f : TField) (r w i : Nat) (x : TOutcome) : Prop := w < npair f + 1 ∧ Poss f.Runners w ∧ (wl f.Runners r w)[i]? = some x
def Vis (f : TField) (r w i : Nat) (w' i' : Nat) (x : TOutcome) : Prop := (w' < w ∨ w' = w ∧ i' < i) ∧ Occ f r w' i' x
theorem Vis.all {f : TField} {r : Nat} (w' i' : Nat) (x' : TOutcome) : Vis f r (npair f + 1) 0 w' i' x' ↔ Occ f r w' i' x' := by
  unfold Vis
  exact ⟨fun h => h.2, fun h => ⟨.inl h.1, h⟩⟩
def off (h : THistory) (i : Nat) : Int := ((0 :: h.Offsets)[i]?).getD 0
def ch (h : THistory) (k : Nat) : TChoice := (h.Choices[k]?).getD default
def oc (f : TField) (h : THistory) (k : Nat) : TOutcome := ((wl f.Runners k h.World.toNat)[(ch h k).Outcome.toNat]?).getD default
def net (f : TField) (h : THistory) (k : Nat) : Int := (ch h k).X + off h (vr (oc f h k))
theorem vr_lt {f : TField} (hf : FieldOK f) {x : TOutcome} (hx : OutOK f.Clocks x) (hxo : x.Out = false) : vr x < nseg f + 1 := (vr_eq hf.clocks hx hxo).2
theorem front_mono {f : TField} {k r : Nat} {d e : Int} (h : e ≤ d) (hd : front f k r d = true) : front f k r e = true := by
  unfold front at *
  simp only [Bool.or_eq_true, Bool.and_eq_true, decide_eq_true_eq] at *
  rcases hd with hd | ⟨hd, hk⟩
  · left; omega
  · by_cases he : e < 0
    · exact .inl he
    · exact .inr ⟨by omega, hk⟩
def Lst {α : Type} (P : Nat → α → Prop) (i : Nat) (l : List α) : Prop := l.length = i ∧ ∀ j x, l[j]? = some x → P j x
theorem Lst.nil {α : Type} {P : Nat → α → Prop} : Lst P 0 [] := ⟨rfl, fun j x h => by simp at h⟩
def sureXY (f : TField) (a b : Nat) (x y : TOutcome) : Bool := !x.Out && (y.Out || forced f b y a x)
def mayXY (f : TField) (a b : Nat) (x y : TOutcome) : Bool := !x.Out && (y.Out || can f b y a x)
structure IsAhead (f : TField) (a b : Nat) (c p : Bool) : Prop where
  sure : c = true ↔ a ≠ b ∧ ∀ w, w < npair f + 1 → Poss f.Runners w → ∀ x, x ∈ wl f.Runners a w → ∀ y, y ∈ wl f.Runners b w → sureXY f a b x y = true
  may : p = true ↔ a ≠ b ∧ ∃ w, w < npair f + 1 ∧ Poss f.Runners w ∧ ∃ x, x ∈ wl f.Runners a w ∧ ∃ y, y ∈ wl f.Runners b w ∧ mayXY f a b x y = true
theorem forced_can {f : TField} (hf : FieldOK f) {r k : Nat} {x y : TOutcome} (hx : OutOK f.Clocks x) (hy : OutOK f.Clocks y) (hxo : x.Out = false) (h : forced f r x k y = true) : can f r x k y = true := by
  unfold forced at h
  unfold can
  rw [Bool.and_eq_true] at h ⊢
  refine ⟨h.1, front_mono ?_ h.2⟩
  have hyo : y.Out = false := by simpa using h.1
  obtain ⟨_, _, b1, b2, b3⟩ := hx.2 hxo
  obtain ⟨_, _, b4, b5, b6⟩ := hy.2 hyo
  have h1 := far_tri hf (vr_lt hf hx hxo) (vr_lt hf hy hyo) (vr_lt hf hx hxo)
  rw [far_self hf (vr_lt hf hx hxo)] at h1
  omega
theorem some_world {f : TField} (hf : FieldOK f) : ∃ w, w < npair f + 1 ∧ Poss f.Runners w := by
  refine Classical.byContradiction fun h => hf.poss fun w hw hp => h ⟨w, hw, hp⟩
theorem some_out {f : TField} {k w : Nat} (hk : k < nrun f) (hp : Poss f.Runners w) : ∃ y, y ∈ wl f.Runners k w := by
  have := hp k hk
  exact ⟨(wl f.Runners k w)[0]'(by omega), List.getElem_mem _⟩
theorem IsAhead.imp {f : TField} (hf : FieldOK f) {a b : Nat} (ha : a < nrun f) (hb : b < nrun f) {c p : Bool} (h : IsAhead f a b c p) (hc : c = true) : p = true := by
  obtain ⟨h1, h2⟩ := h.sure.1 hc
  obtain ⟨w, hw, hp⟩ := some_world hf
  obtain ⟨x, hx⟩ := some_out ha hp
  obtain ⟨y, hy⟩ := some_out hb hp
  refine h.may.2 ⟨h1, w, hw, hp, x, hx, y, hy, ?_⟩
  have h3 := h2 w hw hp x hx y hy
  unfold sureXY at h3
  unfold mayXY
  rw [Bool.and_eq_true, Bool.or_eq_true] at h3 ⊢
  refine ⟨h3.1, ?_⟩
  cases hyo : y.Out with
  | true => exact .inl rfl
  | false =>
    rw [hyo] at h3
    rcases h3.2 with h4 | h4
    · cases h4
    · exact .inr (forced_can hf (wl_ok hf hb hw y hy) (wl_ok hf ha hw x hx) hyo h4)
theorem chk_bool (p : Prop) : ∃ b, chk p false (some true) = some b ∧ (b = true ↔ p) := by
  by_cases h : p
  · exact ⟨true, chk_pos h, by simp [h]⟩
  · exact ⟨false, chk_neg h, by simp [h]⟩
theorem few16_eq {k : TClocks} (hw : wTClocks k) : ∃ b, M246 k = some b ∧ (b = true → k.Segments.length ≤ 8 ∧ k.Far.length ≤ 10) := by
  obtain ⟨hsg, hfar⟩ := hw
  unfold M246
  rw [bif_dec, bif_dec]
  by_cases h1 : k.Segments.length ≤ 8
  · rw [if_neg (by omega)]
    by_cases h2 : k.Far.length ≤ 10
    · rw [if_neg (by omega), fuel_sub]
      obtain ⟨b, hb1, _⟩ := chk_bool (∀ i, i < k.Far.length → ∀ r, k.Far[i]? = some r → r.length ≤ 12)
      refine ⟨b, (chk_loop (N := k.Far.length) (f := fun n i => M244 k M245 n (i : Int)) (r := false) (k := some true) (ok := fun i => ∀ r, k.Far[i]? = some r → r.length ≤ 12) (fun n i hi => ?_) (fun n => ?_)).trans hb1, fun _ => ⟨h1, h2⟩⟩
      · show M244 k M245 (n + 1) (i : Int) = _
        have hx : k.Far[i]? = some k.Far[i] := by simp [hi]
        rw [M244, dec_lt_nat, decide_eq_true hi, cond_true, idx_lt hi, some_bind, bif_dec, w64_succ (by omega), hx]
        generalize k.Far[i] = r
        simp only [Option.some.injEq, forall_eq']
        by_cases h3 : r.length ≤ 12
        · rw [if_neg (by omega), chk_pos h3]
        · rw [if_pos (by omega), chk_neg h3]
      · show M244 k M245 (n + 1) ((k.Far.length : Nat) : Int) = _
        rw [M244]; simp [M245]
    · rw [if_pos (by omega)]; exact ⟨false, rfl, fun h => by cases h⟩
  · rw [if_pos (by omega)]; exact ⟨false, rfl, fun h => by cases h⟩
theorem few24_L2 {x : TRunner} (hx : x.Worlds.length ≤ 5) (hl : ∀ w, w ∈ x.Worlds → w.length ≤ 140737488351232) {c : Int} (hc : 0 ≤ c ∧ c ≤ 6000000000000000) :
    ∃ s : Int, M247 x (x.Worlds.length + 1) c 0 = some s ∧ c ≤ s ∧ s ≤ c + 5 * 140737488351232 ∧ ∀ w, w ∈ x.Worlds → (w.length : Int) ≤ s := by
  obtain ⟨s, h1, h2⟩ := inv_loop (N := x.Worlds.length) (f := fun n i (s : Int) => M247 x n s (i : Int)) (k := some) (I := fun i s => c ≤ s ∧ s ≤ c + i * 140737488351232 ∧ ∀ j, j < i → ∀ w, x.Worlds[j]? = some w → (w.length : Int) ≤ s) (s0 := c) (fun i s hi hI => by
    obtain ⟨h1, h2, h3⟩ := hI
    have hw := hl _ (List.getElem_mem hi)
    refine ⟨s + ((x.Worlds[i]).length : Int), ⟨by omega, by have : ((i + 1 : Nat) : Int) = (i : Int) + 1 := rfl; rw [this]; omega, fun j hj w hjw => ?_⟩, fun n => ?_⟩
    · by_cases e : j = i
      · subst e
        rw [List.getElem?_eq_getElem hi] at hjw
        cases hjw
        omega
      · have := h3 j (by omega) w hjw
        omega
    · show M247 x (n + 1) s (i : Int) = _
      rw [M247, dec_lt_nat, decide_eq_true hi, cond_true, idx_lt hi, some_bind, w64_succ (by omega), w64_of (by omega) (by omega)]) (fun n s => by
    show M247 x (n + 1) s ((x.Worlds.length : Nat) : Int) = _
    rw [M247]; simp) ⟨by omega, by omega, fun j hj => absurd hj (by omega)⟩
  refine ⟨s, h1, h2.1, by have := h2.2.1; omega, fun w hw => ?_⟩
  obtain ⟨j, hj, rfl⟩ := List.mem_iff_getElem.1 hw
  exact h2.2.2 j hj _ (by simp [hj])
theorem few24_eq {f : TField} (hw : wTField f) : ∃ b, M250 f = some b ∧ (b = true → Small f ∧ f.Runners.length ≤ 6 ∧ f.Pairs.length ≤ 3 ∧ f.Clocks.Segments.length ≤ 8 ∧ f.Clocks.Far.length ≤ 10 ∧ ∀ r, r ∈ f.Runners → r.Keys.length ≤ 8 ∧ r.Worlds.length ≤ 5 ∧ ∀ w, w ∈ r.Worlds → w.length ≤ 60) := by
  obtain ⟨hk, _, hrun⟩ := hw
  unfold M250
  rw [bif_dec, bif_dec]
  by_cases h1 : f.Runners.length ≤ 6
  · rw [if_neg (by omega)]
    by_cases h2 : f.Pairs.length ≤ 3
    · rw [if_neg (by omega)]
      obtain ⟨b, h3, h4⟩ := few16_eq hk
      rw [h3, some_bind]
      cases b with
      | false => exact ⟨false, rfl, fun h => by cases h⟩
      | true =>
        obtain ⟨h5, h6⟩ := h4 rfl
        simp only [Bool.not_true, cond_false]
        rw [fuel_sub]
        have key : ∀ c i n (s : Int), i + c = f.Runners.length → c ≤ n → 0 ≤ s → s ≤ i * (5 * 140737488351232) → (∀ j, j < i → ∀ r, f.Runners[j]? = some r → r.Keys.length ≤ 8 ∧ r.Worlds.length ≤ 5 ∧ ∀ w, w ∈ r.Worlds → (w.length : Int) ≤ s) →
            ∃ b, M248 f M249 (n + 1) s (i : Int) = some b ∧ (b = true → ∀ r, r ∈ f.Runners → r.Keys.length ≤ 8 ∧ r.Worlds.length ≤ 5 ∧ ∀ w, w ∈ r.Worlds → w.length ≤ 60) := by
          intro c
          induction c with
          | zero =>
            intro i n s h _ _ _ hI
            have : i = f.Runners.length := by omega
            subst this
            rw [M248, dec_lt_nat, decide_eq_false (by omega), cond_false]
            refine ⟨_, rfl, fun hb r hr => ?_⟩
            have hs : s ≤ 60 := by simpa using hb
            obtain ⟨j, hj, rfl⟩ := List.mem_iff_getElem.1 hr
            obtain ⟨a, b, c⟩ := hI j hj _ (List.getElem?_eq_getElem hj)
            exact ⟨a, b, fun w hw => by have := c w hw; omega⟩
          | succ c ih =>
            intro i n s h hn hs0 hs1 hI
            obtain ⟨n, rfl⟩ : ∃ n', n = n' + 1 := ⟨n - 1, by omega⟩
            have hi : i < f.Runners.length := by omega
            have hrw := hrun.2 _ (List.getElem_mem hi)
            rw [M248, dec_lt_nat, decide_eq_true hi, cond_true, idx_lt hi, some_bind, bif_dec, bif_dec, fuel_sub]
            have hx : f.Runners[i]? = some f.Runners[i] := by simp [hi]
            generalize f.Runners[i] = r at hx hrw
            by_cases g1 : r.Keys.length ≤ 8
            · rw [if_neg (by omega)]
              by_cases g2 : r.Worlds.length ≤ 5
              · rw [if_neg (by omega)]
                obtain ⟨s', k1, k2, k3, k4⟩ := few24_L2 g2 (fun w hw => (hrw.2.2.2 w hw).1) (c := s) ⟨hs0, by omega⟩
                rw [k1, some_bind, w64_succ (by omega)]
                refine ih (i + 1) n s' (by omega) (by omega) (by omega) (by have : ((i + 1 : Nat) : Int) = (i : Int) + 1 := rfl; rw [this]; omega) fun j hj q hq => ?_
                by_cases e : j = i
                · subst e
                  rw [hx] at hq; cases hq
                  exact ⟨g1, g2, k4⟩
                · obtain ⟨a, b, c⟩ := hI j (by omega) q hq
                  exact ⟨a, b, fun w hw => by have := c w hw; omega⟩
              · rw [if_pos (by omega)]; exact ⟨false, rfl, fun h => by cases h⟩
            · rw [if_pos (by omega)]; exact ⟨false, rfl, fun h => by cases h⟩
        obtain ⟨b, g1, g2⟩ := key f.Runners.length 0 f.Runners.length 0 (by omega) (by omega) (by omega) (by omega) (fun j hj => absurd hj (by omega))
        refine ⟨b, g1, fun hb => ?_⟩
        have g3 := g2 hb
        exact ⟨⟨by omega, by omega, by omega, fun r hr => by
          obtain ⟨a, b, c⟩ := g3 r hr
          exact ⟨by omega, by omega, fun w hw => by have := c w hw; omega⟩⟩, h1, h2, h5, h6, g3⟩
    · rw [if_pos (by omega)]; exact ⟨false, rfl, fun h => by cases h⟩
  · rw [if_pos (by omega)]; exact ⟨false, rfl, fun h => by cases h⟩
/-! What is admissible, by the program. -/
def insRev {α : Type} (lt : α → α → Bool) (x : α) : List α → List α
  | [] => [x]
  | y :: ys => if lt x y = true then y :: insRev lt x ys else x :: y :: ys
def isort {α : Type} (lt : α → α → Bool) (l : List α) : List α := l.foldl (fun acc x => (insRev lt x acc.reverse).reverse) []
theorem insRev_mem {α : Type} {lt : α → α → Bool} {x z : α} : ∀ {l : List α}, z ∈ insRev lt x l ↔ z = x ∨ z ∈ l
  | [] => by simp [insRev]
  | y :: ys => by
    unfold insRev
    by_cases h : lt x y = true
    · rw [if_pos h, List.mem_cons, insRev_mem, List.mem_cons]
      exact ⟨fun h => by rcases h with h | h | h <;> simp [h], fun h => by rcases h with h | h | h <;> simp [h]⟩
    · rw [if_neg h]; simp
theorem insRev_perm {α : Type} {lt : α → α → Bool} {x : α} : ∀ {l : List α}, (insRev lt x l).Perm (x :: l)
  | [] => .refl _
  | y :: ys => by
    unfold insRev
    by_cases h : lt x y = true
    · rw [if_pos h]; exact (List.Perm.cons y insRev_perm).trans (.swap x y ys)
    · rw [if_neg h]
theorem insRev_sorted {α : Type} {lt : α → α → Bool} {r : α → α → Prop} {x : α} : ∀ {l : List α}, l.Pairwise (fun p q => r q p) → (∀ y, y ∈ l → lt x y = true → r x y) → (∀ y, y ∈ l → lt x y = false → r y x) → (∀ y z, y ∈ l → z ∈ l → r z y → r y x → r z x) → (insRev lt x l).Pairwise (fun p q => r q p)
  | [], _, _, _, _ => by simp [insRev]
  | y :: ys, hp, h1, h2, h3 => by
    unfold insRev
    obtain ⟨ha, hb⟩ := List.pairwise_cons.1 hp
    by_cases h : lt x y = true
    · rw [if_pos h]
      refine List.pairwise_cons.2 ⟨fun z hz => ?_, insRev_sorted hb (fun y hy => h1 y (by simp [hy])) (fun y hy => h2 y (by simp [hy])) (fun p q hp hq => h3 p q (by simp [hp]) (by simp [hq]))⟩
      rcases insRev_mem.1 hz with rfl | hz
      · exact h1 y (by simp) h
      · exact ha z hz
    · rw [if_neg h]
      have hyx := h2 y (by simp) (by simpa using h)
      refine List.pairwise_cons.2 ⟨fun z hz => ?_, hp⟩
      rcases List.mem_cons.1 hz with rfl | hz
      · exact hyx
      · exact h3 y z (by simp) (by simp [hz]) (ha z hz) hyx
theorem isort_aux {α : Type} {lt : α → α → Bool} : ∀ {l acc : List α}, (l.foldl (fun acc x => (insRev lt x acc.reverse).reverse) acc).Perm (acc ++ l)
  | [], acc => by simp
  | x :: l, acc => by
    simp only [List.foldl_cons]
    refine isort_aux.trans ?_
    have h : ((insRev lt x acc.reverse).reverse).Perm (acc ++ [x]) := by
      refine (List.reverse_perm _).trans (insRev_perm.trans ?_)
      refine (List.Perm.cons x (List.reverse_perm acc)).trans ?_
      exact List.perm_append_comm (l₁ := [x])
    refine (h.append_right l).trans ?_
    simp
theorem isort_perm {α : Type} {lt : α → α → Bool} {l : List α} : (isort lt l).Perm l := by
  unfold isort; simpa using isort_aux (lt := lt) (l := l) (acc := [])
theorem isort_len {α : Type} {lt : α → α → Bool} {l : List α} : (isort lt l).length = l.length := isort_perm.length_eq
theorem isort_mem {α : Type} {lt : α → α → Bool} {l : List α} {z : α} : z ∈ isort lt l ↔ z ∈ l := isort_perm.mem_iff
theorem isort_sorted_aux {α : Type} {lt : α → α → Bool} {r e : α → α → Prop} : ∀ {l acc : List α}, (acc ++ l).Pairwise e → acc.Pairwise r → (∀ x y, x ∈ acc ++ l → y ∈ acc ++ l → lt x y = true → r x y) → (∀ x y, x ∈ acc ++ l → y ∈ acc ++ l → lt x y = false → e y x → r y x) → (∀ x y z, x ∈ acc ++ l → y ∈ acc ++ l → z ∈ acc ++ l → r x y → r y z → r x z) →
    (l.foldl (fun acc x => (insRev lt x acc.reverse).reverse) acc).Pairwise r ∧ True
  | [], acc, _, hr, _, _, _ => ⟨hr, trivial⟩
  | x :: l, acc, he, hr, h1, h2, h3 => by
    simp only [List.foldl_cons]
    have hperm : ((insRev lt x acc.reverse).reverse).Perm (acc ++ [x]) := by
      refine (List.reverse_perm _).trans (insRev_perm.trans ?_)
      refine (List.Perm.cons x (List.reverse_perm acc)).trans ?_
      exact List.perm_append_comm (l₁ := [x])
    have hm : ∀ z, z ∈ (insRev lt x acc.reverse).reverse ++ l → z ∈ acc ++ x :: l := fun z hz => by
      rcases List.mem_append.1 hz with hz | hz
      · have := hperm.mem_iff.1 hz
        rcases List.mem_append.1 this with hz | hz
        · simp [hz]
        · simp at hz; simp [hz]
      · simp [hz]
    have hex : ∀ y, y ∈ acc → e y x := fun y hy => (List.pairwise_append.1 he).2.2 y hy x (by simp)
    have hsort : ((insRev lt x acc.reverse).reverse).Pairwise r := by
      rw [List.pairwise_reverse]
      refine insRev_sorted (List.pairwise_reverse.2 hr) (fun y hy => h1 x y (by simp) (by simp at hy; simp [hy])) (fun y hy h => h2 x y (by simp) (by simp at hy; simp [hy]) h (hex y (by simpa using hy))) (fun y z hy hz => h3 z y x (by simp at hz; simp [hz]) (by simp at hy; simp [hy]) (by simp))
    -- the order of the ones to come, against all
    have key : ∀ (l' acc' : List α), (∀ a, a ∈ acc' → ∀ b, b ∈ l' → e a b) → l'.Pairwise e → acc'.Pairwise r → (∀ x y, x ∈ acc' ++ l' → y ∈ acc' ++ l' → lt x y = true → r x y) → (∀ x y, x ∈ acc' ++ l' → y ∈ acc' ++ l' → lt x y = false → e y x → r y x) → (∀ x y z, x ∈ acc' ++ l' → y ∈ acc' ++ l' → z ∈ acc' ++ l' → r x y → r y z → r x z) → (l'.foldl (fun acc x => (insRev lt x acc.reverse).reverse) acc').Pairwise r := by
      intro l'
      induction l' with
      | nil => intro acc' _ _ h _ _ _; exact h
      | cons x l' ih =>
        intro acc' g0 g1 g2 g3 g4 g5
        simp only [List.foldl_cons]
        obtain ⟨g1a, g1b⟩ := List.pairwise_cons.1 g1
        have hperm' : ((insRev lt x acc'.reverse).reverse).Perm (acc' ++ [x]) := by
          refine (List.reverse_perm _).trans (insRev_perm.trans ?_)
          refine (List.Perm.cons x (List.reverse_perm acc')).trans ?_
          exact List.perm_append_comm (l₁ := [x])
        have hm' : ∀ z, z ∈ (insRev lt x acc'.reverse).reverse ++ l' → z ∈ acc' ++ x :: l' := fun z hz => by
          rcases List.mem_append.1 hz with hz | hz
          · have := hperm'.mem_iff.1 hz
            rcases List.mem_append.1 this with hz | hz
            · simp [hz]
            · simp at hz; simp [hz]
          · simp [hz]
        refine ih _ (fun a ha b hb => ?_) g1b ?_ (fun p q hp hq => g3 p q (hm' p hp) (hm' q hq)) (fun p q hp hq => g4 p q (hm' p hp) (hm' q hq)) (fun p q s hp hq hs => g5 p q s (hm' p hp) (hm' q hq) (hm' s hs))
        · have := hperm'.mem_iff.1 ha
          rcases List.mem_append.1 this with ha | ha
          · exact g0 a ha b (by simp [hb])
          · simp at ha; subst ha; exact g1a b hb
        · rw [List.pairwise_reverse]
          exact insRev_sorted (List.pairwise_reverse.2 g2) (fun y hy => g3 x y (by simp) (by simp at hy; simp [hy])) (fun y hy h => g4 x y (by simp) (by simp at hy; simp [hy]) h (g0 y (by simpa using hy) x (by simp))) (fun y z hy hz => g5 z y x (by simp at hz; simp [hz]) (by simp at hy; simp [hy]) (by simp))
    obtain ⟨_, he2, he3⟩ := List.pairwise_append.1 he
    obtain ⟨he4, he5⟩ := List.pairwise_cons.1 he2
    refine ⟨key l _ (fun a ha b hb => ?_) he5 hsort (fun p q hp hq => h1 p q (hm p hp) (hm q hq)) (fun p q hp hq => h2 p q (hm p hp) (hm q hq)) (fun p q s hp hq hs => h3 p q s (hm p hp) (hm q hq) (hm s hs)), trivial⟩
    have := hperm.mem_iff.1 ha
    rcases List.mem_append.1 this with ha | ha
    · exact he3 a ha b (by simp [hb])
    · simp at ha; subst ha; exact he4 b hb
theorem isort_sorted {α : Type} {lt : α → α → Bool} {r e : α → α → Prop} {l : List α} (he : l.Pairwise e) (h1 : ∀ x y, x ∈ l → y ∈ l → lt x y = true → r x y) (h2 : ∀ x y, x ∈ l → y ∈ l → lt x y = false → e y x → r y x) (h3 : ∀ x y z, x ∈ l → y ∈ l → z ∈ l → r x y → r y z → r x z) : (isort lt l).Pairwise r :=
  (isort_sorted_aux (acc := []) (by simpa using he) .nil (by simpa using h1) (by simpa using h2) (by simpa using h3)).1
theorem sorted_uniq {α : Type} {r : α → α → Prop} : ∀ {l m : List α}, l.Pairwise r → m.Pairwise r → (∀ x, x ∈ l ↔ x ∈ m) → (∀ x y, x ∈ l → y ∈ l → r x y → r y x → False) → (∀ x, x ∈ l → ¬r x x) → l = m
  | [], [], _, _, _, _, _ => rfl
  | [], b :: m, _, _, h, _, _ => by have := (h b).2 (by simp); simp at this
  | a :: l, [], _, _, h, _, _ => by have := (h a).1 (by simp); simp at this
  | a :: l, b :: m, hl, hm, h, ha, hi => by
    obtain ⟨l1, l2⟩ := List.pairwise_cons.1 hl
    obtain ⟨m1, m2⟩ := List.pairwise_cons.1 hm
    have e : a = b := by
      refine Classical.byContradiction fun hne => ?_
      have h1 : a ∈ m := by
        rcases List.mem_cons.1 ((h a).1 (by simp)) with h | h
        · exact absurd h hne
        · exact h
      have h2 : b ∈ l := by
        rcases List.mem_cons.1 ((h b).2 (by simp)) with h | h
        · exact absurd h.symm hne
        · exact h
      exact ha a b (by simp) (by simp [h2]) (l1 b h2) (m1 a h1)
    subst e
    congr 1
    refine sorted_uniq l2 m2 (fun x => ?_) (fun x y hx hy => ha x y (by simp [hx]) (by simp [hy])) (fun x hx => hi x (by simp [hx]))
    constructor
    · intro hx
      rcases List.mem_cons.1 ((h x).1 (by simp [hx])) with rfl | h3
      · exact absurd (l1 x hx) (hi x (by simp))
      · exact h3
    · intro hx
      rcases List.mem_cons.1 ((h x).2 (by simp [hx])) with rfl | h3
      · exact absurd (m1 x hx) (hi x (by simp))
      · exact h3
theorem swap_at {α : Type} {pre post : List α} {x y : α} {n : Nat} (h : n = pre.length) : List.set (List.set (pre ++ y :: x :: post) (n + 1) y) n x = pre ++ x :: y :: post := by
  subst h
  have h1 : (pre ++ y :: x :: post).set (pre.length + 1) y = pre ++ y :: y :: post := by
    rw [List.set_append, if_neg (by omega)]
    have : pre.length + 1 - pre.length = 1 := by omega
    rw [this]; rfl
  rw [h1, List.set_append, if_neg (by omega), Nat.sub_self]
  rfl
theorem take_isort {α : Type} {lt : α → α → Bool} {l : List α} {i : Nat} (hi : i < l.length) : isort lt (l.take (i + 1)) = (insRev lt l[i] (isort lt (l.take i)).reverse).reverse := by
  unfold isort
  rw [List.take_succ_eq_append_getElem hi, List.foldl_append]
  rfl
def bibN (f : TField) (i : Nat) : Int := ((f.Runners[i]?).map (·.Bib)).getD 0
theorem bib_step {f : TField} (hf : FieldOK f) {i : Nat} (hi : i + 1 < nrun f) : bibN f i < bibN f (i + 1) := by
  have hi' : i + 1 < f.Runners.length := hi
  have h := (hf.runner (i + 1) hi' f.Runners[i + 1] (by simp [hi'])).1.2.2.1 (by omega) f.Runners[i] (by simp)
  unfold bibN
  simpa [hi', show i < f.Runners.length by omega] using h
theorem bib_lt {f : TField} (hf : FieldOK f) {i : Nat} : ∀ {j : Nat}, i < j → j < nrun f → bibN f i < bibN f j
  | 0, h, _ => by omega
  | j + 1, h, hj => by
    have h1 := bib_step hf hj
    by_cases e : i = j
    · subst e; exact h1
    · have := bib_lt hf (i := i) (j := j) (by omega) (by omega)
      omega
def ltI (x y : Int) : Bool := decide (x < y)
theorem lessI_eq (x y : Int) : M146 x y = some (ltI x y) := by
  unfold M146 M3 ltI
  simp
theorem insI_L2 {x : Int} : ∀ (R post : List Int) (n : Nat), R.length ≤ n → R.length < 1000000 →
    M147 0 (n + 1) (R.length : Int) (R.reverse ++ x :: post) = some ((insRev ltI x R).reverse ++ post)
  | [], post, n, _, _ => by
    rw [M147]
    simp [insRev]
  | y :: ys, post, n, hn, hb => by
    obtain ⟨n, rfl⟩ : ∃ n', n = n' + 1 := ⟨n - 1, by simp at hn; omega⟩
    have hl : (y :: ys).length = ys.length + 1 := rfl
    have e0 : (y :: ys).reverse ++ x :: post = ys.reverse ++ y :: x :: post := by simp
    have e1 : w64 (((y :: ys).length : Int) - 1) = (ys.length : Int) := by rw [hl, w64_of (by omega) (by omega)]; omega
    have g1 : idx (ys.reverse ++ y :: x :: post) ((ys.length + 1 : Nat) : Int) = some x := by
      rw [idx_nat, List.getElem?_append_right (by simp)]; simp
    have g2 : idx (ys.reverse ++ y :: x :: post) (ys.length : Int) = some y := by
      rw [idx_nat, List.getElem?_append_right (by simp)]; simp
    rw [M147, e1, hl]
    have e2 : decide (((ys.length + 1 : Nat) : Int) > 0) = true := decide_eq_true (by omega)
    rw [e2, cond_true, e0, g1, some_bind, g2, some_bind, lessI_eq, some_bind]
    unfold insRev
    by_cases hlt : ltI x y = true
    · rw [hlt, cond_true, if_pos rfl, some_bind, some_bind, some_bind]
      have e3 : Int.toNat ((ys.length + 1 : Nat) : Int) = ys.length + 1 := Int.toNat_natCast _
      have e4 : Int.toNat (ys.length : Int) = ys.length := Int.toNat_natCast _
      have g3 : ∃ z, idx (List.set (ys.reverse ++ y :: x :: post) (ys.length + 1) y) (ys.length : Int) = some z := by
        have : ys.length < (List.set (ys.reverse ++ y :: x :: post) (ys.length + 1) y).length := by simp
        exact ⟨_, idx_lt this⟩
      obtain ⟨z, g3⟩ := g3
      rw [e3, g3, some_bind, e4, swap_at (by simp), insI_L2 ys (y :: post) n (by simp at hn; omega) (by simp at hb; omega)]
      simp
    · have hlt' : ltI x y = false := by simpa using hlt
      rw [hlt', cond_false, if_neg (by decide)]
      simp
theorem insI_eq {l : List Int} (hn : l.length < 1000) : M149 0 (l.length : Int) l = some (isort ltI l) := by
  unfold M149
  have e1 : w64 ((0 : Int) + 1) = 1 := rfl
  rw [e1]
  have key : ∀ c i n, i + c = l.length → c ≤ n → 1 ≤ i → M148 0 (l.length : Int) (n + 1) (i : Int) (isort ltI (l.take i) ++ l.drop i) = some (isort ltI l) := by
    intro c
    induction c with
    | zero =>
      intro i n hic _ _
      have : i = l.length := by omega
      subst this
      rw [M148, dec_lt_nat, decide_eq_false (by omega), cond_false, List.take_length, List.drop_length, List.append_nil]
    | succ c ih =>
      intro i n hic hn' h1
      obtain ⟨n, rfl⟩ : ∃ n', n = n' + 1 := ⟨n - 1, by omega⟩
      have hi : i < l.length := by omega
      have hlen : (isort ltI (l.take i)).reverse.length = i := by simp [isort_len]; omega
      have hL := insI_L2 (x := l[i]) (isort ltI (l.take i)).reverse (l.drop (i + 1)) i (by omega) (by omega)
      rw [hlen, List.reverse_reverse, ← List.drop_eq_getElem_cons hi] at hL
      have e2 : ((i : Int) - 0).toNat + 1 = i + 1 := by omega
      rw [M148, dec_lt_nat, decide_eq_true hi, cond_true, e2, hL, some_bind, w64_succ (by omega), ← take_isort hi]
      exact ih (i + 1) n (by omega) (by omega) (by omega)
  by_cases h0 : l.length = 0
  · have : l = [] := List.length_eq_zero_iff.1 h0
    subst this
    rfl
  · have e3 : ((l.length : Int) - 1).toNat + 1 = (l.length - 1) + 1 := by omega
    have h4 := key (l.length - 1) 1 (l.length - 1) (by omega) (by omega) (by omega)
    have e4 : isort ltI (l.take 1) ++ l.drop 1 = l := by
      cases l with
      | nil => rfl
      | cons a t => rfl
    rw [e4] at h4
    rw [e3]
    show Option.bind (M148 0 (l.length : Int) (l.length - 1 + 1) ((1 : Nat) : Int) l) _ = _
    rw [h4]; rfl
theorem idxA {α : Type} [Inhabited α] (d : Array α) {i : Nat} (h : i < d.size) : idx d.toList (i : Int) = some d[i]! := by
  rw [idx_nat]; simp [h]
theorem idxS {α β : Type} (d : Array α) {k : Nat} {x : α} {i : Nat} (h : i < d.size) (r : Option β) : ((idx (List.set d.toList k x) (i : Int)).bind fun _ => r) = r := by
  rw [idx_nat, List.getElem?_eq_getElem (by simpa using h)]; rfl
theorem setS {α : Type} [Inhabited α] (d : Array α) {i j : Nat} : List.set (List.set d.toList i d[j]!) j d[i]! = (Go.Sort.swp d i j).toList := by
  simp [Go.Sort.swp, Array.toList_setIfInBounds]
theorem w64c {i : Int} {n : Nat} (h : i = n) (hn : n < 9223372036854775807) : w64 i = (n : Int) := by
  subst h; exact w64_nat (by omega)
theorem swp_sz {α : Type} [Inhabited α] (d : Array α) (i j : Nat) : (Go.Sort.swp d i j).size = d.size := Go.Sort.size_swp d i j
theorem lenIs_arr {α : Type} {d d' : Array α} (h : d'.size = d.size) : lenIs d'.toList d.toList = some () := by
  unfold lenIs; rw [if_pos (by simpa using h)]
theorem insInner_sz {α : Type} [Inhabited α] (lt : α → α → Bool) (a : Nat) : ∀ (j : Nat) (d : Array α), (Go.Sort.insInner lt a j d).size = d.size
  | 0, d => rfl
  | j + 1, d => by
    rw [Go.Sort.insInner]
    split
    · rw [insInner_sz lt a j, swp_sz]
    · rfl
theorem siftDown_sz {α : Type} [Inhabited α] (lt : α → α → Bool) (hi first : Nat) : ∀ (n root : Nat) (d : Array α), hi - root ≤ n → (Go.Sort.siftDown lt hi first root d).size = d.size := by
  intro n
  induction n with
  | zero =>
    intro root d h
    rw [Go.Sort.siftDown, dif_pos (by omega)]
  | succ n ih =>
    intro root d h
    rw [Go.Sort.siftDown]
    by_cases h1 : 2 * root + 1 ≥ hi
    · rw [dif_pos h1]
    · rw [dif_neg h1]
      split
      · split
        · rfl
        · split
          · rw [ih _ _ (by omega), swp_sz]
          · rfl
      · split
        · rfl
        · rw [ih _ _ (by omega), swp_sz]
theorem partLoop_sz {α : Type} [Inhabited α] (lt : α → α → Bool) (a : Nat) : ∀ (n i j : Nat) (d : Array α), j + 1 - i ≤ n → (Go.Sort.partLoop lt a i j d).2.size = d.size := by
  intro n
  induction n with
  | zero =>
    intro i j d h
    rw [Go.Sort.partLoop_eq]
    have := Go.Sort.scanUp_ge (fun x => lt x d[a]!) d j i
    have := Go.Sort.scanDown_le (fun x => !lt x d[a]!) d (Go.Sort.scanUp (fun x => lt x d[a]!) d j i) j
    rw [if_pos (by omega)]
  | succ n ih =>
    intro i j d h
    rw [Go.Sort.partLoop_eq]
    have := Go.Sort.scanUp_ge (fun x => lt x d[a]!) d j i
    have := Go.Sort.scanDown_le (fun x => !lt x d[a]!) d (Go.Sort.scanUp (fun x => lt x d[a]!) d j i) j
    split
    · rfl
    · rw [ih _ _ _ (by omega), swp_sz]
theorem partEqLoop_sz {α : Type} [Inhabited α] (lt : α → α → Bool) (a : Nat) : ∀ (n i j : Nat) (d : Array α), j + 1 - i ≤ n → (Go.Sort.partEqLoop lt a i j d).2.size = d.size := by
  intro n
  induction n with
  | zero =>
    intro i j d h
    rw [Go.Sort.partEqLoop_eq]
    have := Go.Sort.scanUp_ge (fun x => !lt d[a]! x) d j i
    have := Go.Sort.scanDown_le (fun x => lt d[a]! x) d (Go.Sort.scanUp (fun x => !lt d[a]! x) d j i) j
    rw [if_pos (by omega)]
  | succ n ih =>
    intro i j d h
    rw [Go.Sort.partEqLoop_eq]
    have := Go.Sort.scanUp_ge (fun x => !lt d[a]! x) d j i
    have := Go.Sort.scanDown_le (fun x => lt d[a]! x) d (Go.Sort.scanUp (fun x => !lt d[a]! x) d j i) j
    split
    · rfl
    · rw [ih _ _ _ (by omega), swp_sz]
theorem shiftDown_sz {α : Type} [Inhabited α] (lt : α → α → Bool) : ∀ (j : Nat) (d : Array α), (Go.Sort.shiftDown lt j d).size = d.size
  | 0, d => rfl
  | j + 1, d => by
    rw [Go.Sort.shiftDown]
    split
    · rfl
    · rw [shiftDown_sz lt j, swp_sz]
theorem shiftUp_sz {α : Type} [Inhabited α] (lt : α → α → Bool) (b : Nat) : ∀ (n j : Nat) (d : Array α), b - j ≤ n → (Go.Sort.shiftUp lt b j d).size = d.size := by
  intro n
  induction n with
  | zero => intro j d h; rw [Go.Sort.shiftUp, if_neg (by omega)]
  | succ n ih =>
    intro j d h
    rw [Go.Sort.shiftUp]
    split
    · split
      · rfl
      · rw [ih _ _ (by omega), swp_sz]
    · rfl
theorem scanSorted_le {α : Type} [Inhabited α] (lt : α → α → Bool) (d : Array α) (b : Nat) : ∀ (n i : Nat), b - i ≤ n → i ≤ Go.Sort.scanSorted lt d b i ∧ (i ≤ b → Go.Sort.scanSorted lt d b i ≤ b) := by
  intro n
  induction n with
  | zero => intro i h; rw [Go.Sort.scanSorted, if_neg (by simp; omega)]; omega
  | succ n ih =>
    intro i h
    rw [Go.Sort.scanSorted]
    split
    · rename_i h1
      have h2 : i < b := by simp at h1; exact h1.1
      have := ih (i + 1) (by omega)
      omega
    · omega
theorem partLoop_le {α : Type} [Inhabited α] (lt : α → α → Bool) (a : Nat) : ∀ (n i j : Nat) (d : Array α), j + 1 - i ≤ n → (Go.Sort.partLoop lt a i j d).1 ≤ j := by
  intro n
  induction n with
  | zero =>
    intro i j d h
    rw [Go.Sort.partLoop_eq]
    have := Go.Sort.scanUp_ge (fun x => lt x d[a]!) d j i
    have h2 := Go.Sort.scanDown_le (fun x => !lt x d[a]!) d (Go.Sort.scanUp (fun x => lt x d[a]!) d j i) j
    rw [if_pos (by omega)]; exact h2
  | succ n ih =>
    intro i j d h
    rw [Go.Sort.partLoop_eq]
    have := Go.Sort.scanUp_ge (fun x => lt x d[a]!) d j i
    have h2 := Go.Sort.scanDown_le (fun x => !lt x d[a]!) d (Go.Sort.scanUp (fun x => lt x d[a]!) d j i) j
    split
    · exact h2
    · have := ih (Go.Sort.scanUp (fun x => lt x d[a]!) d j i + 1) (Go.Sort.scanDown (fun x => !lt x d[a]!) d (Go.Sort.scanUp (fun x => lt x d[a]!) d j i) j - 1) (Go.Sort.swp d (Go.Sort.scanUp (fun x => lt x d[a]!) d j i) (Go.Sort.scanDown (fun x => !lt x d[a]!) d (Go.Sort.scanUp (fun x => lt x d[a]!) d j i) j)) (by omega)
      omega
theorem reverseLoop_sz {α : Type} [Inhabited α] : ∀ (n i j : Nat) (d : Array α), j - i ≤ n → (Go.Sort.reverseLoop i j d).size = d.size := by
  intro n
  induction n with
  | zero => intro i j d h; rw [Go.Sort.reverseLoop, if_neg (by omega)]
  | succ n ih =>
    intro i j d h
    rw [Go.Sort.reverseLoop]
    split
    · rw [ih _ _ _ (by omega), swp_sz]
    · rfl
theorem mask_lt (r : Int) {R : Nat} (h0 : 0 < R) (h1 : R < 4611686018427387904) : ∃ m : Nat, m < R ∧ w64 (bitK .u64 (BitVec.ofInt 64 r &&& BitVec.ofInt 64 (IntKind.wrap .u64 ((R : Int) - 1)))) = (m : Int) := by
  have e1 : IntKind.wrap .u64 ((R : Int) - 1) = ((R - 1 : Nat) : Int) := by
    simp only [IntKind.wrap, IntKind.bits, IntKind.signed]
    simp
    omega
  have e2 : (BitVec.ofInt 64 ((R - 1 : Nat) : Int)).toNat = R - 1 := by
    rw [BitVec.toNat_ofInt]; omega
  have h2 : (BitVec.ofInt 64 r &&& BitVec.ofInt 64 ((R - 1 : Nat) : Int)).toNat ≤ R - 1 := by
    rw [BitVec.toNat_and, e2]; exact Nat.and_le_right
  rw [e1]
  generalize hb : (BitVec.ofInt 64 r &&& BitVec.ofInt 64 ((R - 1 : Nat) : Int)).toNat = m at h2
  refine ⟨m, by omega, ?_⟩
  have e3 : bitK .u64 (BitVec.ofInt 64 r &&& BitVec.ofInt 64 ((R - 1 : Nat) : Int)) = (m : Int) := by
    unfold bitK
    rw [show BitVec.toNat (w := IntKind.u64.bits) (BitVec.ofInt 64 r &&& BitVec.ofInt 64 ((R - 1 : Nat) : Int)) = m from hb]
    simp only [IntKind.wrap, IntKind.bits, IntKind.signed]
    simp
    omega
  rw [e3]
  exact w64c rfl (by omega)
theorem bitLenAux_zero : ∀ f : Nat, Lib.bitLenAux f 0 = 0
  | 0 => rfl
  | f + 1 => by simp [Lib.bitLenAux]
theorem two_pow_bitLenAux : ∀ (f x : Nat), 0 < x → 2 ^ Lib.bitLenAux f x ≤ 2 * x
  | 0, x, h => by simp [Lib.bitLenAux]; omega
  | f + 1, x, h => by
    rw [Lib.bitLenAux, if_neg (by omega), Nat.add_comm, Nat.pow_succ]
    by_cases h2 : x / 2 = 0
    · rw [h2, bitLenAux_zero]; omega
    · have := two_pow_bitLenAux f (x / 2) (by omega)
      omega
theorem nextPow_eq {n : Nat} (h0 : 0 < n) (h1 : n < 2305843009213693952) : ∃ R : Nat, M111 (n : Int) = some (R : Int) ∧ 0 < R ∧ R ≤ 2 * n := by
  have e1 : IntKind.wrap .u64 (n : Int) = (n : Int) := by
    simp only [IntKind.wrap, IntKind.bits, IntKind.signed]
    simp
    omega
  have hp := two_pow_bitLenAux 64 n h0
  have hp' : 2 ^ Lib.bitLen n ≤ 2 * n := hp
  have hl : Lib.bitLen n < 62 := by
    have h2 : (2 : Nat) ^ Lib.bitLen n < 2 ^ 62 := by omega
    exact (Nat.pow_lt_pow_iff_right (by decide)).1 h2
  refine ⟨2 ^ Lib.bitLen n, ?_, Nat.pow_pos (by decide), hp'⟩
  unfold M111 M76
  rw [e1, if_pos (by omega), some_bind]
  unfold nn
  rw [if_pos (by omega), some_bind]
  unfold shlK
  rw [show (Int.toNat ((n : Int))) = n from by omega, show ((Lib.bitLen n : Nat) : Int).toNat = Lib.bitLen n from by omega, show min (Lib.bitLen n) IntKind.u64.bits = Lib.bitLen n from Nat.min_eq_left (by show _ ≤ 64; omega)]
  have e3 : (1 : Int) * 2 ^ Lib.bitLen n = ((2 ^ Lib.bitLen n : Nat) : Int) := by simp
  rw [e3]
  generalize 2 ^ Lib.bitLen n = m at hp'
  congr 1
  simp only [IntKind.wrap, IntKind.bits, IntKind.signed]
  simp
  omega
theorem xnext_some (v : Int) : ∃ r s, M112 v = some (r, s) := ⟨_, _, rfl⟩
theorem idx_at {α : Type} {l : List α} {i : Nat} {a : α} (h : l[i]? = some a) : idx l (i : Int) = some a := by rw [idx_nat]; exact h
theorem drop_cons {α : Type} {l r : List α} {i : Nat} {a : α} (h : l.drop i = a :: r) : l[i]? = some a ∧ l.drop (i + 1) = r ∧ i < l.length := by
  have h1 : l[i]? = some a := by have := congrArg (·[0]?) h; simpa using this
  refine ⟨h1, ?_, (List.getElem?_eq_some_iff.1 h1).1⟩
  have := congrArg List.tail h
  simpa using this
theorem rangeL {α σ β : Type} {l : List α} {f : Nat → Nat → σ → Option β} {g : List α → σ → Option β} (I : Nat → σ → Prop)
    (h0 : ∀ n s, I l.length s → f (n + 1) l.length s = g [] s)
    (h1 : ∀ n i s a r, l.drop i = a :: r → l[i]? = some a → i < l.length → a ∈ l → I i s → (∀ s', I (i + 1) s' → f n (i + 1) s' = g r s') → f (n + 1) i s = g (a :: r) s) :
    ∀ s, I 0 s → f (l.length + 1) 0 s = g l s := by
  have key : ∀ r i n s, l.drop i = r → r.length ≤ n → I i s → i ≤ l.length → f (n + 1) i s = g r s := by
    intro r
    induction r with
    | nil =>
      intro i n s h _ hi hl
      have : i = l.length := by have := congrArg List.length h; simp at this; omega
      subst this
      exact h0 n s hi
    | cons a r ih =>
      intro i n s h hn hi hl
      obtain ⟨e1, e2, e3⟩ := drop_cons h
      obtain ⟨n, rfl⟩ : ∃ n', n = n' + 1 := ⟨n - 1, by simp at hn; omega⟩
      refine h1 (n + 1) i s a r h e1 e3 (List.mem_of_getElem? e1) hi fun s' hs' => ?_
      exact ih (i + 1) n s' e2 (by simpa using hn) hs' e3
  intro s hs
  exact key l 0 l.length s rfl (Nat.le_refl _) hs (Nat.zero_le _)
theorem rangeL0 {α β : Type} {l : List α} {f : Nat → Nat → Option β} {g : List α → Option β}
    (h0 : ∀ n, f (n + 1) l.length = g [])
    (h1 : ∀ n i a r, l.drop i = a :: r → l[i]? = some a → i < l.length → a ∈ l → f n (i + 1) = g r → f (n + 1) i = g (a :: r)) :
    f (l.length + 1) 0 = g l :=
  rangeL (σ := Unit) (f := fun n i _ => f n i) (g := fun l _ => g l) (fun _ _ => True) (fun n _ _ => h0 n) (fun n i _ a r e1 e2 e3 e4 _ h => h1 n i a r e1 e2 e3 e4 (h () trivial)) () trivial
theorem fuelL (n : Nat) : (((n : Nat) : Int) - 0).toNat + 1 = n + 1 := by omega
def cmpSp (x y : TSpan) : Int := if x.Lo < y.Lo then -1 else if x.Lo > y.Lo then 1 else if x.Hi < y.Hi then -1 else if x.Hi > y.Hi then 1 else 0
def ltSp (x y : TSpan) : Bool := decide (cmpSp x y < 0)
theorem ltSp_def (x y : TSpan) : decide (cmpSp x y < 0) = ltSp x y := rfl
theorem compare_int (x y : Int) : M4 x y = some (if x < y then -1 else if x > y then 1 else 0) := by
  unfold M4 M3
  simp only [some_bind, bne_self_eq_false, cond_false]
  by_cases h : x < y
  · simp [h]
  · by_cases h' : x > y
    · simp [h, h']
    · simp [h, h']
theorem or_int2 (x y : Int) : M7 [x, y] = some (if x ≠ 0 then x else y) := by
  unfold M7
  show M5 [x, y] M6 3 0 = _
  rw [M5]
  simp only [List.length_cons, List.length_nil]
  rw [decide_eq_true (by omega), cond_true]
  show (some x).bind _ = _
  rw [some_bind]
  by_cases hx : x = 0
  · subst hx
    rw [show ((0 : Int) != 0) = false from rfl, cond_false, show w64 (0 + 1) = 1 from rfl, M5]
    simp only [List.length_cons, List.length_nil]
    rw [decide_eq_true (by omega), cond_true]
    show (some y).bind _ = _
    rw [some_bind]
    by_cases hy : y = 0
    · subst hy; rfl
    · rw [show (y != 0) = true from by simp [hy], cond_true]; simp
  · rw [show (x != 0) = true from by simp [hx], cond_true]; simp [hx]
theorem cmpSp_eq (x y : TSpan) : M77 x y = some (cmpSp x y) := by
  unfold M77 cmpSp
  rw [compare_int, some_bind, compare_int, some_bind, or_int2, some_bind]
  by_cases h : x.Lo < y.Lo
  · simp [h]
  · by_cases h' : x.Lo > y.Lo
    · simp [h, h']
    · simp [h, h']
theorem ltSp_iff (x y : TSpan) : ltSp x y = true ↔ x.Lo < y.Lo ∨ x.Lo = y.Lo ∧ x.Hi < y.Hi := by
  simp only [ltSp, cmpSp, decide_eq_true_eq]
  by_cases h1 : x.Lo < y.Lo
  · simp [h1]
  · by_cases h2 : x.Lo > y.Lo
    · simp [h1, h2]; omega
    · by_cases h3 : x.Hi < y.Hi
      · simp [h1, h2, h3]; omega
      · by_cases h4 : x.Hi > y.Hi
        · simp [h1, h2, h3, h4]
        · simp [h1, h2, h3, h4]
theorem ltSp_not (x y : TSpan) : ltSp x y = false ↔ ¬ (x.Lo < y.Lo ∨ x.Lo = y.Lo ∧ x.Hi < y.Hi) := by
  rw [← ltSp_iff]; simp
theorem swo_sp : Go.Sort.SWO ltSp := by
  refine ⟨fun x => ?_, fun x y z h1 h2 => ?_, fun x y z h1 h2 => ?_⟩
  · rw [ltSp_not]; omega
  · rw [ltSp_iff] at *; omega
  · rw [ltSp_not] at *; omega
theorem insL2_sp (a : Nat) : ∀ (j n : Nat) (d : Array TSpan), j < d.size → d.size < 4611686018427387904 → j - a < n → M78 (a : Int) n (j : Int) d.toList = some (Go.Sort.insInner ltSp a j d).toList := by
  intro j
  induction j with
  | zero =>
    intro n d hj hd hn
    obtain ⟨n, rfl⟩ : ∃ n', n = n' + 1 := ⟨n - 1, by omega⟩
    rw [M78, decide_eq_false (by omega), cond_false]
    rfl
  | succ j ih =>
    intro n d hj hd hn
    obtain ⟨n, rfl⟩ : ∃ n', n = n' + 1 := ⟨n - 1, by omega⟩
    rw [M78, Go.Sort.insInner]
    have hj' : j < d.size := by omega
    have e1 : w64 (((j + 1 : Nat) : Int) - 1) = (j : Int) := w64c (by omega) (by omega)
    by_cases h : j + 1 > a
    · rw [decide_eq_true (by omega), cond_true]
      simp only [e1, idxA d hj, idxA d hj', some_bind, cmpSp_eq, ltSp_def, Int.toNat_natCast]
      cases hl : ltSp d[j + 1]! d[j]! with
      | true =>
        rw [cond_true, idxS d hj', setS d, ih n _ (by rw [swp_sz]; omega) (by rw [swp_sz]; omega) (by omega), if_pos (by simp [h])]
      | false =>
        rw [cond_false, if_neg (by simp)]
    · rw [decide_eq_false (by omega), cond_false, if_neg (by simp [h])]
theorem insL1_sp (a b : Nat) : ∀ (c i n : Nat) (d : Array TSpan), b - i ≤ c → c < n → b ≤ d.size → d.size < 4611686018427387904 → M79 (a : Int) (b : Int) n (i : Int) d.toList = some (Go.Sort.insOuter ltSp a b i d).toList ∧ (Go.Sort.insOuter ltSp a b i d).size = d.size := by
  intro c
  induction c with
  | zero =>
    intro i n d h hn hb hd
    obtain ⟨n, rfl⟩ : ∃ n', n = n' + 1 := ⟨n - 1, by omega⟩
    rw [M79, decide_eq_false (by omega), cond_false, Go.Sort.insOuter, if_neg (by omega)]
    exact ⟨rfl, rfl⟩
  | succ c ih =>
    intro i n d h hn hb hd
    obtain ⟨n, rfl⟩ : ∃ n', n = n' + 1 := ⟨n - 1, by omega⟩
    rw [M79, Go.Sort.insOuter]
    by_cases h1 : i < b
    · have e1 : ((i : Int) - (a : Int)).toNat + 1 = (i - a) + 1 := by omega
      rw [decide_eq_true (by omega), cond_true, if_pos h1, e1, insL2_sp a i _ d (by omega) hd (by omega), some_bind, w64c (i := (i : Int) + 1) (n := i + 1) (by omega) (by omega)]
      have hs := insInner_sz ltSp a i d
      have := ih (i + 1) n (Go.Sort.insInner ltSp a i d) (by omega) (by omega) (by omega) (by omega)
      exact ⟨this.1, this.2.trans hs⟩
    · rw [decide_eq_false (by omega), cond_false, if_neg h1]
      exact ⟨rfl, rfl⟩
theorem ins_sp {a b : Nat} {d : Array TSpan} (hab' : a ≤ b) (hb : b ≤ d.size) (hd : d.size < 4611686018427387904) : M80 (a : Int) (b : Int) d.toList = some (Go.Sort.insertionSort ltSp d a b).toList ∧ (Go.Sort.insertionSort ltSp d a b).size = d.size := by
  unfold M80 Go.Sort.insertionSort
  by_cases hab : a < b
  · rw [w64c (i := (a : Int) + 1) (n := a + 1) (by omega) (by omega)]
    have e : ((b : Int) - ((a + 1 : Nat) : Int)).toNat + 1 = (b - (a + 1)) + 1 := by omega
    have := insL1_sp a b (b - (a + 1)) (a + 1) _ d (Nat.le_refl _) (Nat.lt_succ_self _) hb hd
    rw [e, this.1, some_bind]
    exact ⟨rfl, this.2⟩
  · have e : a = b := by omega
    subst e
    rw [w64c (i := (a : Int) + 1) (n := a + 1) (by omega) (by omega)]
    rw [show Go.Sort.insOuter ltSp a a (a + 1) d = d from by rw [Go.Sort.insOuter, if_neg (by omega)]]
    rw [M79, decide_eq_false (by omega), cond_false]
    exact ⟨rfl, rfl⟩
theorem sift_sp (hi first : Nat) : ∀ (c root n : Nat) (d : Array TSpan), hi - root ≤ c → c < n → first + hi ≤ d.size → root ≤ d.size → d.size < 2305843009213693952 → M81 (hi : Int) (first : Int) M82 n (root : Int) d.toList = some (Go.Sort.siftDown ltSp hi first root d).toList := by
  intro c
  induction c with
  | zero =>
    intro root n d h hn hs hr hd
    obtain ⟨n, rfl⟩ : ∃ n', n = n' + 1 := ⟨n - 1, by omega⟩
    have e1 : w64 (w64 (2 * (root : Int)) + 1) = ((2 * root + 1 : Nat) : Int) := by rw [w64c (i := 2 * (root : Int)) (n := 2 * root) (by omega) (by omega)]; exact w64c (by omega) (by omega)
    rw [M81, Go.Sort.siftDown, e1, decide_eq_true (by omega), cond_true, dif_pos (by omega)]
    rfl
  | succ c ih =>
    intro root n d h hn hs hr hd
    obtain ⟨n, rfl⟩ : ∃ n', n = n' + 1 := ⟨n - 1, by omega⟩
    have e1 : w64 (w64 (2 * (root : Int)) + 1) = ((2 * root + 1 : Nat) : Int) := by rw [w64c (i := 2 * (root : Int)) (n := 2 * root) (by omega) (by omega)]; exact w64c (by omega) (by omega)
    rw [M81, Go.Sort.siftDown]
    simp only [e1]
    by_cases h1 : 2 * root + 1 ≥ hi
    · rw [decide_eq_true (by omega), cond_true, dif_pos h1]; rfl
    · rw [decide_eq_false (by omega), cond_false, dif_neg h1]
      have e2 : w64 (((2 * root + 1 : Nat) : Int) + 1) = ((2 * root + 1 + 1 : Nat) : Int) := w64c (by omega) (by omega)
      have e3 : w64 ((first : Int) + ((2 * root + 1 : Nat) : Int)) = ((first + (2 * root + 1) : Nat) : Int) := w64c (by omega) (by omega)
      have e4 : w64 (((first + (2 * root + 1) : Nat) : Int) + 1) = ((first + (2 * root + 1) + 1 : Nat) : Int) := w64c (by omega) (by omega)
      have e5 : w64 ((first : Int) + (root : Int)) = ((first + root : Nat) : Int) := w64c (by omega) (by omega)
      have i1 : first + (2 * root + 1) < d.size := by omega
      have i2 : first + root < d.size := by omega
      simp only [e2, e3, e4, e5]
      by_cases h2 : 2 * root + 1 + 1 < hi
      · have e6 : w64 ((first : Int) + ((2 * root + 1 + 1 : Nat) : Int)) = ((first + (2 * root + 2) : Nat) : Int) := w64c (by omega) (by omega)
        have i3 : first + (2 * root + 1) + 1 < d.size := by omega
        have i4 : first + (2 * root + 2) < d.size := by omega
        rw [decide_eq_true (by omega), cond_true]
        simp only [e6, idxA d i1, idxA d i2, idxA d i3, idxA d i4, some_bind, cmpSp_eq, ltSp_def, Int.toNat_natCast]
        cases hl : ltSp d[first + (2 * root + 1)]! d[first + (2 * root + 1) + 1]! with
        | true =>
          rw [cond_true, if_pos (by simp [h2])]
          cases hl2 : ltSp d[first + root]! d[first + (2 * root + 2)]! with
          | true =>
            rw [Bool.not_true, cond_false, if_neg (by simp), dif_pos (by omega), idxS d i4, setS d]
            exact ih (2 * root + 2) n _ (by omega) (by omega) (by rw [swp_sz]; omega) (by rw [swp_sz]; omega) (by rw [swp_sz]; omega)
          | false => rw [Bool.not_false, cond_true, if_pos (by simp)]
        | false =>
          rw [cond_false, if_neg (by simp)]
          cases hl2 : ltSp d[first + root]! d[first + (2 * root + 1)]! with
          | true =>
            rw [Bool.not_true, cond_false, if_neg (by simp), idxS d i1, setS d]
            exact ih (2 * root + 1) n _ (by omega) (by omega) (by rw [swp_sz]; omega) (by rw [swp_sz]; omega) (by rw [swp_sz]; omega)
          | false => rw [Bool.not_false, cond_true, if_pos (by simp)]
      · rw [decide_eq_false (by omega), cond_false, if_neg (by simp [h2])]
        simp only [idxA d i1, idxA d i2, some_bind, cmpSp_eq, ltSp_def, Int.toNat_natCast]
        cases hl2 : ltSp d[first + root]! d[first + (2 * root + 1)]! with
        | true =>
          rw [Bool.not_true, cond_false, if_neg (by simp), idxS d i1, setS d]
          exact ih (2 * root + 1) n _ (by omega) (by omega) (by rw [swp_sz]; omega) (by rw [swp_sz]; omega) (by rw [swp_sz]; omega)
        | false => rw [Bool.not_false, cond_true, if_pos (by simp)]
theorem siftD_sp {lo hi first : Nat} {d : Array TSpan} (hs : first + hi ≤ d.size) (hr : lo ≤ d.size) (hd : d.size < 2305843009213693952) : M83 (lo : Int) (hi : Int) (first : Int) d.toList = some (Go.Sort.siftDown ltSp hi first lo d).toList := by
  unfold M83
  rw [show List.length d.toList = d.size from by simp]
  exact sift_sp hi first d.size lo _ d (by omega) (by omega) hs hr hd
theorem heapL1_sp (a b : Nat) : ∀ (k n : Nat) (d : Array TSpan), k < n → a ≤ b → b ≤ d.size → k ≤ d.size → d.size < 2305843009213693952 → M84 (a : Int) (b : Int) n ((k : Int) - 1) d.toList = some (Go.Sort.heapBuild ltSp (b - a) a k d).toList ∧ (Go.Sort.heapBuild ltSp (b - a) a k d).size = d.size := by
  intro k
  induction k with
  | zero =>
    intro n d hn hab hb hk hd
    obtain ⟨n, rfl⟩ : ∃ n', n = n' + 1 := ⟨n - 1, by omega⟩
    rw [M84, decide_eq_false (by omega), cond_false]
    exact ⟨rfl, rfl⟩
  | succ k ih =>
    intro n d hn hab hb hk hd
    obtain ⟨n, rfl⟩ : ∃ n', n = n' + 1 := ⟨n - 1, by omega⟩
    have e1 : (((k + 1 : Nat) : Int) - 1) = (k : Int) := by omega
    have e2 : w64 ((b : Int) - (a : Int)) = ((b - a : Nat) : Int) := w64c (by omega) (by omega)
    have e3 : w64 ((k : Int) - 1) = (k : Int) - 1 := w64_of (by omega) (by omega)
    have hs := siftDown_sz ltSp (b - a) a _ k d (Nat.le_refl _)
    rw [M84, e1, decide_eq_true (by omega), cond_true, e2, siftD_sp (by omega) (by omega) hd, some_bind, lenIs_arr hs, some_bind, e3, Go.Sort.heapBuild]
    have := ih n (Go.Sort.siftDown ltSp (b - a) a k d) (by omega) hab (by omega) (by omega) (by omega)
    exact ⟨this.1, this.2.trans hs⟩
theorem heapL2_sp (a : Nat) : ∀ (k n : Nat) (d : Array TSpan), k < n → a + k ≤ d.size → d.size < 2305843009213693952 → M85 (a : Int) n ((k : Int) - 1) d.toList = some (Go.Sort.heapPop ltSp a k d).toList ∧ (Go.Sort.heapPop ltSp a k d).size = d.size := by
  intro k
  induction k with
  | zero =>
    intro n d hn hk hd
    obtain ⟨n, rfl⟩ : ∃ n', n = n' + 1 := ⟨n - 1, by omega⟩
    rw [M85, decide_eq_false (by omega), cond_false]
    exact ⟨rfl, rfl⟩
  | succ k ih =>
    intro n d hn hk hd
    obtain ⟨n, rfl⟩ : ∃ n', n = n' + 1 := ⟨n - 1, by omega⟩
    have e1 : (((k + 1 : Nat) : Int) - 1) = (k : Int) := by omega
    have e2 : w64 ((a : Int) + (k : Int)) = ((a + k : Nat) : Int) := w64c (by omega) (by omega)
    have e3 : w64 ((k : Int) - 1) = (k : Int) - 1 := w64_of (by omega) (by omega)
    have i1 : a < d.size := by omega
    have i2 : a + k < d.size := by omega
    have hz := swp_sz d a (a + k)
    have hs := siftDown_sz ltSp k a _ 0 (Go.Sort.swp d a (a + k)) (Nat.le_refl _)
    have e0 : (0 : Int) = ((0 : Nat) : Int) := rfl
    rw [M85, e1, decide_eq_true (by omega), cond_true]
    simp only [e2, idxA d i1, idxA d i2, some_bind, Int.toNat_natCast, idxS d i2, setS d]
    rw [e0, siftD_sp (by omega) (by omega) (by omega), some_bind, lenIs_arr hs, some_bind, e3, Go.Sort.heapPop]
    have := ih n (Go.Sort.siftDown ltSp k a 0 (Go.Sort.swp d a (a + k))) (by omega) (by omega) (by omega)
    exact ⟨this.1, this.2.trans (hs.trans hz)⟩
theorem heap_sp {a b : Nat} {d : Array TSpan} (hab : a < b) (hb : b ≤ d.size) (hd : d.size < 2305843009213693952) : M86 (a : Int) (b : Int) d.toList = some (Go.Sort.heapSort ltSp d a b).toList ∧ (Go.Sort.heapSort ltSp d a b).size = d.size := by
  unfold M86 Go.Sort.heapSort
  have e2 : w64 ((b : Int) - (a : Int)) = ((b - a : Nat) : Int) := w64c (by omega) (by omega)
  have e3 : w64 (((b - a : Nat) : Int) - 1) = ((b - a : Nat) : Int) - 1 := w64_of (by omega) (by omega)
  have e4 : w64 (Int.tdiv (((b - a : Nat) : Int) - 1) 2) = (((b - a - 1) / 2 + 1 : Nat) : Int) - 1 := by
    have e5 : (((b - a : Nat) : Int) - 1) = ((b - a - 1 : Nat) : Int) := by omega
    have e6 : Int.tdiv ((b - a - 1 : Nat) : Int) 2 = (((b - a - 1) / 2 : Nat) : Int) := (Int.ofNat_tdiv _ 2).symm
    rw [e5, e6, w64c (n := (b - a - 1) / 2) rfl (by omega)]
    omega
  simp only [e2, e3, e4]
  have h1 := heapL1_sp a b ((b - a - 1) / 2 + 1) (((((b - a - 1) / 2 + 1 : Nat) : Int) - 1 + 1 - 0).toNat + 1) d (by omega) (by omega) hb (by omega) hd
  rw [h1.1, some_bind]
  have h2 := heapL2_sp a (b - a) ((((b - a : Nat) : Int) - 1 + 1 - 0).toNat + 1) (Go.Sort.heapBuild ltSp (b - a) a ((b - a - 1) / 2 + 1) d) (by omega) (by omega) (by omega)
  rw [h2.1, some_bind]
  exact ⟨rfl, h2.2.trans h1.2⟩
theorem scU1_sp (a b pivot : Nat) (l : List TSpan) (x8 x9 : TSpan) (d : Array TSpan) (hl : List.set (List.set l a x8) pivot x9 = d.toList) (ha : a < d.size) (hb : b ≤ d.size) (hb0 : 0 < b) (hd : d.size < 2305843009213693952) : ∀ (c i n : Nat), b - i ≤ c → c < n → M105 (a : Int) (b : Int) (pivot : Int) l x8 x9 n (i : Int) = some ((Go.Sort.scanUp (fun x => ltSp x d[a]!) d (b - 1) i : Nat) : Int) := by
  have e0 : w64 ((b : Int) - 1) = ((b - 1 : Nat) : Int) := w64c (by omega) (by omega)
  intro c
  induction c with
  | zero =>
    intro i n h hn
    obtain ⟨n, rfl⟩ : ∃ n', n = n' + 1 := ⟨n - 1, by omega⟩
    rw [M105, e0, decide_eq_false (by omega), cond_false, Go.Sort.scanUp, if_neg (by simp; omega)]
  | succ c ih =>
    intro i n h hn
    obtain ⟨n, rfl⟩ : ∃ n', n = n' + 1 := ⟨n - 1, by omega⟩
    rw [M105, e0, Go.Sort.scanUp]
    by_cases h1 : i ≤ b - 1
    · have i1 : i < d.size := by omega
      rw [decide_eq_true (by omega), cond_true]
      simp only [Int.toNat_natCast, hl, idxA d i1, idxA d ha, some_bind, cmpSp_eq, ltSp_def]
      cases hc : ltSp d[i]! d[a]! with
      | true =>
        rw [cond_true, if_pos (by simp [h1]), w64c (i := (i : Int) + 1) (n := i + 1) (by omega) (by omega)]
        exact ih (i + 1) n (by omega) (by omega)
      | false => rw [cond_false, if_neg (by simp)]
    · rw [decide_eq_false (by omega), cond_false, if_neg (by simp [h1])]
theorem scD1_sp (a pivot i : Nat) (l : List TSpan) (x8 x9 : TSpan) (d : Array TSpan) (hl : List.set (List.set l a x8) pivot x9 = d.toList) (ha : a < d.size) (hi : 0 < i) (hd : d.size < 2305843009213693952) : ∀ (j n : Nat), j < d.size → j + 1 - i < n → M106 (a : Int) (pivot : Int) l x8 x9 (i : Int) n (j : Int) = some ((Go.Sort.scanDown (fun x => !ltSp x d[a]!) d i j : Nat) : Int) := by
  intro j
  induction j with
  | zero =>
    intro n hj hn
    obtain ⟨n, rfl⟩ : ∃ n', n = n' + 1 := ⟨n - 1, by omega⟩
    rw [M106, decide_eq_false (by omega), cond_false]
    rfl
  | succ j ih =>
    intro n hj hn
    obtain ⟨n, rfl⟩ : ∃ n', n = n' + 1 := ⟨n - 1, by omega⟩
    rw [M106, Go.Sort.scanDown]
    by_cases h1 : i ≤ j + 1
    · rw [decide_eq_true (by omega), cond_true]
      simp only [Int.toNat_natCast, hl, idxA d hj, idxA d ha, some_bind, cmpSp_eq, ltSp_def]
      cases hc : ltSp d[j + 1]! d[a]! with
      | false =>
        rw [Bool.not_false, cond_true, if_pos (by simp [h1]), w64c (i := ((j + 1 : Nat) : Int) - 1) (n := j) (by omega) (by omega)]
        exact ih n (by omega) (by omega)
      | true => rw [Bool.not_true, cond_false, if_neg (by simp)]
    · rw [decide_eq_false (by omega), cond_false, if_neg (by simp [h1])]
theorem scU2_sp (a j : Nat) (d : Array TSpan) (ha : a < d.size) (hj : j < d.size) (hd : d.size < 2305843009213693952) : ∀ (c i n : Nat), j + 1 - i ≤ c → c < n → M107 (a : Int) (j : Int) d.toList n (i : Int) = some ((Go.Sort.scanUp (fun x => ltSp x d[a]!) d j i : Nat) : Int) := by
  intro c
  induction c with
  | zero =>
    intro i n h hn
    obtain ⟨n, rfl⟩ : ∃ n', n = n' + 1 := ⟨n - 1, by omega⟩
    rw [M107, decide_eq_false (by omega), cond_false, Go.Sort.scanUp, if_neg (by simp; omega)]
  | succ c ih =>
    intro i n h hn
    obtain ⟨n, rfl⟩ : ∃ n', n = n' + 1 := ⟨n - 1, by omega⟩
    rw [M107, Go.Sort.scanUp]
    by_cases h1 : i ≤ j
    · have i1 : i < d.size := by omega
      rw [decide_eq_true (by omega), cond_true]
      simp only [idxA d i1, idxA d ha, some_bind, cmpSp_eq, ltSp_def]
      cases hc : ltSp d[i]! d[a]! with
      | true =>
        rw [cond_true, if_pos (by simp [h1]), w64c (i := (i : Int) + 1) (n := i + 1) (by omega) (by omega)]
        exact ih (i + 1) n (by omega) (by omega)
      | false => rw [cond_false, if_neg (by simp)]
    · rw [decide_eq_false (by omega), cond_false, if_neg (by simp [h1])]
theorem scD2_sp (a i : Nat) (d : Array TSpan) (ha : a < d.size) (hi : 0 < i) (hd : d.size < 2305843009213693952) : ∀ (j n : Nat), j < d.size → j + 1 - i < n → M108 (a : Int) d.toList (i : Int) n (j : Int) = some ((Go.Sort.scanDown (fun x => !ltSp x d[a]!) d i j : Nat) : Int) := by
  intro j
  induction j with
  | zero =>
    intro n hj hn
    obtain ⟨n, rfl⟩ : ∃ n', n = n' + 1 := ⟨n - 1, by omega⟩
    rw [M108, decide_eq_false (by omega), cond_false]
    rfl
  | succ j ih =>
    intro n hj hn
    obtain ⟨n, rfl⟩ : ∃ n', n = n' + 1 := ⟨n - 1, by omega⟩
    rw [M108, Go.Sort.scanDown]
    by_cases h1 : i ≤ j + 1
    · rw [decide_eq_true (by omega), cond_true]
      simp only [idxA d hj, idxA d ha, some_bind, cmpSp_eq, ltSp_def]
      cases hc : ltSp d[j + 1]! d[a]! with
      | false =>
        rw [Bool.not_false, cond_true, if_pos (by simp [h1]), w64c (i := ((j + 1 : Nat) : Int) - 1) (n := j) (by omega) (by omega)]
        exact ih n (by omega) (by omega)
      | true => rw [Bool.not_true, cond_false, if_neg (by simp)]
    · rw [decide_eq_false (by omega), cond_false, if_neg (by simp [h1])]
theorem partL_sp (a : Nat) : ∀ (c i j n : Nat) (d : Array TSpan), j + 1 - i ≤ c → c < n → 0 < i → i ≤ d.size → a < d.size → j < d.size → d.size < 2305843009213693952 → M109 (a : Int) n (i : Int) (j : Int) d.toList = some (((Go.Sort.partLoop ltSp a i j d).1 : Int), (Go.Sort.partLoop ltSp a i j d).2.toList) := by
  intro c
  induction c with
  | zero =>
    intro i j n d h hn hi his ha hj hd
    obtain ⟨n, rfl⟩ : ∃ n', n = n' + 1 := ⟨n - 1, by omega⟩
    have g1 := Go.Sort.scanUp_ge (fun x => ltSp x d[a]!) d j i
    have g2 := Go.Sort.scanDown_le (fun x => !ltSp x d[a]!) d (Go.Sort.scanUp (fun x => ltSp x d[a]!) d j i) j
    rw [M109, Go.Sort.partLoop_eq, scU2_sp a j d ha hj hd (j + 1 - i) i _ (Nat.le_refl _) (by omega), some_bind, scD2_sp a _ d ha (by omega) hd j _ hj (by omega), some_bind, decide_eq_true (by omega), cond_true, if_pos (by omega)]
  | succ c ih =>
    intro i j n d h hn hi his ha hj hd
    obtain ⟨n, rfl⟩ : ∃ n', n = n' + 1 := ⟨n - 1, by omega⟩
    have g1 := Go.Sort.scanUp_ge (fun x => ltSp x d[a]!) d j i
    have g2 := Go.Sort.scanDown_le (fun x => !ltSp x d[a]!) d (Go.Sort.scanUp (fun x => ltSp x d[a]!) d j i) j
    rw [M109, Go.Sort.partLoop_eq, scU2_sp a j d ha hj hd (j + 1 - i) i _ (Nat.le_refl _) (by omega), some_bind, scD2_sp a _ d ha (by omega) hd j _ hj (by omega), some_bind]
    generalize Go.Sort.scanDown (fun x => !ltSp x d[a]!) d (Go.Sort.scanUp (fun x => ltSp x d[a]!) d j i) j = j2 at g2 ⊢
    generalize Go.Sort.scanUp (fun x => ltSp x d[a]!) d j i = i2 at g1 ⊢
    by_cases h1 : i2 > j2
    · rw [decide_eq_true (by omega), cond_true, if_pos h1]
    · have k1 : i2 < d.size := by omega
      have k2 : j2 < d.size := by omega
      have e1 : w64 ((i2 : Int) + 1) = ((i2 + 1 : Nat) : Int) := w64c (by omega) (by omega)
      have e2 : w64 ((j2 : Int) - 1) = ((j2 - 1 : Nat) : Int) := w64c (by omega) (by omega)
      rw [decide_eq_false (by omega), cond_false, if_neg h1]
      simp only [idxA d k1, idxA d k2, some_bind, Int.toNat_natCast, idxS d k2, setS d, e1, e2]
      exact ih (i2 + 1) (j2 - 1) n _ (by omega) (by omega) (by omega) (by rw [swp_sz]; omega) (by rw [swp_sz]; omega) (by rw [swp_sz]; omega) (by rw [swp_sz]; omega)
theorem part_sp {a b pivot : Nat} {d : Array TSpan} (h1 : a ≤ pivot) (h2 : pivot < b) (hb : b ≤ d.size) (hd : d.size < 2305843009213693952) : M110 (a : Int) (b : Int) (pivot : Int) d.toList = some (((Go.Sort.partition ltSp d a b pivot).1 : Int), (Go.Sort.partition ltSp d a b pivot).2.1, (Go.Sort.partition ltSp d a b pivot).2.2.toList) ∧ (Go.Sort.partition ltSp d a b pivot).2.2.size = d.size := by
  have i1 : a < d.size := by omega
  have i2 : pivot < d.size := by omega
  have hs := swp_sz d a pivot
  have e1 : w64 ((a : Int) + 1) = ((a + 1 : Nat) : Int) := w64c (by omega) (by omega)
  have e2 : w64 ((b : Int) - 1) = ((b - 1 : Nat) : Int) := w64c (by omega) (by omega)
  have hset : List.set (List.set d.toList a d[pivot]!) pivot d[a]! = (Go.Sort.swp d a pivot).toList := setS d
  unfold M110 Go.Sort.partition
  simp only [idxA d i1, idxA d i2, some_bind, Int.toNat_natCast, idxS d i2, e1, e2]
  rw [scU1_sp a b pivot d.toList _ _ (Go.Sort.swp d a pivot) hset (by omega) (by omega) (by omega) (by omega) (b - (a + 1)) (a + 1) _ (Nat.le_refl _) (by omega), some_bind]
  have g1 := Go.Sort.scanUp_ge (fun x => ltSp x (Go.Sort.swp d a pivot)[a]!) (Go.Sort.swp d a pivot) (b - 1) (a + 1)
  have g2 := Go.Sort.scanDown_le (fun x => !ltSp x (Go.Sort.swp d a pivot)[a]!) (Go.Sort.swp d a pivot) (Go.Sort.scanUp (fun x => ltSp x (Go.Sort.swp d a pivot)[a]!) (Go.Sort.swp d a pivot) (b - 1) (a + 1)) (b - 1)
  rw [scD1_sp a pivot _ d.toList _ _ (Go.Sort.swp d a pivot) hset (by omega) (by omega) (by omega) (b - 1) _ (by omega) (by omega), some_bind]
  simp only [hset]
  generalize Go.Sort.scanDown (fun x => !ltSp x (Go.Sort.swp d a pivot)[a]!) (Go.Sort.swp d a pivot) (Go.Sort.scanUp (fun x => ltSp x (Go.Sort.swp d a pivot)[a]!) (Go.Sort.swp d a pivot) (b - 1) (a + 1)) (b - 1) = j2 at g2 ⊢
  generalize Go.Sort.scanUp (fun x => ltSp x (Go.Sort.swp d a pivot)[a]!) (Go.Sort.swp d a pivot) (b - 1) (a + 1) = i2' at g1 ⊢
  generalize hD : Go.Sort.swp d a pivot = D at hs ⊢
  have k1 : j2 < D.size := by omega
  have k2 : a < D.size := by omega
  by_cases h3 : i2' > j2
  · rw [decide_eq_true (by omega), cond_true, if_pos h3]
    simp only [idxA D k1, idxA D k2, some_bind, Int.toNat_natCast, idxS D k2, setS D]
    exact ⟨trivial, by rw [swp_sz]; exact hs⟩
  · have k3 : i2' < D.size := by omega
    have e3 : w64 ((i2' : Int) + 1) = ((i2' + 1 : Nat) : Int) := w64c (by omega) (by omega)
    have e4 : w64 ((j2 : Int) - 1) = ((j2 - 1 : Nat) : Int) := w64c (by omega) (by omega)
    have hs2 := swp_sz D i2' j2
    rw [decide_eq_false (by omega), cond_false, if_neg h3]
    simp only [idxA D k1, idxA D k3, some_bind, Int.toNat_natCast, idxS D k1, setS D, e3, e4]
    rw [partL_sp a (j2 - 1 + 1 - (i2' + 1)) (i2' + 1) (j2 - 1) _ (Go.Sort.swp D i2' j2) (Nat.le_refl _) (by simp; omega) (by omega) (by omega) (by omega) (by omega) (by omega), some_bind]
    have g3 := partLoop_le ltSp a _ (i2' + 1) (j2 - 1) (Go.Sort.swp D i2' j2) (Nat.le_refl _)
    have g4 := partLoop_sz ltSp a _ (i2' + 1) (j2 - 1) (Go.Sort.swp D i2' j2) (Nat.le_refl _)
    generalize Go.Sort.partLoop ltSp a (i2' + 1) (j2 - 1) (Go.Sort.swp D i2' j2) = R at g3 g4 ⊢
    obtain ⟨r, E⟩ := R
    simp only at g3 g4 ⊢
    have k4 : r < E.size := by omega
    have k5 : a < E.size := by omega
    simp only [idxA E k4, idxA E k5, some_bind, Int.toNat_natCast, idxS E k5, setS E]
    exact ⟨trivial, by rw [swp_sz]; omega⟩
theorem eqU_sp (a j : Nat) (d : Array TSpan) (ha : a < d.size) (hj : j < d.size) (hd : d.size < 2305843009213693952) : ∀ (c i n : Nat), j + 1 - i ≤ c → c < n → M101 (a : Int) (j : Int) d.toList n (i : Int) = some ((Go.Sort.scanUp (fun x => !ltSp d[a]! x) d j i : Nat) : Int) := by
  intro c
  induction c with
  | zero =>
    intro i n h hn
    obtain ⟨n, rfl⟩ : ∃ n', n = n' + 1 := ⟨n - 1, by omega⟩
    rw [M101, decide_eq_false (by omega), cond_false, Go.Sort.scanUp, if_neg (by simp; omega)]
  | succ c ih =>
    intro i n h hn
    obtain ⟨n, rfl⟩ : ∃ n', n = n' + 1 := ⟨n - 1, by omega⟩
    rw [M101, Go.Sort.scanUp]
    by_cases h1 : i ≤ j
    · have i1 : i < d.size := by omega
      rw [decide_eq_true (by omega), cond_true]
      simp only [idxA d i1, idxA d ha, some_bind, cmpSp_eq, ltSp_def]
      cases hc : ltSp d[a]! d[i]! with
      | false =>
        rw [Bool.not_false, cond_true, if_pos (by simp [h1]), w64c (i := (i : Int) + 1) (n := i + 1) (by omega) (by omega)]
        exact ih (i + 1) n (by omega) (by omega)
      | true => rw [Bool.not_true, cond_false, if_neg (by simp)]
    · rw [decide_eq_false (by omega), cond_false, if_neg (by simp [h1])]
theorem eqD_sp (a i : Nat) (d : Array TSpan) (ha : a < d.size) (hi : 0 < i) (hd : d.size < 2305843009213693952) : ∀ (j n : Nat), j < d.size → j + 1 - i < n → M102 (a : Int) d.toList (i : Int) n (j : Int) = some ((Go.Sort.scanDown (fun x => ltSp d[a]! x) d i j : Nat) : Int) := by
  intro j
  induction j with
  | zero =>
    intro n hj hn
    obtain ⟨n, rfl⟩ : ∃ n', n = n' + 1 := ⟨n - 1, by omega⟩
    rw [M102, decide_eq_false (by omega), cond_false]
    rfl
  | succ j ih =>
    intro n hj hn
    obtain ⟨n, rfl⟩ : ∃ n', n = n' + 1 := ⟨n - 1, by omega⟩
    rw [M102, Go.Sort.scanDown]
    by_cases h1 : i ≤ j + 1
    · rw [decide_eq_true (by omega), cond_true]
      simp only [idxA d hj, idxA d ha, some_bind, cmpSp_eq, ltSp_def]
      cases hc : ltSp d[a]! d[j + 1]! with
      | true =>
        rw [cond_true, if_pos (by simp [h1]), w64c (i := ((j + 1 : Nat) : Int) - 1) (n := j) (by omega) (by omega)]
        exact ih n (by omega) (by omega)
      | false => rw [cond_false, if_neg (by simp)]
    · rw [decide_eq_false (by omega), cond_false, if_neg (by simp [h1])]
theorem eqL_sp (a : Nat) : ∀ (c i j n : Nat) (d : Array TSpan), j + 1 - i ≤ c → c < n → 0 < i → i ≤ d.size → a < d.size → j < d.size → d.size < 2305843009213693952 → M103 (a : Int) n (i : Int) (j : Int) d.toList = some (((Go.Sort.partEqLoop ltSp a i j d).1 : Int), (Go.Sort.partEqLoop ltSp a i j d).2.toList) := by
  intro c
  induction c with
  | zero =>
    intro i j n d h hn hi his ha hj hd
    obtain ⟨n, rfl⟩ : ∃ n', n = n' + 1 := ⟨n - 1, by omega⟩
    have g1 := Go.Sort.scanUp_ge (fun x => !ltSp d[a]! x) d j i
    have g2 := Go.Sort.scanDown_le (fun x => ltSp d[a]! x) d (Go.Sort.scanUp (fun x => !ltSp d[a]! x) d j i) j
    rw [M103, Go.Sort.partEqLoop_eq, eqU_sp a j d ha hj hd (j + 1 - i) i _ (Nat.le_refl _) (by omega), some_bind, eqD_sp a _ d ha (by omega) hd j _ hj (by omega), some_bind, decide_eq_true (by omega), cond_true, if_pos (by omega)]
  | succ c ih =>
    intro i j n d h hn hi his ha hj hd
    obtain ⟨n, rfl⟩ : ∃ n', n = n' + 1 := ⟨n - 1, by omega⟩
    have g1 := Go.Sort.scanUp_ge (fun x => !ltSp d[a]! x) d j i
    have g2 := Go.Sort.scanDown_le (fun x => ltSp d[a]! x) d (Go.Sort.scanUp (fun x => !ltSp d[a]! x) d j i) j
    rw [M103, Go.Sort.partEqLoop_eq, eqU_sp a j d ha hj hd (j + 1 - i) i _ (Nat.le_refl _) (by omega), some_bind, eqD_sp a _ d ha (by omega) hd j _ hj (by omega), some_bind]
    generalize Go.Sort.scanDown (fun x => ltSp d[a]! x) d (Go.Sort.scanUp (fun x => !ltSp d[a]! x) d j i) j = j2 at g2 ⊢
    generalize Go.Sort.scanUp (fun x => !ltSp d[a]! x) d j i = i2 at g1 ⊢
    by_cases h1 : i2 > j2
    · rw [decide_eq_true (by omega), cond_true, if_pos h1]
    · have k1 : i2 < d.size := by omega
      have k2 : j2 < d.size := by omega
      have e1 : w64 ((i2 : Int) + 1) = ((i2 + 1 : Nat) : Int) := w64c (by omega) (by omega)
      have e2 : w64 ((j2 : Int) - 1) = ((j2 - 1 : Nat) : Int) := w64c (by omega) (by omega)
      rw [decide_eq_false (by omega), cond_false, if_neg h1]
      simp only [idxA d k1, idxA d k2, some_bind, Int.toNat_natCast, idxS d k2, setS d, e1, e2]
      exact ih (i2 + 1) (j2 - 1) n _ (by omega) (by omega) (by omega) (by rw [swp_sz]; omega) (by rw [swp_sz]; omega) (by rw [swp_sz]; omega) (by rw [swp_sz]; omega)
theorem partEq_sp {a b pivot : Nat} {d : Array TSpan} (h1 : a ≤ pivot) (h2 : pivot < b) (hb : b ≤ d.size) (hd : d.size < 2305843009213693952) : M104 (a : Int) (b : Int) (pivot : Int) d.toList = some (((Go.Sort.partitionEqual ltSp d a b pivot).1 : Int), (Go.Sort.partitionEqual ltSp d a b pivot).2.toList) ∧ (Go.Sort.partitionEqual ltSp d a b pivot).2.size = d.size := by
  have i1 : a < d.size := by omega
  have i2 : pivot < d.size := by omega
  have hs := swp_sz d a pivot
  have e1 : w64 ((a : Int) + 1) = ((a + 1 : Nat) : Int) := w64c (by omega) (by omega)
  have e2 : w64 ((b : Int) - 1) = ((b - 1 : Nat) : Int) := w64c (by omega) (by omega)
  unfold M104 Go.Sort.partitionEqual
  simp only [idxA d i1, idxA d i2, some_bind, Int.toNat_natCast, idxS d i2, e1, e2, setS d]
  rw [eqL_sp a (b - 1 + 1 - (a + 1)) (a + 1) (b - 1) _ (Go.Sort.swp d a pivot) (Nat.le_refl _) (by simp; omega) (by omega) (by omega) (by omega) (by omega) (by omega), some_bind]
  have g4 := partEqLoop_sz ltSp a _ (a + 1) (b - 1) (Go.Sort.swp d a pivot) (Nat.le_refl _)
  exact ⟨rfl, by omega⟩
theorem rev_sp : ∀ (c i j n : Nat) (d : Array TSpan), j - i ≤ c → c < n → j < d.size → d.size < 2305843009213693952 → M91 n (i : Int) (j : Int) d.toList = some (Go.Sort.reverseLoop i j d).toList := by
  intro c
  induction c with
  | zero =>
    intro i j n d h hn hj hd
    obtain ⟨n, rfl⟩ : ∃ n', n = n' + 1 := ⟨n - 1, by omega⟩
    rw [M91, decide_eq_false (by omega), cond_false, Go.Sort.reverseLoop, if_neg (by omega)]
  | succ c ih =>
    intro i j n d h hn hj hd
    obtain ⟨n, rfl⟩ : ∃ n', n = n' + 1 := ⟨n - 1, by omega⟩
    rw [M91, Go.Sort.reverseLoop]
    by_cases h1 : i < j
    · have k1 : i < d.size := by omega
      have e1 : w64 ((i : Int) + 1) = ((i + 1 : Nat) : Int) := w64c (by omega) (by omega)
      have e2 : w64 ((j : Int) - 1) = ((j - 1 : Nat) : Int) := w64c (by omega) (by omega)
      rw [decide_eq_true (by omega), cond_true, if_pos h1]
      simp only [idxA d k1, idxA d hj, some_bind, Int.toNat_natCast, idxS d hj, setS d, e1, e2]
      exact ih (i + 1) (j - 1) n _ (by omega) (by omega) (by rw [swp_sz]; omega) (by rw [swp_sz]; omega)
    · rw [decide_eq_false (by omega), cond_false, if_neg h1]
theorem reverse_sp {a b : Nat} {d : Array TSpan} (h : a < b) (hb : b ≤ d.size) (hd : d.size < 2305843009213693952) : M92 (a : Int) (b : Int) d.toList = some (Go.Sort.reverseRange d a b).toList ∧ (Go.Sort.reverseRange d a b).size = d.size := by
  have e2 : w64 ((b : Int) - 1) = ((b - 1 : Nat) : Int) := w64c (by omega) (by omega)
  unfold M92 Go.Sort.reverseRange
  rw [e2, rev_sp (b - 1 - a) a (b - 1) _ d (Nat.le_refl _) (by omega) (by omega) hd, some_bind]
  exact ⟨rfl, reverseLoop_sz _ _ _ d (Nat.le_refl _)⟩
theorem pinsU_sp (b : Nat) (d : Array TSpan) (hb : b ≤ d.size) (hd : d.size < 2305843009213693952) : ∀ (c i n : Nat), b - i ≤ c → c < n → 0 < i → M94 (b : Int) d.toList n (i : Int) = some ((Go.Sort.scanSorted ltSp d b i : Nat) : Int) := by
  intro c
  induction c with
  | zero =>
    intro i n h hn hi
    obtain ⟨n, rfl⟩ : ∃ n', n = n' + 1 := ⟨n - 1, by omega⟩
    rw [M94, decide_eq_false (by omega), cond_false, Go.Sort.scanSorted, if_neg (by simp; omega)]
  | succ c ih =>
    intro i n h hn hi
    obtain ⟨n, rfl⟩ : ∃ n', n = n' + 1 := ⟨n - 1, by omega⟩
    rw [M94, Go.Sort.scanSorted]
    by_cases h1 : i < b
    · have i1 : i < d.size := by omega
      have i2 : i - 1 < d.size := by omega
      have e1 : w64 ((i : Int) - 1) = ((i - 1 : Nat) : Int) := w64c (by omega) (by omega)
      rw [decide_eq_true (by omega), cond_true]
      simp only [e1, idxA d i1, idxA d i2, some_bind, cmpSp_eq, ltSp_def]
      cases hc : ltSp d[i]! d[i - 1]! with
      | false =>
        rw [Bool.not_false, cond_true, if_pos (by simp [h1]), w64c (i := (i : Int) + 1) (n := i + 1) (by omega) (by omega)]
        exact ih (i + 1) n (by omega) (by omega) (by omega)
      | true => rw [Bool.not_true, cond_false, if_neg (by simp)]
    · rw [decide_eq_false (by omega), cond_false, if_neg (by simp [h1])]
theorem pinsD_sp : ∀ (j n : Nat) (d : Array TSpan), j < d.size → d.size < 2305843009213693952 → j < n → M95 n (j : Int) d.toList = some (Go.Sort.shiftDown ltSp j d).toList := by
  intro j
  induction j with
  | zero =>
    intro n d hj hd hn
    obtain ⟨n, rfl⟩ : ∃ n', n = n' + 1 := ⟨n - 1, by omega⟩
    rw [M95, decide_eq_false (by omega), cond_false]
    rfl
  | succ j ih =>
    intro n d hj hd hn
    obtain ⟨n, rfl⟩ : ∃ n', n = n' + 1 := ⟨n - 1, by omega⟩
    have k1 : j < d.size := by omega
    have e1 : w64 (((j + 1 : Nat) : Int) - 1) = (j : Int) := w64c (by omega) (by omega)
    rw [M95, Go.Sort.shiftDown, decide_eq_true (by omega), cond_true]
    simp only [e1, idxA d hj, idxA d k1, some_bind, cmpSp_eq, ltSp_def, Int.toNat_natCast]
    cases hc : ltSp d[j + 1]! d[j]! with
    | false => rw [Bool.not_false, cond_true, if_pos rfl]
    | true =>
      rw [Bool.not_true, cond_false, if_neg (by simp), idxS d k1, setS d]
      exact ih n _ (by rw [swp_sz]; omega) (by rw [swp_sz]; omega) (by omega)
theorem pinsR_sp (b : Nat) : ∀ (c j n : Nat) (d : Array TSpan), b - j ≤ c → c < n → 0 < j → b ≤ d.size → d.size < 2305843009213693952 → M96 (b : Int) n (j : Int) d.toList = some (Go.Sort.shiftUp ltSp b j d).toList ∧ M97 (b : Int) n (j : Int) d.toList = some (Go.Sort.shiftUp ltSp b j d).toList := by
  intro c
  induction c with
  | zero =>
    intro j n d h hn hj hb hd
    obtain ⟨n, rfl⟩ : ∃ n', n = n' + 1 := ⟨n - 1, by omega⟩
    rw [M96, M97, decide_eq_false (by omega), cond_false, Go.Sort.shiftUp, if_neg (by omega)]
    exact ⟨rfl, rfl⟩
  | succ c ih =>
    intro j n d h hn hj hb hd
    obtain ⟨n, rfl⟩ : ∃ n', n = n' + 1 := ⟨n - 1, by omega⟩
    rw [M96, M97, Go.Sort.shiftUp]
    by_cases h1 : j < b
    · have k1 : j < d.size := by omega
      have k2 : j - 1 < d.size := by omega
      have e1 : w64 ((j : Int) - 1) = ((j - 1 : Nat) : Int) := w64c (by omega) (by omega)
      have e2 : w64 ((j : Int) + 1) = ((j + 1 : Nat) : Int) := w64c (by omega) (by omega)
      rw [decide_eq_true (by omega), cond_true, cond_true, if_pos h1]
      simp only [e1, e2, idxA d k1, idxA d k2, some_bind, cmpSp_eq, ltSp_def, Int.toNat_natCast]
      cases hc : ltSp d[j]! d[j - 1]! with
      | false => simp only [Bool.not_false, cond_true, if_true]; exact ⟨trivial, trivial⟩
      | true =>
        simp only [Bool.not_true, cond_false, Bool.false_eq_true, if_false, idxS d k2, setS d]
        exact ih (j + 1) n _ (by omega) (by omega) (by omega) (by rw [swp_sz]; omega) (by rw [swp_sz]; omega)
    · rw [decide_eq_false (by omega), cond_false, cond_false, if_neg h1]
      exact ⟨rfl, rfl⟩
theorem pinsL_sp (a b : Nat) : ∀ (s i n : Nat) (d : Array TSpan), s < n → s ≤ 5 → a < i → i ≤ b → b ≤ d.size → d.size < 2305843009213693952 → M98 (a : Int) (b : Int) M99 n (i : Int) (5 - (s : Int)) d.toList = some ((Go.Sort.partialIns ltSp a b s i d).2, (Go.Sort.partialIns ltSp a b s i d).1.toList) ∧ (Go.Sort.partialIns ltSp a b s i d).1.size = d.size := by
  intro s
  induction s with
  | zero =>
    intro i n d hn hs hi hib hb hd
    obtain ⟨n, rfl⟩ : ∃ n', n = n' + 1 := ⟨n - 1, by omega⟩
    rw [M98, decide_eq_false (by omega), cond_false]
    exact ⟨rfl, rfl⟩
  | succ s ih =>
    intro i n d hn hs hi hib hb hd
    obtain ⟨n, rfl⟩ : ∃ n', n = n' + 1 := ⟨n - 1, by omega⟩
    have g1 := scanSorted_le ltSp d b _ i (Nat.le_refl _)
    rw [M98, Go.Sort.partialIns, decide_eq_true (by omega), cond_true, pinsU_sp b d hb hd (b - i) i _ (Nat.le_refl _) (by omega) (by omega), some_bind]
    simp only []
    generalize Go.Sort.scanSorted ltSp d b i = i2 at g1 ⊢
    have g2 := g1.2 hib
    by_cases h1 : i2 = b
    · subst h1
      rw [show (((i2 : Nat) : Int) == (i2 : Int)) = true from by simp, cond_true, if_pos rfl]
      exact ⟨rfl, rfl⟩
    · have e1 : w64 ((b : Int) - (a : Int)) = ((b - a : Nat) : Int) := w64c (by omega) (by omega)
      rw [show ((i2 : Int) == (b : Int)) = false from by simp; omega, cond_false, if_neg h1, e1]
      by_cases h2 : b - a < 50
      · rw [decide_eq_true (by omega), cond_true, if_pos h2]
        exact ⟨rfl, rfl⟩
      · have k1 : i2 < d.size := by omega
        have k2 : i2 - 1 < d.size := by omega
        have e2 : w64 ((i2 : Int) - 1) = ((i2 - 1 : Nat) : Int) := w64c (by omega) (by omega)
        have e3 : w64 ((i2 : Int) - (a : Int)) = ((i2 - a : Nat) : Int) := w64c (by omega) (by omega)
        have e4 : w64 ((b : Int) - (i2 : Int)) = ((b - i2 : Nat) : Int) := w64c (by omega) (by omega)
        have e5 : w64 ((i2 : Int) + 1) = ((i2 + 1 : Nat) : Int) := w64c (by omega) (by omega)
        have e6 : w64 ((5 - ((s + 1 : Nat) : Int)) + 1) = 5 - (s : Int) := by rw [w64_of (by omega) (by omega)]; omega
        have hs0 := swp_sz d i2 (i2 - 1)
        rw [decide_eq_false (by omega), cond_false, if_neg h2]
        simp only [e2, e3, e4, e5, idxA d k1, idxA d k2, some_bind, Int.toNat_natCast, idxS d k2, setS d]
        have hJ : ∀ D : Array TSpan, M93 (5 - ((s + 1 : Nat) : Int)) (M98 (a : Int) (b : Int) M99 n) (i2 : Int) D.toList = M98 (a : Int) (b : Int) M99 n (i2 : Int) (5 - (s : Int)) D.toList := by
          intro D
          rw [M93, e6]
        generalize hD : Go.Sort.swp d i2 (i2 - 1) = D at hs0 ⊢
        have last : ∀ E : Array TSpan, E.size = d.size → M98 (a : Int) (b : Int) M99 n (i2 : Int) (5 - (s : Int)) E.toList = some ((Go.Sort.partialIns ltSp a b s i2 E).2, (Go.Sort.partialIns ltSp a b s i2 E).1.toList) ∧ (Go.Sort.partialIns ltSp a b s i2 E).1.size = d.size := by
          intro E hE
          have := ih i2 n E (by omega) (by omega) (by omega) (by omega) (by omega) (by omega)
          exact ⟨this.1, this.2.trans hE⟩
        by_cases h3 : i2 - a ≥ 2
        · have hsd := shiftDown_sz ltSp (i2 - 1) D
          rw [decide_eq_true (by omega), cond_true, if_pos h3, pinsD_sp (i2 - 1) _ D (by omega) (by omega) (by omega), some_bind]
          by_cases h4 : b - i2 ≥ 2
          · have hsu := shiftUp_sz ltSp b _ (i2 + 1) (Go.Sort.shiftDown ltSp (i2 - 1) D) (Nat.le_refl _)
            rw [decide_eq_true (by omega), cond_true, if_pos h4, (pinsR_sp b (b - (i2 + 1)) (i2 + 1) _ (Go.Sort.shiftDown ltSp (i2 - 1) D) (Nat.le_refl _) (by omega) (by omega) (by omega) (by omega)).1, some_bind, hJ]
            exact last _ (by omega)
          · rw [decide_eq_false (by omega), cond_false, if_neg h4, hJ]
            exact last _ (by omega)
        · rw [decide_eq_false (by omega), cond_false, if_neg h3]
          by_cases h4 : b - i2 ≥ 2
          · have hsu := shiftUp_sz ltSp b _ (i2 + 1) D (Nat.le_refl _)
            rw [decide_eq_true (by omega), cond_true, if_pos h4, (pinsR_sp b (b - (i2 + 1)) (i2 + 1) _ D (Nat.le_refl _) (by omega) (by omega) (by omega) (by omega)).2, some_bind, hJ]
            exact last _ (by omega)
          · rw [decide_eq_false (by omega), cond_false, if_neg h4, hJ]
            exact last _ (by omega)
theorem pins_sp {a b : Nat} {d : Array TSpan} (h : a < b) (hb : b ≤ d.size) (hd : d.size < 2305843009213693952) : M100 (a : Int) (b : Int) d.toList = some ((Go.Sort.partialInsertionSort ltSp d a b).2, (Go.Sort.partialInsertionSort ltSp d a b).1.toList) ∧ (Go.Sort.partialInsertionSort ltSp d a b).1.size = d.size := by
  have e1 : w64 ((a : Int) + 1) = ((a + 1 : Nat) : Int) := w64c (by omega) (by omega)
  unfold M100 Go.Sort.partialInsertionSort
  rw [e1]
  exact pinsL_sp a b 5 (a + 1) _ d (by omega) (by omega) (by omega) (by omega) hb hd
theorem ord2_sp {a b : Nat} {v : Int} {d : Array TSpan} (ha : a < d.size) (hb : b < d.size) : M87 d.toList (a : Int) (b : Int) v = some ((a : Int), (b : Int), v) ∨ ∃ v', M87 d.toList (a : Int) (b : Int) v = some ((b : Int), (a : Int), v') := by
  unfold M87
  simp only [idxA d ha, idxA d hb, some_bind, cmpSp_eq, ltSp_def]
  cases ltSp d[b]! d[a]! with
  | true => exact .inr ⟨_, rfl⟩
  | false => exact .inl rfl
theorem med_sp {a b c : Nat} {v : Int} {d : Array TSpan} (ha : a < d.size) (hb : b < d.size) (hc : c < d.size) : ∃ (r : Nat) (v' : Int), M88 d.toList (a : Int) (b : Int) (c : Int) v = some ((r : Int), v') ∧ (r = a ∨ r = b ∨ r = c) := by
  unfold M88
  have o : ∀ {x y : Nat} (w : Int), x < d.size → y < d.size → ∃ (p q : Nat) (w' : Int), M87 d.toList (x : Int) (y : Int) w = some ((p : Int), (q : Int), w') ∧ (p = x ∧ q = y ∨ p = y ∧ q = x) := by
    intro x y w hx hy
    rcases ord2_sp (v := w) hx hy with h | ⟨w', h⟩
    · exact ⟨x, y, w, h, .inl ⟨rfl, rfl⟩⟩
    · exact ⟨y, x, w', h, .inr ⟨rfl, rfl⟩⟩
  obtain ⟨p1, q1, w1, e1, h1⟩ := o v ha hb
  rw [e1, some_bind]
  obtain ⟨p2, q2, w2, e2, h2⟩ := o (x := q1) (y := c) w1 (by rcases h1 with ⟨_, h⟩ | ⟨_, h⟩ <;> omega) hc
  simp only []
  rw [e2, some_bind]
  obtain ⟨p3, q3, w3, e3, h3⟩ := o (x := p1) (y := p2) w2 (by rcases h1 with ⟨h, _⟩ | ⟨h, _⟩ <;> omega) (by rcases h1 with ⟨h, h'⟩ | ⟨h, h'⟩ <;> rcases h2 with ⟨k, _⟩ | ⟨k, _⟩ <;> omega)
  simp only []
  rw [e3, some_bind]
  exact ⟨q3, w3, rfl, by omega⟩
theorem pivot_sp {a b : Nat} {d : Array TSpan} (h : a + 12 < b) (hb : b ≤ d.size) (hd : d.size < 2305843009213693952) : ∃ (p : Nat) (hint : Int), M90 d.toList (a : Int) (b : Int) = some ((p : Int), hint) ∧ a ≤ p ∧ p < b := by
  have e1 : w64 ((b : Int) - (a : Int)) = ((b - a : Nat) : Int) := w64c (by omega) (by omega)
  have e6 : Int.tdiv ((b - a : Nat) : Int) 4 = (((b - a) / 4 : Nat) : Int) := (Int.ofNat_tdiv _ 4).symm
  have e2 : w64 (Int.tdiv ((b - a : Nat) : Int) 4) = (((b - a) / 4 : Nat) : Int) := by rw [e6]; exact w64c rfl (by omega)
  have m : ∀ k : Nat, k ≤ 3 → w64 ((a : Int) + w64 ((((b - a) / 4 : Nat) : Int) * (k : Int))) = ((a + (b - a) / 4 * k : Nat) : Int) := by
    intro k hk
    have hk' : (b - a) / 4 * k ≤ (b - a) / 4 * 3 := Nat.mul_le_mul_left _ hk
    rw [w64c (i := (((b - a) / 4 : Nat) : Int) * (k : Int)) (n := (b - a) / 4 * k) (by simp) (by omega)]
    exact w64c (by omega) (by omega)
  have m1 := m 1 (by omega)
  have m2 := m 2 (by omega)
  have m3 := m 3 (by omega)
  have adj : ∀ (x : Nat) (v : Int), a < x → x + 1 < b → ∃ (r : Nat) (v' : Int), M89 d.toList (x : Int) v = some ((r : Int), v') ∧ a ≤ r ∧ r < b := by
    intro x v h1 h2
    unfold M89
    rw [w64c (i := (x : Int) - 1) (n := x - 1) (by omega) (by omega), w64c (i := (x : Int) + 1) (n := x + 1) (by omega) (by omega)]
    obtain ⟨r, v', e, hr⟩ := med_sp (v := v) (d := d) (a := x - 1) (b := x) (c := x + 1) (by omega) (by omega) (by omega)
    rw [e, some_bind]
    exact ⟨r, v', rfl, by omega⟩
  have fin : ∀ (p : Nat) (v : Int), a ≤ p → p < b → ∃ (q : Nat) (hint : Int), (bif v == 0 then some ((p : Int), (1 : Int)) else bif v == 12 then some ((p : Int), (2 : Int)) else some ((p : Int), (0 : Int))) = some ((q : Int), hint) ∧ a ≤ q ∧ q < b := by
    intro p v h1 h2
    cases v == 0 with
    | true => exact ⟨p, 1, rfl, h1, h2⟩
    | false =>
      cases v == 12 with
      | true => exact ⟨p, 2, rfl, h1, h2⟩
      | false => exact ⟨p, 0, rfl, h1, h2⟩
  unfold M90
  rw [e1, decide_eq_true (by omega), cond_true, e2]
  simp only [show (1 : Int) = ((1 : Nat) : Int) from rfl, show (2 : Int) = ((2 : Nat) : Int) from rfl, show (3 : Int) = ((3 : Nat) : Int) from rfl, m1, m2, m3]
  by_cases h50 : b - a ≥ 50
  · rw [decide_eq_true (by omega), cond_true]
    obtain ⟨r1, v1, q1, s1⟩ := adj (a + (b - a) / 4 * 1) 0 (by omega) (by omega)
    rw [q1, some_bind]
    obtain ⟨r2, v2, q2, s2⟩ := adj (a + (b - a) / 4 * 2) v1 (by omega) (by omega)
    simp only []
    rw [q2, some_bind]
    obtain ⟨r3, v3, q3, s3⟩ := adj (a + (b - a) / 4 * 3) v2 (by omega) (by omega)
    simp only []
    rw [q3, some_bind]
    obtain ⟨r4, v4, q4, s4⟩ := med_sp (v := v3) (d := d) (a := r1) (b := r2) (c := r3) (by omega) (by omega) (by omega)
    simp only []
    rw [q4, some_bind]
    exact fin r4 v4 (by omega) (by omega)
  · rw [decide_eq_false (by omega), cond_false]
    obtain ⟨r4, v4, q4, s4⟩ := med_sp (v := 0) (d := d) (a := a + (b - a) / 4 * 1) (b := a + (b - a) / 4 * 2) (c := a + (b - a) / 4 * 3) (by omega) (by omega) (by omega)
    rw [q4, some_bind]
    exact fin r4 v4 (by omega) (by omega)
theorem brkL_sp (a b R : Nat) (hab : a + 12 < b) (hR0 : 0 < R) (hR : R ≤ 2 * (b - a)) : ∀ (c ix n : Nat) (d : Array TSpan) (v : Int), a + (b - a) / 4 * 2 + 2 - ix ≤ c → c < n → a ≤ ix → b ≤ d.size → d.size < 1152921504606846976 → ∃ d' : Array TSpan, M113 (a : Int) (b : Int) (R : Int) n (ix : Int) d.toList v = some d'.toList ∧ Go.Sort.PermIn a b d d' := by
  intro c
  induction c with
  | zero =>
    intro ix n d v h hn hi hb hd
    obtain ⟨n, rfl⟩ : ∃ n', n = n' + 1 := ⟨n - 1, by omega⟩
    have e1 : w64 ((b : Int) - (a : Int)) = ((b - a : Nat) : Int) := w64c (by omega) (by omega)
    have e6 : Int.tdiv ((b - a : Nat) : Int) 4 = (((b - a) / 4 : Nat) : Int) := (Int.ofNat_tdiv _ 4).symm
    have e2 : w64 (Int.tdiv ((b - a : Nat) : Int) 4) = (((b - a) / 4 : Nat) : Int) := by rw [e6]; exact w64c rfl (by omega)
    have e3 : w64 ((((b - a) / 4 : Nat) : Int) * 2) = (((b - a) / 4 * 2 : Nat) : Int) := w64c (by omega) (by omega)
    have e4 : w64 ((a : Int) + (((b - a) / 4 * 2 : Nat) : Int)) = ((a + (b - a) / 4 * 2 : Nat) : Int) := w64c (by omega) (by omega)
    have e5 : w64 (((a + (b - a) / 4 * 2 : Nat) : Int) + 1) = ((a + (b - a) / 4 * 2 + 1 : Nat) : Int) := w64c (by omega) (by omega)
    rw [M113]
    simp only [e1, e2, e3, e4, e5]
    rw [decide_eq_false (by omega), cond_false]
    exact ⟨d, rfl, Go.Sort.permIn_refl d a b⟩
  | succ c ih =>
    intro ix n d v h hn hi hb hd
    obtain ⟨n, rfl⟩ : ∃ n', n = n' + 1 := ⟨n - 1, by omega⟩
    have e1 : w64 ((b : Int) - (a : Int)) = ((b - a : Nat) : Int) := w64c (by omega) (by omega)
    have e6 : Int.tdiv ((b - a : Nat) : Int) 4 = (((b - a) / 4 : Nat) : Int) := (Int.ofNat_tdiv _ 4).symm
    have e2 : w64 (Int.tdiv ((b - a : Nat) : Int) 4) = (((b - a) / 4 : Nat) : Int) := by rw [e6]; exact w64c rfl (by omega)
    have e3 : w64 ((((b - a) / 4 : Nat) : Int) * 2) = (((b - a) / 4 * 2 : Nat) : Int) := w64c (by omega) (by omega)
    have e4 : w64 ((a : Int) + (((b - a) / 4 * 2 : Nat) : Int)) = ((a + (b - a) / 4 * 2 : Nat) : Int) := w64c (by omega) (by omega)
    have e5 : w64 (((a + (b - a) / 4 * 2 : Nat) : Int) + 1) = ((a + (b - a) / 4 * 2 + 1 : Nat) : Int) := w64c (by omega) (by omega)
    rw [M113]
    simp only [e1, e2, e3, e4, e5]
    by_cases h1 : ix ≤ a + (b - a) / 4 * 2 + 1
    · rw [decide_eq_true (by omega), cond_true]
      obtain ⟨r, v', hr⟩ := xnext_some v
      rw [hr, some_bind]
      simp only []
      obtain ⟨m, hm, em⟩ := mask_lt r hR0 (by omega)
      simp only [em]
      have e7 : w64 ((ix : Int) + 1) = ((ix + 1 : Nat) : Int) := w64c (by omega) (by omega)
      have go : ∀ o : Nat, o < b - a → ∃ d' : Array TSpan, M113 (a : Int) (b : Int) (R : Int) n ((ix + 1 : Nat) : Int) (Go.Sort.swp d ix (a + o)).toList v' = some d'.toList ∧ Go.Sort.PermIn a b d d' := by
        intro o ho
        have hp := Go.Sort.swp_permIn d a b ix (a + o) (by omega) (by omega) (by omega) (by omega) hb
        obtain ⟨d', q1, q2⟩ := ih (ix + 1) n (Go.Sort.swp d ix (a + o)) v' (by omega) (by omega) (by omega) (by rw [swp_sz]; omega) (by rw [swp_sz]; omega)
        exact ⟨d', q1, Go.Sort.permIn_trans _ _ _ a b hp q2⟩
      have k1 : ix < d.size := by omega
      by_cases h2 : m ≥ b - a
      · have e8 : w64 ((m : Int) - ((b - a : Nat) : Int)) = ((m - (b - a) : Nat) : Int) := w64c (by omega) (by omega)
        have e9 : w64 ((a : Int) + ((m - (b - a) : Nat) : Int)) = ((a + (m - (b - a)) : Nat) : Int) := w64c (by omega) (by omega)
        have k2 : a + (m - (b - a)) < d.size := by omega
        rw [decide_eq_true (by omega), cond_true]
        simp only [e7, e8, e9, idxA d k1, idxA d k2, some_bind, Int.toNat_natCast, idxS d k2, setS d]
        exact go (m - (b - a)) (by omega)
      · have e9 : w64 ((a : Int) + (m : Int)) = ((a + m : Nat) : Int) := w64c (by omega) (by omega)
        have k2 : a + m < d.size := by omega
        rw [decide_eq_false (by omega), cond_false]
        simp only [e7, e9, idxA d k1, idxA d k2, some_bind, Int.toNat_natCast, idxS d k2, setS d]
        exact go m (by omega)
    · rw [decide_eq_false (by omega), cond_false]
      exact ⟨d, rfl, Go.Sort.permIn_refl d a b⟩
theorem brk_sp {a b : Nat} {d : Array TSpan} (hab : a + 12 < b) (hb : b ≤ d.size) (hd : d.size < 1152921504606846976) : ∃ d' : Array TSpan, M114 (a : Int) (b : Int) d.toList = some d'.toList ∧ Go.Sort.PermIn a b d d' := by
  have e1 : w64 ((b : Int) - (a : Int)) = ((b - a : Nat) : Int) := w64c (by omega) (by omega)
  have e6 : Int.tdiv ((b - a : Nat) : Int) 4 = (((b - a) / 4 : Nat) : Int) := (Int.ofNat_tdiv _ 4).symm
  have e2 : w64 (Int.tdiv ((b - a : Nat) : Int) 4) = (((b - a) / 4 : Nat) : Int) := by rw [e6]; exact w64c rfl (by omega)
  have e3 : w64 ((((b - a) / 4 : Nat) : Int) * 2) = (((b - a) / 4 * 2 : Nat) : Int) := w64c (by omega) (by omega)
  have e4 : w64 ((a : Int) + (((b - a) / 4 * 2 : Nat) : Int)) = ((a + (b - a) / 4 * 2 : Nat) : Int) := w64c (by omega) (by omega)
  have e5 : w64 (((a + (b - a) / 4 * 2 : Nat) : Int) + 1) = ((a + (b - a) / 4 * 2 + 1 : Nat) : Int) := w64c (by omega) (by omega)
  have e7 : w64 (((a + (b - a) / 4 * 2 : Nat) : Int) - 1) = ((a + (b - a) / 4 * 2 - 1 : Nat) : Int) := w64c (by omega) (by omega)
  obtain ⟨R, hR, hR0, hR1⟩ := nextPow_eq (n := b - a) (by omega) (by omega)
  unfold M114
  simp only [e1, e2, e3, e4, e5, e7]
  rw [decide_eq_true (by omega), cond_true, hR, some_bind]
  obtain ⟨d', q1, q2⟩ := brkL_sp a b R hab hR0 hR1 3 (a + (b - a) / 4 * 2 - 1) ((((a + (b - a) / 4 * 2 + 1 : Nat) : Int) + 1 - ((a + (b - a) / 4 * 2 - 1 : Nat) : Int)).toNat + 1) d (IntKind.wrap .u64 ((b - a : Nat) : Int)) (by omega) (by omega) (by omega) hb hd
  rw [q1, some_bind]
  exact ⟨d', rfl, q2⟩
theorem pdqJ_sp (hS : Go.Sort.SWO ltSp) (rc : Int → Int → Int → List TSpan → Option (List TSpan)) (nx : Int → Int → Int → Bool → Bool → List TSpan → Option (List TSpan)) (a b : Nat) (N : Nat) (hN : N < 1152921504606846976)
    (hrc : ∀ (a' b' : Nat) (lim : Int) (d : Array TSpan), b' - a' < b - a → a' ≤ b' → b' ≤ d.size → d.size = N → Go.Sort.Below ltSp a' b' d → ∃ d', rc a' b' lim d.toList = some d'.toList ∧ Go.Sort.PermIn a' b' d d' ∧ Go.Sort.SortedIn ltSp a' b' d')
    (hnx : ∀ (a' b' : Nat) (lim : Int) (wb wp : Bool) (d : Array TSpan), b' - a' < b - a → a' ≤ b' → b' ≤ d.size → d.size = N → Go.Sort.Below ltSp a' b' d → ∃ d', nx a' b' lim wb wp d.toList = some d'.toList ∧ Go.Sort.PermIn a' b' d d' ∧ Go.Sort.SortedIn ltSp a' b' d')
    (p : Nat) (lim : Int) (wb wp : Bool) (d : Array TSpan) (hab : a + 12 < b) (h1 : a ≤ p) (h2 : p < b) (hb : b ≤ d.size) (hd : d.size = N) (hB : Go.Sort.Below ltSp a b d) :
    ∃ d', M115 (a : Int) (b : Int) wb wp nx lim (p : Int) rc d.toList = some d'.toList ∧ Go.Sort.PermIn a b d d' ∧ Go.Sort.SortedIn ltSp a b d' := by
  unfold M115
  have hv : ∃ v : Bool, (bif decide ((a : Int) > 0) then (idx d.toList (w64 ((a : Int) - 1))).bind fun x => (idx d.toList (p : Int)).bind fun y => some (!ltSp x y) else some false) = some v ∧ (v = true → 0 < a ∧ ltSp d[a - 1]! d[p]! = false) := by
    by_cases h0 : 0 < a
    · have e1 : w64 ((a : Int) - 1) = ((a - 1 : Nat) : Int) := w64c (by omega) (by omega)
      rw [decide_eq_true (by omega), cond_true, e1, idxA d (show a - 1 < d.size by omega), some_bind, idxA d (show p < d.size by omega), some_bind]
      exact ⟨_, rfl, fun hv => ⟨h0, by simpa using hv⟩⟩
    · rw [decide_eq_false (by omega), cond_false]
      exact ⟨false, rfl, fun hv => by cases hv⟩
  simp only [cmpSp_eq, ltSp_def, some_bind]
  obtain ⟨v, hv1, hv2⟩ := hv
  rw [hv1, some_bind]
  cases v with
  | true =>
    obtain ⟨ha0, hnl⟩ := hv2 rfl
    obtain ⟨q1, q2⟩ := partEq_sp h1 h2 hb (by omega : d.size < 2305843009213693952)
    rw [cond_true, q1, some_bind]
    obtain ⟨r1, r2, r3, r4, r5⟩ := Go.Sort.round_eq hS (Go.Sort.partitionEqual_holds ltSp) ha0 h1 h2 hb hB hnl (show Go.Sort.partitionEqual ltSp d a b p = ((Go.Sort.partitionEqual ltSp d a b p).1, (Go.Sort.partitionEqual ltSp d a b p).2) from rfl)
    simp only []
    rw [lenIs_arr q2, some_bind]
    obtain ⟨d', s1, s2, s3⟩ := hnx (Go.Sort.partitionEqual ltSp d a b p).1 b lim wb wp (Go.Sort.partitionEqual ltSp d a b p).2 (by omega) r2 (by omega) (by omega) r4
    obtain ⟨s4, s5⟩ := r5 d' s2 s3
    exact ⟨d', s1, s4, s5⟩
  | false =>
    obtain ⟨q1, q2⟩ := part_sp h1 h2 hb (by omega : d.size < 2305843009213693952)
    rw [cond_false, q1, some_bind]
    obtain ⟨r1, r2, r3, r4, r5, r6, r7⟩ := Go.Sort.round_part hS (Go.Sort.partition_holds ltSp) h1 h2 hb hB (show Go.Sort.partition ltSp d a b p = ((Go.Sort.partition ltSp d a b p).1, (Go.Sort.partition ltSp d a b p).2.1, (Go.Sort.partition ltSp d a b p).2.2) from rfl)
    simp only []
    rw [lenIs_arr q2, some_bind]
    generalize (Go.Sort.partition ltSp d a b p).1 = mid at r1 r2 r4 r5 r6 r7 ⊢
    generalize (Go.Sort.partition ltSp d a b p).2.1 = wp' at ⊢
    generalize (Go.Sort.partition ltSp d a b p).2.2 = d4 at r3 r4 r5 r6 r7 ⊢
    have e3 : w64 ((mid : Int) + 1) = ((mid + 1 : Nat) : Int) := w64c (by omega) (by omega)
    rw [e3]
    cases decide (w64 ((mid : Int) - (a : Int)) < w64 ((b : Int) - (mid : Int))) with
    | true =>
      obtain ⟨L, s1, s2, s3⟩ := hrc a mid lim d4 (by omega) r1 (by omega) (by omega) r4
      rw [cond_true, s1, some_bind, lenIs_arr s2.1, some_bind]
      obtain ⟨u1, u2⟩ := r6 L s2 s3
      obtain ⟨R, w1, w2, w3⟩ := hnx (mid + 1) b lim (decide (w64 ((mid : Int) - (a : Int)) ≥ w64 (Int.tdiv (w64 ((b : Int) - (a : Int))) 8))) wp' L (by omega) (by omega) (by rw [s2.1]; omega) (by rw [s2.1]; omega) u1
      obtain ⟨x1, x2⟩ := u2 R w2 w3
      exact ⟨R, w1, x1, x2⟩
    | false =>
      obtain ⟨L, s1, s2, s3⟩ := hrc (mid + 1) b lim d4 (by omega) (by omega) (by omega) (by omega) r5
      rw [cond_false, s1, some_bind, lenIs_arr s2.1, some_bind]
      obtain ⟨u1, u2⟩ := r7 L s2 s3
      obtain ⟨R, w1, w2, w3⟩ := hnx a mid lim (decide (w64 ((b : Int) - (mid : Int)) ≥ w64 (Int.tdiv (w64 ((b : Int) - (a : Int))) 8))) wp' L (by omega) (by omega) (by rw [s2.1]; omega) (by rw [s2.1]; omega) u1
      obtain ⟨x1, x2⟩ := u2 R w2 w3
      exact ⟨R, w1, x1, x2⟩
theorem pdqL_sp (hS : Go.Sort.SWO ltSp) (rc : Int → Int → Int → List TSpan → Option (List TSpan)) (f N : Nat) (hN : N < 1152921504606846976)
    (hrc : ∀ (a' b' : Nat) (lim : Int) (d : Array TSpan), b' - a' < f → a' ≤ b' → b' ≤ d.size → d.size = N → Go.Sort.Below ltSp a' b' d → ∃ d', rc a' b' lim d.toList = some d'.toList ∧ Go.Sort.PermIn a' b' d d' ∧ Go.Sort.SortedIn ltSp a' b' d') :
    ∀ (n a b : Nat) (lim : Int) (wb wp : Bool) (d : Array TSpan), b - a < n → b - a ≤ f → a ≤ b → b ≤ d.size → d.size = N → Go.Sort.Below ltSp a b d → ∃ d', M116 rc n a b lim wb wp d.toList = some d'.toList ∧ Go.Sort.PermIn a b d d' ∧ Go.Sort.SortedIn ltSp a b d' := by
  intro n
  induction n with
  | zero => intro a b lim wb wp d h; omega
  | succ n ih =>
    intro a b lim wb wp d hn hf hab hb hd hB
    have e1 : w64 ((b : Int) - (a : Int)) = ((b - a : Nat) : Int) := w64c (by omega) (by omega)
    rw [M116, e1]
    by_cases h12 : b - a ≤ 12
    · obtain ⟨q1, q2⟩ := ins_sp (d := d) hab hb (by omega)
      rw [decide_eq_true (by omega), cond_true, q1, some_bind, lenIs_arr q2, some_bind]
      exact ⟨_, rfl, Go.Sort.insertionSort_holds hS d a b hab hb⟩
    · rw [decide_eq_false (by omega), cond_false]
      cases lim == 0 with
      | true =>
        obtain ⟨q1, q2⟩ := heap_sp (a := a) (b := b) (d := d) (by omega) hb (by omega)
        rw [cond_true, q1, some_bind, lenIs_arr q2, some_bind]
        exact ⟨_, rfl, Go.Sort.heapSort_holds hS d a b hab hb⟩
      | false =>
        rw [cond_false]
        have s1 : ∃ (l1 : Int) (d1 : Array TSpan), (bif !wb then (M114 (a : Int) (b : Int) d.toList).bind fun l => (lenIs l d.toList).bind fun _ => some (w64 (lim - 1), l) else some (lim, d.toList)) = some (l1, d1.toList) ∧ Go.Sort.PermIn a b d d1 := by
          cases wb with
          | true => exact ⟨lim, d, rfl, Go.Sort.permIn_refl d a b⟩
          | false =>
            obtain ⟨d1, q1, q2⟩ := brk_sp (a := a) (b := b) (d := d) (by omega) hb (by omega)
            refine ⟨w64 (lim - 1), d1, ?_, q2⟩
            rw [Bool.not_false, cond_true, q1, some_bind, lenIs_arr q2.1, some_bind]
        obtain ⟨l1, d1, t1, t2⟩ := s1
        rw [t1, some_bind]
        simp only []
        have z1 : d1.size = N := t2.1.trans hd
        obtain ⟨p, hint, t3, t4, t5⟩ := pivot_sp (a := a) (b := b) (d := d1) (by omega) (by omega) (by omega)
        rw [t3, some_bind]
        simp only []
        have s2 : ∃ (p2 : Nat) (h2 : Int) (d2 : Array TSpan), (bif hint == 2 then (M92 (a : Int) (b : Int) d1.toList).bind fun l => (lenIs l d1.toList).bind fun _ => some (w64 (w64 ((b : Int) - 1) - w64 ((p : Int) - (a : Int))), (1 : Int), l) else some ((p : Int), hint, d1.toList)) = some ((p2 : Int), h2, d2.toList) ∧ Go.Sort.PermIn a b d1 d2 ∧ a ≤ p2 ∧ p2 < b := by
          cases hint == 2 with
          | false => exact ⟨p, hint, d1, rfl, Go.Sort.permIn_refl d1 a b, t4, t5⟩
          | true =>
            obtain ⟨q1, q2⟩ := reverse_sp (a := a) (b := b) (d := d1) (by omega) (by omega) (by omega)
            have e2 : w64 ((b : Int) - 1) = ((b - 1 : Nat) : Int) := w64c (by omega) (by omega)
            have e3 : w64 ((p : Int) - (a : Int)) = ((p - a : Nat) : Int) := w64c (by omega) (by omega)
            have e4 : w64 (((b - 1 : Nat) : Int) - ((p - a : Nat) : Int)) = ((b - 1 - (p - a) : Nat) : Int) := w64c (by omega) (by omega)
            refine ⟨b - 1 - (p - a), 1, Go.Sort.reverseRange d1 a b, ?_, Go.Sort.reverseRange_holds d1 a b hab (by omega), by omega, by omega⟩
            rw [cond_true, q1, some_bind, lenIs_arr q2, some_bind, e2, e3, e4]
        obtain ⟨p2, hint2, d2, t6, t7, t8, t9⟩ := s2
        rw [t6, some_bind]
        simp only []
        have z2 : d2.size = N := t7.1.trans z1
        have t10 := Go.Sort.permIn_trans _ _ _ a b t2 t7
        have hB2 : Go.Sort.Below ltSp a b d2 := Go.Sort.Below.perm hB hb t10
        have J : ∀ d3 : Array TSpan, Go.Sort.PermIn a b d2 d3 → ∃ d', M115 (a : Int) (b : Int) wb wp (M116 rc n) l1 (p2 : Int) rc d3.toList = some d'.toList ∧ Go.Sort.PermIn a b d d' ∧ Go.Sort.SortedIn ltSp a b d' := by
          intro d3 hp
          have z3 : d3.size = N := hp.1.trans z2
          obtain ⟨d', u1, u2, u3⟩ := pdqJ_sp hS rc (M116 rc n) a b N hN (fun a' b' lim d g1 => hrc a' b' lim d (by omega)) (fun a' b' lim wb wp d g1 => ih a' b' lim wb wp d (by omega) (by omega)) p2 l1 wb wp d3 (by omega) t8 t9 (by omega) z3 (Go.Sort.Below.perm hB2 (by omega) hp)
          exact ⟨d', u1, Go.Sort.permIn_trans _ _ _ a b t10 (Go.Sort.permIn_trans _ _ _ a b hp u2), u3⟩
        cases wb && (wp && hint2 == 1) with
        | false => rw [cond_false]; exact J d2 (Go.Sort.permIn_refl d2 a b)
        | true =>
          obtain ⟨q1, q2⟩ := pins_sp (a := a) (b := b) (d := d2) (by omega) (by omega) (by omega)
          obtain ⟨q3, q4⟩ := Go.Sort.partialInsertionSort_holds hS d2 a b (by omega) (by omega) hB2
          rw [cond_true, q1, some_bind]
          simp only []
          rw [lenIs_arr q2, some_bind]
          cases hr : (Go.Sort.partialInsertionSort ltSp d2 a b).2 with
          | true => rw [cond_true]; exact ⟨_, rfl, Go.Sort.permIn_trans _ _ _ a b t10 q3, q4 hr⟩
          | false => rw [cond_false]; exact J _ q3
theorem pdq_sp (hS : Go.Sort.SWO ltSp) (N : Nat) (hN : N < 1152921504606846976) : ∀ (f a b : Nat) (lim : Int) (d : Array TSpan), b - a < f → a ≤ b → b ≤ d.size → d.size = N → Go.Sort.Below ltSp a b d → ∃ d', M118 f a b lim d.toList = some d'.toList ∧ Go.Sort.PermIn a b d d' ∧ Go.Sort.SortedIn ltSp a b d' := by
  intro f
  induction f with
  | zero => intro a b lim d h; omega
  | succ f ih =>
    intro a b lim d h hab hb hd hB
    show ∃ d' : Array TSpan, M117 (M118 f) a b lim d.toList = some d'.toList ∧ _
    unfold M117
    exact pdqL_sp hS _ f N hN ih _ a b lim true true d (by simp; omega) (by omega) hab hb hd hB
theorem sorts_sp (hS : Go.Sort.SWO ltSp) (l : List TSpan) (hl : l.length < 1152921504606846976) (lim : Int) : ∃ l', M118 (List.length l + 1) 0 (l.length : Int) lim l = some l' ∧ l'.length = l.length ∧ l'.Perm l ∧ l'.Pairwise (fun x y => ltSp y x = false) := by
  obtain ⟨d', h1, h2, h3⟩ := pdq_sp hS l.length hl (l.length + 1) 0 l.length lim l.toArray (by omega) (by omega) (by simp) (by simp) (.inl rfl)
  refine ⟨d'.toList, h1, by simpa using h2.1, ?_, ?_⟩
  · have hz : d'.size = l.length := by simpa using h2.1
    have := h2.2.2
    have e1 : d'.extract 0 l.length = d' := by rw [← hz]; simp
    have e2 : l.toArray.extract 0 l.length = l.toArray := by simp
    rw [e1, e2] at this
    exact this
  · have hz : d'.size = l.length := by simpa using h2.1
    rw [List.pairwise_iff_getElem]
    intro i j hi hj hij
    have hi' : i < d'.size := by simpa using hi
    have hj' : j < d'.size := by simpa using hj
    have := h3 i j (Nat.zero_le _) hij (by omega)
    simpa [hi', hj'] using this
def okS (s : TSpan) : Prop := -70368744177664 ≤ s.Lo ∧ s.Lo ≤ s.Hi ∧ s.Hi ≤ 70368744177664
@[reducible, instance] def okSDec (s : TSpan) : Decidable (okS s) := by unfold okS; infer_instance
def inS (t : Int) (s : TSpan) : Prop := s.Lo ≤ t ∧ t ≤ s.Hi
def inL (t : Int) (l : List TSpan) : Prop := ∃ s, s ∈ l ∧ inS t s
def Tid : List TSpan → Prop
  | [] => True
  | s :: l => (s.Lo ≤ s.Hi ∧ ∀ x, x ∈ l → s.Hi + 1 < x.Lo) ∧ Tid l
theorem inL_nil (t : Int) : ¬inL t [] := fun ⟨_, h, _⟩ => by cases h
theorem inL_cons {t : Int} {s : TSpan} {l : List TSpan} : inL t (s :: l) ↔ inS t s ∨ inL t l := by
  constructor
  · rintro ⟨x, hx, h⟩
    rcases List.mem_cons.1 hx with rfl | hx
    · exact .inl h
    · exact .inr ⟨x, hx, h⟩
  · rintro (h | ⟨x, hx, h⟩)
    · exact ⟨s, List.mem_cons_self, h⟩
    · exact ⟨x, List.mem_cons_of_mem _ hx, h⟩
theorem Tid.ext : ∀ {a b : List TSpan}, Tid a → Tid b → (∀ t, inL t a ↔ inL t b) → a = b
  | [], [], _, _, _ => rfl
  | [], s :: l, _, hb, h => absurd ((h s.Lo).2 (inL_cons.2 (.inl ⟨Int.le_refl _, hb.1.1⟩))) (inL_nil _)
  | s :: l, [], ha, _, h => absurd ((h s.Lo).1 (inL_cons.2 (.inl ⟨Int.le_refl _, ha.1.1⟩))) (inL_nil _)
  | s :: l, s' :: l', ha, hb, h => by
    have low : ∀ {x : TSpan} {r : List TSpan} {t : Int}, Tid (x :: r) → inL t (x :: r) → x.Lo ≤ t := by
      intro x r t hx ht
      rcases inL_cons.1 ht with ht | ⟨y, hy, ht⟩
      · exact ht.1
      · have := hx.1.2 y hy; have := hx.1.1; have := ht.1; omega
    have gap : ∀ {x : TSpan} {r : List TSpan} {t : Int}, Tid (x :: r) → inL t r → x.Hi + 1 < t := by
      intro x r t hx ⟨y, hy, ht⟩
      have := hx.1.2 y hy; have := ht.1; omega
    have h1 : s.Lo = s'.Lo := by
      have a1 := low hb ((h s.Lo).1 (inL_cons.2 (.inl ⟨Int.le_refl _, ha.1.1⟩)))
      have a2 := low ha ((h s'.Lo).2 (inL_cons.2 (.inl ⟨Int.le_refl _, hb.1.1⟩)))
      omega
    have h2 : s.Hi = s'.Hi := by
      by_cases hlt : s.Hi < s'.Hi
      · have a1 := (h (s.Hi + 1)).2 (inL_cons.2 (.inl ⟨by have := ha.1.1; omega, by omega⟩))
        rcases inL_cons.1 a1 with a1 | a1
        · have := a1.2; omega
        · have := gap ha a1; omega
      · by_cases hgt : s'.Hi < s.Hi
        · have a1 := (h (s'.Hi + 1)).1 (inL_cons.2 (.inl ⟨by have := hb.1.1; omega, by omega⟩))
          rcases inL_cons.1 a1 with a1 | a1
          · have := a1.2; omega
          · have := gap hb a1; omega
        · omega
    have e : s = s' := by cases s; cases s'; simp_all
    subst e
    congr 1
    refine Tid.ext ha.2 hb.2 fun t => ⟨fun ht => ?_, fun ht => ?_⟩
    · rcases inL_cons.1 ((h t).1 (inL_cons.2 (.inr ht))) with h3 | h3
      · have := gap ha ht; have := h3.2; omega
      · exact h3
    · rcases inL_cons.1 ((h t).2 (inL_cons.2 (.inr ht))) with h3 | h3
      · have := gap hb ht; have := h3.2; omega
      · exact h3
def withL : List TSpan → TSpan → List TSpan
  | [], s => [s]
  | a :: l, s => if a.Hi + 1 < s.Lo then a :: withL l s else if s.Hi + 1 < a.Lo then s :: a :: l else withL l ⟨minG s.Lo a.Lo, maxG s.Hi a.Hi⟩
theorem withL_len : ∀ (l : List TSpan) (s : TSpan), (withL l s).length ≤ l.length + 1
  | [], _ => by simp [withL]
  | a :: l, s => by
    rw [withL]
    split
    · have := withL_len l s; simp; omega
    · split
      · simp
      · have := withL_len l ⟨minG s.Lo a.Lo, maxG s.Hi a.Hi⟩; simp; omega
theorem withL_all {p : TSpan → Prop} (hp : ∀ a s, p a → p s → p ⟨minG s.Lo a.Lo, maxG s.Hi a.Hi⟩) : ∀ {l : List TSpan} {s : TSpan}, (∀ x, x ∈ l → p x) → p s → ∀ x, x ∈ withL l s → p x
  | [], s, _, hs, x, hx => by simp [withL] at hx; exact hx ▸ hs
  | a :: l, s, hl, hs, x, hx => by
    rw [withL] at hx
    have ha := hl a List.mem_cons_self
    have hl' := fun y hy => hl y (List.mem_cons_of_mem _ hy)
    split at hx
    · rcases List.mem_cons.1 hx with rfl | hx
      · exact ha
      · exact withL_all hp hl' hs x hx
    · split at hx
      · rcases List.mem_cons.1 hx with rfl | hx
        · exact hs
        · exact hl x hx
      · exact withL_all hp hl' (hp a s ha hs) x hx
theorem withL_ok {l : List TSpan} {s : TSpan} (hl : ∀ x, x ∈ l → okS x) (hs : okS s) : ∀ x, x ∈ withL l s → okS x :=
  withL_all (fun a s ha hs => by
    unfold okS at *
    simp only [minG, maxG]
    split <;> split <;> omega) hl hs
theorem withL_lt {b : Int} {l : List TSpan} {s : TSpan} (hl : ∀ x, x ∈ l → b < x.Lo) (hs : b < s.Lo) : ∀ x, x ∈ withL l s → b < x.Lo :=
  withL_all (p := fun x => b < x.Lo) (fun a s ha hs => by
    simp only [minG]
    split <;> omega) hl hs
theorem withL_tid : ∀ {l : List TSpan} {s : TSpan}, Tid l → s.Lo ≤ s.Hi → Tid (withL l s)
  | [], s, _, hs => ⟨⟨hs, fun x hx => by cases hx⟩, trivial⟩
  | a :: l, s, hl, hs => by
    rw [withL]
    split
    · exact ⟨⟨hl.1.1, withL_lt hl.1.2 (by assumption)⟩, withL_tid hl.2 hs⟩
    · split
      · refine ⟨⟨hs, fun x hx => ?_⟩, hl⟩
        rcases List.mem_cons.1 hx with rfl | hx
        · assumption
        · have := hl.1.2 x hx; have := hl.1.1; omega
      · refine withL_tid hl.2 ?_
        have := hl.1.1
        simp only [minG, maxG]
        split <;> split <;> omega
theorem withL_in {t : Int} : ∀ {l : List TSpan} {s : TSpan}, Tid l → s.Lo ≤ s.Hi → (inL t (withL l s) ↔ inL t l ∨ inS t s)
  | [], s, _, hs => by simp [withL, inL_cons, inL_nil]
  | a :: l, s, hl, hs => by
    rw [withL]
    split
    · rw [inL_cons, inL_cons, withL_in hl.2 hs, or_assoc]
    · split
      · rw [inL_cons, or_comm]
      · have h1 := hl.1.1
        have h2 : minG s.Lo a.Lo ≤ maxG s.Hi a.Hi := by simp only [minG, maxG]; split <;> split <;> omega
        rw [withL_in (s := ⟨minG s.Lo a.Lo, maxG s.Hi a.Hi⟩) hl.2 h2, inL_cons]
        have h3 : inS t ⟨minG s.Lo a.Lo, maxG s.Hi a.Hi⟩ ↔ inS t a ∨ inS t s := by
          unfold inS
          simp only [minG, maxG]
          split <;> split <;> omega
        rw [h3]
        constructor
        · rintro (h | h | h)
          · exact .inl (.inr h)
          · exact .inl (.inl h)
          · exact .inr h
        · rintro ((h | h) | h)
          · exact .inr (.inl h)
          · exact .inl h
          · exact .inr (.inr h)
def tidyL (l : List TSpan) : List TSpan := l.foldl withL []
theorem foldl_with {t : Int} : ∀ {l out : List TSpan}, Tid out → (∀ x, x ∈ l → x.Lo ≤ x.Hi) → Tid (l.foldl withL out) ∧ (inL t (l.foldl withL out) ↔ inL t out ∨ inL t l)
  | [], out, ho, _ => ⟨ho, by simp [inL_nil]⟩
  | a :: l, out, ho, hl => by
    have ha := hl a List.mem_cons_self
    obtain ⟨h1, h2⟩ := foldl_with (t := t) (l := l) (out := withL out a) (withL_tid ho ha) (fun x hx => hl x (List.mem_cons_of_mem _ hx))
    refine ⟨h1, ?_⟩
    rw [List.foldl_cons, h2, withL_in ho ha, inL_cons, or_assoc]
theorem tidyL_tid {l : List TSpan} (hl : ∀ x, x ∈ l → x.Lo ≤ x.Hi) : Tid (tidyL l) := (foldl_with (t := 0) (l := l) (out := []) trivial hl).1
theorem tidyL_in {l : List TSpan} (hl : ∀ x, x ∈ l → x.Lo ≤ x.Hi) (t : Int) : inL t (tidyL l) ↔ inL t l := by
  have := (foldl_with (t := t) (l := l) (out := []) trivial hl).2
  rw [tidyL, this]
  simp [inL_nil]
theorem foldl_with_ok : ∀ {l out : List TSpan}, (∀ x, x ∈ out → okS x) → (∀ x, x ∈ l → okS x) → ∀ x, x ∈ l.foldl withL out → okS x
  | [], _, ho, _ => ho
  | a :: l, out, ho, hl => foldl_with_ok (l := l) (out := withL out a) (withL_ok ho (hl a List.mem_cons_self)) (fun x hx => hl x (List.mem_cons_of_mem _ hx))
theorem tidyL_ok {l : List TSpan} (hl : ∀ x, x ∈ l → okS x) : ∀ x, x ∈ tidyL l → okS x := foldl_with_ok (fun x hx => by cases hx) hl
theorem foldl_with_len : ∀ (l out : List TSpan), (l.foldl withL out).length ≤ out.length + l.length
  | [], out => by simp
  | a :: l, out => by
    have := foldl_with_len l (withL out a)
    have := withL_len out a
    simp; omega
theorem tidyL_len (l : List TSpan) : (tidyL l).length ≤ l.length := by
  have := foldl_with_len l []
  simpa [tidyL] using this
theorem okS_lo {l : List TSpan} (hl : ∀ x, x ∈ l → okS x) : ∀ x, x ∈ l → x.Lo ≤ x.Hi := fun x hx => (hl x hx).2.1
theorem refWith_done (l : List TSpan) (v w : Int) (hv : v ≤ w) (hw : -70368744177664 ≤ w ∧ w ≤ 70368744177664) (hl : ∀ x, x ∈ l → okS x) (hlen : l.length ≤ 1000000) : ∀ (r : List TSpan) (i n : Nat) (out : List TSpan), l.drop i = r → r.length < n → i ≤ l.length → out.length + r.length ≤ 2000000 → (∀ x, x ∈ r → w + 1 < x.Lo) → M302 l n true (i : Int) v w out = some (true, v, w, out ++ r) := by
  intro r
  induction r with
  | nil =>
    intro i n out h hn hi ho hx
    obtain ⟨n, rfl⟩ : ∃ n', n = n' + 1 := ⟨n - 1, by omega⟩
    have : i = l.length := by have := congrArg List.length h; simp at this; omega
    rw [M302, decide_eq_false (by omega), cond_false]
    simp
  | cons a r ih =>
    intro i n out h hn hi ho hx
    obtain ⟨n, rfl⟩ : ∃ n', n = n' + 1 := ⟨n - 1, by omega⟩
    obtain ⟨e1, e2, e3⟩ := drop_cons h
    have ha := hl a (List.mem_of_getElem? e1)
    have hxa := hx a List.mem_cons_self
    unfold okS at ha
    simp only [List.length_cons] at hn ho
    have f1 : w64 (a.Hi + 1) = a.Hi + 1 := w64_of (by omega) (by omega)
    have f2 : w64 (w + 1) = w + 1 := w64_of (by omega) (by omega)
    rw [M302, decide_eq_true (by omega), cond_true]
    simp only [idx_at e1, some_bind, f1, f2, Bool.not_true, cond_false]
    rw [decide_eq_false (by omega), cond_false, decide_eq_true hxa, cond_true, app_ok (by simp; omega) (by simp; omega), some_bind, some_bind]
    simp only []
    rw [w64c (i := (i : Int) + 1) (n := i + 1) (by omega) (by omega), ih (i + 1) n (out ++ [a]) e2 (by omega) (by omega) (by simp; omega) (fun x hx' => hx x (List.mem_cons_of_mem _ hx'))]
    simp
theorem refWith_eq {l : List TSpan} {s : TSpan} (ht : Tid l) (hl : ∀ x, x ∈ l → okS x) (hs : okS s) (hlen : l.length ≤ 1000000) : M303 l s = some (withL l s) := by
  have key : ∀ (r : List TSpan) (i n : Nat) (s : TSpan) (out : List TSpan), l.drop i = r → Tid r → okS s → r.length < n → i ≤ l.length → out.length + r.length ≤ 1000000 → ∃ d v w o, M302 l n false (i : Int) s.Lo s.Hi out = some (d, v, w, o) ∧ o.length ≤ 1000002 ∧ (bif d then o else o ++ [⟨v, w⟩]) = out ++ withL r s := by
    intro r
    induction r with
    | nil =>
      intro i n s out h _ hs hn hi ho
      obtain ⟨n, rfl⟩ : ∃ n', n = n' + 1 := ⟨n - 1, by omega⟩
      have : i = l.length := by have := congrArg List.length h; simp at this; omega
      rw [M302, decide_eq_false (by omega), cond_false]
      exact ⟨false, s.Lo, s.Hi, out, rfl, by simp at ho; omega, rfl⟩
    | cons a r ih =>
      intro i n s out h htr hs hn hi ho
      obtain ⟨n, rfl⟩ : ∃ n', n = n' + 1 := ⟨n - 1, by omega⟩
      obtain ⟨e1, e2, e3⟩ := drop_cons h
      have ha := hl a (List.mem_of_getElem? e1)
      have ha' := ha
      have hs' := hs
      unfold okS at ha hs
      simp only [List.length_cons] at hn ho
      have f1 : w64 (a.Hi + 1) = a.Hi + 1 := w64_of (by omega) (by omega)
      have f2 : w64 (s.Hi + 1) = s.Hi + 1 := w64_of (by omega) (by omega)
      have f3 : w64 ((i : Int) + 1) = ((i + 1 : Nat) : Int) := w64c (by omega) (by omega)
      rw [M302, decide_eq_true (by omega), cond_true, withL]
      simp only [idx_at e1, some_bind, f1, f2, f3, Bool.not_false, cond_true]
      by_cases h1 : a.Hi + 1 < s.Lo
      · rw [decide_eq_true h1, cond_true, if_pos h1, app_ok (by simp; omega) (by simp; omega), some_bind, some_bind]
        obtain ⟨d, v, w, o, q1, q2, q3⟩ := ih (i + 1) n s (out ++ [a]) e2 htr.2 hs' (by omega) (by omega) (by simp; omega)
        exact ⟨d, v, w, o, q1, q2, by rw [q3]; simp⟩
      · rw [decide_eq_false h1, cond_false, if_neg h1]
        by_cases h2 : s.Hi + 1 < a.Lo
        · rw [decide_eq_true h2, cond_true, if_pos h2, app_ok (by simp; omega) (by simp; omega), some_bind, app_ok (by simp; omega) (by simp; omega), some_bind, some_bind]
          simp only []
          rw [refWith_done l s.Lo s.Hi hs.2.1 ⟨by omega, by omega⟩ hl hlen r (i + 1) n _ e2 (by omega) (by omega) (by simp; omega) (fun x hx => by have := htr.1.2 x hx; omega)]
          exact ⟨true, s.Lo, s.Hi, _, rfl, by simp; omega, by simp⟩
        · rw [decide_eq_false h2, cond_false, if_neg h2, some_bind]
          have hm : okS ⟨minG s.Lo a.Lo, maxG s.Hi a.Hi⟩ := by
            unfold okS
            simp only [minG, maxG]
            split <;> split <;> omega
          exact ih (i + 1) n ⟨minG s.Lo a.Lo, maxG s.Hi a.Hi⟩ out e2 htr.2 hm (by omega) (by omega) (by omega)
  unfold M303
  rw [fuelL]
  obtain ⟨d, v, w, o, q1, q2, q3⟩ := key l 0 (l.length + 1) s [] rfl ht hs (by omega) (by omega) (by simpa using hlen)
  rw [show ((0 : Nat) : Int) = 0 from rfl] at q1
  rw [q1, some_bind]
  simp only []
  cases d with
  | true => simp only [Bool.not_true, cond_false]; simp only [cond_true] at q3; rw [q3]; rfl
  | false =>
    simp only [Bool.not_false, cond_true]
    simp only [cond_false] at q3
    rw [app_ok (by simp; omega) (by simp; omega), some_bind, q3]; rfl
theorem refTidy_eq {l : List TSpan} (hl : ∀ x, x ∈ l → okS x) (hlen : l.length ≤ 500000) : M305 l = some (tidyL l) := by
  have key := rangeL (l := l) (f := fun n i (out : List TSpan) => M304 l n out (i : Int)) (g := fun r out => some (r.foldl withL out)) (fun i out => Tid out ∧ (∀ x, x ∈ out → okS x) ∧ out.length ≤ i)
    (fun n s _ => by
      show M304 l (n + 1) s (l.length : Int) = _
      rw [M304, decide_eq_false (by omega), cond_false]; rfl)
    (fun n i s a r h e1 e3 hm hI hk => by
      obtain ⟨i1, i2, i3⟩ := hI
      show M304 l (n + 1) s (i : Int) = _
      rw [M304, decide_eq_true (by omega), cond_true, idx_at e1, some_bind, refWith_eq i1 i2 (hl a hm) (by omega), some_bind, w64c (i := (i : Int) + 1) (n := i + 1) (by omega) (by omega)]
      have := withL_len s a
      exact hk (withL s a) ⟨withL_tid i1 (hl a hm).2.1, withL_ok i2 (hl a hm), by omega⟩) [] ⟨trivial, (fun x hx => by cases hx), by simp⟩
  unfold M305
  rw [fuelL]
  have key' : M304 l (l.length + 1) [] 0 = some (tidyL l) := key
  rw [key']; rfl
theorem spanCheck_eq (s : TSpan) : M63 s = some (if okS s then 0 else 10) := by
  unfold M63
  by_cases h1 : s.Lo < -70368744177664
  · rw [decide_eq_true h1, cond_true, if_neg (by unfold okS; omega)]
  · rw [decide_eq_false h1, cond_false]
    by_cases h2 : s.Hi > 70368744177664
    · rw [decide_eq_true h2, cond_true, if_neg (by unfold okS; omega)]
    · rw [decide_eq_false h2, cond_false]
      by_cases h3 : s.Lo > s.Hi
      · rw [decide_eq_true h3, cond_true, if_neg (by unfold okS; omega)]
      · rw [decide_eq_false h3, cond_false, if_pos (by unfold okS; omega)]
theorem refCheckS_eq (s : TSpan) : M298 s = some (if okS s then 0 else 10) := by
  rw [← spanCheck_eq]; rfl
def allB (l : List TSpan) : Bool := l.all fun s => decide (okS s)
theorem allB_iff {l : List TSpan} : allB l = true ↔ ∀ x, x ∈ l → okS x := by simp [allB]
theorem allB_cons (a : TSpan) (l : List TSpan) : allB (a :: l) = (decide (okS a) && allB l) := rfl
theorem containsS_eq {l : List TSpan} (hl : l.length ≤ 1000000) : M68 l = some (!allB l) := by
  have key : ∃ r : Int, M67 l = some r ∧ decide (r ≥ 0) = !allB l := by
    unfold M67
    rw [fuelL]
    have h : ∀ (r : List TSpan) (i n : Nat), l.drop i = r → r.length < n → i ≤ l.length → ∃ v : Int, M65 l M66 n (i : Int) = some v ∧ decide (v ≥ 0) = !allB r := by
      intro r
      induction r with
      | nil =>
        intro i n h hn hi
        obtain ⟨n, rfl⟩ : ∃ n', n = n' + 1 := ⟨n - 1, by omega⟩
        have : i = l.length := by have := congrArg List.length h; simp at this; omega
        rw [M65, decide_eq_false (by omega), cond_false]
        exact ⟨-1, rfl, rfl⟩
      | cons a r ih =>
        intro i n h hn hi
        obtain ⟨n, rfl⟩ : ∃ n', n = n' + 1 := ⟨n - 1, by omega⟩
        obtain ⟨e1, e2, e3⟩ := drop_cons h
        simp only [List.length_cons] at hn
        rw [M65, decide_eq_true (by omega), cond_true, idx_at e1, some_bind]
        unfold M64
        rw [spanCheck_eq, some_bind, some_bind, allB_cons]
        by_cases hk : okS a
        · rw [if_pos hk, show ((0 : Int) != 0) = false from rfl, cond_false, w64c (i := (i : Int) + 1) (n := i + 1) (by omega) (by omega), decide_eq_true hk, Bool.true_and]
          exact ih (i + 1) n e2 (by omega) (by omega)
        · rw [if_neg hk, show ((10 : Int) != 0) = true from rfl, cond_true, decide_eq_false hk, Bool.false_and]
          exact ⟨i, rfl, by simp⟩
    exact h l 0 _ rfl (by omega) (by omega)
  obtain ⟨r, h1, h2⟩ := key
  unfold M68
  rw [h1, some_bind, h2]
def checkB (l : List TSpan) : Int := if l.length > 4096 then 2 else if allB l = true then 0 else 10
theorem checkB_ok {l : List TSpan} (h : checkB l = 0) : l.length ≤ 4096 ∧ ∀ x, x ∈ l → okS x := by
  unfold checkB at h
  split at h
  · cases h
  · split at h
    · exact ⟨by omega, allB_iff.1 (by assumption)⟩
    · cases h
theorem check_step (l : List TSpan) (k : Option Int) : (bif decide (((l.length : Nat) : Int) > 4096) then some (2 : Int) else (M68 l).bind fun r => bif r then some 10 else k) = if checkB l = 0 then k else some (checkB l) := by
  unfold checkB
  by_cases h1 : l.length > 4096
  · rw [decide_eq_true (by omega), cond_true, if_pos h1, if_neg (by decide)]
  · rw [decide_eq_false (by omega), cond_false, if_neg h1, containsS_eq (by omega), some_bind]
    cases allB l with
    | true => simp
    | false => simp
theorem check1_eq (l : List TSpan) : M71 [l] = some (checkB l) := by
  unfold M71
  show M69 [l] M70 2 0 = _
  rw [M69, decide_eq_true (by simp), cond_true]
  show (some l).bind _ = _
  rw [some_bind, check_step]
  by_cases h : checkB l = 0
  · rw [if_pos h, h]
    show M69 [l] M70 1 1 = _
    rfl
  · rw [if_neg h]
theorem check2_eq (a b : List TSpan) : M71 [a, b] = some (if checkB a = 0 then checkB b else checkB a) := by
  unfold M71
  show M69 [a, b] M70 3 0 = _
  rw [M69, decide_eq_true (by simp), cond_true]
  show (some a).bind _ = _
  rw [some_bind, check_step]
  by_cases h : checkB a = 0
  · rw [if_pos h, if_pos h]
    show M69 [a, b] M70 2 1 = _
    rw [M69, decide_eq_true (by simp), cond_true]
    show (some b).bind _ = _
    rw [some_bind, check_step]
    by_cases h' : checkB b = 0
    · rw [if_pos h', h']; rfl
    · rw [if_neg h']
  · rw [if_neg h, if_neg h]
theorem valid_eq (l : List TSpan) : M301 l = some (checkB l) := by
  unfold M301 checkB
  by_cases h1 : l.length > 4096
  · rw [decide_eq_true (by omega), cond_true, if_pos h1]
  · rw [decide_eq_false (by omega), cond_false, if_neg h1, fuelL]
    have := rangeL0 (l := l) (f := fun n i => M299 l M300 n (i : Int)) (g := fun r => some (if allB r = true then (0 : Int) else 10))
      (fun n => by
        show M299 l M300 (n + 1) (l.length : Int) = _
        rw [M299, decide_eq_false (by omega), cond_false]; rfl)
      (fun n i a r h e1 e3 hm hk => by
        show M299 l M300 (n + 1) (i : Int) = _
        rw [M299, decide_eq_true (by omega), cond_true, idx_at e1, some_bind, refCheckS_eq, some_bind, allB_cons]
        by_cases hok : okS a
        · rw [if_pos hok, show ((0 : Int) != 0) = false from rfl, cond_false, w64c (i := (i : Int) + 1) (n := i + 1) (by omega) (by omega), decide_eq_true hok, Bool.true_and]
          exact hk
        · rw [if_neg hok, show ((10 : Int) != 0) = true from rfl, cond_true, decide_eq_false hok, Bool.false_and, if_neg (by simp)])
    exact this
theorem both_eq (a b : List TSpan) : M310 a b = some (if checkB a = 0 then checkB b else checkB a) := by
  unfold M310
  rw [valid_eq, some_bind]
  by_cases h : checkB a = 0
  · rw [h, if_pos rfl, show ((0 : Int) == 0) = true from rfl, cond_true, valid_eq, some_bind]
  · rw [if_neg h, show (checkB a == 0) = false from by simpa using h, cond_false]
/- The program's tidying: sort, then join. -/
theorem valuesS_eq {l : List TSpan} (hl : l.length ≤ 100000000) : M75 l = some l := by
  unfold M75
  rw [fuelL]
  exact rangeL0 (l := l) (f := fun n i => M73 l M74 n (i : Int)) (g := fun r => some r)
    (fun n => by
      show M73 l M74 (n + 1) (l.length : Int) = _
      rw [M73, decide_eq_false (by omega), cond_false]; rfl)
    (fun n i a r h e1 e3 hm hk => by
      show M73 l M74 (n + 1) (i : Int) = _
      rw [M73, decide_eq_true (by omega), cond_true, idx_at e1, some_bind, w64c (i := (i : Int) + 1) (n := i + 1) (by omega) (by omega)]
      rw [show M73 l M74 n ((i + 1 : Nat) : Int) = some r from hk]
      rfl)
theorem collectS : ∀ (l out : List TSpan), out.length + l.length ≤ 100000000 → foldO M120 l out = some (out ++ l)
  | [], out, _ => by simp [foldO]
  | a :: l, out, h => by
    simp only [List.length_cons] at h
    rw [foldO]
    have e : M120 a out = some (out ++ [a]) := by
      unfold M120
      simp only []
      rw [app_ok (by simp; omega) (by simp; omega), some_bind]
    rw [e]
    show foldO _ l (out ++ [a]) = _
    rw [collectS l (out ++ [a]) (by simp; omega)]
    simp
theorem sortedS {l : List TSpan} (hl : l.length ≤ 10000000) : ∃ l', M121 l = some l' ∧ l'.Perm l ∧ l'.Pairwise (fun x y => x.Lo ≤ y.Lo) := by
  unfold M121
  rw [valuesS_eq (by omega), some_bind, collectS l [] (by simpa using (by omega : l.length ≤ 100000000)), some_bind, List.nil_append]
  unfold M119
  have hb : ∃ r, M76 (IntKind.wrap .u64 (l.length : Int)) = some r := by
    have e1 : IntKind.wrap .u64 (l.length : Int) = (l.length : Int) := by
      simp only [IntKind.wrap, IntKind.bits, IntKind.signed]
      simp
      omega
    unfold M76
    rw [e1, if_pos (by omega)]
    exact ⟨_, rfl⟩
  obtain ⟨r, hr⟩ := hb
  obtain ⟨l', h1, h2, h3, h4⟩ := sorts_sp swo_sp l (by omega) r
  have hlen : lenIs l' l = some () := by unfold lenIs; rw [if_pos h2]
  rw [hr, some_bind, h1, some_bind, hlen, some_bind, some_bind, hlen, some_bind]
  refine ⟨l', rfl, h3, h4.imp ?_⟩
  intro x y h
  rw [ltSp_not] at h
  omega
def joinG : List TSpan → TSpan → List TSpan
  | [], c => [c]
  | x :: r, c => if x.Lo ≤ c.Hi + 1 then joinG r ⟨c.Lo, maxG c.Hi x.Hi⟩ else c :: joinG r x
theorem joinG_spec {t : Int} : ∀ {r : List TSpan} {c : TSpan}, c.Lo ≤ c.Hi → (∀ x, x ∈ r → x.Lo ≤ x.Hi ∧ c.Lo ≤ x.Lo) → r.Pairwise (fun x y => x.Lo ≤ y.Lo) → Tid (joinG r c) ∧ (∀ b, b < c.Lo → ∀ x, x ∈ joinG r c → b < x.Lo) ∧ (inL t (joinG r c) ↔ inS t c ∨ inL t r)
  | [], c, hc, _, _ => ⟨⟨⟨hc, fun x hx => by cases hx⟩, trivial⟩, (fun b hb x hx => by simp [joinG] at hx; exact hx ▸ hb), by simp [joinG, inL_cons, inL_nil]⟩
  | y :: r, c, hc, hr, hp => by
    obtain ⟨hy1, hy2⟩ := hr y List.mem_cons_self
    have hr' := fun z hz => hr z (List.mem_cons_of_mem _ hz)
    have hp1 := (List.pairwise_cons.1 hp).1
    have hp2 := (List.pairwise_cons.1 hp).2
    rw [joinG]
    by_cases h : y.Lo ≤ c.Hi + 1
    · rw [if_pos h]
      have hm : c.Hi ≤ maxG c.Hi y.Hi ∧ y.Hi ≤ maxG c.Hi y.Hi ∧ (maxG c.Hi y.Hi = c.Hi ∨ maxG c.Hi y.Hi = y.Hi) := by
        simp only [maxG]; split <;> omega
      obtain ⟨q1, q2, q3⟩ := joinG_spec (t := t) (r := r) (c := ⟨c.Lo, maxG c.Hi y.Hi⟩) (by simp only []; omega) hr' hp2
      refine ⟨q1, q2, ?_⟩
      rw [q3, inL_cons]
      have : inS t ⟨c.Lo, maxG c.Hi y.Hi⟩ ↔ inS t c ∨ inS t y := by
        unfold inS
        simp only []
        omega
      rw [this, or_assoc]
    · rw [if_neg h]
      obtain ⟨q1, q2, q3⟩ := joinG_spec (t := t) (r := r) (c := y) hy1 (fun z hz => ⟨(hr' z hz).1, hp1 z hz⟩) hp2
      refine ⟨⟨⟨hc, q2 _ (by omega)⟩, q1⟩, fun b hb x hx => ?_, ?_⟩
      · rcases List.mem_cons.1 hx with rfl | hx
        · exact hb
        · exact q2 b (by omega) x hx
      · rw [inL_cons, q3, inL_cons]
theorem join_L1 (l : List TSpan) (hl : ∀ x, x ∈ l → okS x) (hlen : l.length ≤ 10000000) : ∀ (r : List TSpan) (i n : Nat) (pre : List TSpan) (c : TSpan), l.drop i = r → r.length < n → i ≤ l.length → okS c → pre.length + r.length ≤ 10000000 → M124 l n (i : Int) (pre ++ [c]) = some (pre ++ joinG r c) := by
  intro r
  induction r with
  | nil =>
    intro i n pre c h hn hi hc hb
    obtain ⟨n, rfl⟩ : ∃ n', n = n' + 1 := ⟨n - 1, by omega⟩
    have : i = l.length := by have := congrArg List.length h; simp at this; omega
    rw [M124, decide_eq_false (by omega), cond_false]
    rfl
  | cons y r ih =>
    intro i n pre c h hn hi hc hb
    obtain ⟨n, rfl⟩ : ∃ n', n = n' + 1 := ⟨n - 1, by omega⟩
    obtain ⟨e1, e2, e3⟩ := drop_cons h
    have hy := hl y (List.mem_of_getElem? e1)
    have hy' := hy
    have hc' := hc
    unfold okS at hy hc
    simp only [List.length_cons] at hn hb
    have f1 : w64 (((pre ++ [c]).length : Int) - 1) = (pre.length : Int) := w64c (by simp) (by omega)
    have f2 : idx (pre ++ [c]) (pre.length : Int) = some c := by rw [idx_nat]; simp
    have f3 : w64 ((i : Int) + 1) = ((i + 1 : Nat) : Int) := w64c (by omega) (by omega)
    have f4 : w64 (c.Hi + 1) = c.Hi + 1 := w64_of (by omega) (by omega)
    rw [M124, decide_eq_true (by omega), cond_true, idx_at e1, some_bind]
    simp only [f1, f2, f3, some_bind]
    rw [decide_eq_true (by omega), cond_true]
    have ht : M122 c y = some (decide (y.Lo ≤ c.Hi + 1)) := by
      unfold M122
      rw [f4]
      cases hq : (c.Lo == y.Lo) && ((c.Hi == y.Hi) && true) with
      | false => rfl
      | true =>
        simp at hq
        rw [cond_true, decide_eq_true (by omega)]
    rw [ht, some_bind, some_bind, joinG]
    by_cases hq : y.Lo ≤ c.Hi + 1
    · rw [decide_eq_true hq, cond_true, if_pos hq]
      unfold M123
      rw [some_bind]
      have f5 : List.set (pre ++ [c]) (Int.toNat (pre.length : Int)) ⟨c.Lo, maxG c.Hi y.Hi⟩ = pre ++ [⟨c.Lo, maxG c.Hi y.Hi⟩] := by simp
      rw [f5]
      refine ih (i + 1) n pre ⟨c.Lo, maxG c.Hi y.Hi⟩ e2 (by omega) (by omega) ?_ (by omega)
      unfold okS
      simp only [maxG]
      split <;> omega
    · rw [decide_eq_false hq, cond_false, if_neg hq, app_ok (by simp; omega) (by simp; omega), some_bind]
      rw [ih (i + 1) n (pre ++ [c]) y e2 (by omega) (by omega) hy' (by simp; omega)]
      simp
theorem spanTidy_eq {l : List TSpan} (hl : ∀ x, x ∈ l → okS x) (hlen : l.length ≤ 1000000) : M126 l = some (tidyL l) := by
  unfold M126 M72
  obtain ⟨l', h1, h2, h3⟩ := sortedS (l := l) (by omega)
  rw [some_bind, h1, some_bind]
  have hl' : ∀ x, x ∈ l' → okS x := fun x hx => hl x (h2.mem_iff.1 hx)
  have hlen' : l'.length = l.length := h2.length_eq
  unfold M125
  rw [fuelL]
  have mem : ∀ t, inL t l' ↔ inL t l := fun t => ⟨fun ⟨s, a, b⟩ => ⟨s, h2.mem_iff.1 a, b⟩, fun ⟨s, a, b⟩ => ⟨s, h2.mem_iff.2 a, b⟩⟩
  cases l' with
  | nil =>
    have : l = [] := by cases l with
      | nil => rfl
      | cons a l => simp at hlen'
    subst this
    rfl
  | cons c r =>
    rw [M124, decide_eq_true (by simp), cond_true, show idx (c :: r) 0 = some c from rfl]
    rw [some_bind, show w64 ((([] : List TSpan).length : Int) - 1) = -1 from rfl, show decide ((-1 : Int) ≥ 0) = false from rfl, cond_false, some_bind, cond_false]
    simp only [List.length_cons] at hlen'
    rw [app_ok (by simp) (by simp), some_bind]
    have := join_L1 (c :: r) hl' (by simp; omega) r 1 (r.length + 1) [] c rfl (by omega) (by simp) (hl' c List.mem_cons_self) (by simp; omega)
    rw [show w64 (0 + 1) = ((1 : Nat) : Int) from rfl, show (c :: r).length = r.length + 1 from rfl]
    rw [show ([] : List TSpan) ++ [c] = [c] from rfl] at this ⊢
    rw [this, some_bind, some_bind, List.nil_append]
    congr 1
    have hp := List.pairwise_cons.1 h3
    have spec := fun t => joinG_spec (t := t) (r := r) (c := c) (hl' c List.mem_cons_self).2.1 (fun x hx => ⟨(hl' x (List.mem_cons_of_mem _ hx)).2.1, hp.1 x hx⟩) hp.2
    refine Tid.ext (by simpa using (spec 0).1) (tidyL_tid (okS_lo hl)) fun t => ?_
    rw [tidyL_in (okS_lo hl), ← mem, inL_cons]
    simpa using (spec t).2.2
def setR (l : List TSpan) : List TSpan × Int := if checkB l = 0 then (tidyL l, 0) else ([], checkB l)
theorem spanSet_eq (l : List TSpan) : M127 l = some (setR l) := by
  unfold M127 setR
  rw [check1_eq, some_bind]
  by_cases h : checkB l = 0
  · obtain ⟨h1, h2⟩ := checkB_ok h
    rw [h, if_pos rfl, show ((0 : Int) != 0) = false from rfl, cond_false, spanTidy_eq h2 (by omega), some_bind]
  · rw [if_neg h, show (checkB l != 0) = true from by simpa using h, cond_true]
theorem refSet_eq (l : List TSpan) : M306 l = some (setR l) := by
  unfold M306 setR
  rw [valid_eq, some_bind]
  by_cases h : checkB l = 0
  · obtain ⟨h1, h2⟩ := checkB_ok h
    rw [h, if_pos rfl, show ((0 : Int) != 0) = false from rfl, cond_false, refTidy_eq h2 (by omega), some_bind]
  · rw [if_neg h, show (checkB l != 0) = true from by simpa using h, cond_true]
def addS (s t : TSpan) : TSpan := ⟨s.Lo + t.Lo, s.Hi + t.Hi⟩
def sumsL (x y : List TSpan) : List TSpan := x.flatMap fun s => y.map (addS s)
theorem addS_w {s t : TSpan} (hs : okS s) (ht : okS t) : (⟨w64 (s.Lo + t.Lo), w64 (s.Hi + t.Hi)⟩ : TSpan) = addS s t := by
  unfold okS at hs ht
  rw [w64_of (by omega) (by omega), w64_of (by omega) (by omega)]; rfl
theorem sums1_eq {x y : List TSpan} (hx : ∀ s, s ∈ x → okS s) (hy : ∀ s, s ∈ y → okS s) (hlx : x.length ≤ 1000000) (hly : y.length ≤ 1000000) : M136 x y = some (sumsL x y) := by
  have inner : ∀ (s : TSpan) (k : Unit → Option (List TSpan)) (K : List TSpan), okS s → k () = some K → M132 y s k (y.length + 1) 0 = some (y.map (addS s) ++ K) := by
    intro s k K hs hk
    exact rangeL0 (l := y) (f := fun n i => M132 y s k n (i : Int)) (g := fun r => some (r.map (addS s) ++ K))
      (fun n => by
        show M132 y s k (n + 1) (y.length : Int) = _
        rw [M132, decide_eq_false (by omega), cond_false, hk]; rfl)
      (fun n i a r h e1 e3 hm ih => by
        show M132 y s k (n + 1) (i : Int) = _
        rw [M132, decide_eq_true (by omega), cond_true, idx_at e1, some_bind, w64c (i := (i : Int) + 1) (n := i + 1) (by omega) (by omega)]
        rw [show M132 y s k n ((i + 1 : Nat) : Int) = some (r.map (addS s) ++ K) from ih, some_bind, addS_w hs (hy a hm)]
        rfl)
  unfold M136
  rw [fuelL]
  exact rangeL0 (l := x) (f := fun n i => M134 x y M135 n (i : Int)) (g := fun r => some (sumsL r y))
    (fun n => by
      show M134 x y M135 (n + 1) (x.length : Int) = _
      rw [M134, decide_eq_false (by omega), cond_false]; rfl)
    (fun n i a r h e1 e3 hm ih => by
      show M134 x y M135 (n + 1) (i : Int) = _
      rw [M134, decide_eq_true (by omega), cond_true, idx_at e1, some_bind, fuelL]
      rw [inner a _ (sumsL r y) (hx a hm) (by
        unfold M133
        rw [w64c (i := (i : Int) + 1) (n := i + 1) (by omega) (by omega)]
        exact ih)]
      rfl)
theorem addFold : ∀ (l out : List TSpan), out.length + l.length ≤ 100000000 → foldE M138 l ((0 : Int), out) = if allB l = true then some (.inl (0, out ++ l)) else some (.inr 10)
  | [], out, _ => by simp [foldE, allB]
  | a :: l, out, h => by
    simp only [List.length_cons] at h
    rw [foldE]
    have e : M138 a ((0 : Int), out) = if okS a then some (.inl (0, out ++ [a])) else some (.inr 10) := by
      unfold M138
      simp only []
      rw [spanCheck_eq, some_bind]
      by_cases hk : okS a
      · rw [if_pos hk, if_pos hk, show ((0 : Int) != 0) = false from rfl, cond_false, app_ok (by simp; omega) (by simp; omega), some_bind]
      · rw [if_neg hk, if_neg hk]; rfl
    rw [e, allB_cons]
    by_cases hk : okS a
    · rw [if_pos hk, some_bind, decide_eq_true hk, Bool.true_and]
      simp only []
      rw [addFold l (out ++ [a]) (by simp; omega)]
      simp
    · rw [if_neg hk, some_bind, decide_eq_false hk, Bool.false_and, if_neg (by simp)]
def addR (a b : List TSpan) : List TSpan × Int :=
  if checkB a = 0 then
    if checkB b = 0 then
      if (tidyL a).length * (tidyL b).length > 65536 then ([], 2)
      else if allB (sumsL (tidyL a) (tidyL b)) = true then
        if (tidyL (sumsL (tidyL a) (tidyL b))).length > 4096 then ([], 2) else (tidyL (sumsL (tidyL a) (tidyL b)), 0)
      else ([], 10)
    else ([], checkB b)
  else ([], checkB a)
theorem sumsL_len (x y : List TSpan) : (sumsL x y).length = x.length * y.length := by
  induction x with
  | nil => simp [sumsL]
  | cons a x ih =>
    have : sumsL (a :: x) y = y.map (addS a) ++ sumsL x y := rfl
    rw [this, List.length_append, ih, List.length_map, List.length_cons, Nat.succ_mul, Nat.add_comm]
theorem len_mul {a b : Nat} (ha : a ≤ 4096) (hb : b ≤ 4096) : a * b ≤ 16777216 := by
  have := Nat.mul_le_mul ha hb
  omega
theorem add_eq (a b : List TSpan) : M139 a b = some (addR a b) := by
  unfold M139 addR
  rw [check2_eq, some_bind]
  by_cases ha : checkB a = 0
  · rw [if_pos ha, if_pos ha]
    by_cases hb : checkB b = 0
    · rw [if_pos hb, hb, show ((0 : Int) != 0) = false from rfl, cond_false]
      obtain ⟨a1, a2⟩ := checkB_ok ha
      obtain ⟨b1, b2⟩ := checkB_ok hb
      have a3 := tidyL_len a
      have b3 := tidyL_len b
      have hm := len_mul (a := (tidyL a).length) (b := (tidyL b).length) (by omega) (by omega)
      have hw : w64 (((tidyL a).length : Int) * ((tidyL b).length : Int)) = (((tidyL a).length * (tidyL b).length : Nat) : Int) := w64c (by simp) (by omega)
      rw [spanTidy_eq a2 (by omega), some_bind, spanTidy_eq b2 (by omega), some_bind, hw]
      by_cases h1 : (tidyL a).length * (tidyL b).length > 65536
      · rw [decide_eq_true (by omega), cond_true, if_pos h1]
      · rw [decide_eq_false (by omega), cond_false, if_neg h1]
        unfold M131
        have hs := sumsL_len (tidyL a) (tidyL b)
        rw [some_bind]
        simp only []
        rw [sums1_eq (tidyL_ok a2) (tidyL_ok b2) (by omega) (by omega), some_bind, addFold _ [] (by simp; omega)]
        by_cases h2 : allB (sumsL (tidyL a) (tidyL b)) = true
        · rw [if_pos h2, if_pos h2, some_bind]
          simp only [List.nil_append]
          rw [spanTidy_eq (allB_iff.1 h2) (by omega), some_bind]
          unfold M137
          by_cases h3 : (tidyL (sumsL (tidyL a) (tidyL b))).length > 4096
          · rw [decide_eq_true (by omega), cond_true, some_bind, if_pos h3]
          · rw [decide_eq_false (by omega), cond_false, some_bind, if_neg h3]
        · rw [if_neg h2, if_neg h2, some_bind]
    · rw [if_neg hb, show (checkB b != 0) = true from by simpa using hb, cond_true]
  · rw [if_neg ha, if_neg ha, show (checkB a != 0) = true from by simpa using ha, cond_true]
/- The reference. -/
def gIn (x : TSpan) (K : List TSpan → Option (List TSpan × Int)) : List TSpan → List TSpan → Option (List TSpan × Int)
  | [], out => K out
  | t :: r, out => if okS (addS x t) then gIn x K r (withL out (addS x t)) else some ([], 10)
theorem gIn_eq (x : TSpan) (K : List TSpan → Option (List TSpan × Int)) : ∀ r out, gIn x K r out = if allB (r.map (addS x)) = true then K ((r.map (addS x)).foldl withL out) else some ([], 10)
  | [], out => by simp [gIn, allB]
  | t :: r, out => by
    rw [gIn, List.map_cons, allB_cons]
    by_cases h : okS (addS x t)
    · rw [if_pos h, gIn_eq x K r, decide_eq_true h, Bool.true_and]; rfl
    · rw [if_neg h, decide_eq_false h, Bool.false_and, if_neg (by simp)]
def gOut (y : List TSpan) (K : List TSpan → Option (List TSpan × Int)) : List TSpan → List TSpan → Option (List TSpan × Int)
  | [], out => K out
  | x :: r, out => gIn x (gOut y K r) y out
theorem allB_append (a b : List TSpan) : allB (a ++ b) = (allB a && allB b) := by simp [allB]
theorem gOut_eq (y : List TSpan) (K : List TSpan → Option (List TSpan × Int)) : ∀ r out, gOut y K r out = if allB (sumsL r y) = true then K ((sumsL r y).foldl withL out) else some ([], 10)
  | [], out => by simp [gOut, sumsL, allB]
  | x :: r, out => by
    have e : sumsL (x :: r) y = y.map (addS x) ++ sumsL r y := rfl
    rw [gOut, gIn_eq, e, allB_append]
    cases h : allB (y.map (addS x)) with
    | true => rw [if_pos rfl, gOut_eq y K r, Bool.true_and, List.foldl_append]
    | false => rw [if_neg (by simp), Bool.false_and, if_neg (by simp)]
theorem refAdd_L2 (x y : List TSpan) (s : TSpan) (i : Nat) (hi : x[i]? = some s) (hs : okS s) (hy : ∀ t, t ∈ y → okS t) (hly : y.length ≤ 65536) (k : List TSpan → Option (List TSpan × Int)) (L : Nat) (hL : L + y.length ≤ 200000) (K : List TSpan → Option (List TSpan × Int)) (hk : ∀ out, Tid out → (∀ z, z ∈ out → okS z) → out.length ≤ L + y.length → k out = K out) (out : List TSpan) (h1 : Tid out) (h2 : ∀ z, z ∈ out → okS z) (h3 : out.length ≤ L) :
    M312 x y (i : Int) k (y.length + 1) out 0 = gIn s K y out :=
  rangeL (l := y) (f := fun n j (out : List TSpan) => M312 x y (i : Int) k n out (j : Int)) (g := fun r out => gIn s K r out) (fun j out => Tid out ∧ (∀ z, z ∈ out → okS z) ∧ out.length ≤ L + j)
    (fun n out hI => by
      show M312 x y (i : Int) k (n + 1) out (y.length : Int) = _
      rw [M312, decide_eq_false (by omega), cond_false]
      exact hk out hI.1 hI.2.1 hI.2.2)
    (fun n j out a r h e1 e3 hm hI ih => by
      obtain ⟨i1, i2, i3⟩ := hI
      have ha := hy a hm
      show M312 x y (i : Int) k (n + 1) out (j : Int) = _
      rw [M312, decide_eq_true (by omega), cond_true]
      simp only [idx_at e1, idx_at hi, some_bind, addS_w hs ha]
      rw [refCheckS_eq, some_bind, gIn]
      by_cases hok : okS (addS s a)
      · have := withL_len out (addS s a)
        rw [if_pos hok, if_pos hok, show ((0 : Int) != 0) = false from rfl, cond_false, refWith_eq i1 i2 hok (by omega), some_bind, w64c (i := (j : Int) + 1) (n := j + 1) (by omega) (by omega)]
        exact ih _ ⟨withL_tid i1 hok.2.1, withL_ok i2 hok, by omega⟩
      · rw [if_neg hok, if_neg hok]; rfl) out ⟨h1, h2, by omega⟩
theorem refAdd_L1 {x y : List TSpan} (hx : ∀ s, s ∈ x → okS s) (hy : ∀ t, t ∈ y → okS t) (hm : x.length * y.length ≤ 65536) (hlx : x.length ≤ 65536) (hly : y.length ≤ 65536) : M314 x y M315 (x.length + 1) [] 0 = gOut y M315 x [] :=
  rangeL (l := x) (f := fun n i (out : List TSpan) => M314 x y M315 n out (i : Int)) (g := fun r out => gOut y M315 r out) (fun i out => Tid out ∧ (∀ z, z ∈ out → okS z) ∧ out.length ≤ i * y.length)
    (fun n out hI => by
      show M314 x y M315 (n + 1) out (x.length : Int) = _
      rw [M314, decide_eq_false (by omega), cond_false]; rfl)
    (fun n i out a r h e1 e3 hma hI ih => by
      obtain ⟨i1, i2, i3⟩ := hI
      have hle : (i + 1) * y.length ≤ x.length * y.length := Nat.mul_le_mul_right _ (by omega)
      have hsm : (i + 1) * y.length = i * y.length + y.length := Nat.succ_mul _ _
      show M314 x y M315 (n + 1) out (i : Int) = _
      rw [M314, decide_eq_true (by omega), cond_true, fuelL, gOut]
      refine refAdd_L2 x y a i e1 (hx a hma) hy hly _ (i * y.length) (by omega) _ (fun out' o1 o2 o3 => ?_) out i1 i2 i3
      unfold M313
      rw [w64c (i := (i : Int) + 1) (n := i + 1) (by omega) (by omega)]
      exact ih out' ⟨o1, o2, by omega⟩) [] ⟨trivial, (fun z hz => by cases hz), by simp⟩
theorem refAdd_eq (a b : List TSpan) : M316 a b = some (addR a b) := by
  unfold M316 addR
  rw [both_eq, some_bind]
  by_cases ha : checkB a = 0
  · rw [if_pos ha, if_pos ha]
    by_cases hb : checkB b = 0
    · rw [if_pos hb, hb, show ((0 : Int) != 0) = false from rfl, cond_false]
      obtain ⟨a1, a2⟩ := checkB_ok ha
      obtain ⟨b1, b2⟩ := checkB_ok hb
      have a3 := tidyL_len a
      have b3 := tidyL_len b
      have hm := len_mul (a := (tidyL a).length) (b := (tidyL b).length) (by omega) (by omega)
      have hw : w64 (((tidyL a).length : Int) * ((tidyL b).length : Int)) = (((tidyL a).length * (tidyL b).length : Nat) : Int) := w64c (by simp) (by omega)
      rw [refTidy_eq a2 (by omega), some_bind, refTidy_eq b2 (by omega), some_bind, hw]
      by_cases h1 : (tidyL a).length * (tidyL b).length > 65536
      · rw [decide_eq_true (by omega), cond_true, if_pos h1]
      · rw [decide_eq_false (by omega), cond_false, if_neg h1, fuelL, refAdd_L1 (tidyL_ok a2) (tidyL_ok b2) (by omega) (by omega) (by omega), gOut_eq]
        by_cases h2 : allB (sumsL (tidyL a) (tidyL b)) = true
        · rw [if_pos h2, if_pos h2]
          unfold M315 M311
          show Option.bind (bif decide (((tidyL (sumsL (tidyL a) (tidyL b))).length : Int) > 4096) then some (([] : List TSpan), (2 : Int)) else some (tidyL (sumsL (tidyL a) (tidyL b)), 0)) _ = _
          by_cases h3 : (tidyL (sumsL (tidyL a) (tidyL b))).length > 4096
          · rw [decide_eq_true (by omega), cond_true, some_bind, if_pos h3]
          · rw [decide_eq_false (by omega), cond_false, some_bind, if_neg h3]
        · rw [if_neg h2, if_neg h2]
    · rw [if_neg hb, show (checkB b != 0) = true from by simpa using hb, cond_true]
  · rw [if_neg ha, if_neg ha, show (checkB a != 0) = true from by simpa using ha, cond_true]
/- Shifts. -/
theorem spanB (a b : TSpan) : ((a.Lo == b.Lo) && ((a.Hi == b.Hi) && true)) = decide (a = b) := by
  cases a; cases b; simp only [TSpan.mk.injEq, Bool.and_true]
  exact Bool.eq_iff_iff.2 (by simp)
theorem equalS_eq (a b : List TSpan) (hl : a.length < 9000000000000000000) : M198 a b = some (decide (a = b)) := by
  unfold M198
  by_cases hlen : a.length = b.length
  · rw [show (((a.length : Nat) : Int) != (b.length : Nat)) = false from by simp [hlen], cond_false, fuelL]
    have key : ∀ (r : List TSpan) (i n : Nat), a.drop i = r → r.length < n → i ≤ a.length → M196 a b M197 n (i : Int) = some (decide (r = b.drop i)) := by
      intro r
      induction r with
      | nil =>
        intro i n h hn hi
        obtain ⟨n, rfl⟩ : ∃ n', n = n' + 1 := ⟨n - 1, by omega⟩
        have hi' : i = a.length := by have := congrArg List.length h; simp at this; omega
        rw [M196, decide_eq_false (by omega), cond_false]
        have : b.drop i = [] := List.drop_eq_nil_iff.2 (by omega)
        rw [this]; rfl
      | cons x r ih =>
        intro i n h hn hi
        obtain ⟨n, rfl⟩ : ∃ n', n = n' + 1 := ⟨n - 1, by omega⟩
        obtain ⟨e1, e2, e3⟩ := drop_cons h
        have e4 : i < b.length := by omega
        have e5 : b.drop i = b[i] :: b.drop (i + 1) := List.drop_eq_getElem_cons e4
        have e6 : b[i]? = some b[i] := List.getElem?_eq_getElem e4
        simp only [List.length_cons] at hn
        rw [M196, decide_eq_true (by omega), cond_true, idx_at e1, some_bind, idx_at e6, some_bind, spanB, e5]
        by_cases hx : x = b[i]
        · rw [decide_eq_true hx, Bool.not_true, cond_false, w64c (i := (i : Int) + 1) (n := i + 1) (by omega) (by omega), ih (i + 1) n e2 (by omega) (by omega)]
          rw [hx]
          exact congrArg some (Bool.eq_iff_iff.2 (by rw [decide_eq_true_iff, decide_eq_true_iff]; exact ⟨fun h => by rw [h], fun h => by injection h⟩))
        · rw [decide_eq_false hx, Bool.not_false, cond_true]
          congr 1
          rw [decide_eq_false]
          intro h'
          injection h' with h1 h2
          exact hx h1
    have := key a 0 (a.length + 1) rfl (by omega) (by omega)
    exact this
  · rw [show (((a.length : Nat) : Int) != (b.length : Nat)) = true from by simp; omega, cond_true, decide_eq_false (fun h => hlen (by rw [h]))]
theorem sameSpans_eq (a b : List TSpan) (hl : a.length < 9000000000000000000) : M193 a b = some (decide (a = b)) := by
  rw [← equalS_eq a b hl]
  unfold M193 M198
  have : ∀ n i, M191 a b M192 n i = M196 a b M197 n i := by
    intro n
    induction n with
    | zero => intro i; rfl
    | succ n ih =>
      intro i
      rw [M191, M196]
      simp only [ih]
      rfl
  rw [this]
theorem setR_len (l : List TSpan) : (setR l).1.length ≤ 4096 := by
  unfold setR
  split
  · rename_i h
    have := checkB_ok h
    have := tidyL_len l
    show (tidyL l).length ≤ 4096
    omega
  · simp
theorem sane33_true : M243 = some true := by decide +kernel
theorem sameTotal_self (t : TTotal) (hl : t.Sums.length < 9000000000000000000) : M194 t t = some true := by
  unfold M194
  rw [show (t.Bib == t.Bib) = true from by simp, cond_true, show (t.Out == t.Out) = true from by simp, cond_true, sameSpans_eq _ _ hl, some_bind, decide_eq_true rfl]
theorem same33_self (a : List TTotal) (hl : a.length < 9000000000000000000) (ht : ∀ t, t ∈ a → t.Sums.length < 9000000000000000000) : M242 a a = some true := by
  unfold M242
  rw [show (((a.length : Nat) : Int) != (a.length : Nat)) = false from by simp, cond_false, fuelL]
  exact rangeL0 (l := a) (f := fun n i => M240 a a M241 n (i : Int)) (g := fun _ => some true)
    (fun n => by
      show M240 a a M241 (n + 1) (a.length : Int) = _
      rw [M240, decide_eq_false (by omega), cond_false]; rfl)
    (fun n i x r h e1 e3 hm hk => by
      show M240 a a M241 (n + 1) (i : Int) = _
      rw [M240, decide_eq_true (by omega), cond_true, idx_at e1, some_bind, some_bind, sameTotal_self x (ht x hm), some_bind, Bool.not_true, cond_false, w64c (i := (i : Int) + 1) (n := i + 1) (by omega) (by omega)]
      exact hk)
/- Searching a list that ascends. -/
def spanO (f : TField) (x : TOutcome) : TSpan := ⟨x.Lo - far f (vr x) 0, x.Hi + far f 0 (vr x)⟩
theorem trueTimes_eq {f : TField} (hf : FieldOK f) {x : TOutcome} (hx : OutOK f.Clocks x) (ho : x.Out = false) : M61 f.Clocks x.Seg ⟨x.Lo, x.Hi⟩ = some (spanO f x) ∧ M296 f.Clocks x.Seg ⟨x.Lo, x.Hi⟩ = some (spanO f x) := by
  obtain ⟨h1, h2, h3, h4, h5⟩ := hx.2 ho
  obtain ⟨v1, v2⟩ := vr_eq hf.clocks hx ho
  obtain ⟨r1, a1, a2⟩ := far_get hf.clocks v2 (j := 0) (by omega)
  obtain ⟨r2, a3, a4⟩ := far_get hf.clocks (i := 0) (by omega) v2
  have b1 := far_bound hf v2 (j := 0) (by omega)
  have b2 := far_bound hf (i := 0) (by omega) v2
  unfold M61 M296
  by_cases h : x.Seg = -1
  · have e : vr x = 0 := by unfold vr; omega
    have e2 : far f 0 0 = 0 := far_self hf (by omega)
    rw [h]
    have : spanO f x = ⟨x.Lo, x.Hi⟩ := by unfold spanO; rw [e, e2]; simp
    rw [this]
    exact ⟨rfl, rfl⟩
  · rw [show (x.Seg == -1) = false from by simpa using h, cond_false, decide_eq_false (by omega), cond_false, v1, a1]
    simp only [some_bind]
    rw [show idx r1 0 = _ from a2, some_bind]
    rw [show idx f.Clocks.Far 0 = _ from a3, some_bind, a4, some_bind, w64_of (by unfold far at b1; omega) (by unfold far at b1; omega), w64_of (by unfold far at b2; omega) (by unfold far at b2; omega)]
    exact ⟨rfl, rfl⟩
theorem outSpan_eq {f : TField} (hf : FieldOK f) {x : TOutcome} (hx : OutOK f.Clocks x) : M62 f.Clocks x = some (if x.Out = true then (⟨0, 0⟩, 230) else (spanO f x, 0)) ∧ M297 f.Clocks x = some (if x.Out = true then (⟨0, 0⟩, 230) else (spanO f x, 0)) := by
  have hw : f.Clocks.Segments.length < 9223372036854775807 := by have := hf.clocks.few; omega
  unfold M62 M297
  rw [outcome_Check_eq hw, ref23_Check_eq hw, chk_pos hf.clocks, chk_pos hx, some_bind, show ((0 : Int) != 0) = false from rfl, cond_false, some_bind, show ((0 : Int) != 0) = false from rfl, cond_false]
  cases ho : x.Out with
  | true => exact ⟨rfl, rfl⟩
  | false =>
    obtain ⟨h1, h2⟩ := trueTimes_eq hf hx ho
    rw [h1, h2]
    exact ⟨rfl, rfl⟩
def spansW (f : TField) : List TOutcome → List TSpan
  | [] => []
  | x :: r => if x.Out = true then spansW f r else spanO f x :: spansW f r
theorem spansW_len (f : TField) : ∀ l, (spansW f l).length ≤ l.length
  | [] => Nat.le_refl _
  | x :: r => by
    have := spansW_len f r
    rw [spansW]; split <;> simp <;> omega
theorem times_L2 {f : TField} (hf : FieldOK f) {l : List TOutcome} (hl : ∀ x, x ∈ l → OutOK f.Clocks x) (hlen : l.length ≤ 1000) (o : Bool) (s : List TSpan) (hs : s.length ≤ 1000000) :
    M128 f l (l.length + 1) 0 o s = some (o || l.any (·.Out), s ++ spansW f l) ∧ M307 f l (l.length + 1) o 0 s = some (o || l.any (·.Out), s ++ spansW f l) := by
  constructor
  · refine rangeL (σ := Bool × List TSpan) (l := l) (f := fun n i s => M128 f l n (i : Int) s.1 s.2) (g := fun r s => some (s.1 || r.any (·.Out), s.2 ++ spansW f r)) (fun i s => s.2.length ≤ 1000000 + i)
      (fun n s _ => ?_) (fun n i s a r h e1 e3 hm hI hk => ?_) (o, s) (by simpa using hs)
    · show M128 f l (n + 1) (l.length : Int) s.1 s.2 = _
      rw [M128, decide_eq_false (by omega), cond_false]; simp [spansW]
    · obtain ⟨o, s⟩ := s
      show M128 f l (n + 1) (i : Int) o s = _
      have hI : s.length ≤ 1000000 + i := hI
      rw [M128, decide_eq_true (by omega), cond_true, idx_at e1, some_bind, (outSpan_eq hf (hl a hm)).1, some_bind, w64c (i := (i : Int) + 1) (n := i + 1) (by omega) (by omega)]
      cases ho : a.Out with
      | true =>
        rw [if_pos rfl]
        have h1 : (bif o then some (true, s) else some (true, s)) = some (o || true, s) := by cases o <;> rfl
        show Option.bind (bif o then some (true, s) else some (true, s)) _ = _
        rw [h1, some_bind]
        refine (hk (o || true, s) (by show s.length ≤ _; omega)).trans ?_
        simp [spansW, ho]
      | false =>
        rw [if_neg (by decide)]
        dsimp only
        rw [show ((0 : Int) == 0) = true from rfl, cond_true, app_ok (by simp; omega) (by simp; omega), some_bind]
        have h1 : (bif o then some (true, s ++ [spanO f a]) else some (false, s ++ [spanO f a])) = some (o, s ++ [spanO f a]) := by cases o <;> rfl
        rw [h1, some_bind]
        refine (hk (o, s ++ [spanO f a]) (by show (s ++ [spanO f a]).length ≤ _; simp; omega)).trans ?_
        simp [spansW, ho]
  · refine rangeL (σ := Bool × List TSpan) (l := l) (f := fun n i s => M307 f l n s.1 (i : Int) s.2) (g := fun r s => some (s.1 || r.any (·.Out), s.2 ++ spansW f r)) (fun i s => s.2.length ≤ 1000000 + i)
      (fun n s _ => ?_) (fun n i s a r h e1 e3 hm hI hk => ?_) (o, s) (by simpa using hs)
    · show M307 f l (n + 1) s.1 (l.length : Int) s.2 = _
      rw [M307, decide_eq_false (by omega), cond_false]; simp [spansW]
    · obtain ⟨o, s⟩ := s
      show M307 f l (n + 1) o (i : Int) s = _
      have hI : s.length ≤ 1000000 + i := hI
      rw [M307, decide_eq_true (by omega), cond_true, idx_at e1, some_bind, w64c (i := (i : Int) + 1) (n := i + 1) (by omega) (by omega)]
      cases ho : a.Out with
      | true =>
        rw [cond_true]
        refine (hk (true, s) (by show s.length ≤ _; omega)).trans ?_
        simp [spansW, ho]
      | false =>
        rw [cond_false, some_bind, (outSpan_eq hf (hl a hm)).2, some_bind, ho, if_neg (by decide)]
        dsimp only
        rw [app_ok (by simp; omega) (by simp; omega), some_bind]
        refine (hk (o, s ++ [spanO f a]) (by show (s ++ [spanO f a]).length ≤ _; simp; omega)).trans ?_
        simp [spansW, ho]
def posB (f : TField) (w : Nat) : Bool := (List.range (nrun f)).all fun i => decide ((wl f.Runners i w).length ≠ 0)
theorem posB_iff {f : TField} {w : Nat} : posB f w = true ↔ Poss f.Runners w := by
  unfold posB Poss
  rw [List.all_eq_true]
  simp only [List.mem_range, decide_eq_true_eq]
theorem isPossible_eq {f : TField} (hs : Small f) (hf : FieldOK f) {w : Nat} (hw : w < npair f + 1) : M60 f (w : Int) = some (posB f w) ∧ M295 f (w : Int) = some (posB f w) := by
  have hsr := hs.runners
  have hlen : ∀ r, r ∈ f.Runners → r.Worlds.length = npair f + 1 := worlds_of hf.runner
  have hr : posB f w = !(f.Runners.any fun r => decide ((((r.Worlds[w]?).getD []).length) = 0)) := by
    rw [Bool.eq_iff_iff, posB_iff]
    simp only [Bool.not_eq_true', List.any_eq_false, decide_eq_true_eq]
    unfold Poss wl
    constructor
    · intro h r hr
      obtain ⟨i, hi, rfl⟩ := List.mem_iff_getElem.1 hr
      have := h i hi
      simpa [hi] using this
    · intro h i hi
      have := h _ (List.getElem_mem hi)
      simpa [hi] using this
  have hx : ∀ i (h : i < f.Runners.length), idx f.Runners[i].Worlds (w : Int) = some ((f.Runners[i].Worlds[w]?).getD []) ∧ ¬(w : Int) ≥ (f.Runners[i].Worlds.length : Int) := by
    intro i hi
    have := hlen _ (List.getElem_mem hi)
    have hw' : w < f.Runners[i].Worlds.length := by omega
    refine ⟨?_, by omega⟩
    rw [idx_lt hw']; simp [hw']
  constructor
  · unfold M60 M59 M58
    rw [fuel_sub]
    have key := find_at (l := f.Runners) (f := fun n i => M56 f.Runners (w : Int) M57 n (i : Int)) (p := fun r => decide ((((r.Worlds[w]?).getD []).length) = 0)) (A := fun i _ => (i : Int)) (k := some (-1)) (fun n i h => by
      show M56 f.Runners (w : Int) _ (n + 1) (i : Int) = _
      obtain ⟨h1, h2⟩ := hx i h
      rw [M56, decide_eq_true (by omega), cond_true, idx_lt h, some_bind, w64c (i := (i : Int) + 1) (n := i + 1) (by omega) (by omega)]
      unfold M55
      rw [decide_eq_false h2, cond_false, h1, some_bind, some_bind]
      by_cases hz : ((f.Runners[i].Worlds[w]?).getD []).length = 0
      · rw [hz]; rfl
      · rw [show ((((f.Runners[i].Worlds[w]?).getD []).length : Int) == 0) = false from by simpa using hz, cond_false, decide_eq_false hz]; rfl) (fun n => by
      show M56 f.Runners (w : Int) _ (n + 1) ((f.Runners.length : Nat) : Int) = _
      rw [M56, decide_eq_false (by omega)]; rfl)
    rcases key with ⟨i, hi, hp, hk, _⟩ | ⟨hp, hk⟩
    · rw [show M56 f.Runners (w : Int) M57 (f.Runners.length + 1) 0 = _ from hk, some_bind, some_bind, decide_eq_true (by omega), hr]
      rw [List.any_eq_true.2 ⟨_, List.getElem_mem hi, hp⟩]
    · rw [show M56 f.Runners (w : Int) M57 (f.Runners.length + 1) 0 = _ from hk, some_bind, some_bind, hr]
      rw [show (f.Runners.any fun r => decide ((((r.Worlds[w]?).getD []).length) = 0)) = false from List.any_eq_false.2 fun x hx => by simpa using hp x hx]
      rfl
  · unfold M295
    rw [fuel_sub]
    refine (any_loop (l := f.Runners) (f := fun n i => M293 f (w : Int) M294 n (i : Int)) (p := fun r => decide ((((r.Worlds[w]?).getD []).length) = 0)) (r := false) (k := some true) (fun n i h => ?_) (fun n => ?_)).trans ?_
    · show M293 f (w : Int) _ (n + 1) (i : Int) = _
      obtain ⟨h1, h2⟩ := hx i h
      rw [M293, decide_eq_true (by omega), cond_true, idx_lt h, some_bind, decide_eq_false h2, cond_false, some_bind, h1, some_bind, w64c (i := (i : Int) + 1) (n := i + 1) (by omega) (by omega)]
      by_cases hz : ((f.Runners[i].Worlds[w]?).getD []).length = 0
      · rw [hz]; rfl
      · rw [show ((((f.Runners[i].Worlds[w]?).getD []).length : Int) == 0) = false from by simpa using hz, cond_false, decide_eq_false hz]; rfl
    · show M293 f (w : Int) _ (n + 1) ((f.Runners.length : Nat) : Int) = _
      rw [M293, decide_eq_false (by omega)]; rfl
    · rw [hr]
      cases f.Runners.any _ <;> rfl
def tmL (f : TField) (r : Nat) : Nat → Bool × List TSpan
  | 0 => (false, [])
  | n + 1 => if posB f n = true then ((tmL f r n).1 || (wl f.Runners r n).any (·.Out), (tmL f r n).2 ++ spansW f (wl f.Runners r n)) else tmL f r n
theorem tmL_len {f : TField} (hs : Small f) (hf : FieldOK f) {r : Nat} (hr : r < nrun f) : ∀ n, n ≤ npair f + 1 → (tmL f r n).2.length ≤ n * 1000
  | 0, _ => Nat.le_refl _
  | n + 1, h => by
    have h1 := tmL_len hs hf hr n (by omega)
    have h2 := wl_len hs hf hr (w := n) (show n < npair f + 1 by omega)
    have h3 := spansW_len f (wl f.Runners r n)
    rw [tmL]
    split
    · refine Nat.le_trans (Nat.le_of_eq (List.length_append ..)) ?_
      clear hs hf; omega
    · exact Nat.le_trans h1 (Nat.mul_le_mul_right _ (Nat.le_succ n))
theorem loopS {σ β : Type} {N : Nat} {f : Nat → Nat → σ → Option β} {out : Option β} (S : Nat → σ) (hs : ∀ n i, i < N → f (n + 1) i (S i) = f n (i + 1) (S (i + 1))) (he : ∀ n, f (n + 1) N (S N) = out) : f (N + 1) 0 (S 0) = out := by
  have key : ∀ c i n, i + c = N → c ≤ n → f (n + 1) i (S i) = out := by
    intro c
    induction c with
    | zero =>
      intro i n h _
      have : i = N := by omega
      subst this
      exact he n
    | succ c ih =>
      intro i n h hn
      rw [hs n i (by omega)]
      obtain ⟨n, rfl⟩ : ∃ n', n = n' + 1 := ⟨n - 1, by omega⟩
      exact ih (i + 1) n (by omega) (by omega)
  exact key N 0 N (by omega) (by omega)
def timesR (f : TField) (r : Nat) : List TSpan × Bool × Int := ((setR (tmL f r (npair f + 1)).2).1, (tmL f r (npair f + 1)).1, (setR (tmL f r (npair f + 1)).2).2)
theorem times_eq {f : TField} (hs : Small f) (hf : FieldOK f) {r : Nat} (hr : r < nrun f) : M130 f (r : Int) = some (timesR f r) ∧ M309 f (r : Int) = some (timesR f r) := by
  have hsp := hf.size.1
  have hlen : f.Runners[r].Worlds.length = npair f + 1 := worlds_of hf.runner _ (List.getElem_mem hr)
  have hb : ∀ i, i ≤ npair f + 1 → (tmL f r i).2.length ≤ 1000000 := fun i hi => by
    have := tmL_len hs hf hr i hi
    have : npair f ≤ 16 := hsp
    omega
  constructor
  · unfold M130
    rw [idx_lt hr, some_bind, fuel_sub, hlen]
    have key := loopS (N := npair f + 1) (f := fun n i s => M129 f f.Runners[r] n (i : Int) s.1 s.2) (out := some (tmL f r (npair f + 1))) (fun i => tmL f r i) (fun n i hi => by
      show M129 f f.Runners[r] (n + 1) (i : Int) (tmL f r i).1 (tmL f r i).2 = M129 f f.Runners[r] n ((i + 1 : Nat) : Int) _ _
      have hl := wl_len hs hf hr hi
      rw [M129, decide_eq_true (by omega), cond_true, (wl_mem hf hr hi).2, some_bind, (isPossible_eq hs hf hi).1, some_bind, w64c (i := (i : Int) + 1) (n := i + 1) (by omega) (by unfold npair at hi; omega), tmL]
      cases hp : posB f i with
      | false => rfl
      | true =>
        rw [Bool.not_true, cond_false, fuel_sub, (times_L2 hf (wl_ok hf hr hi) hl _ _ (hb i (by omega))).1, some_bind, if_pos rfl]) (fun n => by
      show M129 f f.Runners[r] (n + 1) ((npair f + 1 : Nat) : Int) _ _ = _
      rw [M129, decide_eq_false (by omega), cond_false])
    rw [show M129 f f.Runners[r] (npair f + 1 + 1) 0 false [] = _ from key, some_bind]
    unfold timesR
    generalize tmL f r (npair f + 1) = q
    obtain ⟨o, s⟩ := q
    show (M127 s).bind _ = _
    rw [spanSet_eq]
    rfl
  · unfold M309
    rw [idx_lt hr, Option.getD_some, fuel_sub, hlen]
    have key := loopS (N := npair f + 1) (f := fun n i s => M308 f (r : Int) n s.1 (i : Int) s.2) (out := some (tmL f r (npair f + 1))) (fun i => tmL f r i) (fun n i hi => by
      show M308 f (r : Int) (n + 1) (tmL f r i).1 (i : Int) (tmL f r i).2 = M308 f (r : Int) n _ ((i + 1 : Nat) : Int) _
      have hl := wl_len hs hf hr hi
      rw [M308, idx_lt hr, some_bind, decide_eq_true (by omega), cond_true, (isPossible_eq hs hf hi).2, some_bind, w64c (i := (i : Int) + 1) (n := i + 1) (by omega) (by unfold npair at hi; omega), tmL]
      cases hp : posB f i with
      | false => rfl
      | true =>
        rw [Bool.not_true, cond_false, some_bind, (wl_mem hf hr hi).2, some_bind, fuel_sub, (times_L2 hf (wl_ok hf hr hi) hl _ _ (hb i (by omega))).2, some_bind, if_pos rfl]) (fun n => by
      show M308 f (r : Int) (n + 1) _ ((npair f + 1 : Nat) : Int) _ = _
      rw [M308, idx_lt hr, some_bind, decide_eq_false (by omega), cond_false])
    rw [show M308 f (r : Int) (npair f + 1 + 1) false 0 [] = _ from key, some_bind]
    unfold timesR
    generalize tmL f r (npair f + 1) = q
    obtain ⟨o, s⟩ := q
    show (M306 s).bind _ = _
    rw [refSet_eq]
    rfl
def findR (l : List TRunner) (b : Int) : Option Nat := l.findIdx? fun r => r.Bib == b
theorem findR_lt {l : List TRunner} {b : Int} {i : Nat} (h : findR l b = some i) : i < l.length := by
  unfold findR at h
  rw [List.findIdx?_eq_some_iff_getElem] at h
  exact h.1
theorem find33_eq {f : TField} (hs : Small f) (b : Int) :
    M54 f b = some (match findR f.Runners b with | some i => ((i : Int), true) | none => (0, false)) ∧ M292 f b = some (match findR f.Runners b with | some i => (i : Int) | none => -1) := by
  have hlen := hs.runners
  have key : ∀ {g : Nat → Nat → Option Int}, (∀ n i (h : i < f.Runners.length), g (n + 1) i = if (f.Runners[i].Bib == b) = true then some (i : Int) else g n (i + 1)) → (∀ n, g (n + 1) f.Runners.length = some (-1)) → g (f.Runners.length + 1) 0 = some (match findR f.Runners b with | some i => (i : Int) | none => -1) := by
    intro g h1 h2
    rcases find_at (p := fun r => r.Bib == b) (A := fun i _ => (i : Int)) h1 h2 with ⟨i, hi, hp, hk, hm⟩ | ⟨hp, hk⟩
    · rw [hk]
      have : findR f.Runners b = some i := by
        unfold findR
        rw [List.findIdx?_eq_some_iff_getElem]
        exact ⟨hi, hp, fun j hj => by rw [hm j (by omega) hj]; simp⟩
      rw [this]
    · rw [hk]
      have : findR f.Runners b = none := by
        unfold findR
        rw [List.findIdx?_eq_none_iff]
        exact hp
      rw [this]
  constructor
  · unfold M54 M53
    rw [fuel_sub]
    have k1 := key (g := fun n i => M51 f.Runners b M52 n (i : Int)) (fun n i h => by
      show M51 f.Runners b _ (n + 1) (i : Int) = _
      rw [M51, decide_eq_true (by omega), cond_true, idx_lt h, some_bind, w64c (i := (i : Int) + 1) (n := i + 1) (by omega) (by omega)]
      unfold M50
      rw [some_bind]
      cases f.Runners[i].Bib == b <;> rfl) (fun n => by
      show M51 f.Runners b _ (n + 1) ((f.Runners.length : Nat) : Int) = _
      rw [M51, decide_eq_false (by omega)]; rfl)
    rw [show M51 f.Runners b M52 (f.Runners.length + 1) 0 = _ from k1, some_bind]
    cases findR f.Runners b with
    | none => rfl
    | some i =>
      have g1 : maxG (i : Int) 0 = (i : Int) := by unfold maxG; rw [if_neg (by omega)]
      dsimp only
      rw [g1, decide_eq_true (by omega)]
  · unfold M292
    rw [fuel_sub]
    exact key (g := fun n i => M290 f b M291 n (i : Int)) (fun n i h => by
      show M290 f b _ (n + 1) (i : Int) = _
      rw [M290, decide_eq_true (by omega), cond_true, idx_lt h, some_bind, w64c (i := (i : Int) + 1) (n := i + 1) (by omega) (by omega)]
      cases f.Runners[i].Bib == b <;> rfl) (fun n => by
      show M290 f b _ (n + 1) ((f.Runners.length : Nat) : Int) = _
      rw [M290, decide_eq_false (by omega)]; rfl)
abbrev smallF (f : List TField) : Prop := ∀ x, x ∈ f → Small x
abbrev okF (f : List TField) : Prop := ∀ x, x ∈ f → FieldOK x
theorem stCheck_eq {f : List TField} (hs : smallF f) : M49 f = chk (1 ≤ f.length ∧ f.length ≤ 12) 330 (chk (okF f) 240 (some 0)) ∧ M289 f = chk (1 ≤ f.length ∧ f.length ≤ 12) 330 (chk (okF f) 240 (some 0)) := by
  have key : ∀ {g : Nat → Nat → Option Int}, f.length ≤ 12 → (∀ n i (h : i < f.length), g (n + 1) i = chk (FieldOK f[i]) 240 (g n (i + 1))) → (∀ n, g (n + 1) f.length = some 0) → g (f.length + 1) 0 = chk (okF f) 240 (some 0) := by
    intro g hl h1 h2
    exact (chk_loop (N := f.length) (f := g) (ok := fun j => ∀ x, f[j]? = some x → FieldOK x) (fun n i hi => by
      rw [h1 n i hi]; exact chk_congr (by simp [hi]) fun _ => rfl) h2).trans (chk_congr all_get fun _ => rfl)
  have step : ∀ (i : Nat) (h : i < f.length) (k : Option Int), ((chk (FieldOK f[i]) 240 (some 0)).bind fun r => bif r != 0 then some r else k) = chk (FieldOK f[i]) 240 k := by
    intro i h k
    by_cases hf : FieldOK f[i]
    · rw [chk_pos hf, chk_pos hf]; rfl
    · rw [chk_neg hf, chk_neg hf]; rfl
  unfold M49 M289
  by_cases h1 : 1 ≤ f.length
  · rw [decide_eq_false (by omega), cond_false, cond_false]
    by_cases h2 : f.length ≤ 12
    · rw [decide_eq_false (by omega), cond_false, cond_false, fuel_sub, chk_pos ⟨h1, h2⟩]
      constructor
      · exact key (g := fun n i => M47 f M48 n (i : Int)) h2 (fun n i h => by
          show M47 f M48 (n + 1) (i : Int) = _
          rw [M47, decide_eq_true (by omega), cond_true, idx_lt h, some_bind, field_Check_eq (hs _ (List.getElem_mem h)), w64c (i := (i : Int) + 1) (n := i + 1) (by omega) (by omega)]
          exact step i h _) (fun n => by
          show M47 f M48 (n + 1) (f.length : Int) = _
          rw [M47, decide_eq_false (by omega)]; rfl)
      · exact key (g := fun n i => M287 f M288 n (i : Int)) h2 (fun n i h => by
          show M287 f M288 (n + 1) (i : Int) = _
          rw [M287, decide_eq_true (by omega), cond_true, idx_lt h, some_bind, ref24_Check_eq (hs _ (List.getElem_mem h)), w64c (i := (i : Int) + 1) (n := i + 1) (by omega) (by omega)]
          exact step i h _) (fun n => by
          show M287 f M288 (n + 1) (f.length : Int) = _
          rw [M287, decide_eq_false (by omega)]; rfl)
    · rw [decide_eq_true (by omega), cond_true, cond_true, chk_neg (by omega)]; exact ⟨rfl, rfl⟩
  · rw [decide_eq_true (by omega), cond_true, cond_true, chk_neg (by omega)]; exact ⟨rfl, rfl⟩
def zT : TTotal := ⟨0, [], false⟩
def stR (b : Int) (x : TField) : List TSpan × Bool × Int := timesR x ((findR x.Runners b).getD 0)
def preR (b : Int) : List TField → Option (TTotal × Int)
  | [] => none
  | x :: r => if findR x.Runners b = none then some (⟨b, [], true⟩, 0) else if (stR b x).2.2 ≠ 0 then some (zT, (stR b x).2.2) else if (stR b x).1 = [] then some (⟨b, [], true⟩, 0) else preR b r
def addAll : List TSpan → List (List TSpan) → List TSpan × Int
  | v, [] => (v, 0)
  | v, y :: r => if (addR v y).2 ≠ 0 then ([], (addR v y).2) else addAll (addR v y).1 r
def sumR (b : Int) : List TField → TTotal × Int
  | [] => (zT, 0)
  | x :: r => if (addAll (stR b x).1 (r.map fun y => (stR b y).1)).2 ≠ 0 then (zT, (addAll (stR b x).1 (r.map fun y => (stR b y).1)).2) else (⟨b, (addAll (stR b x).1 (r.map fun y => (stR b y).1)).1, (x :: r).any fun y => (stR b y).2.1⟩, 0)
def totalR (b : Int) (f : List TField) : TTotal × Int := match preR b f with | some p => p | none => sumR b f
theorem preR_none {b : Int} : ∀ {f : List TField}, preR b f = none → ∀ x, x ∈ f → (∃ i, findR x.Runners b = some i) ∧ (stR b x).2.2 = 0 ∧ (stR b x).1 ≠ []
  | y :: r, h, x, hx => by
    rw [preR] at h
    split at h
    · cases h
    · rename_i h1
      split at h
      · cases h
      · rename_i h2
        split at h
        · cases h
        · rename_i h3
          rcases List.mem_cons.1 hx with rfl | hx
          · refine ⟨?_, by omega, h3⟩
            cases e : findR x.Runners b with
            | none => exact absurd e h1
            | some i => exact ⟨i, rfl⟩
          · exact preR_none h x hx
theorem stR_eq {x : TField} (hs : Small x) (hf : FieldOK x) {b : Int} {i : Nat} (h : findR x.Runners b = some i) : M130 x (i : Int) = some (stR b x) ∧ M309 x (i : Int) = some (stR b x) := by
  unfold stR
  rw [h]
  exact times_eq hs hf (findR_lt h)
theorem total_L2 (b : Int) (o : Bool) : ∀ (l : List (List TSpan)) (v : List TSpan), l.length ≤ 100 → ∃ r, M141 l (M142 b o) (l.length + 1) 0 0 v = some r ∧ r = if (addAll v l).2 ≠ 0 then (zT, (addAll v l).2) else (⟨b, (addAll v l).1, o⟩, 0) := by
  intro l v hl
  refine ⟨_, rangeL (σ := Int × List TSpan) (l := l) (f := fun n i s => M141 l (M142 b o) n s.1 (i : Int) s.2) (g := fun r s => some (if (addAll s.2 r).2 ≠ 0 then (zT, (addAll s.2 r).2) else (⟨b, (addAll s.2 r).1, o⟩, 0))) (fun _ _ => True)
    (fun n s _ => ?_) (fun n i s a r h e1 e3 hm hI hk => ?_) (0, v) trivial, rfl⟩
  · show M141 l (M142 b o) (n + 1) s.1 (l.length : Int) s.2 = _
    rw [M141, decide_eq_false (by omega), cond_false]
    simp [addAll, M142]
  · obtain ⟨e, v⟩ := s
    show M141 l (M142 b o) (n + 1) e (i : Int) v = _
    rw [M141, decide_eq_true (by omega), cond_true, idx_at e1, some_bind, add_eq, some_bind, w64c (i := (i : Int) + 1) (n := i + 1) (by omega) (by omega)]
    show _ = some (if (addAll v (a :: r)).2 ≠ 0 then (zT, (addAll v (a :: r)).2) else _)
    rw [addAll]
    have hq : ∀ q : List TSpan × Int, addR v a = q → (bif q.2 != 0 then some ((({ Bib := 0, Sums := (([] : List TSpan)), Out := false } : TTotal), q.2) : TTotal × Int) else (M141 l (M142 b o) n) q.2 ((i + 1 : Nat) : Int) q.1) = some (if (if q.2 ≠ 0 then (([] : List TSpan), q.2) else addAll q.1 r).2 ≠ 0 then (zT, (if q.2 ≠ 0 then (([] : List TSpan), q.2) else addAll q.1 r).2) else (⟨b, (if q.2 ≠ 0 then (([] : List TSpan), q.2) else addAll q.1 r).1, o⟩, 0)) := by
      intro q _
      by_cases h2 : q.2 = 0
      · obtain ⟨q1, q2⟩ := q
        dsimp only at h2 ⊢
        subst h2
        simp only [ne_eq, not_true_eq_false, if_false]
        rw [show ((0 : Int) != 0) = false from rfl, cond_false]
        refine (hk (0, q1) trivial).trans ?_
        simp only [ne_eq]
      · rw [if_pos h2, show (q.2 != 0) = true from by simpa using h2, cond_true, if_pos h2]
        rfl
    exact hq _ rfl
def libG (b : Int) (r : List TField) (s : Bool × List (List TSpan)) : Option (TTotal × Int) :=
  match preR b r with | some p => some p | none => M143 b (s.1 || r.any fun y => (stR b y).2.1) (s.2 ++ r.map fun y => (stR b y).1)
theorem libTotal_eq {f : List TField} (hs : smallF f) (hf : okF f) (hl : f.length ≤ 14) (hn : f ≠ []) (b : Int) : M144 f b = some (totalR b f) := by
  unfold M144
  rw [fuel_sub]
  have key := rangeL (σ := Bool × List (List TSpan)) (l := f) (f := fun n i s => M140 f b (M143 b) n (i : Int) s.1 s.2) (g := libG b) (fun i s => s.2.length ≤ i)
    (fun n s _ => by
      show M140 f b (M143 b) (n + 1) (f.length : Int) s.1 s.2 = _
      rw [M140, decide_eq_false (by omega), cond_false]
      simp [libG, preR])
    (fun n i s a r h e1 e3 hm hI hk => by
      obtain ⟨o, s⟩ := s
      have hI : s.length ≤ i := hI
      show M140 f b (M143 b) (n + 1) (i : Int) o s = libG b (a :: r) (o, s)
      rw [M140, decide_eq_true (by omega), cond_true, idx_at e1, some_bind, (find33_eq (hs a hm) b).1, some_bind, w64c (i := (i : Int) + 1) (n := i + 1) (by omega) (by omega)]
      unfold libG
      rw [preR]
      cases hfd : findR a.Runners b with
      | none => rfl
      | some j =>
        obtain ⟨h1, _⟩ := stR_eq (hs a hm) (hf a hm) hfd
        dsimp only
        rw [Bool.not_true, cond_false, if_neg (by simp), h1]
        generalize hq : stR b a = q
        obtain ⟨q1, q2, q3⟩ := q
        rw [some_bind]
        dsimp only
        by_cases h3 : q3 = 0
        · rw [show (q3 != 0) = false from by simpa using h3, cond_false, if_neg (by omega)]
          by_cases h4 : q1 = []
          · rw [if_pos h4, h4]; rfl
          · have h5 : q1.length ≠ 0 := fun h => h4 (List.length_eq_zero_iff.1 h)
            rw [if_neg h4, show (((q1.length : Nat) : Int) == 0) = false from by simpa using h4, cond_false, app_ok (by simp; omega) (by simp; omega), some_bind]
            have h6 : (bif o then M140 f b (M143 b) n ((i + 1 : Nat) : Int) true (s ++ [q1]) else M140 f b (M143 b) n ((i + 1 : Nat) : Int) q2 (s ++ [q1])) = M140 f b (M143 b) n ((i + 1 : Nat) : Int) (o || q2) (s ++ [q1]) := by cases o <;> rfl
            rw [h6]
            refine (hk (o || q2, s ++ [q1]) (by show (s ++ [q1]).length ≤ _; simp; omega)).trans ?_
            unfold libG
            cases preR b r with
            | some p => rfl
            | none => simp [hq, Bool.or_assoc]
        · rw [show (q3 != 0) = true from by simpa using h3, cond_true, if_pos h3]; rfl)
    (false, []) (Nat.le_refl _)
  refine Eq.trans key ?_
  unfold libG totalR
  cases hp : preR b f with
  | some p => rfl
  | none =>
    cases f with
    | nil => exact absurd rfl hn
    | cons x r =>
      dsimp only
      unfold M143
      have e0 : ([] : List (List TSpan)) ++ ((x :: r).map fun y => (stR b y).1) = (stR b x).1 :: (r.map fun y => (stR b y).1) := rfl
      rw [e0]
      have e1 : idx ((stR b x).1 :: (r.map fun y => (stR b y).1)) 0 = some (stR b x).1 := idx_lt (i := 0) (by simp)
      have e2 : slcFrom ((stR b x).1 :: (r.map fun y => (stR b y).1)) 1 = some (r.map fun y => (stR b y).1) := by
        unfold slcFrom; rw [if_pos ⟨by omega, by simp; omega⟩]; rfl
      rw [e1, some_bind, e2, some_bind, fuel_sub]
      simp only [List.length_cons] at hl
      obtain ⟨q, h1, h2⟩ := total_L2 b (false || (x :: r).any fun y => (stR b y).2.1) (r.map fun y => (stR b y).1) (stR b x).1 (by rw [List.length_map]; omega)
      rw [h1, h2]
      rfl
/- The reference. -/
theorem rangeLf {α σ β : Type} {l : List α} {f : Nat → Nat → σ → Option β} {g : List α → σ → Option β} (I : Nat → σ → Prop)
    (h0 : ∀ n s, I l.length s → f (n + 1) l.length s = g [] s)
    (h1 : ∀ n i s a r, l.drop i = a :: r → l[i]? = some a → i < l.length → a ∈ l → I i s → (∀ s', I (i + 1) s' → f n (i + 1) s' = g r s') → f (n + 1) i s = g (a :: r) s) :
    ∀ r i n s, l.drop i = r → r.length ≤ n → I i s → i ≤ l.length → f (n + 1) i s = g r s := by
  intro r
  induction r with
  | nil =>
    intro i n s h _ hi hl
    have : i = l.length := by have := congrArg List.length h; simp at this; omega
    subst this
    exact h0 n s hi
  | cons a r ih =>
    intro i n s h hn hi hl
    obtain ⟨e1, e2, e3⟩ := drop_cons h
    obtain ⟨n, rfl⟩ : ∃ n', n = n' + 1 := ⟨n - 1, by simp at hn; omega⟩
    refine h1 (n + 1) i s a r h e1 e3 (List.mem_of_getElem? e1) hi fun s' hs' => ?_
    exact ih (i + 1) n s' e2 (by simpa using hn) hs' e3
def refG (b : Int) (r : List TField) (s : List TSpan × Bool) : Option (TTotal × Int) :=
  some (if (addAll s.1 (r.map fun y => (stR b y).1)).2 ≠ 0 then (zT, (addAll s.1 (r.map fun y => (stR b y).1)).2) else (⟨b, (addAll s.1 (r.map fun y => (stR b y).1)).1, s.2 || r.any fun y => (stR b y).2.1⟩, 0))
theorem ref_L2 {f : List TField} (hs : smallF f) (hf : okF f) (hl : f.length ≤ 14) (hn : f ≠ []) {b : Int} (hp : preR b f = none) : M318 f b (M319 b) (f.length + 1) 0 [] false = some (sumR b f) := by
  cases f with
  | nil => exact absurd rfl hn
  | cons x0 r0 =>
    generalize hF : x0 :: r0 = F at *
    have h0 : F[0]? = some x0 := by rw [← hF]; rfl
    have hm0 : x0 ∈ F := List.mem_of_getElem? h0
    have hlen : F.length = r0.length + 1 := by rw [← hF]; rfl
    obtain ⟨⟨j, h1⟩, h2, h3⟩ := preR_none hp x0 hm0
    have ht := (stR_eq (hs x0 hm0) (hf x0 hm0) h1).2
    have i0 := idx_at h0
    rw [M318, decide_eq_true (by omega), cond_true]
    rw [show idx F 0 = some x0 from i0, some_bind, some_bind, (find33_eq (hs x0 hm0) b).2, some_bind, h1]
    dsimp only
    rw [ht, some_bind]
    have hrun := rangeLf (σ := List TSpan × Bool) (l := F) (f := fun n i s => M318 F b (M319 b) n (i : Int) s.1 s.2) (g := refG b) (fun i _ => 1 ≤ i)
      (fun n s _ => by
        show M318 F b (M319 b) (n + 1) (F.length : Int) s.1 s.2 = _
        rw [M318, decide_eq_false (by omega), cond_false]
        simp [refG, addAll, M319])
      (fun n i s a r h e1 e3 hm hI hk => by
        obtain ⟨v, o⟩ := s
        show M318 F b (M319 b) (n + 1) (i : Int) v o = _
        obtain ⟨⟨j, g1⟩, g2, g3⟩ := preR_none hp a hm
        have gt := (stR_eq (hs a hm) (hf a hm) g1).2
        rw [M318, decide_eq_true (by omega), cond_true, idx_at e1, some_bind, some_bind, (find33_eq (hs a hm) b).2, some_bind, g1]
        dsimp only
        rw [gt, some_bind, w64c (i := (i : Int) + 1) (n := i + 1) (by omega) (by omega)]
        unfold refG
        rw [List.map_cons, List.any_cons, addAll]
        generalize stR b a = q at *
        obtain ⟨q1, q2, q3⟩ := q
        dsimp only
        rw [show (((i : Nat) : Int) == 0) = false from by have : 1 ≤ i := hI; simp; omega, cond_false, refAdd_eq, some_bind]
        generalize addR v q1 = p
        obtain ⟨p1, p2⟩ := p
        dsimp only
        by_cases h5 : p2 = 0
        · subst h5
          simp only [ne_eq, not_true_eq_false, if_false]
          rw [show ((0 : Int) != 0) = false from rfl, cond_false, ← Bool.or_assoc]
          refine (hk (p1, o || q2) (by show 1 ≤ i + 1; omega)).trans ?_
          simp only [refG, ne_eq]
        · rw [show (p2 != 0) = true from by simpa using h5, cond_true, if_pos h5, if_pos h5]; rfl)
    have hd : F.drop 1 = r0 := by rw [← hF]; rfl
    have hr := hrun r0 1 (F.length - 1) ((stR b x0).1, (false || (stR b x0).2.1)) hd (by omega) (Nat.le_refl _) (by omega)
    have hfu : F.length - 1 + 1 = F.length := by omega
    rw [hfu] at hr
    show M318 F b (M319 b) F.length _ (stR b x0).1 (false || (stR b x0).2.1) = _
    refine Eq.trans hr ?_
    unfold refG
    rw [← hF, sumR, Bool.false_or, List.any_cons]
theorem refTotal_eq {f : List TField} (hs : smallF f) (hf : okF f) (hl : f.length ≤ 14) (hn : f ≠ []) (b : Int) : M321 f b = some (totalR b f) := by
  unfold M321
  rw [fuel_sub]
  by_cases hpn : preR b f = none
  · have key := rangeL0 (l := f) (f := fun n i => M317 f b (M320 f b) n (i : Int)) (g := fun _ => M320 f b ())
      (fun n => by
        show M317 f b _ (n + 1) (f.length : Int) = _
        rw [M317, decide_eq_false (by omega), cond_false])
      (fun n i a r h e1 e3 hm hk => by
        show M317 f b _ (n + 1) (i : Int) = _
        obtain ⟨⟨j, g1⟩, g2, g3⟩ := preR_none hpn a hm
        have gt := (stR_eq (hs a hm) (hf a hm) g1).2
        rw [M317, decide_eq_true (by omega), cond_true, idx_at e1, some_bind, (find33_eq (hs a hm) b).2, some_bind, g1]
        dsimp only
        rw [show decide (((j : Nat) : Int) < 0) = false from decide_eq_false (by omega), cond_false, some_bind, gt, some_bind, w64c (i := (i : Int) + 1) (n := i + 1) (by omega) (by omega)]
        generalize stR b a = q at *
        obtain ⟨q1, q2, q3⟩ := q
        dsimp only at g2 g3 ⊢
        rw [g2, show ((0 : Int) != 0) = false from rfl, cond_false, show (((q1.length : Nat) : Int) == 0) = false from by simpa using g3, cond_false]
        exact hk)
    refine Eq.trans key ?_
    unfold M320 totalR
    rw [fuel_sub, ref_L2 hs hf hl hn hpn, hpn]
  · refine Eq.trans (rangeL0 (l := f) (f := fun n i => M317 f b (M320 f b) n (i : Int)) (g := fun r => match preR b r with | some p => some p | none => M320 f b ())
      (fun n => by
        show M317 f b _ (n + 1) (f.length : Int) = _
        rw [M317, decide_eq_false (by omega), cond_false]; rfl)
      (fun n i a r h e1 e3 hm hk => by
        show M317 f b _ (n + 1) (i : Int) = _
        rw [M317, decide_eq_true (by omega), cond_true, idx_at e1, some_bind, (find33_eq (hs a hm) b).2, some_bind, w64c (i := (i : Int) + 1) (n := i + 1) (by omega) (by omega)]
        rw [preR]
        cases hfd : findR a.Runners b with
        | none => rfl
        | some j =>
          have gt := (stR_eq (hs a hm) (hf a hm) hfd).2
          dsimp only
          rw [show decide (((j : Nat) : Int) < 0) = false from decide_eq_false (by omega), cond_false, some_bind, gt, some_bind, if_neg (by simp)]
          generalize stR b a = q
          obtain ⟨q1, q2, q3⟩ := q
          dsimp only
          by_cases h3 : q3 = 0
          · rw [show (q3 != 0) = false from by simpa using h3, cond_false, if_neg (by omega)]
            by_cases h4 : q1 = []
            · rw [if_pos h4, h4]; rfl
            · rw [if_neg h4, show (((q1.length : Nat) : Int) == 0) = false from by simpa using h4, cond_false]
              exact hk
          · rw [show (q3 != 0) = true from by simpa using h3, cond_true, if_pos h3]; rfl)) ?_
    unfold totalR
    cases hp : preR b f with
    | some p => rfl
    | none => exact absurd hp hpn
def inFirst (b : Int) (f : List TField) : Prop := ∃ x r i, f = x :: r ∧ findR x.Runners b = some i
theorem Total33_eq {f : List TField} (hs : smallF f) (b : Int) :
    M145 f b = chk (1 ≤ f.length ∧ f.length ≤ 12) (zT, 330) (chk (okF f) (zT, 240) (chk (inFirst b f) (zT, 250) (some (totalR b f)))) ∧
    M322 f b = chk (1 ≤ f.length ∧ f.length ≤ 12) (zT, 330) (chk (okF f) (zT, 240) (chk (inFirst b f) (zT, 250) (some (totalR b f)))) := by
  unfold M145 M322
  rw [(stCheck_eq hs).1, (stCheck_eq hs).2]
  by_cases h1 : 1 ≤ f.length ∧ f.length ≤ 12
  · simp only [chk_pos h1]
    by_cases h2 : okF f
    · simp only [chk_pos h2]
      cases f with
      | nil => simp at h1
      | cons x r =>
        have i0 : idx (x :: r) 0 = some x := idx_lt (i := 0) (by simp)
        have hm : x ∈ x :: r := by simp
        simp only [some_bind, bne_self_eq_false, cond_false, i0, (find33_eq (hs x hm) b).1, (find33_eq (hs x hm) b).2]
        have hT := libTotal_eq hs h2 (by omega) (by simp) b
        have hT' := refTotal_eq hs h2 (by omega) (by simp) b
        cases hfd : findR x.Runners b with
        | none =>
          have hn : ¬inFirst b (x :: r) := by
            rintro ⟨y, r', i, he, h⟩
            cases he
            rw [hfd] at h; cases h
          rw [chk_neg hn]
          exact ⟨rfl, rfl⟩
        | some i =>
          rw [chk_pos ⟨x, r, i, rfl, hfd⟩]
          dsimp only
          rw [Bool.not_true, cond_false, hT, some_bind, show decide (((i : Nat) : Int) < 0) = false from decide_eq_false (by omega), cond_false, hT', some_bind]
          exact ⟨rfl, rfl⟩
    · simp only [chk_neg h2]; exact ⟨rfl, rfl⟩
  · simp only [chk_neg h1]; exact ⟨rfl, rfl⟩
theorem addR_len (a b : List TSpan) : (addR a b).1.length ≤ 4096 := by
  unfold addR
  split
  · split
    · split
      · simp
      · split
        · split
          · simp
          · rename_i h; dsimp only; omega
        · simp
    · simp
  · simp
theorem addAll_len : ∀ {l : List (List TSpan)} {v : List TSpan}, v.length ≤ 4096 → (addAll v l).1.length ≤ 4096
  | [], v, h => h
  | y :: r, v, h => by
    rw [addAll]
    split
    · simp
    · exact addAll_len (addR_len v y)
theorem preR_sums {b : Int} : ∀ {f : List TField} {p : TTotal × Int}, preR b f = some p → p.1.Sums = []
  | x :: r, p, h => by
    rw [preR] at h
    split at h
    · cases h; rfl
    · split at h
      · cases h; rfl
      · split at h
        · cases h; rfl
        · exact preR_sums h
theorem sums_len (b : Int) (f : List TField) : (totalR b f).1.Sums.length ≤ 4096 := by
  unfold totalR
  cases h : preR b f with
  | some p => dsimp only; rw [preR_sums h]; simp
  | none =>
    dsimp only
    cases f with
    | nil => simp [sumR, zT]
    | cons x r =>
      rw [sumR]
      split
      · simp [zT]
      · exact addAll_len (setR_len _)
def allG (f : List TField) : List Int → List TTotal → List TTotal × Int
  | [], l => (l, 0)
  | b :: r, l => if (totalR b f).2 ≠ 0 then ([], (totalR b f).2) else allG f r (l ++ [(totalR b f).1])
theorem allG_len (f : List TField) : ∀ {B : List Int} {l : List TTotal}, (∀ t, t ∈ l → t.Sums.length ≤ 4096) → (allG f B l).1.length ≤ l.length + B.length ∧ ∀ t, t ∈ (allG f B l).1 → t.Sums.length ≤ 4096
  | [], l, h => ⟨Nat.le_refl _, h⟩
  | b :: r, l, h => by
    rw [allG]
    split
    · exact ⟨by simp, fun t ht => by cases ht⟩
    · have := allG_len f (B := r) (l := l ++ [(totalR b f).1]) (fun t ht => by
        rcases List.mem_append.1 ht with ht | ht
        · exact h t ht
        · rw [List.mem_singleton] at ht; subst ht; exact sums_len b f)
      refine ⟨?_, this.2⟩
      have h1 := this.1
      simp only [List.length_append, List.length_cons, List.length_nil] at h1 ⊢
      omega
abbrev bibsL (x : TField) : List Int := x.Runners.map (·.Bib)
theorem bibs_sorted {x : TField} (hf : FieldOK x) : (bibsL x).Pairwise (· < ·) := by
  rw [List.pairwise_iff_getElem]
  intro i j hi hj hij
  simp only [List.length_map] at hi hj
  have := bib_lt hf hij hj
  unfold bibN at this
  simpa [hi, hj] using this
theorem bibs_in {x : TField} (hf : FieldOK x) {b : Int} (hb : b ∈ bibsL x) : 1 ≤ b ∧ b ≤ 9999 := by
  obtain ⟨r, hr, rfl⟩ := List.mem_map.1 hb
  obtain ⟨i, hi, rfl⟩ := List.mem_iff_getElem.1 hr
  have := (hf.runner i hi x.Runners[i] (by simp [hi])).1
  exact ⟨this.1, this.2.1⟩
theorem findR_bibs {x : TField} {b : Int} : (∃ i, findR x.Runners b = some i) ↔ b ∈ bibsL x := by
  unfold findR
  constructor
  · rintro ⟨i, h⟩
    rw [List.findIdx?_eq_some_iff_getElem] at h
    obtain ⟨h1, h2, _⟩ := h
    exact List.mem_map.2 ⟨_, List.getElem_mem h1, by simpa using h2⟩
  · intro h
    obtain ⟨r, hr, he⟩ := List.mem_map.1 h
    cases hq : List.findIdx? (fun r : TRunner => r.Bib == b) x.Runners with
    | some i => exact ⟨i, rfl⟩
    | none =>
      rw [List.findIdx?_eq_none_iff] at hq
      have := hq r hr
      rw [he] at this
      simp at this
theorem sortInt_eq {l : List Int} (hl : l.length ≤ 12) (hp : l.Pairwise (· < ·)) : M186 l = some l := by
  unfold M186
  have hb : ∃ r, M76 (IntKind.wrap .u64 (l.length : Int)) = some r := by
    have e1 : IntKind.wrap .u64 (l.length : Int) = (l.length : Int) := by
      simp only [IntKind.wrap, IntKind.bits, IntKind.signed]
      simp
      omega
    unfold M76
    rw [e1, if_pos (by omega)]
    exact ⟨_, rfl⟩
  obtain ⟨r, hr⟩ := hb
  have hi : isort ltI l = l := by
    refine sorted_uniq (r := (· < ·)) (isort_sorted (e := (· < ·)) hp (fun x y _ _ h => by simpa [ltI] using h) (fun x y _ _ h he => he) (fun x y z _ _ _ h1 h2 => Int.lt_trans h1 h2)) hp (fun x => isort_mem) (fun x y _ _ h1 h2 => by omega) (fun x _ h => by omega)
  have hlen : lenIs l l = some () := by unfold lenIs; rw [if_pos rfl]
  have hs : M185 (l.length + 1) 0 (l.length : Int) r l = some l := by
    show M184 _ 0 (l.length : Int) r l = _
    unfold M184
    rw [M183, w64c (i := (l.length : Int) - 0) (n := l.length) (by omega) (by omega), decide_eq_true (by omega), cond_true, insI_eq (by omega), hi, some_bind, hlen, some_bind]
  rw [hr, some_bind, hs, some_bind, hlen, some_bind]
theorem libAll_eq {x : TField} {r : List TField} (hs : smallF (x :: r)) (hf : okF (x :: r)) (hl : (x :: r).length ≤ 14) (h6 : x.Runners.length ≤ 12) : (M187 x (x.Runners.length + 1) 0 []).bind (fun l_13 => (M186 l_13).bind fun l_20 => (lenIs l_20 l_13).bind fun _ => M188 (x :: r) l_20 M189 (((((l_20).length : Int)) - 0 : Int).toNat + 1) 0 []) = some (allG (x :: r) (bibsL x) []) := by
  have h1 := rangeL (σ := List Int) (l := x.Runners) (f := fun n i s => M187 x n (i : Int) s) (g := fun q s => some (s ++ q.map (·.Bib))) (fun i s => s.length ≤ i)
    (fun n s _ => by
      show M187 x (n + 1) (x.Runners.length : Int) s = _
      rw [M187, decide_eq_false (by omega), cond_false]; simp)
    (fun n i s a q h e1 e3 hm hI hk => by
      show M187 x (n + 1) (i : Int) s = _
      have hI : s.length ≤ i := hI
      rw [M187, decide_eq_true (by omega), cond_true, idx_at e1, some_bind, app_ok (by simp; omega) (by simp; omega), some_bind, w64c (i := (i : Int) + 1) (n := i + 1) (by omega) (by omega)]
      refine (hk (s ++ [a.Bib]) (by show (s ++ [a.Bib]).length ≤ _; simp; omega)).trans ?_
      simp) [] (Nat.le_refl _)
  rw [show M187 x (x.Runners.length + 1) 0 [] = _ from h1, some_bind, List.nil_append]
  have hxm : x ∈ x :: r := by simp
  have hB : (bibsL x).length ≤ 12 := by rw [List.length_map]; exact h6
  have hlen : lenIs (bibsL x) (bibsL x) = some () := by unfold lenIs; rw [if_pos rfl]
  rw [show M186 (x.Runners.map (·.Bib)) = some (bibsL x) from sortInt_eq hB (bibs_sorted (hf x hxm)), some_bind, hlen, some_bind, fuel_sub]
  exact rangeL (σ := List TTotal) (l := bibsL x) (f := fun n i s => M188 (x :: r) (bibsL x) M189 n (i : Int) s) (g := fun q s => some (allG (x :: r) q s)) (fun i s => s.length ≤ i)
    (fun n s _ => by
      show M188 (x :: r) (bibsL x) M189 (n + 1) ((bibsL x).length : Int) s = _
      rw [M188, decide_eq_false (by omega), cond_false]; rfl)
    (fun n i s a q h e1 e3 hm hI hk => by
      show M188 (x :: r) (bibsL x) M189 (n + 1) (i : Int) s = _
      have hI : s.length ≤ i := hI
      rw [M188, decide_eq_true (by omega), cond_true, idx_at e1, some_bind, libTotal_eq hs hf hl (by simp), some_bind, w64c (i := (i : Int) + 1) (n := i + 1) (by omega) (by omega), allG]
      generalize totalR a (x :: r) = p at *
      obtain ⟨p1, p2⟩ := p
      dsimp only
      by_cases h5 : p2 = 0
      · subst h5
        rw [show ((0 : Int) != 0) = false from rfl, cond_false, if_neg (by decide), app_ok (by simp; omega) (by simp; omega), some_bind]
        exact hk (s ++ [p1]) (by show (s ++ [p1]).length ≤ _; simp; omega)
      · rw [show (p2 != 0) = true from by simpa using h5, cond_true, if_pos h5]) [] (Nat.le_refl _)
theorem refAll_eq {x : TField} {r : List TField} (hs : smallF (x :: r)) (hf : okF (x :: r)) (hl : (x :: r).length ≤ 14) : M323 (x :: r) M324 10000 1 [] = some (allG (x :: r) (bibsL x) []) := by
  have hxm : x ∈ x :: r := by simp
  have i0 : idx (x :: r) 0 = some x := idx_lt (i := 0) (by simp)
  have key : ∀ (c n bib : Nat) (B : List Int) (s : List TTotal), bib + c = 10000 → c ≤ n → B.Pairwise (· < ·) → (∀ y, y ∈ B ↔ y ∈ bibsL x ∧ (bib : Int) ≤ y) → s.length ≤ bib → M323 (x :: r) M324 (n + 1) (bib : Int) s = some (allG (x :: r) B s) := by
    intro c
    induction c with
    | zero =>
      intro n bib B s hb _ _ hB _
      rw [M323, decide_eq_false (by omega), cond_false]
      cases B with
      | nil => rfl
      | cons y B =>
        have h1 := (hB y).1 (by simp)
        have h2 := bibs_in (hf x hxm) h1.1
        omega
    | succ c ih =>
      intro n bib B s hb hn hP hB hsl
      obtain ⟨n, rfl⟩ : ∃ n', n = n' + 1 := ⟨n - 1, by omega⟩
      rw [M323, decide_eq_true (by omega), cond_true, i0, some_bind, (find33_eq (hs x hxm) _).2, some_bind, w64c (i := (bib : Int) + 1) (n := bib + 1) (by omega) (by omega)]
      cases hfd : findR x.Runners (bib : Int) with
      | none =>
        dsimp only
        rw [show decide ((-1 : Int) < 0) = true from rfl, cond_true]
        refine ih n (bib + 1) B s (by omega) (by omega) hP (fun y => ?_) (by omega)
        rw [hB y]
        constructor
        · rintro ⟨h1, h2⟩
          refine ⟨h1, ?_⟩
          have : y ≠ bib := by
            rintro rfl
            obtain ⟨i, hi⟩ := findR_bibs.2 h1
            rw [hfd] at hi; cases hi
          omega
        · rintro ⟨h1, h2⟩
          exact ⟨h1, by omega⟩
      | some i =>
        have hin : (bib : Int) ∈ bibsL x := findR_bibs.1 ⟨i, hfd⟩
        cases B with
        | nil =>
          have := (hB bib).2 ⟨hin, Int.le_refl _⟩
          cases this
        | cons y B =>
          obtain ⟨hy1, hy2⟩ := List.pairwise_cons.1 hP
          have hmem := (hB bib).2 ⟨hin, Int.le_refl _⟩
          have hyb := ((hB y).1 (by simp)).2
          have he : y = bib := by
            rcases List.mem_cons.1 hmem with h | h
            · exact h.symm
            · have := hy1 _ h; omega
          subst he
          dsimp only
          rw [show decide (((i : Nat) : Int) < 0) = false from decide_eq_false (by omega), cond_false, refTotal_eq hs hf hl (by simp), some_bind, allG]
          generalize totalR (bib : Int) (x :: r) = p at *
          obtain ⟨p1, p2⟩ := p
          dsimp only
          by_cases h5 : p2 = 0
          · subst h5
            rw [show ((0 : Int) != 0) = false from rfl, cond_false, if_neg (by decide), app_ok (by simp; omega) (by simp; omega), some_bind]
            refine ih n (bib + 1) B (s ++ [p1]) (by omega) (by omega) hy2 (fun z => ?_) (by simp; omega)
            constructor
            · intro hz
              have h1 := (hB z).1 (by simp [hz])
              have h2 := hy1 z hz
              exact ⟨h1.1, by omega⟩
            · rintro ⟨h1, h2⟩
              rcases List.mem_cons.1 ((hB z).2 ⟨h1, by omega⟩) with h | h
              · omega
              · exact h
          · rw [show (p2 != 0) = true from by simpa using h5, cond_true, if_pos h5]
  exact key 9999 9999 1 (bibsL x) [] rfl (Nat.le_refl _) (bibs_sorted (hf x hxm)) (fun y => ⟨fun h => ⟨h, (bibs_in (hf x hxm) h).1⟩, fun h => h.1⟩) (by simp)
theorem All33_eq {f : List TField} (hs : smallF f) (h6 : ∀ x, x ∈ f → x.Runners.length ≤ 6) : ∃ R, M190 f = some R ∧ M325 f = some R ∧ R.1.length ≤ 1000 ∧ ∀ t, t ∈ R.1 → t.Sums.length ≤ 4096 := by
  unfold M190 M325
  rw [(stCheck_eq hs).1, (stCheck_eq hs).2]
  by_cases h1 : 1 ≤ f.length ∧ f.length ≤ 12
  · simp only [chk_pos h1]
    by_cases h2 : okF f
    · simp only [chk_pos h2]
      cases f with
      | nil => simp at h1
      | cons x r =>
        have i0 : idx (x :: r) 0 = some x := idx_lt (i := 0) (by simp)
        have hx6 := h6 x (by simp)
        simp only [some_bind, bne_self_eq_false, cond_false, i0, fuel_sub x.Runners.length]
        refine ⟨_, libAll_eq hs h2 (by omega) (by omega), ?_, ?_⟩
        · exact refAll_eq hs h2 (by omega)
        · have := allG_len (x :: r) (B := bibsL x) (l := []) (fun t ht => by cases ht)
          refine ⟨?_, this.2⟩
          have h3 := this.1
          simp only [List.length_nil, List.length_map] at h3
          omega
    · simp only [chk_neg h2]; exact ⟨_, rfl, rfl, by simp, fun t ht => by cases ht⟩
  · simp only [chk_neg h1]; exact ⟨_, rfl, rfl, by simp, fun t ht => by cases ht⟩
theorem few33_eq {f : List TField} (hw : wL wTField f) : ∃ b, M253 f = some b ∧ (b = true → f.length ≤ 14 ∧ smallF f ∧ ∀ x, x ∈ f → x.Runners.length ≤ 6) := by
  unfold M253
  by_cases hl : f.length ≤ 14
  · rw [decide_eq_false (by omega), cond_false, fuel_sub]
    have key : ∃ b, M251 f M252 (f.length + 1) 0 = some b ∧ (b = true → ∀ x, x ∈ f → Small x ∧ x.Runners.length ≤ 6) := by
      have step : ∀ (c i n : Nat), i + c = f.length → c ≤ n → ∃ b, M251 f M252 (n + 1) (i : Int) = some b ∧ (b = true → ∀ j (h : j < f.length), i ≤ j → Small f[j] ∧ f[j].Runners.length ≤ 6) := by
        intro c
        induction c with
        | zero =>
          intro i n h _
          refine ⟨true, ?_, fun _ j hj hij => by omega⟩
          rw [M251, decide_eq_false (by omega), cond_false]; rfl
        | succ c ih =>
          intro i n h hn
          obtain ⟨n, rfl⟩ : ∃ n', n = n' + 1 := ⟨n - 1, by omega⟩
          have hi : i < f.length := by omega
          obtain ⟨b, h1, h2⟩ := few24_eq (hw.2 _ (List.getElem_mem hi))
          obtain ⟨b', h3, h4⟩ := ih (i + 1) n (by omega) (by omega)
          have hfin : ∃ q, ((some b).bind fun r => bif !r then some false else M251 f M252 (n + 1) ((i + 1 : Nat) : Int)) = some q ∧ (q = true → ∀ j (h : j < f.length), i ≤ j → Small f[j] ∧ f[j].Runners.length ≤ 6) := by
            cases b with
            | false => exact ⟨false, rfl, fun h => by cases h⟩
            | true =>
              refine ⟨b', by rw [some_bind]; exact h3, fun hq j hj hij => ?_⟩
              by_cases e : j = i
              · subst e
                have := h2 rfl
                exact ⟨this.1, this.2.1⟩
              · exact h4 hq j hj (by omega)
          rw [M251, decide_eq_true (by omega), cond_true, idx_lt hi, some_bind, w64c (i := (i : Int) + 1) (n := i + 1) (by omega) (by omega)]
          cases hd : decide ((i : Int) > 3) with
          | false =>
            rw [cond_false, some_bind, h1]
            exact hfin
          | true =>
            rw [cond_true, some_bind]
            cases hd2 : decide (((f[i].Runners.length : Nat) : Int) > 1) with
            | true => exact ⟨false, rfl, fun h => by cases h⟩
            | false =>
              rw [cond_false, h1]
              exact hfin
      obtain ⟨b, h1, h2⟩ := step f.length 0 f.length (by omega) (Nat.le_refl _)
      refine ⟨b, h1, fun hb x hx => ?_⟩
      obtain ⟨j, hj, rfl⟩ := List.mem_iff_getElem.1 hx
      exact h2 hb j hj (Nat.zero_le _)
    obtain ⟨b, h1, h2⟩ := key
    exact ⟨b, h1, fun hb => ⟨hl, fun x hx => (h2 hb x hx).1, fun x hx => (h2 hb x hx).2⟩⟩
  · rw [decide_eq_true (by omega), cond_true]
    exact ⟨false, rfl, fun h => by cases h⟩
theorem StagesTotals_true (y0 : List TField) (y1 : Int) (w0 : wL wTField y0) (w1 : wI y1) : M326 y0 y1 = some true := by
  unfold M326
  rw [sane33_true, some_bind, Bool.not_true, cond_false]
  obtain ⟨b, hb1, hb2⟩ := few33_eq w0
  rw [hb1, some_bind]
  cases b with
  | false => rfl
  | true =>
    rw [Bool.not_true, cond_false]
    obtain ⟨hl, hs, h6⟩ := hb2 rfl
    obtain ⟨R, e1, e2, e3, e4⟩ := All33_eq hs h6
    obtain ⟨t1, t2⟩ := Total33_eq hs y1
    have hT : ∃ T, M145 y0 y1 = some T ∧ M322 y0 y1 = some T ∧ T.1.Sums.length ≤ 4096 := by
      rw [t1, t2]
      by_cases h1 : 1 ≤ y0.length ∧ y0.length ≤ 12
      · rw [chk_pos h1]
        by_cases h2 : okF y0
        · rw [chk_pos h2]
          by_cases h3 : inFirst y1 y0
          · rw [chk_pos h3]; exact ⟨_, rfl, rfl, sums_len _ _⟩
          · rw [chk_neg h3]; exact ⟨_, rfl, rfl, by simp [zT]⟩
        · rw [chk_neg h2]; exact ⟨_, rfl, rfl, by simp [zT]⟩
      · rw [chk_neg h1]; exact ⟨_, rfl, rfl, by simp [zT]⟩
    obtain ⟨T, k1, k2, k3⟩ := hT
    obtain ⟨T1, T2⟩ := T
    obtain ⟨R1, R2⟩ := R
    dsimp only at k3 e3 e4
    rw [k1, some_bind]
    dsimp only
    rw [k2, some_bind]
    dsimp only
    rw [e1, some_bind]
    dsimp only
    rw [e2, some_bind]
    dsimp only
    rw [sameTotal_self T1 (by omega), some_bind, cond_true, show (T2 == T2) = true from by simp, cond_true, same33_self R1 (by omega) (fun t ht => by have := e4 t ht; omega), some_bind, cond_true, show (R2 == R2) = true from by simp]
    rfl
end Go.Stop
