/- Plain laws about the models. No condition. -/
import Derived.Test.YtolclhjojfcipaaGreatZV
import Derived.KernelRfl
namespace Go.Stop
open Go Go.Abs
set_option linter.unusedVariables false
set_option linter.unusedSimpArgs false
theorem w64_of {n : Int} (h1 : -9223372036854775808 ≤ n) (h2 : n ≤ 9223372036854775807) : w64 n = n := by
  unfold w64; simp only [IntKind.wrap, IntKind.bits, IntKind.signed]; simp; omega
theorem w64_succ {i : Nat} (h : i < 9223372036854775807) : w64 ((i : Int) + 1) = ((i + 1 : Nat) : Int) := by
  rw [w64_of (by omega) (by omega)]; rfl
theorem idx_nat {α : Type} (l : List α) (i : Nat) : idx l (i : Int) = l[i]? := by
  unfold idx; simp
theorem idx_lt {α : Type} {l : List α} {i : Nat} (h : i < l.length) : idx l (i : Int) = some l[i] := by
  rw [idx_nat]; simp [h]
theorem some_bind {α β : Type} (a : α) (f : α → Option β) : (some a).bind f = f a := rfl
theorem dec_lt_nat (i n : Nat) : decide ((i : Int) < (n : Int)) = decide (i < n) := by simp
theorem dec_le_nat (i n : Nat) : decide ((i : Int) ≤ (n : Int)) = decide (i < n + 1) := by
  by_cases h : i < n + 1
  · simp [h]; omega
  · simp [h]; omega
section
open Classical
noncomputable def chk {β : Type} (p : Prop) (r : β) (k : Option β) : Option β := if p then k else some r
theorem chk_and {β : Type} (p q : Prop) (r : β) (k : Option β) : chk p r (chk q r k) = chk (p ∧ q) r k := by
  unfold chk; by_cases hp : p <;> by_cases hq : q <;> simp [hp, hq]
theorem chk_congr {β : Type} {p q : Prop} {r : β} {k k' : Option β} (h : p ↔ q) (hk : p → k = k') : chk p r k = chk q r k' := by
  unfold chk
  by_cases hp : p
  · rw [if_pos hp, if_pos (h.1 hp), hk hp]
  · rw [if_neg hp, if_neg (fun hq => hp (h.2 hq))]
theorem chk_loop {β : Type} {N : Nat} {f : Nat → Nat → Option β} {r : β} {ok : Nat → Prop} {k : Option β} (hs : ∀ n i, i < N → f (n + 1) i = chk (ok i) r (f n (i + 1))) (he : ∀ n, f (n + 1) N = k) :
    f (N + 1) 0 = chk (∀ i, i < N → ok i) r k := by
  unfold chk at hs ⊢
  have key : ∀ c i n, i + c = N → c ≤ n → f (n + 1) i = if (∀ j, i ≤ j → j < N → ok j) then k else some r := by
    intro c
    induction c with
    | zero =>
      intro i n h _
      have : i = N := by omega
      subst this
      rw [he, if_pos (fun j h1 h2 => absurd h2 (by omega))]
    | succ c ih =>
      intro i n h hn
      rw [hs n i (by omega)]
      obtain ⟨n, rfl⟩ : ∃ n', n = n' + 1 := ⟨n - 1, by omega⟩
      by_cases h1 : ok i
      · rw [if_pos h1, ih (i + 1) n (by omega) (by omega)]
        by_cases h2 : ∀ j, i + 1 ≤ j → j < N → ok j
        · rw [if_pos h2, if_pos]
          intro j hj hjN
          by_cases e : j = i
          · exact e ▸ h1
          · exact h2 j (by omega) hjN
        · rw [if_neg h2, if_neg]
          intro h3
          exact h2 fun j hj hjN => h3 j (by omega) hjN
      · rw [if_neg h1, if_neg]
        intro h3
        exact h1 (h3 i (by omega) (by omega))
  rw [key N 0 N (by omega) (by omega)]
  simp
theorem chk_loop' {β : Type} {N : Nat} {f : Nat → Nat → Option β} {r : β} {ok : Nat → Prop} {k : Option β} (hs : ∀ n i, i < N → (∀ j, j < i → ok j) → f (n + 1) i = chk (ok i) r (f n (i + 1))) (he : ∀ n, (∀ j, j < N → ok j) → f (n + 1) N = k) :
    f (N + 1) 0 = chk (∀ i, i < N → ok i) r k := by
  have key : ∀ c i n, i + c = N → c ≤ n → (∀ j, j < i → ok j) → f (n + 1) i = chk (∀ j, j < N → ok j) r k := by
    intro c
    induction c with
    | zero =>
      intro i n h _ hp
      have : i = N := by omega
      subst this
      rw [he n hp]; unfold chk; rw [if_pos hp]
    | succ c ih =>
      intro i n h hn hp
      rw [hs n i (by omega) hp]
      obtain ⟨n, rfl⟩ : ∃ n', n = n' + 1 := ⟨n - 1, by omega⟩
      by_cases h1 : ok i
      · rw [ih (i + 1) n (by omega) (by omega) (fun j hj => by
          by_cases e : j = i
          · exact e ▸ h1
          · exact hp j (by omega))]
        unfold chk; rw [if_pos h1]
      · unfold chk; rw [if_neg h1, if_neg (fun h3 => h1 (h3 i (by omega)))]
  exact key N 0 N (by omega) (by omega) (fun j hj => absurd hj (by omega))
theorem run_inv {σ : Type} {N : Nat} {f : Nat → Nat → σ → Option σ} {I : Nat → σ → Prop} (hs : ∀ n i s, i < N → I i s → ∃ s', I (i + 1) s' ∧ f (n + 1) i s = f n (i + 1) s') (he : ∀ n s, f (n + 1) N s = some s) {s0 : σ} (h0 : I 0 s0) :
    ∃ s, f (N + 1) 0 s0 = some s ∧ I N s := by
  have key : ∀ c i n s, i + c = N → c ≤ n → I i s → ∃ s', f (n + 1) i s = some s' ∧ I N s' := by
    intro c
    induction c with
    | zero =>
      intro i n s h _ hi
      have : i = N := by omega
      subst this
      exact ⟨s, he n s, hi⟩
    | succ c ih =>
      intro i n s h hn hi
      obtain ⟨s', h1, h2⟩ := hs n i s (by omega) hi
      obtain ⟨n, rfl⟩ : ∃ n', n = n' + 1 := ⟨n - 1, by omega⟩
      rw [h2]
      exact ih (i + 1) n s' (by omega) (by omega) h1
  exact key N 0 N s0 (by omega) (by omega) h0
noncomputable def listP (p : Nat → Prop) : Nat → Nat → List Int
  | _, 0 => []
  | i, c + 1 => if p i then (i : Int) :: listP p (i + 1) c else listP p (i + 1) c
theorem it_loop {N : Nat} {f : Nat → Nat → Option (List Int)} {p : Nat → Prop} (hs : ∀ n i, i < N → f (n + 1) i = if p i then (f n (i + 1)).bind fun l => some ((i : Int) :: l) else f n (i + 1)) (he : ∀ n, f (n + 1) N = some []) : f (N + 1) 0 = some (listP p 0 N) := by
  have key : ∀ c i n, i + c = N → c ≤ n → f (n + 1) i = some (listP p i c) := by
    intro c
    induction c with
    | zero =>
      intro i n h _
      have : i = N := by omega
      subst this
      rw [he]; rfl
    | succ c ih =>
      intro i n h hn
      obtain ⟨n, rfl⟩ : ∃ n', n = n' + 1 := ⟨n - 1, by omega⟩
      rw [hs _ i (by omega), ih (i + 1) n (by omega) (by omega), listP]
      by_cases hp : p i
      · rw [if_pos hp, if_pos hp]; rfl
      · rw [if_neg hp, if_neg hp]
  exact key N 0 N (by omega) (by omega)
theorem find_loop {N : Nat} {f : Nat → Nat → Option Int} {p : Nat → Prop} (hs : ∀ n i, i < N → f (n + 1) i = if p i then some (i : Int) else f n (i + 1)) (he : ∀ n, f (n + 1) N = some (-1)) :
    ∃ r, f (N + 1) 0 = some r ∧ (r ≥ 0 ↔ ∃ i, i < N ∧ p i) := by
  have key : ∀ c i n, i + c = N → c ≤ n → ∃ r, f (n + 1) i = some r ∧ (r ≥ 0 ↔ ∃ j, i ≤ j ∧ j < N ∧ p j) := by
    intro c
    induction c with
    | zero =>
      intro i n h _
      have : i = N := by omega
      subst this
      refine ⟨-1, he n, by simp; omega⟩
    | succ c ih =>
      intro i n h hn
      rw [hs n i (by omega)]
      obtain ⟨n, rfl⟩ : ∃ n', n = n' + 1 := ⟨n - 1, by omega⟩
      by_cases h1 : p i
      · rw [if_pos h1]
        exact ⟨_, rfl, fun _ => ⟨i, Nat.le_refl _, by omega, h1⟩, fun _ => by omega⟩
      · rw [if_neg h1]
        obtain ⟨r, h2, h3⟩ := ih (i + 1) n (by omega) (by omega)
        refine ⟨r, h2, h3.trans ⟨fun ⟨j, a, b, c⟩ => ⟨j, by omega, b, c⟩, fun ⟨j, a, b, c⟩ => ⟨j, ?_, b, c⟩⟩⟩
        by_cases e : j = i
        · exact absurd (e ▸ c) h1
        · omega
  obtain ⟨r, h1, h2⟩ := key N 0 N (by omega) (by omega)
  exact ⟨r, h1, h2.trans ⟨fun ⟨j, _, b, c⟩ => ⟨j, b, c⟩, fun ⟨j, b, c⟩ => ⟨j, by omega, b, c⟩⟩⟩
end
theorem bif_dec {β : Type} (p : Prop) [Decidable p] (a b : β) : (bif decide p then a else b) = if p then a else b := by
  by_cases h : p <;> simp [h]
theorem bif_eq {β : Type} (x y : Int) (a b : β) : (bif x == y then a else b) = if x = y then a else b := by
  rw [Bool.cond_eq_ite]; simp only [beq_iff_eq]
theorem bif_ne {β : Type} (x y : Int) (a b : β) : (bif x != y then a else b) = if x = y then b else a := by
  rw [Bool.cond_eq_ite]; simp only [bne_iff_ne, ne_eq, ite_not]
theorem chk_pos {β : Type} {p : Prop} {r : β} {k : Option β} (h : p) : chk p r k = k := by unfold chk; rw [if_pos h]
theorem chk_neg {β : Type} {p : Prop} {r : β} {k : Option β} (h : ¬p) : chk p r k = some r := by unfold chk; rw [if_neg h]
theorem bind_chk {β : Type} {p : Prop} {t : Option Bool} {r : β} {k : Option β} (h : ∃ b, t = some b ∧ (b = true ↔ ¬p)) : (t.bind fun v => bif v then some r else k) = chk p r k := by
  obtain ⟨b, rfl, hb⟩ := h
  cases b with
  | true => rw [chk_neg (hb.1 rfl)]; rfl
  | false => rw [chk_pos (Classical.byContradiction fun h => by simpa using hb.2 h)]; rfl
theorem fuel_sub (n : Nat) : ((n : Int) - 0).toNat + 1 = n + 1 := by omega
theorem fuel_add (n : Nat) : ((n : Int) + 1 - 0).toNat + 1 = (n + 1) + 1 := by omega
theorem cmp_eq (a b : Int) : M4 a b = some (if a < b then -1 else if b < a then 1 else 0) := by
  unfold M4 M3
  simp only [some_bind, bne_self_eq_false, cond_false, bif_dec]
  split
  · rfl
  · split
    · rfl
    · rfl
theorem or2_eq (a b : Int) : M7 [a, b] = some (if a ≠ 0 then a else b) := by
  have s0 : M7 [a, b] = bif a != 0 then some a else M5 [a, b] M6 2 1 := rfl
  have s1 : M5 [a, b] M6 2 1 = bif b != 0 then some b else M5 [a, b] M6 1 2 := rfl
  have s2 : M5 [a, b] M6 1 2 = some 0 := rfl
  rw [s0, s1, s2, bif_ne, bif_ne]
  by_cases ha : a = 0
  · by_cases hb : b = 0
    · simp [ha, hb]
    · simp [ha, hb]
  · simp [ha]
def SegLt (y x : TSegment) : Prop := y.Mat < x.Mat ∨ y.Mat = x.Mat ∧ y.Epoch < x.Epoch
theorem order_eq (y x : TSegment) : ∃ r, M9 y x = some r ∧ (r ≥ 0 ↔ ¬SegLt y x) := by
  unfold M9 M8 SegLt
  simp only [cmp_eq, some_bind, or2_eq]
  refine ⟨_, rfl, ?_⟩
  by_cases h1 : y.Mat < x.Mat
  · simp [h1]
  · by_cases h2 : x.Mat < y.Mat
    · simp [h1, h2]; omega
    · have : y.Mat = x.Mat := by omega
      simp only [this, Int.lt_irrefl, if_false, ne_eq, not_true, false_or, true_and]
      by_cases h3 : y.Epoch < x.Epoch
      · rw [if_pos h3]; omega
      · rw [if_neg h3]
        split <;> omega
theorem less_eq (y x : TSegment) : ∃ r, M129 y x = some r ∧ (r = true ↔ SegLt y x) := by
  unfold M129 SegLt
  by_cases h1 : y.Mat < x.Mat
  · exact ⟨true, by simp [h1], by simp [h1]⟩
  · rw [bif_dec, if_neg h1, bif_eq]
    by_cases h2 : y.Mat = x.Mat
    · exact ⟨decide (y.Epoch < x.Epoch), by rw [if_pos h2], by simp [h2]⟩
    · exact ⟨false, by rw [if_neg h2], by simp [h2]; omega⟩
theorem time_eq (n : Int) : M2 n = some (decide (-1099511627776 ≤ n ∧ n ≤ 1099511627776)) := by
  unfold M2; rw [bif_dec]; split
  · congr 1; simp; omega
  · congr 1; symm; simp; omega
theorem time16_eq (n : Int) : M128 n = some (decide (-1099511627776 ≤ n ∧ n ≤ 1099511627776)) := time_eq n
def SegOK (l : List TSegment) (i : Nat) : Prop := ∀ x, l[i]? = some x → 0 ≤ x.Mat ∧ x.Mat < 40 ∧ 0 ≤ x.Epoch ∧ x.Epoch ≤ 255 ∧ (-1099511627776 ≤ x.Anchor ∧ x.Anchor ≤ 1099511627776) ∧ (0 < i → ∀ y, l[i - 1]? = some y → SegLt y x)
theorem pred_nat {i : Nat} (h : 0 < i) (h' : i < 9223372036854775807) : w64 ((i : Int) - 1) = ((i - 1 : Nat) : Int) := by
  rw [w64_of (by omega) (by omega)]; omega
theorem clocks_L1 {k : TClocks} {kk : Unit → Option Int} (hl : k.Segments.length < 9223372036854775807) : M15 k kk (k.Segments.length + 1) 0 = chk (∀ i, i < k.Segments.length → SegOK k.Segments i) 160 (kk ()) := by
  refine chk_loop (f := fun n i => M15 k kk n (i : Int)) (fun n i hi => ?_) (fun n => ?_)
  · show M15 k kk (n + 1) (i : Int) = _
    rw [M15, dec_lt_nat, decide_eq_true hi, cond_true, idx_lt hi, some_bind, w64_succ (by omega)]
    have hx : k.Segments[i]? = some k.Segments[i] := by simp [hi]
    generalize k.Segments[i] = x at hx
    refine bind_chk ?_
    have hs : SegOK k.Segments i ↔ (0 ≤ x.Mat ∧ x.Mat < 40 ∧ 0 ≤ x.Epoch ∧ x.Epoch ≤ 255 ∧ (-1099511627776 ≤ x.Anchor ∧ x.Anchor ≤ 1099511627776) ∧ (0 < i → ∀ y, k.Segments[i - 1]? = some y → SegLt y x)) := by
      unfold SegOK; rw [hx]; simp
    rw [hs]
    simp only [bif_dec, time_eq, some_bind]
    by_cases h1 : x.Mat < 0
    · exact ⟨true, if_pos h1, by simp; omega⟩
    rw [if_neg h1]
    by_cases h2 : x.Mat ≥ 40
    · exact ⟨true, if_pos h2, by simp; omega⟩
    rw [if_neg h2]
    by_cases h3 : x.Epoch < 0
    · exact ⟨true, if_pos h3, by simp; omega⟩
    rw [if_neg h3]
    by_cases h4 : x.Epoch > 255
    · exact ⟨true, if_pos h4, by simp; omega⟩
    rw [if_neg h4]
    by_cases h5 : -1099511627776 ≤ x.Anchor ∧ x.Anchor ≤ 1099511627776
    · rw [decide_eq_true h5, Bool.not_true, cond_false]
      by_cases h6 : (i : Int) > 0
      · rw [if_pos h6]
        have h7 : 0 < i := by omega
        have h8 : i - 1 < k.Segments.length := by omega
        rw [pred_nat h7 (by omega), idx_lt h8, some_bind]
        obtain ⟨r, h9, h10⟩ := order_eq k.Segments[i - 1] x
        rw [h9, some_bind]
        refine ⟨_, rfl, ?_⟩
        rw [decide_eq_true_iff, h10]
        constructor
        · intro h11 h12
          exact h11 (h12.2.2.2.2.2 h7 _ (by simp [h8]))
        · intro h11 h12
          refine h11 ⟨by omega, by omega, by omega, by omega, h5, fun _ y hy => ?_⟩
          rw [List.getElem?_eq_getElem h8] at hy
          cases hy
          exact h12
      · rw [if_neg h6]
        refine ⟨false, rfl, ?_⟩
        simp only [Bool.false_eq_true, false_iff, Classical.not_not]
        exact ⟨by omega, by omega, by omega, by omega, h5, fun h => by omega⟩
    · rw [decide_eq_false h5, Bool.not_false, cond_true]
      refine ⟨true, rfl, ?_⟩
      simp only [true_iff]
      exact fun h => h5 h.2.2.2.2.1
  · show M15 k kk (n + 1) ((k.Segments.length : Nat) : Int) = _
    rw [M15]
    simp
theorem ref16_L1 {k : TClocks} {kk : Unit → Option Int} (hl : k.Segments.length < 9223372036854775807) : M130 k kk (k.Segments.length + 1) 0 = chk (∀ i, i < k.Segments.length → SegOK k.Segments i) 160 (kk ()) := by
  refine chk_loop (f := fun n i => M130 k kk n (i : Int)) (fun n i hi => ?_) (fun n => ?_)
  · show M130 k kk (n + 1) (i : Int) = _
    rw [M130, dec_lt_nat, decide_eq_true hi, cond_true, idx_lt hi, some_bind, w64_succ (by omega)]
    have hx : k.Segments[i]? = some k.Segments[i] := by simp [hi]
    generalize k.Segments[i] = x at hx
    refine bind_chk ?_
    have hs : SegOK k.Segments i ↔ (0 ≤ x.Mat ∧ x.Mat < 40 ∧ 0 ≤ x.Epoch ∧ x.Epoch ≤ 255 ∧ (-1099511627776 ≤ x.Anchor ∧ x.Anchor ≤ 1099511627776) ∧ (0 < i → ∀ y, k.Segments[i - 1]? = some y → SegLt y x)) := by
      unfold SegOK; rw [hx]; simp
    rw [hs]
    simp only [bif_dec, time16_eq, some_bind]
    by_cases h1 : x.Mat < 0
    · exact ⟨true, if_pos h1, by simp; omega⟩
    rw [if_neg h1]
    by_cases h2 : x.Mat ≥ 40
    · exact ⟨true, if_pos h2, by simp; omega⟩
    rw [if_neg h2]
    by_cases h3 : x.Epoch < 0
    · exact ⟨true, if_pos h3, by simp; omega⟩
    rw [if_neg h3]
    by_cases h4 : x.Epoch > 255
    · exact ⟨true, if_pos h4, by simp; omega⟩
    rw [if_neg h4]
    by_cases h5 : -1099511627776 ≤ x.Anchor ∧ x.Anchor ≤ 1099511627776
    · rw [decide_eq_true h5, Bool.not_true, cond_false]
      by_cases h6 : (i : Int) > 0
      · rw [if_pos h6]
        have h7 : 0 < i := by omega
        have h8 : i - 1 < k.Segments.length := by omega
        rw [pred_nat h7 (by omega), idx_lt h8, some_bind]
        obtain ⟨r, h9, h10⟩ := less_eq k.Segments[i - 1] x
        rw [h9, some_bind]
        refine ⟨_, rfl, ?_⟩
        rw [Bool.not_eq_true', ← Bool.not_eq_true, h10]
        constructor
        · intro h11 h12
          exact h11 (h12.2.2.2.2.2 h7 _ (by simp [h8]))
        · intro h11 h12
          refine h11 ⟨by omega, by omega, by omega, by omega, h5, fun _ y hy => ?_⟩
          rw [List.getElem?_eq_getElem h8] at hy
          cases hy
          exact h12
      · rw [if_neg h6]
        refine ⟨false, rfl, ?_⟩
        simp only [Bool.false_eq_true, false_iff, Classical.not_not]
        exact ⟨by omega, by omega, by omega, by omega, h5, fun h => by omega⟩
    · rw [decide_eq_false h5, Bool.not_false, cond_true]
      refine ⟨true, rfl, ?_⟩
      simp only [true_iff]
      exact fun h => h5 h.2.2.2.2.1
  · show M130 k kk (n + 1) ((k.Segments.length : Nat) : Int) = _
    rw [M130]
    simp
def at2 (l : List (List Int)) (i j : Nat) : Int := ((l[i]?.getD [])[j]?).getD 0
def Entry (w : Int) : Prop := -2199023255552 ≤ w ∧ w ≤ 2199023255552
def RowOK (k : TClocks) (i : Nat) : Prop := (k.Far[i]?.getD []).length = k.Segments.length + 1 ∧ at2 k.Far i i = 0 ∧ ∀ j, j < k.Segments.length + 1 → Entry (at2 k.Far i j)
def TriOK (k : TClocks) : Prop := ∀ i, i < k.Segments.length + 1 → ∀ j, j < k.Segments.length + 1 → ∀ m, m < k.Segments.length + 1 → ¬at2 k.Far i m > w64 (at2 k.Far i j + at2 k.Far j m)
theorem idx2 {l : List (List Int)} {i j : Nat} {row : List Int} (h : l[i]? = some row) (hj : j < row.length) : idx row (j : Int) = some (at2 l i j) := by
  rw [idx_lt hj]; unfold at2; rw [h]; simp [hj]
theorem contains_eq (row : List Int) (hl : row.length < 9223372036854775807) : ∃ b, M14 row = some b ∧ (b = true ↔ ∃ j, j < row.length ∧ ¬Entry (row[j]?.getD 0)) := by
  unfold M14 M13
  rw [fuel_sub]
  obtain ⟨r, h1, h2⟩ := find_loop (N := row.length) (f := fun n i => M11 row M12 n (i : Int)) (p := fun j => ¬Entry (row[j]?.getD 0)) (fun n i hi => by
    show M11 row _ (n + 1) (i : Int) = _
    rw [M11, dec_lt_nat, decide_eq_true hi, cond_true, idx_lt hi, some_bind, w64_succ (by omega)]
    have hx : row[i]?.getD 0 = row[i] := by simp [hi]
    rw [hx]
    generalize row[i] = w
    unfold M10 Entry
    rw [bif_dec]
    by_cases h1 : w < -2199023255552
    · rw [if_pos h1, some_bind, cond_true, if_pos (by omega)]
    · rw [if_neg h1, some_bind, bif_dec]
      by_cases h2 : w > 2199023255552
      · rw [if_pos h2, if_pos (by omega)]
      · rw [if_neg h2, if_neg (by omega)]) (fun n => by
    show M11 row _ (n + 1) ((row.length : Nat) : Int) = _
    rw [M11]
    simp [M12])
  refine ⟨decide (r ≥ 0), ?_, by rw [decide_eq_true_iff]; exact h2⟩
  have h1 : M11 row M12 (row.length + 1) 0 = some r := h1
  rw [h1]; rfl
theorem clocks_L2 {k : TClocks} {kk : Unit → Option Int} (hl : k.Segments.length ≤ 511) (hf : k.Far.length = k.Segments.length + 1) : M16 k kk (k.Far.length + 1) 0 = chk (∀ i, i < k.Far.length → RowOK k i) 160 (kk ()) := by
  refine chk_loop (f := fun n i => M16 k kk n (i : Int)) (fun n i hi => ?_) (fun n => ?_)
  · show M16 k kk (n + 1) (i : Int) = _
    rw [M16, dec_lt_nat, decide_eq_true hi, cond_true, idx_lt hi, some_bind, w64_succ (by omega), w64_succ (by omega)]
    have hx : k.Far[i]? = some k.Far[i] := by simp [hi]
    generalize k.Far[i] = row at hx
    rw [bif_ne]
    have hr : RowOK k i ↔ row.length = k.Segments.length + 1 ∧ at2 k.Far i i = 0 ∧ ∀ j, j < k.Segments.length + 1 → Entry (at2 k.Far i j) := by
      unfold RowOK; rw [hx]; rfl
    by_cases h1 : row.length = k.Segments.length + 1
    · rw [if_pos (by omega), idx2 hx (by omega), some_bind, bif_ne]
      by_cases h2 : at2 k.Far i i = 0
      · rw [if_pos h2]
        obtain ⟨b, h3, h4⟩ := contains_eq row (by omega)
        rw [h3]
        refine bind_chk ⟨b, rfl, ?_⟩
        rw [h4, hr, h1]
        constructor
        · rintro ⟨j, h5, h6⟩ ⟨_, _, h7⟩
          have := h7 j h5
          unfold at2 at this
          rw [hx] at this
          exact h6 this
        · intro h5
          refine Classical.byContradiction fun h6 => h5 ⟨rfl, h2, fun j hj => Classical.byContradiction fun h7 => h6 ⟨j, hj, fun h8 => h7 ?_⟩⟩
          unfold at2
          rw [hx]
          exact h8
      · rw [if_neg h2, chk_neg (fun h => h2 (hr.1 h).2.1)]
    · rw [if_neg (by omega), chk_neg (fun h => h1 (hr.1 h).1)]
  · show M16 k kk (n + 1) ((k.Far.length : Nat) : Int) = _
    rw [M16]
    simp
theorem rows_get {k : TClocks} (h : ∀ i, i < k.Far.length → RowOK k i) (hf : k.Far.length = k.Segments.length + 1) {i : Nat} (hi : i < k.Segments.length + 1) : ∃ row, k.Far[i]? = some row ∧ idx k.Far (i : Int) = some row ∧ row.length = k.Segments.length + 1 := by
  have hi' : i < k.Far.length := by omega
  refine ⟨k.Far[i], by simp [hi'], idx_lt hi', ?_⟩
  have := (h i hi').1
  simpa [hi'] using this
theorem clocks_L5 {k : TClocks} {kk : Unit → Option Int} (hl : k.Segments.length ≤ 511) (hf : k.Far.length = k.Segments.length + 1) (h : ∀ i, i < k.Far.length → RowOK k i) {i j : Nat} (hi : i < k.Segments.length + 1) {x : Int} {row : List Int} (hr : k.Far[j]? = some row) (hrl : row.length = k.Segments.length + 1) :
    M17 k i x row kk (row.length + 1) 0 = chk (∀ m, m < row.length → ¬at2 k.Far i m > w64 (x + at2 k.Far j m)) 160 (kk ()) := by
  refine chk_loop (f := fun n m => M17 k i x row kk n (m : Int)) (fun n m hm => ?_) (fun n => ?_)
  · show M17 k i x row kk (n + 1) (m : Int) = _
    obtain ⟨row', h1, h2, h3⟩ := rows_get h hf hi
    rw [M17, dec_lt_nat, decide_eq_true hm, cond_true, idx2 hr hm, some_bind, h2, some_bind, idx2 h1 (by omega), some_bind, w64_succ (by omega), bif_dec]
    by_cases h4 : at2 k.Far i m > w64 (x + at2 k.Far j m)
    · rw [if_pos h4, chk_neg (fun h => h h4)]
    · rw [if_neg h4, chk_pos h4]
  · show M17 k i x row kk (n + 1) ((row.length : Nat) : Int) = _
    rw [M17]
    simp
theorem clocks_L4 {k : TClocks} {kk : Unit → Option Int} (hl : k.Segments.length ≤ 511) (hf : k.Far.length = k.Segments.length + 1) (h : ∀ i, i < k.Far.length → RowOK k i) {i : Nat} (hi : i < k.Segments.length + 1) {row : List Int} (hr : k.Far[i]? = some row) (hrl : row.length = k.Segments.length + 1) :
    M19 k i row kk (row.length + 1) 0 = chk (∀ j, j < row.length → ∀ m, m < k.Segments.length + 1 → ¬at2 k.Far i m > w64 (at2 k.Far i j + at2 k.Far j m)) 160 (kk ()) := by
  refine chk_loop (f := fun n j => M19 k i row kk n (j : Int)) (fun n j hj => ?_) (fun n => ?_)
  · show M19 k i row kk (n + 1) (j : Int) = _
    obtain ⟨row', h1, h2, h3⟩ := rows_get h hf (i := j) (by omega)
    rw [M19, dec_lt_nat, decide_eq_true hj, cond_true, idx2 hr hj, some_bind, h2, some_bind, fuel_sub, clocks_L5 hl hf h hi h1 h3, h3]
    show chk _ _ (M19 k i row kk n (w64 ((j : Int) + 1))) = _
    rw [w64_succ (by omega)]
  · show M19 k i row kk (n + 1) ((row.length : Nat) : Int) = _
    rw [M19]
    simp
theorem clocks_L3 {k : TClocks} {kk : Unit → Option Int} (hl : k.Segments.length ≤ 511) (hf : k.Far.length = k.Segments.length + 1) (h : ∀ i, i < k.Far.length → RowOK k i) :
    M21 k kk (k.Segments.length + 1 + 1) 0 = chk (TriOK k) 160 (kk ()) := by
  refine chk_loop (N := k.Segments.length + 1) (f := fun n i => M21 k kk n (i : Int)) (fun n i hi => ?_) (fun n => ?_)
  · show M21 k kk (n + 1) (i : Int) = _
    obtain ⟨row, h1, h2, h3⟩ := rows_get h hf hi
    rw [M21, w64_succ (by omega), dec_lt_nat, decide_eq_true hi, cond_true, h2, some_bind, fuel_sub, clocks_L4 hl hf h hi h1 h3, h3]
    show chk _ _ (M21 k kk n (w64 ((i : Int) + 1))) = _
    rw [w64_succ (by omega)]
  · show M21 k kk (n + 1) ((k.Segments.length + 1 : Nat) : Int) = _
    rw [M21, w64_succ (by omega)]
    simp
structure ClocksOK (k : TClocks) : Prop where
  few : k.Segments.length ≤ 511
  far : k.Far.length = k.Segments.length + 1
  seg : ∀ i, i < k.Segments.length → SegOK k.Segments i
  row : ∀ i, i < k.Far.length → RowOK k i
  tri : TriOK k
theorem clocksOK_iff (k : TClocks) : ClocksOK k ↔ k.Segments.length ≤ 511 ∧ k.Far.length = k.Segments.length + 1 ∧ (∀ i, i < k.Segments.length → SegOK k.Segments i) ∧ (∀ i, i < k.Far.length → RowOK k i) ∧ TriOK k :=
  ⟨fun ⟨a, b, c, d, e⟩ => ⟨a, b, c, d, e⟩, fun ⟨a, b, c, d, e⟩ => ⟨a, b, c, d, e⟩⟩
theorem chk_and' {β : Type} {p q : Prop} {r : β} {k k' : Option β} (h : p → k = chk q r k') : chk p r k = chk (p ∧ q) r k' := by
  rw [← chk_and]; exact chk_congr Iff.rfl h
theorem clocks_Check_eq {k : TClocks} (hw : k.Segments.length < 9223372036854775807) : M25 k = chk (ClocksOK k) 160 (some 0) := by
  unfold M25
  rw [bif_dec, bif_ne, fuel_sub, w64_succ (by omega), clocks_L1 (by omega)]
  have e : chk (ClocksOK k) (160 : Int) (some 0) = chk (k.Segments.length ≤ 511 ∧ k.Far.length = k.Segments.length + 1 ∧ (∀ i, i < k.Segments.length → SegOK k.Segments i) ∧ (∀ i, i < k.Far.length → RowOK k i) ∧ TriOK k) 160 (some 0) := chk_congr (clocksOK_iff k) fun _ => rfl
  rw [e]
  by_cases h1 : k.Segments.length ≤ 511
  · rw [if_neg (by omega)]
    by_cases h2 : k.Far.length = k.Segments.length + 1
    · rw [if_pos (by omega)]
      refine Eq.trans ?_ (chk_congr (p := (∀ i, i < k.Segments.length → SegOK k.Segments i) ∧ (∀ i, i < k.Far.length → RowOK k i) ∧ TriOK k) (by simp [h1, h2]) fun _ => rfl)
      refine chk_and' fun _ => ?_
      show M16 k (M23 k) _ 0 = _
      rw [fuel_sub, clocks_L2 h1 h2]
      refine chk_and' fun h3 => ?_
      show M21 k M22 _ 0 = _
      rw [w64_succ (by omega), fuel_sub, clocks_L3 h1 h2 h3]
      rfl
    · rw [if_neg (by omega), chk_neg (fun h => h2 h.2.1)]
  · rw [if_pos (by omega), chk_neg (fun h => h1 h.1)]
theorem ref16_L3 {k : TClocks} {kk : Unit → Option Int} (hl : k.Segments.length ≤ 511) {i : Nat} {row : List Int} (h1 : k.Far[i]? = some row) (h2 : idx k.Far (i : Int) = some row) (h3 : row.length = k.Segments.length + 1) :
    M131 k i kk (k.Segments.length + 1 + 1) 0 = chk (∀ j, j < k.Segments.length + 1 → Entry (at2 k.Far i j)) 160 (kk ()) := by
  refine chk_loop (N := k.Segments.length + 1) (f := fun n j => M131 k i kk n (j : Int)) (fun n j hj => ?_) (fun n => ?_)
  · show M131 k i kk (n + 1) (j : Int) = _
    rw [M131, dec_le_nat, decide_eq_true hj, cond_true, h2, some_bind, idx2 h1 (by omega), some_bind, some_bind, idx2 h1 (by omega), some_bind, w64_succ (by omega), bif_dec, bif_dec]
    unfold Entry
    by_cases h4 : at2 k.Far i j < -2199023255552
    · rw [if_pos h4, chk_neg (by omega)]
    · rw [if_neg h4]
      by_cases h5 : at2 k.Far i j > 2199023255552
      · rw [if_pos h5, chk_neg (by omega)]
      · rw [if_neg h5, chk_pos (by omega)]
  · show M131 k i kk (n + 1) ((k.Segments.length + 1 : Nat) : Int) = _
    rw [M131, dec_le_nat]
    simp
theorem ref16_L2 {k : TClocks} {kk : Unit → Option Int} (hl : k.Segments.length ≤ 511) (hf : k.Far.length = k.Segments.length + 1) :
    M133 k kk (k.Segments.length + 1 + 1) 0 = chk (∀ i, i < k.Far.length → RowOK k i) 160 (kk ()) := by
  rw [hf]
  refine chk_loop (N := k.Segments.length + 1) (f := fun n i => M133 k kk n (i : Int)) (fun n i hi => ?_) (fun n => ?_)
  · show M133 k kk (n + 1) (i : Int) = _
    have hi' : i < k.Far.length := by omega
    have hi2 : idx k.Far (i : Int) = some k.Far[i] := idx_lt hi'
    have hx : k.Far[i]? = some k.Far[i] := by simp [hi']
    rw [M133, dec_le_nat, decide_eq_true hi, cond_true, hi2, some_bind, some_bind, w64_succ (by omega), bif_ne]
    generalize k.Far[i] = row at hx hi2
    have hr : RowOK k i ↔ row.length = k.Segments.length + 1 ∧ at2 k.Far i i = 0 ∧ ∀ j, j < k.Segments.length + 1 → Entry (at2 k.Far i j) := by
      unfold RowOK; rw [hx]; rfl
    by_cases h1 : row.length = k.Segments.length + 1
    · rw [if_pos (by omega), idx2 hx (by omega), some_bind, bif_ne]
      by_cases h2 : at2 k.Far i i = 0
      · rw [if_pos h2, fuel_add, ref16_L3 hl hx hi2 h1]
        show chk _ _ (M133 k kk n (w64 ((i : Int) + 1))) = _
        rw [w64_succ (by omega)]
        exact chk_congr ⟨fun h => hr.2 ⟨h1, h2, h⟩, fun h => (hr.1 h).2.2⟩ fun _ => rfl
      · rw [if_neg h2, chk_neg (fun h => h2 (hr.1 h).2.1)]
    · rw [if_neg (by omega), chk_neg (fun h => h1 (hr.1 h).1)]
  · show M133 k kk (n + 1) ((k.Segments.length + 1 : Nat) : Int) = _
    rw [M133, dec_le_nat]
    simp
theorem ref16_L7 {k : TClocks} {kk : Unit → Option Int} (hl : k.Segments.length ≤ 511) (hf : k.Far.length = k.Segments.length + 1) (h : ∀ i, i < k.Far.length → RowOK k i) {i j : Nat} (hi : i < k.Segments.length + 1) (hj : j < k.Segments.length + 1) :
    M134 k i j kk (k.Segments.length + 1 + 1) 0 = chk (∀ m, m < k.Segments.length + 1 → ¬at2 k.Far i m > w64 (at2 k.Far i j + at2 k.Far j m)) 160 (kk ()) := by
  refine chk_loop (N := k.Segments.length + 1) (f := fun n m => M134 k i j kk n (m : Int)) (fun n m hm => ?_) (fun n => ?_)
  · show M134 k i j kk (n + 1) (m : Int) = _
    obtain ⟨row, h1, h2, h3⟩ := rows_get h hf hi
    obtain ⟨row', h1', h2', h3'⟩ := rows_get h hf hj
    rw [M134, dec_le_nat, decide_eq_true hm, cond_true, h2, some_bind, idx2 h1 (by omega), some_bind, some_bind, idx2 h1 (by omega), some_bind, h2', some_bind, idx2 h1' (by omega), some_bind, w64_succ (by omega), bif_dec]
    by_cases h4 : at2 k.Far i m > w64 (at2 k.Far i j + at2 k.Far j m)
    · rw [if_pos h4, chk_neg (fun h => h h4)]
    · rw [if_neg h4, chk_pos h4]
  · show M134 k i j kk (n + 1) ((k.Segments.length + 1 : Nat) : Int) = _
    rw [M134, dec_le_nat]
    simp
theorem ref16_L6 {k : TClocks} {kk : Unit → Option Int} (hl : k.Segments.length ≤ 511) (hf : k.Far.length = k.Segments.length + 1) (h : ∀ i, i < k.Far.length → RowOK k i) {i : Nat} (hi : i < k.Segments.length + 1) :
    M136 k i kk (k.Segments.length + 1 + 1) 0 = chk (∀ j, j < k.Segments.length + 1 → ∀ m, m < k.Segments.length + 1 → ¬at2 k.Far i m > w64 (at2 k.Far i j + at2 k.Far j m)) 160 (kk ()) := by
  refine chk_loop (N := k.Segments.length + 1) (f := fun n j => M136 k i kk n (j : Int)) (fun n j hj => ?_) (fun n => ?_)
  · show M136 k i kk (n + 1) (j : Int) = _
    rw [M136, dec_le_nat, decide_eq_true hj, cond_true, fuel_add, ref16_L7 hl hf h hi hj]
    show chk _ _ (M136 k i kk n (w64 ((j : Int) + 1))) = _
    rw [w64_succ (by omega)]
  · show M136 k i kk (n + 1) ((k.Segments.length + 1 : Nat) : Int) = _
    rw [M136, dec_le_nat]
    simp
theorem ref16_L5 {k : TClocks} {kk : Unit → Option Int} (hl : k.Segments.length ≤ 511) (hf : k.Far.length = k.Segments.length + 1) (h : ∀ i, i < k.Far.length → RowOK k i) :
    M138 k kk (k.Segments.length + 1 + 1) 0 = chk (TriOK k) 160 (kk ()) := by
  refine chk_loop (N := k.Segments.length + 1) (f := fun n i => M138 k kk n (i : Int)) (fun n i hi => ?_) (fun n => ?_)
  · show M138 k kk (n + 1) (i : Int) = _
    rw [M138, dec_le_nat, decide_eq_true hi, cond_true, fuel_add, ref16_L6 hl hf h hi]
    show chk _ _ (M138 k kk n (w64 ((i : Int) + 1))) = _
    rw [w64_succ (by omega)]
  · show M138 k kk (n + 1) ((k.Segments.length + 1 : Nat) : Int) = _
    rw [M138, dec_le_nat]
    simp
theorem ref16_Check_eq {k : TClocks} (hw : k.Segments.length < 9223372036854775807) : M142 k = chk (ClocksOK k) 160 (some 0) := by
  unfold M142
  rw [bif_dec, bif_ne, fuel_sub, w64_succ (by omega), ref16_L1 (by omega)]
  have e : chk (ClocksOK k) (160 : Int) (some 0) = chk (k.Segments.length ≤ 511 ∧ k.Far.length = k.Segments.length + 1 ∧ (∀ i, i < k.Segments.length → SegOK k.Segments i) ∧ (∀ i, i < k.Far.length → RowOK k i) ∧ TriOK k) 160 (some 0) := chk_congr (clocksOK_iff k) fun _ => rfl
  rw [e]
  by_cases h1 : k.Segments.length ≤ 511
  · rw [if_neg (by omega)]
    by_cases h2 : k.Far.length = k.Segments.length + 1
    · rw [if_pos (by omega)]
      refine Eq.trans ?_ (chk_congr (p := (∀ i, i < k.Segments.length → SegOK k.Segments i) ∧ (∀ i, i < k.Far.length → RowOK k i) ∧ TriOK k) (by simp [h1, h2]) fun _ => rfl)
      refine chk_and' fun _ => ?_
      show M133 k (M140 k) _ 0 = _
      rw [fuel_add, ref16_L2 h1 h2]
      refine chk_and' fun h3 => ?_
      show M138 k M139 _ 0 = _
      rw [fuel_add, ref16_L5 h1 h2 h3]
      rfl
    · rw [if_neg (by omega), chk_neg (fun h => h2 h.2.1)]
  · rw [if_pos (by omega), chk_neg (fun h => h1 h.1)]
def OutOK (k : TClocks) (x : TOutcome) : Prop :=
  (x.Out = true → x.Seg = -1 ∧ x.Lo = 0 ∧ x.Hi = 0) ∧ (x.Out = false → -1 ≤ x.Seg ∧ x.Seg < k.Segments.length ∧ -288230376151711744 ≤ x.Lo ∧ x.Lo ≤ x.Hi ∧ x.Hi ≤ 288230376151711744)
theorem outcome_Check_eq {k : TClocks} {x : TOutcome} (hw : k.Segments.length < 9223372036854775807) : M31 k x = chk (ClocksOK k) 160 (chk (OutOK k x) 230 (some 0)) := by
  unfold M31
  rw [clocks_Check_eq hw]
  by_cases hk : ClocksOK k
  · rw [chk_pos hk, chk_pos hk, some_bind]
    simp only [bne_self_eq_false, cond_false]
    cases ho : x.Out with
    | true =>
      unfold OutOK M30
      rw [some_bind, ho]
      by_cases h : x.Seg = -1 ∧ x.Lo = 0 ∧ x.Hi = 0
      · obtain ⟨h1, h2, h3⟩ := h
        rw [chk_pos (by simp [h1, h2, h3])]
        simp [h1, h2, h3]
      · rw [chk_neg (by simpa using h)]
        rw [cond_true]
        have e : ((true == true) && ((x.Seg == -1) && ((x.Lo == 0) && ((x.Hi == 0) && true)))) = false := by
          rw [← Bool.not_eq_true]
          intro h'
          simp at h'
          exact h h'
        rw [e]
        rfl
    | false =>
      unfold OutOK
      rw [ho]
      by_cases h : -1 ≤ x.Seg ∧ x.Seg < k.Segments.length ∧ -288230376151711744 ≤ x.Lo ∧ x.Lo ≤ x.Hi ∧ x.Hi ≤ 288230376151711744
      · rw [chk_pos (by simpa using h)]
        obtain ⟨h1, h2, h3, h4, h5⟩ := h
        simp [h1, h2, h3, h4, h5]
      · rw [chk_neg (by simpa using h)]
        rw [cond_false]
        have e : ((decide (x.Seg ≥ -1)) && ((decide (x.Seg < (k.Segments.length : Int))) && ((decide (x.Lo ≥ -288230376151711744)) && ((decide (x.Lo ≤ x.Hi)) && (decide (x.Hi ≤ 288230376151711744)))))) = false := by
          rw [← Bool.not_eq_true]
          intro h'
          simp at h'
          exact h h'
        rw [e]
        rfl
  · rw [chk_neg hk, chk_neg hk, some_bind]
    rfl
theorem ref23_Check_eq {k : TClocks} {x : TOutcome} (hw : k.Segments.length < 9223372036854775807) : M145 k x = chk (ClocksOK k) 160 (chk (OutOK k x) 230 (some 0)) := by
  unfold M145
  rw [ref16_Check_eq hw]
  by_cases hk : ClocksOK k
  · rw [chk_pos hk, chk_pos hk, some_bind]
    simp only [bne_self_eq_false, cond_false]
    cases ho : x.Out with
    | true =>
      unfold OutOK
      rw [ho, cond_true]
      by_cases h : x.Seg = -1 ∧ x.Lo = 0 ∧ x.Hi = 0
      · obtain ⟨h1, h2, h3⟩ := h
        rw [chk_pos (by simp [h1, h2, h3])]
        simp [h1, h2, h3]
      · rw [chk_neg (by simpa using h)]
        have e : ((x.Seg != -1) || ((x.Lo != 0) || (x.Hi != 0))) = true := by
          simp only [Bool.or_eq_true, bne_iff_ne]; omega
        rw [e]
        rfl
    | false =>
      unfold OutOK
      rw [ho, cond_false]
      by_cases h : -1 ≤ x.Seg ∧ x.Seg < k.Segments.length ∧ -288230376151711744 ≤ x.Lo ∧ x.Lo ≤ x.Hi ∧ x.Hi ≤ 288230376151711744
      · rw [chk_pos (by simpa using h)]
        have e : ((decide (x.Seg < -1)) || ((decide (x.Seg ≥ (k.Segments.length : Int))) || ((decide (x.Lo < -288230376151711744)) || ((decide (x.Lo > x.Hi)) || (decide (x.Hi > 288230376151711744)))))) = false := by
          rw [← Bool.not_eq_true]
          simp only [Bool.or_eq_true, decide_eq_true_eq]; omega
        rw [e]
        rfl
      · rw [chk_neg (by simpa using h)]
        have e : ((decide (x.Seg < -1)) || ((decide (x.Seg ≥ (k.Segments.length : Int))) || ((decide (x.Lo < -288230376151711744)) || ((decide (x.Lo > x.Hi)) || (decide (x.Hi > 288230376151711744)))))) = true := by
          simp only [Bool.or_eq_true, decide_eq_true_eq]; omega
        rw [e]
        rfl
  · rw [chk_neg hk, chk_neg hk, some_bind]
    rfl
theorem app_ok {α : Type} {b : Nat} {l r : List α} (h : (l.length + r.length) * b ≤ 140737488355328) (h' : l.length + r.length < 9223372036854775808) : app b l r = some (l ++ r) := by
  unfold app; rw [if_pos ⟨h, h'⟩]
theorem flat_succ {α : Type} {ws : List (List α)} {i : Nat} (hi : i < ws.length) : (ws.take (i + 1)).flatten = (ws.take i).flatten ++ ws[i] := by
  rw [List.take_succ_eq_append_getElem hi, List.flatten_append]; simp
theorem concat_eq {ws : List (List TOutcome)} (h1 : ws.length ≤ 1000) (h2 : ∀ w, w ∈ ws → w.length ≤ 1000) : M29 ws = some ws.flatten := by
  have hw : ∀ i (hi : i < ws.length), ws[i].length ≤ 1000 := fun i hi => h2 _ (List.getElem_mem hi)
  unfold M29
  simp only [fuel_sub]
  obtain ⟨r, hr, hr0, hr1⟩ := run_inv (N := ws.length) (f := fun n i s => M26 ws n s (i : Int)) (I := fun i s => 0 ≤ s ∧ s ≤ 1000 * (i : Int)) (s0 := 0) (fun n i s hi hI => by
    refine ⟨s + ws[i].length, ?_, ?_⟩
    · have := hw i hi; omega
    · show M26 ws (n + 1) s (i : Int) = M26 ws n (s + ws[i].length) ((i + 1 : Nat) : Int)
      have := hw i hi
      rw [M26, dec_lt_nat, decide_eq_true hi, cond_true, idx_lt hi, some_bind, w64_of (by omega) (by omega), bif_dec, if_neg (by omega), w64_succ (by omega)]) (fun n s => by
    show M26 ws (n + 1) s ((ws.length : Nat) : Int) = _
    rw [M26]; simp) ⟨by omega, by omega⟩
  replace hr : M26 ws (ws.length + 1) 0 0 = some r := hr
  rw [hr, some_bind, bif_dec, if_neg (by omega), w64_of (by omega) (by omega), bif_dec]
  have hI : ∀ i (hi : i < ws.length), ((ws.take i).flatten.length ≤ 1000 * i) → ((ws.take (i + 1)).flatten.length ≤ 1000 * (i + 1)) := fun i hi h => by
    rw [flat_succ hi, List.length_append]; have := hw i hi; omega
  split
  · have e : mkZ 32 (r - 0) = some r.toNat := by
      unfold mkZ; rw [if_pos (by omega)]; simp
    rw [e, some_bind]
    have e2 : ∀ (l : List TOutcome), slcTo l 0 = some [] := fun l => by unfold slcTo; simp
    rw [e2, some_bind]
    obtain ⟨l, hl, rfl, _⟩ := run_inv (N := ws.length) (f := fun n i s => M27 ws n (i : Int) s) (I := fun i s => s = (ws.take i).flatten ∧ s.length ≤ 1000 * i) (s0 := []) (fun n i s hi hI' => by
      obtain ⟨rfl, hlen⟩ := hI'
      refine ⟨_, ⟨rfl, hI i hi hlen⟩, ?_⟩
      show M27 ws (n + 1) (i : Int) _ = M27 ws n ((i + 1 : Nat) : Int) _
      have := hw i hi
      rw [M27, dec_lt_nat, decide_eq_true hi, cond_true, idx_lt hi, some_bind, app_ok (by omega) (by omega), some_bind, w64_succ (by omega), flat_succ hi]) (fun n s => by
      show M27 ws (n + 1) ((ws.length : Nat) : Int) s = _
      rw [M27]; simp) ⟨rfl, by simp⟩
    replace hl : M27 ws (ws.length + 1) 0 [] = some (ws.take ws.length).flatten := hl
    rw [hl, some_bind, List.take_length]
  · obtain ⟨l, hl, rfl, _⟩ := run_inv (N := ws.length) (f := fun n i s => M28 ws n (i : Int) s) (I := fun i s => s = (ws.take i).flatten ∧ s.length ≤ 1000 * i) (s0 := []) (fun n i s hi hI' => by
      obtain ⟨rfl, hlen⟩ := hI'
      refine ⟨_, ⟨rfl, hI i hi hlen⟩, ?_⟩
      show M28 ws (n + 1) (i : Int) _ = M28 ws n ((i + 1 : Nat) : Int) _
      have := hw i hi
      rw [M28, dec_lt_nat, decide_eq_true hi, cond_true, idx_lt hi, some_bind, app_ok (by omega) (by omega), some_bind, w64_succ (by omega), flat_succ hi]) (fun n s => by
      show M28 ws (n + 1) ((ws.length : Nat) : Int) s = _
      rw [M28]; simp) ⟨rfl, by simp⟩
    replace hl : M28 ws (ws.length + 1) 0 [] = some (ws.take ws.length).flatten := hl
    rw [hl, some_bind, List.take_length]
structure Small (f : TField) : Prop where
  seg : f.Clocks.Segments.length ≤ 1000
  pairs : f.Pairs.length ≤ 1000
  runners : f.Runners.length ≤ 1000000
  worlds : ∀ r, r ∈ f.Runners → r.Keys.length ≤ 1000 ∧ r.Worlds.length ≤ 1000 ∧ ∀ w, w ∈ r.Worlds → w.length ≤ 1000
def PairLt (q p : TPair) : Prop := q.A < p.A ∨ q.A = p.A ∧ q.B < p.B
def PairOK (l : List TPair) (i : Nat) : Prop := ∀ p, l[i]? = some p → 1 ≤ p.A ∧ p.A < p.B ∧ p.B ≤ 9999 ∧ (0 < i → ∀ q, l[i - 1]? = some q → PairLt q p)
def lastP (l : List TPair) (i : Nat) : TPair := if i = 0 then ⟨0, 0⟩ else (l[i - 1]?).getD ⟨0, 0⟩
theorem field_L1 {f : TField} {kk : Unit → Option Int} (hl : f.Pairs.length ≤ 1000) : M40 f kk (f.Pairs.length + 1) 0 0 0 = chk (∀ i, i < f.Pairs.length → PairOK f.Pairs i) 240 (kk ()) := by
  refine chk_loop (f := fun n i => M40 f kk n (i : Int) (lastP f.Pairs i).A (lastP f.Pairs i).B) (fun n i hi => ?_) (fun n => ?_)
  · show M40 f kk (n + 1) (i : Int) _ _ = _
    rw [M40, dec_lt_nat, decide_eq_true hi, cond_true, idx_lt hi, some_bind, w64_succ (by omega)]
    have hx : f.Pairs[i]? = some f.Pairs[i] := by simp [hi]
    have hnext : lastP f.Pairs (i + 1) = f.Pairs[i] := by unfold lastP; simp [hi]
    rw [hnext]
    generalize f.Pairs[i] = p at hx
    have hok : PairOK f.Pairs i ↔ 1 ≤ p.A ∧ p.A < p.B ∧ p.B ≤ 9999 ∧ (0 < i → ∀ q, f.Pairs[i - 1]? = some q → PairLt q p) := by
      unfold PairOK; rw [hx]; simp
    have hlast : 1 ≤ p.A → ((0 < i → ∀ q, f.Pairs[i - 1]? = some q → PairLt q p) ↔ ¬(p.A < (lastP f.Pairs i).A ∨ p.A = (lastP f.Pairs i).A ∧ p.B ≤ (lastP f.Pairs i).B)) := by
      intro hA
      unfold lastP PairLt
      by_cases h0 : i = 0
      · subst h0; simp; omega
      · have h8 : i - 1 < f.Pairs.length := by omega
        rw [if_neg h0, List.getElem?_eq_getElem h8]
        simp only [Option.getD_some, Option.some.injEq, forall_eq']
        constructor
        · intro h; have := h (by omega); omega
        · intro h _; omega
    by_cases hOK : PairOK f.Pairs i
    · rw [chk_pos hOK]
      obtain ⟨h1, h2, h3, h4⟩ := hok.1 hOK
      have h5 := (hlast h1).1 h4
      rw [Bool.cond_eq_ite, if_neg]
      simp only [Bool.or_eq_true, Bool.and_eq_true, decide_eq_true_eq, beq_iff_eq]
      omega
    · rw [chk_neg hOK, Bool.cond_eq_ite, if_pos]
      simp only [Bool.or_eq_true, Bool.and_eq_true, decide_eq_true_eq, beq_iff_eq]
      by_cases h1 : 1 ≤ p.A
      · have h5 := hlast h1
        refine Classical.byContradiction fun h6 => hOK (hok.2 ⟨h1, by omega, by omega, h5.2 (by omega)⟩)
      · left; omega
  · show M40 f kk (n + 1) ((f.Pairs.length : Nat) : Int) _ _ = _
    rw [M40]
    simp
theorem ref24_L1 {f : TField} {kk : Unit → Option Int} (hl : f.Pairs.length ≤ 1000) : M152 f kk (f.Pairs.length + 1) 0 = chk (∀ i, i < f.Pairs.length → PairOK f.Pairs i) 240 (kk ()) := by
  refine chk_loop (f := fun n i => M152 f kk n (i : Int)) (fun n i hi => ?_) (fun n => ?_)
  · show M152 f kk (n + 1) (i : Int) = _
    rw [M152, dec_lt_nat, decide_eq_true hi, cond_true, idx_lt hi, some_bind, w64_succ (by omega)]
    have hx : f.Pairs[i]? = some f.Pairs[i] := by simp [hi]
    generalize f.Pairs[i] = p at hx
    have hok : PairOK f.Pairs i ↔ 1 ≤ p.A ∧ p.A < p.B ∧ p.B ≤ 9999 ∧ (0 < i → ∀ q, f.Pairs[i - 1]? = some q → PairLt q p) := by
      unfold PairOK; rw [hx]; simp
    rw [bif_dec, bif_dec, bif_dec]
    by_cases h1 : p.A < 1
    · rw [if_pos h1, chk_neg (fun h => by have := hok.1 h; omega)]
    rw [if_neg h1]
    by_cases h2 : p.A ≥ p.B
    · rw [if_pos h2, chk_neg (fun h => by have := hok.1 h; omega)]
    rw [if_neg h2]
    by_cases h3 : p.B > 9999
    · rw [if_pos h3, chk_neg (fun h => by have := hok.1 h; omega)]
    rw [if_neg h3]
    refine bind_chk ?_
    rw [hok, bif_dec]
    by_cases h6 : (i : Int) > 0
    · have h7 : 0 < i := by omega
      have h8 : i - 1 < f.Pairs.length := by omega
      rw [if_pos h6, pred_nat h7 (by omega), idx_lt h8, List.getElem?_eq_getElem h8]
      simp only [some_bind, bif_dec, bif_eq, Option.some.injEq, forall_eq']
      generalize f.Pairs[i - 1] = q
      unfold PairLt
      by_cases h9 : q.A > p.A
      · rw [if_pos h9]; exact ⟨true, rfl, by simp; omega⟩
      · rw [if_neg h9]
        by_cases h10 : q.A = p.A
        · rw [if_pos h10]; refine ⟨_, rfl, ?_⟩
          rw [decide_eq_true_iff]; omega
        · rw [if_neg h10]; refine ⟨false, rfl, ?_⟩
          simp; omega
    · rw [if_neg h6]
      refine ⟨false, rfl, ?_⟩
      simp only [Bool.false_eq_true, false_iff, Classical.not_not]
      exact ⟨by omega, by omega, by omega, fun h => by omega⟩
  · show M152 f kk (n + 1) ((f.Pairs.length : Nat) : Int) = _
    rw [M152]
    simp
theorem all_get {α : Type} {l : List α} {p : α → Prop} : (∀ j, j < l.length → ∀ o, l[j]? = some o → p o) ↔ ∀ o, o ∈ l → p o := by
  constructor
  · intro h o ho
    obtain ⟨j, hj, rfl⟩ := List.mem_iff_getElem.1 ho
    exact h j hj _ (by simp [hj])
  · intro h j hj o ho
    exact h o (List.mem_of_getElem? ho)
theorem field_L3 {f : TField} {kk : Unit → Option Int} (hk : ClocksOK f.Clocks) {l : List TOutcome} (hl : l.length < 9223372036854775807) : M41 f l kk (l.length + 1) 0 = chk (∀ o, o ∈ l → OutOK f.Clocks o) 240 (kk ()) := by
  refine (chk_loop (ok := fun j => ∀ o, l[j]? = some o → OutOK f.Clocks o) (k := kk ()) (r := 240) (f := fun n i => M41 f l kk n (i : Int)) (fun n i hi => ?_) (fun n => ?_)).trans (chk_congr all_get fun _ => rfl)
  · show M41 f l kk (n + 1) (i : Int) = _
    have hw : f.Clocks.Segments.length < 9223372036854775807 := by have := hk.few; omega
    rw [M41, dec_lt_nat, decide_eq_true hi, cond_true, idx_lt hi, some_bind, w64_succ (by omega), outcome_Check_eq hw, chk_pos hk]
    have hx : l[i]? = some l[i] := by simp [hi]
    rw [hx]
    by_cases h : OutOK f.Clocks l[i]
    · rw [chk_pos h, some_bind, chk_pos (by simpa using h)]; rfl
    · rw [chk_neg h, some_bind, chk_neg (by simpa using h)]; rfl
  · show M41 f l kk (n + 1) ((l.length : Nat) : Int) = _
    rw [M41]
    simp
theorem ref24_L4 {f : TField} {kk : Unit → Option Int} (hk : ClocksOK f.Clocks) {x : TRunner} {i : Nat} {l : List TOutcome} (hx : idx x.Worlds (i : Int) = some l) (hl : l.length < 9223372036854775807) : M153 f x i kk (l.length + 1) 0 = chk (∀ o, o ∈ l → OutOK f.Clocks o) 240 (kk ()) := by
  refine (chk_loop (ok := fun j => ∀ o, l[j]? = some o → OutOK f.Clocks o) (k := kk ()) (r := 240) (f := fun n j => M153 f x i kk n (j : Int)) (fun n j hj => ?_) (fun n => ?_)).trans (chk_congr all_get fun _ => rfl)
  · show M153 f x i kk (n + 1) (j : Int) = _
    have hw : f.Clocks.Segments.length < 9223372036854775807 := by have := hk.few; omega
    rw [M153, hx, some_bind, dec_lt_nat, decide_eq_true hj, cond_true, some_bind, idx_lt hj, some_bind, w64_succ (by omega), ref23_Check_eq hw, chk_pos hk]
    have hx : l[j]? = some l[j] := by simp [hj]
    rw [hx]
    by_cases h : OutOK f.Clocks l[j]
    · rw [chk_pos h, some_bind, chk_pos (by simpa using h)]; rfl
    · rw [chk_neg h, some_bind, chk_neg (by simpa using h)]; rfl
  · show M153 f x i kk (n + 1) ((l.length : Nat) : Int) = _
    rw [M153, hx, some_bind]
    simp
theorem ref24_L3 {f : TField} {kk : Unit → Option Int} (hk : ClocksOK f.Clocks) {x : TRunner} (h1 : x.Worlds.length ≤ 1000) (h2 : ∀ w, w ∈ x.Worlds → w.length ≤ 1000) : M155 f x kk (x.Worlds.length + 1) 0 = chk (∀ w, w ∈ x.Worlds → ∀ o, o ∈ w → OutOK f.Clocks o) 240 (kk ()) := by
  refine (chk_loop (ok := fun j => ∀ w, x.Worlds[j]? = some w → ∀ o, o ∈ w → OutOK f.Clocks o) (k := kk ()) (r := 240) (f := fun n j => M155 f x kk n (j : Int)) (fun n j hj => ?_) (fun n => ?_)).trans (chk_congr all_get fun _ => rfl)
  · show M155 f x kk (n + 1) (j : Int) = _
    have hx : x.Worlds[j]? = some x.Worlds[j] := by simp [hj]
    have hb := h2 _ (List.getElem_mem hj)
    rw [M155, dec_lt_nat, decide_eq_true hj, cond_true, idx_lt hj, Option.getD_some, fuel_sub, ref24_L4 hk (idx_lt hj) (by omega)]
    show chk _ _ (M155 f x kk n (w64 ((j : Int) + 1))) = _
    rw [w64_succ (by omega)]
    exact chk_congr (by rw [hx]; simp) fun _ => rfl
  · show M155 f x kk (n + 1) ((x.Worlds.length : Nat) : Int) = _
    rw [M155]
    simp
def RunnerOK (f : TField) (i : Nat) : Prop := ∀ r, f.Runners[i]? = some r → (1 ≤ r.Bib ∧ r.Bib ≤ 9999 ∧ (0 < i → ∀ q, f.Runners[i - 1]? = some q → q.Bib < r.Bib) ∧ (∀ z, f.Runners[0]? = some z → r.Keys.length = z.Keys.length) ∧ r.Worlds.length = f.Pairs.length + 1) ∧ ∀ w, w ∈ r.Worlds → ∀ o, o ∈ w → OutOK f.Clocks o
def lastB (f : TField) (i : Nat) : Int := if i = 0 then 0 else ((f.Runners[i - 1]?).map (·.Bib)).getD 0
theorem field_L2 {f : TField} {kk : Unit → Option Int} (hk : ClocksOK f.Clocks) (hs : Small f) : M43 f kk (f.Runners.length + 1) 0 0 = chk (∀ i, i < f.Runners.length → RunnerOK f i) 240 (kk ()) := by
  refine chk_loop' (f := fun n i => M43 f kk n (lastB f i) (i : Int)) (fun n i hi hp => ?_) (fun n _ => ?_)
  · show M43 f kk (n + 1) (lastB f i) (i : Int) = _
    have hsr := hs.runners
    have hsp := hs.pairs
    have h0 : 0 < f.Runners.length := by omega
    rw [M43, dec_lt_nat, decide_eq_true hi, cond_true, idx_lt hi, some_bind, w64_succ (by omega)]
    have hx : f.Runners[i]? = some f.Runners[i] := by simp [hi]
    have hz : idx f.Runners 0 = some f.Runners[0] := idx_lt (i := 0) h0
    have hz' : f.Runners[0]? = some f.Runners[0] := by simp [h0]
    rw [hz]
    have hnext : lastB f (i + 1) = f.Runners[i].Bib := by unfold lastB; simp [hi]
    obtain ⟨hw0, hw1, hw2⟩ := hs.worlds _ (List.getElem_mem hi)
    rw [hnext]
    generalize f.Runners[0] = z at hz'
    generalize f.Runners[i] = r at hx hw0 hw1 hw2
    have hok : RunnerOK f i ↔ (1 ≤ r.Bib ∧ r.Bib ≤ 9999 ∧ (0 < i → ∀ q, f.Runners[i - 1]? = some q → q.Bib < r.Bib) ∧ r.Keys.length = z.Keys.length ∧ r.Worlds.length = f.Pairs.length + 1) ∧ ∀ w, w ∈ r.Worlds → ∀ o, o ∈ w → OutOK f.Clocks o := by
      unfold RunnerOK; rw [hx, hz']; simp
    have hlast : lastB f i < r.Bib ↔ 1 ≤ r.Bib ∧ (0 < i → ∀ q, f.Runners[i - 1]? = some q → q.Bib < r.Bib) := by
      unfold lastB
      by_cases h0 : i = 0
      · subst h0; simp; omega
      · have h8 : i - 1 < f.Runners.length := by omega
        have := hp (i - 1) (by omega)
        unfold RunnerOK at this
        rw [List.getElem?_eq_getElem h8] at this
        have h9 := (this _ rfl).1.1
        rw [if_neg h0, List.getElem?_eq_getElem h8]
        simp only [Option.map_some, Option.getD_some, Option.some.injEq, forall_eq']
        constructor
        · intro h; exact ⟨by omega, fun _ => h⟩
        · intro h; exact h.2 (by omega)
    have hfin : (lastB f i < r.Bib ∧ r.Bib ≤ 9999 ∧ r.Keys.length = z.Keys.length ∧ r.Worlds.length = f.Pairs.length + 1) ∧ (∀ w, w ∈ r.Worlds → ∀ o, o ∈ w → OutOK f.Clocks o) ↔ RunnerOK f i := by
      rw [hok, hlast]
      constructor
      · rintro ⟨⟨⟨a, b⟩, c, d, e⟩, g⟩; exact ⟨⟨a, c, b, d, e⟩, g⟩
      · rintro ⟨⟨a, c, b, d, e⟩, g⟩; exact ⟨⟨⟨a, b⟩, c, d, e⟩, g⟩
    refine Eq.trans (bind_chk (p := lastB f i < r.Bib ∧ r.Bib ≤ 9999 ∧ r.Keys.length = z.Keys.length ∧ r.Worlds.length = f.Pairs.length + 1) ?_) (Eq.trans (chk_and' fun h => ?_) (chk_congr hfin fun _ => rfl))
    · rw [bif_dec, bif_dec, some_bind, bif_ne]
      by_cases h1 : r.Bib ≤ lastB f i
      · rw [if_pos h1]; exact ⟨true, rfl, by simp; omega⟩
      rw [if_neg h1]
      by_cases h2 : r.Bib > 9999
      · rw [if_pos h2]; exact ⟨true, rfl, by simp; omega⟩
      rw [if_neg h2]
      by_cases h3 : r.Keys.length = z.Keys.length
      · rw [if_pos (by omega)]
        refine ⟨_, rfl, ?_⟩
        rw [bne_iff_ne]
        omega
      · rw [if_neg (by omega)]; exact ⟨true, rfl, by simp [h3]⟩
    · rw [concat_eq hw1 hw2, some_bind, fuel_sub, field_L3 hk (by
        have : ∀ (ws : List (List TOutcome)), (∀ w, w ∈ ws → w.length ≤ 1000) → ws.flatten.length ≤ 1000 * ws.length := by
          intro ws
          induction ws with
          | nil => intro _; simp
          | cons a t ih =>
            intro h
            have h1 := ih (fun w hw => h w (by simp [hw]))
            have h2 := h a (by simp)
            simp only [List.flatten_cons, List.length_append, List.length_cons]
            omega
        have := this r.Worlds hw2
        omega)]
      refine chk_congr ?_ fun _ => ?_
      · simp only [List.mem_flatten]
        exact ⟨fun h w hw o ho => h o ⟨w, hw, ho⟩, fun h o ⟨w, hw, ho⟩ => h w hw o ho⟩
      · show M43 f kk n r.Bib (w64 ((i : Int) + 1)) = _
        rw [w64_succ (by omega)]
  · show M43 f kk (n + 1) _ ((f.Runners.length : Nat) : Int) = _
    rw [M43]
    simp
theorem bib_eq (n : Int) : M144 n = some (decide (1 ≤ n ∧ n ≤ 9999)) := by
  unfold M144 M143
  rw [bif_dec]
  by_cases h : 1 ≤ n
  · rw [if_pos (by omega)]; simp [h]
  · rw [if_neg (by omega)]; simp [h]
theorem ref24_L2 {f : TField} {kk : Unit → Option Int} (hk : ClocksOK f.Clocks) (hs : Small f) : M157 f kk (f.Runners.length + 1) 0 = chk (∀ i, i < f.Runners.length → RunnerOK f i) 240 (kk ()) := by
  refine chk_loop (f := fun n i => M157 f kk n (i : Int)) (fun n i hi => ?_) (fun n => ?_)
  · show M157 f kk (n + 1) (i : Int) = _
    have hsr := hs.runners
    have hsp := hs.pairs
    have h0 : 0 < f.Runners.length := by omega
    rw [M157, dec_lt_nat, decide_eq_true hi, cond_true, idx_lt hi, some_bind]
    have hx : f.Runners[i]? = some f.Runners[i] := by simp [hi]
    have hz : idx f.Runners 0 = some f.Runners[0] := idx_lt (i := 0) h0
    have hz' : f.Runners[0]? = some f.Runners[0] := by simp [h0]
    rw [hz]
    obtain ⟨hw0, hw1, hw2⟩ := hs.worlds _ (List.getElem_mem hi)
    generalize f.Runners[0] = z at hz'
    generalize f.Runners[i] = r at hx hw0 hw1 hw2
    have hok : ((1 ≤ r.Bib ∧ r.Bib ≤ 9999 ∧ (0 < i → ∀ q, f.Runners[i - 1]? = some q → q.Bib < r.Bib) ∧ r.Keys.length = z.Keys.length ∧ r.Worlds.length = f.Pairs.length + 1) ∧ ∀ w, w ∈ r.Worlds → ∀ o, o ∈ w → OutOK f.Clocks o) ↔ RunnerOK f i := by
      unfold RunnerOK; rw [hx, hz']; simp
    refine Eq.trans (bind_chk (p := 1 ≤ r.Bib ∧ r.Bib ≤ 9999 ∧ (0 < i → ∀ q, f.Runners[i - 1]? = some q → q.Bib < r.Bib) ∧ r.Keys.length = z.Keys.length ∧ r.Worlds.length = f.Pairs.length + 1) ?_) (Eq.trans (chk_and' fun h => ?_) (chk_congr hok fun _ => rfl))
    · rw [bib_eq, some_bind, bif_dec]
      by_cases h1 : 1 ≤ r.Bib ∧ r.Bib ≤ 9999
      · rw [decide_eq_true h1, Bool.not_true, cond_false]
        by_cases h6 : (i : Int) > 0
        · have h7 : 0 < i := by omega
          have h8 : i - 1 < f.Runners.length := by omega
          rw [if_pos h6, pred_nat h7 (by omega), idx_lt h8, List.getElem?_eq_getElem h8]
          simp only [some_bind, bif_dec, bif_ne, Option.some.injEq, forall_eq']
          generalize f.Runners[i - 1] = q
          by_cases h9 : q.Bib ≥ r.Bib
          · rw [if_pos h9]; exact ⟨true, rfl, by simp; omega⟩
          · rw [if_neg h9]
            by_cases h10 : r.Keys.length = z.Keys.length
            · rw [if_pos (by omega)]; refine ⟨_, rfl, ?_⟩
              rw [w64_succ (by omega), bne_iff_ne]; omega
            · rw [if_neg (by omega)]; exact ⟨true, rfl, by simp [h10]⟩
        · rw [if_neg h6, some_bind, bif_ne]
          have h7 : ¬0 < i := by omega
          by_cases h10 : r.Keys.length = z.Keys.length
          · rw [if_pos (by omega)]; refine ⟨_, rfl, ?_⟩
            rw [w64_succ (by omega), bne_iff_ne]; omega
          · rw [if_neg (by omega)]; exact ⟨true, rfl, by simp [h10]⟩
      · rw [decide_eq_false h1, Bool.not_false, cond_true]
        exact ⟨true, rfl, by simp; omega⟩
    · rw [fuel_sub, ref24_L3 hk hw1 hw2]
      show chk _ _ (M157 f kk n (w64 ((i : Int) + 1))) = _
      rw [w64_succ (by omega)]
  · show M157 f kk (n + 1) ((f.Runners.length : Nat) : Int) = _
    rw [M157]
    simp
def wl (l : List TRunner) (i w : Nat) : List TOutcome := ((l[i]?).bind fun r => r.Worlds[w]?).getD []
theorem wl_get {l : List TRunner} {i w : Nat} (hi : i < l.length) (hw : w < l[i].Worlds.length) : idx l[i].Worlds (w : Int) = some (wl l i w) := by
  rw [idx_lt hw]; unfold wl; simp [hi, hw]
def Poss (l : List TRunner) (w : Nat) : Prop := ∀ i, i < l.length → (wl l i w).length ≠ 0
theorem containsF_eq {l : List TRunner} {w : Nat} (hl : l.length ≤ 1000000) (hw : ∀ r, r ∈ l → w < r.Worlds.length) : ∃ b, M36 l (w : Int) = some b ∧ (b = true ↔ ¬Poss l w) := by
  unfold M36 M35
  rw [fuel_sub]
  obtain ⟨r, h1, h2⟩ := find_loop (N := l.length) (f := fun n i => M33 l (w : Int) M34 n (i : Int)) (p := fun i => (wl l i w).length = 0) (fun n i hi => by
    show M33 l (w : Int) _ (n + 1) (i : Int) = _
    rw [M33, dec_lt_nat, decide_eq_true hi, cond_true, idx_lt hi, some_bind, w64_succ (by omega)]
    unfold M32
    rw [wl_get hi (hw _ (List.getElem_mem hi)), some_bind, some_bind, bif_eq]
    by_cases h : (wl l i w).length = 0
    · rw [if_pos h, if_pos (by omega)]
    · rw [if_neg h, if_neg (by omega)]) (fun n => by
    show M33 l (w : Int) _ (n + 1) ((l.length : Nat) : Int) = _
    rw [M33]
    simp [M34])
  refine ⟨decide (r ≥ 0), ?_, ?_⟩
  · have h1 : M33 l (w : Int) M34 (l.length + 1) 0 = some r := h1
    rw [h1]; rfl
  · rw [decide_eq_true_iff, h2]
    unfold Poss
    simp only [Classical.not_forall, Classical.not_not, exists_prop]
theorem field_possible_eq {f : TField} (hs : Small f) (hr : ∀ r, r ∈ f.Runners → r.Worlds.length = f.Pairs.length + 1) : M39 f = chk (∀ w, w < f.Pairs.length + 1 → ¬Poss f.Runners w) true (some false) := by
  have hsr := hs.runners
  have hsp := hs.pairs
  unfold M39
  rw [w64_succ (by omega), fuel_sub]
  refine chk_loop (N := f.Pairs.length + 1) (f := fun n w => M37 f M38 n (w : Int)) (fun n w hw => ?_) (fun n => ?_)
  · show M37 f M38 (n + 1) (w : Int) = _
    obtain ⟨b, h1, h2⟩ := containsF_eq hsr (w := w) (fun r h => by rw [hr r h]; exact hw)
    rw [M37, w64_succ (by omega), dec_lt_nat, decide_eq_true hw, cond_true, h1, some_bind, w64_succ (by omega)]
    cases b with
    | true => rw [chk_pos (h2.1 rfl)]; rfl
    | false => rw [chk_neg (fun h => by simpa using h2.2 h)]; rfl
  · show M37 f M38 (n + 1) ((f.Pairs.length + 1 : Nat) : Int) = _
    rw [M37, w64_succ (by omega)]
    simp [M38]
theorem ref24_Possible_eq {f : TField} (hs : Small f) (hr : ∀ r, r ∈ f.Runners → r.Worlds.length = f.Pairs.length + 1) {w : Nat} (hw : w < f.Pairs.length + 1) : M148 f (w : Int) = chk (Poss f.Runners w) false (some true) := by
  have hsr := hs.runners
  have hsp := hs.pairs
  unfold M148
  rw [fuel_sub]
  refine chk_loop (f := fun n i => M146 f (w : Int) M147 n (i : Int)) (fun n i hi => ?_) (fun n => ?_)
  · show M146 f (w : Int) M147 (n + 1) (i : Int) = _
    have hwi : w < f.Runners[i].Worlds.length := by rw [hr _ (List.getElem_mem hi)]; exact hw
    rw [M146, dec_lt_nat, decide_eq_true hi, cond_true, bif_dec, if_neg (by omega), idx_lt hi, some_bind, bif_dec, if_neg (by omega), some_bind, wl_get hi hwi, some_bind, bif_eq, w64_succ (by omega)]
    by_cases h : (wl f.Runners i w).length = 0
    · rw [if_pos (by omega), chk_neg (fun h' => h' h)]
    · rw [if_neg (by omega), chk_pos h]
  · show M146 f (w : Int) M147 (n + 1) ((f.Runners.length : Nat) : Int) = _
    rw [M146]
    simp [M147]
theorem ref24_possible_eq {f : TField} (hs : Small f) (hr : ∀ r, r ∈ f.Runners → r.Worlds.length = f.Pairs.length + 1) : M151 f = chk (∀ w, w < f.Pairs.length + 1 → ¬Poss f.Runners w) true (some false) := by
  have hsr := hs.runners
  have hsp := hs.pairs
  unfold M151
  rw [fuel_add]
  refine chk_loop (N := f.Pairs.length + 1) (f := fun n w => M149 f M150 n (w : Int)) (fun n w hw => ?_) (fun n => ?_)
  · show M149 f M150 (n + 1) (w : Int) = _
    rw [M149, dec_le_nat, decide_eq_true hw, cond_true, ref24_Possible_eq hs hr hw, w64_succ (by omega)]
    by_cases h : Poss f.Runners w
    · rw [chk_pos h, chk_neg (fun h' => h' h)]; rfl
    · rw [chk_neg h, chk_pos h]; rfl
  · show M149 f M150 (n + 1) ((f.Pairs.length + 1 : Nat) : Int) = _
    rw [M149, dec_le_nat]
    simp [M150]
structure FieldOK (f : TField) : Prop where
  clocks : ClocksOK f.Clocks
  size : f.Pairs.length ≤ 16 ∧ 1 ≤ f.Runners.length ∧ f.Runners.length ≤ 4000
  pair : ∀ i, i < f.Pairs.length → PairOK f.Pairs i
  runner : ∀ i, i < f.Runners.length → RunnerOK f i
  poss : ¬∀ w, w < f.Pairs.length + 1 → ¬Poss f.Runners w
theorem worlds_of {f : TField} (h : ∀ i, i < f.Runners.length → RunnerOK f i) : ∀ r, r ∈ f.Runners → r.Worlds.length = f.Pairs.length + 1 := by
  intro r hr
  obtain ⟨i, hi, rfl⟩ := List.mem_iff_getElem.1 hr
  exact (h i hi _ (by simp [hi])).1.2.2.2.2
theorem fieldOK_iff (f : TField) : (ClocksOK f.Clocks ∧ f.Pairs.length ≤ 16 ∧ 1 ≤ f.Runners.length ∧ f.Runners.length ≤ 4000) ∧ (∀ i, i < f.Pairs.length → PairOK f.Pairs i) ∧ (∀ i, i < f.Runners.length → RunnerOK f i) ∧ (¬∀ w, w < f.Pairs.length + 1 → ¬Poss f.Runners w) ↔ FieldOK f :=
  ⟨fun ⟨⟨a, b⟩, c, d, e⟩ => ⟨a, b, c, d, e⟩, fun ⟨a, b, c, d, e⟩ => ⟨⟨a, b⟩, c, d, e⟩⟩
theorem field_Check_eq {f : TField} (hs : Small f) : M46 f = chk (FieldOK f) 240 (some 0) := by
  have hsg := hs.seg
  unfold M46
  refine Eq.trans (bind_chk (p := ClocksOK f.Clocks ∧ f.Pairs.length ≤ 16 ∧ 1 ≤ f.Runners.length ∧ f.Runners.length ≤ 4000) ?_) (Eq.trans (chk_and' (q := (∀ i, i < f.Pairs.length → PairOK f.Pairs i) ∧ (∀ i, i < f.Runners.length → RunnerOK f i) ∧ (¬∀ w, w < f.Pairs.length + 1 → ¬Poss f.Runners w)) fun h => ?_) (chk_congr (fieldOK_iff f) fun _ => rfl))
  · rw [clocks_Check_eq (by omega)]
    by_cases h1 : ClocksOK f.Clocks
    · rw [chk_pos h1, some_bind, bif_dec, bif_dec]
      simp only [bne_self_eq_false, cond_false]
      by_cases h2 : f.Pairs.length ≤ 16
      · rw [if_neg (by omega)]
        by_cases h3 : 1 ≤ f.Runners.length
        · rw [if_neg (by omega)]
          refine ⟨_, rfl, ?_⟩
          rw [decide_eq_true_iff]
          simp only [h1, h2, h3, true_and]
          omega
        · rw [if_pos (by omega)]; exact ⟨true, rfl, by simp [h3]⟩
      · rw [if_pos (by omega)]; exact ⟨true, rfl, by simp [h2]⟩
    · rw [chk_neg h1, some_bind]; exact ⟨true, rfl, by simp [h1]⟩
  · rw [fuel_sub, field_L1 hs.pairs]
    refine chk_and' fun h2 => ?_
    show M43 f (M44 f) _ 0 0 = _
    rw [fuel_sub, field_L2 h.1 hs]
    refine chk_and' fun h3 => ?_
    unfold M44
    rw [field_possible_eq hs (worlds_of h3)]
    by_cases h4 : ∀ w, w < f.Pairs.length + 1 → ¬Poss f.Runners w
    · rw [chk_pos h4, chk_neg (fun h => h h4)]; rfl
    · rw [chk_neg h4, chk_pos h4]; rfl
theorem ref24_Check_eq {f : TField} (hs : Small f) : M160 f = chk (FieldOK f) 240 (some 0) := by
  have hsg := hs.seg
  unfold M160
  refine Eq.trans (bind_chk (p := ClocksOK f.Clocks ∧ f.Pairs.length ≤ 16 ∧ 1 ≤ f.Runners.length ∧ f.Runners.length ≤ 4000) ?_) (Eq.trans (chk_and' (q := (∀ i, i < f.Pairs.length → PairOK f.Pairs i) ∧ (∀ i, i < f.Runners.length → RunnerOK f i) ∧ (¬∀ w, w < f.Pairs.length + 1 → ¬Poss f.Runners w)) fun h => ?_) (chk_congr (fieldOK_iff f) fun _ => rfl))
  · rw [ref16_Check_eq (by omega)]
    by_cases h1 : ClocksOK f.Clocks
    · rw [chk_pos h1, some_bind, bif_dec, bif_dec]
      simp only [bne_self_eq_false, cond_false]
      by_cases h2 : f.Pairs.length ≤ 16
      · rw [if_neg (by omega)]
        by_cases h3 : 1 ≤ f.Runners.length
        · rw [if_neg (by omega)]
          refine ⟨_, rfl, ?_⟩
          rw [decide_eq_true_iff]
          simp only [h1, h2, h3, true_and]
          omega
        · rw [if_pos (by omega)]; exact ⟨true, rfl, by simp [h3]⟩
      · rw [if_pos (by omega)]; exact ⟨true, rfl, by simp [h2]⟩
    · rw [chk_neg h1, some_bind]; exact ⟨true, rfl, by simp [h1]⟩
  · rw [fuel_sub, ref24_L1 hs.pairs]
    refine chk_and' fun h2 => ?_
    show M157 f (M158 f) _ 0 = _
    rw [fuel_sub, ref24_L2 h.1 hs]
    refine chk_and' fun h3 => ?_
    unfold M158
    rw [ref24_possible_eq hs (worlds_of h3)]
    by_cases h4 : ∀ w, w < f.Pairs.length + 1 → ¬Poss f.Runners w
    · rw [chk_pos h4, chk_neg (fun h => h h4)]; rfl
    · rw [chk_neg h4, chk_pos h4]; rfl
theorem w64_add (a b : Int) : w64 (a + w64 b) = w64 (a + b) := by
  unfold w64; simp only [IntKind.wrap, IntKind.bits, IntKind.signed]; simp; omega
def InR (f : TField) (a : Int) : Prop := 0 ≤ a ∧ a < f.Runners.length
theorem ranks_check_eq {f : TField} (hs : Small f) {l : List Int} (hl : l.length ≤ 1000) : M49 f l = chk (FieldOK f) 240 (chk (∀ a, a ∈ l → InR f a) 250 (some 0)) := by
  unfold M49
  rw [field_Check_eq hs]
  by_cases h : FieldOK f
  · rw [chk_pos h, chk_pos h, some_bind]
    simp only [bne_self_eq_false, cond_false]
    rw [fuel_sub]
    refine (chk_loop (ok := fun j => ∀ a, l[j]? = some a → InR f a) (k := some 0) (r := 250) (f := fun n j => M47 f l M48 n (j : Int)) (fun n j hj => ?_) (fun n => ?_)).trans (chk_congr all_get fun _ => rfl)
    · show M47 f l M48 (n + 1) (j : Int) = _
      rw [M47, dec_lt_nat, decide_eq_true hj, cond_true, idx_lt hj, some_bind, w64_succ (by omega), bif_dec, bif_dec]
      have hx : l[j]? = some l[j] := by simp [hj]
      rw [hx]
      generalize l[j] = a
      simp only [Option.some.injEq, forall_eq']
      unfold InR
      by_cases h1 : a < 0
      · rw [if_pos h1, chk_neg (by omega)]
      · rw [if_neg h1]
        by_cases h2 : a ≥ (f.Runners.length : Int)
        · rw [if_pos h2, chk_neg (by omega)]
        · rw [if_neg h2, chk_pos (by omega)]
    · show M47 f l M48 (n + 1) ((l.length : Nat) : Int) = _
      rw [M47]
      simp [M48]
  · rw [chk_neg h, chk_neg h]; rfl
theorem ref25_check_eq {f : TField} (hs : Small f) (a : Int) : M279 f a = chk (FieldOK f) 240 (chk (InR f a) 250 (some 0)) := by
  unfold M279
  rw [ref24_Check_eq hs]
  by_cases h : FieldOK f
  · rw [chk_pos h, chk_pos h, some_bind]
    simp only [bne_self_eq_false, cond_false]
    rw [bif_dec, bif_dec]
    unfold InR
    by_cases h1 : a < 0
    · rw [if_pos h1, chk_neg (by omega)]
    · rw [if_neg h1]
      by_cases h2 : a ≥ (f.Runners.length : Int)
      · rw [if_pos h2, chk_neg (by omega)]
      · rw [if_neg h2, chk_pos (by omega)]
  · rw [chk_neg h, chk_neg h]; rfl
theorem less_compare (a b : List Int) (ha : a.length < 9223372036854775807) : ∃ r t, M71 a b = some r ∧ M182 a b = some t ∧ (r < 0 ↔ t = true) := by
  unfold M71 M182
  rw [fuel_sub]
  have key : ∀ c i n, i + c = a.length → c ≤ n → ∃ r t, M69 a b (M70 a b) (n + 1) (i : Int) = some r ∧ M180 a b (M181 a b) (n + 1) (i : Int) = some t ∧ (i ≤ b.length → (r < 0 ↔ t = true)) := by
    intro c
    induction c with
    | zero =>
      intro i n h _
      have : i = a.length := by omega
      subst this
      rw [M69, M180]
      simp only [dec_lt_nat, Nat.lt_irrefl, decide_false, cond_false]
      unfold M70 M181
      rw [dec_lt_nat, bif_dec]
      by_cases h1 : a.length < b.length
      · rw [if_pos h1]; exact ⟨_, _, rfl, rfl, fun _ => by simp [h1]⟩
      · rw [if_neg h1]; exact ⟨_, _, rfl, rfl, fun _ => by simp [h1]⟩
    | succ c ih =>
      intro i n h hn
      obtain ⟨n, rfl⟩ : ∃ n', n = n' + 1 := ⟨n - 1, by omega⟩
      have hi : i < a.length := by omega
      obtain ⟨r, t, h1, h2, h3⟩ := ih (i + 1) n (by omega) (by omega)
      rw [M69, M180, dec_lt_nat, decide_eq_true hi, cond_true, cond_true, idx_lt hi, some_bind, w64_succ (by omega), h1, h2]
      by_cases hb : i < b.length
      · rw [bif_dec, if_neg (by omega), dec_lt_nat, decide_eq_true hb, cond_true, idx_lt hb]
        simp only [some_bind, cmp_eq, bif_ne]
        generalize a[i] = p
        generalize b[i] = q
        rcases Int.lt_trichotomy p q with h5 | h5 | h5
        · have hX : (if p < q then (-1 : Int) else if q < p then 1 else 0) = -1 := if_pos h5
          rw [hX, if_neg (by decide), if_neg (by omega)]
          exact ⟨_, _, rfl, rfl, fun _ => by simp [h5]⟩
        · have hX : (if p < q then (-1 : Int) else if q < p then 1 else 0) = 0 := by rw [if_neg (by omega), if_neg (by omega)]
          rw [hX, if_pos rfl, if_pos h5]
          exact ⟨r, t, rfl, rfl, fun _ => h3 (by omega)⟩
        · have hX : (if p < q then (-1 : Int) else if q < p then 1 else 0) = 1 := by rw [if_neg (by omega), if_pos h5]
          rw [hX, if_neg (by decide), if_neg (by omega)]
          exact ⟨_, _, rfl, rfl, fun _ => by simp; omega⟩
      · rw [bif_dec, if_pos (by omega), dec_lt_nat, decide_eq_false hb, cond_false]
        unfold M181
        refine ⟨_, _, rfl, rfl, fun _ => ?_⟩
        rw [dec_lt_nat]
        simp; omega
  obtain ⟨r, t, h1, h2, h3⟩ := key a.length 0 a.length (by omega) (by omega)
  exact ⟨r, t, h1, h2, h3 (by omega)⟩
theorem inR_nat {f : TField} {a : Int} (h : InR f a) : ∃ i : Nat, a = (i : Int) ∧ i < f.Runners.length := by
  obtain ⟨h1, h2⟩ := h
  exact ⟨a.toNat, by omega, by omega⟩
theorem seg_nat {k : TClocks} {x : TOutcome} (hk : ClocksOK k) (h : OutOK k x) (ho : x.Out = false) : ∃ i : Nat, w64 (x.Seg + 1) = (i : Int) ∧ i < k.Segments.length + 1 := by
  obtain ⟨h1, h2, _⟩ := h.2 ho
  have := hk.few
  exact ⟨(x.Seg + 1).toNat, by rw [w64_of (by omega) (by omega)]; omega, by omega⟩
theorem far_get {k : TClocks} (hk : ClocksOK k) {i j : Nat} (hi : i < k.Segments.length + 1) (hj : j < k.Segments.length + 1) : ∃ row, idx k.Far (i : Int) = some row ∧ idx row (j : Int) = some (at2 k.Far i j) := by
  obtain ⟨row, h1, h2, h3⟩ := rows_get hk.row hk.far hi
  exact ⟨row, h2, idx2 h1 (by omega)⟩
theorem best_late {f : TField} (hs : Small f) (hf : FieldOK f) {a b : Int} (ha : InR f a) (hb : InR f b) {x y : TOutcome} (hx : OutOK f.Clocks x) (hy : OutOK f.Clocks y) (hxo : x.Out = false) (hyo : y.Out = false) :
    ∃ t, M72 f b y a x = some t ∧ M280 f y b x a = some (!t) := by
  obtain ⟨ia, rfl, hia⟩ := inR_nat ha
  obtain ⟨ib, rfl, hib⟩ := inR_nat hb
  obtain ⟨i, e1, hi⟩ := seg_nat hf.clocks hy hyo
  obtain ⟨j, e2, hj⟩ := seg_nat hf.clocks hx hxo
  obtain ⟨row, h1, h2⟩ := far_get hf.clocks hi hj
  unfold M72 M280 M66 M68 M67
  have hl : f.Runners[ia].Keys.length < 9223372036854775807 := by have := (hs.worlds _ (List.getElem_mem hia)).1; omega
  obtain ⟨r, t, h3, h4, h5⟩ := less_compare f.Runners[ia].Keys f.Runners[ib].Keys hl
  simp only [hxo, cond_false, some_bind, e1, e2, h1, h2, idx_lt hia, idx_lt hib, h3, h4, bif_dec, bif_eq]
  generalize w64 (w64 (x.Hi + at2 f.Clocks.Far i j) - y.Lo) = d
  by_cases h6 : d < 0
  · rw [if_pos h6, if_neg (by omega), if_neg (by omega)]; exact ⟨true, rfl, rfl⟩
  · rw [if_neg h6]
    by_cases h7 : d = 0
    · rw [if_pos h7, if_neg (by omega), if_pos h7]
      refine ⟨_, rfl, ?_⟩
      congr 2
      cases t with
      | true => simpa using h5
      | false => simp at h5; simp; omega
    · rw [if_neg h7, if_pos (by omega)]; exact ⟨false, rfl, rfl⟩
theorem worst_early {f : TField} (hs : Small f) (hf : FieldOK f) {a b : Int} (ha : InR f a) (hb : InR f b) {x y : TOutcome} (hx : OutOK f.Clocks x) (hy : OutOK f.Clocks y) (hxo : x.Out = false) (hyo : y.Out = false) :
    ∃ t, M83 f b y a x = some t ∧ M284 f y b x a = some t := by
  obtain ⟨ia, rfl, hia⟩ := inR_nat ha
  obtain ⟨ib, rfl, hib⟩ := inR_nat hb
  obtain ⟨i, e1, hi⟩ := seg_nat hf.clocks hy hyo
  obtain ⟨j, e2, hj⟩ := seg_nat hf.clocks hx hxo
  obtain ⟨row, h1, h2⟩ := far_get hf.clocks hj hi
  unfold M83 M284 M66 M68 M82
  have hl : f.Runners[ia].Keys.length < 9223372036854775807 := by have := (hs.worlds _ (List.getElem_mem hia)).1; omega
  obtain ⟨r, t, h3, h4, h5⟩ := less_compare f.Runners[ia].Keys f.Runners[ib].Keys hl
  have hd : x.Lo + (0 - at2 f.Clocks.Far j i) = x.Lo - at2 f.Clocks.Far j i := by omega
  simp only [hxo, cond_false, some_bind, e1, e2, h1, h2, idx_lt hia, idx_lt hib, h3, h4, bif_dec, bif_eq, w64_add, hd]
  generalize w64 (w64 (x.Lo - at2 f.Clocks.Far j i) - y.Hi) = d
  by_cases h6 : d < 0
  · rw [if_pos h6, if_pos h6]; exact ⟨true, rfl, rfl⟩
  · rw [if_neg h6, if_neg h6]
    by_cases h7 : d = 0
    · rw [if_pos h7, if_pos h7]
      refine ⟨_, rfl, ?_⟩
      congr 1
      cases t with
      | true => simpa using h5
      | false => simp at h5; simp; omega
    · rw [if_neg h7, if_neg h7]; exact ⟨false, rfl, rfl⟩
theorem wl_mem {f : TField} (hf : FieldOK f) {i w : Nat} (hi : i < f.Runners.length) (hw : w < f.Pairs.length + 1) : wl f.Runners i w ∈ f.Runners[i].Worlds ∧ idx f.Runners[i].Worlds (w : Int) = some (wl f.Runners i w) := by
  have hl := worlds_of hf.runner _ (List.getElem_mem hi)
  have hw' : w < f.Runners[i].Worlds.length := by omega
  refine ⟨?_, wl_get hi hw'⟩
  unfold wl
  simp [hi, hw']
theorem wl_ok {f : TField} (hf : FieldOK f) {i w : Nat} (hi : i < f.Runners.length) (hw : w < f.Pairs.length + 1) : ∀ o, o ∈ wl f.Runners i w → OutOK f.Clocks o :=
  fun o ho => (hf.runner i hi _ (by simp [hi])).2 _ (wl_mem hf hi hw).1 o ho
theorem wl_len {f : TField} (hs : Small f) (hf : FieldOK f) {i w : Nat} (hi : i < f.Runners.length) (hw : w < f.Pairs.length + 1) : (wl f.Runners i w).length ≤ 1000 :=
  (hs.worlds _ (List.getElem_mem hi)).2.2 _ (wl_mem hf hi hw).1
theorem containsW_eq {l : List TRunner} {w : Nat} (hl : l.length ≤ 1000000) (hw : ∀ r, r ∈ l → w < r.Worlds.length) : ∃ b, M55 l (w : Int) = some b ∧ (b = true ↔ ¬Poss l w) := by
  unfold M55 M54
  rw [fuel_sub]
  obtain ⟨r, h1, h2⟩ := find_loop (N := l.length) (f := fun n i => M52 l (w : Int) M53 n (i : Int)) (p := fun i => (wl l i w).length = 0) (fun n i hi => by
    show M52 l (w : Int) _ (n + 1) (i : Int) = _
    rw [M52, dec_lt_nat, decide_eq_true hi, cond_true, idx_lt hi, some_bind, w64_succ (by omega)]
    unfold M51
    rw [wl_get hi (hw _ (List.getElem_mem hi)), some_bind, some_bind, bif_eq]
    by_cases h : (wl l i w).length = 0
    · rw [if_pos h, if_pos (by omega)]
    · rw [if_neg h, if_neg (by omega)]) (fun n => by
    show M52 l (w : Int) _ (n + 1) ((l.length : Nat) : Int) = _
    rw [M52]
    simp [M53])
  refine ⟨decide (r ≥ 0), ?_, ?_⟩
  · have h1 : M52 l (w : Int) M53 (l.length + 1) 0 = some r := h1
    rw [h1]; rfl
  · rw [decide_eq_true_iff, h2]
    unfold Poss
    simp only [Classical.not_forall, Classical.not_not, exists_prop]
theorem worlds_eq {f : TField} (hs : Small f) (hf : FieldOK f) : M58 f.Clocks.Segments f.Clocks.Far f.Pairs f.Runners = some (listP (Poss f.Runners) 0 (f.Pairs.length + 1)) := by
  have hsr := hs.runners
  have hsp := hs.pairs
  unfold M58
  rw [w64_succ (by omega), fuel_sub]
  refine it_loop (N := f.Pairs.length + 1) (f := fun n w => M56 f.Pairs f.Runners M57 n (w : Int)) (fun n w hw => ?_) (fun n => ?_)
  · show M56 f.Pairs f.Runners M57 (n + 1) (w : Int) = _
    obtain ⟨b, h1, h2⟩ := containsW_eq hsr (w := w) (fun r h => by rw [worlds_of hf.runner r h]; exact hw)
    rw [M56, w64_succ (by omega), dec_lt_nat, decide_eq_true hw, cond_true, h1, some_bind, w64_succ (by omega)]
    cases b with
    | true => rw [if_neg (h2.1 rfl)]; rfl
    | false => rw [if_pos (Classical.byContradiction fun h => by simpa using h2.2 h)]; rfl
  · show M56 f.Pairs f.Runners M57 (n + 1) ((f.Pairs.length + 1 : Nat) : Int) = _
    rw [M56, w64_succ (by omega)]
    simp [M57]
theorem ref25_Possible_eq {f : TField} (hs : Small f) (hf : FieldOK f) {w : Nat} (hw : w < f.Pairs.length + 1) : M166 f (w : Int) = chk (Poss f.Runners w) false (some true) := by
  have hsr := hs.runners
  have hsp := hs.pairs
  unfold M166
  rw [fuel_sub, bif_dec, if_neg (by omega), bif_dec, if_neg (by omega)]
  refine chk_loop (f := fun n i => M164 f (w : Int) M165 n (i : Int)) (fun n i hi => ?_) (fun n => ?_)
  · show M164 f (w : Int) M165 (n + 1) (i : Int) = _
    have hwi : w < f.Runners[i].Worlds.length := by rw [worlds_of hf.runner _ (List.getElem_mem hi)]; exact hw
    rw [M164, dec_lt_nat, decide_eq_true hi, cond_true, idx_lt hi, some_bind, bif_dec, if_neg (by omega), some_bind, wl_get hi hwi, some_bind, bif_eq, w64_succ (by omega)]
    by_cases h : (wl f.Runners i w).length = 0
    · rw [if_pos (by omega), chk_neg (fun h' => h' h)]
    · rw [if_neg (by omega), chk_pos h]
  · show M164 f (w : Int) M165 (n + 1) ((f.Runners.length : Nat) : Int) = _
    rw [M164]
    simp [M165]
def FewR (r : TRunner) : Prop := r.Keys.length ≤ 5 ∧ r.Worlds.length ≤ 4 ∧ ∀ w, w ∈ r.Worlds → w.length ≤ 4
structure FewOK (f : TField) : Prop where
  runner : ∀ r, r ∈ f.Runners → FewR r
  far : ∀ r, r ∈ f.Clocks.Far → r.length ≤ 8
  runners : f.Runners.length ≤ 6
  pairs : f.Pairs.length ≤ 3
  segs : f.Clocks.Segments.length ≤ 4
  rows : f.Clocks.Far.length ≤ 6
theorem FewOK.small {f : TField} (h : FewOK f) : Small f where
  seg := by have := h.segs; omega
  pairs := by have := h.pairs; omega
  runners := by have := h.runners; omega
  worlds r hr := by
    obtain ⟨h1, h2, h3⟩ := h.runner r hr
    exact ⟨by omega, by omega, fun w hw => by have := h3 w hw; omega⟩
theorem find_at {α β : Type} {l : List α} {f : Nat → Nat → Option β} {p : α → Bool} {A : Nat → α → β} {k : Option β}
    (hs : ∀ n i (h : i < l.length), f (n + 1) i = if p l[i] = true then some (A i l[i]) else f n (i + 1)) (he : ∀ n, f (n + 1) l.length = k) :
    (∃ i, ∃ h : i < l.length, p l[i] = true ∧ f (l.length + 1) 0 = some (A i l[i]) ∧ ∀ j (hj : j < l.length), j < i → p l[j] = false) ∨ ((∀ x, x ∈ l → p x = false) ∧ f (l.length + 1) 0 = k) := by
  have key : ∀ c i n, i + c = l.length → c ≤ n → (∀ j (hj : j < l.length), j < i → p l[j] = false) → (∃ i', ∃ h : i' < l.length, p l[i'] = true ∧ f (n + 1) i = some (A i' l[i']) ∧ ∀ j (hj : j < l.length), j < i' → p l[j] = false) ∨ ((∀ x, x ∈ l → p x = false) ∧ f (n + 1) i = k) := by
    intro c
    induction c with
    | zero =>
      intro i n h _ hp
      have : i = l.length := by omega
      subst this
      refine .inr ⟨fun x hx => ?_, he n⟩
      obtain ⟨j, hj, rfl⟩ := List.mem_iff_getElem.1 hx
      exact hp j hj hj
    | succ c ih =>
      intro i n h hn hp
      have hi : i < l.length := by omega
      rw [hs n i hi]
      obtain ⟨n, rfl⟩ : ∃ n', n = n' + 1 := ⟨n - 1, by omega⟩
      by_cases h1 : p l[i] = true
      · rw [if_pos h1]
        exact .inl ⟨i, hi, h1, rfl, hp⟩
      · rw [if_neg h1]
        refine ih (i + 1) n (by omega) (by omega) fun j hj hlt => ?_
        by_cases e : j = i
        · subst e; simpa using h1
        · exact hp j hj (by omega)
  exact key l.length 0 l.length (by omega) (by omega) (fun j _ h => absurd h (by omega))
theorem any_loop {α β : Type} {l : List α} {f : Nat → Nat → Option β} {p : α → Bool} {r : β} {k : Option β}
    (hs : ∀ n i (h : i < l.length), f (n + 1) i = if p l[i] = true then some r else f n (i + 1)) (he : ∀ n, f (n + 1) l.length = k) :
    f (l.length + 1) 0 = if l.any p = true then some r else k := by
  rcases find_at (A := fun _ _ => r) hs he with ⟨i, h, h1, h2, _⟩ | ⟨h1, h2⟩
  · rw [h2, if_pos]
    rw [List.any_eq_true]
    exact ⟨_, List.getElem_mem h, h1⟩
  · rw [h2, if_neg]
    intro h
    obtain ⟨x, hx, hp⟩ := List.any_eq_true.1 h
    rw [h1 x hx] at hp
    cases hp
theorem count_loop {β : Type} {N : Nat} {f : Nat → Nat → Int → Option β} {p : Nat → Bool} {k : Int → Option β} {c0 : Int}
    (hs : ∀ n i c, i < N → c0 ≤ c → c ≤ c0 + (i : Int) → f (n + 1) i c = f n (i + 1) (if p i = true then c + 1 else c)) (he : ∀ n c, f (n + 1) N c = k c) :
    f (N + 1) 0 c0 = k (c0 + ((List.range N).countP p : Nat)) := by
  have key : ∀ c i n, i + c = N → c ≤ n → f (n + 1) i (c0 + ((List.range i).countP p : Nat)) = k (c0 + ((List.range N).countP p : Nat)) := by
    intro c
    induction c with
    | zero =>
      intro i n h _
      have : i = N := by omega
      subst this
      exact he n _
    | succ c ih =>
      intro i n h hn
      have hle : (List.range i).countP p ≤ i := by have := List.countP_le_length (p := p) (l := List.range i); simpa using this
      obtain ⟨n, rfl⟩ : ∃ n', n = n' + 1 := ⟨n - 1, by omega⟩
      rw [hs _ i _ (by omega) (by omega) (by omega), ← ih (i + 1) n (by omega) (by omega), List.range_succ, List.countP_append]
      congr 1
      by_cases hp : p i = true
      · simp [hp]; omega
      · simp [hp]
  have := key N 0 N (by omega) (by omega)
  simpa using this
theorem count_le {N : Nat} {p : Nat → Bool} : (List.range N).countP p ≤ N := by
  have := List.countP_le_length (p := p) (l := List.range N); simpa using this
theorem inv_loop {σ β : Type} {N : Nat} {f : Nat → Nat → σ → Option β} {k : σ → Option β} {I : Nat → σ → Prop} (hs : ∀ i s, i < N → I i s → ∃ s', I (i + 1) s' ∧ ∀ n, f (n + 1) i s = f n (i + 1) s') (he : ∀ n s, f (n + 1) N s = k s) {s0 : σ} (h0 : I 0 s0) :
    ∃ s, f (N + 1) 0 s0 = k s ∧ I N s := by
  have key : ∀ c i n s, i + c = N → c ≤ n → I i s → ∃ s', f (n + 1) i s = k s' ∧ I N s' := by
    intro c
    induction c with
    | zero =>
      intro i n s h _ hi
      have : i = N := by omega
      subst this
      exact ⟨s, he n s, hi⟩
    | succ c ih =>
      intro i n s h hn hi
      obtain ⟨s', h1, h2⟩ := hs i s (by omega) hi
      obtain ⟨n, rfl⟩ : ∃ n', n = n' + 1 := ⟨n - 1, by omega⟩
      rw [h2]
      exact ih (i + 1) n s' (by omega) (by omega) h1
  exact key N 0 N s0 (by omega) (by omega) h0
theorem worlds_inv {σ : Type} {N : Nat} {p : Nat → Prop} {G : Int → σ → Option σ} {I : Nat → σ → Prop} (hs : ∀ i s, i < N → p i → I i s → ∃ s', G (i : Int) s = some s' ∧ I (i + 1) s') (hn : ∀ i s, i < N → ¬p i → I i s → I (i + 1) s) {s0 : σ} (h0 : I 0 s0) :
    ∃ s, foldO G (listP p 0 N) s0 = some s ∧ I N s := by
  have key : ∀ c i s, i + c = N → I i s → ∃ s', foldO G (listP p i c) s = some s' ∧ I N s' := by
    intro c
    induction c with
    | zero =>
      intro i s h hi
      have : i = N := by omega
      subst this
      exact ⟨s, rfl, hi⟩
    | succ c ih =>
      intro i s h hi
      rw [listP]
      by_cases hp : p i
      · obtain ⟨s', h1, h2⟩ := hs i s (by omega) hp hi
        rw [if_pos hp, foldO, h1]
        exact ih (i + 1) s' (by omega) h2
      · rw [if_neg hp]
        exact ih (i + 1) s (by omega) (hn i s (by omega) hp hi)
  exact key N 0 s0 (by omega) h0
theorem map_loop {α γ β : Type} {b : Nat} {l : List α} {f : Nat → Nat → List γ → Option β} {g : α → γ} {k : List γ → Option β} (hb : l.length * b ≤ 140737488355328) (hl : l.length < 9223372036854775808)
    (hs : ∀ n i (h : i < l.length) s, f (n + 1) i s = (app b s [g l[i]]).bind (f n (i + 1))) (he : ∀ n s, f (n + 1) l.length s = k s) :
    f (l.length + 1) 0 [] = k (l.map g) := by
  obtain ⟨s, h1, h2⟩ := inv_loop (N := l.length) (f := f) (k := k) (I := fun i s => s = (l.take i).map g) (s0 := []) (fun i s hi hI => by
    have hlen : s.length = i := by rw [hI]; simp; omega
    refine ⟨s ++ [g l[i]], ?_, fun n => ?_⟩
    · rw [hI, List.take_succ_eq_append_getElem hi, List.map_append]; rfl
    · have hm : (i + 1) * b ≤ l.length * b := Nat.mul_le_mul_right b (by omega)
      have e : s.length + [g l[i]].length = i + 1 := by rw [hlen]; rfl
      rw [hs n i hi s, app_ok (by rw [e]; omega) (by rw [e]; omega)]; rfl) he rfl
  rw [h1, h2, List.take_length]
def kLt : List Int → List Int → Bool
  | _, [] => false
  | [], _ :: _ => true
  | a :: s, b :: t => if a = b then kLt s t else decide (a < b)
theorem kLt_irrefl : ∀ (a : List Int), kLt a a = false
  | [] => rfl
  | a :: s => by unfold kLt; rw [if_pos rfl]; exact kLt_irrefl s
theorem kLt_trans : ∀ {a b c : List Int}, kLt a b = true → kLt b c = true → kLt a c = true
  | _, _, [], _, h => by unfold kLt at h; cases h
  | _, [], _, h, _ => by unfold kLt at h; cases h
  | [], _ :: _, _ :: _, _, _ => rfl
  | a :: s, b :: t, c :: u, h1, h2 => by
    unfold kLt at h1 h2 ⊢
    by_cases e1 : a = b
    · rw [if_pos e1] at h1
      by_cases e2 : b = c
      · rw [if_pos e2] at h2; rw [if_pos (by omega)]; exact kLt_trans h1 h2
      · rw [if_neg e2, decide_eq_true_iff] at h2; rw [if_neg (by omega), decide_eq_true_iff]; omega
    · rw [if_neg e1, decide_eq_true_iff] at h1
      by_cases e2 : b = c
      · rw [if_neg (by omega), decide_eq_true_iff]; omega
      · rw [if_neg e2, decide_eq_true_iff] at h2; rw [if_neg (by omega), decide_eq_true_iff]; omega
theorem kLt_total : ∀ {a b : List Int}, kLt a b = false → kLt b a = false → a = b
  | [], [], _, _ => rfl
  | [], _ :: _, h, _ => by unfold kLt at h; cases h
  | _ :: _, [], _, h => by unfold kLt at h; cases h
  | a :: s, b :: t, h1, h2 => by
    unfold kLt at h1 h2
    by_cases e : a = b
    · subst e
      rw [if_pos rfl] at h1 h2
      rw [kLt_total h1 h2]
    · rw [if_neg e, decide_eq_false_iff_not] at h1
      rw [if_neg (fun h => e h.symm), decide_eq_false_iff_not] at h2
      omega
theorem kLt_drop {a b : List Int} {i : Nat} (ha : i < a.length) (hb : i < b.length) : kLt (a.drop i) (b.drop i) = if a[i] = b[i] then kLt (a.drop (i + 1)) (b.drop (i + 1)) else decide (a[i] < b[i]) := by
  rw [List.drop_eq_getElem_cons ha, List.drop_eq_getElem_cons hb]; rfl
theorem kLt_end {a b : List Int} (h : b.length = 0) : kLt a b = false := by
  cases b with
  | nil => cases a <;> rfl
  | cons => simp at h
theorem kLt_start {a b : List Int} (h : a.length = 0) (h' : b.length ≠ 0) : kLt a b = true := by
  cases a with
  | nil => cases b with
    | nil => simp at h'
    | cons => rfl
  | cons => simp at h
theorem Less_eq (a b : List Int) (ha : a.length < 9223372036854775807) : M182 a b = some (kLt a b) := by
  unfold M182
  rw [fuel_sub]
  have key : ∀ c i n, i + c = a.length → c ≤ n → i ≤ b.length → M180 a b (M181 a b) (n + 1) (i : Int) = some (kLt (a.drop i) (b.drop i)) := by
    intro c
    induction c with
    | zero =>
      intro i n h _ hb
      have : i = a.length := by omega
      subst this
      rw [M180, dec_lt_nat, decide_eq_false (by omega), cond_false]
      unfold M181
      rw [dec_lt_nat]
      by_cases h1 : a.length < b.length
      · rw [decide_eq_true h1, kLt_start (by simp) (by simp; omega)]
      · rw [decide_eq_false h1, kLt_end (by simp; omega)]
    | succ c ih =>
      intro i n h hn hb
      obtain ⟨n, rfl⟩ : ∃ n', n = n' + 1 := ⟨n - 1, by omega⟩
      have hi : i < a.length := by omega
      rw [M180, dec_lt_nat, decide_eq_true hi, cond_true]
      by_cases h1 : i < b.length
      · rw [dec_lt_nat, decide_eq_true h1, cond_true, idx_lt hi, some_bind, idx_lt h1, some_bind, bif_ne, kLt_drop hi h1]
        by_cases h2 : a[i] = b[i]
        · rw [if_pos h2, if_pos h2, w64_succ (by omega), ih (i + 1) n (by omega) (by omega) (by omega)]
        · rw [if_neg h2, if_neg h2]; rfl
      · rw [dec_lt_nat, decide_eq_false h1, cond_false, kLt_end (by simp; omega)]
        unfold M181
        rw [dec_lt_nat, decide_eq_false (by omega)]
  have := key a.length 0 a.length (by omega) (by omega) (by omega)
  simpa using this
theorem Compare_lt (a b : List Int) (ha : a.length < 9223372036854775807) : ∃ r, M71 a b = some r ∧ decide (r < 0) = kLt a b := by
  obtain ⟨r, t, h1, h2, h3⟩ := less_compare a b ha
  rw [Less_eq a b ha] at h2
  refine ⟨r, h1, ?_⟩
  cases h2
  cases h : kLt a b with
  | true => rw [decide_eq_true_iff]; exact h3.2 h
  | false => rw [decide_eq_false_iff_not]; intro h4; rw [h3.1 h4] at h; cases h
def vr (x : TOutcome) : Nat := (x.Seg + 1).toNat
def keys (f : TField) (i : Nat) : List Int := ((f.Runners[i]?).map (·.Keys)).getD []
abbrev far (f : TField) (i j : Nat) : Int := at2 f.Clocks.Far i j
abbrev nseg (f : TField) : Nat := f.Clocks.Segments.length
theorem keys_get {f : TField} {i : Nat} (h : i < f.Runners.length) : f.Runners[i].Keys = keys f i := by
  unfold keys; simp [h]
theorem keys_len {f : TField} (hs : Small f) {i : Nat} (h : i < f.Runners.length) : (keys f i).length < 9223372036854775807 := by
  rw [← keys_get h]; have := (hs.worlds _ (List.getElem_mem h)).1; omega
theorem vr_eq {k : TClocks} {x : TOutcome} (hk : ClocksOK k) (h : OutOK k x) (ho : x.Out = false) : w64 (x.Seg + 1) = (vr x : Int) ∧ vr x < k.Segments.length + 1 := by
  obtain ⟨h1, h2, _⟩ := h.2 ho
  have := hk.few
  unfold vr
  exact ⟨by rw [w64_of (by omega) (by omega)]; omega, by omega⟩
theorem far_bound {f : TField} (hf : FieldOK f) {i j : Nat} (hi : i < nseg f + 1) (hj : j < nseg f + 1) : -2199023255552 ≤ far f i j ∧ far f i j ≤ 2199023255552 :=
  (hf.clocks.row i (by rw [hf.clocks.far]; exact hi)).2.2 j hj
theorem far_self {f : TField} (hf : FieldOK f) {i : Nat} (hi : i < nseg f + 1) : far f i i = 0 :=
  (hf.clocks.row i (by rw [hf.clocks.far]; exact hi)).2.1
theorem far_tri {f : TField} (hf : FieldOK f) {i j m : Nat} (hi : i < nseg f + 1) (hj : j < nseg f + 1) (hm : m < nseg f + 1) : far f i m ≤ far f i j + far f j m := by
  have h := hf.clocks.tri i hi j hj m hm
  have h1 := far_bound hf hi hj
  have h2 := far_bound hf hj hm
  unfold far at h1 h2 ⊢
  rw [w64_of (by omega) (by omega)] at h
  omega
def front (f : TField) (k r : Nat) (d : Int) : Bool := decide (d < 0) || (decide (d = 0) && kLt (keys f k) (keys f r))
def forced (f : TField) (r : Nat) (x : TOutcome) (k : Nat) (y : TOutcome) : Bool := !y.Out && front f k r (y.Hi + far f (vr x) (vr y) - x.Lo)
def can (f : TField) (r : Nat) (x : TOutcome) (k : Nat) (y : TOutcome) : Bool := !y.Out && front f k r (y.Lo - far f (vr y) (vr x) - x.Hi)
theorem ahead_best_eq {f : TField} (hs : Small f) (hf : FieldOK f) {r k : Nat} (hr : r < f.Runners.length) (hk : k < f.Runners.length) {x y : TOutcome} (hx : OutOK f.Clocks x) (hy : OutOK f.Clocks y) (hxo : x.Out = false) :
    M72 f (r : Int) x (k : Int) y = some (forced f r x k y) := by
  unfold M72 M66 M68 M67 forced front
  cases hyo : y.Out with
  | true => rfl
  | false =>
    obtain ⟨e1, h1⟩ := vr_eq hf.clocks hx hxo
    obtain ⟨e2, h2⟩ := vr_eq hf.clocks hy hyo
    obtain ⟨row, g1, g2⟩ := far_get hf.clocks h1 h2
    obtain ⟨_, _, b1, b2, b3⟩ := hx.2 hxo
    obtain ⟨_, _, b4, b5, b6⟩ := hy.2 hyo
    have b7 := far_bound hf h1 h2
    obtain ⟨c, g3, g4⟩ := Compare_lt (keys f k) (keys f r) (keys_len hs hk)
    unfold far at b7
    simp only [cond_false, some_bind, e1, e2, g1, g2, idx_lt hk, idx_lt hr, keys_get, g3, g4, Bool.not_false, Bool.true_and]
    rw [w64_of (n := y.Hi + at2 f.Clocks.Far (vr x) (vr y)) (by omega) (by omega), w64_of (by omega) (by omega)]
    generalize y.Hi + at2 f.Clocks.Far (vr x) (vr y) - x.Lo = d
    by_cases h6 : d < 0
    · simp [h6]
    · by_cases h7 : d = 0
      · simp [h7]
      · simp [h6, h7, bif_eq]
theorem late_eq {f : TField} (hs : Small f) (hf : FieldOK f) {r k : Nat} (hr : r < f.Runners.length) (hk : k < f.Runners.length) {x y : TOutcome} (hx : OutOK f.Clocks x) (hy : OutOK f.Clocks y) (hxo : x.Out = false) :
    M280 f x (r : Int) y (k : Int) = some (!forced f r x k y) := by
  obtain ⟨t, h1, h2⟩ := (by
    cases hyo : y.Out with
    | false => exact best_late hs hf (a := (k : Int)) (b := (r : Int)) ⟨by omega, by omega⟩ ⟨by omega, by omega⟩ hy hx hyo hxo
    | true => exact ⟨false, by unfold M72; rw [hyo]; rfl, by unfold M280; rw [hyo]; rfl⟩ : ∃ t, M72 f (r : Int) x (k : Int) y = some t ∧ M280 f x (r : Int) y (k : Int) = some (!t))
  rw [ahead_best_eq hs hf hr hk hx hy hxo] at h1
  cases h1
  exact h2
theorem ahead_worst_eq {f : TField} (hs : Small f) (hf : FieldOK f) {r k : Nat} (hr : r < f.Runners.length) (hk : k < f.Runners.length) {x y : TOutcome} (hx : OutOK f.Clocks x) (hy : OutOK f.Clocks y) (hxo : x.Out = false) :
    M83 f (r : Int) x (k : Int) y = some (can f r x k y) := by
  unfold M83 M66 M68 M82 can front
  cases hyo : y.Out with
  | true => rfl
  | false =>
    obtain ⟨e1, h1⟩ := vr_eq hf.clocks hx hxo
    obtain ⟨e2, h2⟩ := vr_eq hf.clocks hy hyo
    obtain ⟨row, g1, g2⟩ := far_get hf.clocks h2 h1
    obtain ⟨_, _, b1, b2, b3⟩ := hx.2 hxo
    obtain ⟨_, _, b4, b5, b6⟩ := hy.2 hyo
    have b7 := far_bound hf h2 h1
    obtain ⟨c, g3, g4⟩ := Compare_lt (keys f k) (keys f r) (keys_len hs hk)
    unfold far at b7
    simp only [cond_false, some_bind, e1, e2, g1, g2, idx_lt hk, idx_lt hr, keys_get, g3, g4, Bool.not_false, Bool.true_and]
    rw [w64_of (n := 0 - at2 f.Clocks.Far (vr y) (vr x)) (by omega) (by omega), w64_of (n := y.Lo + _) (by omega) (by omega), w64_of (by omega) (by omega)]
    have e : y.Lo + (0 - at2 f.Clocks.Far (vr y) (vr x)) - x.Hi = y.Lo - at2 f.Clocks.Far (vr y) (vr x) - x.Hi := by omega
    rw [e]
    generalize y.Lo - at2 f.Clocks.Far (vr y) (vr x) - x.Hi = d
    by_cases h6 : d < 0
    · simp [h6]
    · by_cases h7 : d = 0
      · simp [h7]
      · simp [h6, h7, bif_eq]
theorem early_eq {f : TField} (hs : Small f) (hf : FieldOK f) {r k : Nat} (hr : r < f.Runners.length) (hk : k < f.Runners.length) {x y : TOutcome} (hx : OutOK f.Clocks x) (hy : OutOK f.Clocks y) (hxo : x.Out = false) :
    M284 f x (r : Int) y (k : Int) = some (can f r x k y) := by
  obtain ⟨t, h1, h2⟩ := (by
    cases hyo : y.Out with
    | false => exact worst_early hs hf (a := (k : Int)) (b := (r : Int)) ⟨by omega, by omega⟩ ⟨by omega, by omega⟩ hy hx hyo hxo
    | true => exact ⟨false, by unfold M83; rw [hyo]; rfl, by unfold M284; rw [hyo]; rfl⟩ : ∃ t, M83 f (r : Int) x (k : Int) y = some t ∧ M284 f x (r : Int) y (k : Int) = some t)
  rw [ahead_worst_eq hs hf hr hk hx hy hxo] at h1
  cases h1
  exact h2
abbrev nrun (f : TField) : Nat := f.Runners.length
abbrev npair (f : TField) : Nat := f.Pairs.length
theorem anyLate_eq {f : TField} (hs : Small f) (hf : FieldOK f) {r k w : Nat} (hr : r < nrun f) (hk : k < nrun f) (hw : w < npair f + 1) {x : TOutcome} (hx : OutOK f.Clocks x) (hxo : x.Out = false) :
    M283 f (w : Int) x (r : Int) (k : Int) = some (!(wl f.Runners k w).all (forced f r x k)) := by
  unfold M283
  rw [idx_lt hk, some_bind, (wl_mem hf hk hw).2, some_bind, fuel_sub]
  have hok := wl_ok hf hk hw
  have hlen := wl_len hs hf hk hw
  show M281 f x (r : Int) (k : Int) (wl f.Runners k w) _ _ 0 = some (!(wl f.Runners k w).all (forced f r x k))
  generalize wl f.Runners k w = l at hok hlen
  have h := any_loop (l := l) (f := fun n i => M281 f x (r : Int) (k : Int) l M282 n (i : Int)) (p := fun y => !forced f r x k y) (r := true) (k := some false) (fun n i hi => by
    show M281 f x (r : Int) (k : Int) l _ (n + 1) (i : Int) = _
    rw [M281, dec_lt_nat, decide_eq_true hi, cond_true, idx_lt hi, some_bind, late_eq hs hf hr hk hx (hok _ (List.getElem_mem hi)) hxo, some_bind, w64_succ (by omega), Bool.cond_eq_ite]) (fun n => by
    show M281 f x (r : Int) (k : Int) l _ (n + 1) ((l.length : Nat) : Int) = _
    rw [M281]; simp [M282])
  refine Eq.trans h ?_
  rw [List.not_all_eq_any_not]
  cases l.any fun y => !forced f r x k y <;> rfl
theorem anyEarly_eq {f : TField} (hs : Small f) (hf : FieldOK f) {r k w : Nat} (hr : r < nrun f) (hk : k < nrun f) (hw : w < npair f + 1) {x : TOutcome} (hx : OutOK f.Clocks x) (hxo : x.Out = false) :
    M287 f (w : Int) x (r : Int) (k : Int) = some ((wl f.Runners k w).any (can f r x k)) := by
  unfold M287
  rw [idx_lt hk, some_bind, (wl_mem hf hk hw).2, some_bind, fuel_sub]
  have hok := wl_ok hf hk hw
  have hlen := wl_len hs hf hk hw
  show M285 f x (r : Int) (k : Int) (wl f.Runners k w) _ _ 0 = some ((wl f.Runners k w).any (can f r x k))
  generalize wl f.Runners k w = l at hok hlen
  have h := any_loop (l := l) (f := fun n i => M285 f x (r : Int) (k : Int) l M286 n (i : Int)) (p := can f r x k) (r := true) (k := some false) (fun n i hi => by
    show M285 f x (r : Int) (k : Int) l _ (n + 1) (i : Int) = _
    rw [M285, dec_lt_nat, decide_eq_true hi, cond_true, idx_lt hi, some_bind, early_eq hs hf hr hk hx (hok _ (List.getElem_mem hi)) hxo, some_bind, w64_succ (by omega), Bool.cond_eq_ite]) (fun n => by
    show M285 f x (r : Int) (k : Int) l _ (n + 1) ((l.length : Nat) : Int) = _
    rw [M285]; simp [M286])
  refine Eq.trans h ?_
  cases l.any (can f r x k) <;> rfl
theorem choose_best_eq {f : TField} (hs : Small f) (hf : FieldOK f) {r k w : Nat} (hr : r < nrun f) (hk : k < nrun f) (hw : w < npair f + 1) (hne : (wl f.Runners k w).length ≠ 0) {x : TOutcome} (hx : OutOK f.Clocks x) (hxo : x.Out = false) :
    ∃ i : Nat, ∃ y, (wl f.Runners k w)[i]? = some y ∧ M75 f (w : Int) (r : Int) x (k : Int) = some ((i : Int), (wl f.Runners k w).all (forced f r x k)) ∧ forced f r x k y = (wl f.Runners k w).all (forced f r x k) := by
  unfold M75
  have e : M65 2 1 = some false := rfl
  rw [e, some_bind, idx_lt hk, some_bind, (wl_mem hf hk hw).2, some_bind, fuel_sub]
  have hok := wl_ok hf hk hw
  have hlen := wl_len hs hf hk hw
  show ∃ i : Nat, ∃ y, (wl f.Runners k w)[i]? = some y ∧ M73 f (r : Int) x (k : Int) false (wl f.Runners k w) _ _ 0 = _ ∧ _
  generalize wl f.Runners k w = l at hok hlen hne
  rcases find_at (l := l) (f := fun n i => M73 f (r : Int) x (k : Int) false l (M74 false) n (i : Int)) (p := fun y => !forced f r x k y) (A := fun i _ => ((i : Int), false)) (k := some (0, true)) (fun n i hi => by
    show M73 f (r : Int) x (k : Int) false l _ (n + 1) (i : Int) = _
    rw [M73, dec_lt_nat, decide_eq_true hi, cond_true, idx_lt hi, some_bind, ahead_best_eq hs hf hr hk hx (hok _ (List.getElem_mem hi)) hxo, some_bind, w64_succ (by omega)]
    cases forced f r x k l[i] <;> rfl) (fun n => by
    show M73 f (r : Int) x (k : Int) false l _ (n + 1) ((l.length : Nat) : Int) = _
    rw [M73]; simp [M74]) with ⟨i, hi, h1, h2, _⟩ | ⟨h1, h2⟩
  · have ha : l.all (forced f r x k) = false := by
      rw [← Bool.not_eq_true]
      intro h
      rw [List.all_eq_true] at h
      rw [h _ (List.getElem_mem hi)] at h1
      cases h1
    exact ⟨i, l[i], by simp [hi], by rw [ha]; exact h2, by rw [ha]; simpa using h1⟩
  · have ha : l.all (forced f r x k) = true := by
      rw [List.all_eq_true]; intro y hy; simpa using h1 y hy
    have h0 : 0 < l.length := by omega
    exact ⟨0, l[0], by simp [h0], by rw [ha]; exact h2, by rw [ha]; simpa using h1 _ (List.getElem_mem h0)⟩
theorem choose_worst_eq {f : TField} (hs : Small f) (hf : FieldOK f) {r k w : Nat} (hr : r < nrun f) (hk : k < nrun f) (hw : w < npair f + 1) (hne : (wl f.Runners k w).length ≠ 0) {x : TOutcome} (hx : OutOK f.Clocks x) (hxo : x.Out = false) :
    ∃ i : Nat, ∃ y, (wl f.Runners k w)[i]? = some y ∧ M86 f (w : Int) (r : Int) x (k : Int) = some ((i : Int), (wl f.Runners k w).any (can f r x k)) ∧ can f r x k y = (wl f.Runners k w).any (can f r x k) := by
  unfold M86
  have e : M81 2 1 = some true := rfl
  rw [e, some_bind, idx_lt hk, some_bind, (wl_mem hf hk hw).2, some_bind, fuel_sub]
  have hok := wl_ok hf hk hw
  have hlen := wl_len hs hf hk hw
  show ∃ i : Nat, ∃ y, (wl f.Runners k w)[i]? = some y ∧ M84 f (r : Int) x (k : Int) true (wl f.Runners k w) _ _ 0 = _ ∧ _
  generalize wl f.Runners k w = l at hok hlen hne
  rcases find_at (l := l) (f := fun n i => M84 f (r : Int) x (k : Int) true l (M85 true) n (i : Int)) (p := can f r x k) (A := fun i _ => ((i : Int), true)) (k := some (0, false)) (fun n i hi => by
    show M84 f (r : Int) x (k : Int) true l _ (n + 1) (i : Int) = _
    rw [M84, dec_lt_nat, decide_eq_true hi, cond_true, idx_lt hi, some_bind, ahead_worst_eq hs hf hr hk hx (hok _ (List.getElem_mem hi)) hxo, some_bind, w64_succ (by omega)]
    cases can f r x k l[i] <;> rfl) (fun n => by
    show M84 f (r : Int) x (k : Int) true l _ (n + 1) ((l.length : Nat) : Int) = _
    rw [M84]; simp [M85]) with ⟨i, hi, h1, h2, _⟩ | ⟨h1, h2⟩
  · have ha : l.any (can f r x k) = true := List.any_eq_true.2 ⟨_, List.getElem_mem hi, h1⟩
    exact ⟨i, l[i], by simp [hi], by rw [ha]; exact h2, by rw [ha]; exact h1⟩
  · have ha : l.any (can f r x k) = false := by
      rw [← Bool.not_eq_true]
      intro h
      obtain ⟨y, hy, hp⟩ := List.any_eq_true.1 h
      rw [h1 y hy] at hp
      cases hp
    have h0 : 0 < l.length := by omega
    exact ⟨0, l[0], by simp [h0], by rw [ha]; exact h2, by rw [ha]; exact h1 _ (List.getElem_mem h0)⟩
def sureK (f : TField) (w : Nat) (r : Nat) (x : TOutcome) (k : Nat) : Bool := decide (k ≠ r) && (wl f.Runners k w).all (forced f r x k)
def mayK (f : TField) (w : Nat) (r : Nat) (x : TOutcome) (k : Nat) : Bool := decide (k ≠ r) && (wl f.Runners k w).any (can f r x k)
def nBest (f : TField) (w : Nat) (r : Nat) (x : TOutcome) : Nat := 1 + (List.range (nrun f)).countP (sureK f w r x)
def nWorst (f : TField) (w : Nat) (r : Nat) (x : TOutcome) : Nat := 1 + (List.range (nrun f)).countP (mayK f w r x)
theorem extremes_eq {f : TField} (hs : Small f) (hf : FieldOK f) {r w : Nat} (hr : r < nrun f) (hw : w < npair f + 1) {x : TOutcome} (hx : OutOK f.Clocks x) (hxo : x.Out = false) :
    M289 f (w : Int) x (r : Int) = some ((nBest f w r x : Int), (nWorst f w r x : Int)) := by
  have hlen : nrun f ≤ 1000000 := hs.runners
  unfold M289
  rw [fuel_sub]
  obtain ⟨s, h1, h2⟩ := inv_loop (N := nrun f) (f := fun n i (s : Int × Int) => M288 f (w : Int) x (r : Int) n s.1 s.2 (i : Int)) (k := some) (I := fun i s => s = (((1 + (List.range i).countP (sureK f w r x) : Nat) : Int), ((1 + (List.range i).countP (mayK f w r x) : Nat) : Int))) (s0 := (1, 1)) (fun i s hi hI => by
    refine ⟨_, rfl, fun n => ?_⟩
    show M288 f (w : Int) x (r : Int) (n + 1) s.1 s.2 (i : Int) = _
    rw [M288, dec_lt_nat, decide_eq_true hi, cond_true, bif_eq, hI]
    have c1 := count_le (N := i) (p := sureK f w r x)
    have c2 := count_le (N := i) (p := mayK f w r x)
    have d1 : (List.range (i + 1)).countP (sureK f w r x) = (List.range i).countP (sureK f w r x) + if sureK f w r x i = true then 1 else 0 := by rw [List.range_succ, List.countP_append]; simp [List.countP_cons]
    have d2 : (List.range (i + 1)).countP (mayK f w r x) = (List.range i).countP (mayK f w r x) + if mayK f w r x i = true then 1 else 0 := by rw [List.range_succ, List.countP_append]; simp [List.countP_cons]
    rw [d1, d2]
    generalize (List.range i).countP (sureK f w r x) = p at c1
    generalize (List.range i).countP (mayK f w r x) = q at c2
    by_cases hir : i = r
    · have e1 : sureK f w r x i = false := by unfold sureK; simp [hir]
      have e2 : mayK f w r x i = false := by unfold mayK; simp [hir]
      rw [if_pos (by omega), some_bind, w64_succ (by omega), e1, e2]
      rfl
    · rw [if_neg (by omega), anyLate_eq hs hf hr hi hw hx hxo, anyEarly_eq hs hf hr hi hw hx hxo]
      have e1 : sureK f w r x i = (wl f.Runners i w).all (forced f r x i) := by unfold sureK; simp [hir]
      have e2 : mayK f w r x i = (wl f.Runners i w).any (can f r x i) := by unfold mayK; simp [hir]
      rw [e1, e2]
      simp only [some_bind, Bool.not_not]
      rw [w64_succ (i := i) (by omega), w64_of (n := ((1 + p : Nat) : Int) + 1) (by omega) (by omega), w64_of (n := ((1 + q : Nat) : Int) + 1) (by omega) (by omega)]
      cases (wl f.Runners i w).all (forced f r x i) <;> cases (wl f.Runners i w).any (can f r x i) <;> rfl) (fun n s => by
    show M288 f (w : Int) x (r : Int) (n + 1) s.1 s.2 ((nrun f : Nat) : Int) = _
    rw [M288]; simp) (by simp)
  replace h1 : M288 f (w : Int) x (r : Int) (nrun f + 1) 1 1 0 = some s := h1
  rw [h1, h2]
  rfl
def Occ (f : TField) (r w i : Nat) (x : TOutcome) : Prop := w < npair f + 1 ∧ Poss f.Runners w ∧ (wl f.Runners r w)[i]? = some x
def Vis (f : TField) (r w i : Nat) (w' i' : Nat) (x : TOutcome) : Prop := (w' < w ∨ w' = w ∧ i' < i) ∧ Occ f r w' i' x
theorem Occ.ok {f : TField} (hf : FieldOK f) {r w i : Nat} {x : TOutcome} (hr : r < nrun f) (h : Occ f r w i x) : OutOK f.Clocks x :=
  wl_ok hf hr h.1 _ (List.mem_of_getElem? h.2.2)
theorem Vis.succ {f : TField} {r w i : Nat} {x : TOutcome} (h : Occ f r w i x) (w' i' : Nat) (x' : TOutcome) : Vis f r w (i + 1) w' i' x' ↔ Vis f r w i w' i' x' ∨ (w' = w ∧ i' = i ∧ x' = x) := by
  unfold Vis
  constructor
  · rintro ⟨h1, h2⟩
    by_cases e : w' = w ∧ i' = i
    · obtain ⟨rfl, rfl⟩ := e
      refine .inr ⟨rfl, rfl, ?_⟩
      have := h.2.2.symm.trans h2.2.2
      cases this; rfl
    · refine .inl ⟨?_, h2⟩
      omega
  · rintro (⟨h1, h2⟩ | ⟨rfl, rfl, rfl⟩)
    · exact ⟨by omega, h2⟩
    · exact ⟨by omega, h⟩
theorem Vis.zero {f : TField} {r : Nat} (w' i' : Nat) (x' : TOutcome) : ¬Vis f r 0 0 w' i' x' := by
  rintro ⟨h, _⟩; omega
theorem Vis.next {f : TField} {r w : Nat} (w' i' : Nat) (x' : TOutcome) : Vis f r (w + 1) 0 w' i' x' ↔ Vis f r w (wl f.Runners r w).length w' i' x' := by
  unfold Vis
  constructor
  · rintro ⟨h1, h2⟩
    refine ⟨?_, h2⟩
    by_cases e : w' = w
    · subst e
      exact .inr ⟨rfl, (List.getElem?_eq_some_iff.1 h2.2.2).1⟩
    · omega
  · rintro ⟨h1, h2⟩; exact ⟨by omega, h2⟩
theorem Vis.skip {f : TField} {r w : Nat} (hp : ¬Poss f.Runners w) (w' i' : Nat) (x' : TOutcome) : Vis f r (w + 1) 0 w' i' x' ↔ Vis f r w 0 w' i' x' := by
  unfold Vis
  constructor
  · rintro ⟨h1, h2⟩
    refine ⟨?_, h2⟩
    by_cases e : w' = w
    · subst e; exact absurd h2.2.1 hp
    · omega
  · rintro ⟨h1, h2⟩; exact ⟨by omega, h2⟩
theorem Vis.all {f : TField} {r : Nat} (w' i' : Nat) (x' : TOutcome) : Vis f r (npair f + 1) 0 w' i' x' ↔ Occ f r w' i' x' := by
  unfold Vis
  exact ⟨fun h => h.2, fun h => ⟨.inl h.1, h⟩⟩
abbrev Occs := Nat → Nat → TOutcome → Prop
def Ext1 (V V' : Occs) (w i : Nat) (x : TOutcome) : Prop := ∀ w' i' x', V' w' i' x' ↔ V w' i' x' ∨ (w' = w ∧ i' = i ∧ x' = x)
def Same (V V' : Occs) : Prop := ∀ w i x, V w i x ↔ V' w i x
def IsLo (N : Nat → TOutcome → Int) (V : Occs) (lo : Int) : Prop := (lo = 0 ∧ ∀ w i x, V w i x → x.Out = true) ∨ ((∃ w i x, V w i x ∧ x.Out = false ∧ lo = N w x) ∧ ∀ w i x, V w i x → x.Out = false → lo ≤ N w x)
def IsHi (N : Nat → TOutcome → Int) (V : Occs) (hi : Int) : Prop := (hi = 0 ∧ ∀ w i x, V w i x → x.Out = true) ∨ ((∃ w i x, V w i x ∧ x.Out = false ∧ hi = N w x) ∧ ∀ w i x, V w i x → x.Out = false → N w x ≤ hi)
def IsOut (V : Occs) (out : Bool) : Prop := out = true ↔ ∃ w i x, V w i x ∧ x.Out = true
theorem Same.lo {N : Nat → TOutcome → Int} {V V' : Occs} (h : Same V V') {lo : Int} (hl : IsLo N V lo) : IsLo N V' lo := by
  rcases hl with ⟨h1, h2⟩ | ⟨⟨w, i, x, h1, h2, h3⟩, h4⟩
  · exact .inl ⟨h1, fun w i x hv => h2 w i x ((h w i x).2 hv)⟩
  · exact .inr ⟨⟨w, i, x, (h w i x).1 h1, h2, h3⟩, fun w i x hv => h4 w i x ((h w i x).2 hv)⟩
theorem Same.hi {N : Nat → TOutcome → Int} {V V' : Occs} (h : Same V V') {hi : Int} (hl : IsHi N V hi) : IsHi N V' hi := by
  rcases hl with ⟨h1, h2⟩ | ⟨⟨w, i, x, h1, h2, h3⟩, h4⟩
  · exact .inl ⟨h1, fun w i x hv => h2 w i x ((h w i x).2 hv)⟩
  · exact .inr ⟨⟨w, i, x, (h w i x).1 h1, h2, h3⟩, fun w i x hv => h4 w i x ((h w i x).2 hv)⟩
theorem Same.out {V V' : Occs} (h : Same V V') {o : Bool} (hl : IsOut V o) : IsOut V' o := by
  unfold IsOut at hl ⊢
  rw [hl]
  exact ⟨fun ⟨w, i, x, h1, h2⟩ => ⟨w, i, x, (h w i x).1 h1, h2⟩, fun ⟨w, i, x, h1, h2⟩ => ⟨w, i, x, (h w i x).2 h1, h2⟩⟩
theorem IsLo.skip {N : Nat → TOutcome → Int} {V V' : Occs} {w i : Nat} {x : TOutcome} (h : Ext1 V V' w i x) (hx : x.Out = true) {lo : Int} (hl : IsLo N V lo) : IsLo N V' lo := by
  rcases hl with ⟨h1, h2⟩ | ⟨⟨w1, i1, x1, h1, h2, h3⟩, h4⟩
  · refine .inl ⟨h1, fun w' i' x' hv => ?_⟩
    rcases (h w' i' x').1 hv with hv | ⟨rfl, rfl, rfl⟩
    · exact h2 _ _ _ hv
    · exact hx
  · refine .inr ⟨⟨w1, i1, x1, (h _ _ _).2 (.inl h1), h2, h3⟩, fun w' i' x' hv hxo => ?_⟩
    rcases (h w' i' x').1 hv with hv | ⟨rfl, rfl, rfl⟩
    · exact h4 _ _ _ hv hxo
    · rw [hx] at hxo; cases hxo
theorem IsHi.skip {N : Nat → TOutcome → Int} {V V' : Occs} {w i : Nat} {x : TOutcome} (h : Ext1 V V' w i x) (hx : x.Out = true) {lo : Int} (hl : IsHi N V lo) : IsHi N V' lo := by
  rcases hl with ⟨h1, h2⟩ | ⟨⟨w1, i1, x1, h1, h2, h3⟩, h4⟩
  · refine .inl ⟨h1, fun w' i' x' hv => ?_⟩
    rcases (h w' i' x').1 hv with hv | ⟨rfl, rfl, rfl⟩
    · exact h2 _ _ _ hv
    · exact hx
  · refine .inr ⟨⟨w1, i1, x1, (h _ _ _).2 (.inl h1), h2, h3⟩, fun w' i' x' hv hxo => ?_⟩
    rcases (h w' i' x').1 hv with hv | ⟨rfl, rfl, rfl⟩
    · exact h4 _ _ _ hv hxo
    · rw [hx] at hxo; cases hxo
theorem IsOut.skip {V V' : Occs} {w i : Nat} {x : TOutcome} (h : Ext1 V V' w i x) (hx : x.Out = true) : IsOut V' true :=
  ⟨fun _ => ⟨w, i, x, (h _ _ _).2 (.inr ⟨rfl, rfl, rfl⟩), hx⟩, fun _ => rfl⟩
theorem IsOut.step {V V' : Occs} {w i : Nat} {x : TOutcome} (h : Ext1 V V' w i x) (hx : x.Out = false) {o : Bool} (ho : IsOut V o) : IsOut V' o := by
  unfold IsOut at ho ⊢
  rw [ho]
  constructor
  · rintro ⟨w', i', x', h1, h2⟩; exact ⟨w', i', x', (h _ _ _).2 (.inl h1), h2⟩
  · rintro ⟨w', i', x', h1, h2⟩
    rcases (h w' i' x').1 h1 with hv | ⟨rfl, rfl, rfl⟩
    · exact ⟨_, _, _, hv, h2⟩
    · rw [hx] at h2; cases h2
theorem IsLo.less {N : Nat → TOutcome → Int} {V V' : Occs} {w i : Nat} {x : TOutcome} (h : Ext1 V V' w i x) (hx : x.Out = false) {lo : Int} (hl : IsLo N V lo) (hc : lo = 0 ∨ N w x < lo) (hN : ∀ w x, 1 ≤ N w x) : IsLo N V' (N w x) := by
  refine .inr ⟨⟨w, i, x, (h _ _ _).2 (.inr ⟨rfl, rfl, rfl⟩), hx, rfl⟩, fun w' i' x' hv hxo => ?_⟩
  rcases (h w' i' x').1 hv with hv | ⟨rfl, rfl, rfl⟩
  · rcases hl with ⟨h1, h2⟩ | ⟨⟨w1, i1, x1, h1, h2, h3⟩, h4⟩
    · rw [h2 _ _ _ hv] at hxo; cases hxo
    · have := h4 _ _ _ hv hxo
      have := hN w1 x1
      omega
  · exact Int.le_refl _
theorem IsLo.keep {N : Nat → TOutcome → Int} {V V' : Occs} {w i : Nat} {x : TOutcome} (h : Ext1 V V' w i x) {lo : Int} (hl : IsLo N V lo) (hc : lo ≠ 0) (hc' : lo ≤ N w x) : IsLo N V' lo := by
  rcases hl with ⟨h1, h2⟩ | ⟨⟨w1, i1, x1, h1, h2, h3⟩, h4⟩
  · exact absurd h1 hc
  · refine .inr ⟨⟨w1, i1, x1, (h _ _ _).2 (.inl h1), h2, h3⟩, fun w' i' x' hv hxo => ?_⟩
    rcases (h w' i' x').1 hv with hv | ⟨rfl, rfl, rfl⟩
    · exact h4 _ _ _ hv hxo
    · exact hc'
theorem IsHi.more {N : Nat → TOutcome → Int} {V V' : Occs} {w i : Nat} {x : TOutcome} (h : Ext1 V V' w i x) (hx : x.Out = false) {hi : Int} (hl : IsHi N V hi) (hc : hi ≤ N w x) : IsHi N V' (N w x) := by
  refine .inr ⟨⟨w, i, x, (h _ _ _).2 (.inr ⟨rfl, rfl, rfl⟩), hx, rfl⟩, fun w' i' x' hv hxo => ?_⟩
  rcases (h w' i' x').1 hv with hv | ⟨rfl, rfl, rfl⟩
  · rcases hl with ⟨h1, h2⟩ | ⟨⟨w1, i1, x1, h1, h2, h3⟩, h4⟩
    · rw [h2 _ _ _ hv] at hxo; cases hxo
    · have := h4 _ _ _ hv hxo
      omega
  · exact Int.le_refl _
theorem IsHi.keep {N : Nat → TOutcome → Int} {V V' : Occs} {w i : Nat} {x : TOutcome} (h : Ext1 V V' w i x) {hi : Int} (hl : IsHi N V hi) (hc : hi ≠ 0) (hc' : N w x ≤ hi) : IsHi N V' hi := by
  rcases hl with ⟨h1, h2⟩ | ⟨⟨w1, i1, x1, h1, h2, h3⟩, h4⟩
  · exact absurd h1 hc
  · refine .inr ⟨⟨w1, i1, x1, (h _ _ _).2 (.inl h1), h2, h3⟩, fun w' i' x' hv hxo => ?_⟩
    rcases (h w' i' x').1 hv with hv | ⟨rfl, rfl, rfl⟩
    · exact h4 _ _ _ hv hxo
    · exact hc'
theorem IsLo.uniq {N : Nat → TOutcome → Int} {V : Occs} {a b : Int} (ha : IsLo N V a) (hb : IsLo N V b) : a = b := by
  rcases ha with ⟨h1, h2⟩ | ⟨⟨w1, i1, x1, h1, h2, h3⟩, h4⟩
  · rcases hb with ⟨h5, h6⟩ | ⟨⟨w1, i1, x1, h5, h6, h7⟩, h8⟩
    · omega
    · rw [h2 _ _ _ h5] at h6; cases h6
  · rcases hb with ⟨h5, h6⟩ | ⟨⟨w2, i2, x2, h5, h6, h7⟩, h8⟩
    · rw [h6 _ _ _ h1] at h2; cases h2
    · have := h4 _ _ _ h5 h6
      have := h8 _ _ _ h1 h2
      omega
theorem IsHi.uniq {N : Nat → TOutcome → Int} {V : Occs} {a b : Int} (ha : IsHi N V a) (hb : IsHi N V b) : a = b := by
  rcases ha with ⟨h1, h2⟩ | ⟨⟨w1, i1, x1, h1, h2, h3⟩, h4⟩
  · rcases hb with ⟨h5, h6⟩ | ⟨⟨w1, i1, x1, h5, h6, h7⟩, h8⟩
    · omega
    · rw [h2 _ _ _ h5] at h6; cases h6
  · rcases hb with ⟨h5, h6⟩ | ⟨⟨w2, i2, x2, h5, h6, h7⟩, h8⟩
    · rw [h6 _ _ _ h1] at h2; cases h2
    · have := h4 _ _ _ h5 h6
      have := h8 _ _ _ h1 h2
      omega
theorem IsOut.uniq {V : Occs} {a b : Bool} (ha : IsOut V a) (hb : IsOut V b) : a = b := by
  unfold IsOut at ha hb
  rw [← hb] at ha
  cases a <;> cases b <;> simp at ha ⊢
theorem IsLo.pos {N : Nat → TOutcome → Int} {V : Occs} {lo : Int} (h : IsLo N V lo) (hN : ∀ w x, 1 ≤ N w x) : lo = 0 ∨ 1 ≤ lo := by
  rcases h with ⟨h1, _⟩ | ⟨⟨w, i, x, _, _, h3⟩, _⟩
  · exact .inl h1
  · exact .inr (by rw [h3]; exact hN w x)
abbrev NB (f : TField) (r w : Nat) (x : TOutcome) : Int := (nBest f w r x : Int)
abbrev NW (f : TField) (r w : Nat) (x : TOutcome) : Int := (nWorst f w r x : Int)
theorem NB_pos (f : TField) (r w : Nat) (x : TOutcome) : 1 ≤ NB f r w x := by unfold NB nBest; omega
theorem NW_pos (f : TField) (r w : Nat) (x : TOutcome) : 1 ≤ NW f r w x := by unfold NW nWorst; omega
structure IsRank (f : TField) (r : Nat) (x : TRank) : Prop where
  bib : f.Runners[r]?.map (·.Bib) = some x.Bib
  lo : IsLo (NB f r) (Occ f r) x.Lo
  hi : IsHi (NW f r) (Occ f r) x.Hi
  out : IsOut (Occ f r) x.Out
  kind : x.Kind = if x.Lo = 0 then 3 else if x.Lo = x.Hi ∧ x.Out = false then 1 else 2
theorem IsRank.uniq {f : TField} {r : Nat} {x y : TRank} (hx : IsRank f r x) (hy : IsRank f r y) : x = y := by
  obtain ⟨a1, a2, a3, a4, a5⟩ := hx
  obtain ⟨b1, b2, b3, b4, b5⟩ := hy
  obtain ⟨p1, p2, p3, p4, p5⟩ := x
  obtain ⟨q1, q2, q3, q4, q5⟩ := y
  dsimp only at *
  have e1 : p1 = q1 := Option.some.inj (a1.symm.trans b1)
  have e2 := a2.uniq b2
  have e3 := a3.uniq b3
  have e4 := a4.uniq b4
  subst e1 e2 e3 e4
  rw [a5, b5]
theorem maxG_eq (a b : Int) : maxG a b = if a < b then b else a := by
  unfold maxG; split <;> rfl
def ROf (f : TField) (r : Nat) (V : Occs) (s : Int × Int × Bool) : Prop := IsLo (NB f r) V s.1 ∧ IsHi (NW f r) V s.2.1 ∧ IsOut V s.2.2
theorem ref_Of_L2 {f : TField} (hs : Small f) (hf : FieldOK f) {r : Nat} (hr : r < nrun f) {w : Nat} (hw : w < npair f + 1) (hp : Poss f.Runners w) {s0 : Int × Int × Bool} (h0 : ROf f r (Vis f r w 0) s0) :
    ∃ s, M290 f (r : Int) (w : Int) (wl f.Runners r w) ((wl f.Runners r w).length + 1) 0 s0.1 s0.2.1 s0.2.2 = some s ∧ ROf f r (Vis f r w (wl f.Runners r w).length) s := by
  have hlen := wl_len hs hf hr hw
  exact inv_loop (N := (wl f.Runners r w).length) (f := fun n i (s : Int × Int × Bool) => M290 f (r : Int) (w : Int) (wl f.Runners r w) n (i : Int) s.1 s.2.1 s.2.2) (k := some) (I := fun i s => ROf f r (Vis f r w i) s) (s0 := s0) (fun i s hi hI => by
    have ho : Occ f r w i (wl f.Runners r w)[i] := ⟨hw, hp, by simp [hi]⟩
    have hv : Ext1 (Vis f r w i) (Vis f r w (i + 1)) w i (wl f.Runners r w)[i] := Vis.succ ho
    have hxok := ho.ok hf hr
    have e1 : idx (wl f.Runners r w) (i : Int) = some (wl f.Runners r w)[i] := idx_lt hi
    generalize (wl f.Runners r w)[i] = x at ho hv hxok e1
    obtain ⟨a, b, c⟩ := s
    obtain ⟨h1, h2, h3⟩ := hI
    dsimp only at h1 h2 h3
    cases hx : x.Out with
    | true =>
      refine ⟨(a, b, true), ⟨h1.skip hv hx, h2.skip hv hx, IsOut.skip hv hx⟩, fun n => ?_⟩
      show M290 f (r : Int) (w : Int) (wl f.Runners r w) (n + 1) (i : Int) a b c = _
      rw [M290, dec_lt_nat, decide_eq_true hi, cond_true, ref25_Possible_eq hs hf hw, chk_pos hp, some_bind, cond_true, e1, some_bind, hx, cond_true, some_bind, w64_succ (by omega)]
    | false =>
      have hb := NB_pos f r w x
      have hpos := h1.pos (NB_pos f r)
      refine ⟨(if a = 0 then NB f r w x else if NB f r w x < a then NB f r w x else a, if b < NW f r w x then NW f r w x else b, c), ⟨?_, ?_, h3.step hv hx⟩, fun n => ?_⟩
      · show IsLo _ _ (if a = 0 then NB f r w x else if NB f r w x < a then NB f r w x else a)
        by_cases e : a = 0
        · rw [if_pos e]; exact h1.less hv hx (.inl e) (NB_pos f r)
        · rw [if_neg e]
          by_cases e2 : NB f r w x < a
          · rw [if_pos e2]; exact h1.less hv hx (.inr e2) (NB_pos f r)
          · rw [if_neg e2]; exact h1.keep hv e (by omega)
      · show IsHi _ _ (if b < NW f r w x then NW f r w x else b)
        have := NW_pos f r w x
        by_cases e : b < NW f r w x
        · rw [if_pos e]; exact h2.more hv hx (by omega)
        · rw [if_neg e]; exact h2.keep hv (by omega) (by omega)
      · show M290 f (r : Int) (w : Int) (wl f.Runners r w) (n + 1) (i : Int) a b c = M290 f (r : Int) (w : Int) (wl f.Runners r w) n ((i + 1 : Nat) : Int) (if a = 0 then NB f r w x else if NB f r w x < a then NB f r w x else a) (if b < NW f r w x then NW f r w x else b) c
        rw [M290, dec_lt_nat, decide_eq_true hi, cond_true, ref25_Possible_eq hs hf hw, chk_pos hp, some_bind, cond_true, e1, some_bind, hx, cond_false, some_bind, extremes_eq hs hf hr hw hxok hx, some_bind, w64_succ (by omega)]
        simp only [bif_eq, bif_dec, maxG_eq]
        show Option.bind (if a = 0 then _ else if NB f r w x < a then _ else _) _ = _
        by_cases e : a = 0
        · rw [if_pos e, if_pos e]; rfl
        · rw [if_neg e, if_neg e]
          by_cases e2 : NB f r w x < a
          · rw [if_pos e2, if_pos e2]; rfl
          · rw [if_neg e2, if_neg e2]; rfl) (fun n s => by
    show M290 f (r : Int) (w : Int) (wl f.Runners r w) (n + 1) (((wl f.Runners r w).length : Nat) : Int) s.1 s.2.1 s.2.2 = _
    rw [M290]; simp) h0
theorem ROf.same {f : TField} {r : Nat} {V V' : Occs} (h : Same V V') {s : Int × Int × Bool} (hs : ROf f r V s) : ROf f r V' s := ⟨h.lo hs.1, h.hi hs.2.1, h.out hs.2.2⟩
theorem ref_Of_skip {f : TField} (hs : Small f) (hf : FieldOK f) {r : Int} {w : Nat} (hw : w < npair f + 1) (hp : ¬Poss f.Runners w) (l : List TOutcome) (s : Int × Int × Bool) : M290 f r (w : Int) l (l.length + 1) 0 s.1 s.2.1 s.2.2 = some s := by
  rw [M290, ref25_Possible_eq hs hf hw, chk_neg hp, some_bind, cond_false]
  cases decide ((0 : Int) < (l.length : Int)) <;> rfl
theorem ref_Of_main {f : TField} (hs : Small f) (hf : FieldOK f) {r : Nat} (hr : r < nrun f) :
    ∃ s, M291 f (r : Int) (npair f + 1 + 1) 0 0 0 false = some s ∧ ROf f r (Occ f r) s := by
  have hsp : npair f ≤ 1000 := hs.pairs
  obtain ⟨s, h1, h2⟩ := inv_loop (N := npair f + 1) (f := fun n w (s : Int × Int × Bool) => M291 f (r : Int) n (w : Int) s.1 s.2.1 s.2.2) (k := some) (I := fun w s => ROf f r (Vis f r w 0) s) (s0 := (0, 0, false)) (fun w s hw hI => by
    by_cases hp : Poss f.Runners w
    · obtain ⟨s', h1, h2⟩ := ref_Of_L2 hs hf hr hw hp hI
      refine ⟨s', h2.same (fun a b c => (Vis.next a b c).symm), fun n => ?_⟩
      show M291 f (r : Int) (n + 1) (w : Int) s.1 s.2.1 s.2.2 = _
      rw [M291, dec_le_nat, decide_eq_true hw, cond_true, idx_lt hr, some_bind, (wl_mem hf hr hw).2, some_bind, fuel_sub, h1, some_bind, w64_succ (by omega)]
    · refine ⟨s, hI.same (fun a b c => (Vis.skip hp a b c).symm), fun n => ?_⟩
      show M291 f (r : Int) (n + 1) (w : Int) s.1 s.2.1 s.2.2 = _
      rw [M291, dec_le_nat, decide_eq_true hw, cond_true, idx_lt hr, some_bind, (wl_mem hf hr hw).2, some_bind, fuel_sub, ref_Of_skip hs hf hw hp, some_bind, w64_succ (by omega)]) (fun n s => by
    show M291 f (r : Int) (n + 1) ((npair f + 1 : Nat) : Int) s.1 s.2.1 s.2.2 = _
    rw [M291, dec_le_nat]; simp) ⟨.inl ⟨rfl, fun w i x h => absurd h (Vis.zero w i x)⟩, .inl ⟨rfl, fun w i x h => absurd h (Vis.zero w i x)⟩, ⟨fun h => (by cases h), fun ⟨w, i, x, h, _⟩ => absurd h (Vis.zero w i x)⟩⟩
  exact ⟨s, h1, h2.same (fun a b c => Vis.all a b c)⟩
theorem inR_of {f : TField} {r : Nat} (h : r < nrun f) : InR f (r : Int) := by
  have : r < f.Runners.length := h
  exact ⟨by omega, by omega⟩
theorem ref_Of_eq {f : TField} (hs : Small f) (hf : FieldOK f) {r : Nat} (hr : r < nrun f) :
    ∃ x, M292 f (r : Int) = some (x, 0) ∧ IsRank f r x := by
  obtain ⟨s, h1, h2, h3, h4⟩ := ref_Of_main hs hf hr
  unfold M292
  rw [ref25_check_eq hs, chk_pos hf, chk_pos (inR_of hr), some_bind, idx_lt hr, fuel_add, h1]
  refine ⟨_, rfl, ⟨by simp [hr], h2, h3, h4, ?_⟩⟩
  obtain ⟨a, b, c⟩ := s
  show (bif a == 0 then (3 : Int) else bif a == b then bif !c then 1 else 2 else 2) = if a = 0 then 3 else if a = b ∧ c = false then 1 else 2
  rw [bif_eq, bif_eq]
  by_cases e : a = 0
  · rw [if_pos e, if_pos e]
  · rw [if_neg e, if_neg e]
    by_cases e2 : a = b
    · rw [if_pos e2]; cases c <;> simp [e2]
    · rw [if_neg e2]; simp [e2]
theorem drive_best_count {f : TField} (hs : Small f) (hf : FieldOK f) {r w : Nat} (hr : r < nrun f) (hw : w < npair f + 1) (hp : Poss f.Runners w) {x : TOutcome} (hx : OutOK f.Clocks x) (hxo : x.Out = false) :
    M76 f (r : Int) (w : Int) x (nrun f + 1) 1 0 = some (NB f r w x) := by
  have hlen : nrun f ≤ 1000000 := hs.runners
  have h := count_loop (N := nrun f) (f := fun n i c => M76 f (r : Int) (w : Int) x n c (i : Int)) (p := sureK f w r x) (k := some) (c0 := 1) (fun n i c hi h1 h2 => by
    show M76 f (r : Int) (w : Int) x (n + 1) c (i : Int) = _
    rw [M76, dec_lt_nat, decide_eq_true hi, cond_true, bif_eq, w64_succ (by omega)]
    by_cases e : i = r
    · have e1 : sureK f w r x i = false := by unfold sureK; simp [e]
      rw [if_pos (by omega), e1]; rfl
    · obtain ⟨j, y, _, h3, _⟩ := choose_best_eq hs hf hr hi hw (hp i hi) hx hxo
      have e1 : sureK f w r x i = (wl f.Runners i w).all (forced f r x i) := by unfold sureK; simp [e]
      rw [if_neg (by omega), h3, some_bind, e1, w64_of (n := c + 1) (by omega) (by omega)]
      cases (wl f.Runners i w).all (forced f r x i) <;> rfl) (fun n c => by
    show M76 f (r : Int) (w : Int) x (n + 1) c ((nrun f : Nat) : Int) = _
    rw [M76]; simp)
  refine Eq.trans h ?_
  unfold NB nBest
  congr 1
theorem drive_worst_count {f : TField} (hs : Small f) (hf : FieldOK f) {r w : Nat} (hr : r < nrun f) (hw : w < npair f + 1) (hp : Poss f.Runners w) {x : TOutcome} (hx : OutOK f.Clocks x) (hxo : x.Out = false) :
    M87 f (r : Int) (w : Int) x (nrun f + 1) 1 0 = some (NW f r w x) := by
  have hlen : nrun f ≤ 1000000 := hs.runners
  have h := count_loop (N := nrun f) (f := fun n i c => M87 f (r : Int) (w : Int) x n c (i : Int)) (p := mayK f w r x) (k := some) (c0 := 1) (fun n i c hi h1 h2 => by
    show M87 f (r : Int) (w : Int) x (n + 1) c (i : Int) = _
    rw [M87, dec_lt_nat, decide_eq_true hi, cond_true, bif_eq, w64_succ (by omega)]
    by_cases e : i = r
    · have e1 : mayK f w r x i = false := by unfold mayK; simp [e]
      rw [if_pos (by omega), e1]; rfl
    · obtain ⟨j, y, _, h3, _⟩ := choose_worst_eq hs hf hr hi hw (hp i hi) hx hxo
      have e1 : mayK f w r x i = (wl f.Runners i w).any (can f r x i) := by unfold mayK; simp [e]
      rw [if_neg (by omega), h3, some_bind, e1, w64_of (n := c + 1) (by omega) (by omega)]
      cases (wl f.Runners i w).any (can f r x i) <;> rfl) (fun n c => by
    show M87 f (r : Int) (w : Int) x (n + 1) c ((nrun f : Nat) : Int) = _
    rw [M87]; simp)
  refine Eq.trans h ?_
  unfold NW nWorst
  congr 1
def DrB (f : TField) (r : Nat) (V : Occs) (t : Int × Int × Int × Bool) : Prop :=
  (t.2.2.2 = false ∧ ∀ w i x, V w i x → x.Out = true) ∨ (t.2.2.2 = true ∧ (∃ w i x, V w i x ∧ x.Out = false ∧ t.1 = (w : Int) ∧ t.2.1 = (i : Int) ∧ t.2.2.1 = NB f r w x) ∧ ∀ w i x, V w i x → x.Out = false → t.2.2.1 ≤ NB f r w x)
def DrW (f : TField) (r : Nat) (V : Occs) (t : Int × Int × Int × Bool) : Prop :=
  (t.2.2.2 = false ∧ ∀ w i x, V w i x → x.Out = true) ∨ (t.2.2.2 = true ∧ (∃ w i x, V w i x ∧ x.Out = false ∧ t.1 = (w : Int) ∧ t.2.1 = (i : Int) ∧ t.2.2.1 = NW f r w x) ∧ ∀ w i x, V w i x → x.Out = false → NW f r w x ≤ t.2.2.1)
theorem DrB.same {f : TField} {r : Nat} {V V' : Occs} (h : Same V V') {t : Int × Int × Int × Bool} (ht : DrB f r V t) : DrB f r V' t := by
  rcases ht with ⟨h1, h2⟩ | ⟨h1, ⟨w, i, x, h2, h3⟩, h4⟩
  · exact .inl ⟨h1, fun w i x hv => h2 w i x ((h w i x).2 hv)⟩
  · exact .inr ⟨h1, ⟨w, i, x, (h w i x).1 h2, h3⟩, fun w i x hv => h4 w i x ((h w i x).2 hv)⟩
theorem DrW.same {f : TField} {r : Nat} {V V' : Occs} (h : Same V V') {t : Int × Int × Int × Bool} (ht : DrW f r V t) : DrW f r V' t := by
  rcases ht with ⟨h1, h2⟩ | ⟨h1, ⟨w, i, x, h2, h3⟩, h4⟩
  · exact .inl ⟨h1, fun w i x hv => h2 w i x ((h w i x).2 hv)⟩
  · exact .inr ⟨h1, ⟨w, i, x, (h w i x).1 h2, h3⟩, fun w i x hv => h4 w i x ((h w i x).2 hv)⟩
theorem DrB.skip {f : TField} {r : Nat} {V V' : Occs} {w i : Nat} {x : TOutcome} (h : Ext1 V V' w i x) (hx : x.Out = true) {t : Int × Int × Int × Bool} (ht : DrB f r V t) : DrB f r V' t := by
  rcases ht with ⟨h1, h2⟩ | ⟨h1, ⟨w1, i1, x1, h2, h3⟩, h4⟩
  · refine .inl ⟨h1, fun w' i' x' hv => ?_⟩
    rcases (h w' i' x').1 hv with hv | ⟨rfl, rfl, rfl⟩
    · exact h2 _ _ _ hv
    · exact hx
  · refine .inr ⟨h1, ⟨w1, i1, x1, (h _ _ _).2 (.inl h2), h3⟩, fun w' i' x' hv hxo => ?_⟩
    rcases (h w' i' x').1 hv with hv | ⟨rfl, rfl, rfl⟩
    · exact h4 _ _ _ hv hxo
    · rw [hx] at hxo; cases hxo
theorem DrW.skip {f : TField} {r : Nat} {V V' : Occs} {w i : Nat} {x : TOutcome} (h : Ext1 V V' w i x) (hx : x.Out = true) {t : Int × Int × Int × Bool} (ht : DrW f r V t) : DrW f r V' t := by
  rcases ht with ⟨h1, h2⟩ | ⟨h1, ⟨w1, i1, x1, h2, h3⟩, h4⟩
  · refine .inl ⟨h1, fun w' i' x' hv => ?_⟩
    rcases (h w' i' x').1 hv with hv | ⟨rfl, rfl, rfl⟩
    · exact h2 _ _ _ hv
    · exact hx
  · refine .inr ⟨h1, ⟨w1, i1, x1, (h _ _ _).2 (.inl h2), h3⟩, fun w' i' x' hv hxo => ?_⟩
    rcases (h w' i' x').1 hv with hv | ⟨rfl, rfl, rfl⟩
    · exact h4 _ _ _ hv hxo
    · rw [hx] at hxo; cases hxo
theorem DrB.step {f : TField} {r : Nat} {V V' : Occs} {w i : Nat} {x : TOutcome} (h : Ext1 V V' w i x) (hx : x.Out = false) {a b rk : Int} {ok : Bool} (ht : DrB f r V (a, b, rk, ok)) : DrB f r V' (if (!ok || decide (NB f r w x < rk)) = true then ((w : Int), (i : Int), NB f r w x, true) else (a, b, rk, ok)) := by
  by_cases hc : (!ok || decide (NB f r w x < rk)) = true
  · rw [if_pos hc]
    refine .inr ⟨rfl, ⟨w, i, x, (h _ _ _).2 (.inr ⟨rfl, rfl, rfl⟩), hx, rfl, rfl, rfl⟩, fun w' i' x' hv hxo => ?_⟩
    rcases (h w' i' x').1 hv with hv | ⟨rfl, rfl, rfl⟩
    · rcases ht with ⟨h1, h2⟩ | ⟨h1, _, h4⟩
      · rw [h2 _ _ _ hv] at hxo; cases hxo
      · have := h4 _ _ _ hv hxo
        dsimp only at h1 this ⊢
        subst h1
        simp at hc
        omega
    · exact Int.le_refl _
  · rw [if_neg hc]
    rcases ht with ⟨h1, h2⟩ | ⟨h1, ⟨w1, i1, x1, h2, h3⟩, h4⟩
    · dsimp only at h1; subst h1; simp at hc
    · refine .inr ⟨h1, ⟨w1, i1, x1, (h _ _ _).2 (.inl h2), h3⟩, fun w' i' x' hv hxo => ?_⟩
      rcases (h w' i' x').1 hv with hv | ⟨rfl, rfl, rfl⟩
      · exact h4 _ _ _ hv hxo
      · dsimp only at h1 ⊢; subst h1; simp at hc; exact hc
theorem DrW.step {f : TField} {r : Nat} {V V' : Occs} {w i : Nat} {x : TOutcome} (h : Ext1 V V' w i x) (hx : x.Out = false) {a b rk : Int} {ok : Bool} (ht : DrW f r V (a, b, rk, ok)) : DrW f r V' (if (!ok || decide (NW f r w x > rk)) = true then ((w : Int), (i : Int), NW f r w x, true) else (a, b, rk, ok)) := by
  by_cases hc : (!ok || decide (NW f r w x > rk)) = true
  · rw [if_pos hc]
    refine .inr ⟨rfl, ⟨w, i, x, (h _ _ _).2 (.inr ⟨rfl, rfl, rfl⟩), hx, rfl, rfl, rfl⟩, fun w' i' x' hv hxo => ?_⟩
    rcases (h w' i' x').1 hv with hv | ⟨rfl, rfl, rfl⟩
    · rcases ht with ⟨h1, h2⟩ | ⟨h1, _, h4⟩
      · rw [h2 _ _ _ hv] at hxo; cases hxo
      · have := h4 _ _ _ hv hxo
        dsimp only at h1 this ⊢
        subst h1
        simp at hc
        omega
    · exact Int.le_refl _
  · rw [if_neg hc]
    rcases ht with ⟨h1, h2⟩ | ⟨h1, ⟨w1, i1, x1, h2, h3⟩, h4⟩
    · dsimp only at h1; subst h1; simp at hc
    · refine .inr ⟨h1, ⟨w1, i1, x1, (h _ _ _).2 (.inl h2), h3⟩, fun w' i' x' hv hxo => ?_⟩
      rcases (h w' i' x').1 hv with hv | ⟨rfl, rfl, rfl⟩
      · exact h4 _ _ _ hv hxo
      · dsimp only at h1 ⊢; subst h1; simp at hc; exact hc
theorem drive_best_eq {f : TField} (hs : Small f) (hf : FieldOK f) {r : Nat} (hr : r < nrun f) :
    ∃ t : Int × Int × Int × Bool, M79 f (r : Int) = some (⟨t.1, t.2.1, t.2.2.1⟩, t.2.2.2) ∧ DrB f r (Occ f r) t := by
  unfold M79 M50
  simp only [some_bind, worlds_eq hs hf]
  obtain ⟨t, h1, h2⟩ := worlds_inv (N := npair f + 1) (p := Poss f.Runners) (G := M78 f (r : Int)) (I := fun w t => DrB f r (Vis f r w 0) t) (s0 := (0, 0, 0, false)) (fun w t hw hp hI => by
    have hlen := wl_len hs hf hr hw
    obtain ⟨t', h1, h2⟩ := inv_loop (N := (wl f.Runners r w).length) (f := fun n i (t : Int × Int × Int × Bool) => M77 f (r : Int) (w : Int) (wl f.Runners r w) n (i : Int) t.1 t.2.1 t.2.2.1 t.2.2.2) (k := some) (I := fun i t => DrB f r (Vis f r w i) t) (s0 := t) (fun i t hi hI => by
      have ho : Occ f r w i (wl f.Runners r w)[i] := ⟨hw, hp, by simp [hi]⟩
      have hv : Ext1 (Vis f r w i) (Vis f r w (i + 1)) w i (wl f.Runners r w)[i] := Vis.succ ho
      have hxok := ho.ok hf hr
      have e1 : idx (wl f.Runners r w) (i : Int) = some (wl f.Runners r w)[i] := idx_lt hi
      generalize (wl f.Runners r w)[i] = x at ho hv hxok e1
      obtain ⟨a, b, rk, ok⟩ := t
      cases hx : x.Out with
      | true =>
        refine ⟨(a, b, rk, ok), hI.skip hv hx, fun n => ?_⟩
        show M77 f (r : Int) (w : Int) (wl f.Runners r w) (n + 1) (i : Int) a b rk ok = _
        rw [M77, dec_lt_nat, decide_eq_true hi, cond_true, e1, some_bind, hx, cond_true, w64_succ (by omega)]
      | false =>
        refine ⟨_, hI.step hv hx, fun n => ?_⟩
        show M77 f (r : Int) (w : Int) (wl f.Runners r w) (n + 1) (i : Int) a b rk ok = _
        rw [M77, dec_lt_nat, decide_eq_true hi, cond_true, e1, some_bind, hx, cond_false, fuel_sub, drive_best_count hs hf hr hw hp hxok hx, some_bind, w64_succ (by omega)]
        unfold M65
        cases ok with
        | false => rfl
        | true =>
          simp only [Bool.not_true, cond_false, some_bind, Bool.false_or]
          rw [Bool.cond_eq_ite]
          split <;> rfl) (fun n t => by
      show M77 f (r : Int) (w : Int) (wl f.Runners r w) (n + 1) (((wl f.Runners r w).length : Nat) : Int) t.1 t.2.1 t.2.2.1 t.2.2.2 = _
      rw [M77]; simp) hI
    refine ⟨t', ?_, h2.same (fun a b c => (Vis.next a b c).symm)⟩
    obtain ⟨a, b, rk, ok⟩ := t
    show (idx f.Runners (r : Int)).bind _ = _
    rw [idx_lt hr, some_bind, (wl_mem hf hr hw).2, some_bind, fuel_sub]
    dsimp only at h1
    refine Eq.trans (congrArg (fun z => Option.bind z _) h1) ?_
    rfl) (fun w t hw hp hI => hI.same (fun a b c => (Vis.skip hp a b c).symm)) (.inl ⟨rfl, fun w i x h => absurd h (Vis.zero w i x)⟩)
  refine ⟨t, ?_, h2.same (fun a b c => Vis.all a b c)⟩
  show Option.bind (foldO _ (listP (Poss f.Runners) 0 (npair f + 1)) _) _ = _
  rw [h1]
  rfl
theorem drive_worst_eq {f : TField} (hs : Small f) (hf : FieldOK f) {r : Nat} (hr : r < nrun f) :
    ∃ t : Int × Int × Int × Bool, M90 f (r : Int) = some (⟨t.1, t.2.1, t.2.2.1⟩, t.2.2.2) ∧ DrW f r (Occ f r) t := by
  unfold M90 M50
  simp only [some_bind, worlds_eq hs hf]
  obtain ⟨t, h1, h2⟩ := worlds_inv (N := npair f + 1) (p := Poss f.Runners) (G := M89 f (r : Int)) (I := fun w t => DrW f r (Vis f r w 0) t) (s0 := (0, 0, 0, false)) (fun w t hw hp hI => by
    have hlen := wl_len hs hf hr hw
    obtain ⟨t', h1, h2⟩ := inv_loop (N := (wl f.Runners r w).length) (f := fun n i (t : Int × Int × Int × Bool) => M88 f (r : Int) (w : Int) (wl f.Runners r w) n (i : Int) t.1 t.2.1 t.2.2.1 t.2.2.2) (k := some) (I := fun i t => DrW f r (Vis f r w i) t) (s0 := t) (fun i t hi hI => by
      have ho : Occ f r w i (wl f.Runners r w)[i] := ⟨hw, hp, by simp [hi]⟩
      have hv : Ext1 (Vis f r w i) (Vis f r w (i + 1)) w i (wl f.Runners r w)[i] := Vis.succ ho
      have hxok := ho.ok hf hr
      have e1 : idx (wl f.Runners r w) (i : Int) = some (wl f.Runners r w)[i] := idx_lt hi
      generalize (wl f.Runners r w)[i] = x at ho hv hxok e1
      obtain ⟨a, b, rk, ok⟩ := t
      cases hx : x.Out with
      | true =>
        refine ⟨(a, b, rk, ok), hI.skip hv hx, fun n => ?_⟩
        show M88 f (r : Int) (w : Int) (wl f.Runners r w) (n + 1) (i : Int) a b rk ok = _
        rw [M88, dec_lt_nat, decide_eq_true hi, cond_true, e1, some_bind, hx, cond_true, w64_succ (by omega)]
      | false =>
        refine ⟨_, hI.step hv hx, fun n => ?_⟩
        show M88 f (r : Int) (w : Int) (wl f.Runners r w) (n + 1) (i : Int) a b rk ok = _
        rw [M88, dec_lt_nat, decide_eq_true hi, cond_true, e1, some_bind, hx, cond_false, fuel_sub, drive_worst_count hs hf hr hw hp hxok hx, some_bind, w64_succ (by omega)]
        unfold M81
        cases ok with
        | false => rfl
        | true =>
          simp only [Bool.not_true, cond_false, some_bind, Bool.false_or]
          rw [Bool.cond_eq_ite]
          split <;> rfl) (fun n t => by
      show M88 f (r : Int) (w : Int) (wl f.Runners r w) (n + 1) (((wl f.Runners r w).length : Nat) : Int) t.1 t.2.1 t.2.2.1 t.2.2.2 = _
      rw [M88]; simp) hI
    refine ⟨t', ?_, h2.same (fun a b c => (Vis.next a b c).symm)⟩
    obtain ⟨a, b, rk, ok⟩ := t
    show (idx f.Runners (r : Int)).bind _ = _
    rw [idx_lt hr, some_bind, (wl_mem hf hr hw).2, some_bind, fuel_sub]
    dsimp only at h1
    refine Eq.trans (congrArg (fun z => Option.bind z _) h1) ?_
    rfl) (fun w t hw hp hI => hI.same (fun a b c => (Vis.skip hp a b c).symm)) (.inl ⟨rfl, fun w i x h => absurd h (Vis.zero w i x)⟩)
  refine ⟨t, ?_, h2.same (fun a b c => Vis.all a b c)⟩
  show Option.bind (foldO _ (listP (Poss f.Runners) 0 (npair f + 1)) _) _ = _
  rw [h1]
  rfl
theorem containsO_eq {l : List TOutcome} (hl : l.length ≤ 1000000) : M63 l = some (l.any (·.Out)) := by
  unfold M63 M62
  rw [fuel_sub]
  rcases find_at (l := l) (f := fun n i => M60 l M61 n (i : Int)) (p := fun x => x.Out) (A := fun i _ => (i : Int)) (k := some (-1)) (fun n i hi => by
    show M60 l _ (n + 1) (i : Int) = _
    rw [M60, dec_lt_nat, decide_eq_true hi, cond_true, idx_lt hi, some_bind, w64_succ (by omega)]
    unfold M59
    rw [some_bind, Bool.cond_eq_ite]) (fun n => by
    show M60 l _ (n + 1) ((l.length : Nat) : Int) = _
    rw [M60]
    simp [M61]) with ⟨i, hi, h1, h2, _⟩ | ⟨h1, h2⟩
  · have ha : l.any (·.Out) = true := List.any_eq_true.2 ⟨_, List.getElem_mem hi, h1⟩
    rw [ha]
    refine Eq.trans (congrArg (fun z => Option.bind z _) h2) ?_
    rw [some_bind, decide_eq_true (by omega)]
  · have ha : l.any (·.Out) = false := by
      rw [← Bool.not_eq_true]
      intro h
      obtain ⟨y, hy, hp⟩ := List.any_eq_true.1 h
      rw [h1 y hy] at hp
      cases hp
    rw [ha]
    refine Eq.trans (congrArg (fun z => Option.bind z _) h2) ?_
    rfl
theorem of_out {f : TField} (hs : Small f) (hf : FieldOK f) {r : Nat} (hr : r < nrun f) :
    ∃ o, foldO (M91 f (r : Int)) (listP (Poss f.Runners) 0 (npair f + 1)) false = some o ∧ IsOut (Occ f r) o := by
  obtain ⟨o, h1, h2⟩ := worlds_inv (N := npair f + 1) (p := Poss f.Runners) (G := M91 f (r : Int)) (I := fun w o => IsOut (Vis f r w 0) o) (s0 := false) (fun w o hw hp hI => by
    have hlen := wl_len hs hf hr hw
    refine ⟨o || (wl f.Runners r w).any (·.Out), ?_, ?_⟩
    · unfold M91
      dsimp only
      rw [idx_lt hr, some_bind, (wl_mem hf hr hw).2, some_bind, containsO_eq (by omega)]
      cases o <;> rfl
    · unfold IsOut at hI ⊢
      rw [Bool.or_eq_true, hI, List.any_eq_true]
      constructor
      · rintro (⟨w', i', x', h1, h2⟩ | ⟨x, h1, h2⟩)
        · exact ⟨w', i', x', ⟨by have := h1.1; omega, h1.2⟩, h2⟩
        · obtain ⟨i, hi, rfl⟩ := List.mem_iff_getElem.1 h1
          exact ⟨w, i, _, ⟨by omega, hw, hp, by simp [hi]⟩, h2⟩
      · rintro ⟨w', i', x', ⟨h1, h2⟩, h3⟩
        by_cases e : w' = w
        · subst e; exact .inr ⟨x', List.mem_of_getElem? h2.2.2, h3⟩
        · exact .inl ⟨w', i', x', ⟨by omega, h2⟩, h3⟩) (fun w o hw hp hI => by
    have h : Same (Vis f r w 0) (Vis f r (w + 1) 0) := fun a b c => (Vis.skip hp a b c).symm
    exact h.out hI) ⟨fun h => (by cases h), fun ⟨w, i, x, h, _⟩ => absurd h (Vis.zero w i x)⟩
  have h : Same (Vis f r (npair f + 1) 0) (Occ f r) := fun a b c => Vis.all a b c
  exact ⟨o, h1, h.out h2⟩
theorem of_eq {f : TField} (hs : Small f) (hf : FieldOK f) {r : Nat} (hr : r < nrun f) :
    ∃ x, M92 f (r : Int) = some x ∧ IsRank f r x := by
  obtain ⟨o, h1, h2⟩ := of_out hs hf hr
  obtain ⟨⟨a, b, rk, ok⟩, h3, h4⟩ := drive_best_eq hs hf hr
  obtain ⟨⟨a', b', rk', ok'⟩, h5, h6⟩ := drive_worst_eq hs hf hr
  have hw := worlds_eq hs hf
  unfold M92 M50 M64 M80
  rw [idx_lt hr]
  simp only [some_bind, hw]
  rw [show foldO (M91 f (r : Int)) (listP (Poss f.Runners) 0 (f.Pairs.length + 1)) false = some o from h1, some_bind, h3]
  simp only [some_bind]
  have hbib : f.Runners[r]?.map (·.Bib) = some f.Runners[r].Bib := by
    have : r < f.Runners.length := hr
    simp [this]
  rcases h4 with ⟨g1, g2⟩ | ⟨g1, ⟨w, i, x, g2, g3, g4, g5, g6⟩, g7⟩
  · dsimp only at g1
    subst g1
    rw [Bool.not_false, cond_true]
    exact ⟨_, rfl, hbib, .inl ⟨rfl, g2⟩, .inl ⟨rfl, g2⟩, h2, by simp⟩
  · dsimp only at g1 g4 g5 g6 g7
    subst g1
    rw [Bool.not_true, cond_false, h5]
    simp only [some_bind]
    have hlo : IsLo (NB f r) (Occ f r) rk := .inr ⟨⟨w, i, x, g2, g3, g6⟩, g7⟩
    have hhi : IsHi (NW f r) (Occ f r) rk' := by
      rcases h6 with ⟨k1, k2⟩ | ⟨k1, ⟨w', i', x', k2, k3, k4, k5, k6⟩, k7⟩
      · rw [k2 _ _ _ g2] at g3; cases g3
      · exact .inr ⟨⟨w', i', x', k2, k3, k6⟩, k7⟩
    have hz : rk ≠ 0 := by have := NB_pos f r w x; omega
    rw [bif_eq]
    by_cases e : rk = rk'
    · rw [if_pos e]
      cases o with
      | false => exact ⟨_, rfl, hbib, hlo, hhi, h2, by simp [hz, e]; intro h; omega⟩
      | true => exact ⟨_, rfl, hbib, hlo, hhi, h2, by simp [hz]⟩
    · rw [if_neg e]; exact ⟨_, rfl, hbib, hlo, hhi, h2, by simp [hz, e]⟩
theorem Of_ok {f : TField} (hs : Small f) (hf : FieldOK f) {r : Nat} (hr : r < nrun f) :
    ∃ x, M93 f (r : Int) = some (x, 0) ∧ M292 f (r : Int) = some (x, 0) ∧ M92 f (r : Int) = some x ∧ IsRank f r x := by
  obtain ⟨x, h1, h2⟩ := of_eq hs hf hr
  obtain ⟨y, h3, h4⟩ := ref_Of_eq hs hf hr
  have := h2.uniq h4
  subst this
  refine ⟨x, ?_, h3, h1, h2⟩
  unfold M93
  rw [ranks_check_eq hs (by simp), chk_pos hf, chk_pos (by simpa using inR_of hr), some_bind, h1]
  rfl
def IsRanks (f : TField) (l : List TRank) : Prop := l.length = nrun f ∧ ∀ i x, l[i]? = some x → IsRank f i x
theorem IsRanks.uniq {f : TField} {l m : List TRank} (hl : IsRanks f l) (hm : IsRanks f m) : l = m := by
  obtain ⟨h1, h2⟩ := hl
  obtain ⟨h3, h4⟩ := hm
  refine List.ext_getElem (by omega) fun i hi hj => ?_
  exact (h2 i _ (by simp [hi])).uniq (h4 i _ (by simp [hj]))
theorem IsRanks.snoc {f : TField} {i : Nat} {l : List TRank} {x : TRank} (h : l.length = i ∧ ∀ j x, l[j]? = some x → IsRank f j x) (hx : IsRank f i x) : (l ++ [x]).length = i + 1 ∧ ∀ j y, (l ++ [x])[j]? = some y → IsRank f j y := by
  obtain ⟨h1, h2⟩ := h
  refine ⟨by simp [h1], fun j y hj => ?_⟩
  by_cases e : j < l.length
  · rw [List.getElem?_append_left e] at hj; exact h2 j y hj
  · rw [List.getElem?_append_right (by omega)] at hj
    have : j - l.length = 0 := by
      have := (List.getElem?_eq_some_iff.1 hj).1
      simp at this; omega
    rw [this] at hj
    simp at hj
    subst hj
    have : j = i := by omega
    exact this ▸ hx
def off (h : THistory) (i : Nat) : Int := ((0 :: h.Offsets)[i]?).getD 0
def ch (h : THistory) (k : Nat) : TChoice := (h.Choices[k]?).getD default
def oc (f : TField) (h : THistory) (k : Nat) : TOutcome := ((wl f.Runners k h.World.toNat)[(ch h k).Outcome.toNat]?).getD default
def net (f : TField) (h : THistory) (k : Nat) : Int := (ch h k).X + off h (vr (oc f h k))
structure Adm (f : TField) (h : THistory) : Prop where
  world : 0 ≤ h.World ∧ h.World < npair f + 1
  poss : Poss f.Runners h.World.toNat
  offs : h.Offsets.length = nseg f
  chs : h.Choices.length = nrun f
  small : ∀ i, i < nseg f + 1 → -1125899906842624 ≤ off h i ∧ off h i ≤ 1125899906842624
  tri : ∀ i, i < nseg f + 1 → ∀ k, k < nseg f + 1 → off h k - off h i ≤ far f i k
  choice : ∀ k, k < nrun f → 0 ≤ (ch h k).Outcome ∧ (ch h k).Outcome < (wl f.Runners k h.World.toNat).length ∧ ((oc f h k).Out = true → (ch h k).X = 0) ∧ ((oc f h k).Out = false → (oc f h k).Lo ≤ (ch h k).X ∧ (ch h k).X ≤ (oc f h k).Hi)
theorem Adm.nat {f : TField} {h : THistory} (ha : Adm f h) : h.World = (h.World.toNat : Int) ∧ h.World.toNat < npair f + 1 := by
  have := ha.world
  omega
theorem ch_get {h : THistory} {k : Nat} (hk : k < h.Choices.length) : h.Choices[k] = ch h k := by unfold ch; simp [hk]
theorem ch_idx {f : TField} {h : THistory} (ha : Adm f h) {k : Nat} (hk : k < nrun f) : idx h.Choices (k : Int) = some (ch h k) := by
  have : k < h.Choices.length := by rw [ha.chs]; exact hk
  rw [idx_lt this, ch_get this]
theorem oc_occ {f : TField} {h : THistory} (ha : Adm f h) {k : Nat} (hk : k < nrun f) : Occ f k h.World.toNat (ch h k).Outcome.toNat (oc f h k) := by
  obtain ⟨h1, h2, _⟩ := ha.choice k hk
  refine ⟨ha.nat.2, ha.poss, ?_⟩
  have : (ch h k).Outcome.toNat < (wl f.Runners k h.World.toNat).length := by omega
  unfold oc
  simp [this]
theorem oc_ok {f : TField} (hf : FieldOK f) {h : THistory} (ha : Adm f h) {k : Nat} (hk : k < nrun f) : OutOK f.Clocks (oc f h k) := (oc_occ ha hk).ok hf hk
theorem oc_mem {f : TField} {h : THistory} (ha : Adm f h) {k : Nat} (hk : k < nrun f) : oc f h k ∈ wl f.Runners k h.World.toNat := List.mem_of_getElem? (oc_occ ha hk).2.2
theorem off_idx {f : TField} {h : THistory} (ha : Adm f h) {i : Nat} (hi : i < nseg f) : idx h.Offsets (i : Int) = some (off h (i + 1)) := by
  have : i < h.Offsets.length := by rw [ha.offs]; exact hi
  rw [idx_lt this]; unfold off; simp [this]
theorem vr_lt {f : TField} (hf : FieldOK f) {x : TOutcome} (hx : OutOK f.Clocks x) (hxo : x.Out = false) : vr x < nseg f + 1 := (vr_eq hf.clocks hx hxo).2
theorem net_bound {f : TField} (hf : FieldOK f) {h : THistory} (ha : Adm f h) {k : Nat} (hk : k < nrun f) (hxo : (oc f h k).Out = false) : -300000000000000000 ≤ net f h k ∧ net f h k ≤ 300000000000000000 := by
  have hx := oc_ok hf ha hk
  obtain ⟨_, _, h1, h2, h3⟩ := hx.2 hxo
  have h4 := (ha.choice k hk).2.2.2 hxo
  have h5 := ha.small _ (vr_lt hf hx hxo)
  unfold net
  omega
def inFr (f : TField) (h : THistory) (a b : Nat) : Bool := !(oc f h a).Out && ((oc f h b).Out || front f a b (net f h a - net f h b))
def rank (f : TField) (h : THistory) (r : Nat) : Nat := if (oc f h r).Out = true then 0 else 1 + (List.range (nrun f)).countP (fun k => inFr f h k r)
theorem front_mono {f : TField} {k r : Nat} {d e : Int} (h : e ≤ d) (hd : front f k r d = true) : front f k r e = true := by
  unfold front at *
  simp only [Bool.or_eq_true, Bool.and_eq_true, decide_eq_true_eq] at *
  rcases hd with hd | ⟨hd, hk⟩
  · left; omega
  · by_cases he : e < 0
    · exact .inl he
    · exact .inr ⟨by omega, hk⟩
theorem off_diff {f : TField} {h : THistory} (ha : Adm f h) {i k : Nat} (hi : i < nseg f + 1) (hk : k < nseg f + 1) : off h k - off h i ≤ far f i k := ha.tri i hi k hk
theorem forced_inFr {f : TField} (hf : FieldOK f) {h : THistory} (ha : Adm f h) {r k : Nat} (hr : r < nrun f) (hk : k < nrun f) (hxo : (oc f h r).Out = false) (hF : forced f r (oc f h r) k (oc f h k) = true) : inFr f h k r = true := by
  unfold forced at hF
  unfold inFr
  rw [Bool.and_eq_true] at hF ⊢
  refine ⟨hF.1, ?_⟩
  rw [Bool.or_eq_true]
  right
  have hyo : (oc f h k).Out = false := by simpa using hF.1
  refine front_mono ?_ hF.2
  have h1 := (ha.choice r hr).2.2.2 hxo
  have h2 := (ha.choice k hk).2.2.2 hyo
  have h3 := off_diff ha (vr_lt hf (oc_ok hf ha hr) hxo) (vr_lt hf (oc_ok hf ha hk) hyo)
  unfold net
  omega
theorem inFr_can {f : TField} (hf : FieldOK f) {h : THistory} (ha : Adm f h) {r k : Nat} (hr : r < nrun f) (hk : k < nrun f) (hxo : (oc f h r).Out = false) (hF : inFr f h k r = true) : can f r (oc f h r) k (oc f h k) = true := by
  unfold inFr at hF
  unfold can
  rw [Bool.and_eq_true] at hF ⊢
  refine ⟨hF.1, ?_⟩
  have h0 := hF.2
  rw [hxo, Bool.false_or] at h0
  have hyo : (oc f h k).Out = false := by simpa using hF.1
  refine front_mono ?_ h0
  have h1 := (ha.choice r hr).2.2.2 hxo
  have h2 := (ha.choice k hk).2.2.2 hyo
  have h3 := off_diff ha (vr_lt hf (oc_ok hf ha hk) hyo) (vr_lt hf (oc_ok hf ha hr) hxo)
  unfold net
  omega
theorem inFr_self {f : TField} {h : THistory} {r : Nat} (hxo : (oc f h r).Out = false) : inFr f h r r = false := by
  unfold inFr front
  rw [hxo]
  simp [kLt_irrefl]
theorem countP_le_of {N : Nat} {p q : Nat → Bool} (h : ∀ i, i < N → p i = true → q i = true) : (List.range N).countP p ≤ (List.range N).countP q :=
  List.countP_mono_left fun i hi hp => h i (by simpa using hi) hp
theorem countP_eq_of {N : Nat} {p q : Nat → Bool} (h : ∀ i, i < N → p i = q i) : (List.range N).countP p = (List.range N).countP q :=
  List.countP_congr fun i hi => by rw [h i (by simpa using hi)]
theorem rank_between {f : TField} (hf : FieldOK f) {h : THistory} (ha : Adm f h) {r : Nat} (hr : r < nrun f) (hxo : (oc f h r).Out = false) :
    NB f r h.World.toNat (oc f h r) ≤ rank f h r ∧ (rank f h r : Int) ≤ NW f r h.World.toNat (oc f h r) := by
  unfold rank NB NW nBest nWorst
  rw [hxo]
  simp only [Bool.false_eq_true, if_false]
  have h1 := countP_le_of (N := nrun f) (p := sureK f h.World.toNat r (oc f h r)) (q := fun k => inFr f h k r) (fun k hk hp => by
    unfold sureK at hp
    rw [Bool.and_eq_true, List.all_eq_true] at hp
    exact forced_inFr hf ha hr hk hxo (hp.2 _ (oc_mem ha hk)))
  have h2 := countP_le_of (N := nrun f) (p := fun k => inFr f h k r) (q := mayK f h.World.toNat r (oc f h r)) (fun k hk hp => by
    unfold mayK
    rw [Bool.and_eq_true, List.any_eq_true, decide_eq_true_iff]
    refine ⟨?_, _, oc_mem ha hk, inFr_can hf ha hr hk hxo hp⟩
    rintro rfl
    rw [inFr_self hxo] at hp
    cases hp)
  omega
theorem rank_zero {f : TField} {h : THistory} {r : Nat} : rank f h r = 0 ↔ (oc f h r).Out = true := by
  unfold rank
  by_cases e : (oc f h r).Out = true
  · simp [e]
  · simp [e]
theorem rank_known {f : TField} (hf : FieldOK f) {h : THistory} (ha : Adm f h) {r : Nat} (hr : r < nrun f) {x : TRank} (hx : IsRank f r x) :
    (rank f h r = 0 ∧ x.Out = true) ∨ (1 ≤ rank f h r ∧ 1 ≤ x.Lo ∧ x.Lo ≤ rank f h r ∧ (rank f h r : Int) ≤ x.Hi) := by
  have ho := oc_occ ha hr
  cases hxo : (oc f h r).Out with
  | true => exact .inl ⟨rank_zero.2 hxo, hx.out.2 ⟨_, _, _, ho, hxo⟩⟩
  | false =>
    right
    obtain ⟨h1, h2⟩ := rank_between hf ha hr hxo
    have h3 := NB_pos f r h.World.toNat (oc f h r)
    rcases hx.lo with ⟨_, h4⟩ | ⟨⟨w, i, y, _, _, h6⟩, h5⟩
    · rw [h4 _ _ _ ho] at hxo; cases hxo
    · have h7 := h5 _ _ _ ho hxo
      have h8 := NB_pos f r w y
      rcases hx.hi with ⟨_, h9⟩ | ⟨_, h9⟩
      · rw [h9 _ _ _ ho] at hxo; cases hxo
      · have h10 := h9 _ _ _ ho hxo
        omega
def bOff (f : TField) (v k : Nat) : Int := far f v k - far f v 0
def wOff (f : TField) (v k : Nat) : Int := far f 0 v - far f k v
def BChoice (f : TField) (r w i : Nat) (x : TOutcome) (k : Nat) (c : TChoice) : Prop := (k = r ∧ c = ⟨(i : Int), x.Lo⟩) ∨ (k ≠ r ∧ ∃ j : Nat, ∃ y, (wl f.Runners k w)[j]? = some y ∧ c = ⟨(j : Int), if y.Out = true then 0 else y.Hi⟩ ∧ forced f r x k y = (wl f.Runners k w).all (forced f r x k))
def WChoice (f : TField) (r w i : Nat) (x : TOutcome) (k : Nat) (c : TChoice) : Prop := (k = r ∧ c = ⟨(i : Int), x.Hi⟩) ∨ (k ≠ r ∧ ∃ j : Nat, ∃ y, (wl f.Runners k w)[j]? = some y ∧ c = ⟨(j : Int), if y.Out = true then 0 else y.Lo⟩ ∧ can f r x k y = (wl f.Runners k w).any (can f r x k))
def Lst {α : Type} (P : Nat → α → Prop) (i : Nat) (l : List α) : Prop := l.length = i ∧ ∀ j x, l[j]? = some x → P j x
theorem Lst.snoc {α : Type} {P : Nat → α → Prop} {i : Nat} {l : List α} {x : α} (h : Lst P i l) (hx : P i x) : Lst P (i + 1) (l ++ [x]) := by
  obtain ⟨h1, h2⟩ := h
  refine ⟨by simp [h1], fun j y hj => ?_⟩
  by_cases e : j < l.length
  · rw [List.getElem?_append_left e] at hj; exact h2 j y hj
  · rw [List.getElem?_append_right (by omega)] at hj
    have : j - l.length = 0 := by
      have := (List.getElem?_eq_some_iff.1 hj).1
      simp at this; omega
    rw [this] at hj
    simp at hj
    subst hj
    have : j = i := by omega
    exact this ▸ hx
theorem Lst.nil {α : Type} {P : Nat → α → Prop} : Lst P 0 [] := ⟨rfl, fun j x h => by simp at h⟩
theorem hist1_best {f : TField} (hf : FieldOK f) {x : TOutcome} (hx : OutOK f.Clocks x) (hxo : x.Out = false) {k : Nat} (hk : k < nseg f + 1) {o : Int} (ho : -2199023255552 ≤ o ∧ o ≤ 2199023255552) :
    M94 (k : Int) o f.Clocks.Segments f.Clocks.Far f.Pairs f.Runners (w64 (x.Seg + 1)) = some (o + at2 f.Clocks.Far (vr x) k) := by
  obtain ⟨e1, h1⟩ := vr_eq hf.clocks hx hxo
  obtain ⟨row, g1, g2⟩ := far_get hf.clocks h1 hk
  have b := far_bound hf h1 hk
  unfold far at b
  unfold M94 M67
  simp only [e1, g1, g2, some_bind]
  rw [w64_of (by omega) (by omega)]
theorem offs_best_L1 {f : TField} (hf : FieldOK f) {x : TOutcome} (hx : OutOK f.Clocks x) (hxo : x.Out = false) :
    M95 f x (far f (vr x) 0) (nseg f + 1) 0 [] = some ((List.range (nseg f)).map fun k => bOff f (vr x) (k + 1)) := by
  have hsg : nseg f ≤ 511 := hf.clocks.few
  have hv := vr_lt hf hx hxo
  have b0 := far_bound hf hv (j := 0) (by omega)
  have := map_loop (b := 8) (l := List.range (nseg f)) (f := fun n i l => M95 f x (far f (vr x) 0) n (i : Int) l) (g := fun k => bOff f (vr x) (k + 1)) (k := some) (by simp; omega) (by simp; omega) (fun n i hi s => by
    have hi' : i < nseg f := by simpa using hi
    show M95 f x (far f (vr x) 0) (n + 1) (i : Int) s = _
    rw [M95, dec_lt_nat, decide_eq_true hi', cond_true, w64_succ (by omega), w64_of (n := 0 - (far f (vr x) 0)) (by omega) (by omega), hist1_best hf hx hxo (k := i + 1) (by omega) (by omega), some_bind]
    have e : 0 - (far f (vr x) 0) + at2 f.Clocks.Far (vr x) (i + 1) = bOff f (vr x) (i + 1) := by unfold bOff far; omega
    rw [e]
    simp) (fun n s => by
    show M95 f x (far f (vr x) 0) (n + 1) (((List.range (nseg f)).length : Nat) : Int) s = _
    rw [M95]; simp)
  simpa using this
theorem offs_best_L3 {f : TField} (hf : FieldOK f) {x : TOutcome} (hx : OutOK f.Clocks x) (hxo : x.Out = false) (hz : vr x = 0) :
    M97 f x (nseg f + 1) 0 [] = some ((List.range (nseg f)).map fun k => bOff f (vr x) (k + 1)) := by
  have hsg : nseg f ≤ 511 := hf.clocks.few
  have hv := vr_lt hf hx hxo
  have b0 := far_self hf (i := 0) (by omega)
  have := map_loop (b := 8) (l := List.range (nseg f)) (f := fun n i l => M97 f x n (i : Int) l) (g := fun k => bOff f (vr x) (k + 1)) (k := some) (by simp; omega) (by simp; omega) (fun n i hi s => by
    have hi' : i < nseg f := by simpa using hi
    show M97 f x (n + 1) (i : Int) s = _
    rw [M97, dec_lt_nat, decide_eq_true hi', cond_true, w64_succ (by omega), hist1_best hf hx hxo (k := i + 1) (by omega) (by omega), some_bind]
    have e : 0 + at2 f.Clocks.Far (vr x) (i + 1) = bOff f (vr x) (i + 1) := by unfold bOff; rw [hz]; unfold far at b0 ⊢; omega
    rw [e]
    simp) (fun n s => by
    show M97 f x (n + 1) (((List.range (nseg f)).length : Nat) : Int) s = _
    rw [M97]; simp)
  simpa using this
theorem chs_best_L2 {f : TField} (hs : Small f) (hf : FieldOK f) {r w i : Nat} (hr : r < nrun f) {x : TOutcome} (ho : Occ f r w i x) (hxo : x.Out = false) (rk : Int) :
    ∃ l, M96 f (r : Int) ⟨(w : Int), (i : Int), rk⟩ x (nrun f + 1) 0 [] = some l ∧ Lst (BChoice f r w i x) (nrun f) l := by
  have hlen : nrun f ≤ 1000000 := hs.runners
  have hx := ho.ok hf hr
  obtain ⟨hw, hp, ho'⟩ := ho
  exact inv_loop (N := nrun f) (f := fun n k l => M96 f (r : Int) ⟨(w : Int), (i : Int), rk⟩ x n (k : Int) l) (k := some) (I := Lst (BChoice f r w i x)) (s0 := []) (fun k l hk hI => by
    have e1 := hI.1
    have happ : ∀ c : TChoice, app 16 l [c] = some (l ++ [c]) := fun c => app_ok (by simp; omega) (by simp; omega)
    by_cases hkr : k = r
    · refine ⟨l ++ [⟨(i : Int), x.Lo⟩], hI.snoc (.inl ⟨hkr, rfl⟩), fun n => ?_⟩
      have hil : i < (wl f.Runners r w).length := (List.getElem?_eq_some_iff.1 ho').1
      have hix : idx (wl f.Runners r w) (i : Int) = some x := by
        rw [idx_lt hil, ← List.getElem?_eq_getElem hil]; exact ho'
      subst hkr
      show M96 f (k : Int) ⟨(w : Int), (i : Int), rk⟩ x (n + 1) (k : Int) l = _
      rw [M96, dec_lt_nat, decide_eq_true hk, cond_true, idx_lt hk, some_bind, bif_ne, if_pos rfl, (wl_mem hf hk hw).2, some_bind, hix, some_bind, hxo, w64_succ (by omega)]
      unfold M68
      simp only [Bool.not_false, cond_true, some_bind, happ]
    · obtain ⟨j, y, h1, h2, h3⟩ := choose_best_eq hs hf hr hk hw (hp k hk) hx hxo
      have hjl : j < (wl f.Runners k w).length := (List.getElem?_eq_some_iff.1 h1).1
      have hjy : idx (wl f.Runners k w) (j : Int) = some y := by
        rw [idx_lt hjl, ← List.getElem?_eq_getElem hjl]; exact h1
      refine ⟨l ++ [⟨(j : Int), if y.Out = true then 0 else y.Hi⟩], hI.snoc (.inr ⟨hkr, j, y, h1, rfl, h3⟩), fun n => ?_⟩
      show M96 f (r : Int) ⟨(w : Int), (i : Int), rk⟩ x (n + 1) (k : Int) l = _
      rw [M96, dec_lt_nat, decide_eq_true hk, cond_true, idx_lt hk, some_bind, bif_ne, if_neg (by omega), h2, w64_succ (by omega)]
      unfold M66
      simp only [some_bind, (wl_mem hf hk hw).2, hjy]
      cases y.Out <;> simp [happ, some_bind]) (fun n l => by
    show M96 f (r : Int) ⟨(w : Int), (i : Int), rk⟩ x (n + 1) ((nrun f : Nat) : Int) l = _
    rw [M96]; simp) Lst.nil
theorem chs_best_L4 {f : TField} (hs : Small f) (hf : FieldOK f) {r w i : Nat} (hr : r < nrun f) {x : TOutcome} (ho : Occ f r w i x) (hxo : x.Out = false) (rk : Int) :
    ∃ l, M98 f (r : Int) ⟨(w : Int), (i : Int), rk⟩ x (nrun f + 1) 0 [] = some l ∧ Lst (BChoice f r w i x) (nrun f) l := by
  have hlen : nrun f ≤ 1000000 := hs.runners
  have hx := ho.ok hf hr
  obtain ⟨hw, hp, ho'⟩ := ho
  exact inv_loop (N := nrun f) (f := fun n k l => M98 f (r : Int) ⟨(w : Int), (i : Int), rk⟩ x n (k : Int) l) (k := some) (I := Lst (BChoice f r w i x)) (s0 := []) (fun k l hk hI => by
    have e1 := hI.1
    have happ : ∀ c : TChoice, app 16 l [c] = some (l ++ [c]) := fun c => app_ok (by simp; omega) (by simp; omega)
    by_cases hkr : k = r
    · refine ⟨l ++ [⟨(i : Int), x.Lo⟩], hI.snoc (.inl ⟨hkr, rfl⟩), fun n => ?_⟩
      have hil : i < (wl f.Runners r w).length := (List.getElem?_eq_some_iff.1 ho').1
      have hix : idx (wl f.Runners r w) (i : Int) = some x := by
        rw [idx_lt hil, ← List.getElem?_eq_getElem hil]; exact ho'
      subst hkr
      show M98 f (k : Int) ⟨(w : Int), (i : Int), rk⟩ x (n + 1) (k : Int) l = _
      rw [M98, dec_lt_nat, decide_eq_true hk, cond_true, idx_lt hk, some_bind, bif_ne, if_pos rfl, (wl_mem hf hk hw).2, some_bind, hix, some_bind, hxo, w64_succ (by omega)]
      unfold M68
      simp only [Bool.not_false, cond_true, some_bind, happ]
    · obtain ⟨j, y, h1, h2, h3⟩ := choose_best_eq hs hf hr hk hw (hp k hk) hx hxo
      have hjl : j < (wl f.Runners k w).length := (List.getElem?_eq_some_iff.1 h1).1
      have hjy : idx (wl f.Runners k w) (j : Int) = some y := by
        rw [idx_lt hjl, ← List.getElem?_eq_getElem hjl]; exact h1
      refine ⟨l ++ [⟨(j : Int), if y.Out = true then 0 else y.Hi⟩], hI.snoc (.inr ⟨hkr, j, y, h1, rfl, h3⟩), fun n => ?_⟩
      show M98 f (r : Int) ⟨(w : Int), (i : Int), rk⟩ x (n + 1) (k : Int) l = _
      rw [M98, dec_lt_nat, decide_eq_true hk, cond_true, idx_lt hk, some_bind, bif_ne, if_neg (by omega), h2, w64_succ (by omega)]
      unfold M66
      simp only [some_bind, (wl_mem hf hk hw).2, hjy]
      cases y.Out <;> simp [happ, some_bind]) (fun n l => by
    show M98 f (r : Int) ⟨(w : Int), (i : Int), rk⟩ x (n + 1) ((nrun f : Nat) : Int) l = _
    rw [M98]; simp) Lst.nil
theorem history_best_eq {f : TField} (hs : Small f) (hf : FieldOK f) {r w i : Nat} (hr : r < nrun f) {x : TOutcome} (ho : Occ f r w i x) (hxo : x.Out = false) (rk : Int) :
    ∃ l, M99 f (r : Int) ⟨(w : Int), (i : Int), rk⟩ = some ⟨(w : Int), (List.range (nseg f)).map (fun k => bOff f (vr x) (k + 1)), l⟩ ∧ Lst (BChoice f r w i x) (nrun f) l := by
  have hx := ho.ok hf hr
  have hil : i < (wl f.Runners r w).length := (List.getElem?_eq_some_iff.1 ho.2.2).1
  have hix : idx (wl f.Runners r w) (i : Int) = some x := by
    rw [idx_lt hil, ← List.getElem?_eq_getElem hil]; exact ho.2.2
  obtain ⟨e1, hv⟩ := vr_eq hf.clocks hx hxo
  unfold M99
  rw [idx_lt hr, some_bind, (wl_mem hf hr ho.1).2, some_bind, hix, some_bind, e1, bif_dec]
  by_cases hz : vr x = 0
  · obtain ⟨l, h1, h2⟩ := chs_best_L4 hs hf hr ho hxo rk
    rw [if_neg (by omega), fuel_sub, fuel_sub]
    replace h1 : M98 f (r : Int) ⟨(w : Int), (i : Int), rk⟩ x (f.Runners.length + 1) 0 [] = some l := h1
    have h3 : M97 f x (f.Clocks.Segments.length + 1) 0 [] = _ := offs_best_L3 hf hx hxo hz
    rw [h1, h3]
    exact ⟨l, rfl, h2⟩
  · obtain ⟨l, h1, h2⟩ := chs_best_L2 hs hf hr ho hxo rk
    obtain ⟨row, g1, g2⟩ := far_get hf.clocks hv (j := 0) (by omega)
    rw [if_pos (by omega)]
    unfold M67
    have ez : ((0 : Nat) : Int) = 0 := rfl
    rw [ez] at g2
    rw [g1, some_bind, g2, some_bind, some_bind, fuel_sub, fuel_sub]
    replace h1 : M96 f (r : Int) ⟨(w : Int), (i : Int), rk⟩ x (f.Runners.length + 1) 0 [] = some l := h1
    have h3 : M95 f x (far f (vr x) 0) (f.Clocks.Segments.length + 1) 0 [] = _ := offs_best_L1 hf hx hxo
    rw [h1, h3]
    exact ⟨l, rfl, h2⟩
theorem hist1_worst {f : TField} (hf : FieldOK f) {x : TOutcome} (hx : OutOK f.Clocks x) (hxo : x.Out = false) {k : Nat} (hk : k < nseg f + 1) {o : Int} (ho : -2199023255552 ≤ o ∧ o ≤ 2199023255552) :
    M119 (k : Int) o f.Clocks.Segments f.Clocks.Far f.Pairs f.Runners (w64 (x.Seg + 1)) = some (o + (0 - at2 f.Clocks.Far k (vr x))) := by
  obtain ⟨e1, h1⟩ := vr_eq hf.clocks hx hxo
  obtain ⟨row, g1, g2⟩ := far_get hf.clocks hk h1
  have b := far_bound hf hk h1
  unfold far at b
  unfold M119 M82
  simp only [e1, g1, g2, some_bind]
  rw [w64_of (n := 0 - _) (by omega) (by omega), w64_of (by omega) (by omega)]
theorem offs_worst_L1 {f : TField} (hf : FieldOK f) {x : TOutcome} (hx : OutOK f.Clocks x) (hxo : x.Out = false) :
    M120 f x (0 - far f 0 (vr x)) (nseg f + 1) 0 [] = some ((List.range (nseg f)).map fun k => wOff f (vr x) (k + 1)) := by
  have hsg : nseg f ≤ 511 := hf.clocks.few
  have hv := vr_lt hf hx hxo
  have b0 := far_bound hf (i := 0) (by omega) hv
  have := map_loop (b := 8) (l := List.range (nseg f)) (f := fun n i l => M120 f x (0 - far f 0 (vr x)) n (i : Int) l) (g := fun k => wOff f (vr x) (k + 1)) (k := some) (by simp; omega) (by simp; omega) (fun n i hi s => by
    have hi' : i < nseg f := by simpa using hi
    show M120 f x (0 - far f 0 (vr x)) (n + 1) (i : Int) s = _
    rw [M120, dec_lt_nat, decide_eq_true hi', cond_true, w64_succ (by omega), w64_of (n := 0 - (0 - far f 0 (vr x))) (by omega) (by omega), hist1_worst hf hx hxo (k := i + 1) (by omega) (by omega), some_bind]
    have e : 0 - (0 - far f 0 (vr x)) + (0 - at2 f.Clocks.Far (i + 1) (vr x)) = wOff f (vr x) (i + 1) := by unfold wOff far; omega
    rw [e]
    simp) (fun n s => by
    show M120 f x (0 - far f 0 (vr x)) (n + 1) (((List.range (nseg f)).length : Nat) : Int) s = _
    rw [M120]; simp)
  simpa using this
theorem offs_worst_L3 {f : TField} (hf : FieldOK f) {x : TOutcome} (hx : OutOK f.Clocks x) (hxo : x.Out = false) (hz : vr x = 0) :
    M122 f x (nseg f + 1) 0 [] = some ((List.range (nseg f)).map fun k => wOff f (vr x) (k + 1)) := by
  have hsg : nseg f ≤ 511 := hf.clocks.few
  have hv := vr_lt hf hx hxo
  have b0 := far_self hf (i := 0) (by omega)
  have := map_loop (b := 8) (l := List.range (nseg f)) (f := fun n i l => M122 f x n (i : Int) l) (g := fun k => wOff f (vr x) (k + 1)) (k := some) (by simp; omega) (by simp; omega) (fun n i hi s => by
    have hi' : i < nseg f := by simpa using hi
    show M122 f x (n + 1) (i : Int) s = _
    rw [M122, dec_lt_nat, decide_eq_true hi', cond_true, w64_succ (by omega), hist1_worst hf hx hxo (k := i + 1) (by omega) (by omega), some_bind]
    have e : 0 + (0 - at2 f.Clocks.Far (i + 1) (vr x)) = wOff f (vr x) (i + 1) := by unfold wOff; rw [hz]; unfold far at b0 ⊢; omega
    rw [e]
    simp) (fun n s => by
    show M122 f x (n + 1) (((List.range (nseg f)).length : Nat) : Int) s = _
    rw [M122]; simp)
  simpa using this
theorem chs_worst_L2 {f : TField} (hs : Small f) (hf : FieldOK f) {r w i : Nat} (hr : r < nrun f) {x : TOutcome} (ho : Occ f r w i x) (hxo : x.Out = false) (rk : Int) :
    ∃ l, M121 f (r : Int) ⟨(w : Int), (i : Int), rk⟩ x (nrun f + 1) 0 [] = some l ∧ Lst (WChoice f r w i x) (nrun f) l := by
  have hlen : nrun f ≤ 1000000 := hs.runners
  have hx := ho.ok hf hr
  obtain ⟨hw, hp, ho'⟩ := ho
  exact inv_loop (N := nrun f) (f := fun n k l => M121 f (r : Int) ⟨(w : Int), (i : Int), rk⟩ x n (k : Int) l) (k := some) (I := Lst (WChoice f r w i x)) (s0 := []) (fun k l hk hI => by
    have e1 := hI.1
    have happ : ∀ c : TChoice, app 16 l [c] = some (l ++ [c]) := fun c => app_ok (by simp; omega) (by simp; omega)
    by_cases hkr : k = r
    · refine ⟨l ++ [⟨(i : Int), x.Hi⟩], hI.snoc (.inl ⟨hkr, rfl⟩), fun n => ?_⟩
      have hil : i < (wl f.Runners r w).length := (List.getElem?_eq_some_iff.1 ho').1
      have hix : idx (wl f.Runners r w) (i : Int) = some x := by
        rw [idx_lt hil, ← List.getElem?_eq_getElem hil]; exact ho'
      subst hkr
      show M121 f (k : Int) ⟨(w : Int), (i : Int), rk⟩ x (n + 1) (k : Int) l = _
      rw [M121, dec_lt_nat, decide_eq_true hk, cond_true, idx_lt hk, some_bind, bif_ne, if_pos rfl, (wl_mem hf hk hw).2, some_bind, hix, some_bind, hxo, w64_succ (by omega)]
      unfold M66
      simp only [Bool.not_false, cond_true, some_bind, happ]
    · obtain ⟨j, y, h1, h2, h3⟩ := choose_worst_eq hs hf hr hk hw (hp k hk) hx hxo
      have hjl : j < (wl f.Runners k w).length := (List.getElem?_eq_some_iff.1 h1).1
      have hjy : idx (wl f.Runners k w) (j : Int) = some y := by
        rw [idx_lt hjl, ← List.getElem?_eq_getElem hjl]; exact h1
      refine ⟨l ++ [⟨(j : Int), if y.Out = true then 0 else y.Lo⟩], hI.snoc (.inr ⟨hkr, j, y, h1, rfl, h3⟩), fun n => ?_⟩
      show M121 f (r : Int) ⟨(w : Int), (i : Int), rk⟩ x (n + 1) (k : Int) l = _
      rw [M121, dec_lt_nat, decide_eq_true hk, cond_true, idx_lt hk, some_bind, bif_ne, if_neg (by omega), h2, w64_succ (by omega)]
      unfold M68
      simp only [some_bind, (wl_mem hf hk hw).2, hjy]
      cases y.Out <;> simp [happ, some_bind]) (fun n l => by
    show M121 f (r : Int) ⟨(w : Int), (i : Int), rk⟩ x (n + 1) ((nrun f : Nat) : Int) l = _
    rw [M121]; simp) Lst.nil
theorem chs_worst_L4 {f : TField} (hs : Small f) (hf : FieldOK f) {r w i : Nat} (hr : r < nrun f) {x : TOutcome} (ho : Occ f r w i x) (hxo : x.Out = false) (rk : Int) :
    ∃ l, M123 f (r : Int) ⟨(w : Int), (i : Int), rk⟩ x (nrun f + 1) 0 [] = some l ∧ Lst (WChoice f r w i x) (nrun f) l := by
  have hlen : nrun f ≤ 1000000 := hs.runners
  have hx := ho.ok hf hr
  obtain ⟨hw, hp, ho'⟩ := ho
  exact inv_loop (N := nrun f) (f := fun n k l => M123 f (r : Int) ⟨(w : Int), (i : Int), rk⟩ x n (k : Int) l) (k := some) (I := Lst (WChoice f r w i x)) (s0 := []) (fun k l hk hI => by
    have e1 := hI.1
    have happ : ∀ c : TChoice, app 16 l [c] = some (l ++ [c]) := fun c => app_ok (by simp; omega) (by simp; omega)
    by_cases hkr : k = r
    · refine ⟨l ++ [⟨(i : Int), x.Hi⟩], hI.snoc (.inl ⟨hkr, rfl⟩), fun n => ?_⟩
      have hil : i < (wl f.Runners r w).length := (List.getElem?_eq_some_iff.1 ho').1
      have hix : idx (wl f.Runners r w) (i : Int) = some x := by
        rw [idx_lt hil, ← List.getElem?_eq_getElem hil]; exact ho'
      subst hkr
      show M123 f (k : Int) ⟨(w : Int), (i : Int), rk⟩ x (n + 1) (k : Int) l = _
      rw [M123, dec_lt_nat, decide_eq_true hk, cond_true, idx_lt hk, some_bind, bif_ne, if_pos rfl, (wl_mem hf hk hw).2, some_bind, hix, some_bind, hxo, w64_succ (by omega)]
      unfold M66
      simp only [Bool.not_false, cond_true, some_bind, happ]
    · obtain ⟨j, y, h1, h2, h3⟩ := choose_worst_eq hs hf hr hk hw (hp k hk) hx hxo
      have hjl : j < (wl f.Runners k w).length := (List.getElem?_eq_some_iff.1 h1).1
      have hjy : idx (wl f.Runners k w) (j : Int) = some y := by
        rw [idx_lt hjl, ← List.getElem?_eq_getElem hjl]; exact h1
      refine ⟨l ++ [⟨(j : Int), if y.Out = true then 0 else y.Lo⟩], hI.snoc (.inr ⟨hkr, j, y, h1, rfl, h3⟩), fun n => ?_⟩
      show M123 f (r : Int) ⟨(w : Int), (i : Int), rk⟩ x (n + 1) (k : Int) l = _
      rw [M123, dec_lt_nat, decide_eq_true hk, cond_true, idx_lt hk, some_bind, bif_ne, if_neg (by omega), h2, w64_succ (by omega)]
      unfold M68
      simp only [some_bind, (wl_mem hf hk hw).2, hjy]
      cases y.Out <;> simp [happ, some_bind]) (fun n l => by
    show M123 f (r : Int) ⟨(w : Int), (i : Int), rk⟩ x (n + 1) ((nrun f : Nat) : Int) l = _
    rw [M123]; simp) Lst.nil
theorem history_worst_eq {f : TField} (hs : Small f) (hf : FieldOK f) {r w i : Nat} (hr : r < nrun f) {x : TOutcome} (ho : Occ f r w i x) (hxo : x.Out = false) (rk : Int) :
    ∃ l, M124 f (r : Int) ⟨(w : Int), (i : Int), rk⟩ = some ⟨(w : Int), (List.range (nseg f)).map (fun k => wOff f (vr x) (k + 1)), l⟩ ∧ Lst (WChoice f r w i x) (nrun f) l := by
  have hx := ho.ok hf hr
  have hil : i < (wl f.Runners r w).length := (List.getElem?_eq_some_iff.1 ho.2.2).1
  have hix : idx (wl f.Runners r w) (i : Int) = some x := by
    rw [idx_lt hil, ← List.getElem?_eq_getElem hil]; exact ho.2.2
  obtain ⟨e1, hv⟩ := vr_eq hf.clocks hx hxo
  unfold M124
  rw [idx_lt hr, some_bind, (wl_mem hf hr ho.1).2, some_bind, hix, some_bind, e1, bif_dec]
  by_cases hz : vr x = 0
  · obtain ⟨l, h1, h2⟩ := chs_worst_L4 hs hf hr ho hxo rk
    rw [if_neg (by omega), fuel_sub, fuel_sub]
    replace h1 : M123 f (r : Int) ⟨(w : Int), (i : Int), rk⟩ x (f.Runners.length + 1) 0 [] = some l := h1
    have h3 : M122 f x (f.Clocks.Segments.length + 1) 0 [] = _ := offs_worst_L3 hf hx hxo hz
    rw [h1, h3]
    exact ⟨l, rfl, h2⟩
  · obtain ⟨l, h1, h2⟩ := chs_worst_L2 hs hf hr ho hxo rk
    obtain ⟨row, g1, g2⟩ := far_get hf.clocks (i := 0) (by omega) hv
    rw [if_pos (by omega)]
    unfold M82
    have ez : ((0 : Nat) : Int) = 0 := rfl
    rw [ez] at g1
    rw [g1, some_bind, g2, some_bind, some_bind, fuel_sub, fuel_sub]
    replace h1 : M121 f (r : Int) ⟨(w : Int), (i : Int), rk⟩ x (f.Runners.length + 1) 0 [] = some l := h1
    have h3 : M120 f x (0 - far f 0 (vr x)) (f.Clocks.Segments.length + 1) 0 [] = _ := offs_worst_L1 hf hx hxo
    have b0 := far_bound hf (i := 0) (by omega) hv
    rw [w64_of (n := 0 - at2 f.Clocks.Far 0 (vr x)) (by have : far f 0 (vr x) = at2 f.Clocks.Far 0 (vr x) := rfl; omega) (by have : far f 0 (vr x) = at2 f.Clocks.Far 0 (vr x) := rfl; omega)]
    rw [h1, h3]
    exact ⟨l, rfl, h2⟩
theorem off_map {g : Nat → Int} {n k : Nat} (hk : k < n + 1) (h0 : g 0 = 0) {w : Int} {l : List TChoice} : off ⟨w, (List.range n).map (fun k => g (k + 1)), l⟩ k = g k := by
  unfold off
  cases k with
  | zero => simp [h0]
  | succ k =>
    have : k < n := by omega
    simp [this]
theorem ch_lst {P : Nat → TChoice → Prop} {n : Nat} {l : List TChoice} (h : Lst P n l) {w : Int} {o : List Int} {k : Nat} (hk : k < n) : P k (ch ⟨w, o, l⟩ k) := by
  have hk' : k < l.length := by rw [h.1]; exact hk
  refine h.2 k _ ?_
  unfold ch
  simp [hk']
theorem best_adm {f : TField} (hf : FieldOK f) {r w i : Nat} (hr : r < nrun f) {x : TOutcome} (ho : Occ f r w i x) (hxo : x.Out = false) {l : List TChoice} (hl : Lst (BChoice f r w i x) (nrun f) l) :
    Adm f ⟨(w : Int), (List.range (nseg f)).map (fun k => bOff f (vr x) (k + 1)), l⟩ ∧ rank f ⟨(w : Int), (List.range (nseg f)).map (fun k => bOff f (vr x) (k + 1)), l⟩ r = nBest f w r x := by
  have hx := ho.ok hf hr
  have hv := vr_lt hf hx hxo
  have hz : bOff f (vr x) 0 = 0 := by unfold bOff; omega
  have hoff : ∀ k, k < nseg f + 1 → off ⟨(w : Int), (List.range (nseg f)).map (fun k => bOff f (vr x) (k + 1)), l⟩ k = bOff f (vr x) k := fun k hk => off_map hk hz
  have hch : ∀ k, k < nrun f → BChoice f r w i x k (ch ⟨(w : Int), (List.range (nseg f)).map (fun k => bOff f (vr x) (k + 1)), l⟩ k) := fun k hk => ch_lst hl hk
  have hW : (⟨(w : Int), (List.range (nseg f)).map (fun k => bOff f (vr x) (k + 1)), l⟩ : THistory).World.toNat = w := by simp
  have hW' : (⟨(w : Int), (List.range (nseg f)).map (fun k => bOff f (vr x) (k + 1)), l⟩ : THistory).World = (w : Int) := rfl
  have hO : (⟨(w : Int), (List.range (nseg f)).map (fun k => bOff f (vr x) (k + 1)), l⟩ : THistory).Offsets.length = nseg f := by simp
  have hC : (⟨(w : Int), (List.range (nseg f)).map (fun k => bOff f (vr x) (k + 1)), l⟩ : THistory).Choices.length = nrun f := hl.1
  generalize (⟨(w : Int), (List.range (nseg f)).map (fun k => bOff f (vr x) (k + 1)), l⟩ : THistory) = h at *
  have hown : oc f h r = x ∧ ch h r = ⟨(i : Int), x.Lo⟩ := by
    rcases hch r hr with ⟨_, e⟩ | ⟨hne, _⟩
    · refine ⟨?_, e⟩
      unfold oc
      rw [e, hW]
      simp only [Int.toNat_natCast, ho.2.2, Option.getD_some]
    · exact absurd rfl hne
  have hrest : ∀ k, k < nrun f → k ≠ r → ∃ j : Nat, ∃ y, (wl f.Runners k w)[j]? = some y ∧ oc f h k = y ∧ ch h k = ⟨(j : Int), if y.Out = true then 0 else y.Hi⟩ ∧ forced f r x k y = (wl f.Runners k w).all (forced f r x k) := by
    intro k hk hne
    rcases hch k hk with ⟨e, _⟩ | ⟨_, j, y, h1, h2, h3⟩
    · exact absurd e hne
    · refine ⟨j, y, h1, ?_, h2, h3⟩
      unfold oc
      rw [h2, hW]
      simp only [Int.toNat_natCast, h1, Option.getD_some]
  obtain ⟨_, _, b1, b2, b3⟩ := hx.2 hxo
  have ha : Adm f h := by
    have hw := ho.1
    refine ⟨⟨by rw [hW']; omega, by rw [hW']; omega⟩, by rw [hW]; exact ho.2.1, hO, hC, fun k hk => ?_, fun a hA b hB => ?_, fun k hk => ?_⟩
    · rw [hoff k hk]
      have f1 := far_bound hf hv hk
      have f2 := far_bound hf hv (j := 0) (by omega)
      unfold bOff
      omega
    · rw [hoff a hA, hoff b hB]
      have f1 := far_tri hf hv hA hB
      unfold bOff
      omega
    · rw [hW]
      by_cases e : k = r
      · subst e
        obtain ⟨e1, e2⟩ := hown
        have hil : i < (wl f.Runners k w).length := (List.getElem?_eq_some_iff.1 ho.2.2).1
        rw [e1, e2]
        exact ⟨by dsimp only; omega, by dsimp only; omega, fun h => (by rw [hxo] at h; cases h), fun _ => ⟨by dsimp only; omega, by dsimp only; omega⟩⟩
      · obtain ⟨j, y, h1, h2, h3, _⟩ := hrest k hk e
        have hjl : j < (wl f.Runners k w).length := (List.getElem?_eq_some_iff.1 h1).1
        have hy := wl_ok hf hk hw y (List.mem_of_getElem? h1)
        rw [h2, h3]
        refine ⟨by dsimp only; omega, by dsimp only; omega, fun h => by dsimp only; rw [if_pos h], fun h => ?_⟩
        obtain ⟨_, _, c1, c2, c3⟩ := hy.2 h
        dsimp only
        rw [if_neg (by rw [h]; decide)]
        exact ⟨by omega, by omega⟩
  refine ⟨ha, ?_⟩
  unfold rank nBest
  rw [hown.1, if_neg (by rw [hxo]; decide)]
  congr 1
  refine countP_eq_of fun k hk => ?_
  by_cases e : k = r
  · subst e
    rw [inFr_self (by rw [hown.1]; exact hxo)]
    unfold sureK; simp
  · obtain ⟨j, y, h1, h2, h3, h4⟩ := hrest k hk e
    have hy := wl_ok hf hk ho.1 y (List.mem_of_getElem? h1)
    have e1 : sureK f w r x k = (wl f.Runners k w).all (forced f r x k) := by unfold sureK; simp [e]
    rw [e1, ← h4]
    unfold inFr forced net
    rw [h2, h3, hown.1, hown.2, hxo]
    cases hyo : y.Out with
    | true => rfl
    | false =>
      have hvy := vr_lt hf hy hyo
      rw [hoff _ hv, hoff _ hvy]
      simp only [Bool.not_false, Bool.true_and, Bool.false_or, Bool.false_eq_true, if_false]
      congr 1
      have f1 := far_self hf hv
      unfold bOff
      omega
theorem worst_adm {f : TField} (hf : FieldOK f) {r w i : Nat} (hr : r < nrun f) {x : TOutcome} (ho : Occ f r w i x) (hxo : x.Out = false) {l : List TChoice} (hl : Lst (WChoice f r w i x) (nrun f) l) :
    Adm f ⟨(w : Int), (List.range (nseg f)).map (fun k => wOff f (vr x) (k + 1)), l⟩ ∧ rank f ⟨(w : Int), (List.range (nseg f)).map (fun k => wOff f (vr x) (k + 1)), l⟩ r = nWorst f w r x := by
  have hx := ho.ok hf hr
  have hv := vr_lt hf hx hxo
  have hz : wOff f (vr x) 0 = 0 := by unfold wOff; omega
  have hoff : ∀ k, k < nseg f + 1 → off ⟨(w : Int), (List.range (nseg f)).map (fun k => wOff f (vr x) (k + 1)), l⟩ k = wOff f (vr x) k := fun k hk => off_map hk hz
  have hch : ∀ k, k < nrun f → WChoice f r w i x k (ch ⟨(w : Int), (List.range (nseg f)).map (fun k => wOff f (vr x) (k + 1)), l⟩ k) := fun k hk => ch_lst hl hk
  have hW : (⟨(w : Int), (List.range (nseg f)).map (fun k => wOff f (vr x) (k + 1)), l⟩ : THistory).World.toNat = w := by simp
  have hW' : (⟨(w : Int), (List.range (nseg f)).map (fun k => wOff f (vr x) (k + 1)), l⟩ : THistory).World = (w : Int) := rfl
  have hO : (⟨(w : Int), (List.range (nseg f)).map (fun k => wOff f (vr x) (k + 1)), l⟩ : THistory).Offsets.length = nseg f := by simp
  have hC : (⟨(w : Int), (List.range (nseg f)).map (fun k => wOff f (vr x) (k + 1)), l⟩ : THistory).Choices.length = nrun f := hl.1
  generalize (⟨(w : Int), (List.range (nseg f)).map (fun k => wOff f (vr x) (k + 1)), l⟩ : THistory) = h at *
  have hown : oc f h r = x ∧ ch h r = ⟨(i : Int), x.Hi⟩ := by
    rcases hch r hr with ⟨_, e⟩ | ⟨hne, _⟩
    · refine ⟨?_, e⟩
      unfold oc
      rw [e, hW]
      simp only [Int.toNat_natCast, ho.2.2, Option.getD_some]
    · exact absurd rfl hne
  have hrest : ∀ k, k < nrun f → k ≠ r → ∃ j : Nat, ∃ y, (wl f.Runners k w)[j]? = some y ∧ oc f h k = y ∧ ch h k = ⟨(j : Int), if y.Out = true then 0 else y.Lo⟩ ∧ can f r x k y = (wl f.Runners k w).any (can f r x k) := by
    intro k hk hne
    rcases hch k hk with ⟨e, _⟩ | ⟨_, j, y, h1, h2, h3⟩
    · exact absurd e hne
    · refine ⟨j, y, h1, ?_, h2, h3⟩
      unfold oc
      rw [h2, hW]
      simp only [Int.toNat_natCast, h1, Option.getD_some]
  obtain ⟨_, _, b1, b2, b3⟩ := hx.2 hxo
  have ha : Adm f h := by
    have hw := ho.1
    refine ⟨⟨by rw [hW']; omega, by rw [hW']; omega⟩, by rw [hW]; exact ho.2.1, hO, hC, fun k hk => ?_, fun a hA b hB => ?_, fun k hk => ?_⟩
    · rw [hoff k hk]
      have f1 := far_bound hf hk hv
      have f2 := far_bound hf (i := 0) (by omega) hv
      unfold wOff
      omega
    · rw [hoff a hA, hoff b hB]
      have f1 := far_tri hf hA hB hv
      unfold wOff
      omega
    · rw [hW]
      by_cases e : k = r
      · subst e
        obtain ⟨e1, e2⟩ := hown
        have hil : i < (wl f.Runners k w).length := (List.getElem?_eq_some_iff.1 ho.2.2).1
        rw [e1, e2]
        exact ⟨by dsimp only; omega, by dsimp only; omega, fun h => (by rw [hxo] at h; cases h), fun _ => ⟨by dsimp only; omega, by dsimp only; omega⟩⟩
      · obtain ⟨j, y, h1, h2, h3, _⟩ := hrest k hk e
        have hjl : j < (wl f.Runners k w).length := (List.getElem?_eq_some_iff.1 h1).1
        have hy := wl_ok hf hk hw y (List.mem_of_getElem? h1)
        rw [h2, h3]
        refine ⟨by dsimp only; omega, by dsimp only; omega, fun h => by dsimp only; rw [if_pos h], fun h => ?_⟩
        obtain ⟨_, _, c1, c2, c3⟩ := hy.2 h
        dsimp only
        rw [if_neg (by rw [h]; decide)]
        exact ⟨by omega, by omega⟩
  refine ⟨ha, ?_⟩
  unfold rank nWorst
  rw [hown.1, if_neg (by rw [hxo]; decide)]
  congr 1
  refine countP_eq_of fun k hk => ?_
  by_cases e : k = r
  · subst e
    rw [inFr_self (by rw [hown.1]; exact hxo)]
    unfold mayK; simp
  · obtain ⟨j, y, h1, h2, h3, h4⟩ := hrest k hk e
    have hy := wl_ok hf hk ho.1 y (List.mem_of_getElem? h1)
    have e1 : mayK f w r x k = (wl f.Runners k w).any (can f r x k) := by unfold mayK; simp [e]
    rw [e1, ← h4]
    unfold inFr can net
    rw [h2, h3, hown.1, hown.2, hxo]
    cases hyo : y.Out with
    | true => rfl
    | false =>
      have hvy := vr_lt hf hy hyo
      rw [hoff _ hv, hoff _ hvy]
      simp only [Bool.not_false, Bool.true_and, Bool.false_or, Bool.false_eq_true, if_false]
      congr 1
      have f1 := far_self hf hv
      unfold wOff
      omega
theorem Best_ok {f : TField} (hs : Small f) (hf : FieldOK f) {r : Nat} (hr : r < nrun f) {x : TRank} (hx : IsRank f r x) :
    (x.Kind = 3 ∧ M101 f (r : Int) = some (⟨0, [], []⟩, false, 0)) ∨ (x.Kind ≠ 3 ∧ ∃ h, M101 f (r : Int) = some (h, true, 0) ∧ Adm f h ∧ (rank f h r : Int) = x.Lo) := by
  obtain ⟨⟨a, b, rk, ok⟩, h3, h4⟩ := drive_best_eq hs hf hr
  unfold M101 M64 M100
  rw [ranks_check_eq hs (by simp), chk_pos hf, chk_pos (by simpa using inR_of hr), h3]
  simp only [some_bind, bne_self_eq_false, cond_false]
  rcases h4 with ⟨g1, g2⟩ | ⟨g1, ⟨w, i, y, g2, g3, g4, g5, g6⟩, g7⟩
  · dsimp only at g1
    subst g1
    left
    have e : x.Lo = 0 := hx.lo.uniq (.inl ⟨rfl, g2⟩)
    exact ⟨by rw [hx.kind, if_pos e], rfl⟩
  · dsimp only at g1 g4 g5 g6 g7
    subst g1 g4 g5
    right
    have e : x.Lo = rk := hx.lo.uniq (.inr ⟨⟨w, i, y, g2, g3, g6⟩, g7⟩)
    have := NB_pos f r w y
    obtain ⟨l, k1, k2⟩ := history_best_eq hs hf hr g2 g3 rk
    obtain ⟨k3, k4⟩ := best_adm hf hr g2 g3 k2
    refine ⟨?_, _, ?_, k3, ?_⟩
    · rw [hx.kind, if_neg (by omega)]; split <;> decide
    · rw [Bool.not_true, cond_false, k1]; rfl
    · rw [k4, e, g6]
theorem Worst_ok {f : TField} (hs : Small f) (hf : FieldOK f) {r : Nat} (hr : r < nrun f) {x : TRank} (hx : IsRank f r x) :
    (x.Kind = 3 ∧ M126 f (r : Int) = some (⟨0, [], []⟩, false, 0)) ∨ (x.Kind ≠ 3 ∧ ∃ h, M126 f (r : Int) = some (h, true, 0) ∧ Adm f h ∧ (rank f h r : Int) = x.Hi) := by
  obtain ⟨⟨a, b, rk, ok⟩, h3, h4⟩ := drive_worst_eq hs hf hr
  unfold M126 M80 M125
  rw [ranks_check_eq hs (by simp), chk_pos hf, chk_pos (by simpa using inR_of hr), h3]
  simp only [some_bind, bne_self_eq_false, cond_false]
  rcases h4 with ⟨g1, g2⟩ | ⟨g1, ⟨w, i, y, g2, g3, g4, g5, g6⟩, g7⟩
  · dsimp only at g1
    subst g1
    left
    have e : x.Lo = 0 := hx.lo.uniq (.inl ⟨rfl, g2⟩)
    exact ⟨by rw [hx.kind, if_pos e], rfl⟩
  · dsimp only at g1 g4 g5 g6 g7
    subst g1 g4 g5
    right
    have e : x.Hi = rk := hx.hi.uniq (.inr ⟨⟨w, i, y, g2, g3, g6⟩, g7⟩)
    have hlo : x.Lo ≠ 0 := by
      rcases hx.lo with ⟨_, q⟩ | ⟨⟨w', i', x', _, _, q⟩, _⟩
      · rw [q _ _ _ g2] at g3; cases g3
      · have := NB_pos f r w' x'; omega
    obtain ⟨l, k1, k2⟩ := history_worst_eq hs hf hr g2 g3 rk
    obtain ⟨k3, k4⟩ := worst_adm hf hr g2 g3 k2
    refine ⟨?_, _, ?_, k3, ?_⟩
    · rw [hx.kind, if_neg hlo]; split <;> decide
    · rw [Bool.not_true, cond_false, k1]; rfl
    · rw [k4, e, g6]
theorem chk_bool (p : Prop) : ∃ b, chk p false (some true) = some b ∧ (b = true ↔ p) := by
  by_cases h : p
  · exact ⟨true, chk_pos h, by simp [h]⟩
  · exact ⟨false, chk_neg h, by simp [h]⟩
theorem few16_eq {k : TClocks} (hw : wTClocks k) : ∃ b, M274 k = some b ∧ (b = true → k.Segments.length ≤ 8 ∧ k.Far.length ≤ 10) := by
  obtain ⟨hsg, hfar⟩ := hw
  unfold M274
  rw [bif_dec, bif_dec]
  by_cases h1 : k.Segments.length ≤ 8
  · rw [if_neg (by omega)]
    by_cases h2 : k.Far.length ≤ 10
    · rw [if_neg (by omega), fuel_sub]
      obtain ⟨b, hb1, _⟩ := chk_bool (∀ i, i < k.Far.length → ∀ r, k.Far[i]? = some r → r.length ≤ 12)
      refine ⟨b, (chk_loop (N := k.Far.length) (f := fun n i => M272 k M273 n (i : Int)) (r := false) (k := some true) (ok := fun i => ∀ r, k.Far[i]? = some r → r.length ≤ 12) (fun n i hi => ?_) (fun n => ?_)).trans hb1, fun _ => ⟨h1, h2⟩⟩
      · show M272 k M273 (n + 1) (i : Int) = _
        have hx : k.Far[i]? = some k.Far[i] := by simp [hi]
        rw [M272, dec_lt_nat, decide_eq_true hi, cond_true, idx_lt hi, some_bind, bif_dec, w64_succ (by omega), hx]
        generalize k.Far[i] = r
        simp only [Option.some.injEq, forall_eq']
        by_cases h3 : r.length ≤ 12
        · rw [if_neg (by omega), chk_pos h3]
        · rw [if_pos (by omega), chk_neg h3]
      · show M272 k M273 (n + 1) ((k.Far.length : Nat) : Int) = _
        rw [M272]; simp [M273]
    · rw [if_pos (by omega)]; exact ⟨false, rfl, fun h => by cases h⟩
  · rw [if_pos (by omega)]; exact ⟨false, rfl, fun h => by cases h⟩
theorem few24_L2 {x : TRunner} (hx : x.Worlds.length ≤ 5) (hl : ∀ w, w ∈ x.Worlds → w.length ≤ 140737488351232) {c : Int} (hc : 0 ≤ c ∧ c ≤ 6000000000000000) :
    ∃ s : Int, M275 x (x.Worlds.length + 1) c 0 = some s ∧ c ≤ s ∧ s ≤ c + 5 * 140737488351232 ∧ ∀ w, w ∈ x.Worlds → (w.length : Int) ≤ s := by
  obtain ⟨s, h1, h2⟩ := inv_loop (N := x.Worlds.length) (f := fun n i (s : Int) => M275 x n s (i : Int)) (k := some) (I := fun i s => c ≤ s ∧ s ≤ c + i * 140737488351232 ∧ ∀ j, j < i → ∀ w, x.Worlds[j]? = some w → (w.length : Int) ≤ s) (s0 := c) (fun i s hi hI => by
    obtain ⟨h1, h2, h3⟩ := hI
    have hw := hl _ (List.getElem_mem hi)
    refine ⟨s + ((x.Worlds[i]).length : Int), ⟨by omega, by have : ((i + 1 : Nat) : Int) = (i : Int) + 1 := rfl; rw [this]; omega, fun j hj w hjw => ?_⟩, fun n => ?_⟩
    · by_cases e : j = i
      · subst e
        rw [List.getElem?_eq_getElem hi] at hjw
        cases hjw
        omega
      · have := h3 j (by omega) w hjw
        omega
    · show M275 x (n + 1) s (i : Int) = _
      rw [M275, dec_lt_nat, decide_eq_true hi, cond_true, idx_lt hi, some_bind, w64_succ (by omega), w64_of (by omega) (by omega)]) (fun n s => by
    show M275 x (n + 1) s ((x.Worlds.length : Nat) : Int) = _
    rw [M275]; simp) ⟨by omega, by omega, fun j hj => absurd hj (by omega)⟩
  refine ⟨s, h1, h2.1, by have := h2.2.1; omega, fun w hw => ?_⟩
  obtain ⟨j, hj, rfl⟩ := List.mem_iff_getElem.1 hw
  exact h2.2.2 j hj _ (by simp [hj])
theorem few24_eq {f : TField} (hw : wTField f) : ∃ b, M278 f = some b ∧ (b = true → Small f ∧ f.Runners.length ≤ 6 ∧ f.Pairs.length ≤ 3 ∧ f.Clocks.Segments.length ≤ 8 ∧ f.Clocks.Far.length ≤ 10 ∧ ∀ r, r ∈ f.Runners → r.Keys.length ≤ 8 ∧ r.Worlds.length ≤ 5 ∧ ∀ w, w ∈ r.Worlds → w.length ≤ 60) := by
  obtain ⟨hk, _, hrun⟩ := hw
  unfold M278
  rw [bif_dec, bif_dec]
  by_cases h1 : f.Runners.length ≤ 6
  · rw [if_neg (by omega)]
    by_cases h2 : f.Pairs.length ≤ 3
    · rw [if_neg (by omega)]
      obtain ⟨b, h3, h4⟩ := few16_eq hk
      rw [h3, some_bind]
      cases b with
      | false => exact ⟨false, rfl, fun h => by cases h⟩
      | true =>
        obtain ⟨h5, h6⟩ := h4 rfl
        simp only [Bool.not_true, cond_false]
        rw [fuel_sub]
        have key : ∀ c i n (s : Int), i + c = f.Runners.length → c ≤ n → 0 ≤ s → s ≤ i * (5 * 140737488351232) → (∀ j, j < i → ∀ r, f.Runners[j]? = some r → r.Keys.length ≤ 8 ∧ r.Worlds.length ≤ 5 ∧ ∀ w, w ∈ r.Worlds → (w.length : Int) ≤ s) →
            ∃ b, M276 f M277 (n + 1) s (i : Int) = some b ∧ (b = true → ∀ r, r ∈ f.Runners → r.Keys.length ≤ 8 ∧ r.Worlds.length ≤ 5 ∧ ∀ w, w ∈ r.Worlds → w.length ≤ 60) := by
          intro c
          induction c with
          | zero =>
            intro i n s h _ _ _ hI
            have : i = f.Runners.length := by omega
            subst this
            rw [M276, dec_lt_nat, decide_eq_false (by omega), cond_false]
            refine ⟨_, rfl, fun hb r hr => ?_⟩
            have hs : s ≤ 60 := by simpa using hb
            obtain ⟨j, hj, rfl⟩ := List.mem_iff_getElem.1 hr
            obtain ⟨a, b, c⟩ := hI j hj _ (List.getElem?_eq_getElem hj)
            exact ⟨a, b, fun w hw => by have := c w hw; omega⟩
          | succ c ih =>
            intro i n s h hn hs0 hs1 hI
            obtain ⟨n, rfl⟩ : ∃ n', n = n' + 1 := ⟨n - 1, by omega⟩
            have hi : i < f.Runners.length := by omega
            have hrw := hrun.2 _ (List.getElem_mem hi)
            rw [M276, dec_lt_nat, decide_eq_true hi, cond_true, idx_lt hi, some_bind, bif_dec, bif_dec, fuel_sub]
            have hx : f.Runners[i]? = some f.Runners[i] := by simp [hi]
            generalize f.Runners[i] = r at hx hrw
            by_cases g1 : r.Keys.length ≤ 8
            · rw [if_neg (by omega)]
              by_cases g2 : r.Worlds.length ≤ 5
              · rw [if_neg (by omega)]
                obtain ⟨s', k1, k2, k3, k4⟩ := few24_L2 g2 (fun w hw => (hrw.2.2.2 w hw).1) (c := s) ⟨hs0, by omega⟩
                rw [k1, some_bind, w64_succ (by omega)]
                refine ih (i + 1) n s' (by omega) (by omega) (by omega) (by have : ((i + 1 : Nat) : Int) = (i : Int) + 1 := rfl; rw [this]; omega) fun j hj q hq => ?_
                by_cases e : j = i
                · subst e
                  rw [hx] at hq; cases hq
                  exact ⟨g1, g2, k4⟩
                · obtain ⟨a, b, c⟩ := hI j (by omega) q hq
                  exact ⟨a, b, fun w hw => by have := c w hw; omega⟩
              · rw [if_pos (by omega)]; exact ⟨false, rfl, fun h => by cases h⟩
            · rw [if_pos (by omega)]; exact ⟨false, rfl, fun h => by cases h⟩
        obtain ⟨b, g1, g2⟩ := key f.Runners.length 0 f.Runners.length 0 (by omega) (by omega) (by omega) (by omega) (fun j hj => absurd hj (by omega))
        refine ⟨b, g1, fun hb => ?_⟩
        have g3 := g2 hb
        exact ⟨⟨by omega, by omega, by omega, fun r hr => by
          obtain ⟨a, b, c⟩ := g3 r hr
          exact ⟨by omega, by omega, fun w hw => by have := c w hw; omega⟩⟩, h1, h2, h5, h6, g3⟩
    · rw [if_pos (by omega)]; exact ⟨false, rfl, fun h => by cases h⟩
  · rw [if_pos (by omega)]; exact ⟨false, rfl, fun h => by cases h⟩
/-! What is admissible, by the program. -/
theorem containsH_eq {l : List TRunner} {w : Nat} (hl : l.length ≤ 1000000) (hw : ∀ r, r ∈ l → w < r.Worlds.length) : ∃ b, M196 l (w : Int) = some b ∧ (b = true ↔ ¬Poss l w) := by
  unfold M196 M195
  rw [fuel_sub]
  obtain ⟨r, h1, h2⟩ := find_loop (N := l.length) (f := fun n i => M193 l (w : Int) M194 n (i : Int)) (p := fun i => (wl l i w).length = 0) (fun n i hi => by
    show M193 l (w : Int) _ (n + 1) (i : Int) = _
    rw [M193, dec_lt_nat, decide_eq_true hi, cond_true, idx_lt hi, some_bind, w64_succ (by omega)]
    unfold M192
    rw [wl_get hi (hw _ (List.getElem_mem hi)), some_bind, some_bind, bif_eq]
    by_cases h : (wl l i w).length = 0
    · rw [if_pos h, if_pos (by omega)]
    · rw [if_neg h, if_neg (by omega)]) (fun n => by
    show M193 l (w : Int) _ (n + 1) ((l.length : Nat) : Int) = _
    rw [M193]
    simp [M194])
  refine ⟨decide (r ≥ 0), ?_, ?_⟩
  · have h1 : M193 l (w : Int) M194 (l.length + 1) 0 = some r := h1
    rw [h1]; rfl
  · rw [decide_eq_true_iff, h2]
    unfold Poss
    simp only [Classical.not_forall, Classical.not_not, exists_prop]
theorem containsA_eq {l : List Int} (hl : l.length ≤ 1000000) : ∃ b, M202 l = some b ∧ (b = true ↔ ¬∀ i, i < l.length → Entry ((l[i]?).getD 0)) := by
  unfold M202 M201
  rw [fuel_sub]
  obtain ⟨r, h1, h2⟩ := find_loop (N := l.length) (f := fun n i => M199 l M200 n (i : Int)) (p := fun j => ¬Entry ((l[j]?).getD 0)) (fun n i hi => by
    show M199 l _ (n + 1) (i : Int) = _
    rw [M199, dec_lt_nat, decide_eq_true hi, cond_true, idx_lt hi, some_bind, w64_succ (by omega)]
    have hx : (l[i]?).getD 0 = l[i] := by simp [hi]
    rw [hx]
    generalize l[i] = w
    unfold M198 Entry
    rw [bif_dec]
    by_cases h1 : w < -2199023255552
    · rw [if_pos h1, some_bind, cond_true, if_pos (by omega)]
    · rw [if_neg h1, some_bind, bif_dec]
      by_cases h2 : w > 2199023255552
      · rw [if_pos h2, if_pos (by omega)]
      · rw [if_neg h2, if_neg (by omega)]) (fun n => by
    show M199 l _ (n + 1) ((l.length : Nat) : Int) = _
    rw [M199]
    simp [M200])
  refine ⟨decide (r ≥ 0), ?_, ?_⟩
  · have h1 : M199 l M200 (l.length + 1) 0 = some r := h1
    rw [h1]; rfl
  · rw [decide_eq_true_iff, h2]
    simp only [Classical.not_forall, exists_prop]
theorem aligned_L2 {f : TField} (hf : FieldOK f) {l : List Int} {kk : Unit → Option Bool} (hl : l.length = nseg f + 1) (hb : ∀ i, i < l.length → Entry ((l[i]?).getD 0)) {i : Nat} (hi : i < nseg f + 1) {row : List Int} (hr : f.Clocks.Far[i]? = some row) (hrl : row.length = nseg f + 1) : M203 l (i : Int) row kk (row.length + 1) 0 = chk (∀ k, k < row.length → (l[k]?).getD 0 - (l[i]?).getD 0 ≤ far f i k) false (kk ()) := by
  refine chk_loop (f := fun n k => M203 l (i : Int) row kk n (k : Int)) (fun n k hk => ?_) (fun n => ?_)
  · show M203 l (i : Int) row kk (n + 1) (k : Int) = _
    have hi' : i < l.length := by omega
    have hk' : k < l.length := by omega
    have e1 : (l[i]?).getD 0 = l[i] := by simp [hi']
    have e2 : (l[k]?).getD 0 = l[k] := by simp [hk']
    have b1 := hb i hi'
    have b2 := hb k hk'
    have hsg : nseg f ≤ 511 := hf.clocks.few
    rw [M203, dec_lt_nat, decide_eq_true hk, cond_true, idx2 hr hk, some_bind, idx_lt hk', some_bind, idx_lt hi', some_bind, w64_succ (by omega), bif_dec, e1, e2]
    rw [e1] at b1
    rw [e2] at b2
    unfold Entry at b1 b2
    rw [w64_of (by omega) (by omega)]
    by_cases h1 : l[k] - l[i] > far f i k
    · rw [if_pos h1, chk_neg (by omega)]
    · rw [if_neg h1, chk_pos (by omega)]
  · show M203 l (i : Int) row kk (n + 1) ((row.length : Nat) : Int) = _
    rw [M203]; simp
theorem aligned_L1 {f : TField} (hf : FieldOK f) {l : List Int} {kk : Unit → Option Bool} (hl : l.length = nseg f + 1) (hb : ∀ i, i < l.length → Entry ((l[i]?).getD 0)) : M205 f.Clocks l kk (f.Clocks.Far.length + 1) 0 = chk (∀ i, i < l.length → ∀ k, k < l.length → (l[k]?).getD 0 - (l[i]?).getD 0 ≤ far f i k) false (kk ()) := by
  have hfl := hf.clocks.far
  have hE : l.length = f.Clocks.Far.length := by rw [hfl, hl]
  rw [← hE]
  refine chk_loop (f := fun n i => M205 f.Clocks l kk n (i : Int)) (fun n i hi => ?_) (fun n => ?_)
  · show M205 f.Clocks l kk (n + 1) (i : Int) = _
    have hsg : nseg f ≤ 511 := hf.clocks.few
    have hi' : i < f.Clocks.Far.length := by omega
    have hi2 : i < nseg f + 1 := by omega
    obtain ⟨row, h1, h2, h3⟩ := rows_get hf.clocks.row hf.clocks.far hi2
    rw [M205, dec_lt_nat, decide_eq_true hi', cond_true, h2, some_bind, fuel_sub, aligned_L2 hf hl hb hi2 h1 h3]
    show chk _ _ (M205 f.Clocks l kk n (w64 ((i : Int) + 1))) = _
    rw [w64_succ (by omega), h3, hl]
  · show M205 f.Clocks l kk (n + 1) ((l.length : Nat) : Int) = _
    rw [hE, M205]; simp
def Offs (f : TField) (h : THistory) : Prop := (∀ i, i < nseg f + 1 → -1125899906842624 ≤ off h i ∧ off h i ≤ 1125899906842624) ∧ ∀ i, i < nseg f + 1 → ∀ k, k < nseg f + 1 → off h k - off h i ≤ far f i k
theorem aligned_eq {f : TField} (hf : FieldOK f) {h : THistory} (ho : h.Offsets.length = nseg f) : ∃ b, M207 f.Clocks h.Offsets = some b ∧ (b = true ↔ Offs f h) := by
  have hsg : nseg f ≤ 511 := hf.clocks.few
  unfold M207
  rw [app_ok (by simp [ho]; omega) (by simp [ho]; omega), some_bind, show ([0] ++ h.Offsets) = 0 :: h.Offsets from rfl]
  have hl : (0 :: h.Offsets).length = nseg f + 1 := by simp [ho]
  obtain ⟨b, h1, h2⟩ := containsA_eq (l := 0 :: h.Offsets) (by omega)
  rw [h1, some_bind]
  have h0 : off h 0 = 0 := rfl
  have hE : (∀ i, i < (0 :: h.Offsets).length → Entry (((0 :: h.Offsets)[i]?).getD 0)) ↔ ∀ i, i < nseg f + 1 → Entry (off h i) := by rw [hl]; rfl
  cases b with
  | true =>
    refine ⟨false, rfl, ?_⟩
    have h3 := h2.1 rfl
    rw [hE] at h3
    constructor
    · intro h; cases h
    · rintro ⟨_, h4⟩
      refine absurd (fun i hi => ?_) h3
      have a1 := h4 0 (by omega) i hi
      have a2 := h4 i hi 0 (by omega)
      have b1 := far_bound hf (i := 0) (j := i) (by omega) hi
      have b2 := far_bound hf (i := i) (j := 0) hi (by omega)
      unfold Entry
      omega
  | false =>
    have h3 : ∀ i, i < (0 :: h.Offsets).length → Entry (((0 :: h.Offsets)[i]?).getD 0) := Classical.byContradiction fun hh => by simpa using h2.2 hh
    rw [cond_false, fuel_sub, aligned_L1 hf hl h3, hl]
    unfold M206
    have hO : (∀ i, i < nseg f + 1 → ∀ k, k < nseg f + 1 → ((0 :: h.Offsets)[k]?).getD 0 - ((0 :: h.Offsets)[i]?).getD 0 ≤ far f i k) ↔ Offs f h := by
      constructor
      · intro h4
        refine ⟨fun i hi => ?_, h4⟩
        have := hE.1 h3 i hi
        unfold Entry at this
        omega
      · exact fun h4 => h4.2
    by_cases h4 : Offs f h
    · exact ⟨true, chk_pos (hO.2 h4), by simp [h4]⟩
    · exact ⟨false, chk_neg (fun h5 => h4 (hO.1 h5)), by simp [h4]⟩
def ChOK (f : TField) (h : THistory) (k : Nat) : Prop := 0 ≤ (ch h k).Outcome ∧ (ch h k).Outcome < (wl f.Runners k h.World.toNat).length ∧ ((oc f h k).Out = true → (ch h k).X = 0) ∧ ((oc f h k).Out = false → (oc f h k).Lo ≤ (ch h k).X ∧ (ch h k).X ≤ (oc f h k).Hi)
theorem outcomes_eq {f : TField} (hf : FieldOK f) {h : THistory} (hw : 0 ≤ h.World ∧ h.World < npair f + 1) {k : Nat} (hk : k < nrun f) : M208 ⟨f, h⟩ (k : Int) = some (wl f.Runners k h.World.toNat) := by
  obtain ⟨_, hm⟩ := wl_mem hf hk (w := h.World.toNat) (by have : h.World < (npair f : Int) + 1 := hw.2; show _ < npair f + 1; omega)
  have ew : (h.World.toNat : Int) = h.World := by omega
  rw [ew] at hm
  unfold M208
  dsimp only
  rw [idx_lt hk, some_bind, hm, some_bind]
theorem outcomeV_eq {f : TField} (hf : FieldOK f) {h : THistory} (hw : 0 ≤ h.World ∧ h.World < npair f + 1) {k : Nat} (hk : k < nrun f) (hc : k < h.Choices.length) (h0 : 0 ≤ (ch h k).Outcome) (h1 : (ch h k).Outcome < (wl f.Runners k h.World.toNat).length) : M209 ⟨f, h⟩ (k : Int) = some (oc f h k) := by
  have e : (ch h k).Outcome = ((ch h k).Outcome.toNat : Int) := by omega
  have h3 : (ch h k).Outcome.toNat < (wl f.Runners k h.World.toNat).length := by omega
  unfold M209
  rw [outcomes_eq hf hw hk, some_bind]
  dsimp only
  rw [idx_lt hc, some_bind, ch_get hc, e, idx_lt h3, some_bind]
  unfold oc
  simp [h3]
theorem open_L1 {f : TField} (hs : Small f) (hf : FieldOK f) {h : THistory} (hw : 0 ≤ h.World ∧ h.World < npair f + 1) (hc : h.Choices.length = nrun f) : M210 f h (M211 f h) (h.Choices.length + 1) 0 = chk (∀ k, k < h.Choices.length → ChOK f h k) (⟨f, h⟩, 260) (some (⟨f, h⟩, 0)) := by
  refine chk_loop (f := fun n i => M210 f h (M211 f h) n (i : Int)) (fun n i hi => ?_) (fun n => ?_)
  · show M210 f h (M211 f h) (n + 1) (i : Int) = _
    have hlen : nrun f ≤ 1000000 := hs.runners
    have hi' : i < nrun f := by omega
    rw [M210, dec_lt_nat, decide_eq_true hi, cond_true, idx_lt hi, some_bind, w64_succ (by omega), ch_get hi, bif_dec]
    unfold ChOK
    by_cases h1 : (ch h i).Outcome < 0
    · rw [if_pos h1, chk_neg (by omega)]
    · rw [if_neg h1, outcomes_eq hf hw hi', some_bind, bif_dec]
      by_cases h2 : (ch h i).Outcome ≥ ((wl f.Runners i h.World.toNat).length : Int)
      · rw [if_pos h2, chk_neg (by omega)]
      · rw [if_neg h2, outcomeV_eq hf hw hi' hi (by omega) (by omega), some_bind]
        generalize oc f h i = x
        cases hx : x.Out with
        | true =>
          rw [cond_true, bif_dec, bif_dec]
          by_cases h5 : (ch h i).X < 0
          · rw [if_pos h5, chk_neg (fun hh => by have := hh.2.2.1 rfl; omega)]
          · rw [if_neg h5]
            by_cases h6 : (ch h i).X > 0
            · rw [if_pos h6, chk_neg (fun hh => by have := hh.2.2.1 rfl; omega)]
            · rw [if_neg h6, chk_pos ⟨by omega, by omega, fun _ => by omega, fun hh => by cases hh⟩]
        | false =>
          rw [cond_false, bif_dec, bif_dec]
          by_cases h5 : (ch h i).X < x.Lo
          · rw [if_pos h5, chk_neg (fun hh => by have := hh.2.2.2 rfl; omega)]
          · rw [if_neg h5]
            by_cases h6 : (ch h i).X > x.Hi
            · rw [if_pos h6, chk_neg (fun hh => by have := hh.2.2.2 rfl; omega)]
            · rw [if_neg h6, chk_pos ⟨by omega, by omega, fun hh => (by cases hh), fun _ => ⟨by omega, by omega⟩⟩]
  · show M210 f h (M211 f h) (n + 1) ((h.Choices.length : Nat) : Int) = _
    rw [M210]; simp [M211]
def zview : Thistory_view := ⟨⟨⟨[], []⟩, [], []⟩, ⟨0, [], []⟩⟩
theorem open_eq {f : TField} (hs : Small f) (h : THistory) : M212 f h = chk (FieldOK f) (zview, 240) (chk (Adm f h) (⟨f, h⟩, 260) (some (⟨f, h⟩, 0))) := by
  unfold M212
  rw [field_Check_eq hs]
  by_cases hf : FieldOK f
  · rw [chk_pos hf, chk_pos hf, some_bind]
    simp only [bne_self_eq_false, cond_false]
    have hsp : npair f ≤ 1000 := hs.pairs
    have hsr := hs.runners
    by_cases h1 : 0 ≤ h.World ∧ h.World < npair f + 1
    · have hwn : h.World.toNat < npair f + 1 := by omega
      have ew : h.World = (h.World.toNat : Int) := by omega
      obtain ⟨b, hb1, hb2⟩ := containsH_eq (l := f.Runners) (w := h.World.toNat) hsr (fun r hr => by rw [worlds_of hf.runner r hr]; exact hwn)
      rw [← ew] at hb1
      have e1 : decide (h.World < 0) = false := by simp; omega
      have e2 : decide (h.World > (f.Pairs.length : Int)) = false := by
        have : ((npair f : Nat) : Int) = (f.Pairs.length : Int) := rfl
        simp; omega
      rw [e1, e2]
      unfold M197
      simp only [cond_false, hb1, some_bind]
      by_cases h2 : Poss f.Runners h.World.toNat
      · have : b = false := by
          cases b with
          | false => rfl
          | true => exact absurd h2 (hb2.1 rfl)
        subst this
        simp only [Bool.not_false, Bool.not_true, cond_false, bif_ne]
        by_cases h3 : h.Offsets.length = nseg f
        · rw [if_pos (show (h.Offsets.length : Int) = (f.Clocks.Segments.length : Int) by rw [h3])]
          by_cases h4 : h.Choices.length = nrun f
          · rw [if_pos (show (h.Choices.length : Int) = (f.Runners.length : Int) by rw [h4])]
            obtain ⟨c, hc1, hc2⟩ := aligned_eq hf h3
            rw [hc1]
            cases c with
            | false =>
              rw [chk_neg (fun ha : Adm f h => by have := hc2.2 ⟨ha.small, ha.tri⟩; cases this)]
              rfl
            | true =>
              have hO := hc2.1 rfl
              simp only [some_bind, Bool.not_true, cond_false]
              rw [fuel_sub, open_L1 hs hf h1 h4]
              refine chk_congr ⟨fun hC => ⟨h1, h2, h3, h4, hO.1, hO.2, fun k hk => hC k (by omega)⟩, fun ha k hk => ha.choice k (by omega)⟩ fun _ => rfl
          · rw [if_neg (show ¬(h.Choices.length : Int) = (f.Runners.length : Int) from fun e => h4 (by have : (h.Choices.length : Int) = (nrun f : Int) := e; omega)), chk_neg (fun ha : Adm f h => h4 ha.chs)]
            rfl
        · rw [if_neg (show ¬(h.Offsets.length : Int) = (f.Clocks.Segments.length : Int) from fun e => h3 (by have : (h.Offsets.length : Int) = (nseg f : Int) := e; omega)), chk_neg (fun ha : Adm f h => h3 ha.offs)]
          rfl
      · have : b = true := hb2.2 h2
        subst this
        rw [chk_neg (fun ha : Adm f h => h2 ha.poss)]
        rfl
    · rw [chk_neg (fun ha : Adm f h => h1 ha.world)]
      by_cases e : h.World < 0
      · rw [decide_eq_true e]; rfl
      · have e2 : decide (h.World > (f.Pairs.length : Int)) = true := by
          have : ((npair f : Nat) : Int) = (f.Pairs.length : Int) := rfl
          simp; omega
        rw [decide_eq_false e, e2]; rfl
  · rw [chk_neg hf, chk_neg hf]
    rfl
theorem netV_eq {f : TField} (hf : FieldOK f) {h : THistory} (ha : Adm f h) {k : Nat} (hk : k < nrun f) : M214 ⟨f, h⟩ (k : Int) = some (if (oc f h k).Out = true then (0, false) else (net f h k, true)) := by
  have hc : k < h.Choices.length := by rw [ha.chs]; exact hk
  obtain ⟨h1, h2, _⟩ := ha.choice k hk
  unfold M214
  rw [outcomeV_eq hf ha.world hk hc h1 h2, some_bind]
  cases hxo : (oc f h k).Out with
  | true => rfl
  | false =>
    have hx := oc_ok hf ha hk
    have hb := net_bound hf ha hk hxo
    obtain ⟨g1, g2, _⟩ := hx.2 hxo
    unfold net at hb
    dsimp only
    rw [cond_false, ch_idx ha hk, some_bind, bif_dec]
    have ho : off h (vr (oc f h k)) = if (oc f h k).Seg ≥ 0 then off h ((oc f h k).Seg.toNat + 1) else 0 := by
      unfold vr
      by_cases h3 : (oc f h k).Seg ≥ 0
      · rw [if_pos h3]; congr 1; omega
      · rw [if_neg h3]
        have : ((oc f h k).Seg + 1).toNat = 0 := by omega
        rw [this]; rfl
    by_cases h3 : (oc f h k).Seg ≥ 0
    · have e2 : (oc f h k).Seg = ((oc f h k).Seg.toNat : Int) := by omega
      rw [if_pos h3] at ho ⊢
      have h4 : (oc f h k).Seg.toNat < nseg f := by
        have : (oc f h k).Seg < (nseg f : Int) := g2
        omega
      have h5 := off_idx ha h4
      rw [← e2] at h5
      rw [h5, some_bind, ← ho, w64_of (by omega) (by omega)]
      rfl
    · rw [if_neg h3] at ho ⊢
      rw [if_neg (by decide)]
      unfold net
      rw [ho]
      simp
def tm (f : TField) (h : THistory) (i : Nat) : Option Thistory_pair_int_int := if (oc f h i).Out = true then none else some ⟨(i : Int), net f h i⟩
def tms (f : TField) (h : THistory) (n : Nat) : List Thistory_pair_int_int := (List.range n).filterMap (tm f h)
theorem tms_succ (f : TField) (h : THistory) (n : Nat) : tms f h (n + 1) = tms f h n ++ (tm f h n).toList := by
  unfold tms
  rw [List.range_succ, List.filterMap_append]
  cases hq : tm f h n <;> simp [List.filterMap_cons, hq]
theorem tms_len (f : TField) (h : THistory) (n : Nat) : (tms f h n).length ≤ n := by
  unfold tms
  have := List.length_filterMap_le (tm f h) (List.range n)
  simpa using this
theorem tms_mem {f : TField} {h : THistory} {n : Nat} {p : Thistory_pair_int_int} (hp : p ∈ tms f h n) : ∃ i, i < n ∧ (oc f h i).Out = false ∧ p = ⟨(i : Int), net f h i⟩ := by
  unfold tms at hp
  obtain ⟨i, h1, h2⟩ := List.mem_filterMap.1 hp
  unfold tm at h2
  cases hx : (oc f h i).Out with
  | true => rw [hx] at h2; simp at h2
  | false => rw [hx] at h2; simp at h2; exact ⟨i, by simpa using h1, hx, h2.symm⟩
theorem times_eq {f : TField} (hs : Small f) (hf : FieldOK f) {h : THistory} (ha : Adm f h) : M216 ⟨f, h⟩ = some (tms f h (nrun f)) := by
  have hlen : nrun f ≤ 1000000 := hs.runners
  unfold M216
  rw [fuel_sub]
  obtain ⟨s, h1, h2⟩ := inv_loop (N := nrun f) (f := fun n i l => M215 ⟨f, h⟩ n (i : Int) l) (k := some) (I := fun i l => l = tms f h i) (s0 := []) (fun i l hi hI => by
    refine ⟨_, rfl, fun n => ?_⟩
    subst hI
    have hl := tms_len f h i
    show M215 ⟨f, h⟩ (n + 1) (i : Int) (tms f h i) = _
    rw [M215]
    dsimp only
    rw [dec_lt_nat, decide_eq_true hi, cond_true, netV_eq hf ha hi, w64_succ (by omega), tms_succ]
    unfold tm
    cases (oc f h i).Out with
    | true => simp
    | false =>
      simp only [some_bind, Bool.false_eq_true, if_false, cond_true, Option.toList_some]
      rw [app_ok (by simp; omega) (by simp; omega), some_bind]) (fun n l => by
    show M215 ⟨f, h⟩ (n + 1) ((nrun f : Nat) : Int) l = _
    rw [M215]
    simp) rfl
  replace h1 : M215 ⟨f, h⟩ (f.Runners.length + 1) 0 [] = some s := h1
  dsimp only
  rw [h1, h2]; rfl
theorem compareV_eq {f : TField} (hs : Small f) {h : THistory} {a b : Nat} (ha : a < nrun f) (hb : b < nrun f) (p q : Int) : ∃ r, M217 ⟨f, h⟩ ⟨(a : Int), p⟩ ⟨(b : Int), q⟩ = some r ∧ decide (r < 0) = front f a b (p - q) := by
  unfold M217 front
  obtain ⟨c, g3, g4⟩ := Compare_lt (keys f a) (keys f b) (keys_len hs ha)
  simp only [cmp_eq, some_bind, idx_lt ha, idx_lt hb, keys_get, g3, or2_eq]
  refine ⟨_, rfl, ?_⟩
  rw [← g4]
  by_cases h1 : p < q
  · have e : p - q < 0 := by omega
    simp [h1, e]
  · by_cases h2 : q < p
    · have e1 : ¬(p - q < 0) := by omega
      have e2 : ¬(p - q = 0) := by omega
      simp [h1, h2, e1, e2]
    · have e : p = q := by omega
      subst e
      simp
theorem histRank_L1 {f : TField} (hs : Small f) {h : THistory} {r : Nat} (hr : r < nrun f) : M218 (r : Int) ⟨f, h⟩ (net f h r) (tms f h (nrun f)) ((tms f h (nrun f)).length + 1) 0 0 = some (((tms f h (nrun f)).countP fun p => front f p.first.toNat r (p.second - net f h r) : Nat) : Int) := by
  have hlen : nrun f ≤ 1000000 := hs.runners
  have htl := tms_len f h (nrun f)
  have hmem : ∀ p, p ∈ tms f h (nrun f) → ∃ i, i < nrun f ∧ p = ⟨(i : Int), net f h i⟩ := fun p hp => by
    obtain ⟨i, h1, _, h2⟩ := tms_mem hp; exact ⟨i, h1, h2⟩
  generalize tms f h (nrun f) = l at htl hmem
  obtain ⟨s, h1, h2⟩ := inv_loop (N := l.length) (f := fun n i c => M218 (r : Int) ⟨f, h⟩ (net f h r) l n c (i : Int)) (k := some) (I := fun i c => c = (((l.take i).countP fun p => front f p.first.toNat r (p.second - net f h r) : Nat) : Int)) (s0 := 0) (fun i c hi hI => by
    refine ⟨_, rfl, fun n => ?_⟩
    show M218 (r : Int) ⟨f, h⟩ (net f h r) l (n + 1) c (i : Int) = _
    obtain ⟨k, hk, hkp⟩ := hmem _ (List.getElem_mem hi)
    obtain ⟨x, hx1, hx2⟩ := compareV_eq hs (h := h) hk hr (net f h k) (net f h r)
    have hle := List.countP_le_length (p := fun p : Thistory_pair_int_int => front f p.first.toNat r (p.second - net f h r)) (l := l.take i)
    have hle2 : (l.take i).length ≤ i := by simp; omega
    rw [M218, dec_lt_nat, decide_eq_true hi, cond_true, idx_lt hi, some_bind, hkp, hx1, some_bind, hx2, w64_succ (by omega), hI, List.take_succ_eq_append_getElem hi, List.countP_append, hkp]
    generalize (l.take i).countP _ = q at hle
    rw [w64_of (n := (q : Int) + 1) (by omega) (by omega)]
    simp only [List.countP_cons, List.countP_nil, Int.toNat_natCast]
    by_cases hb : front f k r (net f h k - net f h r) = true
    · simp [hb]
    · simp [hb]) (fun n c => by
    show M218 (r : Int) ⟨f, h⟩ (net f h r) l (n + 1) c ((l.length : Nat) : Int) = _
    rw [M218]; simp) (by simp)
  rw [h2, List.take_length] at h1
  exact h1
theorem count_tms {f : TField} {h : THistory} {r : Nat} (hxo : (oc f h r).Out = false) (n : Nat) : (tms f h n).countP (fun p => front f p.first.toNat r (p.second - net f h r)) = (List.range n).countP fun k => inFr f h k r := by
  induction n with
  | zero => rfl
  | succ n ih =>
    rw [tms_succ, List.countP_append, ih, List.range_succ, List.countP_append]
    congr 1
    unfold tm inFr
    cases hx : (oc f h n).Out with
    | true => simp [hx]
    | false => simp [hxo, hx, List.countP_cons]
theorem histOf_eq {f : TField} (hs : Small f) (h : THistory) (r : Int) : M213 f h r = chk (FieldOK f) (zview, 240) (chk (Adm f h) (⟨f, h⟩, 260) (chk (InR f r) (⟨f, h⟩, 250) (some (⟨f, h⟩, 0)))) := by
  unfold M213
  rw [open_eq hs]
  by_cases hf : FieldOK f
  · rw [chk_pos hf, chk_pos hf]
    by_cases ha : Adm f h
    · rw [chk_pos ha, chk_pos ha]
      simp only [some_bind, beq_self_eq_true, cond_true, bif_dec]
      unfold InR
      by_cases h1 : r < 0
      · rw [if_pos h1, chk_neg (by omega)]
      · rw [if_neg h1]
        by_cases h2 : r ≥ (f.Runners.length : Int)
        · rw [if_pos h2, chk_neg (by omega)]
        · rw [if_neg h2, chk_pos (by omega)]
    · rw [chk_neg ha, chk_neg ha]; rfl
  · rw [chk_neg hf, chk_neg hf]; rfl
theorem histRank_eq {f : TField} (hs : Small f) (h : THistory) (a : Int) : M219 f h a = chk (FieldOK f) (0, 240) (chk (Adm f h) (0, 260) (chk (InR f a) (0, 250) (some ((rank f h a.toNat : Int), 0)))) := by
  have hlen : nrun f ≤ 1000000 := hs.runners
  unfold M219
  rw [histOf_eq hs]
  by_cases hf : FieldOK f
  · rw [chk_pos hf, chk_pos hf]
    by_cases ha : Adm f h
    · rw [chk_pos ha, chk_pos ha]
      by_cases hr : InR f a
      · rw [chk_pos hr, chk_pos hr]
        obtain ⟨r, rfl, hr'⟩ := inR_nat hr
        simp only [some_bind, bne_self_eq_false, cond_false, netV_eq hf ha hr', Int.toNat_natCast]
        unfold rank
        cases hxo : (oc f h r).Out with
        | true => rfl
        | false =>
          have hc := count_le (N := nrun f) (p := fun k => inFr f h k r)
          simp only [Bool.false_eq_true, if_false, Bool.not_true, cond_false, times_eq hs hf ha, some_bind, fuel_sub, histRank_L1 hs hr', count_tms hxo]
          rw [w64_of (by omega) (by omega), Int.natCast_add, Int.add_comm]
          rfl
      · rw [chk_neg hr, chk_neg hr]; rfl
    · rw [chk_neg ha, chk_neg ha]; rfl
  · rw [chk_neg hf, chk_neg hf]; rfl
theorem sorted_uniq {α : Type} {r : α → α → Prop} : ∀ {l m : List α}, l.Pairwise r → m.Pairwise r → (∀ x, x ∈ l ↔ x ∈ m) → (∀ x y, x ∈ l → y ∈ l → r x y → r y x → False) → (∀ x, x ∈ l → ¬r x x) → l = m
  | [], [], _, _, _, _, _ => rfl
  | [], b :: m, _, _, h, _, _ => by have := (h b).2 (by simp); simp at this
  | a :: l, [], _, _, h, _, _ => by have := (h a).1 (by simp); simp at this
  | a :: l, b :: m, hl, hm, h, ha, hi => by
    obtain ⟨l1, l2⟩ := List.pairwise_cons.1 hl
    obtain ⟨m1, m2⟩ := List.pairwise_cons.1 hm
    have e : a = b := by
      refine Classical.byContradiction fun hne => ?_
      have h1 : a ∈ m := by
        rcases List.mem_cons.1 ((h a).1 (by simp)) with h | h
        · exact absurd h hne
        · exact h
      have h2 : b ∈ l := by
        rcases List.mem_cons.1 ((h b).2 (by simp)) with h | h
        · exact absurd h.symm hne
        · exact h
      exact ha a b (by simp) (by simp [h2]) (l1 b h2) (m1 a h1)
    subst e
    congr 1
    refine sorted_uniq l2 m2 (fun x => ?_) (fun x y hx hy => ha x y (by simp [hx]) (by simp [hy])) (fun x hx => hi x (by simp [hx]))
    constructor
    · intro hx
      rcases List.mem_cons.1 ((h x).1 (by simp [hx])) with rfl | h3
      · exact absurd (l1 x hx) (hi x (by simp))
      · exact h3
    · intro hx
      rcases List.mem_cons.1 ((h x).2 (by simp [hx])) with rfl | h3
      · exact absurd (m1 x hx) (hi x (by simp))
      · exact h3
def befN (f : TField) (h : THistory) (a b : Nat) : Prop := inFr f h a b = true ∨ (inFr f h b a = false ∧ a < b)
def IsOrd (f : TField) (h : THistory) (l : List Int) : Prop := ∃ s : List Nat, l = s.map (fun i : Nat => (i : Int)) ∧ s.Pairwise (befN f h) ∧ ∀ i, i ∈ s ↔ i < nrun f ∧ (oc f h i).Out = false
theorem inFr_iff {f : TField} {h : THistory} {a b : Nat} (ha : (oc f h a).Out = false) (hb : (oc f h b).Out = false) : inFr f h a b = true ↔ net f h a < net f h b ∨ (net f h a = net f h b ∧ kLt (keys f a) (keys f b) = true) := by
  unfold inFr front
  rw [ha, hb]
  simp only [Bool.not_false, Bool.true_and, Bool.false_or, Bool.or_eq_true, Bool.and_eq_true, decide_eq_true_eq]
  constructor
  · rintro (h | ⟨h, hk⟩)
    · left; omega
    · right; exact ⟨by omega, hk⟩
  · rintro (h | ⟨h, hk⟩)
    · left; omega
    · right; exact ⟨by omega, hk⟩
theorem befN_iff {f : TField} {h : THistory} {a b : Nat} (ha : (oc f h a).Out = false) (hb : (oc f h b).Out = false) : befN f h a b ↔ net f h a < net f h b ∨ (net f h a = net f h b ∧ (kLt (keys f a) (keys f b) = true ∨ (keys f a = keys f b ∧ a < b))) := by
  unfold befN
  rw [inFr_iff ha hb, ← Bool.not_eq_true, inFr_iff hb ha]
  constructor
  · rintro ((h1 | ⟨h1, h2⟩) | ⟨h1, h2⟩)
    · exact .inl h1
    · exact .inr ⟨h1, .inl h2⟩
    · by_cases h3 : net f h a < net f h b
      · exact .inl h3
      · have h4 : net f h a = net f h b := by
          by_cases h5 : net f h b < net f h a
          · exact absurd (.inl h5) h1
          · omega
        refine .inr ⟨h4, ?_⟩
        cases h5 : kLt (keys f a) (keys f b) with
        | true => exact .inl rfl
        | false =>
          have h6 : kLt (keys f b) (keys f a) = false := by
            rw [← Bool.not_eq_true]; intro h7; exact h1 (.inr ⟨h4.symm, h7⟩)
          exact .inr ⟨kLt_total h5 h6, h2⟩
  · rintro (h1 | ⟨h1, h2 | ⟨h2, h3⟩⟩)
    · exact .inl (.inl h1)
    · exact .inl (.inr ⟨h1, h2⟩)
    · refine .inr ⟨?_, h3⟩
      rintro (h4 | ⟨_, h4⟩)
      · omega
      · rw [h2, kLt_irrefl] at h4; cases h4
theorem befN_trans {f : TField} {h : THistory} {a b c : Nat} (ha : (oc f h a).Out = false) (hb : (oc f h b).Out = false) (hc : (oc f h c).Out = false) (h1 : befN f h a b) (h2 : befN f h b c) : befN f h a c := by
  rw [befN_iff ha hb] at h1
  rw [befN_iff hb hc] at h2
  rw [befN_iff ha hc]
  rcases h1 with h1 | ⟨h1, h3⟩
  · rcases h2 with h2 | ⟨h2, _⟩
    · left; omega
    · left; omega
  · rcases h2 with h2 | ⟨h2, h4⟩
    · left; omega
    · refine .inr ⟨by omega, ?_⟩
      rcases h3 with h3 | ⟨h3, h5⟩
      · rcases h4 with h4 | ⟨h4, _⟩
        · exact .inl (kLt_trans h3 h4)
        · exact .inl (h4 ▸ h3)
      · rcases h4 with h4 | ⟨h4, h6⟩
        · exact .inl (h3 ▸ h4)
        · exact .inr ⟨h3.trans h4, by omega⟩
theorem befN_irrefl {f : TField} {h : THistory} {a : Nat} (ha : (oc f h a).Out = false) : ¬befN f h a a := by
  rw [befN_iff ha ha]
  rintro (h1 | ⟨_, h2 | ⟨_, h2⟩⟩)
  · omega
  · rw [kLt_irrefl] at h2; cases h2
  · omega
theorem IsOrd.uniq {f : TField} {h : THistory} {l m : List Int} (hl : IsOrd f h l) (hm : IsOrd f h m) : l = m := by
  obtain ⟨s, rfl, h1, h2⟩ := hl
  obtain ⟨t, rfl, h3, h4⟩ := hm
  rw [sorted_uniq h1 h3 (fun x => (h2 x).trans (h4 x).symm) (fun x y hx hy hxy hyx => befN_irrefl ((h2 x).1 hx).2 (befN_trans ((h2 x).1 hx).2 ((h2 y).1 hy).2 ((h2 x).1 hx).2 hxy hyx)) (fun x hx => befN_irrefl ((h2 x).1 hx).2)]
theorem sane27_true : M271 = some true := by kernel_rfl
theorem containsV_eq {l : List TRunner} {w : Nat} (hl : l.length ≤ 1000000) (hw : ∀ r, r ∈ l → w < r.Worlds.length) : ∃ b, M107 l (w : Int) = some b ∧ (b = true ↔ ¬Poss l w) := by
  unfold M107 M106
  rw [fuel_sub]
  obtain ⟨r, h1, h2⟩ := find_loop (N := l.length) (f := fun n i => M104 l (w : Int) M105 n (i : Int)) (p := fun i => (wl l i w).length = 0) (fun n i hi => by
    show M104 l (w : Int) _ (n + 1) (i : Int) = _
    rw [M104, dec_lt_nat, decide_eq_true hi, cond_true, idx_lt hi, some_bind, w64_succ (by omega)]
    unfold M103
    rw [wl_get hi (hw _ (List.getElem_mem hi)), some_bind, some_bind, bif_eq]
    by_cases h : (wl l i w).length = 0
    · rw [if_pos h, if_pos (by omega)]
    · rw [if_neg h, if_neg (by omega)]) (fun n => by
    show M104 l (w : Int) _ (n + 1) ((l.length : Nat) : Int) = _
    rw [M104]
    simp [M105])
  refine ⟨decide (r ≥ 0), ?_, ?_⟩
  · have h1 : M104 l (w : Int) M105 (l.length + 1) 0 = some r := h1
    rw [h1]; rfl
  · rw [decide_eq_true_iff, h2]
    unfold Poss
    simp only [Classical.not_forall, Classical.not_not, exists_prop]
theorem worldsV_eq {f : TField} (hs : Small f) (hf : FieldOK f) : M110 f.Clocks.Segments f.Clocks.Far f.Pairs f.Runners = some (listP (Poss f.Runners) 0 (f.Pairs.length + 1)) := by
  have hsr := hs.runners
  have hsp := hs.pairs
  unfold M110
  rw [w64_succ (by omega), fuel_sub]
  refine it_loop (N := f.Pairs.length + 1) (f := fun n w => M108 f.Pairs f.Runners M109 n (w : Int)) (fun n w hw => ?_) (fun n => ?_)
  · show M108 f.Pairs f.Runners M109 (n + 1) (w : Int) = _
    obtain ⟨b, h1, h2⟩ := containsV_eq hsr (w := w) (fun r h => by rw [worlds_of hf.runner r h]; exact hw)
    rw [M108, w64_succ (by omega), dec_lt_nat, decide_eq_true hw, cond_true, h1, some_bind, w64_succ (by omega)]
    cases b with
    | true => rw [if_neg (h2.1 rfl)]; rfl
    | false => rw [if_pos (Classical.byContradiction fun h => by simpa using h2.2 h)]; rfl
  · show M108 f.Pairs f.Runners M109 (n + 1) ((f.Pairs.length + 1 : Nat) : Int) = _
    rw [M108, w64_succ (by omega)]
    simp [M109]
theorem listP_iff {p : Nat → Prop} {y : Int} : ∀ {c i : Nat}, y ∈ listP p i c ↔ ∃ w : Nat, y = (w : Int) ∧ i ≤ w ∧ w < i + c ∧ p w
  | 0, i => by
    simp only [listP, List.not_mem_nil, false_iff, not_exists, not_and]
    intro w _ _; omega
  | c + 1, i => by
    rw [listP]
    constructor
    · intro h
      split at h
      · rename_i hp
        rcases List.mem_cons.1 h with rfl | h
        · exact ⟨i, rfl, Nat.le_refl _, by omega, hp⟩
        · obtain ⟨w, h1, h2, h3, h4⟩ := listP_iff.1 h
          exact ⟨w, h1, by omega, by omega, h4⟩
      · obtain ⟨w, h1, h2, h3, h4⟩ := listP_iff.1 h
        exact ⟨w, h1, by omega, by omega, h4⟩
    · rintro ⟨w, rfl, h2, h3, h4⟩
      by_cases e : w = i
      · subst e
        rw [if_pos h4]; exact List.mem_cons_self ..
      · have : (w : Int) ∈ listP p (i + 1) c := listP_iff.2 ⟨w, rfl, by omega, by omega, h4⟩
        split
        · exact List.mem_cons_of_mem _ this
        · exact this
theorem foldE_find {α ρ : Type} {f : α → Unit → Option (Unit ⊕ ρ)} {p : α → Prop} {Q : ρ → Prop} : ∀ {l : List α}, (∀ a, a ∈ l → (¬p a ∧ f a () = some (.inl ())) ∨ (p a ∧ ∃ r, f a () = some (.inr r) ∧ Q r)) →
    ((∀ a, a ∈ l → ¬p a) ∧ foldE f l () = some (.inl ())) ∨ (∃ r, foldE f l () = some (.inr r) ∧ Q r ∧ ∃ a, a ∈ l ∧ p a)
  | [], _ => .inl ⟨fun a h => by simp at h, rfl⟩
  | a :: l, hs => by
    rcases hs a (by simp) with ⟨h1, h2⟩ | ⟨h1, r, h2, h3⟩
    · rcases foldE_find (l := l) fun b hb => hs b (by simp [hb]) with ⟨h3, h4⟩ | ⟨r, h3, h4, b, h5, h6⟩
      · refine .inl ⟨fun b hb => ?_, by rw [foldE, h2]; exact h4⟩
        rcases List.mem_cons.1 hb with rfl | hb
        · exact h1
        · exact h3 b hb
      · exact .inr ⟨r, by rw [foldE, h2]; exact h3, h4, b, by simp [h5], h6⟩
    · exact .inr ⟨r, by rw [foldE, h2]; rfl, h3, a, by simp, h1⟩
theorem far0_offs {f : TField} (hf : FieldOK f) : ∃ row, idx f.Clocks.Far 0 = some row ∧ row.length = nseg f + 1 ∧ row.drop 1 = (List.range (nseg f)).map (fun k => far f 0 (k + 1)) := by
  have h1 := hf.clocks.far
  have h0 : 0 < f.Clocks.Far.length := by omega
  have hr := (hf.clocks.row 0 h0).1
  refine ⟨f.Clocks.Far[0], idx_lt h0, by simpa [h0] using hr, ?_⟩
  have hl : f.Clocks.Far[0].length = nseg f + 1 := by simpa [h0] using hr
  refine List.ext_getElem (by simp [hl]) fun i hi hi' => ?_
  have h3 : i + 1 < f.Clocks.Far[0].length := by simp at hi; omega
  simp only [List.getElem_drop, List.getElem_map, List.getElem_range]
  unfold far at2
  have e : 1 + i = i + 1 := by omega
  simp [h0, h3, e]
def LoChoice (f : TField) (w k : Nat) (c : TChoice) : Prop := ∃ j : Nat, ∃ y, (wl f.Runners k w)[j]? = some y ∧ c = ⟨(j : Int), if y.Out = true then 0 else y.Lo⟩
theorem lo_adm {f : TField} (hf : FieldOK f) {w : Nat} (hw : w < npair f + 1) (hp : Poss f.Runners w) {l : List TChoice} (hl : Lst (LoChoice f w) (nrun f) l) :
    Adm f ⟨(w : Int), (List.range (nseg f)).map (fun k => far f 0 (k + 1)), l⟩ where
  world := ⟨by show 0 ≤ (w : Int); omega, by show (w : Int) < npair f + 1; omega⟩
  poss := by show Poss f.Runners ((w : Int)).toNat; rw [Int.toNat_natCast]; exact hp
  offs := by simp
  chs := hl.1
  small i hi := by
    have h0 : far f 0 0 = 0 := far_self hf (by omega)
    rw [off_map (g := fun k => far f 0 k) hi h0]
    have := far_bound hf (i := 0) (j := i) (by omega) hi
    omega
  tri i hi k hk := by
    have h0 : far f 0 0 = 0 := far_self hf (by omega)
    rw [off_map (g := fun k => far f 0 k) hi h0, off_map (g := fun k => far f 0 k) hk h0]
    have := far_tri hf (i := 0) (j := i) (m := k) (by omega) hi hk
    omega
  choice k hk := by
    obtain ⟨j, y, h1, h2⟩ := ch_lst hl (w := (w : Int)) (o := (List.range (nseg f)).map (fun k => far f 0 (k + 1))) hk
    have hlt := (List.getElem?_eq_some_iff.1 h1).1
    have hoc : oc f ⟨(w : Int), (List.range (nseg f)).map (fun k => far f 0 (k + 1)), l⟩ k = y := by
      unfold oc
      rw [h2]
      show ((wl f.Runners k ((w : Int)).toNat)[((j : Int)).toNat]?).getD default = y
      rw [Int.toNat_natCast, Int.toNat_natCast, h1]; rfl
    have hok : OutOK f.Clocks y := (show Occ f k w j y from ⟨hw, hp, h1⟩).ok hf hk
    rw [hoc, h2]
    refine ⟨by show 0 ≤ (j : Int); omega, by show (j : Int) < (wl f.Runners k ((w : Int)).toNat).length; rw [Int.toNat_natCast]; omega, fun hx => ?_, fun hx => ?_⟩
    · show (if y.Out = true then 0 else y.Lo) = 0
      rw [if_pos hx]
    · show y.Lo ≤ (if y.Out = true then 0 else y.Lo) ∧ (if y.Out = true then 0 else y.Lo) ≤ y.Hi
      rw [if_neg (by rw [hx]; decide)]
      exact ⟨Int.le_refl _, (hok.2 hx).2.2.2.1⟩
theorem indexOut_eq {l : List TOutcome} (hl : l.length ≤ 1000000) : (∃ i : Nat, ∃ x, l[i]? = some x ∧ x.Out = true ∧ M114 l = some (i : Int)) ∨ ((∀ x, x ∈ l → x.Out = false) ∧ M114 l = some (-1)) := by
  unfold M114
  rw [fuel_sub]
  rcases find_at (l := l) (f := fun n i => M112 l M113 n (i : Int)) (p := fun x => x.Out) (A := fun i _ => (i : Int)) (k := some (-1)) (fun n i h => by
    show M112 l _ (n + 1) (i : Int) = _
    rw [M112, dec_lt_nat, decide_eq_true h, cond_true, idx_lt h, some_bind, w64_succ (by omega)]
    unfold M111
    rw [some_bind]
    cases l[i].Out <;> rfl) (fun n => by
    show M112 l _ (n + 1) ((l.length : Nat) : Int) = _
    rw [M112, dec_lt_nat, decide_eq_false (by omega)]; rfl) with ⟨i, h, h1, h2, _⟩ | ⟨h1, h2⟩
  · exact .inl ⟨i, l[i], by simp [h], h1, h2⟩
  · exact .inr ⟨h1, h2⟩
theorem without_L2_eq {f : TField} (hs : Small f) (hf : FieldOK f) {r w at_ : Nat} {x : TOutcome} (hr : r < nrun f) (hw : w < npair f + 1) (hp : Poss f.Runners w) (ha : (wl f.Runners r w)[at_]? = some x) (hx : x.Out = true) :
    ∃ l, M116 f (r : Int) (w : Int) (at_ : Int) (nrun f + 1) 0 [] = some l ∧ Lst (LoChoice f w) (nrun f) l ∧ l[r]? = some ⟨(at_ : Int), 0⟩ := by
  have hlen : nrun f ≤ 1000000 := hs.runners
  obtain ⟨l, h1, h2, h3⟩ := inv_loop (N := nrun f) (f := fun n i s => M116 f (r : Int) (w : Int) (at_ : Int) n (i : Int) s) (k := some) (I := fun i s => Lst (LoChoice f w) i s ∧ (r < i → s[r]? = some ⟨(at_ : Int), 0⟩)) (s0 := []) (fun i s hi ⟨hI, hI2⟩ => by
    have hi' : i < f.Runners.length := hi
    obtain ⟨_, wg⟩ := wl_mem hf hi' hw
    have h0 : 0 < (wl f.Runners i w).length := by have := hp i hi; omega
    have hl := hI.1
    have g0 : idx (wl f.Runners i w) 0 = some (wl f.Runners i w)[0] := idx_lt h0
    by_cases e : i = r
    · subst e
      refine ⟨s ++ [⟨(at_ : Int), 0⟩], ⟨hI.snoc ⟨at_, x, ha, by rw [if_pos hx]⟩, fun _ => ?_⟩, fun n => ?_⟩
      · rw [List.getElem?_append_right (by omega), hl]; simp
      · show M116 f (i : Int) (w : Int) (at_ : Int) (n + 1) (i : Int) s = _
        rw [M116, dec_lt_nat, decide_eq_true hi', cond_true, idx_lt hi', some_bind, wg, some_bind, g0, some_bind, bif_eq, if_pos rfl, app_ok (by simp; omega) (by simp; omega), some_bind, w64_succ (by omega)]
    · refine ⟨s ++ [⟨0, (wl f.Runners i w)[0].Lo⟩], ⟨hI.snoc ⟨0, (wl f.Runners i w)[0], by simp [h0], ?_⟩, fun hlt => ?_⟩, fun n => ?_⟩
      · have hok : OutOK f.Clocks (wl f.Runners i w)[0] := (show Occ f i w 0 _ from ⟨hw, hp, by simp [h0]⟩).ok hf hi
        split
        · rename_i ho; rw [(hok.1 ho).2.1]; rfl
        · rfl
      · rw [List.getElem?_append_left (by omega)]; exact hI2 (by omega)
      · show M116 f (r : Int) (w : Int) (at_ : Int) (n + 1) (i : Int) s = _
        rw [M116, dec_lt_nat, decide_eq_true hi', cond_true, idx_lt hi', some_bind, wg, some_bind, g0, some_bind, bif_eq, if_neg (by omega), app_ok (by simp; omega) (by simp; omega), some_bind, w64_succ (by omega)]) (fun n s => by
    show M116 f (r : Int) (w : Int) (at_ : Int) (n + 1) ((nrun f : Nat) : Int) s = _
    rw [M116, dec_lt_nat, decide_eq_false (show ¬(nrun f < f.Runners.length) from Nat.lt_irrefl _)]; rfl) ⟨.nil, fun h => by omega⟩
  exact ⟨l, h1, h2, h3 hr⟩
theorem without_eq {f : TField} (hs : Small f) (hf : FieldOK f) {r : Nat} (hr : r < nrun f) :
    ((∀ w i x, Occ f r w i x → x.Out = false) ∧ M118 f (r : Int) = some (⟨0, [], []⟩, false)) ∨ (∃ h, M118 f (r : Int) = some (h, true) ∧ Adm f h ∧ (oc f h r).Out = true) := by
  have hr' : r < f.Runners.length := hr
  unfold M118 M102
  rw [some_bind]
  dsimp only
  rw [worldsV_eq hs hf, some_bind]
  rcases foldE_find (f := M117 f (r : Int)) (l := listP (Poss f.Runners) 0 (f.Pairs.length + 1)) (p := fun y => ∃ x, x ∈ wl f.Runners r y.toNat ∧ x.Out = true) (Q := fun q => Adm f ⟨q.1, q.2.1, q.2.2⟩ ∧ (oc f ⟨q.1, q.2.1, q.2.2⟩ r).Out = true) (fun y hy => by
    obtain ⟨w, rfl, _, hw, hp⟩ := listP_iff.1 hy
    have hw' : w < npair f + 1 := by have : w < f.Pairs.length + 1 := by omega
                                     exact this
    obtain ⟨wm, wg⟩ := wl_mem hf hr' hw'
    have hwl : (wl f.Runners r w).length ≤ 1000 := (hs.worlds _ (List.getElem_mem hr')).2.2 _ wm
    unfold M117
    dsimp only
    rw [idx_lt hr', some_bind, wg, some_bind, Int.toNat_natCast]
    rcases indexOut_eq (l := wl f.Runners r w) (by omega) with ⟨i, x, h1, h2, h3⟩ | ⟨h1, h2⟩
    · refine .inr ⟨⟨x, List.mem_of_getElem? h1, h2⟩, ?_⟩
      obtain ⟨row, g1, g2, g3⟩ := far0_offs hf
      obtain ⟨l, k1, k2, k3⟩ := without_L2_eq hs hf hr hw' hp h1 h2
      have hsl : slcFrom row 1 = some (row.drop 1) := by unfold slcFrom; rw [if_pos ⟨by omega, by omega⟩]; rfl
      have hcl : M115 (row.drop 1) = some (row.drop 1) := by
        have := hs.seg
        unfold M115
        rw [app_ok (by simp [g2]; unfold nseg; omega) (by simp [g2]; unfold nseg; omega)]; rfl
      rw [h3, some_bind, decide_eq_false (by omega), cond_false, g1, some_bind, hsl, some_bind, hcl, some_bind, fuel_sub]
      unfold nrun at k1
      rw [k1, some_bind]
      refine ⟨_, rfl, ?_, ?_⟩
      · rw [g3]; exact lo_adm hf hw' hp k2
      · show (((wl f.Runners r ((w : Int)).toNat)[(ch ⟨(w : Int), row.drop 1, l⟩ r).Outcome.toNat]?).getD default).Out = true
        have : ch ⟨(w : Int), row.drop 1, l⟩ r = ⟨(i : Int), 0⟩ := by unfold ch; rw [k3]; rfl
        rw [this, Int.toNat_natCast]
        show (((wl f.Runners r w)[((i : Int)).toNat]?).getD default).Out = true
        rw [Int.toNat_natCast, h1]; exact h2
    · refine .inl ⟨?_, ?_⟩
      · rintro ⟨x, hx, ho⟩; rw [h1 x hx] at ho; cases ho
      · rw [h2, some_bind]; rfl) with ⟨h1, h2⟩ | ⟨q, h1, ⟨h2, h3⟩, _⟩
  · rw [h2]
    refine .inl ⟨fun w i x ho => ?_, rfl⟩
    have := h1 (w : Int) (listP_iff.2 ⟨w, rfl, Nat.zero_le _, by have : w < f.Pairs.length + 1 := ho.1; omega, ho.2.1⟩)
    cases hx : x.Out with
    | false => rfl
    | true => exact absurd ⟨x, by rw [Int.toNat_natCast]; exact List.mem_of_getElem? ho.2.2, hx⟩ this
  · rw [h1]
    obtain ⟨a, b, c⟩ := q
    exact .inr ⟨_, rfl, h2, h3⟩
def bibN (f : TField) (i : Nat) : Int := ((f.Runners[i]?).map (·.Bib)).getD 0
theorem bib_step {f : TField} (hf : FieldOK f) {i : Nat} (hi : i + 1 < nrun f) : bibN f i < bibN f (i + 1) := by
  have hi' : i + 1 < f.Runners.length := hi
  have h := (hf.runner (i + 1) hi' f.Runners[i + 1] (by simp [hi'])).1.2.2.1 (by omega) f.Runners[i] (by simp)
  unfold bibN
  simpa [hi', show i < f.Runners.length by omega] using h
theorem bib_lt {f : TField} (hf : FieldOK f) {i : Nat} : ∀ {j : Nat}, i < j → j < nrun f → bibN f i < bibN f j
  | 0, h, _ => by omega
  | j + 1, h, hj => by
    have h1 := bib_step hf hj
    by_cases e : i = j
    · subst e; exact h1
    · have := bib_lt hf (i := i) (j := j) (by omega) (by omega)
      omega
theorem bib_inj {f : TField} (hf : FieldOK f) {i j : Nat} (hi : i < nrun f) (hj : j < nrun f) (h : bibN f i = bibN f j) : i = j := by
  rcases Nat.lt_trichotomy i j with h1 | h1 | h1
  · have := bib_lt hf h1 hj; omega
  · exact h1
  · have := bib_lt hf h1 hi; omega
theorem find_eq {f : TField} (hs : Small f) (b : Int) :
    (∃ i, i < nrun f ∧ bibN f i = b ∧ M191 f b = some ((i : Int), true) ∧ M163 f b = some ((i : Int), true)) ∨ ((∀ i, i < nrun f → bibN f i ≠ b) ∧ M191 f b = some (0, false) ∧ M163 f b = some (0, false)) := by
  have hlen := hs.runners
  unfold M191 M163 M190
  rw [fuel_sub]
  have h1 := find_at (l := f.Runners) (f := fun n i => M188 f.Runners b M189 n (i : Int)) (p := fun x => x.Bib == b) (A := fun i _ => (i : Int)) (k := some (-1)) (fun n i h => by
    show M188 f.Runners b _ (n + 1) (i : Int) = _
    rw [M188, dec_lt_nat, decide_eq_true h, cond_true, idx_lt h, some_bind, w64_succ (by omega)]
    unfold M187
    rw [some_bind]
    cases f.Runners[i].Bib == b <;> rfl) (fun n => by
    show M188 f.Runners b _ (n + 1) ((f.Runners.length : Nat) : Int) = _
    rw [M188, dec_lt_nat, decide_eq_false (by omega)]; rfl)
  have h2 := find_at (l := f.Runners) (f := fun n i => M161 f b M162 n (i : Int)) (p := fun x => x.Bib == b) (A := fun i _ => ((i : Int), true)) (k := some (0, false)) (fun n i h => by
    show M161 f b _ (n + 1) (i : Int) = _
    rw [M161, dec_lt_nat, decide_eq_true h, cond_true, idx_lt h, some_bind, w64_succ (by omega)]
    cases f.Runners[i].Bib == b <;> rfl) (fun n => by
    show M161 f b _ (n + 1) ((f.Runners.length : Nat) : Int) = _
    rw [M161, dec_lt_nat, decide_eq_false (by omega)]; rfl)
  rcases h1 with ⟨i, hi, p1, e1, m1⟩ | ⟨n1, e1⟩
  · rcases h2 with ⟨j, hj, p2, e2, m2⟩ | ⟨n2, _⟩
    · have : i = j := by
        rcases Nat.lt_trichotomy i j with h | h | h
        · rw [m2 i hi h] at p1; cases p1
        · exact h
        · rw [m1 j hj h] at p2; cases p2
      subst this
      refine .inl ⟨i, hi, ?_, ?_, e2⟩
      · unfold bibN; simpa [hi] using p1
      · replace e1 : M188 f.Runners b M189 (f.Runners.length + 1) 0 = some (i : Int) := e1
        rw [e1, some_bind]
        have g1 : maxG (i : Int) 0 = (i : Int) := by unfold maxG; rw [if_neg (by omega)]
        rw [g1, decide_eq_true (by omega)]
    · have := n2 _ (List.getElem_mem hi)
      rw [this] at p1; cases p1
  · rcases h2 with ⟨j, hj, p2, _, _⟩ | ⟨n2, e2⟩
    · have := n1 _ (List.getElem_mem hj)
      rw [this] at p2; cases p2
    · refine .inr ⟨fun i hi h => ?_, ?_, e2⟩
      · have hi' : i < f.Runners.length := hi
        have := n1 _ (List.getElem_mem hi')
        unfold bibN at h
        simp [hi'] at h
        simp [h] at this
      · replace e1 : M188 f.Runners b M189 (f.Runners.length + 1) 0 = some (-1) := e1
        rw [e1]; rfl
theorem bibN_of {f : TField} {r : Nat} {x : TRank} (hx : IsRank f r x) : bibN f r = x.Bib := by
  unfold bibN; rw [hx.bib]; rfl
theorem find_bib {f : TField} (hs : Small f) (hf : FieldOK f) {r : Nat} (hr : r < nrun f) : M191 f (bibN f r) = some ((r : Int), true) ∧ M163 f (bibN f r) = some ((r : Int), true) := by
  rcases find_eq hs (bibN f r) with ⟨i, h1, h2, h3, h4⟩ | ⟨h1, _⟩
  · have := bib_inj hf h1 hr h2
    subst this
    exact ⟨h3, h4⟩
  · exact absurd rfl (h1 r hr)
theorem Prove_ok {f : TField} (hs : Small f) (hf : FieldOK f) {r : Nat} (hr : r < nrun f) {x : TRank} (hx : IsRank f r x) (h0 : M93 f (r : Int) = some (x, 0)) :
    (x.Kind ≠ 2 ∧ ∃ p, M127 f (r : Int) = some (p, 270)) ∨ (x.Kind = 2 ∧ ∃ a b, M127 f (r : Int) = some (⟨x.Bib, a, b⟩, 0) ∧ Adm f a ∧ Adm f b ∧ (rank f a r : Int) = x.Lo ∧ (x.Lo < x.Hi ∧ (rank f b r : Int) = x.Hi ∨ x.Lo = x.Hi ∧ rank f b r = 0 ∧ x.Out = true) ∧ 1 ≤ x.Lo) := by
  unfold M127
  rw [h0, some_bind]
  simp only [bne_self_eq_false, cond_false]
  rw [bif_ne]
  by_cases hk : x.Kind = 2
  · rw [if_pos hk]
    refine .inr ⟨hk, ?_⟩
    have hk2 := hx.kind
    rcases Best_ok hs hf hr hx with ⟨k1, _⟩ | ⟨_, a, k2, k3, k4⟩
    · omega
    · have hlo : 1 ≤ x.Lo ∧ x.Lo ≤ x.Hi := by
        rcases rank_known hf k3 hr hx with ⟨g1, _⟩ | ⟨g1, g2, g3, g4⟩
        · exfalso
          rw [g1] at k4
          rw [hk, if_pos (by omega)] at hk2; cases hk2
        · omega
      rw [k2]
      simp only [some_bind, bif_eq, Bool.not_true, cond_false]
      by_cases e : x.Lo = x.Hi
      · rw [if_pos e]
        have ho : x.Out = true := by
          cases hq : x.Out with
          | true => rfl
          | false => rw [hk, if_neg (by omega), if_pos ⟨e, hq⟩] at hk2; cases hk2
        rcases without_eq hs hf hr with ⟨g1, _⟩ | ⟨b, g1, g2, g3⟩
        · obtain ⟨w, i, y, g4, g5⟩ := hx.out.1 ho
          rw [g1 w i y g4] at g5; cases g5
        · rw [g1]
          exact ⟨a, b, rfl, k3, g2, k4, .inr ⟨e, rank_zero.2 g3, ho⟩, hlo.1⟩
      · rw [if_neg e]
        rcases Worst_ok hs hf hr hx with ⟨k5, _⟩ | ⟨_, b, g1, g2, g3⟩
        · omega
        · rw [g1]
          exact ⟨a, b, rfl, k3, g2, k4, .inl ⟨by omega, g3⟩, hlo.1⟩
  · rw [if_neg hk]
    exact .inl ⟨hk, _, rfl⟩
theorem duelAhead_eq {f : TField} (hs : Small f) {r k : Nat} (hr : r < f.Runners.length) (hk : k < f.Runners.length) {x : TOutcome} (d : Int) : M222 ⟨f.Clocks.Far, f.Runners[k], f.Runners[r], x⟩ d = some (front f k r d) := by
  unfold M222 M221 front
  obtain ⟨c, g3, g4⟩ := Compare_lt (keys f k) (keys f r) (keys_len hs hk)
  simp only [keys_get, g3, some_bind, g4]
  by_cases h6 : d < 0
  · simp [h6]
  · by_cases h7 : d = 0
    · simp [h7]
    · simp [h6, h7, bif_eq]
theorem duelForced_eq {f : TField} (hs : Small f) (hf : FieldOK f) {r k : Nat} (hr : r < f.Runners.length) (hk : k < f.Runners.length) {x y : TOutcome} (hx : OutOK f.Clocks x) (hy : OutOK f.Clocks y) (hxo : x.Out = false) :
    M223 ⟨f.Clocks.Far, f.Runners[k], f.Runners[r], x⟩ y = some (forced f r x k y) := by
  unfold M223 forced
  cases hyo : y.Out with
  | true => rfl
  | false =>
    obtain ⟨e1, h1⟩ := vr_eq hf.clocks hx hxo
    obtain ⟨e2, h2⟩ := vr_eq hf.clocks hy hyo
    obtain ⟨row, g1, g2⟩ := far_get hf.clocks h1 h2
    obtain ⟨_, _, b1, b2, b3⟩ := hx.2 hxo
    obtain ⟨_, _, b4, b5, b6⟩ := hy.2 hyo
    have b7 := far_bound hf h1 h2
    unfold far at b7
    simp only [Bool.not_false, cond_true, e1, e2, g1, g2, some_bind]
    rw [w64_of (n := y.Hi - x.Lo) (by omega) (by omega), w64_of (by omega) (by omega), duelAhead_eq hs hr hk, some_bind]
    have : y.Hi - x.Lo + at2 f.Clocks.Far (vr x) (vr y) = y.Hi + far f (vr x) (vr y) - x.Lo := by unfold far; omega
    rw [this]; simp
theorem duelPossible_eq {f : TField} (hs : Small f) (hf : FieldOK f) {r k : Nat} (hr : r < f.Runners.length) (hk : k < f.Runners.length) {x y : TOutcome} (hx : OutOK f.Clocks x) (hy : OutOK f.Clocks y) (hxo : x.Out = false) :
    M229 ⟨f.Clocks.Far, f.Runners[k], f.Runners[r], x⟩ y = some (can f r x k y) := by
  unfold M229 can
  cases hyo : y.Out with
  | true => rfl
  | false =>
    obtain ⟨e1, h1⟩ := vr_eq hf.clocks hx hxo
    obtain ⟨e2, h2⟩ := vr_eq hf.clocks hy hyo
    obtain ⟨row, g1, g2⟩ := far_get hf.clocks h2 h1
    obtain ⟨_, _, b1, b2, b3⟩ := hx.2 hxo
    obtain ⟨_, _, b4, b5, b6⟩ := hy.2 hyo
    have b7 := far_bound hf h2 h1
    unfold far at b7
    simp only [Bool.not_false, cond_true, e1, e2, g1, g2, some_bind]
    rw [w64_of (n := y.Lo - x.Hi) (by omega) (by omega), w64_of (by omega) (by omega), duelAhead_eq hs hr hk, some_bind]
    have : y.Lo - x.Hi - at2 f.Clocks.Far (vr y) (vr x) = y.Lo - far f (vr y) (vr x) - x.Hi := by unfold far; omega
    rw [this]; simp
theorem anyForced_eq {f : TField} (hs : Small f) (hf : FieldOK f) {r k w : Nat} (hr : r < f.Runners.length) (hk : k < f.Runners.length) (hw : w < npair f + 1) {x : TOutcome} (hx : OutOK f.Clocks x) (hxo : x.Out = false) :
    M228 (wl f.Runners k w) f.Clocks.Far f.Runners[k].Bib f.Runners[k].Keys f.Runners[k].Worlds f.Runners[r].Bib f.Runners[r].Keys f.Runners[r].Worlds x.Out x.Seg x.Lo x.Hi = some ((wl f.Runners k w).any fun y => !forced f r x k y) := by
  obtain ⟨wm, _⟩ := wl_mem hf hk hw
  have hl := (hs.worlds _ (List.getElem_mem hk)).2.2 _ wm
  have hok := (hf.runner k hk _ (by simp [hk])).2 _ wm
  unfold M228 M227
  rw [fuel_sub]
  rcases find_at (l := wl f.Runners k w) (f := fun n i => M225 (wl f.Runners k w) f.Clocks.Far f.Runners[k].Bib f.Runners[k].Keys f.Runners[k].Worlds f.Runners[r].Bib f.Runners[r].Keys f.Runners[r].Worlds x.Out x.Seg x.Lo x.Hi M226 n (i : Int)) (p := fun y => !forced f r x k y) (A := fun i _ => (i : Int)) (k := some (-1)) (fun n i h => by
    show M225 (wl f.Runners k w) f.Clocks.Far f.Runners[k].Bib f.Runners[k].Keys f.Runners[k].Worlds f.Runners[r].Bib f.Runners[r].Keys f.Runners[r].Worlds x.Out x.Seg x.Lo x.Hi _ (n + 1) (i : Int) = _
    rw [M225, dec_lt_nat, decide_eq_true h, cond_true, idx_lt h, some_bind, w64_succ (by omega)]
    unfold M224
    have e := duelForced_eq hs hf hr hk hx (hok _ (List.getElem_mem h)) hxo
    have e' : M223 ⟨f.Clocks.Far, ⟨f.Runners[k].Bib, f.Runners[k].Keys, f.Runners[k].Worlds⟩, ⟨f.Runners[r].Bib, f.Runners[r].Keys, f.Runners[r].Worlds⟩, ⟨x.Out, x.Seg, x.Lo, x.Hi⟩⟩ (wl f.Runners k w)[i] = _ := e
    rw [e', some_bind, some_bind]
    cases forced f r x k (wl f.Runners k w)[i] <;> rfl) (fun n => by
    show M225 (wl f.Runners k w) f.Clocks.Far f.Runners[k].Bib f.Runners[k].Keys f.Runners[k].Worlds f.Runners[r].Bib f.Runners[r].Keys f.Runners[r].Worlds x.Out x.Seg x.Lo x.Hi _ (n + 1) (((wl f.Runners k w).length : Nat) : Int) = _
    rw [M225, dec_lt_nat, decide_eq_false (by omega)]; rfl) with ⟨i, h, h1, h2, _⟩ | ⟨h1, h2⟩
  · replace h2 : M225 (wl f.Runners k w) f.Clocks.Far f.Runners[k].Bib f.Runners[k].Keys f.Runners[k].Worlds f.Runners[r].Bib f.Runners[r].Keys f.Runners[r].Worlds x.Out x.Seg x.Lo x.Hi M226 ((wl f.Runners k w).length + 1) 0 = some (i : Int) := h2
    rw [h2, some_bind, decide_eq_true (by omega)]
    congr 1; symm
    exact List.any_eq_true.2 ⟨_, List.getElem_mem h, h1⟩
  · replace h2 : M225 (wl f.Runners k w) f.Clocks.Far f.Runners[k].Bib f.Runners[k].Keys f.Runners[k].Worlds f.Runners[r].Bib f.Runners[r].Keys f.Runners[r].Worlds x.Out x.Seg x.Lo x.Hi M226 ((wl f.Runners k w).length + 1) 0 = some (-1) := h2
    rw [h2, some_bind]
    congr 1; symm
    show _ = false
    rw [Bool.eq_false_iff]
    intro h
    obtain ⟨y, hy, hp⟩ := List.any_eq_true.1 h
    rw [h1 y hy] at hp; cases hp
theorem anyPossible_eq {f : TField} (hs : Small f) (hf : FieldOK f) {r k w : Nat} (hr : r < f.Runners.length) (hk : k < f.Runners.length) (hw : w < npair f + 1) {x : TOutcome} (hx : OutOK f.Clocks x) (hxo : x.Out = false) :
    M233 (wl f.Runners k w) ⟨f.Clocks.Far, f.Runners[k], f.Runners[r], x⟩ = some ((wl f.Runners k w).any fun y => can f r x k y) := by
  obtain ⟨wm, _⟩ := wl_mem hf hk hw
  have hl := (hs.worlds _ (List.getElem_mem hk)).2.2 _ wm
  have hok := (hf.runner k hk _ (by simp [hk])).2 _ wm
  unfold M233 M232
  rw [fuel_sub]
  rcases find_at (l := wl f.Runners k w) (f := fun n i => M230 (wl f.Runners k w) ⟨f.Clocks.Far, f.Runners[k], f.Runners[r], x⟩ M231 n (i : Int)) (p := fun y => can f r x k y) (A := fun i _ => (i : Int)) (k := some (-1)) (fun n i h => by
    show M230 (wl f.Runners k w) ⟨f.Clocks.Far, f.Runners[k], f.Runners[r], x⟩ _ (n + 1) (i : Int) = _
    rw [M230, dec_lt_nat, decide_eq_true h, cond_true, idx_lt h, some_bind, w64_succ (by omega), duelPossible_eq hs hf hr hk hx (hok _ (List.getElem_mem h)) hxo, some_bind]
    cases can f r x k (wl f.Runners k w)[i] <;> rfl) (fun n => by
    show M230 (wl f.Runners k w) ⟨f.Clocks.Far, f.Runners[k], f.Runners[r], x⟩ _ (n + 1) (((wl f.Runners k w).length : Nat) : Int) = _
    rw [M230, dec_lt_nat, decide_eq_false (by omega)]; rfl) with ⟨i, h, h1, h2, _⟩ | ⟨h1, h2⟩
  · replace h2 : M230 (wl f.Runners k w) ⟨f.Clocks.Far, f.Runners[k], f.Runners[r], x⟩ M231 ((wl f.Runners k w).length + 1) 0 = some (i : Int) := h2
    rw [h2, some_bind, decide_eq_true (by omega)]
    congr 1; symm
    exact List.any_eq_true.2 ⟨_, List.getElem_mem h, h1⟩
  · replace h2 : M230 (wl f.Runners k w) ⟨f.Clocks.Far, f.Runners[k], f.Runners[r], x⟩ M231 ((wl f.Runners k w).length + 1) 0 = some (-1) := h2
    rw [h2, some_bind]
    congr 1; symm
    show _ = false
    rw [Bool.eq_false_iff]
    intro h
    obtain ⟨y, hy, hp⟩ := List.any_eq_true.1 h
    rw [h1 y hy] at hp; cases hp
theorem any_not_all {α : Type} (l : List α) (p : α → Bool) : (l.any fun y => !p y) = !l.all p := by
  induction l with
  | nil => rfl
  | cons a t ih => simp only [List.any_cons, List.all_cons, ih, Bool.not_and]
theorem bounds_L3_eq {f : TField} (hs : Small f) (hf : FieldOK f) {r w : Nat} (hr : r < nrun f) (hw : w < npair f + 1) {x : TOutcome} (hx : OutOK f.Clocks x) (hxo : x.Out = false) :
    M234 f (r : Int) (w : Int) x (nrun f + 1) 1 1 0 = some ((nBest f w r x : Int), (nWorst f w r x : Int)) := by
  have hlen : nrun f ≤ 1000000 := hs.runners
  have hr' : r < f.Runners.length := hr
  obtain ⟨s, h1, h2⟩ := inv_loop (N := nrun f) (f := fun n i (s : Int × Int) => M234 f (r : Int) (w : Int) x n s.1 s.2 (i : Int)) (k := some) (I := fun i s => s = (((1 + (List.range i).countP (sureK f w r x) : Nat) : Int), ((1 + (List.range i).countP (mayK f w r x) : Nat) : Int))) (s0 := (1, 1)) (fun i s hi hI => by
    have hi' : i < f.Runners.length := hi
    obtain ⟨_, wg⟩ := wl_mem hf hi' hw
    refine ⟨_, rfl, fun n => ?_⟩
    show M234 f (r : Int) (w : Int) x (n + 1) s.1 s.2 (i : Int) = _
    rw [M234, dec_lt_nat, decide_eq_true hi', cond_true, idx_lt hi', some_bind, bif_eq, hI]
    have c1 := count_le (N := i) (p := sureK f w r x)
    have c2 := count_le (N := i) (p := mayK f w r x)
    have d1 : (List.range (i + 1)).countP (sureK f w r x) = (List.range i).countP (sureK f w r x) + if sureK f w r x i = true then 1 else 0 := by rw [List.range_succ, List.countP_append]; simp [List.countP_cons]
    have d2 : (List.range (i + 1)).countP (mayK f w r x) = (List.range i).countP (mayK f w r x) + if mayK f w r x i = true then 1 else 0 := by rw [List.range_succ, List.countP_append]; simp [List.countP_cons]
    rw [d1, d2]
    generalize (List.range i).countP (sureK f w r x) = p at c1
    generalize (List.range i).countP (mayK f w r x) = q at c2
    by_cases hir : i = r
    · have e1 : sureK f w r x i = false := by unfold sureK; simp [hir]
      have e2 : mayK f w r x i = false := by unfold mayK; simp [hir]
      rw [if_pos (by omega), some_bind, w64_succ (by omega), e1, e2]
      rfl
    · rw [if_neg (by omega), idx_lt hr', some_bind, wg, some_bind, anyForced_eq hs hf hr' hi' hw hx hxo, anyPossible_eq hs hf hr' hi' hw hx hxo, any_not_all]
      have e1 : sureK f w r x i = (wl f.Runners i w).all (forced f r x i) := by unfold sureK; simp [hir]
      have e2 : mayK f w r x i = (wl f.Runners i w).any (can f r x i) := by unfold mayK; simp [hir]
      rw [e1, e2]
      simp only [some_bind, Bool.not_not]
      rw [w64_succ (i := i) (by omega), w64_of (n := ((1 + p : Nat) : Int) + 1) (by omega) (by omega), w64_of (n := ((1 + q : Nat) : Int) + 1) (by omega) (by omega)]
      cases (wl f.Runners i w).all (forced f r x i) <;> cases (wl f.Runners i w).any (can f r x i) <;> rfl) (fun n s => by
    show M234 f (r : Int) (w : Int) x (n + 1) s.1 s.2 ((nrun f : Nat) : Int) = _
    rw [M234, dec_lt_nat, decide_eq_false (show ¬(nrun f < f.Runners.length) from Nat.lt_irrefl _)]; rfl) rfl
  replace h1 : M234 f (r : Int) (w : Int) x (nrun f + 1) 1 1 0 = some s := h1
  rw [h1, h2]; rfl
def WithinX (f : TField) (r w : Nat) (k : TRank) (x : TOutcome) : Prop := (x.Out = true → k.Out = true) ∧ (x.Out = false → k.Lo ≤ NB f r w x ∧ NW f r w x ≤ k.Hi)
theorem bounds_L2_eq {f : TField} (hs : Small f) (hf : FieldOK f) {r w : Nat} (hr : r < nrun f) (hw : w < npair f + 1) (hp : Poss f.Runners w) (k : TRank) :
    M235 f k (r : Int) (w : Int) (wl f.Runners r w) M236 ((wl f.Runners r w).length + 1) 0 = chk (∀ i, i < (wl f.Runners r w).length → ∀ x, (wl f.Runners r w)[i]? = some x → WithinX f r w k x) (.inr ()) (some (.inl ())) := by
  have hr' : r < f.Runners.length := hr
  obtain ⟨wm, _⟩ := wl_mem hf hr' hw
  have hl := (hs.worlds _ (List.getElem_mem hr')).2.2 _ wm
  refine chk_loop (f := fun n i => M235 f k (r : Int) (w : Int) (wl f.Runners r w) M236 n (i : Int)) (ok := fun i => ∀ x, (wl f.Runners r w)[i]? = some x → WithinX f r w k x) (fun n i hi => ?_) (fun n => ?_)
  · show M235 f k (r : Int) (w : Int) (wl f.Runners r w) M236 (n + 1) (i : Int) = _
    have hoc : Occ f r w i (wl f.Runners r w)[i] := ⟨hw, hp, by simp [hi]⟩
    have hx := hoc.ok hf hr
    have hiff : (∀ x, (wl f.Runners r w)[i]? = some x → WithinX f r w k x) ↔ WithinX f r w k (wl f.Runners r w)[i] := by simp [hi]
    rw [M235, dec_lt_nat, decide_eq_true hi, cond_true, idx_lt hi, some_bind, w64_succ (by omega), chk_congr hiff (fun _ => rfl)]
    cases hxo : (wl f.Runners r w)[i].Out with
    | true =>
      rw [cond_true]
      cases hko : k.Out with
      | true => rw [chk_pos ⟨fun _ => hko, fun h => by rw [hxo] at h; cases h⟩]; rfl
      | false => rw [chk_neg (fun h => by have := h.1 hxo; rw [hko] at this; cases this)]; rfl
    | false =>
      rw [cond_false, fuel_sub]
      have e := bounds_L3_eq hs hf hr hw hx hxo
      unfold nrun at e
      rw [e, some_bind]
      dsimp only
      rw [bif_dec, bif_dec]
      by_cases h1 : k.Lo > (nBest f w r (wl f.Runners r w)[i] : Int)
      · rw [if_pos h1, chk_neg (fun h => by have := (h.2 hxo).1; unfold NB at this; omega)]
      · rw [if_neg h1]
        by_cases h2 : k.Hi < (nWorst f w r (wl f.Runners r w)[i] : Int)
        · rw [if_pos h2, chk_neg (fun h => by have := (h.2 hxo).2; unfold NW at this; omega)]
        · rw [if_neg h2, chk_pos (show WithinX f r w k _ from ⟨fun h => (by rw [hxo] at h; cases h), fun _ => (by unfold NB NW; omega)⟩)]
  · show M235 f k (r : Int) (w : Int) (wl f.Runners r w) M236 (n + 1) (((wl f.Runners r w).length : Nat) : Int) = _
    rw [M235, dec_lt_nat, decide_eq_false (by omega)]; rfl
def Within (f : TField) (r : Nat) (k : TRank) : Prop := ∀ w i x, Occ f r w i x → WithinX f r w k x
theorem Bounds_eq {f : TField} (hs : Small f) (hf : FieldOK f) {r : Nat} (hr : r < nrun f) {k : TRank} (hb : bibN f r = k.Bib) : M238 f k = chk (Within f r k) 270 (some 0) := by
  have hr' : r < f.Runners.length := hr
  unfold M238
  rw [field_Check_eq hs, chk_pos hf, ← hb, (find_bib hs hf hr).1]
  simp only [some_bind, bne_self_eq_false, cond_false, Bool.not_true]
  unfold M102
  rw [some_bind]
  dsimp only
  rw [worldsV_eq hs hf, some_bind]
  rcases foldE_find (f := M237 f k (r : Int)) (l := listP (Poss f.Runners) 0 (f.Pairs.length + 1)) (p := fun y => ¬∀ i, i < (wl f.Runners r y.toNat).length → ∀ x, (wl f.Runners r y.toNat)[i]? = some x → WithinX f r y.toNat k x) (Q := fun _ => True) (fun y hy => by
    obtain ⟨w, rfl, _, hw, hp⟩ := listP_iff.1 hy
    have hw' : w < npair f + 1 := by have : w < f.Pairs.length + 1 := by omega
                                     exact this
    obtain ⟨wm, wg⟩ := wl_mem hf hr' hw'
    unfold M237
    dsimp only
    rw [idx_lt hr', some_bind, wg, some_bind, fuel_sub, bounds_L2_eq hs hf hr hw' hp, Int.toNat_natCast]
    by_cases h : ∀ i, i < (wl f.Runners r w).length → ∀ x, (wl f.Runners r w)[i]? = some x → WithinX f r w k x
    · rw [chk_pos h]; exact .inl ⟨fun h' => h' h, rfl⟩
    · rw [chk_neg h]; exact .inr ⟨h, _, rfl, trivial⟩) with ⟨h1, h2⟩ | ⟨q, h1, _, y, hy, hny⟩
  · rw [h2, chk_pos]
    · rfl
    · intro w i x ho
      have := h1 (w : Int) (listP_iff.2 ⟨w, rfl, Nat.zero_le _, by have : w < f.Pairs.length + 1 := ho.1; omega, ho.2.1⟩)
      rw [Int.toNat_natCast] at this
      exact Classical.not_not.1 this i (List.getElem?_eq_some_iff.1 ho.2.2).1 x ho.2.2
  · rw [h1, chk_neg]
    · rfl
    · intro h
      obtain ⟨w, rfl, _, hw, hp⟩ := listP_iff.1 hy
      rw [Int.toNat_natCast] at hny
      exact hny fun i hi x hx => h w i x ⟨by have : w < f.Pairs.length + 1 := by omega
                                             exact this, hp, hx⟩
theorem within_known {f : TField} {r : Nat} {x k : TRank} (hx : IsRank f r x) (hk : Within f r k) : (x.Lo ≠ 0 → k.Lo ≤ x.Lo ∧ x.Hi ≤ k.Hi) ∧ (x.Out = true → k.Out = true) := by
  refine ⟨fun h0 => ⟨?_, ?_⟩, fun ho => ?_⟩
  · rcases hx.lo with ⟨h1, _⟩ | ⟨⟨w, i, y, h1, h2, h3⟩, _⟩
    · exact absurd h1 h0
    · rw [h3]; exact ((hk w i y h1).2 h2).1
  · rcases hx.hi with ⟨_, h2⟩ | ⟨⟨w, i, y, h1, h2, h3⟩, _⟩
    · rcases hx.lo with ⟨h1, _⟩ | ⟨⟨w, i, y, h3, h4, _⟩, _⟩
      · exact absurd h1 h0
      · rw [h2 w i y h3] at h4; cases h4
    · rw [h3]; exact ((hk w i y h1).2 h2).2
  · obtain ⟨w, i, y, h1, h2⟩ := hx.out.1 ho
    exact (hk w i y h1).1 h2
theorem within_self {f : TField} {r : Nat} {x : TRank} (hx : IsRank f r x) : Within f r x := by
  intro w i y ho
  refine ⟨fun h => hx.out.2 ⟨w, i, y, ho, h⟩, fun h => ⟨?_, ?_⟩⟩
  · rcases hx.lo with ⟨_, h2⟩ | ⟨_, h2⟩
    · rw [h2 w i y ho] at h; cases h
    · exact h2 w i y ho h
  · rcases hx.hi with ⟨_, h2⟩ | ⟨_, h2⟩
    · rw [h2 w i y ho] at h; cases h
    · exact h2 w i y ho h
theorem kind_lo {f : TField} {r : Nat} {x : TRank} (hx : IsRank f r x) (h : x.Kind ≠ 3) : x.Lo ≠ 0 := by
  intro h0
  exact h (by rw [hx.kind, if_pos h0])
theorem not_within_lo {f : TField} {r : Nat} {x k : TRank} (hx : IsRank f r x) (h0 : x.Lo ≠ 0) (hk : x.Lo < k.Lo) : ¬Within f r k := by
  intro h
  have := ((within_known hx h).1 h0).1
  omega
theorem not_within_hi {f : TField} {r : Nat} {x k : TRank} (hx : IsRank f r x) (h0 : x.Lo ≠ 0) (hk : k.Hi < x.Hi) : ¬Within f r k := by
  intro h
  have := ((within_known hx h).1 h0).2
  omega
theorem not_within_out {f : TField} {r : Nat} {x k : TRank} (hx : IsRank f r x) (h0 : x.Out = true) (hk : k.Out = false) : ¬Within f r k := by
  intro h
  have := (within_known hx h).2 h0
  rw [hk] at this; cases this
def openTail (f : TField) (n : Int) (x : TRank) (p : TProof) (e : Int) : Option Bool :=
  bif e != 0 then some (e == 270) else
  (M219 f p.A n).bind fun (a, i) =>
  (M219 f p.B n).bind fun (b, j) =>
  bif x.Lo == x.Hi then
    Option.bind (
      (M220 f x p).bind fun c =>
      bif c == 0 then
        (idx f.Runners n).bind fun y =>
        bif p.Bib == y.Bib then
          bif i == 0 then
            bif j == 0 then
              bif a == x.Lo then
                bif b == 0 then some (a != b) else some false
              else some false
            else some false
          else some false
        else some false
      else some false
    ) fun v => some v
  else
    Option.bind (
      (M220 f x p).bind fun c =>
      bif c == 0 then
        (idx f.Runners n).bind fun y =>
        bif p.Bib == y.Bib then
          bif i == 0 then
            bif j == 0 then
              bif a == x.Lo then
                bif b == x.Hi then some (a != b) else some false
              else some false
            else some false
          else some false
        else some false
      else some false
    ) fun v => some v
theorem witCheck_ok {f : TField} (hs : Small f) (hf : FieldOK f) {r : Nat} (hr : r < nrun f) {x : TRank} (hb : bibN f r = x.Bib) (hk : x.Kind = 2) {a b : THistory} (ha : Adm f a) (hb' : Adm f b) (h1 : (rank f a r : Int) = x.Lo) (h2 : x.Lo < x.Hi ∧ (rank f b r : Int) = x.Hi ∨ x.Lo = x.Hi ∧ rank f b r = 0 ∧ x.Out = true) (h3 : 1 ≤ x.Lo) :
    M220 f x ⟨x.Bib, a, b⟩ = some 0 := by
  unfold M220
  rw [field_Check_eq hs, chk_pos hf, ← hb, (find_bib hs hf hr).1, hk]
  simp only [some_bind, bne_self_eq_false, cond_false, Bool.not_true]
  rw [histRank_eq hs, histRank_eq hs, chk_pos hf, chk_pos hf, chk_pos ha, chk_pos hb', chk_pos (inR_of hr), chk_pos (inR_of hr)]
  simp only [some_bind, bne_self_eq_false, cond_false, Int.toNat_natCast]
  rw [h1]
  rcases h2 with ⟨h2, h4⟩ | ⟨h2, h4, h5⟩
  · have e1 : (x.Lo == x.Hi) = false := by simp; omega
    have e2 : decide (x.Lo < 1) = false := decide_eq_false (by omega)
    have e3 : decide (x.Lo > x.Hi) = false := decide_eq_false (by omega)
    have e4 : (x.Hi == 0) = false := by simp; omega
    rw [e1, cond_false, h4, e2, e3, e4]; simp
  · have e1 : (x.Lo == x.Hi) = true := by simp [h2]
    have e2 : decide (x.Lo < 1) = false := decide_eq_false (by omega)
    have e3 : decide (x.Lo > x.Hi) = false := decide_eq_false (by omega)
    rw [e1, cond_true, h4, h5, e2, e3]; simp
theorem openTail_true {f : TField} (hs : Small f) (hf : FieldOK f) {r : Nat} (hr : r < nrun f) {x : TRank} (hx : IsRank f r x) {p : TProof} {e : Int}
    (h : (x.Kind ≠ 2 ∧ e = 270) ∨ (x.Kind = 2 ∧ e = 0 ∧ ∃ a b, p = ⟨x.Bib, a, b⟩ ∧ Adm f a ∧ Adm f b ∧ (rank f a r : Int) = x.Lo ∧ (x.Lo < x.Hi ∧ (rank f b r : Int) = x.Hi ∨ x.Lo = x.Hi ∧ rank f b r = 0 ∧ x.Out = true) ∧ 1 ≤ x.Lo)) :
    openTail f (r : Int) x p e = some true := by
  have hr' : r < f.Runners.length := hr
  unfold openTail
  rcases h with ⟨_, rfl⟩ | ⟨hk, rfl, a, b, rfl, ha, hb, h1, h2, h3⟩
  · rfl
  · have hbib := bibN_of hx
    have hbi : f.Runners[r].Bib = x.Bib := by rw [← hbib]; unfold bibN; simp [hr']
    simp only [bne_self_eq_false, cond_false]
    rw [histRank_eq hs, histRank_eq hs, chk_pos hf, chk_pos hf, chk_pos ha, chk_pos hb, chk_pos (inR_of hr), chk_pos (inR_of hr)]
    simp only [some_bind, Int.toNat_natCast]
    rw [witCheck_ok hs hf hr hbib hk ha hb h1 h2 h3]
    simp only [some_bind, beq_self_eq_true, cond_true, idx_lt hr', hbi, h1]
    rcases h2 with ⟨h2, h4⟩ | ⟨h2, h4, h5⟩
    · have e1 : (x.Lo == x.Hi) = false := by simp; omega
      have e2 : (x.Lo != x.Hi) = true := by simp; omega
      rw [e1, cond_false, h4]
      simp only [beq_self_eq_true, cond_true, e2, some_bind]
    · have e1 : (x.Lo == x.Hi) = true := by simp [h2]
      have e2 : (x.Lo != 0) = true := by simp; omega
      rw [e1, cond_true, h4]
      simp [e2]
theorem openOut {f : TField} (hs : Small f) (hf : FieldOK f) {r : Nat} (hr : r < nrun f) {x : TRank} (hx : IsRank f r x) (ho : x.Out = true) : M238 f ⟨x.Bib, x.Kind, x.Lo, x.Hi, false⟩ = some 270 := by
  rw [Bounds_eq hs hf hr (k := ⟨x.Bib, x.Kind, x.Lo, x.Hi, false⟩) (Eq.trans (bibN_of hx) rfl), chk_neg (not_within_out hx ho rfl)]
theorem rank_bounds {f : TField} (hs : Small f) {r : Nat} (_hr : r < nrun f) {x : TRank} (hx : IsRank f r x) : 0 ≤ x.Lo ∧ x.Lo ≤ 10000000 ∧ 0 ≤ x.Hi ∧ x.Hi ≤ 10000000 := by
  have hlen : nrun f ≤ 1000000 := hs.runners
  have b1 : ∀ w y, NB f r w y ≤ 1 + (nrun f : Int) := fun w y => by
    unfold NB nBest
    have := count_le (N := nrun f) (p := sureK f w r y)
    omega
  have b2 : ∀ w y, NW f r w y ≤ 1 + (nrun f : Int) := fun w y => by
    unfold NW nWorst
    have := count_le (N := nrun f) (p := mayK f w r y)
    omega
  constructor
  · rcases hx.lo with ⟨h1, _⟩ | ⟨⟨w, i, y, _, _, h3⟩, _⟩
    · omega
    · have := NB_pos f r w y; omega
  · constructor
    · rcases hx.lo with ⟨h1, _⟩ | ⟨⟨w, i, y, _, _, h3⟩, _⟩
      · omega
      · have := b1 w y; omega
    · rcases hx.hi with ⟨h1, _⟩ | ⟨⟨w, i, y, _, _, h3⟩, _⟩
      · omega
      · have := NW_pos f r w y; have := b2 w y; omega
theorem WitnessOpen_true (y0 : TField) (y1 : Int) (w0 : wTField y0) (w1 : wU8 y1) : M307 y0 y1 = some true := by
  unfold M307
  rw [sane27_true, some_bind]
  obtain ⟨b, h1, h2⟩ := few24_eq w0
  rw [h1]
  cases b with
  | false => rfl
  | true =>
    obtain ⟨hs, _⟩ := h2 rfl
    simp only [some_bind, Bool.not_true, cond_false]
    rw [ref24_Check_eq hs]
    by_cases hf : FieldOK y0
    · rw [chk_pos hf]
      simp only [some_bind, bne_self_eq_false, cond_false]
      have hl := hf.size.2.1
      obtain ⟨c1, c2⟩ := w1
      have hn : ∃ r : Nat, r < nrun y0 ∧ Int.tmod (w64 y1) (y0.Runners.length : Int) = (r : Int) := by
        rw [w64_of (by omega) (by omega)]
        have e : y1 = ((y1.toNat : Nat) : Int) := by omega
        rw [e]
        refine ⟨y1.toNat % y0.Runners.length, Nat.mod_lt _ (by omega), ?_⟩
        rfl
      obtain ⟨r, hr, en⟩ := hn
      have hz : nz (y0.Runners.length : Int) = some () := by unfold nz; rw [if_neg (by omega)]
      rw [hz, some_bind]
      obtain ⟨x, g1, _, _, hx⟩ := Of_ok hs hf hr
      have hb := rank_bounds hs hr hx
      obtain ⟨p, e, k1, k2⟩ : ∃ p e, M127 y0 (r : Int) = some (p, e) ∧ ((x.Kind ≠ 2 ∧ e = 270) ∨ (x.Kind = 2 ∧ e = 0 ∧ ∃ a b, p = ⟨x.Bib, a, b⟩ ∧ Adm y0 a ∧ Adm y0 b ∧ (rank y0 a r : Int) = x.Lo ∧ (x.Lo < x.Hi ∧ (rank y0 b r : Int) = x.Hi ∨ x.Lo = x.Hi ∧ rank y0 b r = 0 ∧ x.Out = true) ∧ 1 ≤ x.Lo)) := by
        rcases Prove_ok hs hf hr hx g1 with ⟨q1, p, q2⟩ | ⟨q1, a, b, q2, q3⟩
        · exact ⟨p, 270, q2, .inl ⟨q1, rfl⟩⟩
        · exact ⟨_, 0, q2, .inr ⟨q1, rfl, a, b, rfl, q3⟩⟩
      have hT := openTail_true hs hf hr hx (p := p) (e := e) k2
      have hke : ((e == 0) == (x.Kind == 2)) = true := by
        rcases k2 with ⟨q1, rfl⟩ | ⟨q1, rfl, _⟩
        · simp [q1]
        · simp [q1]
      have hB : M238 y0 x = some 0 := by rw [Bounds_eq hs hf hr (bibN_of hx), chk_pos (within_self hx)]
      rw [en, g1, some_bind]
      dsimp only
      rw [k1, some_bind]
      dsimp only
      rw [hB]
      simp only [some_bind, bne_self_eq_false, cond_false, hke, Bool.not_true]
      have hJ : M306 y0 y1 x p e () = some true := by
        unfold M306
        rw [en]
        cases ho : x.Out with
        | true =>
          rw [cond_true, openOut hs hf hr hx ho]
          exact hT
        | false => exact hT
      by_cases hk3 : x.Kind = 3
      · have e3 : (x.Kind != 3) = false := by simp [hk3]
        rw [e3, cond_false]
        cases ho : x.Out with
        | true =>
          rw [cond_true, openOut hs hf hr hx ho]
          exact hT
        | false => exact hT
      · have e3 : (x.Kind != 3) = true := by simp [hk3]
        rw [e3, cond_true]
        have h0 := kind_lo hx hk3
        have key := chk_loop (N := 2) (f := fun n i => M305 y0 x (M306 y0 y1 x p e) n (i : Int)) (r := false) (ok := fun _ => True) (k := some true) (fun n i hi => by
          show M305 y0 x _ (n + 1) (i : Int) = _
          rw [M305, decide_eq_true (by omega), cond_true, w64_succ (by omega), chk_pos trivial]
          have hB2 : ∃ y, idx [(⟨x.Bib, x.Kind, w64 (x.Lo + 1), x.Hi, x.Out⟩ : TRank), ⟨x.Bib, x.Kind, x.Lo, w64 (x.Hi - 1), x.Out⟩] (i : Int) = some y ∧ M238 y0 y = some 270 := by
            rw [w64_of (by omega) (by omega), w64_of (by omega) (by omega)]
            rcases (by omega : i = 0 ∨ i = 1) with rfl | rfl
            · refine ⟨_, rfl, ?_⟩
              rw [Bounds_eq hs hf hr (k := ⟨x.Bib, x.Kind, x.Lo + 1, x.Hi, x.Out⟩) (Eq.trans (bibN_of hx) rfl), chk_neg (not_within_lo hx h0 (by show x.Lo < x.Lo + 1; omega))]
            · refine ⟨_, rfl, ?_⟩
              rw [Bounds_eq hs hf hr (k := ⟨x.Bib, x.Kind, x.Lo, x.Hi - 1, x.Out⟩) (Eq.trans (bibN_of hx) rfl), chk_neg (not_within_hi hx h0 (by show x.Hi - 1 < x.Hi; omega))]
          obtain ⟨y, q1, q2⟩ := hB2
          rw [q1, some_bind, q2]; rfl) (fun n => by
          show M305 y0 x _ (n + 1) ((2 : Nat) : Int) = _
          rw [M305, decide_eq_false (by omega), cond_false]; exact hJ)
        rw [chk_pos (fun _ _ => trivial)] at key
        exact key
    · rw [chk_neg hf]; rfl
end Go.Stop
