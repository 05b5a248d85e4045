/- Plain laws about the models. No condition. -/
import Derived.Test.YtkefiomhjjoekaaZV
import Derived.KernelRfl
import Derived.Sort.AssemblyPlain
import Derived.Lib.BitFns
namespace Go.Stop
open Go Go.Abs
set_option linter.unusedVariables false
set_option linter.unusedSimpArgs false
theorem w64_of {n : Int} (h1 : -9223372036854775808 ≤ n) (h2 : n ≤ 9223372036854775807) : w64 n = n := by
  unfold w64; simp only [IntKind.wrap, IntKind.bits, IntKind.signed]; simp; omega
theorem w64_succ {i : Nat} (h : i < 9223372036854775807) : w64 ((i : Int) + 1) = ((i + 1 : Nat) : Int) := by
  rw [w64_of (by omega) (by omega)]; rfl
theorem idx_nat {α : Type} (l : List α) (i : Nat) : idx l (i : Int) = l[i]? := by
  unfold idx; simp
theorem idx_lt {α : Type} {l : List α} {i : Nat} (h : i < l.length) : idx l (i : Int) = some l[i] := by
  rw [idx_nat]; simp [h]
theorem some_bind {α β : Type} (a : α) (f : α → Option β) : (some a).bind f = f a := rfl
theorem dec_lt_nat (i n : Nat) : decide ((i : Int) < (n : Int)) = decide (i < n) := by simp
section
open Classical
noncomputable def chk {β : Type} (p : Prop) (r : β) (k : Option β) : Option β := if p then k else some r
theorem chk_and {β : Type} (p q : Prop) (r : β) (k : Option β) : chk p r (chk q r k) = chk (p ∧ q) r k := by
  unfold chk; by_cases hp : p <;> by_cases hq : q <;> simp [hp, hq]
theorem chk_congr {β : Type} {p q : Prop} {r : β} {k k' : Option β} (h : p ↔ q) (hk : p → k = k') : chk p r k = chk q r k' := by
  unfold chk
  by_cases hp : p
  · rw [if_pos hp, if_pos (h.1 hp), hk hp]
  · rw [if_neg hp, if_neg (fun hq => hp (h.2 hq))]
theorem chk_loop {β : Type} {N : Nat} {f : Nat → Nat → Option β} {r : β} {ok : Nat → Prop} {k : Option β} (hs : ∀ n i, i < N → f (n + 1) i = chk (ok i) r (f n (i + 1))) (he : ∀ n, f (n + 1) N = k) :
    f (N + 1) 0 = chk (∀ i, i < N → ok i) r k := by
  unfold chk at hs ⊢
  have key : ∀ c i n, i + c = N → c ≤ n → f (n + 1) i = if (∀ j, i ≤ j → j < N → ok j) then k else some r := by
    intro c
    induction c with
    | zero =>
      intro i n h _
      have : i = N := by omega
      subst this
      rw [he, if_pos (fun j h1 h2 => absurd h2 (by omega))]
    | succ c ih =>
      intro i n h hn
      rw [hs n i (by omega)]
      obtain ⟨n, rfl⟩ : ∃ n', n = n' + 1 := ⟨n - 1, by omega⟩
      by_cases h1 : ok i
      · rw [if_pos h1, ih (i + 1) n (by omega) (by omega)]
        by_cases h2 : ∀ j, i + 1 ≤ j → j < N → ok j
        · rw [if_pos h2, if_pos]
          intro j hj hjN
          by_cases e : j = i
          · exact e ▸ h1
          · exact h2 j (by omega) hjN
        · rw [if_neg h2, if_neg]
          intro h3
          exact h2 fun j hj hjN => h3 j (by omega) hjN
      · rw [if_neg h1, if_neg]
        intro h3
        exact h1 (h3 i (by omega) (by omega))
  rw [key N 0 N (by omega) (by omega)]
  simp
theorem chk_loop' {β : Type} {N : Nat} {f : Nat → Nat → Option β} {r : β} {ok : Nat → Prop} {k : Option β} (hs : ∀ n i, i < N → (∀ j, j < i → ok j) → f (n + 1) i = chk (ok i) r (f n (i + 1))) (he : ∀ n, (∀ j, j < N → ok j) → f (n + 1) N = k) :
    f (N + 1) 0 = chk (∀ i, i < N → ok i) r k := by
  have key : ∀ c i n, i + c = N → c ≤ n → (∀ j, j < i → ok j) → f (n + 1) i = chk (∀ j, j < N → ok j) r k := by
    intro c
    induction c with
    | zero =>
      intro i n h _ hp
      have : i = N := by omega
      subst this
      rw [he n hp]; unfold chk; rw [if_pos hp]
    | succ c ih =>
      intro i n h hn hp
      rw [hs n i (by omega) hp]
      obtain ⟨n, rfl⟩ : ∃ n', n = n' + 1 := ⟨n - 1, by omega⟩
      by_cases h1 : ok i
      · rw [ih (i + 1) n (by omega) (by omega) (fun j hj => by
          by_cases e : j = i
          · exact e ▸ h1
          · exact hp j (by omega))]
        unfold chk; rw [if_pos h1]
      · unfold chk; rw [if_neg h1, if_neg (fun h3 => h1 (h3 i (by omega)))]
  exact key N 0 N (by omega) (by omega) (fun j hj => absurd hj (by omega))
theorem run_inv {σ : Type} {N : Nat} {f : Nat → Nat → σ → Option σ} {I : Nat → σ → Prop} (hs : ∀ n i s, i < N → I i s → ∃ s', I (i + 1) s' ∧ f (n + 1) i s = f n (i + 1) s') (he : ∀ n s, f (n + 1) N s = some s) {s0 : σ} (h0 : I 0 s0) :
    ∃ s, f (N + 1) 0 s0 = some s ∧ I N s := by
  have key : ∀ c i n s, i + c = N → c ≤ n → I i s → ∃ s', f (n + 1) i s = some s' ∧ I N s' := by
    intro c
    induction c with
    | zero =>
      intro i n s h _ hi
      have : i = N := by omega
      subst this
      exact ⟨s, he n s, hi⟩
    | succ c ih =>
      intro i n s h hn hi
      obtain ⟨s', h1, h2⟩ := hs n i s (by omega) hi
      obtain ⟨n, rfl⟩ : ∃ n', n = n' + 1 := ⟨n - 1, by omega⟩
      rw [h2]
      exact ih (i + 1) n s' (by omega) (by omega) h1
  exact key N 0 N s0 (by omega) (by omega) h0
theorem find_loop {N : Nat} {f : Nat → Nat → Option Int} {p : Nat → Prop} (hs : ∀ n i, i < N → f (n + 1) i = if p i then some (i : Int) else f n (i + 1)) (he : ∀ n, f (n + 1) N = some (-1)) :
    ∃ r, f (N + 1) 0 = some r ∧ (r ≥ 0 ↔ ∃ i, i < N ∧ p i) := by
  have key : ∀ c i n, i + c = N → c ≤ n → ∃ r, f (n + 1) i = some r ∧ (r ≥ 0 ↔ ∃ j, i ≤ j ∧ j < N ∧ p j) := by
    intro c
    induction c with
    | zero =>
      intro i n h _
      have : i = N := by omega
      subst this
      refine ⟨-1, he n, by simp; omega⟩
    | succ c ih =>
      intro i n h hn
      rw [hs n i (by omega)]
      obtain ⟨n, rfl⟩ : ∃ n', n = n' + 1 := ⟨n - 1, by omega⟩
      by_cases h1 : p i
      · rw [if_pos h1]
        exact ⟨_, rfl, fun _ => ⟨i, Nat.le_refl _, by omega, h1⟩, fun _ => by omega⟩
      · rw [if_neg h1]
        obtain ⟨r, h2, h3⟩ := ih (i + 1) n (by omega) (by omega)
        refine ⟨r, h2, h3.trans ⟨fun ⟨j, a, b, c⟩ => ⟨j, by omega, b, c⟩, fun ⟨j, a, b, c⟩ => ⟨j, ?_, b, c⟩⟩⟩
        by_cases e : j = i
        · exact absurd (e ▸ c) h1
        · omega
  obtain ⟨r, h1, h2⟩ := key N 0 N (by omega) (by omega)
  exact ⟨r, h1, h2.trans ⟨fun ⟨j, _, b, c⟩ => ⟨j, b, c⟩, fun ⟨j, b, c⟩ => ⟨j, by omega, b, c⟩⟩⟩
end
theorem bif_dec {β : Type} (p : Prop) [Decidable p] (a b : β) : (bif decide p then a else b) = if p then a else b := by
  by_cases h : p <;> simp [h]
theorem bif_eq {β : Type} (x y : Int) (a b : β) : (bif x == y then a else b) = if x = y then a else b := by
  rw [Bool.cond_eq_ite]; simp only [beq_iff_eq]
theorem bif_ne {β : Type} (x y : Int) (a b : β) : (bif x != y then a else b) = if x = y then b else a := by
  rw [Bool.cond_eq_ite]; simp only [bne_iff_ne, ne_eq, ite_not]
theorem chk_pos {β : Type} {p : Prop} {r : β} {k : Option β} (h : p) : chk p r k = k := by unfold chk; rw [if_pos h]
theorem chk_neg {β : Type} {p : Prop} {r : β} {k : Option β} (h : ¬p) : chk p r k = some r := by unfold chk; rw [if_neg h]
theorem bind_chk {β : Type} {p : Prop} {t : Option Bool} {r : β} {k : Option β} (h : ∃ b, t = some b ∧ (b = true ↔ ¬p)) : (t.bind fun v => bif v then some r else k) = chk p r k := by
  obtain ⟨b, rfl, hb⟩ := h
  cases b with
  | true => rw [chk_neg (hb.1 rfl)]; rfl
  | false => rw [chk_pos (Classical.byContradiction fun h => by simpa using hb.2 h)]; rfl
theorem fuel_sub (n : Nat) : ((n : Int) - 0).toNat + 1 = n + 1 := by omega
theorem cmp_eq (a b : Int) : M4 a b = some (if a < b then -1 else if b < a then 1 else 0) := by
  unfold M4 M3
  simp only [some_bind, bne_self_eq_false, cond_false, bif_dec]
  split
  · rfl
  · split
    · rfl
    · rfl
theorem or2_eq (a b : Int) : M7 [a, b] = some (if a ≠ 0 then a else b) := by
  have s0 : M7 [a, b] = bif a != 0 then some a else M5 [a, b] M6 2 1 := rfl
  have s1 : M5 [a, b] M6 2 1 = bif b != 0 then some b else M5 [a, b] M6 1 2 := rfl
  have s2 : M5 [a, b] M6 1 2 = some 0 := rfl
  rw [s0, s1, s2, bif_ne, bif_ne]
  by_cases ha : a = 0
  · by_cases hb : b = 0
    · simp [ha, hb]
    · simp [ha, hb]
  · simp [ha]
def SegLt (y x : TSegment) : Prop := y.Mat < x.Mat ∨ y.Mat = x.Mat ∧ y.Epoch < x.Epoch
theorem order_eq (y x : TSegment) : ∃ r, M9 y x = some r ∧ (r ≥ 0 ↔ ¬SegLt y x) := by
  unfold M9 M8 SegLt
  simp only [cmp_eq, some_bind, or2_eq]
  refine ⟨_, rfl, ?_⟩
  by_cases h1 : y.Mat < x.Mat
  · simp [h1]
  · by_cases h2 : x.Mat < y.Mat
    · simp [h1, h2]; omega
    · have : y.Mat = x.Mat := by omega
      simp only [this, Int.lt_irrefl, if_false, ne_eq, not_true, false_or, true_and]
      by_cases h3 : y.Epoch < x.Epoch
      · rw [if_pos h3]; omega
      · rw [if_neg h3]
        split <;> omega
theorem time_eq (n : Int) : M2 n = some (decide (-1099511627776 ≤ n ∧ n ≤ 1099511627776)) := by
  unfold M2; rw [bif_dec]; split
  · congr 1; simp; omega
  · congr 1; symm; simp; omega
def SegOK (l : List TSegment) (i : Nat) : Prop := ∀ x, l[i]? = some x → 0 ≤ x.Mat ∧ x.Mat < 40 ∧ 0 ≤ x.Epoch ∧ x.Epoch ≤ 255 ∧ (-1099511627776 ≤ x.Anchor ∧ x.Anchor ≤ 1099511627776) ∧ (0 < i → ∀ y, l[i - 1]? = some y → SegLt y x)
theorem pred_nat {i : Nat} (h : 0 < i) (h' : i < 9223372036854775807) : w64 ((i : Int) - 1) = ((i - 1 : Nat) : Int) := by
  rw [w64_of (by omega) (by omega)]; omega
theorem clocks_L1 {k : TClocks} {kk : Unit → Option Int} (hl : k.Segments.length < 9223372036854775807) : M15 k kk (k.Segments.length + 1) 0 = chk (∀ i, i < k.Segments.length → SegOK k.Segments i) 160 (kk ()) := by
  refine chk_loop (f := fun n i => M15 k kk n (i : Int)) (fun n i hi => ?_) (fun n => ?_)
  · show M15 k kk (n + 1) (i : Int) = _
    rw [M15, dec_lt_nat, decide_eq_true hi, cond_true, idx_lt hi, some_bind, w64_succ (by omega)]
    have hx : k.Segments[i]? = some k.Segments[i] := by simp [hi]
    generalize k.Segments[i] = x at hx
    refine bind_chk ?_
    have hs : SegOK k.Segments i ↔ (0 ≤ x.Mat ∧ x.Mat < 40 ∧ 0 ≤ x.Epoch ∧ x.Epoch ≤ 255 ∧ (-1099511627776 ≤ x.Anchor ∧ x.Anchor ≤ 1099511627776) ∧ (0 < i → ∀ y, k.Segments[i - 1]? = some y → SegLt y x)) := by
      unfold SegOK; rw [hx]; simp
    rw [hs]
    simp only [bif_dec, time_eq, some_bind]
    by_cases h1 : x.Mat < 0
    · exact ⟨true, if_pos h1, by simp; omega⟩
    rw [if_neg h1]
    by_cases h2 : x.Mat ≥ 40
    · exact ⟨true, if_pos h2, by simp; omega⟩
    rw [if_neg h2]
    by_cases h3 : x.Epoch < 0
    · exact ⟨true, if_pos h3, by simp; omega⟩
    rw [if_neg h3]
    by_cases h4 : x.Epoch > 255
    · exact ⟨true, if_pos h4, by simp; omega⟩
    rw [if_neg h4]
    by_cases h5 : -1099511627776 ≤ x.Anchor ∧ x.Anchor ≤ 1099511627776
    · rw [decide_eq_true h5, Bool.not_true, cond_false]
      by_cases h6 : (i : Int) > 0
      · rw [if_pos h6]
        have h7 : 0 < i := by omega
        have h8 : i - 1 < k.Segments.length := by omega
        rw [pred_nat h7 (by omega), idx_lt h8, some_bind]
        obtain ⟨r, h9, h10⟩ := order_eq k.Segments[i - 1] x
        rw [h9, some_bind]
        refine ⟨_, rfl, ?_⟩
        rw [decide_eq_true_iff, h10]
        constructor
        · intro h11 h12
          exact h11 (h12.2.2.2.2.2 h7 _ (by simp [h8]))
        · intro h11 h12
          refine h11 ⟨by omega, by omega, by omega, by omega, h5, fun _ y hy => ?_⟩
          rw [List.getElem?_eq_getElem h8] at hy
          cases hy
          exact h12
      · rw [if_neg h6]
        refine ⟨false, rfl, ?_⟩
        simp only [Bool.false_eq_true, false_iff, Classical.not_not]
        exact ⟨by omega, by omega, by omega, by omega, h5, fun h => by omega⟩
    · rw [decide_eq_false h5, Bool.not_false, cond_true]
      refine ⟨true, rfl, ?_⟩
      simp only [true_iff]
      exact fun h => h5 h.2.2.2.2.1
  · show M15 k kk (n + 1) ((k.Segments.length : Nat) : Int) = _
    rw [M15]
    simp
def at2 (l : List (List Int)) (i j : Nat) : Int := ((l[i]?.getD [])[j]?).getD 0
def Entry (w : Int) : Prop := -2199023255552 ≤ w ∧ w ≤ 2199023255552
def RowOK (k : TClocks) (i : Nat) : Prop := (k.Far[i]?.getD []).length = k.Segments.length + 1 ∧ at2 k.Far i i = 0 ∧ ∀ j, j < k.Segments.length + 1 → Entry (at2 k.Far i j)
def TriOK (k : TClocks) : Prop := ∀ i, i < k.Segments.length + 1 → ∀ j, j < k.Segments.length + 1 → ∀ m, m < k.Segments.length + 1 → ¬at2 k.Far i m > w64 (at2 k.Far i j + at2 k.Far j m)
theorem idx2 {l : List (List Int)} {i j : Nat} {row : List Int} (h : l[i]? = some row) (hj : j < row.length) : idx row (j : Int) = some (at2 l i j) := by
  rw [idx_lt hj]; unfold at2; rw [h]; simp [hj]
theorem contains_eq (row : List Int) (hl : row.length < 9223372036854775807) : ∃ b, M14 row = some b ∧ (b = true ↔ ∃ j, j < row.length ∧ ¬Entry (row[j]?.getD 0)) := by
  unfold M14 M13
  rw [fuel_sub]
  obtain ⟨r, h1, h2⟩ := find_loop (N := row.length) (f := fun n i => M11 row M12 n (i : Int)) (p := fun j => ¬Entry (row[j]?.getD 0)) (fun n i hi => by
    show M11 row _ (n + 1) (i : Int) = _
    rw [M11, dec_lt_nat, decide_eq_true hi, cond_true, idx_lt hi, some_bind, w64_succ (by omega)]
    have hx : row[i]?.getD 0 = row[i] := by simp [hi]
    rw [hx]
    generalize row[i] = w
    unfold M10 Entry
    rw [bif_dec]
    by_cases h1 : w < -2199023255552
    · rw [if_pos h1, some_bind, cond_true, if_pos (by omega)]
    · rw [if_neg h1, some_bind, bif_dec]
      by_cases h2 : w > 2199023255552
      · rw [if_pos h2, if_pos (by omega)]
      · rw [if_neg h2, if_neg (by omega)]) (fun n => by
    show M11 row _ (n + 1) ((row.length : Nat) : Int) = _
    rw [M11]
    simp [M12])
  refine ⟨decide (r ≥ 0), ?_, by rw [decide_eq_true_iff]; exact h2⟩
  have h1 : M11 row M12 (row.length + 1) 0 = some r := h1
  rw [h1]; rfl
theorem clocks_L2 {k : TClocks} {kk : Unit → Option Int} (hl : k.Segments.length ≤ 511) (hf : k.Far.length = k.Segments.length + 1) : M16 k kk (k.Far.length + 1) 0 = chk (∀ i, i < k.Far.length → RowOK k i) 160 (kk ()) := by
  refine chk_loop (f := fun n i => M16 k kk n (i : Int)) (fun n i hi => ?_) (fun n => ?_)
  · show M16 k kk (n + 1) (i : Int) = _
    rw [M16, dec_lt_nat, decide_eq_true hi, cond_true, idx_lt hi, some_bind, w64_succ (by omega), w64_succ (by omega)]
    have hx : k.Far[i]? = some k.Far[i] := by simp [hi]
    generalize k.Far[i] = row at hx
    rw [bif_ne]
    have hr : RowOK k i ↔ row.length = k.Segments.length + 1 ∧ at2 k.Far i i = 0 ∧ ∀ j, j < k.Segments.length + 1 → Entry (at2 k.Far i j) := by
      unfold RowOK; rw [hx]; rfl
    by_cases h1 : row.length = k.Segments.length + 1
    · rw [if_pos (by omega), idx2 hx (by omega), some_bind, bif_ne]
      by_cases h2 : at2 k.Far i i = 0
      · rw [if_pos h2]
        obtain ⟨b, h3, h4⟩ := contains_eq row (by omega)
        rw [h3]
        refine bind_chk ⟨b, rfl, ?_⟩
        rw [h4, hr, h1]
        constructor
        · rintro ⟨j, h5, h6⟩ ⟨_, _, h7⟩
          have := h7 j h5
          unfold at2 at this
          rw [hx] at this
          exact h6 this
        · intro h5
          refine Classical.byContradiction fun h6 => h5 ⟨rfl, h2, fun j hj => Classical.byContradiction fun h7 => h6 ⟨j, hj, fun h8 => h7 ?_⟩⟩
          unfold at2
          rw [hx]
          exact h8
      · rw [if_neg h2, chk_neg (fun h => h2 (hr.1 h).2.1)]
    · rw [if_neg (by omega), chk_neg (fun h => h1 (hr.1 h).1)]
  · show M16 k kk (n + 1) ((k.Far.length : Nat) : Int) = _
    rw [M16]
    simp
theorem rows_get {k : TClocks} (h : ∀ i, i < k.Far.length → RowOK k i) (hf : k.Far.length = k.Segments.length + 1) {i : Nat} (hi : i < k.Segments.length + 1) : ∃ row, k.Far[i]? = some row ∧ idx k.Far (i : Int) = some row ∧ row.length = k.Segments.length + 1 := by
  have hi' : i < k.Far.length := by omega
  refine ⟨k.Far[i], by simp [hi'], idx_lt hi', ?_⟩
  have := (h i hi').1
  simpa [hi'] using this
theorem clocks_L5 {k : TClocks} {kk : Unit → Option Int} (hl : k.Segments.length ≤ 511) (hf : k.Far.length = k.Segments.length + 1) (h : ∀ i, i < k.Far.length → RowOK k i) {i j : Nat} (hi : i < k.Segments.length + 1) {x : Int} {row : List Int} (hr : k.Far[j]? = some row) (hrl : row.length = k.Segments.length + 1) :
    M17 k i x row kk (row.length + 1) 0 = chk (∀ m, m < row.length → ¬at2 k.Far i m > w64 (x + at2 k.Far j m)) 160 (kk ()) := by
  refine chk_loop (f := fun n m => M17 k i x row kk n (m : Int)) (fun n m hm => ?_) (fun n => ?_)
  · show M17 k i x row kk (n + 1) (m : Int) = _
    obtain ⟨row', h1, h2, h3⟩ := rows_get h hf hi
    rw [M17, dec_lt_nat, decide_eq_true hm, cond_true, idx2 hr hm, some_bind, h2, some_bind, idx2 h1 (by omega), some_bind, w64_succ (by omega), bif_dec]
    by_cases h4 : at2 k.Far i m > w64 (x + at2 k.Far j m)
    · rw [if_pos h4, chk_neg (fun h => h h4)]
    · rw [if_neg h4, chk_pos h4]
  · show M17 k i x row kk (n + 1) ((row.length : Nat) : Int) = _
    rw [M17]
    simp
theorem clocks_L4 {k : TClocks} {kk : Unit → Option Int} (hl : k.Segments.length ≤ 511) (hf : k.Far.length = k.Segments.length + 1) (h : ∀ i, i < k.Far.length → RowOK k i) {i : Nat} (hi : i < k.Segments.length + 1) {row : List Int} (hr : k.Far[i]? = some row) (hrl : row.length = k.Segments.length + 1) :
    M19 k i row kk (row.length + 1) 0 = chk (∀ j, j < row.length → ∀ m, m < k.Segments.length + 1 → ¬at2 k.Far i m > w64 (at2 k.Far i j + at2 k.Far j m)) 160 (kk ()) := by
  refine chk_loop (f := fun n j => M19 k i row kk n (j : Int)) (fun n j hj => ?_) (fun n => ?_)
  · show M19 k i row kk (n + 1) (j : Int) = _
    obtain ⟨row', h1, h2, h3⟩ := rows_get h hf (i := j) (by omega)
    rw [M19, dec_lt_nat, decide_eq_true hj, cond_true, idx2 hr hj, some_bind, h2, some_bind, fuel_sub, clocks_L5 hl hf h hi h1 h3, h3]
    show chk _ _ (M19 k i row kk n (w64 ((j : Int) + 1))) = _
    rw [w64_succ (by omega)]
  · show M19 k i row kk (n + 1) ((row.length : Nat) : Int) = _
    rw [M19]
    simp
theorem clocks_L3 {k : TClocks} {kk : Unit → Option Int} (hl : k.Segments.length ≤ 511) (hf : k.Far.length = k.Segments.length + 1) (h : ∀ i, i < k.Far.length → RowOK k i) :
    M21 k kk (k.Segments.length + 1 + 1) 0 = chk (TriOK k) 160 (kk ()) := by
  refine chk_loop (N := k.Segments.length + 1) (f := fun n i => M21 k kk n (i : Int)) (fun n i hi => ?_) (fun n => ?_)
  · show M21 k kk (n + 1) (i : Int) = _
    obtain ⟨row, h1, h2, h3⟩ := rows_get h hf hi
    rw [M21, w64_succ (by omega), dec_lt_nat, decide_eq_true hi, cond_true, h2, some_bind, fuel_sub, clocks_L4 hl hf h hi h1 h3, h3]
    show chk _ _ (M21 k kk n (w64 ((i : Int) + 1))) = _
    rw [w64_succ (by omega)]
  · show M21 k kk (n + 1) ((k.Segments.length + 1 : Nat) : Int) = _
    rw [M21, w64_succ (by omega)]
    simp
structure ClocksOK (k : TClocks) : Prop where
  few : k.Segments.length ≤ 511
  far : k.Far.length = k.Segments.length + 1
  seg : ∀ i, i < k.Segments.length → SegOK k.Segments i
  row : ∀ i, i < k.Far.length → RowOK k i
  tri : TriOK k
theorem clocksOK_iff (k : TClocks) : ClocksOK k ↔ k.Segments.length ≤ 511 ∧ k.Far.length = k.Segments.length + 1 ∧ (∀ i, i < k.Segments.length → SegOK k.Segments i) ∧ (∀ i, i < k.Far.length → RowOK k i) ∧ TriOK k :=
  ⟨fun ⟨a, b, c, d, e⟩ => ⟨a, b, c, d, e⟩, fun ⟨a, b, c, d, e⟩ => ⟨a, b, c, d, e⟩⟩
theorem chk_and' {β : Type} {p q : Prop} {r : β} {k k' : Option β} (h : p → k = chk q r k') : chk p r k = chk (p ∧ q) r k' := by
  rw [← chk_and]; exact chk_congr Iff.rfl h
theorem clocks_Check_eq {k : TClocks} (hw : k.Segments.length < 9223372036854775807) : M25 k = chk (ClocksOK k) 160 (some 0) := by
  unfold M25
  rw [bif_dec, bif_ne, fuel_sub, w64_succ (by omega), clocks_L1 (by omega)]
  have e : chk (ClocksOK k) (160 : Int) (some 0) = chk (k.Segments.length ≤ 511 ∧ k.Far.length = k.Segments.length + 1 ∧ (∀ i, i < k.Segments.length → SegOK k.Segments i) ∧ (∀ i, i < k.Far.length → RowOK k i) ∧ TriOK k) 160 (some 0) := chk_congr (clocksOK_iff k) fun _ => rfl
  rw [e]
  by_cases h1 : k.Segments.length ≤ 511
  · rw [if_neg (by omega)]
    by_cases h2 : k.Far.length = k.Segments.length + 1
    · rw [if_pos (by omega)]
      refine Eq.trans ?_ (chk_congr (p := (∀ i, i < k.Segments.length → SegOK k.Segments i) ∧ (∀ i, i < k.Far.length → RowOK k i) ∧ TriOK k) (by simp [h1, h2]) fun _ => rfl)
      refine chk_and' fun _ => ?_
      show M16 k (M23 k) _ 0 = _
      rw [fuel_sub, clocks_L2 h1 h2]
      refine chk_and' fun h3 => ?_
      show M21 k M22 _ 0 = _
      rw [w64_succ (by omega), fuel_sub, clocks_L3 h1 h2 h3]
      rfl
    · rw [if_neg (by omega), chk_neg (fun h => h2 h.2.1)]
  · rw [if_pos (by omega), chk_neg (fun h => h1 h.1)]
def OutOK (k : TClocks) (x : TOutcome) : Prop :=
  (x.Out = true → x.Seg = -1 ∧ x.Lo = 0 ∧ x.Hi = 0) ∧ (x.Out = false → -1 ≤ x.Seg ∧ x.Seg < k.Segments.length ∧ -288230376151711744 ≤ x.Lo ∧ x.Lo ≤ x.Hi ∧ x.Hi ≤ 288230376151711744)
theorem outcome_Check_eq {k : TClocks} {x : TOutcome} (hw : k.Segments.length < 9223372036854775807) : M31 k x = chk (ClocksOK k) 160 (chk (OutOK k x) 230 (some 0)) := by
  unfold M31
  rw [clocks_Check_eq hw]
  by_cases hk : ClocksOK k
  · rw [chk_pos hk, chk_pos hk, some_bind]
    simp only [bne_self_eq_false, cond_false]
    cases ho : x.Out with
    | true =>
      unfold OutOK M30
      rw [some_bind, ho]
      by_cases h : x.Seg = -1 ∧ x.Lo = 0 ∧ x.Hi = 0
      · obtain ⟨h1, h2, h3⟩ := h
        rw [chk_pos (by simp [h1, h2, h3])]
        simp [h1, h2, h3]
      · rw [chk_neg (by simpa using h)]
        rw [cond_true]
        have e : ((true == true) && ((x.Seg == -1) && ((x.Lo == 0) && ((x.Hi == 0) && true)))) = false := by
          rw [← Bool.not_eq_true]
          intro h'
          simp at h'
          exact h h'
        rw [e]
        rfl
    | false =>
      unfold OutOK
      rw [ho]
      by_cases h : -1 ≤ x.Seg ∧ x.Seg < k.Segments.length ∧ -288230376151711744 ≤ x.Lo ∧ x.Lo ≤ x.Hi ∧ x.Hi ≤ 288230376151711744
      · rw [chk_pos (by simpa using h)]
        obtain ⟨h1, h2, h3, h4, h5⟩ := h
        simp [h1, h2, h3, h4, h5]
      · rw [chk_neg (by simpa using h)]
        rw [cond_false]
        have e : ((decide (x.Seg ≥ -1)) && ((decide (x.Seg < (k.Segments.length : Int))) && ((decide (x.Lo ≥ -288230376151711744)) && ((decide (x.Lo ≤ x.Hi)) && (decide (x.Hi ≤ 288230376151711744)))))) = false := by
          rw [← Bool.not_eq_true]
          intro h'
          simp at h'
          exact h h'
        rw [e]
        rfl
  · rw [chk_neg hk, chk_neg hk, some_bind]
    rfl
theorem app_ok {α : Type} {b : Nat} {l r : List α} (h : (l.length + r.length) * b ≤ 140737488355328) (h' : l.length + r.length < 9223372036854775808) : app b l r = some (l ++ r) := by
  unfold app; rw [if_pos ⟨h, h'⟩]
theorem flat_succ {α : Type} {ws : List (List α)} {i : Nat} (hi : i < ws.length) : (ws.take (i + 1)).flatten = (ws.take i).flatten ++ ws[i] := by
  rw [List.take_succ_eq_append_getElem hi, List.flatten_append]; simp
theorem concat_eq {ws : List (List TOutcome)} (h1 : ws.length ≤ 1000) (h2 : ∀ w, w ∈ ws → w.length ≤ 1000) : M29 ws = some ws.flatten := by
  have hw : ∀ i (hi : i < ws.length), ws[i].length ≤ 1000 := fun i hi => h2 _ (List.getElem_mem hi)
  unfold M29
  simp only [fuel_sub]
  obtain ⟨r, hr, hr0, hr1⟩ := run_inv (N := ws.length) (f := fun n i s => M26 ws n s (i : Int)) (I := fun i s => 0 ≤ s ∧ s ≤ 1000 * (i : Int)) (s0 := 0) (fun n i s hi hI => by
    refine ⟨s + ws[i].length, ?_, ?_⟩
    · have := hw i hi; omega
    · show M26 ws (n + 1) s (i : Int) = M26 ws n (s + ws[i].length) ((i + 1 : Nat) : Int)
      have := hw i hi
      rw [M26, dec_lt_nat, decide_eq_true hi, cond_true, idx_lt hi, some_bind, w64_of (by omega) (by omega), bif_dec, if_neg (by omega), w64_succ (by omega)]) (fun n s => by
    show M26 ws (n + 1) s ((ws.length : Nat) : Int) = _
    rw [M26]; simp) ⟨by omega, by omega⟩
  replace hr : M26 ws (ws.length + 1) 0 0 = some r := hr
  rw [hr, some_bind, bif_dec, if_neg (by omega), w64_of (by omega) (by omega), bif_dec]
  have hI : ∀ i (hi : i < ws.length), ((ws.take i).flatten.length ≤ 1000 * i) → ((ws.take (i + 1)).flatten.length ≤ 1000 * (i + 1)) := fun i hi h => by
    rw [flat_succ hi, List.length_append]; have := hw i hi; omega
  split
  · have e : mkZ 32 (r - 0) = some r.toNat := by
      unfold mkZ; rw [if_pos (by omega)]; simp
    rw [e, some_bind]
    have e2 : ∀ (l : List TOutcome), slcTo l 0 = some [] := fun l => by unfold slcTo; simp
    rw [e2, some_bind]
    obtain ⟨l, hl, rfl, _⟩ := run_inv (N := ws.length) (f := fun n i s => M27 ws n (i : Int) s) (I := fun i s => s = (ws.take i).flatten ∧ s.length ≤ 1000 * i) (s0 := []) (fun n i s hi hI' => by
      obtain ⟨rfl, hlen⟩ := hI'
      refine ⟨_, ⟨rfl, hI i hi hlen⟩, ?_⟩
      show M27 ws (n + 1) (i : Int) _ = M27 ws n ((i + 1 : Nat) : Int) _
      have := hw i hi
      rw [M27, dec_lt_nat, decide_eq_true hi, cond_true, idx_lt hi, some_bind, app_ok (by omega) (by omega), some_bind, w64_succ (by omega), flat_succ hi]) (fun n s => by
      show M27 ws (n + 1) ((ws.length : Nat) : Int) s = _
      rw [M27]; simp) ⟨rfl, by simp⟩
    replace hl : M27 ws (ws.length + 1) 0 [] = some (ws.take ws.length).flatten := hl
    rw [hl, some_bind, List.take_length]
  · obtain ⟨l, hl, rfl, _⟩ := run_inv (N := ws.length) (f := fun n i s => M28 ws n (i : Int) s) (I := fun i s => s = (ws.take i).flatten ∧ s.length ≤ 1000 * i) (s0 := []) (fun n i s hi hI' => by
      obtain ⟨rfl, hlen⟩ := hI'
      refine ⟨_, ⟨rfl, hI i hi hlen⟩, ?_⟩
      show M28 ws (n + 1) (i : Int) _ = M28 ws n ((i + 1 : Nat) : Int) _
      have := hw i hi
      rw [M28, dec_lt_nat, decide_eq_true hi, cond_true, idx_lt hi, some_bind, app_ok (by omega) (by omega), some_bind, w64_succ (by omega), flat_succ hi]) (fun n s => by
      show M28 ws (n + 1) ((ws.length : Nat) : Int) s = _
      rw [M28]; simp) ⟨rfl, by simp⟩
    replace hl : M28 ws (ws.length + 1) 0 [] = some (ws.take ws.length).flatten := hl
    rw [hl, some_bind, List.take_length]
structure Small (f : TField) : Prop where
  seg : f.Clocks.Segments.length ≤ 1000
  pairs : f.Pairs.length ≤ 1000
  runners : f.Runners.length ≤ 1000000
  worlds : ∀ r, r ∈ f.Runners → r.Keys.length ≤ 1000 ∧ r.Worlds.length ≤ 1000 ∧ ∀ w, w ∈ r.Worlds → w.length ≤ 1000
def PairLt (q p : TPair) : Prop := q.A < p.A ∨ q.A = p.A ∧ q.B < p.B
def PairOK (l : List TPair) (i : Nat) : Prop := ∀ p, l[i]? = some p → 1 ≤ p.A ∧ p.A < p.B ∧ p.B ≤ 9999 ∧ (0 < i → ∀ q, l[i - 1]? = some q → PairLt q p)
def lastP (l : List TPair) (i : Nat) : TPair := if i = 0 then ⟨0, 0⟩ else (l[i - 1]?).getD ⟨0, 0⟩
theorem field_L1 {f : TField} {kk : Unit → Option Int} (hl : f.Pairs.length ≤ 1000) : M40 f kk (f.Pairs.length + 1) 0 0 0 = chk (∀ i, i < f.Pairs.length → PairOK f.Pairs i) 240 (kk ()) := by
  refine chk_loop (f := fun n i => M40 f kk n (i : Int) (lastP f.Pairs i).A (lastP f.Pairs i).B) (fun n i hi => ?_) (fun n => ?_)
  · show M40 f kk (n + 1) (i : Int) _ _ = _
    rw [M40, dec_lt_nat, decide_eq_true hi, cond_true, idx_lt hi, some_bind, w64_succ (by omega)]
    have hx : f.Pairs[i]? = some f.Pairs[i] := by simp [hi]
    have hnext : lastP f.Pairs (i + 1) = f.Pairs[i] := by unfold lastP; simp [hi]
    rw [hnext]
    generalize f.Pairs[i] = p at hx
    have hok : PairOK f.Pairs i ↔ 1 ≤ p.A ∧ p.A < p.B ∧ p.B ≤ 9999 ∧ (0 < i → ∀ q, f.Pairs[i - 1]? = some q → PairLt q p) := by
      unfold PairOK; rw [hx]; simp
    have hlast : 1 ≤ p.A → ((0 < i → ∀ q, f.Pairs[i - 1]? = some q → PairLt q p) ↔ ¬(p.A < (lastP f.Pairs i).A ∨ p.A = (lastP f.Pairs i).A ∧ p.B ≤ (lastP f.Pairs i).B)) := by
      intro hA
      unfold lastP PairLt
      by_cases h0 : i = 0
      · subst h0; simp; omega
      · have h8 : i - 1 < f.Pairs.length := by omega
        rw [if_neg h0, List.getElem?_eq_getElem h8]
        simp only [Option.getD_some, Option.some.injEq, forall_eq']
        constructor
        · intro h; have := h (by omega); omega
        · intro h _; omega
    by_cases hOK : PairOK f.Pairs i
    · rw [chk_pos hOK]
      obtain ⟨h1, h2, h3, h4⟩ := hok.1 hOK
      have h5 := (hlast h1).1 h4
      rw [Bool.cond_eq_ite, if_neg]
      simp only [Bool.or_eq_true, Bool.and_eq_true, decide_eq_true_eq, beq_iff_eq]
      omega
    · rw [chk_neg hOK, Bool.cond_eq_ite, if_pos]
      simp only [Bool.or_eq_true, Bool.and_eq_true, decide_eq_true_eq, beq_iff_eq]
      by_cases h1 : 1 ≤ p.A
      · have h5 := hlast h1
        refine Classical.byContradiction fun h6 => hOK (hok.2 ⟨h1, by omega, by omega, h5.2 (by omega)⟩)
      · left; omega
  · show M40 f kk (n + 1) ((f.Pairs.length : Nat) : Int) _ _ = _
    rw [M40]
    simp
theorem all_get {α : Type} {l : List α} {p : α → Prop} : (∀ j, j < l.length → ∀ o, l[j]? = some o → p o) ↔ ∀ o, o ∈ l → p o := by
  constructor
  · intro h o ho
    obtain ⟨j, hj, rfl⟩ := List.mem_iff_getElem.1 ho
    exact h j hj _ (by simp [hj])
  · intro h j hj o ho
    exact h o (List.mem_of_getElem? ho)
theorem field_L3 {f : TField} {kk : Unit → Option Int} (hk : ClocksOK f.Clocks) {l : List TOutcome} (hl : l.length < 9223372036854775807) : M41 f l kk (l.length + 1) 0 = chk (∀ o, o ∈ l → OutOK f.Clocks o) 240 (kk ()) := by
  refine (chk_loop (ok := fun j => ∀ o, l[j]? = some o → OutOK f.Clocks o) (k := kk ()) (r := 240) (f := fun n i => M41 f l kk n (i : Int)) (fun n i hi => ?_) (fun n => ?_)).trans (chk_congr all_get fun _ => rfl)
  · show M41 f l kk (n + 1) (i : Int) = _
    have hw : f.Clocks.Segments.length < 9223372036854775807 := by have := hk.few; omega
    rw [M41, dec_lt_nat, decide_eq_true hi, cond_true, idx_lt hi, some_bind, w64_succ (by omega), outcome_Check_eq hw, chk_pos hk]
    have hx : l[i]? = some l[i] := by simp [hi]
    rw [hx]
    by_cases h : OutOK f.Clocks l[i]
    · rw [chk_pos h, some_bind, chk_pos (by simpa using h)]; rfl
    · rw [chk_neg h, some_bind, chk_neg (by simpa using h)]; rfl
  · show M41 f l kk (n + 1) ((l.length : Nat) : Int) = _
    rw [M41]
    simp
def RunnerOK (f : TField) (i : Nat) : Prop := ∀ r, f.Runners[i]? = some r → (1 ≤ r.Bib ∧ r.Bib ≤ 9999 ∧ (0 < i → ∀ q, f.Runners[i - 1]? = some q → q.Bib < r.Bib) ∧ (∀ z, f.Runners[0]? = some z → r.Keys.length = z.Keys.length) ∧ r.Worlds.length = f.Pairs.length + 1) ∧ ∀ w, w ∈ r.Worlds → ∀ o, o ∈ w → OutOK f.Clocks o
def lastB (f : TField) (i : Nat) : Int := if i = 0 then 0 else ((f.Runners[i - 1]?).map (·.Bib)).getD 0
theorem field_L2 {f : TField} {kk : Unit → Option Int} (hk : ClocksOK f.Clocks) (hs : Small f) : M43 f kk (f.Runners.length + 1) 0 0 = chk (∀ i, i < f.Runners.length → RunnerOK f i) 240 (kk ()) := by
  refine chk_loop' (f := fun n i => M43 f kk n (lastB f i) (i : Int)) (fun n i hi hp => ?_) (fun n _ => ?_)
  · show M43 f kk (n + 1) (lastB f i) (i : Int) = _
    have hsr := hs.runners
    have hsp := hs.pairs
    have h0 : 0 < f.Runners.length := by omega
    rw [M43, dec_lt_nat, decide_eq_true hi, cond_true, idx_lt hi, some_bind, w64_succ (by omega)]
    have hx : f.Runners[i]? = some f.Runners[i] := by simp [hi]
    have hz : idx f.Runners 0 = some f.Runners[0] := idx_lt (i := 0) h0
    have hz' : f.Runners[0]? = some f.Runners[0] := by simp [h0]
    rw [hz]
    have hnext : lastB f (i + 1) = f.Runners[i].Bib := by unfold lastB; simp [hi]
    obtain ⟨hw0, hw1, hw2⟩ := hs.worlds _ (List.getElem_mem hi)
    rw [hnext]
    generalize f.Runners[0] = z at hz'
    generalize f.Runners[i] = r at hx hw0 hw1 hw2
    have hok : RunnerOK f i ↔ (1 ≤ r.Bib ∧ r.Bib ≤ 9999 ∧ (0 < i → ∀ q, f.Runners[i - 1]? = some q → q.Bib < r.Bib) ∧ r.Keys.length = z.Keys.length ∧ r.Worlds.length = f.Pairs.length + 1) ∧ ∀ w, w ∈ r.Worlds → ∀ o, o ∈ w → OutOK f.Clocks o := by
      unfold RunnerOK; rw [hx, hz']; simp
    have hlast : lastB f i < r.Bib ↔ 1 ≤ r.Bib ∧ (0 < i → ∀ q, f.Runners[i - 1]? = some q → q.Bib < r.Bib) := by
      unfold lastB
      by_cases h0 : i = 0
      · subst h0; simp; omega
      · have h8 : i - 1 < f.Runners.length := by omega
        have := hp (i - 1) (by omega)
        unfold RunnerOK at this
        rw [List.getElem?_eq_getElem h8] at this
        have h9 := (this _ rfl).1.1
        rw [if_neg h0, List.getElem?_eq_getElem h8]
        simp only [Option.map_some, Option.getD_some, Option.some.injEq, forall_eq']
        constructor
        · intro h; exact ⟨by omega, fun _ => h⟩
        · intro h; exact h.2 (by omega)
    have hfin : (lastB f i < r.Bib ∧ r.Bib ≤ 9999 ∧ r.Keys.length = z.Keys.length ∧ r.Worlds.length = f.Pairs.length + 1) ∧ (∀ w, w ∈ r.Worlds → ∀ o, o ∈ w → OutOK f.Clocks o) ↔ RunnerOK f i := by
      rw [hok, hlast]
      constructor
      · rintro ⟨⟨⟨a, b⟩, c, d, e⟩, g⟩; exact ⟨⟨a, c, b, d, e⟩, g⟩
      · rintro ⟨⟨a, c, b, d, e⟩, g⟩; exact ⟨⟨⟨a, b⟩, c, d, e⟩, g⟩
    refine Eq.trans (bind_chk (p := lastB f i < r.Bib ∧ r.Bib ≤ 9999 ∧ r.Keys.length = z.Keys.length ∧ r.Worlds.length = f.Pairs.length + 1) ?_) (Eq.trans (chk_and' fun h => ?_) (chk_congr hfin fun _ => rfl))
    · rw [bif_dec, bif_dec, some_bind, bif_ne]
      by_cases h1 : r.Bib ≤ lastB f i
      · rw [if_pos h1]; exact ⟨true, rfl, by simp; omega⟩
      rw [if_neg h1]
      by_cases h2 : r.Bib > 9999
      · rw [if_pos h2]; exact ⟨true, rfl, by simp; omega⟩
      rw [if_neg h2]
      by_cases h3 : r.Keys.length = z.Keys.length
      · rw [if_pos (by omega)]
        refine ⟨_, rfl, ?_⟩
        rw [bne_iff_ne]
        omega
      · rw [if_neg (by omega)]; exact ⟨true, rfl, by simp [h3]⟩
    · rw [concat_eq hw1 hw2, some_bind, fuel_sub, field_L3 hk (by
        have : ∀ (ws : List (List TOutcome)), (∀ w, w ∈ ws → w.length ≤ 1000) → ws.flatten.length ≤ 1000 * ws.length := by
          intro ws
          induction ws with
          | nil => intro _; simp
          | cons a t ih =>
            intro h
            have h1 := ih (fun w hw => h w (by simp [hw]))
            have h2 := h a (by simp)
            simp only [List.flatten_cons, List.length_append, List.length_cons]
            omega
        have := this r.Worlds hw2
        omega)]
      refine chk_congr ?_ fun _ => ?_
      · simp only [List.mem_flatten]
        exact ⟨fun h w hw o ho => h o ⟨w, hw, ho⟩, fun h o ⟨w, hw, ho⟩ => h w hw o ho⟩
      · show M43 f kk n r.Bib (w64 ((i : Int) + 1)) = _
        rw [w64_succ (by omega)]
  · show M43 f kk (n + 1) _ ((f.Runners.length : Nat) : Int) = _
    rw [M43]
    simp
def wl (l : List TRunner) (i w : Nat) : List TOutcome := ((l[i]?).bind fun r => r.Worlds[w]?).getD []
theorem wl_get {l : List TRunner} {i w : Nat} (hi : i < l.length) (hw : w < l[i].Worlds.length) : idx l[i].Worlds (w : Int) = some (wl l i w) := by
  rw [idx_lt hw]; unfold wl; simp [hi, hw]
def Poss (l : List TRunner) (w : Nat) : Prop := ∀ i, i < l.length → (wl l i w).length ≠ 0
theorem containsF_eq {l : List TRunner} {w : Nat} (hl : l.length ≤ 1000000) (hw : ∀ r, r ∈ l → w < r.Worlds.length) : ∃ b, M36 l (w : Int) = some b ∧ (b = true ↔ ¬Poss l w) := by
  unfold M36 M35
  rw [fuel_sub]
  obtain ⟨r, h1, h2⟩ := find_loop (N := l.length) (f := fun n i => M33 l (w : Int) M34 n (i : Int)) (p := fun i => (wl l i w).length = 0) (fun n i hi => by
    show M33 l (w : Int) _ (n + 1) (i : Int) = _
    rw [M33, dec_lt_nat, decide_eq_true hi, cond_true, idx_lt hi, some_bind, w64_succ (by omega)]
    unfold M32
    rw [wl_get hi (hw _ (List.getElem_mem hi)), some_bind, some_bind, bif_eq]
    by_cases h : (wl l i w).length = 0
    · rw [if_pos h, if_pos (by omega)]
    · rw [if_neg h, if_neg (by omega)]) (fun n => by
    show M33 l (w : Int) _ (n + 1) ((l.length : Nat) : Int) = _
    rw [M33]
    simp [M34])
  refine ⟨decide (r ≥ 0), ?_, ?_⟩
  · have h1 : M33 l (w : Int) M34 (l.length + 1) 0 = some r := h1
    rw [h1]; rfl
  · rw [decide_eq_true_iff, h2]
    unfold Poss
    simp only [Classical.not_forall, Classical.not_not, exists_prop]
theorem field_possible_eq {f : TField} (hs : Small f) (hr : ∀ r, r ∈ f.Runners → r.Worlds.length = f.Pairs.length + 1) : M39 f = chk (∀ w, w < f.Pairs.length + 1 → ¬Poss f.Runners w) true (some false) := by
  have hsr := hs.runners
  have hsp := hs.pairs
  unfold M39
  rw [w64_succ (by omega), fuel_sub]
  refine chk_loop (N := f.Pairs.length + 1) (f := fun n w => M37 f M38 n (w : Int)) (fun n w hw => ?_) (fun n => ?_)
  · show M37 f M38 (n + 1) (w : Int) = _
    obtain ⟨b, h1, h2⟩ := containsF_eq hsr (w := w) (fun r h => by rw [hr r h]; exact hw)
    rw [M37, w64_succ (by omega), dec_lt_nat, decide_eq_true hw, cond_true, h1, some_bind, w64_succ (by omega)]
    cases b with
    | true => rw [chk_pos (h2.1 rfl)]; rfl
    | false => rw [chk_neg (fun h => by simpa using h2.2 h)]; rfl
  · show M37 f M38 (n + 1) ((f.Pairs.length + 1 : Nat) : Int) = _
    rw [M37, w64_succ (by omega)]
    simp [M38]
structure FieldOK (f : TField) : Prop where
  clocks : ClocksOK f.Clocks
  size : f.Pairs.length ≤ 16 ∧ 1 ≤ f.Runners.length ∧ f.Runners.length ≤ 4000
  pair : ∀ i, i < f.Pairs.length → PairOK f.Pairs i
  runner : ∀ i, i < f.Runners.length → RunnerOK f i
  poss : ¬∀ w, w < f.Pairs.length + 1 → ¬Poss f.Runners w
theorem worlds_of {f : TField} (h : ∀ i, i < f.Runners.length → RunnerOK f i) : ∀ r, r ∈ f.Runners → r.Worlds.length = f.Pairs.length + 1 := by
  intro r hr
  obtain ⟨i, hi, rfl⟩ := List.mem_iff_getElem.1 hr
  exact (h i hi _ (by simp [hi])).1.2.2.2.2
theorem fieldOK_iff (f : TField) : (ClocksOK f.Clocks ∧ f.Pairs.length ≤ 16 ∧ 1 ≤ f.Runners.length ∧ f.Runners.length ≤ 4000) ∧ (∀ i, i < f.Pairs.length → PairOK f.Pairs i) ∧ (∀ i, i < f.Runners.length → RunnerOK f i) ∧ (¬∀ w, w < f.Pairs.length + 1 → ¬Poss f.Runners w) ↔ FieldOK f :=
  ⟨fun ⟨⟨a, b⟩, c, d, e⟩ => ⟨a, b, c, d, e⟩, fun ⟨a, b, c, d, e⟩ => ⟨⟨a, b⟩, c, d, e⟩⟩
theorem field_Check_eq {f : TField} (hs : Small f) : M46 f = chk (FieldOK f) 240 (some 0) := by
  have hsg := hs.seg
  unfold M46
  refine Eq.trans (bind_chk (p := ClocksOK f.Clocks ∧ f.Pairs.length ≤ 16 ∧ 1 ≤ f.Runners.length ∧ f.Runners.length ≤ 4000) ?_) (Eq.trans (chk_and' (q := (∀ i, i < f.Pairs.length → PairOK f.Pairs i) ∧ (∀ i, i < f.Runners.length → RunnerOK f i) ∧ (¬∀ w, w < f.Pairs.length + 1 → ¬Poss f.Runners w)) fun h => ?_) (chk_congr (fieldOK_iff f) fun _ => rfl))
  · rw [clocks_Check_eq (by omega)]
    by_cases h1 : ClocksOK f.Clocks
    · rw [chk_pos h1, some_bind, bif_dec, bif_dec]
      simp only [bne_self_eq_false, cond_false]
      by_cases h2 : f.Pairs.length ≤ 16
      · rw [if_neg (by omega)]
        by_cases h3 : 1 ≤ f.Runners.length
        · rw [if_neg (by omega)]
          refine ⟨_, rfl, ?_⟩
          rw [decide_eq_true_iff]
          simp only [h1, h2, h3, true_and]
          omega
        · rw [if_pos (by omega)]; exact ⟨true, rfl, by simp [h3]⟩
      · rw [if_pos (by omega)]; exact ⟨true, rfl, by simp [h2]⟩
    · rw [chk_neg h1, some_bind]; exact ⟨true, rfl, by simp [h1]⟩
  · rw [fuel_sub, field_L1 hs.pairs]
    refine chk_and' fun h2 => ?_
    show M43 f (M44 f) _ 0 0 = _
    rw [fuel_sub, field_L2 h.1 hs]
    refine chk_and' fun h3 => ?_
    unfold M44
    rw [field_possible_eq hs (worlds_of h3)]
    by_cases h4 : ∀ w, w < f.Pairs.length + 1 → ¬Poss f.Runners w
    · rw [chk_pos h4, chk_neg (fun h => h h4)]; rfl
    · rw [chk_neg h4, chk_pos h4]; rfl
def InR (f : TField) (a : Int) : Prop := 0 ≤ a ∧ a < f.Runners.length
theorem less_compare (a b : List Int) (ha : a.length < 9223372036854775807) : ∃ r t, M74 a b = some r ∧ M105 a b = some t ∧ (r < 0 ↔ t = true) := by
  unfold M74 M105
  rw [fuel_sub]
  have key : ∀ c i n, i + c = a.length → c ≤ n → ∃ r t, M72 a b (M73 a b) (n + 1) (i : Int) = some r ∧ M103 a b (M104 a b) (n + 1) (i : Int) = some t ∧ (i ≤ b.length → (r < 0 ↔ t = true)) := by
    intro c
    induction c with
    | zero =>
      intro i n h _
      have : i = a.length := by omega
      subst this
      rw [M72, M103]
      simp only [dec_lt_nat, Nat.lt_irrefl, decide_false, cond_false]
      unfold M73 M104
      rw [dec_lt_nat, bif_dec]
      by_cases h1 : a.length < b.length
      · rw [if_pos h1]; exact ⟨_, _, rfl, rfl, fun _ => by simp [h1]⟩
      · rw [if_neg h1]; exact ⟨_, _, rfl, rfl, fun _ => by simp [h1]⟩
    | succ c ih =>
      intro i n h hn
      obtain ⟨n, rfl⟩ : ∃ n', n = n' + 1 := ⟨n - 1, by omega⟩
      have hi : i < a.length := by omega
      obtain ⟨r, t, h1, h2, h3⟩ := ih (i + 1) n (by omega) (by omega)
      rw [M72, M103, dec_lt_nat, decide_eq_true hi, cond_true, cond_true, idx_lt hi, some_bind, w64_succ (by omega), h1, h2]
      by_cases hb : i < b.length
      · rw [bif_dec, if_neg (by omega), dec_lt_nat, decide_eq_true hb, cond_true, idx_lt hb]
        simp only [some_bind, cmp_eq, bif_ne]
        generalize a[i] = p
        generalize b[i] = q
        rcases Int.lt_trichotomy p q with h5 | h5 | h5
        · have hX : (if p < q then (-1 : Int) else if q < p then 1 else 0) = -1 := if_pos h5
          rw [hX, if_neg (by decide), if_neg (by omega)]
          exact ⟨_, _, rfl, rfl, fun _ => by simp [h5]⟩
        · have hX : (if p < q then (-1 : Int) else if q < p then 1 else 0) = 0 := by rw [if_neg (by omega), if_neg (by omega)]
          rw [hX, if_pos rfl, if_pos h5]
          exact ⟨r, t, rfl, rfl, fun _ => h3 (by omega)⟩
        · have hX : (if p < q then (-1 : Int) else if q < p then 1 else 0) = 1 := by rw [if_neg (by omega), if_pos h5]
          rw [hX, if_neg (by decide), if_neg (by omega)]
          exact ⟨_, _, rfl, rfl, fun _ => by simp; omega⟩
      · rw [bif_dec, if_pos (by omega), dec_lt_nat, decide_eq_false hb, cond_false]
        unfold M104
        refine ⟨_, _, rfl, rfl, fun _ => ?_⟩
        rw [dec_lt_nat]
        simp; omega
  obtain ⟨r, t, h1, h2, h3⟩ := key a.length 0 a.length (by omega) (by omega)
  exact ⟨r, t, h1, h2, h3 (by omega)⟩
theorem inR_nat {f : TField} {a : Int} (h : InR f a) : ∃ i : Nat, a = (i : Int) ∧ i < f.Runners.length := by
  obtain ⟨h1, h2⟩ := h
  exact ⟨a.toNat, by omega, by omega⟩
theorem wl_mem {f : TField} (hf : FieldOK f) {i w : Nat} (hi : i < f.Runners.length) (hw : w < f.Pairs.length + 1) : wl f.Runners i w ∈ f.Runners[i].Worlds ∧ idx f.Runners[i].Worlds (w : Int) = some (wl f.Runners i w) := by
  have hl := worlds_of hf.runner _ (List.getElem_mem hi)
  have hw' : w < f.Runners[i].Worlds.length := by omega
  refine ⟨?_, wl_get hi hw'⟩
  unfold wl
  simp [hi, hw']
theorem wl_ok {f : TField} (hf : FieldOK f) {i w : Nat} (hi : i < f.Runners.length) (hw : w < f.Pairs.length + 1) : ∀ o, o ∈ wl f.Runners i w → OutOK f.Clocks o :=
  fun o ho => (hf.runner i hi _ (by simp [hi])).2 _ (wl_mem hf hi hw).1 o ho
def FewR (r : TRunner) : Prop := r.Keys.length ≤ 5 ∧ r.Worlds.length ≤ 4 ∧ ∀ w, w ∈ r.Worlds → w.length ≤ 4
structure FewOK (f : TField) : Prop where
  runner : ∀ r, r ∈ f.Runners → FewR r
  far : ∀ r, r ∈ f.Clocks.Far → r.length ≤ 8
  runners : f.Runners.length ≤ 6
  pairs : f.Pairs.length ≤ 3
  segs : f.Clocks.Segments.length ≤ 4
  rows : f.Clocks.Far.length ≤ 6
theorem FewOK.small {f : TField} (h : FewOK f) : Small f where
  seg := by have := h.segs; omega
  pairs := by have := h.pairs; omega
  runners := by have := h.runners; omega
  worlds r hr := by
    obtain ⟨h1, h2, h3⟩ := h.runner r hr
    exact ⟨by omega, by omega, fun w hw => by have := h3 w hw; omega⟩
theorem count_le {N : Nat} {p : Nat → Bool} : (List.range N).countP p ≤ N := by
  have := List.countP_le_length (p := p) (l := List.range N); simpa using this
theorem inv_loop {σ β : Type} {N : Nat} {f : Nat → Nat → σ → Option β} {k : σ → Option β} {I : Nat → σ → Prop} (hs : ∀ i s, i < N → I i s → ∃ s', I (i + 1) s' ∧ ∀ n, f (n + 1) i s = f n (i + 1) s') (he : ∀ n s, f (n + 1) N s = k s) {s0 : σ} (h0 : I 0 s0) :
    ∃ s, f (N + 1) 0 s0 = k s ∧ I N s := by
  have key : ∀ c i n s, i + c = N → c ≤ n → I i s → ∃ s', f (n + 1) i s = k s' ∧ I N s' := by
    intro c
    induction c with
    | zero =>
      intro i n s h _ hi
      have : i = N := by omega
      subst this
      exact ⟨s, he n s, hi⟩
    | succ c ih =>
      intro i n s h hn hi
      obtain ⟨s', h1, h2⟩ := hs i s (by omega) hi
      obtain ⟨n, rfl⟩ : ∃ n', n = n' + 1 := ⟨n - 1, by omega⟩
      rw [h2]
      exact ih (i + 1) n s' (by omega) (by omega) h1
  exact key N 0 N s0 (by omega) (by omega) h0
theorem map_loop {α γ β : Type} {b : Nat} {l : List α} {f : Nat → Nat → List γ → Option β} {g : α → γ} {k : List γ → Option β} (hb : l.length * b ≤ 140737488355328) (hl : l.length < 9223372036854775808)
    (hs : ∀ n i (h : i < l.length) s, f (n + 1) i s = (app b s [g l[i]]).bind (f n (i + 1))) (he : ∀ n s, f (n + 1) l.length s = k s) :
    f (l.length + 1) 0 [] = k (l.map g) := by
  obtain ⟨s, h1, h2⟩ := inv_loop (N := l.length) (f := f) (k := k) (I := fun i s => s = (l.take i).map g) (s0 := []) (fun i s hi hI => by
    have hlen : s.length = i := by rw [hI]; simp; omega
    refine ⟨s ++ [g l[i]], ?_, fun n => ?_⟩
    · rw [hI, List.take_succ_eq_append_getElem hi, List.map_append]; rfl
    · have hm : (i + 1) * b ≤ l.length * b := Nat.mul_le_mul_right b (by omega)
      have e : s.length + [g l[i]].length = i + 1 := by rw [hlen]; rfl
      rw [hs n i hi s, app_ok (by rw [e]; omega) (by rw [e]; omega)]; rfl) he rfl
  rw [h1, h2, List.take_length]
def kLt : List Int → List Int → Bool
  | _, [] => false
  | [], _ :: _ => true
  | a :: s, b :: t => if a = b then kLt s t else decide (a < b)
theorem kLt_irrefl : ∀ (a : List Int), kLt a a = false
  | [] => rfl
  | a :: s => by unfold kLt; rw [if_pos rfl]; exact kLt_irrefl s
theorem kLt_trans : ∀ {a b c : List Int}, kLt a b = true → kLt b c = true → kLt a c = true
  | _, _, [], _, h => by unfold kLt at h; cases h
  | _, [], _, h, _ => by unfold kLt at h; cases h
  | [], _ :: _, _ :: _, _, _ => rfl
  | a :: s, b :: t, c :: u, h1, h2 => by
    unfold kLt at h1 h2 ⊢
    by_cases e1 : a = b
    · rw [if_pos e1] at h1
      by_cases e2 : b = c
      · rw [if_pos e2] at h2; rw [if_pos (by omega)]; exact kLt_trans h1 h2
      · rw [if_neg e2, decide_eq_true_iff] at h2; rw [if_neg (by omega), decide_eq_true_iff]; omega
    · rw [if_neg e1, decide_eq_true_iff] at h1
      by_cases e2 : b = c
      · rw [if_neg (by omega), decide_eq_true_iff]; omega
      · rw [if_neg e2, decide_eq_true_iff] at h2; rw [if_neg (by omega), decide_eq_true_iff]; omega
theorem kLt_total : ∀ {a b : List Int}, kLt a b = false → kLt b a = false → a = b
  | [], [], _, _ => rfl
  | [], _ :: _, h, _ => by unfold kLt at h; cases h
  | _ :: _, [], _, h => by unfold kLt at h; cases h
  | a :: s, b :: t, h1, h2 => by
    unfold kLt at h1 h2
    by_cases e : a = b
    · subst e
      rw [if_pos rfl] at h1 h2
      rw [kLt_total h1 h2]
    · rw [if_neg e, decide_eq_false_iff_not] at h1
      rw [if_neg (fun h => e h.symm), decide_eq_false_iff_not] at h2
      omega
theorem kLt_drop {a b : List Int} {i : Nat} (ha : i < a.length) (hb : i < b.length) : kLt (a.drop i) (b.drop i) = if a[i] = b[i] then kLt (a.drop (i + 1)) (b.drop (i + 1)) else decide (a[i] < b[i]) := by
  rw [List.drop_eq_getElem_cons ha, List.drop_eq_getElem_cons hb]; rfl
theorem kLt_end {a b : List Int} (h : b.length = 0) : kLt a b = false := by
  cases b with
  | nil => cases a <;> rfl
  | cons => simp at h
theorem kLt_start {a b : List Int} (h : a.length = 0) (h' : b.length ≠ 0) : kLt a b = true := by
  cases a with
  | nil => cases b with
    | nil => simp at h'
    | cons => rfl
  | cons => simp at h
theorem Less_eq (a b : List Int) (ha : a.length < 9223372036854775807) : M105 a b = some (kLt a b) := by
  unfold M105
  rw [fuel_sub]
  have key : ∀ c i n, i + c = a.length → c ≤ n → i ≤ b.length → M103 a b (M104 a b) (n + 1) (i : Int) = some (kLt (a.drop i) (b.drop i)) := by
    intro c
    induction c with
    | zero =>
      intro i n h _ hb
      have : i = a.length := by omega
      subst this
      rw [M103, dec_lt_nat, decide_eq_false (by omega), cond_false]
      unfold M104
      rw [dec_lt_nat]
      by_cases h1 : a.length < b.length
      · rw [decide_eq_true h1, kLt_start (by simp) (by simp; omega)]
      · rw [decide_eq_false h1, kLt_end (by simp; omega)]
    | succ c ih =>
      intro i n h hn hb
      obtain ⟨n, rfl⟩ : ∃ n', n = n' + 1 := ⟨n - 1, by omega⟩
      have hi : i < a.length := by omega
      rw [M103, dec_lt_nat, decide_eq_true hi, cond_true]
      by_cases h1 : i < b.length
      · rw [dec_lt_nat, decide_eq_true h1, cond_true, idx_lt hi, some_bind, idx_lt h1, some_bind, bif_ne, kLt_drop hi h1]
        by_cases h2 : a[i] = b[i]
        · rw [if_pos h2, if_pos h2, w64_succ (by omega), ih (i + 1) n (by omega) (by omega) (by omega)]
        · rw [if_neg h2, if_neg h2]; rfl
      · rw [dec_lt_nat, decide_eq_false h1, cond_false, kLt_end (by simp; omega)]
        unfold M104
        rw [dec_lt_nat, decide_eq_false (by omega)]
  have := key a.length 0 a.length (by omega) (by omega) (by omega)
  simpa using this
theorem Compare_lt (a b : List Int) (ha : a.length < 9223372036854775807) : ∃ r, M74 a b = some r ∧ decide (r < 0) = kLt a b := by
  obtain ⟨r, t, h1, h2, h3⟩ := less_compare a b ha
  rw [Less_eq a b ha] at h2
  refine ⟨r, h1, ?_⟩
  cases h2
  cases h : kLt a b with
  | true => rw [decide_eq_true_iff]; exact h3.2 h
  | false => rw [decide_eq_false_iff_not]; intro h4; rw [h3.1 h4] at h; cases h
def vr (x : TOutcome) : Nat := (x.Seg + 1).toNat
def keys (f : TField) (i : Nat) : List Int := ((f.Runners[i]?).map (·.Keys)).getD []
abbrev far (f : TField) (i j : Nat) : Int := at2 f.Clocks.Far i j
abbrev nseg (f : TField) : Nat := f.Clocks.Segments.length
theorem keys_get {f : TField} {i : Nat} (h : i < f.Runners.length) : f.Runners[i].Keys = keys f i := by
  unfold keys; simp [h]
theorem keys_len {f : TField} (hs : Small f) {i : Nat} (h : i < f.Runners.length) : (keys f i).length < 9223372036854775807 := by
  rw [← keys_get h]; have := (hs.worlds _ (List.getElem_mem h)).1; omega
theorem vr_eq {k : TClocks} {x : TOutcome} (hk : ClocksOK k) (h : OutOK k x) (ho : x.Out = false) : w64 (x.Seg + 1) = (vr x : Int) ∧ vr x < k.Segments.length + 1 := by
  obtain ⟨h1, h2, _⟩ := h.2 ho
  have := hk.few
  unfold vr
  exact ⟨by rw [w64_of (by omega) (by omega)]; omega, by omega⟩
theorem far_bound {f : TField} (hf : FieldOK f) {i j : Nat} (hi : i < nseg f + 1) (hj : j < nseg f + 1) : -2199023255552 ≤ far f i j ∧ far f i j ≤ 2199023255552 :=
  (hf.clocks.row i (by rw [hf.clocks.far]; exact hi)).2.2 j hj
def front (f : TField) (k r : Nat) (d : Int) : Bool := decide (d < 0) || (decide (d = 0) && kLt (keys f k) (keys f r))
abbrev nrun (f : TField) : Nat := f.Runners.length
abbrev npair (f : TField) : Nat := f.Pairs.length
def Occ (f : TField) (r w i : Nat) (x : TOutcome) : Prop := w < npair f + 1 ∧ Poss f.Runners w ∧ (wl f.Runners r w)[i]? = some x
theorem Occ.ok {f : TField} (hf : FieldOK f) {r w i : Nat} {x : TOutcome} (hr : r < nrun f) (h : Occ f r w i x) : OutOK f.Clocks x :=
  wl_ok hf hr h.1 _ (List.mem_of_getElem? h.2.2)
def off (h : THistory) (i : Nat) : Int := ((0 :: h.Offsets)[i]?).getD 0
def ch (h : THistory) (k : Nat) : TChoice := (h.Choices[k]?).getD default
def oc (f : TField) (h : THistory) (k : Nat) : TOutcome := ((wl f.Runners k h.World.toNat)[(ch h k).Outcome.toNat]?).getD default
def net (f : TField) (h : THistory) (k : Nat) : Int := (ch h k).X + off h (vr (oc f h k))
structure Adm (f : TField) (h : THistory) : Prop where
  world : 0 ≤ h.World ∧ h.World < npair f + 1
  poss : Poss f.Runners h.World.toNat
  offs : h.Offsets.length = nseg f
  chs : h.Choices.length = nrun f
  small : ∀ i, i < nseg f + 1 → -1125899906842624 ≤ off h i ∧ off h i ≤ 1125899906842624
  tri : ∀ i, i < nseg f + 1 → ∀ k, k < nseg f + 1 → off h k - off h i ≤ far f i k
  choice : ∀ k, k < nrun f → 0 ≤ (ch h k).Outcome ∧ (ch h k).Outcome < (wl f.Runners k h.World.toNat).length ∧ ((oc f h k).Out = true → (ch h k).X = 0) ∧ ((oc f h k).Out = false → (oc f h k).Lo ≤ (ch h k).X ∧ (ch h k).X ≤ (oc f h k).Hi)
theorem Adm.nat {f : TField} {h : THistory} (ha : Adm f h) : h.World = (h.World.toNat : Int) ∧ h.World.toNat < npair f + 1 := by
  have := ha.world
  omega
theorem ch_get {h : THistory} {k : Nat} (hk : k < h.Choices.length) : h.Choices[k] = ch h k := by unfold ch; simp [hk]
theorem ch_idx {f : TField} {h : THistory} (ha : Adm f h) {k : Nat} (hk : k < nrun f) : idx h.Choices (k : Int) = some (ch h k) := by
  have : k < h.Choices.length := by rw [ha.chs]; exact hk
  rw [idx_lt this, ch_get this]
theorem oc_occ {f : TField} {h : THistory} (ha : Adm f h) {k : Nat} (hk : k < nrun f) : Occ f k h.World.toNat (ch h k).Outcome.toNat (oc f h k) := by
  obtain ⟨h1, h2, _⟩ := ha.choice k hk
  refine ⟨ha.nat.2, ha.poss, ?_⟩
  have : (ch h k).Outcome.toNat < (wl f.Runners k h.World.toNat).length := by omega
  unfold oc
  simp [this]
theorem oc_ok {f : TField} (hf : FieldOK f) {h : THistory} (ha : Adm f h) {k : Nat} (hk : k < nrun f) : OutOK f.Clocks (oc f h k) := (oc_occ ha hk).ok hf hk
theorem off_idx {f : TField} {h : THistory} (ha : Adm f h) {i : Nat} (hi : i < nseg f) : idx h.Offsets (i : Int) = some (off h (i + 1)) := by
  have : i < h.Offsets.length := by rw [ha.offs]; exact hi
  rw [idx_lt this]; unfold off; simp [this]
theorem vr_lt {f : TField} (hf : FieldOK f) {x : TOutcome} (hx : OutOK f.Clocks x) (hxo : x.Out = false) : vr x < nseg f + 1 := (vr_eq hf.clocks hx hxo).2
theorem net_bound {f : TField} (hf : FieldOK f) {h : THistory} (ha : Adm f h) {k : Nat} (hk : k < nrun f) (hxo : (oc f h k).Out = false) : -300000000000000000 ≤ net f h k ∧ net f h k ≤ 300000000000000000 := by
  have hx := oc_ok hf ha hk
  obtain ⟨_, _, h1, h2, h3⟩ := hx.2 hxo
  have h4 := (ha.choice k hk).2.2.2 hxo
  have h5 := ha.small _ (vr_lt hf hx hxo)
  unfold net
  omega
def inFr (f : TField) (h : THistory) (a b : Nat) : Bool := !(oc f h a).Out && ((oc f h b).Out || front f a b (net f h a - net f h b))
def rank (f : TField) (h : THistory) (r : Nat) : Nat := if (oc f h r).Out = true then 0 else 1 + (List.range (nrun f)).countP (fun k => inFr f h k r)
theorem inFr_self {f : TField} {h : THistory} {r : Nat} (hxo : (oc f h r).Out = false) : inFr f h r r = false := by
  unfold inFr front
  rw [hxo]
  simp [kLt_irrefl]
theorem countP_eq_of {N : Nat} {p q : Nat → Bool} (h : ∀ i, i < N → p i = q i) : (List.range N).countP p = (List.range N).countP q :=
  List.countP_congr fun i hi => by rw [h i (by simpa using hi)]
theorem rank_zero {f : TField} {h : THistory} {r : Nat} : rank f h r = 0 ↔ (oc f h r).Out = true := by
  unfold rank
  by_cases e : (oc f h r).Out = true
  · simp [e]
  · simp [e]
def Lst {α : Type} (P : Nat → α → Prop) (i : Nat) (l : List α) : Prop := l.length = i ∧ ∀ j x, l[j]? = some x → P j x
theorem Lst.nil {α : Type} {P : Nat → α → Prop} : Lst P 0 [] := ⟨rfl, fun j x h => by simp at h⟩
theorem chk_bool (p : Prop) : ∃ b, chk p false (some true) = some b ∧ (b = true ↔ p) := by
  by_cases h : p
  · exact ⟨true, chk_pos h, by simp [h]⟩
  · exact ⟨false, chk_neg h, by simp [h]⟩
theorem few16_eq {k : TClocks} (hw : wTClocks k) : ∃ b, M96 k = some b ∧ (b = true → k.Segments.length ≤ 8 ∧ k.Far.length ≤ 10) := by
  obtain ⟨hsg, hfar⟩ := hw
  unfold M96
  rw [bif_dec, bif_dec]
  by_cases h1 : k.Segments.length ≤ 8
  · rw [if_neg (by omega)]
    by_cases h2 : k.Far.length ≤ 10
    · rw [if_neg (by omega), fuel_sub]
      obtain ⟨b, hb1, _⟩ := chk_bool (∀ i, i < k.Far.length → ∀ r, k.Far[i]? = some r → r.length ≤ 12)
      refine ⟨b, (chk_loop (N := k.Far.length) (f := fun n i => M94 k M95 n (i : Int)) (r := false) (k := some true) (ok := fun i => ∀ r, k.Far[i]? = some r → r.length ≤ 12) (fun n i hi => ?_) (fun n => ?_)).trans hb1, fun _ => ⟨h1, h2⟩⟩
      · show M94 k M95 (n + 1) (i : Int) = _
        have hx : k.Far[i]? = some k.Far[i] := by simp [hi]
        rw [M94, dec_lt_nat, decide_eq_true hi, cond_true, idx_lt hi, some_bind, bif_dec, w64_succ (by omega), hx]
        generalize k.Far[i] = r
        simp only [Option.some.injEq, forall_eq']
        by_cases h3 : r.length ≤ 12
        · rw [if_neg (by omega), chk_pos h3]
        · rw [if_pos (by omega), chk_neg h3]
      · show M94 k M95 (n + 1) ((k.Far.length : Nat) : Int) = _
        rw [M94]; simp [M95]
    · rw [if_pos (by omega)]; exact ⟨false, rfl, fun h => by cases h⟩
  · rw [if_pos (by omega)]; exact ⟨false, rfl, fun h => by cases h⟩
theorem few24_L2 {x : TRunner} (hx : x.Worlds.length ≤ 5) (hl : ∀ w, w ∈ x.Worlds → w.length ≤ 140737488351232) {c : Int} (hc : 0 ≤ c ∧ c ≤ 6000000000000000) :
    ∃ s : Int, M97 x (x.Worlds.length + 1) c 0 = some s ∧ c ≤ s ∧ s ≤ c + 5 * 140737488351232 ∧ ∀ w, w ∈ x.Worlds → (w.length : Int) ≤ s := by
  obtain ⟨s, h1, h2⟩ := inv_loop (N := x.Worlds.length) (f := fun n i (s : Int) => M97 x n s (i : Int)) (k := some) (I := fun i s => c ≤ s ∧ s ≤ c + i * 140737488351232 ∧ ∀ j, j < i → ∀ w, x.Worlds[j]? = some w → (w.length : Int) ≤ s) (s0 := c) (fun i s hi hI => by
    obtain ⟨h1, h2, h3⟩ := hI
    have hw := hl _ (List.getElem_mem hi)
    refine ⟨s + ((x.Worlds[i]).length : Int), ⟨by omega, by have : ((i + 1 : Nat) : Int) = (i : Int) + 1 := rfl; rw [this]; omega, fun j hj w hjw => ?_⟩, fun n => ?_⟩
    · by_cases e : j = i
      · subst e
        rw [List.getElem?_eq_getElem hi] at hjw
        cases hjw
        omega
      · have := h3 j (by omega) w hjw
        omega
    · show M97 x (n + 1) s (i : Int) = _
      rw [M97, dec_lt_nat, decide_eq_true hi, cond_true, idx_lt hi, some_bind, w64_succ (by omega), w64_of (by omega) (by omega)]) (fun n s => by
    show M97 x (n + 1) s ((x.Worlds.length : Nat) : Int) = _
    rw [M97]; simp) ⟨by omega, by omega, fun j hj => absurd hj (by omega)⟩
  refine ⟨s, h1, h2.1, by have := h2.2.1; omega, fun w hw => ?_⟩
  obtain ⟨j, hj, rfl⟩ := List.mem_iff_getElem.1 hw
  exact h2.2.2 j hj _ (by simp [hj])
theorem few24_eq {f : TField} (hw : wTField f) : ∃ b, M100 f = some b ∧ (b = true → Small f ∧ f.Runners.length ≤ 6 ∧ f.Pairs.length ≤ 3 ∧ f.Clocks.Segments.length ≤ 8 ∧ f.Clocks.Far.length ≤ 10 ∧ ∀ r, r ∈ f.Runners → r.Keys.length ≤ 8 ∧ r.Worlds.length ≤ 5 ∧ ∀ w, w ∈ r.Worlds → w.length ≤ 60) := by
  obtain ⟨hk, _, hrun⟩ := hw
  unfold M100
  rw [bif_dec, bif_dec]
  by_cases h1 : f.Runners.length ≤ 6
  · rw [if_neg (by omega)]
    by_cases h2 : f.Pairs.length ≤ 3
    · rw [if_neg (by omega)]
      obtain ⟨b, h3, h4⟩ := few16_eq hk
      rw [h3, some_bind]
      cases b with
      | false => exact ⟨false, rfl, fun h => by cases h⟩
      | true =>
        obtain ⟨h5, h6⟩ := h4 rfl
        simp only [Bool.not_true, cond_false]
        rw [fuel_sub]
        have key : ∀ c i n (s : Int), i + c = f.Runners.length → c ≤ n → 0 ≤ s → s ≤ i * (5 * 140737488351232) → (∀ j, j < i → ∀ r, f.Runners[j]? = some r → r.Keys.length ≤ 8 ∧ r.Worlds.length ≤ 5 ∧ ∀ w, w ∈ r.Worlds → (w.length : Int) ≤ s) →
            ∃ b, M98 f M99 (n + 1) s (i : Int) = some b ∧ (b = true → ∀ r, r ∈ f.Runners → r.Keys.length ≤ 8 ∧ r.Worlds.length ≤ 5 ∧ ∀ w, w ∈ r.Worlds → w.length ≤ 60) := by
          intro c
          induction c with
          | zero =>
            intro i n s h _ _ _ hI
            have : i = f.Runners.length := by omega
            subst this
            rw [M98, dec_lt_nat, decide_eq_false (by omega), cond_false]
            refine ⟨_, rfl, fun hb r hr => ?_⟩
            have hs : s ≤ 60 := by simpa using hb
            obtain ⟨j, hj, rfl⟩ := List.mem_iff_getElem.1 hr
            obtain ⟨a, b, c⟩ := hI j hj _ (List.getElem?_eq_getElem hj)
            exact ⟨a, b, fun w hw => by have := c w hw; omega⟩
          | succ c ih =>
            intro i n s h hn hs0 hs1 hI
            obtain ⟨n, rfl⟩ : ∃ n', n = n' + 1 := ⟨n - 1, by omega⟩
            have hi : i < f.Runners.length := by omega
            have hrw := hrun.2 _ (List.getElem_mem hi)
            rw [M98, dec_lt_nat, decide_eq_true hi, cond_true, idx_lt hi, some_bind, bif_dec, bif_dec, fuel_sub]
            have hx : f.Runners[i]? = some f.Runners[i] := by simp [hi]
            generalize f.Runners[i] = r at hx hrw
            by_cases g1 : r.Keys.length ≤ 8
            · rw [if_neg (by omega)]
              by_cases g2 : r.Worlds.length ≤ 5
              · rw [if_neg (by omega)]
                obtain ⟨s', k1, k2, k3, k4⟩ := few24_L2 g2 (fun w hw => (hrw.2.2.2 w hw).1) (c := s) ⟨hs0, by omega⟩
                rw [k1, some_bind, w64_succ (by omega)]
                refine ih (i + 1) n s' (by omega) (by omega) (by omega) (by have : ((i + 1 : Nat) : Int) = (i : Int) + 1 := rfl; rw [this]; omega) fun j hj q hq => ?_
                by_cases e : j = i
                · subst e
                  rw [hx] at hq; cases hq
                  exact ⟨g1, g2, k4⟩
                · obtain ⟨a, b, c⟩ := hI j (by omega) q hq
                  exact ⟨a, b, fun w hw => by have := c w hw; omega⟩
              · rw [if_pos (by omega)]; exact ⟨false, rfl, fun h => by cases h⟩
            · rw [if_pos (by omega)]; exact ⟨false, rfl, fun h => by cases h⟩
        obtain ⟨b, g1, g2⟩ := key f.Runners.length 0 f.Runners.length 0 (by omega) (by omega) (by omega) (by omega) (fun j hj => absurd hj (by omega))
        refine ⟨b, g1, fun hb => ?_⟩
        have g3 := g2 hb
        exact ⟨⟨by omega, by omega, by omega, fun r hr => by
          obtain ⟨a, b, c⟩ := g3 r hr
          exact ⟨by omega, by omega, fun w hw => by have := c w hw; omega⟩⟩, h1, h2, h5, h6, g3⟩
    · rw [if_pos (by omega)]; exact ⟨false, rfl, fun h => by cases h⟩
  · rw [if_pos (by omega)]; exact ⟨false, rfl, fun h => by cases h⟩
theorem containsH_eq {l : List TRunner} {w : Nat} (hl : l.length ≤ 1000000) (hw : ∀ r, r ∈ l → w < r.Worlds.length) : ∃ b, M51 l (w : Int) = some b ∧ (b = true ↔ ¬Poss l w) := by
  unfold M51 M50
  rw [fuel_sub]
  obtain ⟨r, h1, h2⟩ := find_loop (N := l.length) (f := fun n i => M48 l (w : Int) M49 n (i : Int)) (p := fun i => (wl l i w).length = 0) (fun n i hi => by
    show M48 l (w : Int) _ (n + 1) (i : Int) = _
    rw [M48, dec_lt_nat, decide_eq_true hi, cond_true, idx_lt hi, some_bind, w64_succ (by omega)]
    unfold M47
    rw [wl_get hi (hw _ (List.getElem_mem hi)), some_bind, some_bind, bif_eq]
    by_cases h : (wl l i w).length = 0
    · rw [if_pos h, if_pos (by omega)]
    · rw [if_neg h, if_neg (by omega)]) (fun n => by
    show M48 l (w : Int) _ (n + 1) ((l.length : Nat) : Int) = _
    rw [M48]
    simp [M49])
  refine ⟨decide (r ≥ 0), ?_, ?_⟩
  · have h1 : M48 l (w : Int) M49 (l.length + 1) 0 = some r := h1
    rw [h1]; rfl
  · rw [decide_eq_true_iff, h2]
    unfold Poss
    simp only [Classical.not_forall, Classical.not_not, exists_prop]
theorem containsA_eq {l : List Int} (hl : l.length ≤ 1000000) : ∃ b, M57 l = some b ∧ (b = true ↔ ¬∀ i, i < l.length → Entry ((l[i]?).getD 0)) := by
  unfold M57 M56
  rw [fuel_sub]
  obtain ⟨r, h1, h2⟩ := find_loop (N := l.length) (f := fun n i => M54 l M55 n (i : Int)) (p := fun j => ¬Entry ((l[j]?).getD 0)) (fun n i hi => by
    show M54 l _ (n + 1) (i : Int) = _
    rw [M54, dec_lt_nat, decide_eq_true hi, cond_true, idx_lt hi, some_bind, w64_succ (by omega)]
    have hx : (l[i]?).getD 0 = l[i] := by simp [hi]
    rw [hx]
    generalize l[i] = w
    unfold M53 Entry
    rw [bif_dec]
    by_cases h1 : w < -2199023255552
    · rw [if_pos h1, some_bind, cond_true, if_pos (by omega)]
    · rw [if_neg h1, some_bind, bif_dec]
      by_cases h2 : w > 2199023255552
      · rw [if_pos h2, if_pos (by omega)]
      · rw [if_neg h2, if_neg (by omega)]) (fun n => by
    show M54 l _ (n + 1) ((l.length : Nat) : Int) = _
    rw [M54]
    simp [M55])
  refine ⟨decide (r ≥ 0), ?_, ?_⟩
  · have h1 : M54 l M55 (l.length + 1) 0 = some r := h1
    rw [h1]; rfl
  · rw [decide_eq_true_iff, h2]
    simp only [Classical.not_forall, exists_prop]
theorem aligned_L2 {f : TField} (hf : FieldOK f) {l : List Int} {kk : Unit → Option Bool} (hl : l.length = nseg f + 1) (hb : ∀ i, i < l.length → Entry ((l[i]?).getD 0)) {i : Nat} (hi : i < nseg f + 1) {row : List Int} (hr : f.Clocks.Far[i]? = some row) (hrl : row.length = nseg f + 1) : M58 l (i : Int) row kk (row.length + 1) 0 = chk (∀ k, k < row.length → (l[k]?).getD 0 - (l[i]?).getD 0 ≤ far f i k) false (kk ()) := by
  refine chk_loop (f := fun n k => M58 l (i : Int) row kk n (k : Int)) (fun n k hk => ?_) (fun n => ?_)
  · show M58 l (i : Int) row kk (n + 1) (k : Int) = _
    have hi' : i < l.length := by omega
    have hk' : k < l.length := by omega
    have e1 : (l[i]?).getD 0 = l[i] := by simp [hi']
    have e2 : (l[k]?).getD 0 = l[k] := by simp [hk']
    have b1 := hb i hi'
    have b2 := hb k hk'
    have hsg : nseg f ≤ 511 := hf.clocks.few
    rw [M58, dec_lt_nat, decide_eq_true hk, cond_true, idx2 hr hk, some_bind, idx_lt hk', some_bind, idx_lt hi', some_bind, w64_succ (by omega), bif_dec, e1, e2]
    rw [e1] at b1
    rw [e2] at b2
    unfold Entry at b1 b2
    rw [w64_of (by omega) (by omega)]
    by_cases h1 : l[k] - l[i] > far f i k
    · rw [if_pos h1, chk_neg (by omega)]
    · rw [if_neg h1, chk_pos (by omega)]
  · show M58 l (i : Int) row kk (n + 1) ((row.length : Nat) : Int) = _
    rw [M58]; simp
theorem aligned_L1 {f : TField} (hf : FieldOK f) {l : List Int} {kk : Unit → Option Bool} (hl : l.length = nseg f + 1) (hb : ∀ i, i < l.length → Entry ((l[i]?).getD 0)) : M60 f.Clocks l kk (f.Clocks.Far.length + 1) 0 = chk (∀ i, i < l.length → ∀ k, k < l.length → (l[k]?).getD 0 - (l[i]?).getD 0 ≤ far f i k) false (kk ()) := by
  have hfl := hf.clocks.far
  have hE : l.length = f.Clocks.Far.length := by rw [hfl, hl]
  rw [← hE]
  refine chk_loop (f := fun n i => M60 f.Clocks l kk n (i : Int)) (fun n i hi => ?_) (fun n => ?_)
  · show M60 f.Clocks l kk (n + 1) (i : Int) = _
    have hsg : nseg f ≤ 511 := hf.clocks.few
    have hi' : i < f.Clocks.Far.length := by omega
    have hi2 : i < nseg f + 1 := by omega
    obtain ⟨row, h1, h2, h3⟩ := rows_get hf.clocks.row hf.clocks.far hi2
    rw [M60, dec_lt_nat, decide_eq_true hi', cond_true, h2, some_bind, fuel_sub, aligned_L2 hf hl hb hi2 h1 h3]
    show chk _ _ (M60 f.Clocks l kk n (w64 ((i : Int) + 1))) = _
    rw [w64_succ (by omega), h3, hl]
  · show M60 f.Clocks l kk (n + 1) ((l.length : Nat) : Int) = _
    rw [hE, M60]; simp
def Offs (f : TField) (h : THistory) : Prop := (∀ i, i < nseg f + 1 → -1125899906842624 ≤ off h i ∧ off h i ≤ 1125899906842624) ∧ ∀ i, i < nseg f + 1 → ∀ k, k < nseg f + 1 → off h k - off h i ≤ far f i k
theorem aligned_eq {f : TField} (hf : FieldOK f) {h : THistory} (ho : h.Offsets.length = nseg f) : ∃ b, M62 f.Clocks h.Offsets = some b ∧ (b = true ↔ Offs f h) := by
  have hsg : nseg f ≤ 511 := hf.clocks.few
  unfold M62
  rw [app_ok (by simp [ho]; omega) (by simp [ho]; omega), some_bind, show ([0] ++ h.Offsets) = 0 :: h.Offsets from rfl]
  have hl : (0 :: h.Offsets).length = nseg f + 1 := by simp [ho]
  obtain ⟨b, h1, h2⟩ := containsA_eq (l := 0 :: h.Offsets) (by omega)
  rw [h1, some_bind]
  have h0 : off h 0 = 0 := rfl
  have hE : (∀ i, i < (0 :: h.Offsets).length → Entry (((0 :: h.Offsets)[i]?).getD 0)) ↔ ∀ i, i < nseg f + 1 → Entry (off h i) := by rw [hl]; rfl
  cases b with
  | true =>
    refine ⟨false, rfl, ?_⟩
    have h3 := h2.1 rfl
    rw [hE] at h3
    constructor
    · intro h; cases h
    · rintro ⟨_, h4⟩
      refine absurd (fun i hi => ?_) h3
      have a1 := h4 0 (by omega) i hi
      have a2 := h4 i hi 0 (by omega)
      have b1 := far_bound hf (i := 0) (j := i) (by omega) hi
      have b2 := far_bound hf (i := i) (j := 0) hi (by omega)
      unfold Entry
      omega
  | false =>
    have h3 : ∀ i, i < (0 :: h.Offsets).length → Entry (((0 :: h.Offsets)[i]?).getD 0) := Classical.byContradiction fun hh => by simpa using h2.2 hh
    rw [cond_false, fuel_sub, aligned_L1 hf hl h3, hl]
    unfold M61
    have hO : (∀ i, i < nseg f + 1 → ∀ k, k < nseg f + 1 → ((0 :: h.Offsets)[k]?).getD 0 - ((0 :: h.Offsets)[i]?).getD 0 ≤ far f i k) ↔ Offs f h := by
      constructor
      · intro h4
        refine ⟨fun i hi => ?_, h4⟩
        have := hE.1 h3 i hi
        unfold Entry at this
        omega
      · exact fun h4 => h4.2
    by_cases h4 : Offs f h
    · exact ⟨true, chk_pos (hO.2 h4), by simp [h4]⟩
    · exact ⟨false, chk_neg (fun h5 => h4 (hO.1 h5)), by simp [h4]⟩
theorem sane26_true : M93 = some true := by kernel_rfl
def ChOK (f : TField) (h : THistory) (k : Nat) : Prop := 0 ≤ (ch h k).Outcome ∧ (ch h k).Outcome < (wl f.Runners k h.World.toNat).length ∧ ((oc f h k).Out = true → (ch h k).X = 0) ∧ ((oc f h k).Out = false → (oc f h k).Lo ≤ (ch h k).X ∧ (ch h k).X ≤ (oc f h k).Hi)
theorem outcomes_eq {f : TField} (hf : FieldOK f) {h : THistory} (hw : 0 ≤ h.World ∧ h.World < npair f + 1) {k : Nat} (hk : k < nrun f) : M63 ⟨f, h⟩ (k : Int) = some (wl f.Runners k h.World.toNat) := by
  obtain ⟨_, hm⟩ := wl_mem hf hk (w := h.World.toNat) (by have : h.World < (npair f : Int) + 1 := hw.2; show _ < npair f + 1; omega)
  have ew : (h.World.toNat : Int) = h.World := by omega
  rw [ew] at hm
  unfold M63
  dsimp only
  rw [idx_lt hk, some_bind, hm, some_bind]
theorem outcomeV_eq {f : TField} (hf : FieldOK f) {h : THistory} (hw : 0 ≤ h.World ∧ h.World < npair f + 1) {k : Nat} (hk : k < nrun f) (hc : k < h.Choices.length) (h0 : 0 ≤ (ch h k).Outcome) (h1 : (ch h k).Outcome < (wl f.Runners k h.World.toNat).length) : M64 ⟨f, h⟩ (k : Int) = some (oc f h k) := by
  have e : (ch h k).Outcome = ((ch h k).Outcome.toNat : Int) := by omega
  have h3 : (ch h k).Outcome.toNat < (wl f.Runners k h.World.toNat).length := by omega
  unfold M64
  rw [outcomes_eq hf hw hk, some_bind]
  dsimp only
  rw [idx_lt hc, some_bind, ch_get hc, e, idx_lt h3, some_bind]
  unfold oc
  simp [h3]
theorem open_L1 {f : TField} (hs : Small f) (hf : FieldOK f) {h : THistory} (hw : 0 ≤ h.World ∧ h.World < npair f + 1) (hc : h.Choices.length = nrun f) : M65 f h (M66 f h) (h.Choices.length + 1) 0 = chk (∀ k, k < h.Choices.length → ChOK f h k) (⟨f, h⟩, 260) (some (⟨f, h⟩, 0)) := by
  refine chk_loop (f := fun n i => M65 f h (M66 f h) n (i : Int)) (fun n i hi => ?_) (fun n => ?_)
  · show M65 f h (M66 f h) (n + 1) (i : Int) = _
    have hlen : nrun f ≤ 1000000 := hs.runners
    have hi' : i < nrun f := by omega
    rw [M65, dec_lt_nat, decide_eq_true hi, cond_true, idx_lt hi, some_bind, w64_succ (by omega), ch_get hi, bif_dec]
    unfold ChOK
    by_cases h1 : (ch h i).Outcome < 0
    · rw [if_pos h1, chk_neg (by omega)]
    · rw [if_neg h1, outcomes_eq hf hw hi', some_bind, bif_dec]
      by_cases h2 : (ch h i).Outcome ≥ ((wl f.Runners i h.World.toNat).length : Int)
      · rw [if_pos h2, chk_neg (by omega)]
      · rw [if_neg h2, outcomeV_eq hf hw hi' hi (by omega) (by omega), some_bind]
        generalize oc f h i = x
        cases hx : x.Out with
        | true =>
          rw [cond_true, bif_dec, bif_dec]
          by_cases h5 : (ch h i).X < 0
          · rw [if_pos h5, chk_neg (fun hh => by have := hh.2.2.1 rfl; omega)]
          · rw [if_neg h5]
            by_cases h6 : (ch h i).X > 0
            · rw [if_pos h6, chk_neg (fun hh => by have := hh.2.2.1 rfl; omega)]
            · rw [if_neg h6, chk_pos ⟨by omega, by omega, fun _ => by omega, fun hh => by cases hh⟩]
        | false =>
          rw [cond_false, bif_dec, bif_dec]
          by_cases h5 : (ch h i).X < x.Lo
          · rw [if_pos h5, chk_neg (fun hh => by have := hh.2.2.2 rfl; omega)]
          · rw [if_neg h5]
            by_cases h6 : (ch h i).X > x.Hi
            · rw [if_pos h6, chk_neg (fun hh => by have := hh.2.2.2 rfl; omega)]
            · rw [if_neg h6, chk_pos ⟨by omega, by omega, fun hh => (by cases hh), fun _ => ⟨by omega, by omega⟩⟩]
  · show M65 f h (M66 f h) (n + 1) ((h.Choices.length : Nat) : Int) = _
    rw [M65]; simp [M66]
def zview : Thistory_view := ⟨⟨⟨[], []⟩, [], []⟩, ⟨0, [], []⟩⟩
theorem open_eq {f : TField} (hs : Small f) (h : THistory) : M67 f h = chk (FieldOK f) (zview, 240) (chk (Adm f h) (⟨f, h⟩, 260) (some (⟨f, h⟩, 0))) := by
  unfold M67
  rw [field_Check_eq hs]
  by_cases hf : FieldOK f
  · rw [chk_pos hf, chk_pos hf, some_bind]
    simp only [bne_self_eq_false, cond_false]
    have hsp : npair f ≤ 1000 := hs.pairs
    have hsr := hs.runners
    by_cases h1 : 0 ≤ h.World ∧ h.World < npair f + 1
    · have hwn : h.World.toNat < npair f + 1 := by omega
      have ew : h.World = (h.World.toNat : Int) := by omega
      obtain ⟨b, hb1, hb2⟩ := containsH_eq (l := f.Runners) (w := h.World.toNat) hsr (fun r hr => by rw [worlds_of hf.runner r hr]; exact hwn)
      rw [← ew] at hb1
      have e1 : decide (h.World < 0) = false := by simp; omega
      have e2 : decide (h.World > (f.Pairs.length : Int)) = false := by
        have : ((npair f : Nat) : Int) = (f.Pairs.length : Int) := rfl
        simp; omega
      rw [e1, e2]
      unfold M52
      simp only [cond_false, hb1, some_bind]
      by_cases h2 : Poss f.Runners h.World.toNat
      · have : b = false := by
          cases b with
          | false => rfl
          | true => exact absurd h2 (hb2.1 rfl)
        subst this
        simp only [Bool.not_false, Bool.not_true, cond_false, bif_ne]
        by_cases h3 : h.Offsets.length = nseg f
        · rw [if_pos (show (h.Offsets.length : Int) = (f.Clocks.Segments.length : Int) by rw [h3])]
          by_cases h4 : h.Choices.length = nrun f
          · rw [if_pos (show (h.Choices.length : Int) = (f.Runners.length : Int) by rw [h4])]
            obtain ⟨c, hc1, hc2⟩ := aligned_eq hf h3
            rw [hc1]
            cases c with
            | false =>
              rw [chk_neg (fun ha : Adm f h => by have := hc2.2 ⟨ha.small, ha.tri⟩; cases this)]
              rfl
            | true =>
              have hO := hc2.1 rfl
              simp only [some_bind, Bool.not_true, cond_false]
              rw [fuel_sub, open_L1 hs hf h1 h4]
              refine chk_congr ⟨fun hC => ⟨h1, h2, h3, h4, hO.1, hO.2, fun k hk => hC k (by omega)⟩, fun ha k hk => ha.choice k (by omega)⟩ fun _ => rfl
          · rw [if_neg (show ¬(h.Choices.length : Int) = (f.Runners.length : Int) from fun e => h4 (by have : (h.Choices.length : Int) = (nrun f : Int) := e; omega)), chk_neg (fun ha : Adm f h => h4 ha.chs)]
            rfl
        · rw [if_neg (show ¬(h.Offsets.length : Int) = (f.Clocks.Segments.length : Int) from fun e => h3 (by have : (h.Offsets.length : Int) = (nseg f : Int) := e; omega)), chk_neg (fun ha : Adm f h => h3 ha.offs)]
          rfl
      · have : b = true := hb2.2 h2
        subst this
        rw [chk_neg (fun ha : Adm f h => h2 ha.poss)]
        rfl
    · rw [chk_neg (fun ha : Adm f h => h1 ha.world)]
      by_cases e : h.World < 0
      · rw [decide_eq_true e]; rfl
      · have e2 : decide (h.World > (f.Pairs.length : Int)) = true := by
          have : ((npair f : Nat) : Int) = (f.Pairs.length : Int) := rfl
          simp; omega
        rw [decide_eq_false e, e2]; rfl
  · rw [chk_neg hf, chk_neg hf]
    rfl
theorem histCheck_eq {f : TField} (hs : Small f) (h : THistory) : M92 f h = chk (FieldOK f) 240 (chk (Adm f h) 260 (some 0)) := by
  unfold M92
  rw [open_eq hs]
  by_cases hf : FieldOK f
  · rw [chk_pos hf, chk_pos hf]
    by_cases ha : Adm f h
    · rw [chk_pos ha, chk_pos ha]; rfl
    · rw [chk_neg ha, chk_neg ha]; rfl
  · rw [chk_neg hf, chk_neg hf]; rfl
theorem few26_eq {f : TField} (h : THistory) (hw : wTField f) : ∃ b, M102 f h = some b ∧ (b = true → Small f ∧ nrun f ≤ 6 ∧ h.Choices.length ≤ 20) := by
  obtain ⟨b, h1, h2⟩ := few24_eq hw
  unfold M102 M101
  rw [h1, some_bind]
  cases b with
  | false => exact ⟨false, rfl, fun h => by cases h⟩
  | true =>
    obtain ⟨h3, h4, _⟩ := h2 rfl
    rw [bif_dec]
    by_cases h5 : (h.Offsets.length : Int) ≤ 20
    · rw [if_pos h5]
      refine ⟨_, rfl, fun hb => ⟨h3, h4, ?_⟩⟩
      have : (h.Choices.length : Int) ≤ 20 := by simpa using hb
      omega
    · rw [if_neg h5]; exact ⟨false, rfl, fun h => by cases h⟩
theorem netV_eq {f : TField} (hf : FieldOK f) {h : THistory} (ha : Adm f h) {k : Nat} (hk : k < nrun f) : M69 ⟨f, h⟩ (k : Int) = some (if (oc f h k).Out = true then (0, false) else (net f h k, true)) := by
  have hc : k < h.Choices.length := by rw [ha.chs]; exact hk
  obtain ⟨h1, h2, _⟩ := ha.choice k hk
  unfold M69
  rw [outcomeV_eq hf ha.world hk hc h1 h2, some_bind]
  cases hxo : (oc f h k).Out with
  | true => rfl
  | false =>
    have hx := oc_ok hf ha hk
    have hb := net_bound hf ha hk hxo
    obtain ⟨g1, g2, _⟩ := hx.2 hxo
    unfold net at hb
    dsimp only
    rw [cond_false, ch_idx ha hk, some_bind, bif_dec]
    have ho : off h (vr (oc f h k)) = if (oc f h k).Seg ≥ 0 then off h ((oc f h k).Seg.toNat + 1) else 0 := by
      unfold vr
      by_cases h3 : (oc f h k).Seg ≥ 0
      · rw [if_pos h3]; congr 1; omega
      · rw [if_neg h3]
        have : ((oc f h k).Seg + 1).toNat = 0 := by omega
        rw [this]; rfl
    by_cases h3 : (oc f h k).Seg ≥ 0
    · have e2 : (oc f h k).Seg = ((oc f h k).Seg.toNat : Int) := by omega
      rw [if_pos h3] at ho ⊢
      have h4 : (oc f h k).Seg.toNat < nseg f := by
        have : (oc f h k).Seg < (nseg f : Int) := g2
        omega
      have h5 := off_idx ha h4
      rw [← e2] at h5
      rw [h5, some_bind, ← ho, w64_of (by omega) (by omega)]
      rfl
    · rw [if_neg h3] at ho ⊢
      rw [if_neg (by decide)]
      unfold net
      rw [ho]
      simp
def tm (f : TField) (h : THistory) (i : Nat) : Option Thistory_pair_int_int := if (oc f h i).Out = true then none else some ⟨(i : Int), net f h i⟩
def tms (f : TField) (h : THistory) (n : Nat) : List Thistory_pair_int_int := (List.range n).filterMap (tm f h)
theorem tms_succ (f : TField) (h : THistory) (n : Nat) : tms f h (n + 1) = tms f h n ++ (tm f h n).toList := by
  unfold tms
  rw [List.range_succ, List.filterMap_append]
  cases hq : tm f h n <;> simp [List.filterMap_cons, hq]
theorem tms_len (f : TField) (h : THistory) (n : Nat) : (tms f h n).length ≤ n := by
  unfold tms
  have := List.length_filterMap_le (tm f h) (List.range n)
  simpa using this
theorem tms_mem {f : TField} {h : THistory} {n : Nat} {p : Thistory_pair_int_int} (hp : p ∈ tms f h n) : ∃ i, i < n ∧ (oc f h i).Out = false ∧ p = ⟨(i : Int), net f h i⟩ := by
  unfold tms at hp
  obtain ⟨i, h1, h2⟩ := List.mem_filterMap.1 hp
  unfold tm at h2
  cases hx : (oc f h i).Out with
  | true => rw [hx] at h2; simp at h2
  | false => rw [hx] at h2; simp at h2; exact ⟨i, by simpa using h1, hx, h2.symm⟩
theorem times_eq {f : TField} (hs : Small f) (hf : FieldOK f) {h : THistory} (ha : Adm f h) : M71 ⟨f, h⟩ = some (tms f h (nrun f)) := by
  have hlen : nrun f ≤ 1000000 := hs.runners
  unfold M71
  rw [fuel_sub]
  obtain ⟨s, h1, h2⟩ := inv_loop (N := nrun f) (f := fun n i l => M70 ⟨f, h⟩ n (i : Int) l) (k := some) (I := fun i l => l = tms f h i) (s0 := []) (fun i l hi hI => by
    refine ⟨_, rfl, fun n => ?_⟩
    subst hI
    have hl := tms_len f h i
    show M70 ⟨f, h⟩ (n + 1) (i : Int) (tms f h i) = _
    rw [M70]
    dsimp only
    rw [dec_lt_nat, decide_eq_true hi, cond_true, netV_eq hf ha hi, w64_succ (by omega), tms_succ]
    unfold tm
    cases (oc f h i).Out with
    | true => simp
    | false =>
      simp only [some_bind, Bool.false_eq_true, if_false, cond_true, Option.toList_some]
      rw [app_ok (by simp; omega) (by simp; omega), some_bind]) (fun n l => by
    show M70 ⟨f, h⟩ (n + 1) ((nrun f : Nat) : Int) l = _
    rw [M70]
    simp) rfl
  replace h1 : M70 ⟨f, h⟩ (f.Runners.length + 1) 0 [] = some s := h1
  dsimp only
  rw [h1, h2]; rfl
theorem compareV_eq {f : TField} (hs : Small f) {h : THistory} {a b : Nat} (ha : a < nrun f) (hb : b < nrun f) (p q : Int) : ∃ r, M75 ⟨f, h⟩ ⟨(a : Int), p⟩ ⟨(b : Int), q⟩ = some r ∧ decide (r < 0) = front f a b (p - q) := by
  unfold M75 front
  obtain ⟨c, g3, g4⟩ := Compare_lt (keys f a) (keys f b) (keys_len hs ha)
  simp only [cmp_eq, some_bind, idx_lt ha, idx_lt hb, keys_get, g3, or2_eq]
  refine ⟨_, rfl, ?_⟩
  rw [← g4]
  by_cases h1 : p < q
  · have e : p - q < 0 := by omega
    simp [h1, e]
  · by_cases h2 : q < p
    · have e1 : ¬(p - q < 0) := by omega
      have e2 : ¬(p - q = 0) := by omega
      simp [h1, h2, e1, e2]
    · have e : p = q := by omega
      subst e
      simp
theorem histRank_L1 {f : TField} (hs : Small f) {h : THistory} {r : Nat} (hr : r < nrun f) : M76 (r : Int) ⟨f, h⟩ (net f h r) (tms f h (nrun f)) ((tms f h (nrun f)).length + 1) 0 0 = some (((tms f h (nrun f)).countP fun p => front f p.first.toNat r (p.second - net f h r) : Nat) : Int) := by
  have hlen : nrun f ≤ 1000000 := hs.runners
  have htl := tms_len f h (nrun f)
  have hmem : ∀ p, p ∈ tms f h (nrun f) → ∃ i, i < nrun f ∧ p = ⟨(i : Int), net f h i⟩ := fun p hp => by
    obtain ⟨i, h1, _, h2⟩ := tms_mem hp; exact ⟨i, h1, h2⟩
  generalize tms f h (nrun f) = l at htl hmem
  obtain ⟨s, h1, h2⟩ := inv_loop (N := l.length) (f := fun n i c => M76 (r : Int) ⟨f, h⟩ (net f h r) l n c (i : Int)) (k := some) (I := fun i c => c = (((l.take i).countP fun p => front f p.first.toNat r (p.second - net f h r) : Nat) : Int)) (s0 := 0) (fun i c hi hI => by
    refine ⟨_, rfl, fun n => ?_⟩
    show M76 (r : Int) ⟨f, h⟩ (net f h r) l (n + 1) c (i : Int) = _
    obtain ⟨k, hk, hkp⟩ := hmem _ (List.getElem_mem hi)
    obtain ⟨x, hx1, hx2⟩ := compareV_eq hs (h := h) hk hr (net f h k) (net f h r)
    have hle := List.countP_le_length (p := fun p : Thistory_pair_int_int => front f p.first.toNat r (p.second - net f h r)) (l := l.take i)
    have hle2 : (l.take i).length ≤ i := by simp; omega
    rw [M76, dec_lt_nat, decide_eq_true hi, cond_true, idx_lt hi, some_bind, hkp, hx1, some_bind, hx2, w64_succ (by omega), hI, List.take_succ_eq_append_getElem hi, List.countP_append, hkp]
    generalize (l.take i).countP _ = q at hle
    rw [w64_of (n := (q : Int) + 1) (by omega) (by omega)]
    simp only [List.countP_cons, List.countP_nil, Int.toNat_natCast]
    by_cases hb : front f k r (net f h k - net f h r) = true
    · simp [hb]
    · simp [hb]) (fun n c => by
    show M76 (r : Int) ⟨f, h⟩ (net f h r) l (n + 1) c ((l.length : Nat) : Int) = _
    rw [M76]; simp) (by simp)
  rw [h2, List.take_length] at h1
  exact h1
theorem count_tms {f : TField} {h : THistory} {r : Nat} (hxo : (oc f h r).Out = false) (n : Nat) : (tms f h n).countP (fun p => front f p.first.toNat r (p.second - net f h r)) = (List.range n).countP fun k => inFr f h k r := by
  induction n with
  | zero => rfl
  | succ n ih =>
    rw [tms_succ, List.countP_append, ih, List.range_succ, List.countP_append]
    congr 1
    unfold tm inFr
    cases hx : (oc f h n).Out with
    | true => simp [hx]
    | false => simp [hxo, hx, List.countP_cons]
theorem histOf_eq {f : TField} (hs : Small f) (h : THistory) (r : Int) : M68 f h r = chk (FieldOK f) (zview, 240) (chk (Adm f h) (⟨f, h⟩, 260) (chk (InR f r) (⟨f, h⟩, 250) (some (⟨f, h⟩, 0)))) := by
  unfold M68
  rw [open_eq hs]
  by_cases hf : FieldOK f
  · rw [chk_pos hf, chk_pos hf]
    by_cases ha : Adm f h
    · rw [chk_pos ha, chk_pos ha]
      simp only [some_bind, beq_self_eq_true, cond_true, bif_dec]
      unfold InR
      by_cases h1 : r < 0
      · rw [if_pos h1, chk_neg (by omega)]
      · rw [if_neg h1]
        by_cases h2 : r ≥ (f.Runners.length : Int)
        · rw [if_pos h2, chk_neg (by omega)]
        · rw [if_neg h2, chk_pos (by omega)]
    · rw [chk_neg ha, chk_neg ha]; rfl
  · rw [chk_neg hf, chk_neg hf]; rfl
theorem histRank_eq {f : TField} (hs : Small f) (h : THistory) (a : Int) : M77 f h a = chk (FieldOK f) (0, 240) (chk (Adm f h) (0, 260) (chk (InR f a) (0, 250) (some ((rank f h a.toNat : Int), 0)))) := by
  have hlen : nrun f ≤ 1000000 := hs.runners
  unfold M77
  rw [histOf_eq hs]
  by_cases hf : FieldOK f
  · rw [chk_pos hf, chk_pos hf]
    by_cases ha : Adm f h
    · rw [chk_pos ha, chk_pos ha]
      by_cases hr : InR f a
      · rw [chk_pos hr, chk_pos hr]
        obtain ⟨r, rfl, hr'⟩ := inR_nat hr
        simp only [some_bind, bne_self_eq_false, cond_false, netV_eq hf ha hr', Int.toNat_natCast]
        unfold rank
        cases hxo : (oc f h r).Out with
        | true => rfl
        | false =>
          have hc := count_le (N := nrun f) (p := fun k => inFr f h k r)
          simp only [Bool.false_eq_true, if_false, Bool.not_true, cond_false, times_eq hs hf ha, some_bind, fuel_sub, histRank_L1 hs hr', count_tms hxo]
          rw [w64_of (by omega) (by omega), Int.natCast_add, Int.add_comm]
          rfl
      · rw [chk_neg hr, chk_neg hr]; rfl
    · rw [chk_neg ha, chk_neg ha]; rfl
  · rw [chk_neg hf, chk_neg hf]; rfl
theorem histNet_eq {f : TField} (hs : Small f) (h : THistory) (a : Int) : M106 f h a = chk (FieldOK f) (0, false, 240) (chk (Adm f h) (0, false, 260) (chk (InR f a) (0, false, 250) (some (if (oc f h a.toNat).Out = true then (0, false, 0) else (net f h a.toNat, true, 0))))) := by
  unfold M106
  rw [histOf_eq hs]
  by_cases hf : FieldOK f
  · rw [chk_pos hf, chk_pos hf]
    by_cases ha : Adm f h
    · rw [chk_pos ha, chk_pos ha]
      by_cases hr : InR f a
      · rw [chk_pos hr, chk_pos hr]
        obtain ⟨r, rfl, hr'⟩ := inR_nat hr
        simp only [some_bind, bne_self_eq_false, cond_false, netV_eq hf ha hr', Int.toNat_natCast]
        split <;> rfl
      · rw [chk_neg hr, chk_neg hr]; rfl
    · rw [chk_neg ha, chk_neg ha]; rfl
  · rw [chk_neg hf, chk_neg hf]; rfl
def insRev {α : Type} (lt : α → α → Bool) (x : α) : List α → List α
  | [] => [x]
  | y :: ys => if lt x y = true then y :: insRev lt x ys else x :: y :: ys
def isort {α : Type} (lt : α → α → Bool) (l : List α) : List α := l.foldl (fun acc x => (insRev lt x acc.reverse).reverse) []
theorem insRev_mem {α : Type} {lt : α → α → Bool} {x z : α} : ∀ {l : List α}, z ∈ insRev lt x l ↔ z = x ∨ z ∈ l
  | [] => by simp [insRev]
  | y :: ys => by
    unfold insRev
    by_cases h : lt x y = true
    · rw [if_pos h, List.mem_cons, insRev_mem, List.mem_cons]
      exact ⟨fun h => by rcases h with h | h | h <;> simp [h], fun h => by rcases h with h | h | h <;> simp [h]⟩
    · rw [if_neg h]; simp
theorem insRev_perm {α : Type} {lt : α → α → Bool} {x : α} : ∀ {l : List α}, (insRev lt x l).Perm (x :: l)
  | [] => .refl _
  | y :: ys => by
    unfold insRev
    by_cases h : lt x y = true
    · rw [if_pos h]; exact (List.Perm.cons y insRev_perm).trans (.swap x y ys)
    · rw [if_neg h]
theorem insRev_sorted {α : Type} {lt : α → α → Bool} {r : α → α → Prop} {x : α} : ∀ {l : List α}, l.Pairwise (fun p q => r q p) → (∀ y, y ∈ l → lt x y = true → r x y) → (∀ y, y ∈ l → lt x y = false → r y x) → (∀ y z, y ∈ l → z ∈ l → r z y → r y x → r z x) → (insRev lt x l).Pairwise (fun p q => r q p)
  | [], _, _, _, _ => by simp [insRev]
  | y :: ys, hp, h1, h2, h3 => by
    unfold insRev
    obtain ⟨ha, hb⟩ := List.pairwise_cons.1 hp
    by_cases h : lt x y = true
    · rw [if_pos h]
      refine List.pairwise_cons.2 ⟨fun z hz => ?_, insRev_sorted hb (fun y hy => h1 y (by simp [hy])) (fun y hy => h2 y (by simp [hy])) (fun p q hp hq => h3 p q (by simp [hp]) (by simp [hq]))⟩
      rcases insRev_mem.1 hz with rfl | hz
      · exact h1 y (by simp) h
      · exact ha z hz
    · rw [if_neg h]
      have hyx := h2 y (by simp) (by simpa using h)
      refine List.pairwise_cons.2 ⟨fun z hz => ?_, hp⟩
      rcases List.mem_cons.1 hz with rfl | hz
      · exact hyx
      · exact h3 y z (by simp) (by simp [hz]) (ha z hz) hyx
theorem isort_aux {α : Type} {lt : α → α → Bool} : ∀ {l acc : List α}, (l.foldl (fun acc x => (insRev lt x acc.reverse).reverse) acc).Perm (acc ++ l)
  | [], acc => by simp
  | x :: l, acc => by
    simp only [List.foldl_cons]
    refine isort_aux.trans ?_
    have h : ((insRev lt x acc.reverse).reverse).Perm (acc ++ [x]) := by
      refine (List.reverse_perm _).trans (insRev_perm.trans ?_)
      refine (List.Perm.cons x (List.reverse_perm acc)).trans ?_
      exact List.perm_append_comm (l₁ := [x])
    refine (h.append_right l).trans ?_
    simp
theorem isort_perm {α : Type} {lt : α → α → Bool} {l : List α} : (isort lt l).Perm l := by
  unfold isort; simpa using isort_aux (lt := lt) (l := l) (acc := [])
theorem isort_len {α : Type} {lt : α → α → Bool} {l : List α} : (isort lt l).length = l.length := isort_perm.length_eq
theorem isort_mem {α : Type} {lt : α → α → Bool} {l : List α} {z : α} : z ∈ isort lt l ↔ z ∈ l := isort_perm.mem_iff
theorem isort_sorted_aux {α : Type} {lt : α → α → Bool} {r e : α → α → Prop} : ∀ {l acc : List α}, (acc ++ l).Pairwise e → acc.Pairwise r → (∀ x y, x ∈ acc ++ l → y ∈ acc ++ l → lt x y = true → r x y) → (∀ x y, x ∈ acc ++ l → y ∈ acc ++ l → lt x y = false → e y x → r y x) → (∀ x y z, x ∈ acc ++ l → y ∈ acc ++ l → z ∈ acc ++ l → r x y → r y z → r x z) →
    (l.foldl (fun acc x => (insRev lt x acc.reverse).reverse) acc).Pairwise r ∧ True
  | [], acc, _, hr, _, _, _ => ⟨hr, trivial⟩
  | x :: l, acc, he, hr, h1, h2, h3 => by
    simp only [List.foldl_cons]
    have hperm : ((insRev lt x acc.reverse).reverse).Perm (acc ++ [x]) := by
      refine (List.reverse_perm _).trans (insRev_perm.trans ?_)
      refine (List.Perm.cons x (List.reverse_perm acc)).trans ?_
      exact List.perm_append_comm (l₁ := [x])
    have hm : ∀ z, z ∈ (insRev lt x acc.reverse).reverse ++ l → z ∈ acc ++ x :: l := fun z hz => by
      rcases List.mem_append.1 hz with hz | hz
      · have := hperm.mem_iff.1 hz
        rcases List.mem_append.1 this with hz | hz
        · simp [hz]
        · simp at hz; simp [hz]
      · simp [hz]
    have hex : ∀ y, y ∈ acc → e y x := fun y hy => (List.pairwise_append.1 he).2.2 y hy x (by simp)
    have hsort : ((insRev lt x acc.reverse).reverse).Pairwise r := by
      rw [List.pairwise_reverse]
      refine insRev_sorted (List.pairwise_reverse.2 hr) (fun y hy => h1 x y (by simp) (by simp at hy; simp [hy])) (fun y hy h => h2 x y (by simp) (by simp at hy; simp [hy]) h (hex y (by simpa using hy))) (fun y z hy hz => h3 z y x (by simp at hz; simp [hz]) (by simp at hy; simp [hy]) (by simp))
    -- the order of the ones to come, against all
    have key : ∀ (l' acc' : List α), (∀ a, a ∈ acc' → ∀ b, b ∈ l' → e a b) → l'.Pairwise e → acc'.Pairwise r → (∀ x y, x ∈ acc' ++ l' → y ∈ acc' ++ l' → lt x y = true → r x y) → (∀ x y, x ∈ acc' ++ l' → y ∈ acc' ++ l' → lt x y = false → e y x → r y x) → (∀ x y z, x ∈ acc' ++ l' → y ∈ acc' ++ l' → z ∈ acc' ++ l' → r x y → r y z → r x z) → (l'.foldl (fun acc x => (insRev lt x acc.reverse).reverse) acc').Pairwise r := by
      intro l'
      induction l' with
      | nil => intro acc' _ _ h _ _ _; exact h
      | cons x l' ih =>
        intro acc' g0 g1 g2 g3 g4 g5
        simp only [List.foldl_cons]
        obtain ⟨g1a, g1b⟩ := List.pairwise_cons.1 g1
        have hperm' : ((insRev lt x acc'.reverse).reverse).Perm (acc' ++ [x]) := by
          refine (List.reverse_perm _).trans (insRev_perm.trans ?_)
          refine (List.Perm.cons x (List.reverse_perm acc')).trans ?_
          exact List.perm_append_comm (l₁ := [x])
        have hm' : ∀ z, z ∈ (insRev lt x acc'.reverse).reverse ++ l' → z ∈ acc' ++ x :: l' := fun z hz => by
          rcases List.mem_append.1 hz with hz | hz
          · have := hperm'.mem_iff.1 hz
            rcases List.mem_append.1 this with hz | hz
            · simp [hz]
            · simp at hz; simp [hz]
          · simp [hz]
        refine ih _ (fun a ha b hb => ?_) g1b ?_ (fun p q hp hq => g3 p q (hm' p hp) (hm' q hq)) (fun p q hp hq => g4 p q (hm' p hp) (hm' q hq)) (fun p q s hp hq hs => g5 p q s (hm' p hp) (hm' q hq) (hm' s hs))
        · have := hperm'.mem_iff.1 ha
          rcases List.mem_append.1 this with ha | ha
          · exact g0 a ha b (by simp [hb])
          · simp at ha; subst ha; exact g1a b hb
        · rw [List.pairwise_reverse]
          exact insRev_sorted (List.pairwise_reverse.2 g2) (fun y hy => g3 x y (by simp) (by simp at hy; simp [hy])) (fun y hy h => g4 x y (by simp) (by simp at hy; simp [hy]) h (g0 y (by simpa using hy) x (by simp))) (fun y z hy hz => g5 z y x (by simp at hz; simp [hz]) (by simp at hy; simp [hy]) (by simp))
    obtain ⟨_, he2, he3⟩ := List.pairwise_append.1 he
    obtain ⟨he4, he5⟩ := List.pairwise_cons.1 he2
    refine ⟨key l _ (fun a ha b hb => ?_) he5 hsort (fun p q hp hq => h1 p q (hm p hp) (hm q hq)) (fun p q hp hq => h2 p q (hm p hp) (hm q hq)) (fun p q s hp hq hs => h3 p q s (hm p hp) (hm q hq) (hm s hs)), trivial⟩
    have := hperm.mem_iff.1 ha
    rcases List.mem_append.1 this with ha | ha
    · exact he3 a ha b (by simp [hb])
    · simp at ha; subst ha; exact he4 b hb
theorem isort_sorted {α : Type} {lt : α → α → Bool} {r e : α → α → Prop} {l : List α} (he : l.Pairwise e) (h1 : ∀ x y, x ∈ l → y ∈ l → lt x y = true → r x y) (h2 : ∀ x y, x ∈ l → y ∈ l → lt x y = false → e y x → r y x) (h3 : ∀ x y z, x ∈ l → y ∈ l → z ∈ l → r x y → r y z → r x z) : (isort lt l).Pairwise r :=
  (isort_sorted_aux (acc := []) (by simpa using he) .nil (by simpa using h1) (by simpa using h2) (by simpa using h3)).1
theorem swap_at {α : Type} {pre post : List α} {x y : α} {n : Nat} (h : n = pre.length) : List.set (List.set (pre ++ y :: x :: post) (n + 1) y) n x = pre ++ x :: y :: post := by
  subst h
  have h1 : (pre ++ y :: x :: post).set (pre.length + 1) y = pre ++ y :: y :: post := by
    rw [List.set_append, if_neg (by omega)]
    have : pre.length + 1 - pre.length = 1 := by omega
    rw [this]; rfl
  rw [h1, List.set_append, if_neg (by omega), Nat.sub_self]
  rfl
theorem take_isort {α : Type} {lt : α → α → Bool} {l : List α} {i : Nat} (hi : i < l.length) : isort lt (l.take (i + 1)) = (insRev lt l[i] (isort lt (l.take i)).reverse).reverse := by
  unfold isort
  rw [List.take_succ_eq_append_getElem hi, List.foldl_append]
  rfl
def PrOK (f : TField) (p : Thistory_pair_int_int) : Prop := ∃ i : Nat, i < nrun f ∧ p.first = (i : Int)
def ltP (f : TField) (p q : Thistory_pair_int_int) : Bool := front f p.first.toNat q.first.toNat (p.second - q.second)
theorem compareP_eq {f : TField} (hs : Small f) {h : THistory} {p q : Thistory_pair_int_int} (hp : PrOK f p) (hq : PrOK f q) : ∃ r, M75 ⟨f, h⟩ p q = some r ∧ decide (r < 0) = ltP f p q := by
  obtain ⟨i, hi, e1⟩ := hp
  obtain ⟨j, hj, e2⟩ := hq
  obtain ⟨a, b⟩ := p
  obtain ⟨c, d⟩ := q
  dsimp only at e1 e2
  subst e1 e2
  obtain ⟨r, h1, h2⟩ := compareV_eq hs (h := h) hi hj b d
  exact ⟨r, h1, by rw [h2]; unfold ltP; simp⟩
theorem insert_L2 {f : TField} (hs : Small f) {h : THistory} {x : Thistory_pair_int_int} (hx : PrOK f x) : ∀ (R post : List Thistory_pair_int_int) (n : Nat), (∀ p, p ∈ R → PrOK f p) → R.length ≤ n → R.length < 1000000 →
    M78 0 ⟨f, h⟩ (n + 1) (R.length : Int) (R.reverse ++ x :: post) = some ((insRev (ltP f) x R).reverse ++ post)
  | [], post, n, _, _, _ => by
    rw [M78]
    simp [insRev]
  | y :: ys, post, n, hR, hn, hb => by
    obtain ⟨n, rfl⟩ : ∃ n', n = n' + 1 := ⟨n - 1, by simp at hn; omega⟩
    have hl : (y :: ys).length = ys.length + 1 := rfl
    have e0 : (y :: ys).reverse ++ x :: post = ys.reverse ++ y :: x :: post := by simp
    have e1 : w64 (((y :: ys).length : Int) - 1) = (ys.length : Int) := by rw [hl, w64_of (by omega) (by omega)]; omega
    have g1 : idx (ys.reverse ++ y :: x :: post) ((ys.length + 1 : Nat) : Int) = some x := by
      rw [idx_nat, List.getElem?_append_right (by simp)]; simp
    have g2 : idx (ys.reverse ++ y :: x :: post) (ys.length : Int) = some y := by
      rw [idx_nat, List.getElem?_append_right (by simp)]; simp
    obtain ⟨r, c1, c2⟩ := compareP_eq hs (h := h) hx (hR y (by simp))
    rw [M78, e1, hl]
    have e2 : decide (((ys.length + 1 : Nat) : Int) > 0) = true := decide_eq_true (by omega)
    rw [e2, cond_true, e0, g1, some_bind, g2, some_bind, c1, some_bind, c2]
    unfold insRev
    by_cases hlt : ltP f x y = true
    · rw [hlt, cond_true, if_pos rfl, some_bind, some_bind, some_bind]
      have e3 : Int.toNat ((ys.length + 1 : Nat) : Int) = ys.length + 1 := Int.toNat_natCast _
      have e4 : Int.toNat (ys.length : Int) = ys.length := Int.toNat_natCast _
      have g3 : ∃ z, idx (List.set (ys.reverse ++ y :: x :: post) (ys.length + 1) y) (ys.length : Int) = some z := by
        have : ys.length < (List.set (ys.reverse ++ y :: x :: post) (ys.length + 1) y).length := by simp
        exact ⟨_, idx_lt this⟩
      obtain ⟨z, g3⟩ := g3
      rw [e3, g3, some_bind, e4, swap_at (by simp), insert_L2 hs hx ys (y :: post) n (fun p hp => hR p (by simp [hp])) (by simp at hn; omega) (by simp at hb; omega)]
      simp
    · have hlt' : ltP f x y = false := by simpa using hlt
      rw [hlt', cond_false, if_neg (by decide)]
      simp
theorem sort_eq {f : TField} (hs : Small f) {h : THistory} {l : List Thistory_pair_int_int} (hl : ∀ p, p ∈ l → PrOK f p) (hn : l.length < 20) :
    M85 ⟨f, h⟩ l = some (isort (ltP f) l) := by
  have hins : M80 0 (l.length : Int) ⟨f, h⟩ l = some (isort (ltP f) l) := by
    unfold M80
    have e1 : w64 ((0 : Int) + 1) = 1 := rfl
    rw [e1]
    have key : ∀ c i n, i + c = l.length → c ≤ n → 1 ≤ i → M79 0 (l.length : Int) ⟨f, h⟩ (n + 1) (i : Int) (isort (ltP f) (l.take i) ++ l.drop i) = some (isort (ltP f) l) := by
      intro c
      induction c with
      | zero =>
        intro i n hic _ _
        have : i = l.length := by omega
        subst this
        rw [M79, dec_lt_nat, decide_eq_false (by omega), cond_false, List.take_length, List.drop_length, List.append_nil]
      | succ c ih =>
        intro i n hic hn' h1
        obtain ⟨n, rfl⟩ : ∃ n', n = n' + 1 := ⟨n - 1, by omega⟩
        have hi : i < l.length := by omega
        have hlen : (isort (ltP f) (l.take i)).reverse.length = i := by simp [isort_len]; omega
        have hL := insert_L2 hs (h := h) (hl _ (List.getElem_mem hi)) (isort (ltP f) (l.take i)).reverse (l.drop (i + 1)) i (fun p hp => hl p (by
          have : p ∈ l.take i := isort_mem.1 (by simpa using hp)
          exact List.mem_of_mem_take this)) (by omega) (by omega)
        rw [hlen, List.reverse_reverse, ← List.drop_eq_getElem_cons hi] at hL
        have e2 : ((i : Int) - 0).toNat + 1 = i + 1 := by omega
        rw [M79, dec_lt_nat, decide_eq_true hi, cond_true, e2, hL, some_bind, w64_succ (by omega), ← take_isort hi]
        exact ih (i + 1) n (by omega) (by omega) (by omega)
    by_cases h0 : l.length = 0
    · have : l = [] := List.length_eq_zero_iff.1 h0
      subst this
      rfl
    · have e3 : ((l.length : Int) - 1).toNat + 1 = (l.length - 1) + 1 := by omega
      have h4 := key (l.length - 1) 1 (l.length - 1) (by omega) (by omega) (by omega)
      have e4 : isort (ltP f) (l.take 1) ++ l.drop 1 = l := by
        cases l with
        | nil => rfl
        | cons a t => rfl
      rw [e4] at h4
      rw [e3]
      show Option.bind (M79 0 (l.length : Int) ⟨f, h⟩ (l.length - 1 + 1) ((1 : Nat) : Int) l) _ = _
      rw [h4]; rfl
  unfold M85 M84
  have hL1 : ∀ n, M81 (l.length : Int) ⟨f, h⟩ (n + 1) 0 20 l = some (0, l) := fun n => by
    rw [M81]
    have : decide ((20 : Int) ≤ (l.length : Int)) = false := by simp; omega
    rw [this]; rfl
  have hL2 : ∀ n, M83 (l.length : Int) (n + 1) = some () := fun n => by
    rw [M83]
    have : decide ((20 : Int) < (l.length : Int)) = false := by simp; omega
    rw [this]; rfl
  have hlen : lenIs (isort (ltP f) l) l = some () := by unfold lenIs; rw [if_pos isort_len]
  rw [hL1]
  simp only [some_bind]
  rw [hins, some_bind, hlen, some_bind, hL2]
  simp only [some_bind]
  rw [hlen]; rfl
def befN (f : TField) (h : THistory) (a b : Nat) : Prop := inFr f h a b = true ∨ (inFr f h b a = false ∧ a < b)
def IsOrd (f : TField) (h : THistory) (l : List Int) : Prop := ∃ s : List Nat, l = s.map (fun i : Nat => (i : Int)) ∧ s.Pairwise (befN f h) ∧ ∀ i, i ∈ s ↔ i < nrun f ∧ (oc f h i).Out = false
theorem inFr_iff {f : TField} {h : THistory} {a b : Nat} (ha : (oc f h a).Out = false) (hb : (oc f h b).Out = false) : inFr f h a b = true ↔ net f h a < net f h b ∨ (net f h a = net f h b ∧ kLt (keys f a) (keys f b) = true) := by
  unfold inFr front
  rw [ha, hb]
  simp only [Bool.not_false, Bool.true_and, Bool.false_or, Bool.or_eq_true, Bool.and_eq_true, decide_eq_true_eq]
  constructor
  · rintro (h | ⟨h, hk⟩)
    · left; omega
    · right; exact ⟨by omega, hk⟩
  · rintro (h | ⟨h, hk⟩)
    · left; omega
    · right; exact ⟨by omega, hk⟩
theorem befN_iff {f : TField} {h : THistory} {a b : Nat} (ha : (oc f h a).Out = false) (hb : (oc f h b).Out = false) : befN f h a b ↔ net f h a < net f h b ∨ (net f h a = net f h b ∧ (kLt (keys f a) (keys f b) = true ∨ (keys f a = keys f b ∧ a < b))) := by
  unfold befN
  rw [inFr_iff ha hb, ← Bool.not_eq_true, inFr_iff hb ha]
  constructor
  · rintro ((h1 | ⟨h1, h2⟩) | ⟨h1, h2⟩)
    · exact .inl h1
    · exact .inr ⟨h1, .inl h2⟩
    · by_cases h3 : net f h a < net f h b
      · exact .inl h3
      · have h4 : net f h a = net f h b := by
          by_cases h5 : net f h b < net f h a
          · exact absurd (.inl h5) h1
          · omega
        refine .inr ⟨h4, ?_⟩
        cases h5 : kLt (keys f a) (keys f b) with
        | true => exact .inl rfl
        | false =>
          have h6 : kLt (keys f b) (keys f a) = false := by
            rw [← Bool.not_eq_true]; intro h7; exact h1 (.inr ⟨h4.symm, h7⟩)
          exact .inr ⟨kLt_total h5 h6, h2⟩
  · rintro (h1 | ⟨h1, h2 | ⟨h2, h3⟩⟩)
    · exact .inl (.inl h1)
    · exact .inl (.inr ⟨h1, h2⟩)
    · refine .inr ⟨?_, h3⟩
      rintro (h4 | ⟨_, h4⟩)
      · omega
      · rw [h2, kLt_irrefl] at h4; cases h4
theorem befN_trans {f : TField} {h : THistory} {a b c : Nat} (ha : (oc f h a).Out = false) (hb : (oc f h b).Out = false) (hc : (oc f h c).Out = false) (h1 : befN f h a b) (h2 : befN f h b c) : befN f h a c := by
  rw [befN_iff ha hb] at h1
  rw [befN_iff hb hc] at h2
  rw [befN_iff ha hc]
  rcases h1 with h1 | ⟨h1, h3⟩
  · rcases h2 with h2 | ⟨h2, _⟩
    · left; omega
    · left; omega
  · rcases h2 with h2 | ⟨h2, h4⟩
    · left; omega
    · refine .inr ⟨by omega, ?_⟩
      rcases h3 with h3 | ⟨h3, h5⟩
      · rcases h4 with h4 | ⟨h4, _⟩
        · exact .inl (kLt_trans h3 h4)
        · exact .inl (h4 ▸ h3)
      · rcases h4 with h4 | ⟨h4, h6⟩
        · exact .inl (h3 ▸ h4)
        · exact .inr ⟨h3.trans h4, by omega⟩
theorem befN_irrefl {f : TField} {h : THistory} {a : Nat} (ha : (oc f h a).Out = false) : ¬befN f h a a := by
  rw [befN_iff ha ha]
  rintro (h1 | ⟨_, h2 | ⟨_, h2⟩⟩)
  · omega
  · rw [kLt_irrefl] at h2; cases h2
  · omega
theorem orderL1_eq {f : TField} (hs : Small f) (hf : FieldOK f) {h : THistory} (ha : Adm f h) : M86 ⟨f, h⟩ (nrun f + 1) 0 [] = some (tms f h (nrun f)) := by
  have hlen : nrun f ≤ 1000000 := hs.runners
  obtain ⟨s, h1, h2⟩ := inv_loop (N := nrun f) (f := fun n i l => M86 ⟨f, h⟩ n (i : Int) l) (k := some) (I := fun i l => l = tms f h i) (s0 := []) (fun i l hi hI => by
    refine ⟨_, rfl, fun n => ?_⟩
    subst hI
    have hl := tms_len f h i
    show M86 ⟨f, h⟩ (n + 1) (i : Int) (tms f h i) = _
    rw [M86]
    dsimp only
    rw [dec_lt_nat, decide_eq_true hi, cond_true, netV_eq hf ha hi, w64_succ (by omega), tms_succ]
    unfold tm
    cases (oc f h i).Out with
    | true => simp
    | false =>
      simp only [some_bind, Bool.false_eq_true, if_false, cond_true, Option.toList_some]
      rw [app_ok (by simp; omega) (by simp; omega), some_bind]) (fun n l => by
    show M86 ⟨f, h⟩ (n + 1) ((nrun f : Nat) : Int) l = _
    rw [M86]
    simp) rfl
  replace h1 : M86 ⟨f, h⟩ (nrun f + 1) 0 [] = some s := h1
  rw [h1, h2]
theorem orderL2_eq {l : List Thistory_pair_int_int} (hl : l.length ≤ 1000000) : M87 l (l.length + 1) 0 [] = some (l.map (·.first)) := by
  refine map_loop (b := 8) (l := l) (f := fun n i s => M87 l n (i : Int) s) (g := (·.first)) (k := some) (by omega) (by omega) (fun n i hi s => ?_) (fun n s => ?_)
  · show M87 l (n + 1) (i : Int) s = _
    rw [M87, dec_lt_nat, decide_eq_true hi, cond_true, idx_lt hi, some_bind, w64_succ (by omega)]
  · show M87 l (n + 1) ((l.length : Nat) : Int) s = _
    rw [M87]; simp
def ordL (f : TField) (h : THistory) : List Int := (isort (ltP f) (tms f h (nrun f))).map (·.first)
theorem Order_eq {f : TField} (hs : Small f) (hn : nrun f < 20) (h : THistory) : M88 f h = chk (FieldOK f) ([], 240) (chk (Adm f h) ([], 260) (some (ordL f h, 0))) := by
  unfold M88
  rw [open_eq hs]
  by_cases hf : FieldOK f
  · rw [chk_pos hf, chk_pos hf]
    by_cases ha : Adm f h
    · rw [chk_pos ha, chk_pos ha]
      have hl := tms_len f h (nrun f)
      simp only [some_bind, bne_self_eq_false, cond_false, fuel_sub]
      rw [orderL1_eq hs hf ha, some_bind, sort_eq hs (fun p hp => by obtain ⟨i, h1, _, rfl⟩ := tms_mem hp; exact ⟨i, h1, rfl⟩) (by omega), some_bind]
      have e : lenIs (isort (ltP f) (tms f h (nrun f))) (tms f h (nrun f)) = some () := by unfold lenIs; rw [if_pos isort_len]
      rw [e, some_bind, orderL2_eq (by rw [isort_len]; omega)]
      rfl
    · rw [chk_neg ha, chk_neg ha]; rfl
  · rw [chk_neg hf, chk_neg hf]; rfl
theorem inFr_front {f : TField} {h : THistory} {a b : Nat} (ha : (oc f h a).Out = false) (hb : (oc f h b).Out = false) : inFr f h a b = front f a b (net f h a - net f h b) := by
  unfold inFr; rw [ha, hb]; rfl
theorem tms_pw (f : TField) (h : THistory) (n : Nat) : (tms f h n).Pairwise fun p q => p.first.toNat < q.first.toNat := by
  unfold tms
  refine List.Pairwise.filterMap (R := fun a b => a < b) _ ?_ List.pairwise_lt_range
  intro a b hab p hp q hq
  unfold tm at hp hq
  split at hp
  · cases hp
  · split at hq
    · cases hq
    · cases hp; cases hq; simpa using hab
theorem ordL_ord {f : TField} {h : THistory} : IsOrd f h (ordL f h) := by
  refine ⟨(isort (ltP f) (tms f h (nrun f))).map (fun p => p.first.toNat), ?_, ?_, ?_⟩
  · unfold ordL
    rw [List.map_map]
    refine List.map_congr_left fun p hp => ?_
    obtain ⟨i, _, _, rfl⟩ := tms_mem (isort_mem.1 hp)
    simp
  · rw [List.pairwise_map]
    refine isort_sorted (e := fun p q => p.first.toNat < q.first.toNat) (tms_pw f h (nrun f)) ?_ ?_ ?_
    · intro x y hx hy hlt
      obtain ⟨i, _, oi, rfl⟩ := tms_mem hx
      obtain ⟨j, _, oj, rfl⟩ := tms_mem hy
      refine .inl ?_
      unfold ltP at hlt
      dsimp only [Int.toNat_natCast] at hlt ⊢
      rw [inFr_front oi oj]; exact hlt
    · intro x y hx hy hlt hji
      obtain ⟨i, _, oi, rfl⟩ := tms_mem hx
      obtain ⟨j, _, oj, rfl⟩ := tms_mem hy
      refine .inr ⟨?_, hji⟩
      unfold ltP at hlt
      dsimp only [Int.toNat_natCast] at hlt ⊢
      rw [inFr_front oi oj]; exact hlt
    · intro x y z hx hy hz h1 h2
      obtain ⟨i, _, oi, rfl⟩ := tms_mem hx
      obtain ⟨j, _, oj, rfl⟩ := tms_mem hy
      obtain ⟨k, _, ok, rfl⟩ := tms_mem hz
      exact befN_trans oi oj ok h1 h2
  · intro i
    rw [List.mem_map]
    constructor
    · rintro ⟨p, hp, rfl⟩
      obtain ⟨i, h1, h2, rfl⟩ := tms_mem (isort_mem.1 hp)
      exact ⟨h1, h2⟩
    · rintro ⟨h1, h2⟩
      refine ⟨⟨(i : Int), net f h i⟩, isort_mem.2 ?_, Int.toNat_natCast i⟩
      unfold tms
      refine List.mem_filterMap.2 ⟨i, by simpa using h1, ?_⟩
      unfold tm; rw [h2]; rfl
theorem inFr_in {f : TField} {h : THistory} {a b : Nat} (h1 : inFr f h a b = true) : (oc f h a).Out = false := by
  unfold inFr at h1
  cases hx : (oc f h a).Out with
  | true => rw [hx] at h1; simp at h1
  | false => rfl
theorem rank_eq_of {f : TField} {h : THistory} {a b : Nat} (ha : (oc f h a).Out = false) (hb : (oc f h b).Out = false) (h1 : inFr f h a b = false) (h2 : inFr f h b a = false) : rank f h a = rank f h b := by
  rw [← Bool.not_eq_true, inFr_iff ha hb] at h1
  rw [← Bool.not_eq_true, inFr_iff hb ha] at h2
  have e1 : net f h a = net f h b := by
    by_cases h3 : net f h a < net f h b
    · exact absurd (.inl h3) h1
    · by_cases h4 : net f h b < net f h a
      · exact absurd (.inl h4) h2
      · omega
  have e2 : keys f a = keys f b := by
    refine kLt_total ?_ ?_
    · rw [← Bool.not_eq_true]; intro h5; exact h1 (.inr ⟨e1, h5⟩)
    · rw [← Bool.not_eq_true]; intro h5; exact h2 (.inr ⟨e1.symm, h5⟩)
  unfold rank
  rw [ha, hb]
  simp only [Bool.false_eq_true, if_false]
  congr 1
  refine countP_eq_of fun k _ => ?_
  unfold inFr front
  rw [ha, hb, e1, e2]
theorem ordL_len (f : TField) (h : THistory) : (ordL f h).length ≤ nrun f := by
  unfold ordL
  rw [List.length_map, isort_len]; exact tms_len f h _
theorem mapGet_put {α β : Type} [DecidableEq α] : ∀ (l : List (α × β)) (k k' : α) (v z : β), mapGet (mapPut l k v) k' z = if k' = k then v else mapGet l k' z
  | [], k, k', v, z => by
    show (bif decide (k' = k) then v else z) = _
    by_cases h : k' = k
    · rw [decide_eq_true h, cond_true, if_pos h]
    · rw [decide_eq_false h, cond_false, if_neg h]; rfl
  | p :: r, k, k', v, z => by
    rw [mapPut]
    by_cases h : k = p.1
    · rw [decide_eq_true h, cond_true, mapGet, mapGet]
      by_cases h' : k' = k
      · rw [decide_eq_true h', cond_true, if_pos h']
      · rw [decide_eq_false h', cond_false, if_neg h', ← h, decide_eq_false h', cond_false]
    · rw [decide_eq_false h, cond_false, mapGet, mapGet, mapGet_put r k k' v z]
      by_cases h' : k' = p.1
      · rw [decide_eq_true h', cond_true, cond_true, if_neg]
        intro e; exact h (e.symm.trans h')
      · rw [decide_eq_false h', cond_false, cond_false]
theorem befN_net {f : TField} {h : THistory} {a b : Nat} (ha : (oc f h a).Out = false) (hb : (oc f h b).Out = false) (hx : befN f h a b) : net f h a ≤ net f h b := by
  rw [befN_iff ha hb] at hx
  rcases hx with h1 | ⟨h1, _⟩ <;> omega
theorem befN_inFr {f : TField} {h : THistory} {a b c : Nat} (ha : (oc f h a).Out = false) (hb : (oc f h b).Out = false) (hc : (oc f h c).Out = false) (h1 : befN f h a b) (h2 : inFr f h b c = true) : inFr f h a c = true := by
  rw [befN_iff ha hb] at h1
  rw [inFr_iff hb hc] at h2
  rw [inFr_iff ha hc]
  rcases h1 with h1 | ⟨h1, h3⟩
  · rcases h2 with h2 | ⟨h2, _⟩ <;> (left; omega)
  · rcases h2 with h2 | ⟨h2, h4⟩
    · left; omega
    · refine .inr ⟨by omega, ?_⟩
      rcases h3 with h3 | ⟨h3, _⟩
      · exact kLt_trans h3 h4
      · rw [h3]; exact h4
theorem sorted_get {f : TField} {h : THistory} {s : List Nat} (hp : s.Pairwise (befN f h)) {i j : Nat} (hij : i < j) (hj : j < s.length) : befN f h (s[i]'(by omega)) s[j] :=
  List.pairwise_iff_getElem.1 hp i j (by omega) hj hij
theorem rank_at {f : TField} {h : THistory} {s : List Nat} (hp : s.Pairwise (befN f h)) (hm : ∀ i, i ∈ s ↔ i < nrun f ∧ (oc f h i).Out = false) {i : Nat} (hi : i < s.length) :
    rank f h s[i] = i + 1 ∨ ∃ _ : 0 < i, rank f h s[i] = rank f h (s[i - 1]'(by omega)) := by
  have hout : ∀ j (hj : j < s.length), (oc f h s[j]).Out = false := fun j hj => ((hm _).1 (List.getElem_mem hj)).2
  have hasym : ∀ a b, (oc f h a).Out = false → (oc f h b).Out = false → befN f h a b → befN f h b a → False := fun a b ha hb h1 h2 => befN_irrefl ha (befN_trans ha hb ha h1 h2)
  have hbefore : ∀ k, k < nrun f → inFr f h k s[i] = true → ∃ j, ∃ hj : j < i, k = s[j]'(by omega) := by
    intro k hkn hk
    have hko := inFr_in hk
    obtain ⟨j, hj, rfl⟩ := List.getElem_of_mem ((hm k).2 ⟨hkn, hko⟩)
    rcases Nat.lt_trichotomy j i with hlt | heq | hgt
    · exact ⟨j, hlt, rfl⟩
    · subst heq
      rw [inFr_self hko] at hk; cases hk
    · exact (hasym _ _ (hout i hi) hko (sorted_get hp hgt hj) (.inl hk)).elim
  have hnd : s.Nodup := by
    refine List.Pairwise.imp_of_mem ?_ hp
    intro a b ha _ hab e
    subst e
    exact befN_irrefl ((hm a).1 ha).2 hab
  have hcnt : (∀ j (hj : j < i), inFr f h (s[j]'(by omega)) s[i] = true) → (List.range (nrun f)).countP (fun k => inFr f h k s[i]) = i := by
    intro hall
    rw [List.countP_eq_length_filter]
    have hperm : ((List.range (nrun f)).filter fun k => inFr f h k s[i]).Perm (s.take i) := by
      refine (List.perm_ext_iff_of_nodup (List.nodup_range.filter _) (hnd.sublist (List.take_sublist i s))).2 fun k => ?_
      rw [List.mem_filter, List.mem_range, List.mem_take_iff_getElem]
      constructor
      · rintro ⟨h1, h2⟩
        obtain ⟨j, hj, rfl⟩ := hbefore k h1 h2
        exact ⟨j, by omega, rfl⟩
      · rintro ⟨j, hj, rfl⟩
        exact ⟨((hm _).1 (List.getElem_mem (by omega))).1, hall j (by omega)⟩
    rw [hperm.length_eq, List.length_take]
    omega
  have hrk : (∀ j (hj : j < i), inFr f h (s[j]'(by omega)) s[i] = true) → rank f h s[i] = i + 1 := by
    intro hall
    unfold rank
    rw [hout i hi, hcnt hall]
    simp only [Bool.false_eq_true, if_false]
    omega
  rcases Nat.eq_zero_or_pos i with h0 | h0
  · exact .inl (hrk fun j hj => by omega)
  · cases hx : inFr f h (s[i - 1]'(by omega)) s[i] with
    | true =>
      refine .inl (hrk fun j hj => ?_)
      rcases Nat.lt_or_ge j (i - 1) with hlt | hge
      · exact befN_inFr (hout j (by omega)) (hout (i - 1) (by omega)) (hout i hi) (sorted_get hp hlt (by omega)) hx
      · have : j = i - 1 := by omega
        subst this; exact hx
    | false =>
      refine .inr ⟨h0, (rank_eq_of (hout (i - 1) (by omega)) (hout i hi) hx ?_).symm⟩
      cases hy : inFr f h s[i] (s[i - 1]'(by omega)) with
      | false => rfl
      | true => exact (hasym _ _ (hout i hi) (hout (i - 1) (by omega)) (.inl hy) (sorted_get hp (by omega) hi)).elim
def SortInv (f : TField) (h : THistory) (s : List Nat) (i : Nat) (x : Int × Int × List (Int × Bool)) : Prop :=
  (∀ k : Nat, mapGet x.2.2 (k : Int) false = decide (k ∈ s.take i)) ∧ ∀ (h0 : 0 < i) (hi : i ≤ s.length), x.1 = (rank f h (s[i - 1]'(by omega)) : Int) ∧ x.2.1 = net f h (s[i - 1]'(by omega))
theorem sorted_L1 {f : TField} (hs : Small f) (hf : FieldOK f) {h : THistory} (ha : Adm f h) {s : List Nat} (hp : s.Pairwise (befN f h)) (hm : ∀ i, i ∈ s ↔ i < nrun f ∧ (oc f h i).Out = false) (hl : s.length ≤ 1000000) (kk : List (Int × Bool) → Option Bool) :
    ∃ x : Int × Int × List (Int × Bool), M107 f h (s.map fun i : Nat => (i : Int)) kk (s.length + 1) 0 0 0 [] = kk x.2.2 ∧ SortInv f h s s.length x := by
  have hout : ∀ j (hj : j < s.length), (oc f h s[j]).Out = false := fun j hj => ((hm _).1 (List.getElem_mem hj)).2
  have hnd : s.Nodup := by
    refine List.Pairwise.imp_of_mem ?_ hp
    intro a b ha _ hab e
    subst e
    exact befN_irrefl ((hm a).1 ha).2 hab
  refine inv_loop (σ := Int × Int × List (Int × Bool)) (N := s.length) (f := fun n i x => M107 f h (s.map fun i : Nat => (i : Int)) kk n x.1 x.2.1 (i : Int) x.2.2) (k := fun x => kk x.2.2) (I := SortInv f h s) (s0 := (0, 0, [])) ?_ ?_ ?_
  · intro i x hi hI
    obtain ⟨h1, h2⟩ := hI
    have hr := ((hm _).1 (List.getElem_mem hi)).1
    refine ⟨((rank f h s[i] : Nat), net f h s[i], mapPut x.2.2 (s[i] : Int) true), ⟨fun k => ?_, fun _ _ => ⟨rfl, rfl⟩⟩, fun n => ?_⟩
    · show mapGet (mapPut x.2.2 (s[i] : Int) true) (k : Int) false = _
      have et : s.take (i + 1) = s.take i ++ [s[i]] := List.take_succ_eq_append_getElem hi
      rw [mapGet_put, h1, et]
      by_cases hk : k = s[i]
      · rw [if_pos (by rw [hk])]
        exact (decide_eq_true (List.mem_append_right _ (List.mem_singleton.2 hk))).symm
      · rw [if_neg (by omega)]
        refine decide_eq_decide.2 ⟨fun hx => List.mem_append_left _ hx, fun hx => ?_⟩
        rcases List.mem_append.1 hx with hx | hx
        · exact hx
        · exact absurd (List.mem_singleton.1 hx) hk
    · have hnot : mapGet x.2.2 (s[i] : Int) false = false := by
        rw [h1, decide_eq_false]
        rw [List.mem_take_iff_getElem]
        rintro ⟨j, hj, e⟩
        have : j = i := (List.getElem_inj hnd).1 e
        omega
      show M107 f h (s.map fun i : Nat => (i : Int)) kk (n + 1) x.1 x.2.1 (i : Int) x.2.2 = _
      have hix : idx (s.map fun i : Nat => (i : Int)) (i : Int) = some (s[i] : Int) := by rw [idx_lt (by simpa using hi)]; simp
      have hin : InR f (s[i] : Int) := ⟨by omega, by unfold nrun at hr; omega⟩
      rw [M107, List.length_map, dec_lt_nat, decide_eq_true hi, cond_true, hix]
      simp only [some_bind]
      rw [histRank_eq hs, histNet_eq hs, chk_pos hf, chk_pos hf, chk_pos ha, chk_pos ha, chk_pos hin, chk_pos hin, Int.toNat_natCast, hout i hi]
      simp only [some_bind, Bool.false_eq_true, if_false, bne_self_eq_false, cond_false, Bool.not_true, hnot]
      rw [w64_succ (by omega)]
      have hge : 0 < i → decide (net f h s[i] < x.2.1) = false := by
        intro h0
        rw [(h2 h0 (by omega)).2, decide_eq_false]
        have := befN_net (hout (i - 1) (by omega)) (hout i hi) (sorted_get hp (by omega) hi)
        omega
      have hlast : (bif decide ((i : Int) > 0) then some (decide (net f h s[i] < x.2.1)) else some false) = some false := by
        by_cases h0 : 0 < i
        · rw [decide_eq_true (by omega), cond_true, hge h0]
        · rw [decide_eq_false (by omega), cond_false]
      rw [hlast]
      have hinner : (bif ((rank f h s[i] : Nat) : Int) != ((i + 1 : Nat) : Int) then
           bif (i : Int) == 0 then some true else
           bif ((rank f h s[i] : Nat) : Int) != x.1 then some true else some false
          else some false) = some false := by
        rcases rank_at hp hm hi with e | ⟨h0, e⟩
        · rw [e]; simp
        · rw [(h2 h0 (by omega)).1, ← e]
          have : ((i : Int) == 0) = false := by simp; omega
          rw [this]
          cases ((rank f h s[i] : Nat) : Int) != ((i + 1 : Nat) : Int) <;> simp
      rw [hinner]
      rfl
  · intro n x
    show M107 f h (s.map fun i : Nat => (i : Int)) kk (n + 1) x.1 x.2.1 ((s.length : Nat) : Int) x.2.2 = _
    rw [M107, List.length_map]; simp
  · exact ⟨fun k => by simp [mapGet], fun h0 _ => absurd h0 (by omega)⟩
theorem sorted_L2 {f : TField} (hs : Small f) (hn : nrun f ≤ 1000000) (hf : FieldOK f) {h : THistory} (ha : Adm f h) {s : List Nat} (hm : ∀ i, i ∈ s ↔ i < nrun f ∧ (oc f h i).Out = false) {m : List (Int × Bool)} (hg : ∀ k : Nat, mapGet m (k : Int) false = decide (k ∈ s)) (kk : Unit → Option Bool) :
    M108 f h m kk (nrun f + 1) 0 = kk () := by
  obtain ⟨_, h1, _⟩ := inv_loop (σ := Unit) (N := nrun f) (f := fun n i _ => M108 f h m kk n (i : Int)) (k := fun _ => kk ()) (I := fun _ _ => True) (s0 := ()) (fun i _ hi _ => ⟨(), trivial, fun n => by
    show M108 f h m kk (n + 1) (i : Int) = _
    have hin : InR f (i : Int) := ⟨by omega, by unfold nrun at hi; omega⟩
    have e : decide ((i : Int) < (((f.Runners).length : Int))) = true := by rw [decide_eq_true]; unfold nrun at hi; omega
    rw [M108, e, cond_true]
    rw [histRank_eq hs, histNet_eq hs, chk_pos hf, chk_pos hf, chk_pos ha, chk_pos ha, chk_pos hin, chk_pos hin, Int.toNat_natCast, hg]
    simp only [some_bind]
    have hrk : decide (((rank f h i : Nat) : Int) > 0) = !(oc f h i).Out := by
      cases hx : (oc f h i).Out with
      | true => rw [rank_zero.2 hx]; rfl
      | false =>
        have : rank f h i ≠ 0 := fun e => by rw [rank_zero.1 e] at hx; cases hx
        simp; omega
    have hmem : decide (i ∈ s) = !(oc f h i).Out := by
      cases hx : (oc f h i).Out with
      | true => rw [decide_eq_false (fun h1 => by rw [((hm i).1 h1).2] at hx; cases hx)]; rfl
      | false => rw [decide_eq_true ((hm i).2 ⟨hi, hx⟩)]; rfl
    rw [hrk, hmem, w64_succ (by omega)]
    cases hx : (oc f h i).Out <;> simp⟩) (fun n _ => by
    show M108 f h m kk (n + 1) ((nrun f : Nat) : Int) = _
    rw [M108]; simp [nrun]) trivial
  exact h1
theorem HistorySorted_true (y0 : TField) (y1 : THistory) (w0 : wTField y0) (_w1 : wTHistory y1) : M111 y0 y1 = some true := by
  unfold M111
  rw [sane26_true, some_bind]
  obtain ⟨b, h1, h2⟩ := few26_eq y1 w0
  rw [h1]
  cases b with
  | false => rfl
  | true =>
    obtain ⟨hs, hn, _⟩ := h2 rfl
    simp only [some_bind, Bool.not_true, cond_false]
    rw [Order_eq hs (by omega), histCheck_eq hs]
    by_cases hf : FieldOK y0
    · rw [chk_pos hf, chk_pos hf]
      by_cases ha : Adm y0 y1
      · rw [chk_pos ha, chk_pos ha]
        obtain ⟨s, e, hp, hm⟩ := ordL_ord (f := y0) (h := y1)
        have hlen := ordL_len y0 y1
        simp only [some_bind, bne_self_eq_false, cond_false]
        rw [e] at hlen ⊢
        rw [List.length_map] at hlen ⊢
        rw [fuel_sub]
        obtain ⟨x, g1, g2, _⟩ := sorted_L1 hs hf ha hp hm (by omega) (M110 y0 y1)
        rw [g1]
        unfold M110
        rw [fuel_sub]
        have := sorted_L2 hs (by omega) hf ha hm (m := x.2.2) (by rw [List.take_length] at g2; exact g2) M109
        unfold nrun at this
        rw [this]
        rfl
      · rw [chk_neg ha, chk_neg ha]; rfl
    · rw [chk_neg hf, chk_neg hf]; rfl
end Go.Stop
