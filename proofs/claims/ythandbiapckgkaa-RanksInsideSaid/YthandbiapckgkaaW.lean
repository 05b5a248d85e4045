/- Plain laws about the models. No condition. -/
import Derived.Test.YthandbiapckgkaaV
import Derived.KernelRfl
namespace Go.Stop
open Go Go.Abs

theorem w64_of {n : Int} (h1 : -9223372036854775808 ≤ n) (h2 : n ≤ 9223372036854775807) : w64 n = n := by
  unfold w64; simp only [IntKind.wrap, IntKind.bits, IntKind.signed]; simp; omega

theorem w64_succ {i : Nat} (h : i < 9223372036854775807) : w64 ((i : Int) + 1) = ((i + 1 : Nat) : Int) := by
  rw [w64_of (by omega) (by omega)]; rfl

theorem idx_nat {α : Type} (l : List α) (i : Nat) : idx l (i : Int) = l[i]? := by
  unfold idx; simp

theorem idx_lt {α : Type} {l : List α} {i : Nat} (h : i < l.length) : idx l (i : Int) = some l[i] := by
  rw [idx_nat]; simp [h]

theorem idx_int {α : Type} {l : List α} {i : Int} (h : 0 ≤ i) (h' : i < l.length) : ∃ x, idx l i = some x ∧ x ∈ l := by
  have : i.toNat < l.length := by omega
  refine ⟨l[i.toNat], ?_, List.getElem_mem _⟩
  unfold idx; simp [h, this]

theorem some_bind {α β : Type} (a : α) (f : α → Option β) : (some a).bind f = f a := rfl

theorem dec_lt_nat (i n : Nat) : decide ((i : Int) < (n : Int)) = decide (i < n) := by simp

theorem dec_le_nat (i n : Nat) : decide ((i : Int) ≤ (n : Int)) = decide (i < n + 1) := by
  by_cases h : i < n + 1
  · simp [h]; omega
  · simp [h]; omega

section
open Classical

/-- A test: k if p, else r. -/
noncomputable def chk {β : Type} (p : Prop) (r : β) (k : Option β) : Option β := if p then k else some r

theorem chk_and {β : Type} (p q : Prop) (r : β) (k : Option β) : chk p r (chk q r k) = chk (p ∧ q) r k := by
  unfold chk; by_cases hp : p <;> by_cases hq : q <;> simp [hp, hq]

theorem chk_congr {β : Type} {p q : Prop} {r : β} {k k' : Option β} (h : p ↔ q) (hk : p → k = k') : chk p r k = chk q r k' := by
  unfold chk
  by_cases hp : p
  · rw [if_pos hp, if_pos (h.1 hp), hk hp]
  · rw [if_neg hp, if_neg (fun hq => hp (h.2 hq))]

/-- A loop that leaves with r at the first number that is not right. -/
theorem chk_loop {β : Type} {N : Nat} {f : Nat → Nat → Option β} {r : β} {ok : Nat → Prop} {k : Option β} (hs : ∀ n i, i < N → f (n + 1) i = chk (ok i) r (f n (i + 1))) (he : ∀ n, f (n + 1) N = k) :
    f (N + 1) 0 = chk (∀ i, i < N → ok i) r k := by
  unfold chk at hs ⊢
  have key : ∀ c i n, i + c = N → c ≤ n → f (n + 1) i = if (∀ j, i ≤ j → j < N → ok j) then k else some r := by
    intro c
    induction c with
    | zero =>
      intro i n h _
      have : i = N := by omega
      subst this
      rw [he, if_pos (fun j h1 h2 => absurd h2 (by omega))]
    | succ c ih =>
      intro i n h hn
      rw [hs n i (by omega)]
      obtain ⟨n, rfl⟩ : ∃ n', n = n' + 1 := ⟨n - 1, by omega⟩
      by_cases h1 : ok i
      · rw [if_pos h1, ih (i + 1) n (by omega) (by omega)]
        by_cases h2 : ∀ j, i + 1 ≤ j → j < N → ok j
        · rw [if_pos h2, if_pos]
          intro j hj hjN
          by_cases e : j = i
          · exact e ▸ h1
          · exact h2 j (by omega) hjN
        · rw [if_neg h2, if_neg]
          intro h3
          exact h2 fun j hj hjN => h3 j (by omega) hjN
      · rw [if_neg h1, if_neg]
        intro h3
        exact h1 (h3 i (by omega) (by omega))
  rw [key N 0 N (by omega) (by omega)]
  simp

/-- .. where the right numbers so far may be leant on. -/
theorem chk_loop' {β : Type} {N : Nat} {f : Nat → Nat → Option β} {r : β} {ok : Nat → Prop} {k : Option β} (hs : ∀ n i, i < N → (∀ j, j < i → ok j) → f (n + 1) i = chk (ok i) r (f n (i + 1))) (he : ∀ n, (∀ j, j < N → ok j) → f (n + 1) N = k) :
    f (N + 1) 0 = chk (∀ i, i < N → ok i) r k := by
  have key : ∀ c i n, i + c = N → c ≤ n → (∀ j, j < i → ok j) → f (n + 1) i = chk (∀ j, j < N → ok j) r k := by
    intro c
    induction c with
    | zero =>
      intro i n h _ hp
      have : i = N := by omega
      subst this
      rw [he n hp]; unfold chk; rw [if_pos hp]
    | succ c ih =>
      intro i n h hn hp
      rw [hs n i (by omega) hp]
      obtain ⟨n, rfl⟩ : ∃ n', n = n' + 1 := ⟨n - 1, by omega⟩
      by_cases h1 : ok i
      · rw [ih (i + 1) n (by omega) (by omega) (fun j hj => by
          by_cases e : j = i
          · exact e ▸ h1
          · exact hp j (by omega))]
        unfold chk; rw [if_pos h1]
      · unfold chk; rw [if_neg h1, if_neg (fun h3 => h1 (h3 i (by omega)))]
  exact key N 0 N (by omega) (by omega) (fun j hj => absurd hj (by omega))

/-- A loop that keeps what is known of its state. -/
theorem run_inv {σ : Type} {N : Nat} {f : Nat → Nat → σ → Option σ} {I : Nat → σ → Prop} (hs : ∀ n i s, i < N → I i s → ∃ s', I (i + 1) s' ∧ f (n + 1) i s = f n (i + 1) s') (he : ∀ n s, f (n + 1) N s = some s) {s0 : σ} (h0 : I 0 s0) :
    ∃ s, f (N + 1) 0 s0 = some s ∧ I N s := by
  have key : ∀ c i n s, i + c = N → c ≤ n → I i s → ∃ s', f (n + 1) i s = some s' ∧ I N s' := by
    intro c
    induction c with
    | zero =>
      intro i n s h _ hi
      have : i = N := by omega
      subst this
      exact ⟨s, he n s, hi⟩
    | succ c ih =>
      intro i n s h hn hi
      obtain ⟨s', h1, h2⟩ := hs n i s (by omega) hi
      obtain ⟨n, rfl⟩ : ∃ n', n = n' + 1 := ⟨n - 1, by omega⟩
      rw [h2]
      exact ih (i + 1) n s' (by omega) (by omega) h1
  exact key N 0 N s0 (by omega) (by omega) h0

/-- The numbers from i on that are taken. -/
noncomputable def listP (p : Nat → Prop) : Nat → Nat → List Int
  | _, 0 => []
  | i, c + 1 => if p i then (i : Int) :: listP p (i + 1) c else listP p (i + 1) c

/-- An iterator over numbers. -/
theorem it_loop {N : Nat} {f : Nat → Nat → Option (List Int)} {p : Nat → Prop} (hs : ∀ n i, i < N → f (n + 1) i = if p i then (f n (i + 1)).bind fun l => some ((i : Int) :: l) else f n (i + 1)) (he : ∀ n, f (n + 1) N = some []) : f (N + 1) 0 = some (listP p 0 N) := by
  have key : ∀ c i n, i + c = N → c ≤ n → f (n + 1) i = some (listP p i c) := by
    intro c
    induction c with
    | zero =>
      intro i n h _
      have : i = N := by omega
      subst this
      rw [he]; rfl
    | succ c ih =>
      intro i n h hn
      obtain ⟨n, rfl⟩ : ∃ n', n = n' + 1 := ⟨n - 1, by omega⟩
      rw [hs _ i (by omega), ih (i + 1) n (by omega) (by omega), listP]
      by_cases hp : p i
      · rw [if_pos hp, if_pos hp]; rfl
      · rw [if_neg hp, if_neg hp]
  exact key N 0 N (by omega) (by omega)

/-- A loop that leaves with its number at the first that is sought. -/
theorem find_loop {N : Nat} {f : Nat → Nat → Option Int} {p : Nat → Prop} (hs : ∀ n i, i < N → f (n + 1) i = if p i then some (i : Int) else f n (i + 1)) (he : ∀ n, f (n + 1) N = some (-1)) :
    ∃ r, f (N + 1) 0 = some r ∧ (r ≥ 0 ↔ ∃ i, i < N ∧ p i) := by
  have key : ∀ c i n, i + c = N → c ≤ n → ∃ r, f (n + 1) i = some r ∧ (r ≥ 0 ↔ ∃ j, i ≤ j ∧ j < N ∧ p j) := by
    intro c
    induction c with
    | zero =>
      intro i n h _
      have : i = N := by omega
      subst this
      refine ⟨-1, he n, by simp; omega⟩
    | succ c ih =>
      intro i n h hn
      rw [hs n i (by omega)]
      obtain ⟨n, rfl⟩ : ∃ n', n = n' + 1 := ⟨n - 1, by omega⟩
      by_cases h1 : p i
      · rw [if_pos h1]
        exact ⟨_, rfl, fun _ => ⟨i, Nat.le_refl _, by omega, h1⟩, fun _ => by omega⟩
      · rw [if_neg h1]
        obtain ⟨r, h2, h3⟩ := ih (i + 1) n (by omega) (by omega)
        refine ⟨r, h2, h3.trans ⟨fun ⟨j, a, b, c⟩ => ⟨j, by omega, b, c⟩, fun ⟨j, a, b, c⟩ => ⟨j, ?_, b, c⟩⟩⟩
        by_cases e : j = i
        · exact absurd (e ▸ c) h1
        · omega
  obtain ⟨r, h1, h2⟩ := key N 0 N (by omega) (by omega)
  exact ⟨r, h1, h2.trans ⟨fun ⟨j, _, b, c⟩ => ⟨j, b, c⟩, fun ⟨j, b, c⟩ => ⟨j, by omega, b, c⟩⟩⟩

end

theorem bif_dec {β : Type} (p : Prop) [Decidable p] (a b : β) : (bif decide p then a else b) = if p then a else b := by
  by_cases h : p <;> simp [h]

theorem bif_eq {β : Type} (x y : Int) (a b : β) : (bif x == y then a else b) = if x = y then a else b := by
  rw [Bool.cond_eq_ite]; simp only [beq_iff_eq]

theorem bif_ne {β : Type} (x y : Int) (a b : β) : (bif x != y then a else b) = if x = y then b else a := by
  rw [Bool.cond_eq_ite]; simp only [bne_iff_ne, ne_eq, ite_not]

theorem chk_pos {β : Type} {p : Prop} {r : β} {k : Option β} (h : p) : chk p r k = k := by unfold chk; rw [if_pos h]

theorem chk_neg {β : Type} {p : Prop} {r : β} {k : Option β} (h : ¬p) : chk p r k = some r := by unfold chk; rw [if_neg h]

/-- A test reckoned as a bool: it says whether something is wrong. -/
theorem bind_chk {β : Type} {p : Prop} {t : Option Bool} {r : β} {k : Option β} (h : ∃ b, t = some b ∧ (b = true ↔ ¬p)) : (t.bind fun v => bif v then some r else k) = chk p r k := by
  obtain ⟨b, rfl, hb⟩ := h
  cases b with
  | true => rw [chk_neg (hb.1 rfl)]; rfl
  | false => rw [chk_pos (Classical.byContradiction fun h => by simpa using hb.2 h)]; rfl

theorem fuel_sub (n : Nat) : ((n : Int) - 0).toNat + 1 = n + 1 := by omega

theorem fuel_add (n : Nat) : ((n : Int) + 1 - 0).toNat + 1 = (n + 1) + 1 := by omega

theorem cmp_eq (a b : Int) : m_cmp_Compare_int a b = some (if a < b then -1 else if b < a then 1 else 0) := by
  unfold m_cmp_Compare_int m_cmp_isNaN_int
  simp only [some_bind, bne_self_eq_false, cond_false, bif_dec]
  split
  · rfl
  · split
    · rfl
    · rfl

theorem or2_eq (a b : Int) : m_cmp_Or_int [a, b] = some (if a ≠ 0 then a else b) := by
  have s0 : m_cmp_Or_int [a, b] = bif a != 0 then some a else m_cmp_Or_int_L1 [a, b] m_cmp_Or_int_J2 2 1 := rfl
  have s1 : m_cmp_Or_int_L1 [a, b] m_cmp_Or_int_J2 2 1 = bif b != 0 then some b else m_cmp_Or_int_L1 [a, b] m_cmp_Or_int_J2 1 2 := rfl
  have s2 : m_cmp_Or_int_L1 [a, b] m_cmp_Or_int_J2 1 2 = some 0 := rfl
  rw [s0, s1, s2, bif_ne, bif_ne]
  by_cases ha : a = 0
  · by_cases hb : b = 0
    · simp [ha, hb]
    · simp [ha, hb]
  · simp [ha]

def SegLt (y x : TSegment) : Prop := y.Mat < x.Mat ∨ y.Mat = x.Mat ∧ y.Epoch < x.Epoch

theorem order_eq (y x : TSegment) : ∃ r, m_clocks_order y x = some r ∧ (r ≥ 0 ↔ ¬SegLt y x) := by
  unfold m_clocks_order m_clocks_place_compare SegLt
  simp only [cmp_eq, some_bind, or2_eq]
  refine ⟨_, rfl, ?_⟩
  by_cases h1 : y.Mat < x.Mat
  · simp [h1]
  · by_cases h2 : x.Mat < y.Mat
    · simp [h1, h2]; omega
    · have : y.Mat = x.Mat := by omega
      simp only [this, Int.lt_irrefl, if_false, ne_eq, not_true, false_or, true_and]
      by_cases h3 : y.Epoch < x.Epoch
      · rw [if_pos h3]; omega
      · rw [if_neg h3]
        split <;> omega

theorem less_eq (y x : TSegment) : ∃ r, m_stopwatchref16_less y x = some r ∧ (r = true ↔ SegLt y x) := by
  unfold m_stopwatchref16_less SegLt
  by_cases h1 : y.Mat < x.Mat
  · exact ⟨true, by simp [h1], by simp [h1]⟩
  · rw [bif_dec, if_neg h1, bif_eq]
    by_cases h2 : y.Mat = x.Mat
    · exact ⟨decide (y.Epoch < x.Epoch), by rw [if_pos h2], by simp [h2]⟩
    · exact ⟨false, by rw [if_neg h2], by simp [h2]; omega⟩

theorem time_eq (n : Int) : m_clocks_isTime n = some (decide (-1099511627776 ≤ n ∧ n ≤ 1099511627776)) := by
  unfold m_clocks_isTime; rw [bif_dec]; split
  · congr 1; simp; omega
  · congr 1; symm; simp; omega

theorem time16_eq (n : Int) : m_stopwatchref16_time n = some (decide (-1099511627776 ≤ n ∧ n ≤ 1099511627776)) := time_eq n

/-- One segment, with the one before it. -/
def SegOK (l : List TSegment) (i : Nat) : Prop := ∀ x, l[i]? = some x → 0 ≤ x.Mat ∧ x.Mat < 40 ∧ 0 ≤ x.Epoch ∧ x.Epoch ≤ 255 ∧ (-1099511627776 ≤ x.Anchor ∧ x.Anchor ≤ 1099511627776) ∧ (0 < i → ∀ y, l[i - 1]? = some y → SegLt y x)

theorem pred_nat {i : Nat} (h : 0 < i) (h' : i < 9223372036854775807) : w64 ((i : Int) - 1) = ((i - 1 : Nat) : Int) := by
  rw [w64_of (by omega) (by omega)]; omega

theorem clocks_L1 {k : TClocks} {kk : Unit → Option Int} (hl : k.Segments.length < 9223372036854775807) : m_clocks_Check_L1 k kk (k.Segments.length + 1) 0 = chk (∀ i, i < k.Segments.length → SegOK k.Segments i) 160 (kk ()) := by
  refine chk_loop (f := fun n i => m_clocks_Check_L1 k kk n (i : Int)) (fun n i hi => ?_) (fun n => ?_)
  · show m_clocks_Check_L1 k kk (n + 1) (i : Int) = _
    rw [m_clocks_Check_L1, dec_lt_nat, decide_eq_true hi, cond_true, idx_lt hi, some_bind, w64_succ (by omega)]
    have hx : k.Segments[i]? = some k.Segments[i] := by simp [hi]
    generalize k.Segments[i] = x at hx
    refine bind_chk ?_
    have hs : SegOK k.Segments i ↔ (0 ≤ x.Mat ∧ x.Mat < 40 ∧ 0 ≤ x.Epoch ∧ x.Epoch ≤ 255 ∧ (-1099511627776 ≤ x.Anchor ∧ x.Anchor ≤ 1099511627776) ∧ (0 < i → ∀ y, k.Segments[i - 1]? = some y → SegLt y x)) := by
      unfold SegOK; rw [hx]; simp
    rw [hs]
    simp only [bif_dec, time_eq, some_bind]
    by_cases h1 : x.Mat < 0
    · exact ⟨true, if_pos h1, by simp; omega⟩
    rw [if_neg h1]
    by_cases h2 : x.Mat ≥ 40
    · exact ⟨true, if_pos h2, by simp; omega⟩
    rw [if_neg h2]
    by_cases h3 : x.Epoch < 0
    · exact ⟨true, if_pos h3, by simp; omega⟩
    rw [if_neg h3]
    by_cases h4 : x.Epoch > 255
    · exact ⟨true, if_pos h4, by simp; omega⟩
    rw [if_neg h4]
    by_cases h5 : -1099511627776 ≤ x.Anchor ∧ x.Anchor ≤ 1099511627776
    · rw [decide_eq_true h5, Bool.not_true, cond_false]
      by_cases h6 : (i : Int) > 0
      · rw [if_pos h6]
        have h7 : 0 < i := by omega
        have h8 : i - 1 < k.Segments.length := by omega
        rw [pred_nat h7 (by omega), idx_lt h8, some_bind]
        obtain ⟨r, h9, h10⟩ := order_eq k.Segments[i - 1] x
        rw [h9, some_bind]
        refine ⟨_, rfl, ?_⟩
        rw [decide_eq_true_iff, h10]
        constructor
        · intro h11 h12
          exact h11 (h12.2.2.2.2.2 h7 _ (by simp [h8]))
        · intro h11 h12
          refine h11 ⟨by omega, by omega, by omega, by omega, h5, fun _ y hy => ?_⟩
          rw [List.getElem?_eq_getElem h8] at hy
          cases hy
          exact h12
      · rw [if_neg h6]
        refine ⟨false, rfl, ?_⟩
        simp only [Bool.false_eq_true, false_iff, Classical.not_not]
        exact ⟨by omega, by omega, by omega, by omega, h5, fun h => by omega⟩
    · rw [decide_eq_false h5, Bool.not_false, cond_true]
      refine ⟨true, rfl, ?_⟩
      simp only [true_iff]
      exact fun h => h5 h.2.2.2.2.1
  · show m_clocks_Check_L1 k kk (n + 1) ((k.Segments.length : Nat) : Int) = _
    rw [m_clocks_Check_L1]
    simp

theorem ref16_L1 {k : TClocks} {kk : Unit → Option Int} (hl : k.Segments.length < 9223372036854775807) : m_stopwatchref16_Check_L1 k kk (k.Segments.length + 1) 0 = chk (∀ i, i < k.Segments.length → SegOK k.Segments i) 160 (kk ()) := by
  refine chk_loop (f := fun n i => m_stopwatchref16_Check_L1 k kk n (i : Int)) (fun n i hi => ?_) (fun n => ?_)
  · show m_stopwatchref16_Check_L1 k kk (n + 1) (i : Int) = _
    rw [m_stopwatchref16_Check_L1, dec_lt_nat, decide_eq_true hi, cond_true, idx_lt hi, some_bind, w64_succ (by omega)]
    have hx : k.Segments[i]? = some k.Segments[i] := by simp [hi]
    generalize k.Segments[i] = x at hx
    refine bind_chk ?_
    have hs : SegOK k.Segments i ↔ (0 ≤ x.Mat ∧ x.Mat < 40 ∧ 0 ≤ x.Epoch ∧ x.Epoch ≤ 255 ∧ (-1099511627776 ≤ x.Anchor ∧ x.Anchor ≤ 1099511627776) ∧ (0 < i → ∀ y, k.Segments[i - 1]? = some y → SegLt y x)) := by
      unfold SegOK; rw [hx]; simp
    rw [hs]
    simp only [bif_dec, time16_eq, some_bind]
    by_cases h1 : x.Mat < 0
    · exact ⟨true, if_pos h1, by simp; omega⟩
    rw [if_neg h1]
    by_cases h2 : x.Mat ≥ 40
    · exact ⟨true, if_pos h2, by simp; omega⟩
    rw [if_neg h2]
    by_cases h3 : x.Epoch < 0
    · exact ⟨true, if_pos h3, by simp; omega⟩
    rw [if_neg h3]
    by_cases h4 : x.Epoch > 255
    · exact ⟨true, if_pos h4, by simp; omega⟩
    rw [if_neg h4]
    by_cases h5 : -1099511627776 ≤ x.Anchor ∧ x.Anchor ≤ 1099511627776
    · rw [decide_eq_true h5, Bool.not_true, cond_false]
      by_cases h6 : (i : Int) > 0
      · rw [if_pos h6]
        have h7 : 0 < i := by omega
        have h8 : i - 1 < k.Segments.length := by omega
        rw [pred_nat h7 (by omega), idx_lt h8, some_bind]
        obtain ⟨r, h9, h10⟩ := less_eq k.Segments[i - 1] x
        rw [h9, some_bind]
        refine ⟨_, rfl, ?_⟩
        rw [Bool.not_eq_true', ← Bool.not_eq_true, h10]
        constructor
        · intro h11 h12
          exact h11 (h12.2.2.2.2.2 h7 _ (by simp [h8]))
        · intro h11 h12
          refine h11 ⟨by omega, by omega, by omega, by omega, h5, fun _ y hy => ?_⟩
          rw [List.getElem?_eq_getElem h8] at hy
          cases hy
          exact h12
      · rw [if_neg h6]
        refine ⟨false, rfl, ?_⟩
        simp only [Bool.false_eq_true, false_iff, Classical.not_not]
        exact ⟨by omega, by omega, by omega, by omega, h5, fun h => by omega⟩
    · rw [decide_eq_false h5, Bool.not_false, cond_true]
      refine ⟨true, rfl, ?_⟩
      simp only [true_iff]
      exact fun h => h5 h.2.2.2.2.1
  · show m_stopwatchref16_Check_L1 k kk (n + 1) ((k.Segments.length : Nat) : Int) = _
    rw [m_stopwatchref16_Check_L1]
    simp

/-- An entry of the matrix. -/
def at2 (l : List (List Int)) (i j : Nat) : Int := ((l[i]?.getD [])[j]?).getD 0

def Entry (w : Int) : Prop := -2199023255552 ≤ w ∧ w ≤ 2199023255552

/-- One row of the matrix. -/
def RowOK (k : TClocks) (i : Nat) : Prop := (k.Far[i]?.getD []).length = k.Segments.length + 1 ∧ at2 k.Far i i = 0 ∧ ∀ j, j < k.Segments.length + 1 → Entry (at2 k.Far i j)

def TriOK (k : TClocks) : Prop := ∀ i, i < k.Segments.length + 1 → ∀ j, j < k.Segments.length + 1 → ∀ m, m < k.Segments.length + 1 → ¬at2 k.Far i m > w64 (at2 k.Far i j + at2 k.Far j m)

theorem idx2 {l : List (List Int)} {i j : Nat} {row : List Int} (h : l[i]? = some row) (hj : j < row.length) : idx row (j : Int) = some (at2 l i j) := by
  rw [idx_lt hj]; unfold at2; rw [h]; simp [hj]

theorem contains_eq (row : List Int) (hl : row.length < 9223372036854775807) : ∃ b, m_slices_ContainsFunc_int_int_with_clocks_Check_1 row = some b ∧ (b = true ↔ ∃ j, j < row.length ∧ ¬Entry (row[j]?.getD 0)) := by
  unfold m_slices_ContainsFunc_int_int_with_clocks_Check_1 m_slices_IndexFunc_int_int_with_clocks_Check_1
  rw [fuel_sub]
  obtain ⟨r, h1, h2⟩ := find_loop (N := row.length) (f := fun n i => m_slices_IndexFunc_int_int_with_clocks_Check_1_L1 row m_slices_IndexFunc_int_int_with_clocks_Check_1_J2 n (i : Int)) (p := fun j => ¬Entry (row[j]?.getD 0)) (fun n i hi => by
    show m_slices_IndexFunc_int_int_with_clocks_Check_1_L1 row _ (n + 1) (i : Int) = _
    rw [m_slices_IndexFunc_int_int_with_clocks_Check_1_L1, dec_lt_nat, decide_eq_true hi, cond_true, idx_lt hi, some_bind, w64_succ (by omega)]
    have hx : row[i]?.getD 0 = row[i] := by simp [hi]
    rw [hx]
    generalize row[i] = w
    unfold m_clocks_Check_1 Entry
    rw [bif_dec]
    by_cases h1 : w < -2199023255552
    · rw [if_pos h1, some_bind, cond_true, if_pos (by omega)]
    · rw [if_neg h1, some_bind, bif_dec]
      by_cases h2 : w > 2199023255552
      · rw [if_pos h2, if_pos (by omega)]
      · rw [if_neg h2, if_neg (by omega)]) (fun n => by
    show m_slices_IndexFunc_int_int_with_clocks_Check_1_L1 row _ (n + 1) ((row.length : Nat) : Int) = _
    rw [m_slices_IndexFunc_int_int_with_clocks_Check_1_L1]
    simp [m_slices_IndexFunc_int_int_with_clocks_Check_1_J2])
  refine ⟨decide (r ≥ 0), ?_, by rw [decide_eq_true_iff]; exact h2⟩
  have h1 : m_slices_IndexFunc_int_int_with_clocks_Check_1_L1 row m_slices_IndexFunc_int_int_with_clocks_Check_1_J2 (row.length + 1) 0 = some r := h1
  rw [h1]; rfl

theorem clocks_L2 {k : TClocks} {kk : Unit → Option Int} (hl : k.Segments.length ≤ 511) (hf : k.Far.length = k.Segments.length + 1) : m_clocks_Check_L2 k kk (k.Far.length + 1) 0 = chk (∀ i, i < k.Far.length → RowOK k i) 160 (kk ()) := by
  refine chk_loop (f := fun n i => m_clocks_Check_L2 k kk n (i : Int)) (fun n i hi => ?_) (fun n => ?_)
  · show m_clocks_Check_L2 k kk (n + 1) (i : Int) = _
    rw [m_clocks_Check_L2, dec_lt_nat, decide_eq_true hi, cond_true, idx_lt hi, some_bind, w64_succ (by omega), w64_succ (by omega)]
    have hx : k.Far[i]? = some k.Far[i] := by simp [hi]
    generalize k.Far[i] = row at hx
    rw [bif_ne]
    have hr : RowOK k i ↔ row.length = k.Segments.length + 1 ∧ at2 k.Far i i = 0 ∧ ∀ j, j < k.Segments.length + 1 → Entry (at2 k.Far i j) := by
      unfold RowOK; rw [hx]; rfl
    by_cases h1 : row.length = k.Segments.length + 1
    · rw [if_pos (by omega), idx2 hx (by omega), some_bind, bif_ne]
      by_cases h2 : at2 k.Far i i = 0
      · rw [if_pos h2]
        obtain ⟨b, h3, h4⟩ := contains_eq row (by omega)
        rw [h3]
        refine bind_chk ⟨b, rfl, ?_⟩
        rw [h4, hr, h1]
        constructor
        · rintro ⟨j, h5, h6⟩ ⟨_, _, h7⟩
          have := h7 j h5
          unfold at2 at this
          rw [hx] at this
          exact h6 this
        · intro h5
          refine Classical.byContradiction fun h6 => h5 ⟨rfl, h2, fun j hj => Classical.byContradiction fun h7 => h6 ⟨j, hj, fun h8 => h7 ?_⟩⟩
          unfold at2
          rw [hx]
          exact h8
      · rw [if_neg h2, chk_neg (fun h => h2 (hr.1 h).2.1)]
    · rw [if_neg (by omega), chk_neg (fun h => h1 (hr.1 h).1)]
  · show m_clocks_Check_L2 k kk (n + 1) ((k.Far.length : Nat) : Int) = _
    rw [m_clocks_Check_L2]
    simp

/-- What rows that are right give. -/
theorem rows_get {k : TClocks} (h : ∀ i, i < k.Far.length → RowOK k i) (hf : k.Far.length = k.Segments.length + 1) {i : Nat} (hi : i < k.Segments.length + 1) : ∃ row, k.Far[i]? = some row ∧ idx k.Far (i : Int) = some row ∧ row.length = k.Segments.length + 1 := by
  have hi' : i < k.Far.length := by omega
  refine ⟨k.Far[i], by simp [hi'], idx_lt hi', ?_⟩
  have := (h i hi').1
  simpa [hi'] using this

theorem clocks_L5 {k : TClocks} {kk : Unit → Option Int} (hl : k.Segments.length ≤ 511) (hf : k.Far.length = k.Segments.length + 1) (h : ∀ i, i < k.Far.length → RowOK k i) {i j : Nat} (hi : i < k.Segments.length + 1) {x : Int} {row : List Int} (hr : k.Far[j]? = some row) (hrl : row.length = k.Segments.length + 1) :
    m_clocks_Check_L5 k i x row kk (row.length + 1) 0 = chk (∀ m, m < row.length → ¬at2 k.Far i m > w64 (x + at2 k.Far j m)) 160 (kk ()) := by
  refine chk_loop (f := fun n m => m_clocks_Check_L5 k i x row kk n (m : Int)) (fun n m hm => ?_) (fun n => ?_)
  · show m_clocks_Check_L5 k i x row kk (n + 1) (m : Int) = _
    obtain ⟨row', h1, h2, h3⟩ := rows_get h hf hi
    rw [m_clocks_Check_L5, dec_lt_nat, decide_eq_true hm, cond_true, idx2 hr hm, some_bind, h2, some_bind, idx2 h1 (by omega), some_bind, w64_succ (by omega), bif_dec]
    by_cases h4 : at2 k.Far i m > w64 (x + at2 k.Far j m)
    · rw [if_pos h4, chk_neg (fun h => h h4)]
    · rw [if_neg h4, chk_pos h4]
  · show m_clocks_Check_L5 k i x row kk (n + 1) ((row.length : Nat) : Int) = _
    rw [m_clocks_Check_L5]
    simp

theorem clocks_L4 {k : TClocks} {kk : Unit → Option Int} (hl : k.Segments.length ≤ 511) (hf : k.Far.length = k.Segments.length + 1) (h : ∀ i, i < k.Far.length → RowOK k i) {i : Nat} (hi : i < k.Segments.length + 1) {row : List Int} (hr : k.Far[i]? = some row) (hrl : row.length = k.Segments.length + 1) :
    m_clocks_Check_L4 k i row kk (row.length + 1) 0 = chk (∀ j, j < row.length → ∀ m, m < k.Segments.length + 1 → ¬at2 k.Far i m > w64 (at2 k.Far i j + at2 k.Far j m)) 160 (kk ()) := by
  refine chk_loop (f := fun n j => m_clocks_Check_L4 k i row kk n (j : Int)) (fun n j hj => ?_) (fun n => ?_)
  · show m_clocks_Check_L4 k i row kk (n + 1) (j : Int) = _
    obtain ⟨row', h1, h2, h3⟩ := rows_get h hf (i := j) (by omega)
    rw [m_clocks_Check_L4, dec_lt_nat, decide_eq_true hj, cond_true, idx2 hr hj, some_bind, h2, some_bind, fuel_sub, clocks_L5 hl hf h hi h1 h3, h3]
    show chk _ _ (m_clocks_Check_L4 k i row kk n (w64 ((j : Int) + 1))) = _
    rw [w64_succ (by omega)]
  · show m_clocks_Check_L4 k i row kk (n + 1) ((row.length : Nat) : Int) = _
    rw [m_clocks_Check_L4]
    simp

theorem clocks_L3 {k : TClocks} {kk : Unit → Option Int} (hl : k.Segments.length ≤ 511) (hf : k.Far.length = k.Segments.length + 1) (h : ∀ i, i < k.Far.length → RowOK k i) :
    m_clocks_Check_L3 k kk (k.Segments.length + 1 + 1) 0 = chk (TriOK k) 160 (kk ()) := by
  refine chk_loop (N := k.Segments.length + 1) (f := fun n i => m_clocks_Check_L3 k kk n (i : Int)) (fun n i hi => ?_) (fun n => ?_)
  · show m_clocks_Check_L3 k kk (n + 1) (i : Int) = _
    obtain ⟨row, h1, h2, h3⟩ := rows_get h hf hi
    rw [m_clocks_Check_L3, w64_succ (by omega), dec_lt_nat, decide_eq_true hi, cond_true, h2, some_bind, fuel_sub, clocks_L4 hl hf h hi h1 h3, h3]
    show chk _ _ (m_clocks_Check_L3 k kk n (w64 ((i : Int) + 1))) = _
    rw [w64_succ (by omega)]
  · show m_clocks_Check_L3 k kk (n + 1) ((k.Segments.length + 1 : Nat) : Int) = _
    rw [m_clocks_Check_L3, w64_succ (by omega)]
    simp

/-- Clocks that are valid. -/
structure ClocksOK (k : TClocks) : Prop where
  few : k.Segments.length ≤ 511
  far : k.Far.length = k.Segments.length + 1
  seg : ∀ i, i < k.Segments.length → SegOK k.Segments i
  row : ∀ i, i < k.Far.length → RowOK k i
  tri : TriOK k

theorem clocksOK_iff (k : TClocks) : ClocksOK k ↔ k.Segments.length ≤ 511 ∧ k.Far.length = k.Segments.length + 1 ∧ (∀ i, i < k.Segments.length → SegOK k.Segments i) ∧ (∀ i, i < k.Far.length → RowOK k i) ∧ TriOK k :=
  ⟨fun ⟨a, b, c, d, e⟩ => ⟨a, b, c, d, e⟩, fun ⟨a, b, c, d, e⟩ => ⟨a, b, c, d, e⟩⟩

theorem chk_and' {β : Type} {p q : Prop} {r : β} {k k' : Option β} (h : p → k = chk q r k') : chk p r k = chk (p ∧ q) r k' := by
  rw [← chk_and]; exact chk_congr Iff.rfl h

theorem clocks_Check_eq {k : TClocks} (hw : k.Segments.length < 9223372036854775807) : m_clocks_Check k = chk (ClocksOK k) 160 (some 0) := by
  unfold m_clocks_Check
  rw [bif_dec, bif_ne, fuel_sub, w64_succ (by omega), clocks_L1 (by omega)]
  have e : chk (ClocksOK k) (160 : Int) (some 0) = chk (k.Segments.length ≤ 511 ∧ k.Far.length = k.Segments.length + 1 ∧ (∀ i, i < k.Segments.length → SegOK k.Segments i) ∧ (∀ i, i < k.Far.length → RowOK k i) ∧ TriOK k) 160 (some 0) := chk_congr (clocksOK_iff k) fun _ => rfl
  rw [e]
  by_cases h1 : k.Segments.length ≤ 511
  · rw [if_neg (by omega)]
    by_cases h2 : k.Far.length = k.Segments.length + 1
    · rw [if_pos (by omega)]
      refine Eq.trans ?_ (chk_congr (p := (∀ i, i < k.Segments.length → SegOK k.Segments i) ∧ (∀ i, i < k.Far.length → RowOK k i) ∧ TriOK k) (by simp [h1, h2]) fun _ => rfl)
      refine chk_and' fun _ => ?_
      show m_clocks_Check_L2 k (m_clocks_Check_J9 k) _ 0 = _
      rw [fuel_sub, clocks_L2 h1 h2]
      refine chk_and' fun h3 => ?_
      show m_clocks_Check_L3 k m_clocks_Check_J8 _ 0 = _
      rw [w64_succ (by omega), fuel_sub, clocks_L3 h1 h2 h3]
      rfl
    · rw [if_neg (by omega), chk_neg (fun h => h2 h.2.1)]
  · rw [if_pos (by omega), chk_neg (fun h => h1 h.1)]

theorem ref16_L3 {k : TClocks} {kk : Unit → Option Int} (hl : k.Segments.length ≤ 511) {i : Nat} {row : List Int} (h1 : k.Far[i]? = some row) (h2 : idx k.Far (i : Int) = some row) (h3 : row.length = k.Segments.length + 1) :
    m_stopwatchref16_Check_L3 k i kk (k.Segments.length + 1 + 1) 0 = chk (∀ j, j < k.Segments.length + 1 → Entry (at2 k.Far i j)) 160 (kk ()) := by
  refine chk_loop (N := k.Segments.length + 1) (f := fun n j => m_stopwatchref16_Check_L3 k i kk n (j : Int)) (fun n j hj => ?_) (fun n => ?_)
  · show m_stopwatchref16_Check_L3 k i kk (n + 1) (j : Int) = _
    rw [m_stopwatchref16_Check_L3, dec_le_nat, decide_eq_true hj, cond_true, h2, some_bind, idx2 h1 (by omega), some_bind, some_bind, idx2 h1 (by omega), some_bind, w64_succ (by omega), bif_dec, bif_dec]
    unfold Entry
    by_cases h4 : at2 k.Far i j < -2199023255552
    · rw [if_pos h4, chk_neg (by omega)]
    · rw [if_neg h4]
      by_cases h5 : at2 k.Far i j > 2199023255552
      · rw [if_pos h5, chk_neg (by omega)]
      · rw [if_neg h5, chk_pos (by omega)]
  · show m_stopwatchref16_Check_L3 k i kk (n + 1) ((k.Segments.length + 1 : Nat) : Int) = _
    rw [m_stopwatchref16_Check_L3, dec_le_nat]
    simp

theorem ref16_L2 {k : TClocks} {kk : Unit → Option Int} (hl : k.Segments.length ≤ 511) (hf : k.Far.length = k.Segments.length + 1) :
    m_stopwatchref16_Check_L2 k kk (k.Segments.length + 1 + 1) 0 = chk (∀ i, i < k.Far.length → RowOK k i) 160 (kk ()) := by
  rw [hf]
  refine chk_loop (N := k.Segments.length + 1) (f := fun n i => m_stopwatchref16_Check_L2 k kk n (i : Int)) (fun n i hi => ?_) (fun n => ?_)
  · show m_stopwatchref16_Check_L2 k kk (n + 1) (i : Int) = _
    have hi' : i < k.Far.length := by omega
    have hi2 : idx k.Far (i : Int) = some k.Far[i] := idx_lt hi'
    have hx : k.Far[i]? = some k.Far[i] := by simp [hi']
    rw [m_stopwatchref16_Check_L2, dec_le_nat, decide_eq_true hi, cond_true, hi2, some_bind, some_bind, w64_succ (by omega), bif_ne]
    generalize k.Far[i] = row at hx hi2
    have hr : RowOK k i ↔ row.length = k.Segments.length + 1 ∧ at2 k.Far i i = 0 ∧ ∀ j, j < k.Segments.length + 1 → Entry (at2 k.Far i j) := by
      unfold RowOK; rw [hx]; rfl
    by_cases h1 : row.length = k.Segments.length + 1
    · rw [if_pos (by omega), idx2 hx (by omega), some_bind, bif_ne]
      by_cases h2 : at2 k.Far i i = 0
      · rw [if_pos h2, fuel_add, ref16_L3 hl hx hi2 h1]
        show chk _ _ (m_stopwatchref16_Check_L2 k kk n (w64 ((i : Int) + 1))) = _
        rw [w64_succ (by omega)]
        exact chk_congr ⟨fun h => hr.2 ⟨h1, h2, h⟩, fun h => (hr.1 h).2.2⟩ fun _ => rfl
      · rw [if_neg h2, chk_neg (fun h => h2 (hr.1 h).2.1)]
    · rw [if_neg (by omega), chk_neg (fun h => h1 (hr.1 h).1)]
  · show m_stopwatchref16_Check_L2 k kk (n + 1) ((k.Segments.length + 1 : Nat) : Int) = _
    rw [m_stopwatchref16_Check_L2, dec_le_nat]
    simp

theorem ref16_L7 {k : TClocks} {kk : Unit → Option Int} (hl : k.Segments.length ≤ 511) (hf : k.Far.length = k.Segments.length + 1) (h : ∀ i, i < k.Far.length → RowOK k i) {i j : Nat} (hi : i < k.Segments.length + 1) (hj : j < k.Segments.length + 1) :
    m_stopwatchref16_Check_L7 k i j kk (k.Segments.length + 1 + 1) 0 = chk (∀ m, m < k.Segments.length + 1 → ¬at2 k.Far i m > w64 (at2 k.Far i j + at2 k.Far j m)) 160 (kk ()) := by
  refine chk_loop (N := k.Segments.length + 1) (f := fun n m => m_stopwatchref16_Check_L7 k i j kk n (m : Int)) (fun n m hm => ?_) (fun n => ?_)
  · show m_stopwatchref16_Check_L7 k i j kk (n + 1) (m : Int) = _
    obtain ⟨row, h1, h2, h3⟩ := rows_get h hf hi
    obtain ⟨row', h1', h2', h3'⟩ := rows_get h hf hj
    rw [m_stopwatchref16_Check_L7, dec_le_nat, decide_eq_true hm, cond_true, h2, some_bind, idx2 h1 (by omega), some_bind, some_bind, idx2 h1 (by omega), some_bind, h2', some_bind, idx2 h1' (by omega), some_bind, w64_succ (by omega), bif_dec]
    by_cases h4 : at2 k.Far i m > w64 (at2 k.Far i j + at2 k.Far j m)
    · rw [if_pos h4, chk_neg (fun h => h h4)]
    · rw [if_neg h4, chk_pos h4]
  · show m_stopwatchref16_Check_L7 k i j kk (n + 1) ((k.Segments.length + 1 : Nat) : Int) = _
    rw [m_stopwatchref16_Check_L7, dec_le_nat]
    simp

theorem ref16_L6 {k : TClocks} {kk : Unit → Option Int} (hl : k.Segments.length ≤ 511) (hf : k.Far.length = k.Segments.length + 1) (h : ∀ i, i < k.Far.length → RowOK k i) {i : Nat} (hi : i < k.Segments.length + 1) :
    m_stopwatchref16_Check_L6 k i kk (k.Segments.length + 1 + 1) 0 = chk (∀ j, j < k.Segments.length + 1 → ∀ m, m < k.Segments.length + 1 → ¬at2 k.Far i m > w64 (at2 k.Far i j + at2 k.Far j m)) 160 (kk ()) := by
  refine chk_loop (N := k.Segments.length + 1) (f := fun n j => m_stopwatchref16_Check_L6 k i kk n (j : Int)) (fun n j hj => ?_) (fun n => ?_)
  · show m_stopwatchref16_Check_L6 k i kk (n + 1) (j : Int) = _
    rw [m_stopwatchref16_Check_L6, dec_le_nat, decide_eq_true hj, cond_true, fuel_add, ref16_L7 hl hf h hi hj]
    show chk _ _ (m_stopwatchref16_Check_L6 k i kk n (w64 ((j : Int) + 1))) = _
    rw [w64_succ (by omega)]
  · show m_stopwatchref16_Check_L6 k i kk (n + 1) ((k.Segments.length + 1 : Nat) : Int) = _
    rw [m_stopwatchref16_Check_L6, dec_le_nat]
    simp

theorem ref16_L5 {k : TClocks} {kk : Unit → Option Int} (hl : k.Segments.length ≤ 511) (hf : k.Far.length = k.Segments.length + 1) (h : ∀ i, i < k.Far.length → RowOK k i) :
    m_stopwatchref16_Check_L5 k kk (k.Segments.length + 1 + 1) 0 = chk (TriOK k) 160 (kk ()) := by
  refine chk_loop (N := k.Segments.length + 1) (f := fun n i => m_stopwatchref16_Check_L5 k kk n (i : Int)) (fun n i hi => ?_) (fun n => ?_)
  · show m_stopwatchref16_Check_L5 k kk (n + 1) (i : Int) = _
    rw [m_stopwatchref16_Check_L5, dec_le_nat, decide_eq_true hi, cond_true, fuel_add, ref16_L6 hl hf h hi]
    show chk _ _ (m_stopwatchref16_Check_L5 k kk n (w64 ((i : Int) + 1))) = _
    rw [w64_succ (by omega)]
  · show m_stopwatchref16_Check_L5 k kk (n + 1) ((k.Segments.length + 1 : Nat) : Int) = _
    rw [m_stopwatchref16_Check_L5, dec_le_nat]
    simp

theorem ref16_Check_eq {k : TClocks} (hw : k.Segments.length < 9223372036854775807) : m_stopwatchref16_Check k = chk (ClocksOK k) 160 (some 0) := by
  unfold m_stopwatchref16_Check
  rw [bif_dec, bif_ne, fuel_sub, w64_succ (by omega), ref16_L1 (by omega)]
  have e : chk (ClocksOK k) (160 : Int) (some 0) = chk (k.Segments.length ≤ 511 ∧ k.Far.length = k.Segments.length + 1 ∧ (∀ i, i < k.Segments.length → SegOK k.Segments i) ∧ (∀ i, i < k.Far.length → RowOK k i) ∧ TriOK k) 160 (some 0) := chk_congr (clocksOK_iff k) fun _ => rfl
  rw [e]
  by_cases h1 : k.Segments.length ≤ 511
  · rw [if_neg (by omega)]
    by_cases h2 : k.Far.length = k.Segments.length + 1
    · rw [if_pos (by omega)]
      refine Eq.trans ?_ (chk_congr (p := (∀ i, i < k.Segments.length → SegOK k.Segments i) ∧ (∀ i, i < k.Far.length → RowOK k i) ∧ TriOK k) (by simp [h1, h2]) fun _ => rfl)
      refine chk_and' fun _ => ?_
      show m_stopwatchref16_Check_L2 k (m_stopwatchref16_Check_J11 k) _ 0 = _
      rw [fuel_add, ref16_L2 h1 h2]
      refine chk_and' fun h3 => ?_
      show m_stopwatchref16_Check_L5 k m_stopwatchref16_Check_J10 _ 0 = _
      rw [fuel_add, ref16_L5 h1 h2 h3]
      rfl
    · rw [if_neg (by omega), chk_neg (fun h => h2 h.2.1)]
  · rw [if_pos (by omega), chk_neg (fun h => h1 h.1)]

/-- An outcome that is valid with some clocks. -/
def OutOK (k : TClocks) (x : TOutcome) : Prop :=
  (x.Out = true → x.Seg = -1 ∧ x.Lo = 0 ∧ x.Hi = 0) ∧ (x.Out = false → -1 ≤ x.Seg ∧ x.Seg < k.Segments.length ∧ -288230376151711744 ≤ x.Lo ∧ x.Lo ≤ x.Hi ∧ x.Hi ≤ 288230376151711744)

theorem outcome_Check_eq {k : TClocks} {x : TOutcome} (hw : k.Segments.length < 9223372036854775807) : m_outcome_Check k x = chk (ClocksOK k) 160 (chk (OutOK k x) 230 (some 0)) := by
  unfold m_outcome_Check
  rw [clocks_Check_eq hw]
  by_cases hk : ClocksOK k
  · rw [chk_pos hk, chk_pos hk, some_bind]
    simp only [bne_self_eq_false, cond_false]
    cases ho : x.Out with
    | true =>
      unfold OutOK m_outcome_out
      rw [some_bind, ho]
      by_cases h : x.Seg = -1 ∧ x.Lo = 0 ∧ x.Hi = 0
      · obtain ⟨h1, h2, h3⟩ := h
        rw [chk_pos (by simp [h1, h2, h3])]
        simp [h1, h2, h3]
      · rw [chk_neg (by simpa using h)]
        rw [cond_true]
        have e : ((true == true) && ((x.Seg == -1) && ((x.Lo == 0) && ((x.Hi == 0) && true)))) = false := by
          rw [← Bool.not_eq_true]
          intro h'
          simp at h'
          exact h h'
        rw [e]
        rfl
    | false =>
      unfold OutOK
      rw [ho]
      by_cases h : -1 ≤ x.Seg ∧ x.Seg < k.Segments.length ∧ -288230376151711744 ≤ x.Lo ∧ x.Lo ≤ x.Hi ∧ x.Hi ≤ 288230376151711744
      · rw [chk_pos (by simpa using h)]
        obtain ⟨h1, h2, h3, h4, h5⟩ := h
        simp [h1, h2, h3, h4, h5]
      · rw [chk_neg (by simpa using h)]
        rw [cond_false]
        have e : ((decide (x.Seg ≥ -1)) && ((decide (x.Seg < (k.Segments.length : Int))) && ((decide (x.Lo ≥ -288230376151711744)) && ((decide (x.Lo ≤ x.Hi)) && (decide (x.Hi ≤ 288230376151711744)))))) = false := by
          rw [← Bool.not_eq_true]
          intro h'
          simp at h'
          exact h h'
        rw [e]
        rfl
  · rw [chk_neg hk, chk_neg hk, some_bind]
    rfl

theorem ref23_Check_eq {k : TClocks} {x : TOutcome} (hw : k.Segments.length < 9223372036854775807) : m_stopwatchref23_Check k x = chk (ClocksOK k) 160 (chk (OutOK k x) 230 (some 0)) := by
  unfold m_stopwatchref23_Check
  rw [ref16_Check_eq hw]
  by_cases hk : ClocksOK k
  · rw [chk_pos hk, chk_pos hk, some_bind]
    simp only [bne_self_eq_false, cond_false]
    cases ho : x.Out with
    | true =>
      unfold OutOK
      rw [ho, cond_true]
      by_cases h : x.Seg = -1 ∧ x.Lo = 0 ∧ x.Hi = 0
      · obtain ⟨h1, h2, h3⟩ := h
        rw [chk_pos (by simp [h1, h2, h3])]
        simp [h1, h2, h3]
      · rw [chk_neg (by simpa using h)]
        have e : ((x.Seg != -1) || ((x.Lo != 0) || (x.Hi != 0))) = true := by
          simp only [Bool.or_eq_true, bne_iff_ne]; omega
        rw [e]
        rfl
    | false =>
      unfold OutOK
      rw [ho, cond_false]
      by_cases h : -1 ≤ x.Seg ∧ x.Seg < k.Segments.length ∧ -288230376151711744 ≤ x.Lo ∧ x.Lo ≤ x.Hi ∧ x.Hi ≤ 288230376151711744
      · rw [chk_pos (by simpa using h)]
        have e : ((decide (x.Seg < -1)) || ((decide (x.Seg ≥ (k.Segments.length : Int))) || ((decide (x.Lo < -288230376151711744)) || ((decide (x.Lo > x.Hi)) || (decide (x.Hi > 288230376151711744)))))) = false := by
          rw [← Bool.not_eq_true]
          simp only [Bool.or_eq_true, decide_eq_true_eq]; omega
        rw [e]
        rfl
      · rw [chk_neg (by simpa using h)]
        have e : ((decide (x.Seg < -1)) || ((decide (x.Seg ≥ (k.Segments.length : Int))) || ((decide (x.Lo < -288230376151711744)) || ((decide (x.Lo > x.Hi)) || (decide (x.Hi > 288230376151711744)))))) = true := by
          simp only [Bool.or_eq_true, decide_eq_true_eq]; omega
        rw [e]
        rfl
  · rw [chk_neg hk, chk_neg hk, some_bind]
    rfl

theorem app_ok {α : Type} {b : Nat} {l r : List α} (h : (l.length + r.length) * b ≤ 140737488355328) (h' : l.length + r.length < 9223372036854775808) : app b l r = some (l ++ r) := by
  unfold app; rw [if_pos ⟨h, h'⟩]

theorem flat_succ {α : Type} {ws : List (List α)} {i : Nat} (hi : i < ws.length) : (ws.take (i + 1)).flatten = (ws.take i).flatten ++ ws[i] := by
  rw [List.take_succ_eq_append_getElem hi, List.flatten_append]; simp

theorem concat_eq {ws : List (List TOutcome)} (h1 : ws.length ≤ 1000) (h2 : ∀ w, w ∈ ws → w.length ≤ 1000) : m_slices_Concat_Outcome_Outcome ws = some ws.flatten := by
  have hw : ∀ i (hi : i < ws.length), ws[i].length ≤ 1000 := fun i hi => h2 _ (List.getElem_mem hi)
  unfold m_slices_Concat_Outcome_Outcome
  simp only [fuel_sub]
  obtain ⟨r, hr, hr0, hr1⟩ := run_inv (N := ws.length) (f := fun n i s => m_slices_Concat_Outcome_Outcome_L1 ws n s (i : Int)) (I := fun i s => 0 ≤ s ∧ s ≤ 1000 * (i : Int)) (s0 := 0) (fun n i s hi hI => by
    refine ⟨s + ws[i].length, ?_, ?_⟩
    · have := hw i hi; omega
    · show m_slices_Concat_Outcome_Outcome_L1 ws (n + 1) s (i : Int) = m_slices_Concat_Outcome_Outcome_L1 ws n (s + ws[i].length) ((i + 1 : Nat) : Int)
      have := hw i hi
      rw [m_slices_Concat_Outcome_Outcome_L1, dec_lt_nat, decide_eq_true hi, cond_true, idx_lt hi, some_bind, w64_of (by omega) (by omega), bif_dec, if_neg (by omega), w64_succ (by omega)]) (fun n s => by
    show m_slices_Concat_Outcome_Outcome_L1 ws (n + 1) s ((ws.length : Nat) : Int) = _
    rw [m_slices_Concat_Outcome_Outcome_L1]; simp) ⟨by omega, by omega⟩
  replace hr : m_slices_Concat_Outcome_Outcome_L1 ws (ws.length + 1) 0 0 = some r := hr
  rw [hr, some_bind, bif_dec, if_neg (by omega), w64_of (by omega) (by omega), bif_dec]
  have hI : ∀ i (hi : i < ws.length), ((ws.take i).flatten.length ≤ 1000 * i) → ((ws.take (i + 1)).flatten.length ≤ 1000 * (i + 1)) := fun i hi h => by
    rw [flat_succ hi, List.length_append]; have := hw i hi; omega
  split
  · have e : mkZ 32 (r - 0) = some r.toNat := by
      unfold mkZ; rw [if_pos (by omega)]; simp
    rw [e, some_bind]
    have e2 : ∀ (l : List TOutcome), slcTo l 0 = some [] := fun l => by unfold slcTo; simp
    rw [e2, some_bind]
    obtain ⟨l, hl, rfl, _⟩ := run_inv (N := ws.length) (f := fun n i s => m_slices_Concat_Outcome_Outcome_L2 ws n (i : Int) s) (I := fun i s => s = (ws.take i).flatten ∧ s.length ≤ 1000 * i) (s0 := []) (fun n i s hi hI' => by
      obtain ⟨rfl, hlen⟩ := hI'
      refine ⟨_, ⟨rfl, hI i hi hlen⟩, ?_⟩
      show m_slices_Concat_Outcome_Outcome_L2 ws (n + 1) (i : Int) _ = m_slices_Concat_Outcome_Outcome_L2 ws n ((i + 1 : Nat) : Int) _
      have := hw i hi
      rw [m_slices_Concat_Outcome_Outcome_L2, dec_lt_nat, decide_eq_true hi, cond_true, idx_lt hi, some_bind, app_ok (by omega) (by omega), some_bind, w64_succ (by omega), flat_succ hi]) (fun n s => by
      show m_slices_Concat_Outcome_Outcome_L2 ws (n + 1) ((ws.length : Nat) : Int) s = _
      rw [m_slices_Concat_Outcome_Outcome_L2]; simp) ⟨rfl, by simp⟩
    replace hl : m_slices_Concat_Outcome_Outcome_L2 ws (ws.length + 1) 0 [] = some (ws.take ws.length).flatten := hl
    rw [hl, some_bind, List.take_length]
  · obtain ⟨l, hl, rfl, _⟩ := run_inv (N := ws.length) (f := fun n i s => m_slices_Concat_Outcome_Outcome_L3 ws n (i : Int) s) (I := fun i s => s = (ws.take i).flatten ∧ s.length ≤ 1000 * i) (s0 := []) (fun n i s hi hI' => by
      obtain ⟨rfl, hlen⟩ := hI'
      refine ⟨_, ⟨rfl, hI i hi hlen⟩, ?_⟩
      show m_slices_Concat_Outcome_Outcome_L3 ws (n + 1) (i : Int) _ = m_slices_Concat_Outcome_Outcome_L3 ws n ((i + 1 : Nat) : Int) _
      have := hw i hi
      rw [m_slices_Concat_Outcome_Outcome_L3, dec_lt_nat, decide_eq_true hi, cond_true, idx_lt hi, some_bind, app_ok (by omega) (by omega), some_bind, w64_succ (by omega), flat_succ hi]) (fun n s => by
      show m_slices_Concat_Outcome_Outcome_L3 ws (n + 1) ((ws.length : Nat) : Int) s = _
      rw [m_slices_Concat_Outcome_Outcome_L3]; simp) ⟨rfl, by simp⟩
    replace hl : m_slices_Concat_Outcome_Outcome_L3 ws (ws.length + 1) 0 [] = some (ws.take ws.length).flatten := hl
    rw [hl, some_bind, List.take_length]

/-- A field of no great size. -/
structure Small (f : TField) : Prop where
  seg : f.Clocks.Segments.length ≤ 1000
  pairs : f.Pairs.length ≤ 1000
  runners : f.Runners.length ≤ 1000000
  worlds : ∀ r, r ∈ f.Runners → r.Keys.length ≤ 1000 ∧ r.Worlds.length ≤ 1000 ∧ ∀ w, w ∈ r.Worlds → w.length ≤ 1000

def PairLt (q p : TPair) : Prop := q.A < p.A ∨ q.A = p.A ∧ q.B < p.B

def PairOK (l : List TPair) (i : Nat) : Prop := ∀ p, l[i]? = some p → 1 ≤ p.A ∧ p.A < p.B ∧ p.B ≤ 9999 ∧ (0 < i → ∀ q, l[i - 1]? = some q → PairLt q p)

/-- The pair before. -/
def lastP (l : List TPair) (i : Nat) : TPair := if i = 0 then ⟨0, 0⟩ else (l[i - 1]?).getD ⟨0, 0⟩

theorem field_L1 {f : TField} {kk : Unit → Option Int} (hl : f.Pairs.length ≤ 1000) : m_field_Check_L1 f kk (f.Pairs.length + 1) 0 0 0 = chk (∀ i, i < f.Pairs.length → PairOK f.Pairs i) 240 (kk ()) := by
  refine chk_loop (f := fun n i => m_field_Check_L1 f kk n (i : Int) (lastP f.Pairs i).A (lastP f.Pairs i).B) (fun n i hi => ?_) (fun n => ?_)
  · show m_field_Check_L1 f kk (n + 1) (i : Int) _ _ = _
    rw [m_field_Check_L1, dec_lt_nat, decide_eq_true hi, cond_true, idx_lt hi, some_bind, w64_succ (by omega)]
    have hx : f.Pairs[i]? = some f.Pairs[i] := by simp [hi]
    have hnext : lastP f.Pairs (i + 1) = f.Pairs[i] := by unfold lastP; simp [hi]
    rw [hnext]
    generalize f.Pairs[i] = p at hx
    have hok : PairOK f.Pairs i ↔ 1 ≤ p.A ∧ p.A < p.B ∧ p.B ≤ 9999 ∧ (0 < i → ∀ q, f.Pairs[i - 1]? = some q → PairLt q p) := by
      unfold PairOK; rw [hx]; simp
    have hlast : 1 ≤ p.A → ((0 < i → ∀ q, f.Pairs[i - 1]? = some q → PairLt q p) ↔ ¬(p.A < (lastP f.Pairs i).A ∨ p.A = (lastP f.Pairs i).A ∧ p.B ≤ (lastP f.Pairs i).B)) := by
      intro hA
      unfold lastP PairLt
      by_cases h0 : i = 0
      · subst h0; simp; omega
      · have h8 : i - 1 < f.Pairs.length := by omega
        rw [if_neg h0, List.getElem?_eq_getElem h8]
        simp only [Option.getD_some, Option.some.injEq, forall_eq']
        constructor
        · intro h; have := h (by omega); omega
        · intro h _; omega
    by_cases hOK : PairOK f.Pairs i
    · rw [chk_pos hOK]
      obtain ⟨h1, h2, h3, h4⟩ := hok.1 hOK
      have h5 := (hlast h1).1 h4
      rw [Bool.cond_eq_ite, if_neg]
      simp only [Bool.or_eq_true, Bool.and_eq_true, decide_eq_true_eq, beq_iff_eq]
      omega
    · rw [chk_neg hOK, Bool.cond_eq_ite, if_pos]
      simp only [Bool.or_eq_true, Bool.and_eq_true, decide_eq_true_eq, beq_iff_eq]
      by_cases h1 : 1 ≤ p.A
      · have h5 := hlast h1
        refine Classical.byContradiction fun h6 => hOK (hok.2 ⟨h1, by omega, by omega, h5.2 (by omega)⟩)
      · left; omega
  · show m_field_Check_L1 f kk (n + 1) ((f.Pairs.length : Nat) : Int) _ _ = _
    rw [m_field_Check_L1]
    simp

theorem ref24_L1 {f : TField} {kk : Unit → Option Int} (hl : f.Pairs.length ≤ 1000) : m_stopwatchref24_Check_L1 f kk (f.Pairs.length + 1) 0 = chk (∀ i, i < f.Pairs.length → PairOK f.Pairs i) 240 (kk ()) := by
  refine chk_loop (f := fun n i => m_stopwatchref24_Check_L1 f kk n (i : Int)) (fun n i hi => ?_) (fun n => ?_)
  · show m_stopwatchref24_Check_L1 f kk (n + 1) (i : Int) = _
    rw [m_stopwatchref24_Check_L1, dec_lt_nat, decide_eq_true hi, cond_true, idx_lt hi, some_bind, w64_succ (by omega)]
    have hx : f.Pairs[i]? = some f.Pairs[i] := by simp [hi]
    generalize f.Pairs[i] = p at hx
    have hok : PairOK f.Pairs i ↔ 1 ≤ p.A ∧ p.A < p.B ∧ p.B ≤ 9999 ∧ (0 < i → ∀ q, f.Pairs[i - 1]? = some q → PairLt q p) := by
      unfold PairOK; rw [hx]; simp
    rw [bif_dec, bif_dec, bif_dec]
    by_cases h1 : p.A < 1
    · rw [if_pos h1, chk_neg (fun h => by have := hok.1 h; omega)]
    rw [if_neg h1]
    by_cases h2 : p.A ≥ p.B
    · rw [if_pos h2, chk_neg (fun h => by have := hok.1 h; omega)]
    rw [if_neg h2]
    by_cases h3 : p.B > 9999
    · rw [if_pos h3, chk_neg (fun h => by have := hok.1 h; omega)]
    rw [if_neg h3]
    refine bind_chk ?_
    rw [hok, bif_dec]
    by_cases h6 : (i : Int) > 0
    · have h7 : 0 < i := by omega
      have h8 : i - 1 < f.Pairs.length := by omega
      rw [if_pos h6, pred_nat h7 (by omega), idx_lt h8, List.getElem?_eq_getElem h8]
      simp only [some_bind, bif_dec, bif_eq, Option.some.injEq, forall_eq']
      generalize f.Pairs[i - 1] = q
      unfold PairLt
      by_cases h9 : q.A > p.A
      · rw [if_pos h9]; exact ⟨true, rfl, by simp; omega⟩
      · rw [if_neg h9]
        by_cases h10 : q.A = p.A
        · rw [if_pos h10]; refine ⟨_, rfl, ?_⟩
          rw [decide_eq_true_iff]; omega
        · rw [if_neg h10]; refine ⟨false, rfl, ?_⟩
          simp; omega
    · rw [if_neg h6]
      refine ⟨false, rfl, ?_⟩
      simp only [Bool.false_eq_true, false_iff, Classical.not_not]
      exact ⟨by omega, by omega, by omega, fun h => by omega⟩
  · show m_stopwatchref24_Check_L1 f kk (n + 1) ((f.Pairs.length : Nat) : Int) = _
    rw [m_stopwatchref24_Check_L1]
    simp

theorem all_get {α : Type} {l : List α} {p : α → Prop} : (∀ j, j < l.length → ∀ o, l[j]? = some o → p o) ↔ ∀ o, o ∈ l → p o := by
  constructor
  · intro h o ho
    obtain ⟨j, hj, rfl⟩ := List.mem_iff_getElem.1 ho
    exact h j hj _ (by simp [hj])
  · intro h j hj o ho
    exact h o (List.mem_of_getElem? ho)

theorem field_L3 {f : TField} {kk : Unit → Option Int} (hk : ClocksOK f.Clocks) {l : List TOutcome} (hl : l.length < 9223372036854775807) : m_field_Check_L3 f l kk (l.length + 1) 0 = chk (∀ o, o ∈ l → OutOK f.Clocks o) 240 (kk ()) := by
  refine (chk_loop (ok := fun j => ∀ o, l[j]? = some o → OutOK f.Clocks o) (k := kk ()) (r := 240) (f := fun n i => m_field_Check_L3 f l kk n (i : Int)) (fun n i hi => ?_) (fun n => ?_)).trans (chk_congr all_get fun _ => rfl)
  · show m_field_Check_L3 f l kk (n + 1) (i : Int) = _
    have hw : f.Clocks.Segments.length < 9223372036854775807 := by have := hk.few; omega
    rw [m_field_Check_L3, dec_lt_nat, decide_eq_true hi, cond_true, idx_lt hi, some_bind, w64_succ (by omega), outcome_Check_eq hw, chk_pos hk]
    have hx : l[i]? = some l[i] := by simp [hi]
    rw [hx]
    by_cases h : OutOK f.Clocks l[i]
    · rw [chk_pos h, some_bind, chk_pos (by simpa using h)]; rfl
    · rw [chk_neg h, some_bind, chk_neg (by simpa using h)]; rfl
  · show m_field_Check_L3 f l kk (n + 1) ((l.length : Nat) : Int) = _
    rw [m_field_Check_L3]
    simp

theorem ref24_L4 {f : TField} {kk : Unit → Option Int} (hk : ClocksOK f.Clocks) {x : TRunner} {i : Nat} {l : List TOutcome} (hx : idx x.Worlds (i : Int) = some l) (hl : l.length < 9223372036854775807) : m_stopwatchref24_Check_L4 f x i kk (l.length + 1) 0 = chk (∀ o, o ∈ l → OutOK f.Clocks o) 240 (kk ()) := by
  refine (chk_loop (ok := fun j => ∀ o, l[j]? = some o → OutOK f.Clocks o) (k := kk ()) (r := 240) (f := fun n j => m_stopwatchref24_Check_L4 f x i kk n (j : Int)) (fun n j hj => ?_) (fun n => ?_)).trans (chk_congr all_get fun _ => rfl)
  · show m_stopwatchref24_Check_L4 f x i kk (n + 1) (j : Int) = _
    have hw : f.Clocks.Segments.length < 9223372036854775807 := by have := hk.few; omega
    rw [m_stopwatchref24_Check_L4, hx, some_bind, dec_lt_nat, decide_eq_true hj, cond_true, some_bind, idx_lt hj, some_bind, w64_succ (by omega), ref23_Check_eq hw, chk_pos hk]
    have hx : l[j]? = some l[j] := by simp [hj]
    rw [hx]
    by_cases h : OutOK f.Clocks l[j]
    · rw [chk_pos h, some_bind, chk_pos (by simpa using h)]; rfl
    · rw [chk_neg h, some_bind, chk_neg (by simpa using h)]; rfl
  · show m_stopwatchref24_Check_L4 f x i kk (n + 1) ((l.length : Nat) : Int) = _
    rw [m_stopwatchref24_Check_L4, hx, some_bind]
    simp

theorem ref24_L3 {f : TField} {kk : Unit → Option Int} (hk : ClocksOK f.Clocks) {x : TRunner} (h1 : x.Worlds.length ≤ 1000) (h2 : ∀ w, w ∈ x.Worlds → w.length ≤ 1000) : m_stopwatchref24_Check_L3 f x kk (x.Worlds.length + 1) 0 = chk (∀ w, w ∈ x.Worlds → ∀ o, o ∈ w → OutOK f.Clocks o) 240 (kk ()) := by
  refine (chk_loop (ok := fun j => ∀ w, x.Worlds[j]? = some w → ∀ o, o ∈ w → OutOK f.Clocks o) (k := kk ()) (r := 240) (f := fun n j => m_stopwatchref24_Check_L3 f x kk n (j : Int)) (fun n j hj => ?_) (fun n => ?_)).trans (chk_congr all_get fun _ => rfl)
  · show m_stopwatchref24_Check_L3 f x kk (n + 1) (j : Int) = _
    have hx : x.Worlds[j]? = some x.Worlds[j] := by simp [hj]
    have hb := h2 _ (List.getElem_mem hj)
    rw [m_stopwatchref24_Check_L3, dec_lt_nat, decide_eq_true hj, cond_true, idx_lt hj, Option.getD_some, fuel_sub, ref24_L4 hk (idx_lt hj) (by omega)]
    show chk _ _ (m_stopwatchref24_Check_L3 f x kk n (w64 ((j : Int) + 1))) = _
    rw [w64_succ (by omega)]
    exact chk_congr (by rw [hx]; simp) fun _ => rfl
  · show m_stopwatchref24_Check_L3 f x kk (n + 1) ((x.Worlds.length : Nat) : Int) = _
    rw [m_stopwatchref24_Check_L3]
    simp

def RunnerOK (f : TField) (i : Nat) : Prop := ∀ r, f.Runners[i]? = some r → (1 ≤ r.Bib ∧ r.Bib ≤ 9999 ∧ (0 < i → ∀ q, f.Runners[i - 1]? = some q → q.Bib < r.Bib) ∧ (∀ z, f.Runners[0]? = some z → r.Keys.length = z.Keys.length) ∧ r.Worlds.length = f.Pairs.length + 1) ∧ ∀ w, w ∈ r.Worlds → ∀ o, o ∈ w → OutOK f.Clocks o

def lastB (f : TField) (i : Nat) : Int := if i = 0 then 0 else ((f.Runners[i - 1]?).map (·.Bib)).getD 0

theorem field_L2 {f : TField} {kk : Unit → Option Int} (hk : ClocksOK f.Clocks) (hs : Small f) : m_field_Check_L2 f kk (f.Runners.length + 1) 0 0 = chk (∀ i, i < f.Runners.length → RunnerOK f i) 240 (kk ()) := by
  refine chk_loop' (f := fun n i => m_field_Check_L2 f kk n (lastB f i) (i : Int)) (fun n i hi hp => ?_) (fun n _ => ?_)
  · show m_field_Check_L2 f kk (n + 1) (lastB f i) (i : Int) = _
    have hsr := hs.runners
    have hsp := hs.pairs
    have h0 : 0 < f.Runners.length := by omega
    rw [m_field_Check_L2, dec_lt_nat, decide_eq_true hi, cond_true, idx_lt hi, some_bind, w64_succ (by omega)]
    have hx : f.Runners[i]? = some f.Runners[i] := by simp [hi]
    have hz : idx f.Runners 0 = some f.Runners[0] := idx_lt (i := 0) h0
    have hz' : f.Runners[0]? = some f.Runners[0] := by simp [h0]
    rw [hz]
    have hnext : lastB f (i + 1) = f.Runners[i].Bib := by unfold lastB; simp [hi]
    obtain ⟨hw0, hw1, hw2⟩ := hs.worlds _ (List.getElem_mem hi)
    rw [hnext]
    generalize f.Runners[0] = z at hz'
    generalize f.Runners[i] = r at hx hw0 hw1 hw2
    have hok : RunnerOK f i ↔ (1 ≤ r.Bib ∧ r.Bib ≤ 9999 ∧ (0 < i → ∀ q, f.Runners[i - 1]? = some q → q.Bib < r.Bib) ∧ r.Keys.length = z.Keys.length ∧ r.Worlds.length = f.Pairs.length + 1) ∧ ∀ w, w ∈ r.Worlds → ∀ o, o ∈ w → OutOK f.Clocks o := by
      unfold RunnerOK; rw [hx, hz']; simp
    have hlast : lastB f i < r.Bib ↔ 1 ≤ r.Bib ∧ (0 < i → ∀ q, f.Runners[i - 1]? = some q → q.Bib < r.Bib) := by
      unfold lastB
      by_cases h0 : i = 0
      · subst h0; simp; omega
      · have h8 : i - 1 < f.Runners.length := by omega
        have := hp (i - 1) (by omega)
        unfold RunnerOK at this
        rw [List.getElem?_eq_getElem h8] at this
        have h9 := (this _ rfl).1.1
        rw [if_neg h0, List.getElem?_eq_getElem h8]
        simp only [Option.map_some, Option.getD_some, Option.some.injEq, forall_eq']
        constructor
        · intro h; exact ⟨by omega, fun _ => h⟩
        · intro h; exact h.2 (by omega)
    have hfin : (lastB f i < r.Bib ∧ r.Bib ≤ 9999 ∧ r.Keys.length = z.Keys.length ∧ r.Worlds.length = f.Pairs.length + 1) ∧ (∀ w, w ∈ r.Worlds → ∀ o, o ∈ w → OutOK f.Clocks o) ↔ RunnerOK f i := by
      rw [hok, hlast]
      constructor
      · rintro ⟨⟨⟨a, b⟩, c, d, e⟩, g⟩; exact ⟨⟨a, c, b, d, e⟩, g⟩
      · rintro ⟨⟨a, c, b, d, e⟩, g⟩; exact ⟨⟨⟨a, b⟩, c, d, e⟩, g⟩
    refine Eq.trans (bind_chk (p := lastB f i < r.Bib ∧ r.Bib ≤ 9999 ∧ r.Keys.length = z.Keys.length ∧ r.Worlds.length = f.Pairs.length + 1) ?_) (Eq.trans (chk_and' fun h => ?_) (chk_congr hfin fun _ => rfl))
    · rw [bif_dec, bif_dec, some_bind, bif_ne]
      by_cases h1 : r.Bib ≤ lastB f i
      · rw [if_pos h1]; exact ⟨true, rfl, by simp; omega⟩
      rw [if_neg h1]
      by_cases h2 : r.Bib > 9999
      · rw [if_pos h2]; exact ⟨true, rfl, by simp; omega⟩
      rw [if_neg h2]
      by_cases h3 : r.Keys.length = z.Keys.length
      · rw [if_pos (by omega)]
        refine ⟨_, rfl, ?_⟩
        rw [bne_iff_ne]
        omega
      · rw [if_neg (by omega)]; exact ⟨true, rfl, by simp [h3]⟩
    · rw [concat_eq hw1 hw2, some_bind, fuel_sub, field_L3 hk (by
        have : ∀ (ws : List (List TOutcome)), (∀ w, w ∈ ws → w.length ≤ 1000) → ws.flatten.length ≤ 1000 * ws.length := by
          intro ws
          induction ws with
          | nil => intro _; simp
          | cons a t ih =>
            intro h
            have h1 := ih (fun w hw => h w (by simp [hw]))
            have h2 := h a (by simp)
            simp only [List.flatten_cons, List.length_append, List.length_cons]
            omega
        have := this r.Worlds hw2
        omega)]
      refine chk_congr ?_ fun _ => ?_
      · simp only [List.mem_flatten]
        exact ⟨fun h w hw o ho => h o ⟨w, hw, ho⟩, fun h o ⟨w, hw, ho⟩ => h w hw o ho⟩
      · show m_field_Check_L2 f kk n r.Bib (w64 ((i : Int) + 1)) = _
        rw [w64_succ (by omega)]
  · show m_field_Check_L2 f kk (n + 1) _ ((f.Runners.length : Nat) : Int) = _
    rw [m_field_Check_L2]
    simp

theorem bib_eq (n : Int) : m_stopwatchref12_Bib n = some (decide (1 ≤ n ∧ n ≤ 9999)) := by
  unfold m_stopwatchref12_Bib m_stopwatchref12_in
  rw [bif_dec]
  by_cases h : 1 ≤ n
  · rw [if_pos (by omega)]; simp [h]
  · rw [if_neg (by omega)]; simp [h]

theorem ref24_L2 {f : TField} {kk : Unit → Option Int} (hk : ClocksOK f.Clocks) (hs : Small f) : m_stopwatchref24_Check_L2 f kk (f.Runners.length + 1) 0 = chk (∀ i, i < f.Runners.length → RunnerOK f i) 240 (kk ()) := by
  refine chk_loop (f := fun n i => m_stopwatchref24_Check_L2 f kk n (i : Int)) (fun n i hi => ?_) (fun n => ?_)
  · show m_stopwatchref24_Check_L2 f kk (n + 1) (i : Int) = _
    have hsr := hs.runners
    have hsp := hs.pairs
    have h0 : 0 < f.Runners.length := by omega
    rw [m_stopwatchref24_Check_L2, dec_lt_nat, decide_eq_true hi, cond_true, idx_lt hi, some_bind]
    have hx : f.Runners[i]? = some f.Runners[i] := by simp [hi]
    have hz : idx f.Runners 0 = some f.Runners[0] := idx_lt (i := 0) h0
    have hz' : f.Runners[0]? = some f.Runners[0] := by simp [h0]
    rw [hz]
    obtain ⟨hw0, hw1, hw2⟩ := hs.worlds _ (List.getElem_mem hi)
    generalize f.Runners[0] = z at hz'
    generalize f.Runners[i] = r at hx hw0 hw1 hw2
    have hok : ((1 ≤ r.Bib ∧ r.Bib ≤ 9999 ∧ (0 < i → ∀ q, f.Runners[i - 1]? = some q → q.Bib < r.Bib) ∧ r.Keys.length = z.Keys.length ∧ r.Worlds.length = f.Pairs.length + 1) ∧ ∀ w, w ∈ r.Worlds → ∀ o, o ∈ w → OutOK f.Clocks o) ↔ RunnerOK f i := by
      unfold RunnerOK; rw [hx, hz']; simp
    refine Eq.trans (bind_chk (p := 1 ≤ r.Bib ∧ r.Bib ≤ 9999 ∧ (0 < i → ∀ q, f.Runners[i - 1]? = some q → q.Bib < r.Bib) ∧ r.Keys.length = z.Keys.length ∧ r.Worlds.length = f.Pairs.length + 1) ?_) (Eq.trans (chk_and' fun h => ?_) (chk_congr hok fun _ => rfl))
    · rw [bib_eq, some_bind, bif_dec]
      by_cases h1 : 1 ≤ r.Bib ∧ r.Bib ≤ 9999
      · rw [decide_eq_true h1, Bool.not_true, cond_false]
        by_cases h6 : (i : Int) > 0
        · have h7 : 0 < i := by omega
          have h8 : i - 1 < f.Runners.length := by omega
          rw [if_pos h6, pred_nat h7 (by omega), idx_lt h8, List.getElem?_eq_getElem h8]
          simp only [some_bind, bif_dec, bif_ne, Option.some.injEq, forall_eq']
          generalize f.Runners[i - 1] = q
          by_cases h9 : q.Bib ≥ r.Bib
          · rw [if_pos h9]; exact ⟨true, rfl, by simp; omega⟩
          · rw [if_neg h9]
            by_cases h10 : r.Keys.length = z.Keys.length
            · rw [if_pos (by omega)]; refine ⟨_, rfl, ?_⟩
              rw [w64_succ (by omega), bne_iff_ne]; omega
            · rw [if_neg (by omega)]; exact ⟨true, rfl, by simp [h10]⟩
        · rw [if_neg h6, some_bind, bif_ne]
          have h7 : ¬0 < i := by omega
          by_cases h10 : r.Keys.length = z.Keys.length
          · rw [if_pos (by omega)]; refine ⟨_, rfl, ?_⟩
            rw [w64_succ (by omega), bne_iff_ne]; omega
          · rw [if_neg (by omega)]; exact ⟨true, rfl, by simp [h10]⟩
      · rw [decide_eq_false h1, Bool.not_false, cond_true]
        exact ⟨true, rfl, by simp; omega⟩
    · rw [fuel_sub, ref24_L3 hk hw1 hw2]
      show chk _ _ (m_stopwatchref24_Check_L2 f kk n (w64 ((i : Int) + 1))) = _
      rw [w64_succ (by omega)]
  · show m_stopwatchref24_Check_L2 f kk (n + 1) ((f.Runners.length : Nat) : Int) = _
    rw [m_stopwatchref24_Check_L2]
    simp

/-- The outcomes of a runner in a world. -/
def wl (l : List TRunner) (i w : Nat) : List TOutcome := ((l[i]?).bind fun r => r.Worlds[w]?).getD []

theorem wl_get {l : List TRunner} {i w : Nat} (hi : i < l.length) (hw : w < l[i].Worlds.length) : idx l[i].Worlds (w : Int) = some (wl l i w) := by
  rw [idx_lt hw]; unfold wl; simp [hi, hw]

def Poss (l : List TRunner) (w : Nat) : Prop := ∀ i, i < l.length → (wl l i w).length ≠ 0

theorem containsF_eq {l : List TRunner} {w : Nat} (hl : l.length ≤ 1000000) (hw : ∀ r, r ∈ l → w < r.Worlds.length) : ∃ b, m_slices_ContainsFunc_Runner_Runner_with_field_possible_1 l (w : Int) = some b ∧ (b = true ↔ ¬Poss l w) := by
  unfold m_slices_ContainsFunc_Runner_Runner_with_field_possible_1 m_slices_IndexFunc_Runner_Runner_with_field_possible_1
  rw [fuel_sub]
  obtain ⟨r, h1, h2⟩ := find_loop (N := l.length) (f := fun n i => m_slices_IndexFunc_Runner_Runner_with_field_possible_1_L1 l (w : Int) m_slices_IndexFunc_Runner_Runner_with_field_possible_1_J2 n (i : Int)) (p := fun i => (wl l i w).length = 0) (fun n i hi => by
    show m_slices_IndexFunc_Runner_Runner_with_field_possible_1_L1 l (w : Int) _ (n + 1) (i : Int) = _
    rw [m_slices_IndexFunc_Runner_Runner_with_field_possible_1_L1, dec_lt_nat, decide_eq_true hi, cond_true, idx_lt hi, some_bind, w64_succ (by omega)]
    unfold m_field_possible_1
    rw [wl_get hi (hw _ (List.getElem_mem hi)), some_bind, some_bind, bif_eq]
    by_cases h : (wl l i w).length = 0
    · rw [if_pos h, if_pos (by omega)]
    · rw [if_neg h, if_neg (by omega)]) (fun n => by
    show m_slices_IndexFunc_Runner_Runner_with_field_possible_1_L1 l (w : Int) _ (n + 1) ((l.length : Nat) : Int) = _
    rw [m_slices_IndexFunc_Runner_Runner_with_field_possible_1_L1]
    simp [m_slices_IndexFunc_Runner_Runner_with_field_possible_1_J2])
  refine ⟨decide (r ≥ 0), ?_, ?_⟩
  · have h1 : m_slices_IndexFunc_Runner_Runner_with_field_possible_1_L1 l (w : Int) m_slices_IndexFunc_Runner_Runner_with_field_possible_1_J2 (l.length + 1) 0 = some r := h1
    rw [h1]; rfl
  · rw [decide_eq_true_iff, h2]
    unfold Poss
    simp only [Classical.not_forall, Classical.not_not, exists_prop]

theorem field_possible_eq {f : TField} (hs : Small f) (hr : ∀ r, r ∈ f.Runners → r.Worlds.length = f.Pairs.length + 1) : m_field_possible f = chk (∀ w, w < f.Pairs.length + 1 → ¬Poss f.Runners w) true (some false) := by
  have hsr := hs.runners
  have hsp := hs.pairs
  unfold m_field_possible
  rw [w64_succ (by omega), fuel_sub]
  refine chk_loop (N := f.Pairs.length + 1) (f := fun n w => m_field_possible_L1 f m_field_possible_J2 n (w : Int)) (fun n w hw => ?_) (fun n => ?_)
  · show m_field_possible_L1 f m_field_possible_J2 (n + 1) (w : Int) = _
    obtain ⟨b, h1, h2⟩ := containsF_eq hsr (w := w) (fun r h => by rw [hr r h]; exact hw)
    rw [m_field_possible_L1, w64_succ (by omega), dec_lt_nat, decide_eq_true hw, cond_true, h1, some_bind, w64_succ (by omega)]
    cases b with
    | true => rw [chk_pos (h2.1 rfl)]; rfl
    | false => rw [chk_neg (fun h => by simpa using h2.2 h)]; rfl
  · show m_field_possible_L1 f m_field_possible_J2 (n + 1) ((f.Pairs.length + 1 : Nat) : Int) = _
    rw [m_field_possible_L1, w64_succ (by omega)]
    simp [m_field_possible_J2]

theorem ref24_Possible_eq {f : TField} (hs : Small f) (hr : ∀ r, r ∈ f.Runners → r.Worlds.length = f.Pairs.length + 1) {w : Nat} (hw : w < f.Pairs.length + 1) : m_stopwatchref24_Possible f (w : Int) = chk (Poss f.Runners w) false (some true) := by
  have hsr := hs.runners
  have hsp := hs.pairs
  unfold m_stopwatchref24_Possible
  rw [fuel_sub]
  refine chk_loop (f := fun n i => m_stopwatchref24_Possible_L1 f (w : Int) m_stopwatchref24_Possible_J2 n (i : Int)) (fun n i hi => ?_) (fun n => ?_)
  · show m_stopwatchref24_Possible_L1 f (w : Int) m_stopwatchref24_Possible_J2 (n + 1) (i : Int) = _
    have hwi : w < f.Runners[i].Worlds.length := by rw [hr _ (List.getElem_mem hi)]; exact hw
    rw [m_stopwatchref24_Possible_L1, dec_lt_nat, decide_eq_true hi, cond_true, bif_dec, if_neg (by omega), idx_lt hi, some_bind, bif_dec, if_neg (by omega), some_bind, wl_get hi hwi, some_bind, bif_eq, w64_succ (by omega)]
    by_cases h : (wl f.Runners i w).length = 0
    · rw [if_pos (by omega), chk_neg (fun h' => h' h)]
    · rw [if_neg (by omega), chk_pos h]
  · show m_stopwatchref24_Possible_L1 f (w : Int) m_stopwatchref24_Possible_J2 (n + 1) ((f.Runners.length : Nat) : Int) = _
    rw [m_stopwatchref24_Possible_L1]
    simp [m_stopwatchref24_Possible_J2]

theorem ref24_possible_eq {f : TField} (hs : Small f) (hr : ∀ r, r ∈ f.Runners → r.Worlds.length = f.Pairs.length + 1) : m_stopwatchref24_possible f = chk (∀ w, w < f.Pairs.length + 1 → ¬Poss f.Runners w) true (some false) := by
  have hsr := hs.runners
  have hsp := hs.pairs
  unfold m_stopwatchref24_possible
  rw [fuel_add]
  refine chk_loop (N := f.Pairs.length + 1) (f := fun n w => m_stopwatchref24_possible_L1 f m_stopwatchref24_possible_J2 n (w : Int)) (fun n w hw => ?_) (fun n => ?_)
  · show m_stopwatchref24_possible_L1 f m_stopwatchref24_possible_J2 (n + 1) (w : Int) = _
    rw [m_stopwatchref24_possible_L1, dec_le_nat, decide_eq_true hw, cond_true, ref24_Possible_eq hs hr hw, w64_succ (by omega)]
    by_cases h : Poss f.Runners w
    · rw [chk_pos h, chk_neg (fun h' => h' h)]; rfl
    · rw [chk_neg h, chk_pos h]; rfl
  · show m_stopwatchref24_possible_L1 f m_stopwatchref24_possible_J2 (n + 1) ((f.Pairs.length + 1 : Nat) : Int) = _
    rw [m_stopwatchref24_possible_L1, dec_le_nat]
    simp [m_stopwatchref24_possible_J2]

/-- A field that is valid. -/
structure FieldOK (f : TField) : Prop where
  clocks : ClocksOK f.Clocks
  size : f.Pairs.length ≤ 16 ∧ 1 ≤ f.Runners.length ∧ f.Runners.length ≤ 4000
  pair : ∀ i, i < f.Pairs.length → PairOK f.Pairs i
  runner : ∀ i, i < f.Runners.length → RunnerOK f i
  poss : ¬∀ w, w < f.Pairs.length + 1 → ¬Poss f.Runners w

theorem worlds_of {f : TField} (h : ∀ i, i < f.Runners.length → RunnerOK f i) : ∀ r, r ∈ f.Runners → r.Worlds.length = f.Pairs.length + 1 := by
  intro r hr
  obtain ⟨i, hi, rfl⟩ := List.mem_iff_getElem.1 hr
  exact (h i hi _ (by simp [hi])).1.2.2.2.2

theorem fieldOK_iff (f : TField) : (ClocksOK f.Clocks ∧ f.Pairs.length ≤ 16 ∧ 1 ≤ f.Runners.length ∧ f.Runners.length ≤ 4000) ∧ (∀ i, i < f.Pairs.length → PairOK f.Pairs i) ∧ (∀ i, i < f.Runners.length → RunnerOK f i) ∧ (¬∀ w, w < f.Pairs.length + 1 → ¬Poss f.Runners w) ↔ FieldOK f :=
  ⟨fun ⟨⟨a, b⟩, c, d, e⟩ => ⟨a, b, c, d, e⟩, fun ⟨a, b, c, d, e⟩ => ⟨⟨a, b⟩, c, d, e⟩⟩

theorem field_Check_eq {f : TField} (hs : Small f) : m_field_Check f = chk (FieldOK f) 240 (some 0) := by
  have hsg := hs.seg
  unfold m_field_Check
  refine Eq.trans (bind_chk (p := ClocksOK f.Clocks ∧ f.Pairs.length ≤ 16 ∧ 1 ≤ f.Runners.length ∧ f.Runners.length ≤ 4000) ?_) (Eq.trans (chk_and' (q := (∀ i, i < f.Pairs.length → PairOK f.Pairs i) ∧ (∀ i, i < f.Runners.length → RunnerOK f i) ∧ (¬∀ w, w < f.Pairs.length + 1 → ¬Poss f.Runners w)) fun h => ?_) (chk_congr (fieldOK_iff f) fun _ => rfl))
  · rw [clocks_Check_eq (by omega)]
    by_cases h1 : ClocksOK f.Clocks
    · rw [chk_pos h1, some_bind, bif_dec, bif_dec]
      simp only [bne_self_eq_false, cond_false]
      by_cases h2 : f.Pairs.length ≤ 16
      · rw [if_neg (by omega)]
        by_cases h3 : 1 ≤ f.Runners.length
        · rw [if_neg (by omega)]
          refine ⟨_, rfl, ?_⟩
          rw [decide_eq_true_iff]
          simp only [h1, h2, h3, true_and]
          omega
        · rw [if_pos (by omega)]; exact ⟨true, rfl, by simp [h3]⟩
      · rw [if_pos (by omega)]; exact ⟨true, rfl, by simp [h2]⟩
    · rw [chk_neg h1, some_bind]; exact ⟨true, rfl, by simp [h1]⟩
  · rw [fuel_sub, field_L1 hs.pairs]
    refine chk_and' fun h2 => ?_
    show m_field_Check_L2 f (m_field_Check_J5 f) _ 0 0 = _
    rw [fuel_sub, field_L2 h.1 hs]
    refine chk_and' fun h3 => ?_
    unfold m_field_Check_J5
    rw [field_possible_eq hs (worlds_of h3)]
    by_cases h4 : ∀ w, w < f.Pairs.length + 1 → ¬Poss f.Runners w
    · rw [chk_pos h4, chk_neg (fun h => h h4)]; rfl
    · rw [chk_neg h4, chk_pos h4]; rfl

theorem ref24_Check_eq {f : TField} (hs : Small f) : m_stopwatchref24_Check f = chk (FieldOK f) 240 (some 0) := by
  have hsg := hs.seg
  unfold m_stopwatchref24_Check
  refine Eq.trans (bind_chk (p := ClocksOK f.Clocks ∧ f.Pairs.length ≤ 16 ∧ 1 ≤ f.Runners.length ∧ f.Runners.length ≤ 4000) ?_) (Eq.trans (chk_and' (q := (∀ i, i < f.Pairs.length → PairOK f.Pairs i) ∧ (∀ i, i < f.Runners.length → RunnerOK f i) ∧ (¬∀ w, w < f.Pairs.length + 1 → ¬Poss f.Runners w)) fun h => ?_) (chk_congr (fieldOK_iff f) fun _ => rfl))
  · rw [ref16_Check_eq (by omega)]
    by_cases h1 : ClocksOK f.Clocks
    · rw [chk_pos h1, some_bind, bif_dec, bif_dec]
      simp only [bne_self_eq_false, cond_false]
      by_cases h2 : f.Pairs.length ≤ 16
      · rw [if_neg (by omega)]
        by_cases h3 : 1 ≤ f.Runners.length
        · rw [if_neg (by omega)]
          refine ⟨_, rfl, ?_⟩
          rw [decide_eq_true_iff]
          simp only [h1, h2, h3, true_and]
          omega
        · rw [if_pos (by omega)]; exact ⟨true, rfl, by simp [h3]⟩
      · rw [if_pos (by omega)]; exact ⟨true, rfl, by simp [h2]⟩
    · rw [chk_neg h1, some_bind]; exact ⟨true, rfl, by simp [h1]⟩
  · rw [fuel_sub, ref24_L1 hs.pairs]
    refine chk_and' fun h2 => ?_
    show m_stopwatchref24_Check_L2 f (m_stopwatchref24_Check_J7 f) _ 0 = _
    rw [fuel_sub, ref24_L2 h.1 hs]
    refine chk_and' fun h3 => ?_
    unfold m_stopwatchref24_Check_J7
    rw [ref24_possible_eq hs (worlds_of h3)]
    by_cases h4 : ∀ w, w < f.Pairs.length + 1 → ¬Poss f.Runners w
    · rw [chk_pos h4, chk_neg (fun h => h h4)]; rfl
    · rw [chk_neg h4, chk_pos h4]; rfl

theorem w64_add (a b : Int) : w64 (a + w64 b) = w64 (a + b) := by
  unfold w64; simp only [IntKind.wrap, IntKind.bits, IntKind.signed]; simp; omega

def InR (f : TField) (a : Int) : Prop := 0 ≤ a ∧ a < f.Runners.length

theorem ranks_check_eq {f : TField} (hs : Small f) {l : List Int} (hl : l.length ≤ 1000) : m_ranks_check f l = chk (FieldOK f) 240 (chk (∀ a, a ∈ l → InR f a) 250 (some 0)) := by
  unfold m_ranks_check
  rw [field_Check_eq hs]
  by_cases h : FieldOK f
  · rw [chk_pos h, chk_pos h, some_bind]
    simp only [bne_self_eq_false, cond_false]
    rw [fuel_sub]
    refine (chk_loop (ok := fun j => ∀ a, l[j]? = some a → InR f a) (k := some 0) (r := 250) (f := fun n j => m_ranks_check_L1 f l m_ranks_check_J2 n (j : Int)) (fun n j hj => ?_) (fun n => ?_)).trans (chk_congr all_get fun _ => rfl)
    · show m_ranks_check_L1 f l m_ranks_check_J2 (n + 1) (j : Int) = _
      rw [m_ranks_check_L1, dec_lt_nat, decide_eq_true hj, cond_true, idx_lt hj, some_bind, w64_succ (by omega), bif_dec, bif_dec]
      have hx : l[j]? = some l[j] := by simp [hj]
      rw [hx]
      generalize l[j] = a
      simp only [Option.some.injEq, forall_eq']
      unfold InR
      by_cases h1 : a < 0
      · rw [if_pos h1, chk_neg (by omega)]
      · rw [if_neg h1]
        by_cases h2 : a ≥ (f.Runners.length : Int)
        · rw [if_pos h2, chk_neg (by omega)]
        · rw [if_neg h2, chk_pos (by omega)]
    · show m_ranks_check_L1 f l m_ranks_check_J2 (n + 1) ((l.length : Nat) : Int) = _
      rw [m_ranks_check_L1]
      simp [m_ranks_check_J2]
  · rw [chk_neg h, chk_neg h]; rfl

theorem ref25_check_eq {f : TField} (hs : Small f) (a : Int) : m_stopwatchref25_check f a = chk (FieldOK f) 240 (chk (InR f a) 250 (some 0)) := by
  unfold m_stopwatchref25_check
  rw [ref24_Check_eq hs]
  by_cases h : FieldOK f
  · rw [chk_pos h, chk_pos h, some_bind]
    simp only [bne_self_eq_false, cond_false]
    rw [bif_dec, bif_dec]
    unfold InR
    by_cases h1 : a < 0
    · rw [if_pos h1, chk_neg (by omega)]
    · rw [if_neg h1]
      by_cases h2 : a ≥ (f.Runners.length : Int)
      · rw [if_pos h2, chk_neg (by omega)]
      · rw [if_neg h2, chk_pos (by omega)]
  · rw [chk_neg h, chk_neg h]; rfl

/-- Keys compared: both ways of doing it. -/
theorem less_compare (a b : List Int) (ha : a.length < 9223372036854775807) : ∃ r t, m_slices_Compare_int_int a b = some r ∧ m_stopwatchref25_Less a b = some t ∧ (r < 0 ↔ t = true) := by
  unfold m_slices_Compare_int_int m_stopwatchref25_Less
  rw [fuel_sub]
  have key : ∀ c i n, i + c = a.length → c ≤ n → ∃ r t, m_slices_Compare_int_int_L1 a b (m_slices_Compare_int_int_J2 a b) (n + 1) (i : Int) = some r ∧ m_stopwatchref25_Less_L1 a b (m_stopwatchref25_Less_J2 a b) (n + 1) (i : Int) = some t ∧ (i ≤ b.length → (r < 0 ↔ t = true)) := by
    intro c
    induction c with
    | zero =>
      intro i n h _
      have : i = a.length := by omega
      subst this
      rw [m_slices_Compare_int_int_L1, m_stopwatchref25_Less_L1]
      simp only [dec_lt_nat, Nat.lt_irrefl, decide_false, cond_false]
      unfold m_slices_Compare_int_int_J2 m_stopwatchref25_Less_J2
      rw [dec_lt_nat, bif_dec]
      by_cases h1 : a.length < b.length
      · rw [if_pos h1]; exact ⟨_, _, rfl, rfl, fun _ => by simp [h1]⟩
      · rw [if_neg h1]; exact ⟨_, _, rfl, rfl, fun _ => by simp [h1]⟩
    | succ c ih =>
      intro i n h hn
      obtain ⟨n, rfl⟩ : ∃ n', n = n' + 1 := ⟨n - 1, by omega⟩
      have hi : i < a.length := by omega
      obtain ⟨r, t, h1, h2, h3⟩ := ih (i + 1) n (by omega) (by omega)
      rw [m_slices_Compare_int_int_L1, m_stopwatchref25_Less_L1, dec_lt_nat, decide_eq_true hi, cond_true, cond_true, idx_lt hi, some_bind, w64_succ (by omega), h1, h2]
      by_cases hb : i < b.length
      · rw [bif_dec, if_neg (by omega), dec_lt_nat, decide_eq_true hb, cond_true, idx_lt hb]
        simp only [some_bind, cmp_eq, bif_ne]
        generalize a[i] = p
        generalize b[i] = q
        rcases Int.lt_trichotomy p q with h5 | h5 | h5
        · have hX : (if p < q then (-1 : Int) else if q < p then 1 else 0) = -1 := if_pos h5
          rw [hX, if_neg (by decide), if_neg (by omega)]
          exact ⟨_, _, rfl, rfl, fun _ => by simp [h5]⟩
        · have hX : (if p < q then (-1 : Int) else if q < p then 1 else 0) = 0 := by rw [if_neg (by omega), if_neg (by omega)]
          rw [hX, if_pos rfl, if_pos h5]
          exact ⟨r, t, rfl, rfl, fun _ => h3 (by omega)⟩
        · have hX : (if p < q then (-1 : Int) else if q < p then 1 else 0) = 1 := by rw [if_neg (by omega), if_pos h5]
          rw [hX, if_neg (by decide), if_neg (by omega)]
          exact ⟨_, _, rfl, rfl, fun _ => by simp; omega⟩
      · rw [bif_dec, if_pos (by omega), dec_lt_nat, decide_eq_false hb, cond_false]
        unfold m_stopwatchref25_Less_J2
        refine ⟨_, _, rfl, rfl, fun _ => ?_⟩
        rw [dec_lt_nat]
        simp; omega
  obtain ⟨r, t, h1, h2, h3⟩ := key a.length 0 a.length (by omega) (by omega)
  exact ⟨r, t, h1, h2, h3 (by omega)⟩

theorem inR_nat {f : TField} {a : Int} (h : InR f a) : ∃ i : Nat, a = (i : Int) ∧ i < f.Runners.length := by
  obtain ⟨h1, h2⟩ := h
  exact ⟨a.toNat, by omega, by omega⟩

theorem seg_nat {k : TClocks} {x : TOutcome} (hk : ClocksOK k) (h : OutOK k x) (ho : x.Out = false) : ∃ i : Nat, w64 (x.Seg + 1) = (i : Int) ∧ i < k.Segments.length + 1 := by
  obtain ⟨h1, h2, _⟩ := h.2 ho
  have := hk.few
  exact ⟨(x.Seg + 1).toNat, by rw [w64_of (by omega) (by omega)]; omega, by omega⟩

theorem far_get {k : TClocks} (hk : ClocksOK k) {i j : Nat} (hi : i < k.Segments.length + 1) (hj : j < k.Segments.length + 1) : ∃ row, idx k.Far (i : Int) = some row ∧ idx row (j : Int) = some (at2 k.Far i j) := by
  obtain ⟨row, h1, h2, h3⟩ := rows_get hk.row hk.far hi
  exact ⟨row, h2, idx2 h1 (by omega)⟩

theorem best_late {f : TField} (hs : Small f) (hf : FieldOK f) {a b : Int} (ha : InR f a) (hb : InR f b) {x y : TOutcome} (hx : OutOK f.Clocks x) (hy : OutOK f.Clocks y) (hxo : x.Out = false) (hyo : y.Out = false) :
    ∃ t, m_ranks_direction_ahead_with_ranks_best_2 f b y a x = some t ∧ m_stopwatchref25_late f y b x a = some (!t) := by
  obtain ⟨ia, rfl, hia⟩ := inR_nat ha
  obtain ⟨ib, rfl, hib⟩ := inR_nat hb
  obtain ⟨i, e1, hi⟩ := seg_nat hf.clocks hy hyo
  obtain ⟨j, e2, hj⟩ := seg_nat hf.clocks hx hxo
  obtain ⟨row, h1, h2⟩ := far_get hf.clocks hi hj
  unfold m_ranks_direction_ahead_with_ranks_best_2 m_stopwatchref25_late m_ranks_hi m_ranks_lo m_ranks_best_1
  have hl : f.Runners[ia].Keys.length < 9223372036854775807 := by have := (hs.worlds _ (List.getElem_mem hia)).1; omega
  obtain ⟨r, t, h3, h4, h5⟩ := less_compare f.Runners[ia].Keys f.Runners[ib].Keys hl
  simp only [hxo, cond_false, some_bind, e1, e2, h1, h2, idx_lt hia, idx_lt hib, h3, h4, bif_dec, bif_eq]
  generalize w64 (w64 (x.Hi + at2 f.Clocks.Far i j) - y.Lo) = d
  by_cases h6 : d < 0
  · rw [if_pos h6, if_neg (by omega), if_neg (by omega)]; exact ⟨true, rfl, rfl⟩
  · rw [if_neg h6]
    by_cases h7 : d = 0
    · rw [if_pos h7, if_neg (by omega), if_pos h7]
      refine ⟨_, rfl, ?_⟩
      congr 2
      cases t with
      | true => simpa using h5
      | false => simp at h5; simp; omega
    · rw [if_neg h7, if_pos (by omega)]; exact ⟨false, rfl, rfl⟩

theorem worst_early {f : TField} (hs : Small f) (hf : FieldOK f) {a b : Int} (ha : InR f a) (hb : InR f b) {x y : TOutcome} (hx : OutOK f.Clocks x) (hy : OutOK f.Clocks y) (hxo : x.Out = false) (hyo : y.Out = false) :
    ∃ t, m_ranks_direction_ahead_with_ranks_worst_2 f b y a x = some t ∧ m_stopwatchref25_early f y b x a = some t := by
  obtain ⟨ia, rfl, hia⟩ := inR_nat ha
  obtain ⟨ib, rfl, hib⟩ := inR_nat hb
  obtain ⟨i, e1, hi⟩ := seg_nat hf.clocks hy hyo
  obtain ⟨j, e2, hj⟩ := seg_nat hf.clocks hx hxo
  obtain ⟨row, h1, h2⟩ := far_get hf.clocks hj hi
  unfold m_ranks_direction_ahead_with_ranks_worst_2 m_stopwatchref25_early m_ranks_hi m_ranks_lo m_ranks_worst_1
  have hl : f.Runners[ia].Keys.length < 9223372036854775807 := by have := (hs.worlds _ (List.getElem_mem hia)).1; omega
  obtain ⟨r, t, h3, h4, h5⟩ := less_compare f.Runners[ia].Keys f.Runners[ib].Keys hl
  have hd : x.Lo + (0 - at2 f.Clocks.Far j i) = x.Lo - at2 f.Clocks.Far j i := by omega
  simp only [hxo, cond_false, some_bind, e1, e2, h1, h2, idx_lt hia, idx_lt hib, h3, h4, bif_dec, bif_eq, w64_add, hd]
  generalize w64 (w64 (x.Lo - at2 f.Clocks.Far j i) - y.Hi) = d
  by_cases h6 : d < 0
  · rw [if_pos h6, if_pos h6]; exact ⟨true, rfl, rfl⟩
  · rw [if_neg h6, if_neg h6]
    by_cases h7 : d = 0
    · rw [if_pos h7, if_pos h7]
      refine ⟨_, rfl, ?_⟩
      congr 1
      cases t with
      | true => simpa using h5
      | false => simp at h5; simp; omega
    · rw [if_neg h7, if_neg h7]; exact ⟨false, rfl, rfl⟩

theorem wl_mem {f : TField} (hf : FieldOK f) {i w : Nat} (hi : i < f.Runners.length) (hw : w < f.Pairs.length + 1) : wl f.Runners i w ∈ f.Runners[i].Worlds ∧ idx f.Runners[i].Worlds (w : Int) = some (wl f.Runners i w) := by
  have hl := worlds_of hf.runner _ (List.getElem_mem hi)
  have hw' : w < f.Runners[i].Worlds.length := by omega
  refine ⟨?_, wl_get hi hw'⟩
  unfold wl
  simp [hi, hw']

theorem wl_ok {f : TField} (hf : FieldOK f) {i w : Nat} (hi : i < f.Runners.length) (hw : w < f.Pairs.length + 1) : ∀ o, o ∈ wl f.Runners i w → OutOK f.Clocks o :=
  fun o ho => (hf.runner i hi _ (by simp [hi])).2 _ (wl_mem hf hi hw).1 o ho

theorem wl_len {f : TField} (hs : Small f) (hf : FieldOK f) {i w : Nat} (hi : i < f.Runners.length) (hw : w < f.Pairs.length + 1) : (wl f.Runners i w).length ≤ 1000 :=
  (hs.worlds _ (List.getElem_mem hi)).2.2 _ (wl_mem hf hi hw).1

theorem sane_true : m_stopwatchlaw25_sane = some true := by kernel_rfl

theorem containsW_eq {l : List TRunner} {w : Nat} (hl : l.length ≤ 1000000) (hw : ∀ r, r ∈ l → w < r.Worlds.length) : ∃ b, m_slices_ContainsFunc_Runner_Runner_with_ranks_worlds_1_1 l (w : Int) = some b ∧ (b = true ↔ ¬Poss l w) := by
  unfold m_slices_ContainsFunc_Runner_Runner_with_ranks_worlds_1_1 m_slices_IndexFunc_Runner_Runner_with_ranks_worlds_1_1
  rw [fuel_sub]
  obtain ⟨r, h1, h2⟩ := find_loop (N := l.length) (f := fun n i => m_slices_IndexFunc_Runner_Runner_with_ranks_worlds_1_1_L1 l (w : Int) m_slices_IndexFunc_Runner_Runner_with_ranks_worlds_1_1_J2 n (i : Int)) (p := fun i => (wl l i w).length = 0) (fun n i hi => by
    show m_slices_IndexFunc_Runner_Runner_with_ranks_worlds_1_1_L1 l (w : Int) _ (n + 1) (i : Int) = _
    rw [m_slices_IndexFunc_Runner_Runner_with_ranks_worlds_1_1_L1, dec_lt_nat, decide_eq_true hi, cond_true, idx_lt hi, some_bind, w64_succ (by omega)]
    unfold m_ranks_worlds_1_1
    rw [wl_get hi (hw _ (List.getElem_mem hi)), some_bind, some_bind, bif_eq]
    by_cases h : (wl l i w).length = 0
    · rw [if_pos h, if_pos (by omega)]
    · rw [if_neg h, if_neg (by omega)]) (fun n => by
    show m_slices_IndexFunc_Runner_Runner_with_ranks_worlds_1_1_L1 l (w : Int) _ (n + 1) ((l.length : Nat) : Int) = _
    rw [m_slices_IndexFunc_Runner_Runner_with_ranks_worlds_1_1_L1]
    simp [m_slices_IndexFunc_Runner_Runner_with_ranks_worlds_1_1_J2])
  refine ⟨decide (r ≥ 0), ?_, ?_⟩
  · have h1 : m_slices_IndexFunc_Runner_Runner_with_ranks_worlds_1_1_L1 l (w : Int) m_slices_IndexFunc_Runner_Runner_with_ranks_worlds_1_1_J2 (l.length + 1) 0 = some r := h1
    rw [h1]; rfl
  · rw [decide_eq_true_iff, h2]
    unfold Poss
    simp only [Classical.not_forall, Classical.not_not, exists_prop]

theorem worlds_eq {f : TField} (hs : Small f) (hf : FieldOK f) : m_ranks_worlds_1 f.Clocks.Segments f.Clocks.Far f.Pairs f.Runners = some (listP (Poss f.Runners) 0 (f.Pairs.length + 1)) := by
  have hsr := hs.runners
  have hsp := hs.pairs
  unfold m_ranks_worlds_1
  rw [w64_succ (by omega), fuel_sub]
  refine it_loop (N := f.Pairs.length + 1) (f := fun n w => m_ranks_worlds_1_L1 f.Pairs f.Runners m_ranks_worlds_1_J2 n (w : Int)) (fun n w hw => ?_) (fun n => ?_)
  · show m_ranks_worlds_1_L1 f.Pairs f.Runners m_ranks_worlds_1_J2 (n + 1) (w : Int) = _
    obtain ⟨b, h1, h2⟩ := containsW_eq hsr (w := w) (fun r h => by rw [worlds_of hf.runner r h]; exact hw)
    rw [m_ranks_worlds_1_L1, w64_succ (by omega), dec_lt_nat, decide_eq_true hw, cond_true, h1, some_bind, w64_succ (by omega)]
    cases b with
    | true => rw [if_neg (h2.1 rfl)]; rfl
    | false => rw [if_pos (Classical.byContradiction fun h => by simpa using h2.2 h)]; rfl
  · show m_ranks_worlds_1_L1 f.Pairs f.Runners m_ranks_worlds_1_J2 (n + 1) ((f.Pairs.length + 1 : Nat) : Int) = _
    rw [m_ranks_worlds_1_L1, w64_succ (by omega)]
    simp [m_ranks_worlds_1_J2]

theorem ref25_Possible_eq {f : TField} (hs : Small f) (hf : FieldOK f) {w : Nat} (hw : w < f.Pairs.length + 1) : m_stopwatchref25_Possible f (w : Int) = chk (Poss f.Runners w) false (some true) := by
  have hsr := hs.runners
  have hsp := hs.pairs
  unfold m_stopwatchref25_Possible
  rw [fuel_sub, bif_dec, if_neg (by omega), bif_dec, if_neg (by omega)]
  refine chk_loop (f := fun n i => m_stopwatchref25_Possible_L1 f (w : Int) m_stopwatchref25_Possible_J2 n (i : Int)) (fun n i hi => ?_) (fun n => ?_)
  · show m_stopwatchref25_Possible_L1 f (w : Int) m_stopwatchref25_Possible_J2 (n + 1) (i : Int) = _
    have hwi : w < f.Runners[i].Worlds.length := by rw [worlds_of hf.runner _ (List.getElem_mem hi)]; exact hw
    rw [m_stopwatchref25_Possible_L1, dec_lt_nat, decide_eq_true hi, cond_true, idx_lt hi, some_bind, bif_dec, if_neg (by omega), some_bind, wl_get hi hwi, some_bind, bif_eq, w64_succ (by omega)]
    by_cases h : (wl f.Runners i w).length = 0
    · rw [if_pos (by omega), chk_neg (fun h' => h' h)]
    · rw [if_neg (by omega), chk_pos h]
  · show m_stopwatchref25_Possible_L1 f (w : Int) m_stopwatchref25_Possible_J2 (n + 1) ((f.Runners.length : Nat) : Int) = _
    rw [m_stopwatchref25_Possible_L1]
    simp [m_stopwatchref25_Possible_J2]

theorem few_L2 {x : TRunner} {kk : Unit → Option Bool} (h : x.Worlds.length ≤ 4) : m_stopwatchref25_Few_L2 x kk (x.Worlds.length + 1) 0 = chk (∀ w, w ∈ x.Worlds → w.length ≤ 4) false (kk ()) := by
  refine (chk_loop (ok := fun j => ∀ w, x.Worlds[j]? = some w → w.length ≤ 4) (k := kk ()) (r := false) (f := fun n j => m_stopwatchref25_Few_L2 x kk n (j : Int)) (fun n j hj => ?_) (fun n => ?_)).trans (chk_congr all_get fun _ => rfl)
  · show m_stopwatchref25_Few_L2 x kk (n + 1) (j : Int) = _
    have hx : x.Worlds[j]? = some x.Worlds[j] := by simp [hj]
    rw [m_stopwatchref25_Few_L2, dec_lt_nat, decide_eq_true hj, cond_true, idx_lt hj, some_bind, bif_dec, w64_succ (by omega), hx]
    generalize x.Worlds[j] = w
    simp only [Option.some.injEq, forall_eq']
    by_cases h1 : w.length ≤ 4
    · rw [if_neg (by omega), chk_pos h1]
    · rw [if_pos (by omega), chk_neg h1]
  · show m_stopwatchref25_Few_L2 x kk (n + 1) ((x.Worlds.length : Nat) : Int) = _
    rw [m_stopwatchref25_Few_L2]
    simp

def FewR (r : TRunner) : Prop := r.Keys.length ≤ 5 ∧ r.Worlds.length ≤ 4 ∧ ∀ w, w ∈ r.Worlds → w.length ≤ 4

theorem few_L1 {f : TField} {kk : Unit → Option Bool} (hl : f.Runners.length ≤ 9223372036854775807) : m_stopwatchref25_Few_L1 f kk (f.Runners.length + 1) 0 = chk (∀ r, r ∈ f.Runners → FewR r) false (kk ()) := by
  refine (chk_loop (ok := fun j => ∀ r, f.Runners[j]? = some r → FewR r) (k := kk ()) (r := false) (f := fun n j => m_stopwatchref25_Few_L1 f kk n (j : Int)) (fun n j hj => ?_) (fun n => ?_)).trans (chk_congr all_get fun _ => rfl)
  · show m_stopwatchref25_Few_L1 f kk (n + 1) (j : Int) = _
    have hx : f.Runners[j]? = some f.Runners[j] := by simp [hj]
    rw [m_stopwatchref25_Few_L1, dec_lt_nat, decide_eq_true hj, cond_true, idx_lt hj, some_bind, bif_dec, bif_dec, hx]
    generalize f.Runners[j] = r
    simp only [Option.some.injEq, forall_eq']
    unfold FewR
    by_cases h1 : r.Keys.length ≤ 5
    · rw [if_neg (by omega)]
      by_cases h2 : r.Worlds.length ≤ 4
      · rw [if_neg (by omega), fuel_sub, few_L2 h2]
        refine chk_congr (by simp [h1, h2]) fun _ => ?_
        show m_stopwatchref25_Few_L1 f kk n (w64 ((j : Int) + 1)) = _
        rw [w64_succ (by omega)]
      · rw [if_pos (by omega), chk_neg (fun h => h2 h.2.1)]
    · rw [if_pos (by omega), chk_neg (fun h => h1 h.1)]
  · show m_stopwatchref25_Few_L1 f kk (n + 1) ((f.Runners.length : Nat) : Int) = _
    rw [m_stopwatchref25_Few_L1]
    simp

theorem few_L4 {f : TField} {kk : Unit → Option Bool} (hl : f.Clocks.Far.length ≤ 9223372036854775807) : m_stopwatchref25_Few_L4 f kk (f.Clocks.Far.length + 1) 0 = chk (∀ r, r ∈ f.Clocks.Far → r.length ≤ 8) false (kk ()) := by
  refine (chk_loop (ok := fun j => ∀ r, f.Clocks.Far[j]? = some r → r.length ≤ 8) (k := kk ()) (r := false) (f := fun n j => m_stopwatchref25_Few_L4 f kk n (j : Int)) (fun n j hj => ?_) (fun n => ?_)).trans (chk_congr all_get fun _ => rfl)
  · show m_stopwatchref25_Few_L4 f kk (n + 1) (j : Int) = _
    have hx : f.Clocks.Far[j]? = some f.Clocks.Far[j] := by simp [hj]
    rw [m_stopwatchref25_Few_L4, dec_lt_nat, decide_eq_true hj, cond_true, idx_lt hj, some_bind, bif_dec, hx, w64_succ (by omega)]
    generalize f.Clocks.Far[j] = r
    simp only [Option.some.injEq, forall_eq']
    by_cases h1 : r.length ≤ 8
    · rw [if_neg (by omega), chk_pos h1]
    · rw [if_pos (by omega), chk_neg h1]
  · show m_stopwatchref25_Few_L4 f kk (n + 1) ((f.Clocks.Far.length : Nat) : Int) = _
    rw [m_stopwatchref25_Few_L4]
    simp

structure FewOK (f : TField) : Prop where
  runner : ∀ r, r ∈ f.Runners → FewR r
  far : ∀ r, r ∈ f.Clocks.Far → r.length ≤ 8
  runners : f.Runners.length ≤ 6
  pairs : f.Pairs.length ≤ 3
  segs : f.Clocks.Segments.length ≤ 4
  rows : f.Clocks.Far.length ≤ 6

theorem FewOK.small {f : TField} (h : FewOK f) : Small f where
  seg := by have := h.segs; omega
  pairs := by have := h.pairs; omega
  runners := by have := h.runners; omega
  worlds r hr := by
    obtain ⟨h1, h2, h3⟩ := h.runner r hr
    exact ⟨by omega, by omega, fun w hw => by have := h3 w hw; omega⟩

theorem few_eq {f : TField} (hw : wTField f) : ∃ b, m_stopwatchref25_Few f = some b ∧ (b = true ↔ FewOK f) := by
  obtain ⟨⟨_, hfar⟩, _, hrun⟩ := hw
  unfold m_stopwatchref25_Few
  rw [fuel_sub, few_L1 (Nat.le_trans hrun.1 (by decide))]
  unfold m_stopwatchref25_Few_J6
  rw [fuel_sub, few_L4 (Nat.le_trans hfar.1 (by decide))]
  unfold m_stopwatchref25_Few_J5
  by_cases h1 : ∀ r, r ∈ f.Runners → FewR r
  · rw [chk_pos h1]
    by_cases h2 : ∀ r, r ∈ f.Clocks.Far → r.length ≤ 8
    · rw [chk_pos h2]
      refine ⟨_, rfl, ?_⟩
      simp only [Bool.and_eq_true, decide_eq_true_eq]
      exact ⟨fun ⟨a, b, c, d⟩ => ⟨h1, h2, by omega, by omega, by omega, by omega⟩, fun h => by
        have := h.runners; have := h.pairs; have := h.segs; have := h.rows
        omega⟩
    · rw [chk_neg h2]
      exact ⟨false, rfl, by simp; exact fun h => h2 h.far⟩
  · rw [chk_neg h1]
    exact ⟨false, rfl, by simp; exact fun h => h1 h.runner⟩

/-- A loop that leaves at the first element that is sought. -/
theorem find_at {α β : Type} {l : List α} {f : Nat → Nat → Option β} {p : α → Bool} {A : Nat → α → β} {k : Option β}
    (hs : ∀ n i (h : i < l.length), f (n + 1) i = if p l[i] = true then some (A i l[i]) else f n (i + 1)) (he : ∀ n, f (n + 1) l.length = k) :
    (∃ i, ∃ h : i < l.length, p l[i] = true ∧ f (l.length + 1) 0 = some (A i l[i]) ∧ ∀ j (hj : j < l.length), j < i → p l[j] = false) ∨ ((∀ x, x ∈ l → p x = false) ∧ f (l.length + 1) 0 = k) := by
  have key : ∀ c i n, i + c = l.length → c ≤ n → (∀ j (hj : j < l.length), j < i → p l[j] = false) → (∃ i', ∃ h : i' < l.length, p l[i'] = true ∧ f (n + 1) i = some (A i' l[i']) ∧ ∀ j (hj : j < l.length), j < i' → p l[j] = false) ∨ ((∀ x, x ∈ l → p x = false) ∧ f (n + 1) i = k) := by
    intro c
    induction c with
    | zero =>
      intro i n h _ hp
      have : i = l.length := by omega
      subst this
      refine .inr ⟨fun x hx => ?_, he n⟩
      obtain ⟨j, hj, rfl⟩ := List.mem_iff_getElem.1 hx
      exact hp j hj hj
    | succ c ih =>
      intro i n h hn hp
      have hi : i < l.length := by omega
      rw [hs n i hi]
      obtain ⟨n, rfl⟩ : ∃ n', n = n' + 1 := ⟨n - 1, by omega⟩
      by_cases h1 : p l[i] = true
      · rw [if_pos h1]
        exact .inl ⟨i, hi, h1, rfl, hp⟩
      · rw [if_neg h1]
        refine ih (i + 1) n (by omega) (by omega) fun j hj hlt => ?_
        by_cases e : j = i
        · subst e; simpa using h1
        · exact hp j hj (by omega)
  exact key l.length 0 l.length (by omega) (by omega) (fun j _ h => absurd h (by omega))

theorem any_loop {α β : Type} {l : List α} {f : Nat → Nat → Option β} {p : α → Bool} {r : β} {k : Option β}
    (hs : ∀ n i (h : i < l.length), f (n + 1) i = if p l[i] = true then some r else f n (i + 1)) (he : ∀ n, f (n + 1) l.length = k) :
    f (l.length + 1) 0 = if l.any p = true then some r else k := by
  rcases find_at (A := fun _ _ => r) hs he with ⟨i, h, h1, h2, _⟩ | ⟨h1, h2⟩
  · rw [h2, if_pos]
    rw [List.any_eq_true]
    exact ⟨_, List.getElem_mem h, h1⟩
  · rw [h2, if_neg]
    intro h
    obtain ⟨x, hx, hp⟩ := List.any_eq_true.1 h
    rw [h1 x hx] at hp
    cases hp

/-- A loop that counts. -/
theorem count_loop {β : Type} {N : Nat} {f : Nat → Nat → Int → Option β} {p : Nat → Bool} {k : Int → Option β} {c0 : Int}
    (hs : ∀ n i c, i < N → c0 ≤ c → c ≤ c0 + (i : Int) → f (n + 1) i c = f n (i + 1) (if p i = true then c + 1 else c)) (he : ∀ n c, f (n + 1) N c = k c) :
    f (N + 1) 0 c0 = k (c0 + ((List.range N).countP p : Nat)) := by
  have key : ∀ c i n, i + c = N → c ≤ n → f (n + 1) i (c0 + ((List.range i).countP p : Nat)) = k (c0 + ((List.range N).countP p : Nat)) := by
    intro c
    induction c with
    | zero =>
      intro i n h _
      have : i = N := by omega
      subst this
      exact he n _
    | succ c ih =>
      intro i n h hn
      have hle : (List.range i).countP p ≤ i := by have := List.countP_le_length (p := p) (l := List.range i); simpa using this
      obtain ⟨n, rfl⟩ : ∃ n', n = n' + 1 := ⟨n - 1, by omega⟩
      rw [hs _ i _ (by omega) (by omega) (by omega), ← ih (i + 1) n (by omega) (by omega), List.range_succ, List.countP_append]
      congr 1
      by_cases hp : p i = true
      · simp [hp]; omega
      · simp [hp]
  have := key N 0 N (by omega) (by omega)
  simpa using this

theorem count_le {N : Nat} {p : Nat → Bool} : (List.range N).countP p ≤ N := by
  have := List.countP_le_length (p := p) (l := List.range N); simpa using this

/-- A loop that keeps what is known of its state, and goes on. -/
theorem inv_loop {σ β : Type} {N : Nat} {f : Nat → Nat → σ → Option β} {k : σ → Option β} {I : Nat → σ → Prop} (hs : ∀ i s, i < N → I i s → ∃ s', I (i + 1) s' ∧ ∀ n, f (n + 1) i s = f n (i + 1) s') (he : ∀ n s, f (n + 1) N s = k s) {s0 : σ} (h0 : I 0 s0) :
    ∃ s, f (N + 1) 0 s0 = k s ∧ I N s := by
  have key : ∀ c i n s, i + c = N → c ≤ n → I i s → ∃ s', f (n + 1) i s = k s' ∧ I N s' := by
    intro c
    induction c with
    | zero =>
      intro i n s h _ hi
      have : i = N := by omega
      subst this
      exact ⟨s, he n s, hi⟩
    | succ c ih =>
      intro i n s h hn hi
      obtain ⟨s', h1, h2⟩ := hs i s (by omega) hi
      obtain ⟨n, rfl⟩ : ∃ n', n = n' + 1 := ⟨n - 1, by omega⟩
      rw [h2]
      exact ih (i + 1) n s' (by omega) (by omega) h1
  exact key N 0 N s0 (by omega) (by omega) h0

/-- A range over an iterator that keeps what is known. -/
theorem worlds_inv {σ : Type} {N : Nat} {p : Nat → Prop} {G : Int → σ → Option σ} {I : Nat → σ → Prop} (hs : ∀ i s, i < N → p i → I i s → ∃ s', G (i : Int) s = some s' ∧ I (i + 1) s') (hn : ∀ i s, i < N → ¬p i → I i s → I (i + 1) s) {s0 : σ} (h0 : I 0 s0) :
    ∃ s, foldO G (listP p 0 N) s0 = some s ∧ I N s := by
  have key : ∀ c i s, i + c = N → I i s → ∃ s', foldO G (listP p i c) s = some s' ∧ I N s' := by
    intro c
    induction c with
    | zero =>
      intro i s h hi
      have : i = N := by omega
      subst this
      exact ⟨s, rfl, hi⟩
    | succ c ih =>
      intro i s h hi
      rw [listP]
      by_cases hp : p i
      · obtain ⟨s', h1, h2⟩ := hs i s (by omega) hp hi
        rw [if_pos hp, foldO, h1]
        exact ih (i + 1) s' (by omega) h2
      · rw [if_neg hp]
        exact ih (i + 1) s (by omega) (hn i s (by omega) hp hi)
  exact key N 0 s0 (by omega) h0

/-- Keys compared. -/
def kLt : List Int → List Int → Bool
  | _, [] => false
  | [], _ :: _ => true
  | a :: s, b :: t => if a = b then kLt s t else decide (a < b)

theorem kLt_irrefl : ∀ (a : List Int), kLt a a = false
  | [] => rfl
  | a :: s => by unfold kLt; rw [if_pos rfl]; exact kLt_irrefl s

theorem kLt_drop {a b : List Int} {i : Nat} (ha : i < a.length) (hb : i < b.length) : kLt (a.drop i) (b.drop i) = if a[i] = b[i] then kLt (a.drop (i + 1)) (b.drop (i + 1)) else decide (a[i] < b[i]) := by
  rw [List.drop_eq_getElem_cons ha, List.drop_eq_getElem_cons hb]; rfl

theorem kLt_end {a b : List Int} (h : b.length = 0) : kLt a b = false := by
  cases b with
  | nil => cases a <;> rfl
  | cons => simp at h

theorem kLt_start {a b : List Int} (h : a.length = 0) (h' : b.length ≠ 0) : kLt a b = true := by
  cases a with
  | nil => cases b with
    | nil => simp at h'
    | cons => rfl
  | cons => simp at h

theorem Less_eq (a b : List Int) (ha : a.length < 9223372036854775807) : m_stopwatchref25_Less a b = some (kLt a b) := by
  unfold m_stopwatchref25_Less
  rw [fuel_sub]
  have key : ∀ c i n, i + c = a.length → c ≤ n → i ≤ b.length → m_stopwatchref25_Less_L1 a b (m_stopwatchref25_Less_J2 a b) (n + 1) (i : Int) = some (kLt (a.drop i) (b.drop i)) := by
    intro c
    induction c with
    | zero =>
      intro i n h _ hb
      have : i = a.length := by omega
      subst this
      rw [m_stopwatchref25_Less_L1, dec_lt_nat, decide_eq_false (by omega), cond_false]
      unfold m_stopwatchref25_Less_J2
      rw [dec_lt_nat]
      by_cases h1 : a.length < b.length
      · rw [decide_eq_true h1, kLt_start (by simp) (by simp; omega)]
      · rw [decide_eq_false h1, kLt_end (by simp; omega)]
    | succ c ih =>
      intro i n h hn hb
      obtain ⟨n, rfl⟩ : ∃ n', n = n' + 1 := ⟨n - 1, by omega⟩
      have hi : i < a.length := by omega
      rw [m_stopwatchref25_Less_L1, dec_lt_nat, decide_eq_true hi, cond_true]
      by_cases h1 : i < b.length
      · rw [dec_lt_nat, decide_eq_true h1, cond_true, idx_lt hi, some_bind, idx_lt h1, some_bind, bif_ne, kLt_drop hi h1]
        by_cases h2 : a[i] = b[i]
        · rw [if_pos h2, if_pos h2, w64_succ (by omega), ih (i + 1) n (by omega) (by omega) (by omega)]
        · rw [if_neg h2, if_neg h2]; rfl
      · rw [dec_lt_nat, decide_eq_false h1, cond_false, kLt_end (by simp; omega)]
        unfold m_stopwatchref25_Less_J2
        rw [dec_lt_nat, decide_eq_false (by omega)]
  have := key a.length 0 a.length (by omega) (by omega) (by omega)
  simpa using this

theorem Compare_lt (a b : List Int) (ha : a.length < 9223372036854775807) : ∃ r, m_slices_Compare_int_int a b = some r ∧ decide (r < 0) = kLt a b := by
  obtain ⟨r, t, h1, h2, h3⟩ := less_compare a b ha
  rw [Less_eq a b ha] at h2
  refine ⟨r, h1, ?_⟩
  cases h2
  cases h : kLt a b with
  | true => rw [decide_eq_true_iff]; exact h3.2 h
  | false => rw [decide_eq_false_iff_not]; intro h4; rw [h3.1 h4] at h; cases h

/-- The variable of an outcome, the keys of a runner. -/
def vr (x : TOutcome) : Nat := (x.Seg + 1).toNat

def keys (f : TField) (i : Nat) : List Int := ((f.Runners[i]?).map (·.Keys)).getD []

abbrev far (f : TField) (i j : Nat) : Int := at2 f.Clocks.Far i j

abbrev nseg (f : TField) : Nat := f.Clocks.Segments.length

theorem keys_get {f : TField} {i : Nat} (h : i < f.Runners.length) : f.Runners[i].Keys = keys f i := by
  unfold keys; simp [h]

theorem keys_len {f : TField} (hs : Small f) {i : Nat} (h : i < f.Runners.length) : (keys f i).length < 9223372036854775807 := by
  rw [← keys_get h]; have := (hs.worlds _ (List.getElem_mem h)).1; omega

theorem vr_eq {k : TClocks} {x : TOutcome} (hk : ClocksOK k) (h : OutOK k x) (ho : x.Out = false) : w64 (x.Seg + 1) = (vr x : Int) ∧ vr x < k.Segments.length + 1 := by
  obtain ⟨h1, h2, _⟩ := h.2 ho
  have := hk.few
  unfold vr
  exact ⟨by rw [w64_of (by omega) (by omega)]; omega, by omega⟩

theorem far_bound {f : TField} (hf : FieldOK f) {i j : Nat} (hi : i < nseg f + 1) (hj : j < nseg f + 1) : -2199023255552 ≤ far f i j ∧ far f i j ≤ 2199023255552 :=
  (hf.clocks.row i (by rw [hf.clocks.far]; exact hi)).2.2 j hj

/-- Is a rival ahead, whose net time is greater by d? -/
def front (f : TField) (k r : Nat) (d : Int) : Bool := decide (d < 0) || (decide (d = 0) && kLt (keys f k) (keys f r))

/-- Is a rival k with the outcome y ahead of the runner r with the outcome x, whatever else holds; and can it be? -/
def forced (f : TField) (r : Nat) (x : TOutcome) (k : Nat) (y : TOutcome) : Bool := !y.Out && front f k r (y.Hi + far f (vr x) (vr y) - x.Lo)

def can (f : TField) (r : Nat) (x : TOutcome) (k : Nat) (y : TOutcome) : Bool := !y.Out && front f k r (y.Lo - far f (vr y) (vr x) - x.Hi)

theorem ahead_best_eq {f : TField} (hs : Small f) (hf : FieldOK f) {r k : Nat} (hr : r < f.Runners.length) (hk : k < f.Runners.length) {x y : TOutcome} (hx : OutOK f.Clocks x) (hy : OutOK f.Clocks y) (hxo : x.Out = false) :
    m_ranks_direction_ahead_with_ranks_best_2 f (r : Int) x (k : Int) y = some (forced f r x k y) := by
  unfold m_ranks_direction_ahead_with_ranks_best_2 m_ranks_hi m_ranks_lo m_ranks_best_1 forced front
  cases hyo : y.Out with
  | true => rfl
  | false =>
    obtain ⟨e1, h1⟩ := vr_eq hf.clocks hx hxo
    obtain ⟨e2, h2⟩ := vr_eq hf.clocks hy hyo
    obtain ⟨row, g1, g2⟩ := far_get hf.clocks h1 h2
    obtain ⟨_, _, b1, b2, b3⟩ := hx.2 hxo
    obtain ⟨_, _, b4, b5, b6⟩ := hy.2 hyo
    have b7 := far_bound hf h1 h2
    obtain ⟨c, g3, g4⟩ := Compare_lt (keys f k) (keys f r) (keys_len hs hk)
    unfold far at b7
    simp only [cond_false, some_bind, e1, e2, g1, g2, idx_lt hk, idx_lt hr, keys_get, g3, g4, Bool.not_false, Bool.true_and]
    rw [w64_of (n := y.Hi + at2 f.Clocks.Far (vr x) (vr y)) (by omega) (by omega), w64_of (by omega) (by omega)]
    generalize y.Hi + at2 f.Clocks.Far (vr x) (vr y) - x.Lo = d
    by_cases h6 : d < 0
    · simp [h6]
    · by_cases h7 : d = 0
      · simp [h7]
      · simp [h6, h7, bif_eq]

theorem late_eq {f : TField} (hs : Small f) (hf : FieldOK f) {r k : Nat} (hr : r < f.Runners.length) (hk : k < f.Runners.length) {x y : TOutcome} (hx : OutOK f.Clocks x) (hy : OutOK f.Clocks y) (hxo : x.Out = false) :
    m_stopwatchref25_late f x (r : Int) y (k : Int) = some (!forced f r x k y) := by
  obtain ⟨t, h1, h2⟩ := (by
    cases hyo : y.Out with
    | false => exact best_late hs hf (a := (k : Int)) (b := (r : Int)) ⟨by omega, by omega⟩ ⟨by omega, by omega⟩ hy hx hyo hxo
    | true => exact ⟨false, by unfold m_ranks_direction_ahead_with_ranks_best_2; rw [hyo]; rfl, by unfold m_stopwatchref25_late; rw [hyo]; rfl⟩ : ∃ t, m_ranks_direction_ahead_with_ranks_best_2 f (r : Int) x (k : Int) y = some t ∧ m_stopwatchref25_late f x (r : Int) y (k : Int) = some (!t))
  rw [ahead_best_eq hs hf hr hk hx hy hxo] at h1
  cases h1
  exact h2

theorem ahead_worst_eq {f : TField} (hs : Small f) (hf : FieldOK f) {r k : Nat} (hr : r < f.Runners.length) (hk : k < f.Runners.length) {x y : TOutcome} (hx : OutOK f.Clocks x) (hy : OutOK f.Clocks y) (hxo : x.Out = false) :
    m_ranks_direction_ahead_with_ranks_worst_2 f (r : Int) x (k : Int) y = some (can f r x k y) := by
  unfold m_ranks_direction_ahead_with_ranks_worst_2 m_ranks_hi m_ranks_lo m_ranks_worst_1 can front
  cases hyo : y.Out with
  | true => rfl
  | false =>
    obtain ⟨e1, h1⟩ := vr_eq hf.clocks hx hxo
    obtain ⟨e2, h2⟩ := vr_eq hf.clocks hy hyo
    obtain ⟨row, g1, g2⟩ := far_get hf.clocks h2 h1
    obtain ⟨_, _, b1, b2, b3⟩ := hx.2 hxo
    obtain ⟨_, _, b4, b5, b6⟩ := hy.2 hyo
    have b7 := far_bound hf h2 h1
    obtain ⟨c, g3, g4⟩ := Compare_lt (keys f k) (keys f r) (keys_len hs hk)
    unfold far at b7
    simp only [cond_false, some_bind, e1, e2, g1, g2, idx_lt hk, idx_lt hr, keys_get, g3, g4, Bool.not_false, Bool.true_and]
    rw [w64_of (n := 0 - at2 f.Clocks.Far (vr y) (vr x)) (by omega) (by omega), w64_of (n := y.Lo + _) (by omega) (by omega), w64_of (by omega) (by omega)]
    have e : y.Lo + (0 - at2 f.Clocks.Far (vr y) (vr x)) - x.Hi = y.Lo - at2 f.Clocks.Far (vr y) (vr x) - x.Hi := by omega
    rw [e]
    generalize y.Lo - at2 f.Clocks.Far (vr y) (vr x) - x.Hi = d
    by_cases h6 : d < 0
    · simp [h6]
    · by_cases h7 : d = 0
      · simp [h7]
      · simp [h6, h7, bif_eq]

theorem early_eq {f : TField} (hs : Small f) (hf : FieldOK f) {r k : Nat} (hr : r < f.Runners.length) (hk : k < f.Runners.length) {x y : TOutcome} (hx : OutOK f.Clocks x) (hy : OutOK f.Clocks y) (hxo : x.Out = false) :
    m_stopwatchref25_early f x (r : Int) y (k : Int) = some (can f r x k y) := by
  obtain ⟨t, h1, h2⟩ := (by
    cases hyo : y.Out with
    | false => exact worst_early hs hf (a := (k : Int)) (b := (r : Int)) ⟨by omega, by omega⟩ ⟨by omega, by omega⟩ hy hx hyo hxo
    | true => exact ⟨false, by unfold m_ranks_direction_ahead_with_ranks_worst_2; rw [hyo]; rfl, by unfold m_stopwatchref25_early; rw [hyo]; rfl⟩ : ∃ t, m_ranks_direction_ahead_with_ranks_worst_2 f (r : Int) x (k : Int) y = some t ∧ m_stopwatchref25_early f x (r : Int) y (k : Int) = some t)
  rw [ahead_worst_eq hs hf hr hk hx hy hxo] at h1
  cases h1
  exact h2

abbrev nrun (f : TField) : Nat := f.Runners.length

abbrev npair (f : TField) : Nat := f.Pairs.length

theorem anyLate_eq {f : TField} (hs : Small f) (hf : FieldOK f) {r k w : Nat} (hr : r < nrun f) (hk : k < nrun f) (hw : w < npair f + 1) {x : TOutcome} (hx : OutOK f.Clocks x) (hxo : x.Out = false) :
    m_stopwatchref25_anyLate f (w : Int) x (r : Int) (k : Int) = some (!(wl f.Runners k w).all (forced f r x k)) := by
  unfold m_stopwatchref25_anyLate
  rw [idx_lt hk, some_bind, (wl_mem hf hk hw).2, some_bind, fuel_sub]
  have hok := wl_ok hf hk hw
  have hlen := wl_len hs hf hk hw
  show m_stopwatchref25_anyLate_L1 f x (r : Int) (k : Int) (wl f.Runners k w) _ _ 0 = some (!(wl f.Runners k w).all (forced f r x k))
  generalize wl f.Runners k w = l at hok hlen
  have h := any_loop (l := l) (f := fun n i => m_stopwatchref25_anyLate_L1 f x (r : Int) (k : Int) l m_stopwatchref25_anyLate_J2 n (i : Int)) (p := fun y => !forced f r x k y) (r := true) (k := some false) (fun n i hi => by
    show m_stopwatchref25_anyLate_L1 f x (r : Int) (k : Int) l _ (n + 1) (i : Int) = _
    rw [m_stopwatchref25_anyLate_L1, dec_lt_nat, decide_eq_true hi, cond_true, idx_lt hi, some_bind, late_eq hs hf hr hk hx (hok _ (List.getElem_mem hi)) hxo, some_bind, w64_succ (by omega), Bool.cond_eq_ite]) (fun n => by
    show m_stopwatchref25_anyLate_L1 f x (r : Int) (k : Int) l _ (n + 1) ((l.length : Nat) : Int) = _
    rw [m_stopwatchref25_anyLate_L1]; simp [m_stopwatchref25_anyLate_J2])
  refine Eq.trans h ?_
  rw [List.not_all_eq_any_not]
  cases l.any fun y => !forced f r x k y <;> rfl

theorem anyEarly_eq {f : TField} (hs : Small f) (hf : FieldOK f) {r k w : Nat} (hr : r < nrun f) (hk : k < nrun f) (hw : w < npair f + 1) {x : TOutcome} (hx : OutOK f.Clocks x) (hxo : x.Out = false) :
    m_stopwatchref25_anyEarly f (w : Int) x (r : Int) (k : Int) = some ((wl f.Runners k w).any (can f r x k)) := by
  unfold m_stopwatchref25_anyEarly
  rw [idx_lt hk, some_bind, (wl_mem hf hk hw).2, some_bind, fuel_sub]
  have hok := wl_ok hf hk hw
  have hlen := wl_len hs hf hk hw
  show m_stopwatchref25_anyEarly_L1 f x (r : Int) (k : Int) (wl f.Runners k w) _ _ 0 = some ((wl f.Runners k w).any (can f r x k))
  generalize wl f.Runners k w = l at hok hlen
  have h := any_loop (l := l) (f := fun n i => m_stopwatchref25_anyEarly_L1 f x (r : Int) (k : Int) l m_stopwatchref25_anyEarly_J2 n (i : Int)) (p := can f r x k) (r := true) (k := some false) (fun n i hi => by
    show m_stopwatchref25_anyEarly_L1 f x (r : Int) (k : Int) l _ (n + 1) (i : Int) = _
    rw [m_stopwatchref25_anyEarly_L1, dec_lt_nat, decide_eq_true hi, cond_true, idx_lt hi, some_bind, early_eq hs hf hr hk hx (hok _ (List.getElem_mem hi)) hxo, some_bind, w64_succ (by omega), Bool.cond_eq_ite]) (fun n => by
    show m_stopwatchref25_anyEarly_L1 f x (r : Int) (k : Int) l _ (n + 1) ((l.length : Nat) : Int) = _
    rw [m_stopwatchref25_anyEarly_L1]; simp [m_stopwatchref25_anyEarly_J2])
  refine Eq.trans h ?_
  cases l.any (can f r x k) <;> rfl

/-- What a direction's choice of a rival's outcome is. -/
theorem choose_best_eq {f : TField} (hs : Small f) (hf : FieldOK f) {r k w : Nat} (hr : r < nrun f) (hk : k < nrun f) (hw : w < npair f + 1) (hne : (wl f.Runners k w).length ≠ 0) {x : TOutcome} (hx : OutOK f.Clocks x) (hxo : x.Out = false) :
    ∃ i : Nat, ∃ y, (wl f.Runners k w)[i]? = some y ∧ m_ranks_direction_choose_with_ranks_best_2 f (w : Int) (r : Int) x (k : Int) = some ((i : Int), (wl f.Runners k w).all (forced f r x k)) ∧ forced f r x k y = (wl f.Runners k w).all (forced f r x k) := by
  unfold m_ranks_direction_choose_with_ranks_best_2
  have e : m_ranks_best_2 2 1 = some false := rfl
  rw [e, some_bind, idx_lt hk, some_bind, (wl_mem hf hk hw).2, some_bind, fuel_sub]
  have hok := wl_ok hf hk hw
  have hlen := wl_len hs hf hk hw
  show ∃ i : Nat, ∃ y, (wl f.Runners k w)[i]? = some y ∧ m_ranks_direction_choose_with_ranks_best_2_L1 f (r : Int) x (k : Int) false (wl f.Runners k w) _ _ 0 = _ ∧ _
  generalize wl f.Runners k w = l at hok hlen hne
  rcases find_at (l := l) (f := fun n i => m_ranks_direction_choose_with_ranks_best_2_L1 f (r : Int) x (k : Int) false l (m_ranks_direction_choose_with_ranks_best_2_J2 false) n (i : Int)) (p := fun y => !forced f r x k y) (A := fun i _ => ((i : Int), false)) (k := some (0, true)) (fun n i hi => by
    show m_ranks_direction_choose_with_ranks_best_2_L1 f (r : Int) x (k : Int) false l _ (n + 1) (i : Int) = _
    rw [m_ranks_direction_choose_with_ranks_best_2_L1, dec_lt_nat, decide_eq_true hi, cond_true, idx_lt hi, some_bind, ahead_best_eq hs hf hr hk hx (hok _ (List.getElem_mem hi)) hxo, some_bind, w64_succ (by omega)]
    cases forced f r x k l[i] <;> rfl) (fun n => by
    show m_ranks_direction_choose_with_ranks_best_2_L1 f (r : Int) x (k : Int) false l _ (n + 1) ((l.length : Nat) : Int) = _
    rw [m_ranks_direction_choose_with_ranks_best_2_L1]; simp [m_ranks_direction_choose_with_ranks_best_2_J2]) with ⟨i, hi, h1, h2, _⟩ | ⟨h1, h2⟩
  · have ha : l.all (forced f r x k) = false := by
      rw [← Bool.not_eq_true]
      intro h
      rw [List.all_eq_true] at h
      rw [h _ (List.getElem_mem hi)] at h1
      cases h1
    exact ⟨i, l[i], by simp [hi], by rw [ha]; exact h2, by rw [ha]; simpa using h1⟩
  · have ha : l.all (forced f r x k) = true := by
      rw [List.all_eq_true]; intro y hy; simpa using h1 y hy
    have h0 : 0 < l.length := by omega
    exact ⟨0, l[0], by simp [h0], by rw [ha]; exact h2, by rw [ha]; simpa using h1 _ (List.getElem_mem h0)⟩

theorem choose_worst_eq {f : TField} (hs : Small f) (hf : FieldOK f) {r k w : Nat} (hr : r < nrun f) (hk : k < nrun f) (hw : w < npair f + 1) (hne : (wl f.Runners k w).length ≠ 0) {x : TOutcome} (hx : OutOK f.Clocks x) (hxo : x.Out = false) :
    ∃ i : Nat, ∃ y, (wl f.Runners k w)[i]? = some y ∧ m_ranks_direction_choose_with_ranks_worst_2 f (w : Int) (r : Int) x (k : Int) = some ((i : Int), (wl f.Runners k w).any (can f r x k)) ∧ can f r x k y = (wl f.Runners k w).any (can f r x k) := by
  unfold m_ranks_direction_choose_with_ranks_worst_2
  have e : m_ranks_worst_2 2 1 = some true := rfl
  rw [e, some_bind, idx_lt hk, some_bind, (wl_mem hf hk hw).2, some_bind, fuel_sub]
  have hok := wl_ok hf hk hw
  have hlen := wl_len hs hf hk hw
  show ∃ i : Nat, ∃ y, (wl f.Runners k w)[i]? = some y ∧ m_ranks_direction_choose_with_ranks_worst_2_L1 f (r : Int) x (k : Int) true (wl f.Runners k w) _ _ 0 = _ ∧ _
  generalize wl f.Runners k w = l at hok hlen hne
  rcases find_at (l := l) (f := fun n i => m_ranks_direction_choose_with_ranks_worst_2_L1 f (r : Int) x (k : Int) true l (m_ranks_direction_choose_with_ranks_worst_2_J2 true) n (i : Int)) (p := can f r x k) (A := fun i _ => ((i : Int), true)) (k := some (0, false)) (fun n i hi => by
    show m_ranks_direction_choose_with_ranks_worst_2_L1 f (r : Int) x (k : Int) true l _ (n + 1) (i : Int) = _
    rw [m_ranks_direction_choose_with_ranks_worst_2_L1, dec_lt_nat, decide_eq_true hi, cond_true, idx_lt hi, some_bind, ahead_worst_eq hs hf hr hk hx (hok _ (List.getElem_mem hi)) hxo, some_bind, w64_succ (by omega)]
    cases can f r x k l[i] <;> rfl) (fun n => by
    show m_ranks_direction_choose_with_ranks_worst_2_L1 f (r : Int) x (k : Int) true l _ (n + 1) ((l.length : Nat) : Int) = _
    rw [m_ranks_direction_choose_with_ranks_worst_2_L1]; simp [m_ranks_direction_choose_with_ranks_worst_2_J2]) with ⟨i, hi, h1, h2, _⟩ | ⟨h1, h2⟩
  · have ha : l.any (can f r x k) = true := List.any_eq_true.2 ⟨_, List.getElem_mem hi, h1⟩
    exact ⟨i, l[i], by simp [hi], by rw [ha]; exact h2, by rw [ha]; exact h1⟩
  · have ha : l.any (can f r x k) = false := by
      rw [← Bool.not_eq_true]
      intro h
      obtain ⟨y, hy, hp⟩ := List.any_eq_true.1 h
      rw [h1 y hy] at hp
      cases hp
    have h0 : 0 < l.length := by omega
    exact ⟨0, l[0], by simp [h0], by rw [ha]; exact h2, by rw [ha]; exact h1 _ (List.getElem_mem h0)⟩

/-- Is a rival another one, and surely or possibly ahead? -/
def sureK (f : TField) (w : Nat) (r : Nat) (x : TOutcome) (k : Nat) : Bool := decide (k ≠ r) && (wl f.Runners k w).all (forced f r x k)

def mayK (f : TField) (w : Nat) (r : Nat) (x : TOutcome) (k : Nat) : Bool := decide (k ≠ r) && (wl f.Runners k w).any (can f r x k)

def nBest (f : TField) (w : Nat) (r : Nat) (x : TOutcome) : Nat := 1 + (List.range (nrun f)).countP (sureK f w r x)

def nWorst (f : TField) (w : Nat) (r : Nat) (x : TOutcome) : Nat := 1 + (List.range (nrun f)).countP (mayK f w r x)

theorem extremes_eq {f : TField} (hs : Small f) (hf : FieldOK f) {r w : Nat} (hr : r < nrun f) (hw : w < npair f + 1) {x : TOutcome} (hx : OutOK f.Clocks x) (hxo : x.Out = false) :
    m_stopwatchref25_extremes f (w : Int) x (r : Int) = some ((nBest f w r x : Int), (nWorst f w r x : Int)) := by
  have hlen : nrun f ≤ 1000000 := hs.runners
  unfold m_stopwatchref25_extremes
  rw [fuel_sub]
  obtain ⟨s, h1, h2⟩ := inv_loop (N := nrun f) (f := fun n i (s : Int × Int) => m_stopwatchref25_extremes_L1 f (w : Int) x (r : Int) n s.1 s.2 (i : Int)) (k := some) (I := fun i s => s = (((1 + (List.range i).countP (sureK f w r x) : Nat) : Int), ((1 + (List.range i).countP (mayK f w r x) : Nat) : Int))) (s0 := (1, 1)) (fun i s hi hI => by
    refine ⟨_, rfl, fun n => ?_⟩
    show m_stopwatchref25_extremes_L1 f (w : Int) x (r : Int) (n + 1) s.1 s.2 (i : Int) = _
    rw [m_stopwatchref25_extremes_L1, dec_lt_nat, decide_eq_true hi, cond_true, bif_eq, hI]
    have c1 := count_le (N := i) (p := sureK f w r x)
    have c2 := count_le (N := i) (p := mayK f w r x)
    have d1 : (List.range (i + 1)).countP (sureK f w r x) = (List.range i).countP (sureK f w r x) + if sureK f w r x i = true then 1 else 0 := by rw [List.range_succ, List.countP_append]; simp [List.countP_cons]
    have d2 : (List.range (i + 1)).countP (mayK f w r x) = (List.range i).countP (mayK f w r x) + if mayK f w r x i = true then 1 else 0 := by rw [List.range_succ, List.countP_append]; simp [List.countP_cons]
    rw [d1, d2]
    generalize (List.range i).countP (sureK f w r x) = p at c1
    generalize (List.range i).countP (mayK f w r x) = q at c2
    by_cases hir : i = r
    · have e1 : sureK f w r x i = false := by unfold sureK; simp [hir]
      have e2 : mayK f w r x i = false := by unfold mayK; simp [hir]
      rw [if_pos (by omega), some_bind, w64_succ (by omega), e1, e2]
      rfl
    · rw [if_neg (by omega), anyLate_eq hs hf hr hi hw hx hxo, anyEarly_eq hs hf hr hi hw hx hxo]
      have e1 : sureK f w r x i = (wl f.Runners i w).all (forced f r x i) := by unfold sureK; simp [hir]
      have e2 : mayK f w r x i = (wl f.Runners i w).any (can f r x i) := by unfold mayK; simp [hir]
      rw [e1, e2]
      simp only [some_bind, Bool.not_not]
      rw [w64_succ (i := i) (by omega), w64_of (n := ((1 + p : Nat) : Int) + 1) (by omega) (by omega), w64_of (n := ((1 + q : Nat) : Int) + 1) (by omega) (by omega)]
      cases (wl f.Runners i w).all (forced f r x i) <;> cases (wl f.Runners i w).any (can f r x i) <;> rfl) (fun n s => by
    show m_stopwatchref25_extremes_L1 f (w : Int) x (r : Int) (n + 1) s.1 s.2 ((nrun f : Nat) : Int) = _
    rw [m_stopwatchref25_extremes_L1]; simp) (by simp)
  replace h1 : m_stopwatchref25_extremes_L1 f (w : Int) x (r : Int) (nrun f + 1) 1 1 0 = some s := h1
  rw [h1, h2]
  rfl

/-- An outcome of a runner in a possible world, with its place. -/
def Occ (f : TField) (r w i : Nat) (x : TOutcome) : Prop := w < npair f + 1 ∧ Poss f.Runners w ∧ (wl f.Runners r w)[i]? = some x

def Vis (f : TField) (r w i : Nat) (w' i' : Nat) (x : TOutcome) : Prop := (w' < w ∨ w' = w ∧ i' < i) ∧ Occ f r w' i' x

theorem Occ.ok {f : TField} (hf : FieldOK f) {r w i : Nat} {x : TOutcome} (hr : r < nrun f) (h : Occ f r w i x) : OutOK f.Clocks x :=
  wl_ok hf hr h.1 _ (List.mem_of_getElem? h.2.2)

theorem Vis.succ {f : TField} {r w i : Nat} {x : TOutcome} (h : Occ f r w i x) (w' i' : Nat) (x' : TOutcome) : Vis f r w (i + 1) w' i' x' ↔ Vis f r w i w' i' x' ∨ (w' = w ∧ i' = i ∧ x' = x) := by
  unfold Vis
  constructor
  · rintro ⟨h1, h2⟩
    by_cases e : w' = w ∧ i' = i
    · obtain ⟨rfl, rfl⟩ := e
      refine .inr ⟨rfl, rfl, ?_⟩
      have := h.2.2.symm.trans h2.2.2
      cases this; rfl
    · refine .inl ⟨?_, h2⟩
      omega
  · rintro (⟨h1, h2⟩ | ⟨rfl, rfl, rfl⟩)
    · exact ⟨by omega, h2⟩
    · exact ⟨by omega, h⟩

theorem Vis.zero {f : TField} {r : Nat} (w' i' : Nat) (x' : TOutcome) : ¬Vis f r 0 0 w' i' x' := by
  rintro ⟨h, _⟩; omega

theorem Vis.next {f : TField} {r w : Nat} (w' i' : Nat) (x' : TOutcome) : Vis f r (w + 1) 0 w' i' x' ↔ Vis f r w (wl f.Runners r w).length w' i' x' := by
  unfold Vis
  constructor
  · rintro ⟨h1, h2⟩
    refine ⟨?_, h2⟩
    by_cases e : w' = w
    · subst e
      exact .inr ⟨rfl, (List.getElem?_eq_some_iff.1 h2.2.2).1⟩
    · omega
  · rintro ⟨h1, h2⟩; exact ⟨by omega, h2⟩

theorem Vis.skip {f : TField} {r w : Nat} (hp : ¬Poss f.Runners w) (w' i' : Nat) (x' : TOutcome) : Vis f r (w + 1) 0 w' i' x' ↔ Vis f r w 0 w' i' x' := by
  unfold Vis
  constructor
  · rintro ⟨h1, h2⟩
    refine ⟨?_, h2⟩
    by_cases e : w' = w
    · subst e; exact absurd h2.2.1 hp
    · omega
  · rintro ⟨h1, h2⟩; exact ⟨by omega, h2⟩

theorem Vis.all {f : TField} {r : Nat} (w' i' : Nat) (x' : TOutcome) : Vis f r (npair f + 1) 0 w' i' x' ↔ Occ f r w' i' x' := by
  unfold Vis
  exact ⟨fun h => h.2, fun h => ⟨.inl h.1, h⟩⟩

abbrev Occs := Nat → Nat → TOutcome → Prop

def Ext1 (V V' : Occs) (w i : Nat) (x : TOutcome) : Prop := ∀ w' i' x', V' w' i' x' ↔ V w' i' x' ∨ (w' = w ∧ i' = i ∧ x' = x)

def Same (V V' : Occs) : Prop := ∀ w i x, V w i x ↔ V' w i x

def IsLo (N : Nat → TOutcome → Int) (V : Occs) (lo : Int) : Prop := (lo = 0 ∧ ∀ w i x, V w i x → x.Out = true) ∨ ((∃ w i x, V w i x ∧ x.Out = false ∧ lo = N w x) ∧ ∀ w i x, V w i x → x.Out = false → lo ≤ N w x)

def IsHi (N : Nat → TOutcome → Int) (V : Occs) (hi : Int) : Prop := (hi = 0 ∧ ∀ w i x, V w i x → x.Out = true) ∨ ((∃ w i x, V w i x ∧ x.Out = false ∧ hi = N w x) ∧ ∀ w i x, V w i x → x.Out = false → N w x ≤ hi)

def IsOut (V : Occs) (out : Bool) : Prop := out = true ↔ ∃ w i x, V w i x ∧ x.Out = true

theorem Same.lo {N : Nat → TOutcome → Int} {V V' : Occs} (h : Same V V') {lo : Int} (hl : IsLo N V lo) : IsLo N V' lo := by
  rcases hl with ⟨h1, h2⟩ | ⟨⟨w, i, x, h1, h2, h3⟩, h4⟩
  · exact .inl ⟨h1, fun w i x hv => h2 w i x ((h w i x).2 hv)⟩
  · exact .inr ⟨⟨w, i, x, (h w i x).1 h1, h2, h3⟩, fun w i x hv => h4 w i x ((h w i x).2 hv)⟩

theorem Same.hi {N : Nat → TOutcome → Int} {V V' : Occs} (h : Same V V') {hi : Int} (hl : IsHi N V hi) : IsHi N V' hi := by
  rcases hl with ⟨h1, h2⟩ | ⟨⟨w, i, x, h1, h2, h3⟩, h4⟩
  · exact .inl ⟨h1, fun w i x hv => h2 w i x ((h w i x).2 hv)⟩
  · exact .inr ⟨⟨w, i, x, (h w i x).1 h1, h2, h3⟩, fun w i x hv => h4 w i x ((h w i x).2 hv)⟩

theorem Same.out {V V' : Occs} (h : Same V V') {o : Bool} (hl : IsOut V o) : IsOut V' o := by
  unfold IsOut at hl ⊢
  rw [hl]
  exact ⟨fun ⟨w, i, x, h1, h2⟩ => ⟨w, i, x, (h w i x).1 h1, h2⟩, fun ⟨w, i, x, h1, h2⟩ => ⟨w, i, x, (h w i x).2 h1, h2⟩⟩

theorem IsLo.skip {N : Nat → TOutcome → Int} {V V' : Occs} {w i : Nat} {x : TOutcome} (h : Ext1 V V' w i x) (hx : x.Out = true) {lo : Int} (hl : IsLo N V lo) : IsLo N V' lo := by
  rcases hl with ⟨h1, h2⟩ | ⟨⟨w1, i1, x1, h1, h2, h3⟩, h4⟩
  · refine .inl ⟨h1, fun w' i' x' hv => ?_⟩
    rcases (h w' i' x').1 hv with hv | ⟨rfl, rfl, rfl⟩
    · exact h2 _ _ _ hv
    · exact hx
  · refine .inr ⟨⟨w1, i1, x1, (h _ _ _).2 (.inl h1), h2, h3⟩, fun w' i' x' hv hxo => ?_⟩
    rcases (h w' i' x').1 hv with hv | ⟨rfl, rfl, rfl⟩
    · exact h4 _ _ _ hv hxo
    · rw [hx] at hxo; cases hxo

theorem IsHi.skip {N : Nat → TOutcome → Int} {V V' : Occs} {w i : Nat} {x : TOutcome} (h : Ext1 V V' w i x) (hx : x.Out = true) {lo : Int} (hl : IsHi N V lo) : IsHi N V' lo := by
  rcases hl with ⟨h1, h2⟩ | ⟨⟨w1, i1, x1, h1, h2, h3⟩, h4⟩
  · refine .inl ⟨h1, fun w' i' x' hv => ?_⟩
    rcases (h w' i' x').1 hv with hv | ⟨rfl, rfl, rfl⟩
    · exact h2 _ _ _ hv
    · exact hx
  · refine .inr ⟨⟨w1, i1, x1, (h _ _ _).2 (.inl h1), h2, h3⟩, fun w' i' x' hv hxo => ?_⟩
    rcases (h w' i' x').1 hv with hv | ⟨rfl, rfl, rfl⟩
    · exact h4 _ _ _ hv hxo
    · rw [hx] at hxo; cases hxo

theorem IsOut.skip {V V' : Occs} {w i : Nat} {x : TOutcome} (h : Ext1 V V' w i x) (hx : x.Out = true) : IsOut V' true :=
  ⟨fun _ => ⟨w, i, x, (h _ _ _).2 (.inr ⟨rfl, rfl, rfl⟩), hx⟩, fun _ => rfl⟩

theorem IsOut.step {V V' : Occs} {w i : Nat} {x : TOutcome} (h : Ext1 V V' w i x) (hx : x.Out = false) {o : Bool} (ho : IsOut V o) : IsOut V' o := by
  unfold IsOut at ho ⊢
  rw [ho]
  constructor
  · rintro ⟨w', i', x', h1, h2⟩; exact ⟨w', i', x', (h _ _ _).2 (.inl h1), h2⟩
  · rintro ⟨w', i', x', h1, h2⟩
    rcases (h w' i' x').1 h1 with hv | ⟨rfl, rfl, rfl⟩
    · exact ⟨_, _, _, hv, h2⟩
    · rw [hx] at h2; cases h2

/-- A new least. -/
theorem IsLo.less {N : Nat → TOutcome → Int} {V V' : Occs} {w i : Nat} {x : TOutcome} (h : Ext1 V V' w i x) (hx : x.Out = false) {lo : Int} (hl : IsLo N V lo) (hc : lo = 0 ∨ N w x < lo) (hN : ∀ w x, 1 ≤ N w x) : IsLo N V' (N w x) := by
  refine .inr ⟨⟨w, i, x, (h _ _ _).2 (.inr ⟨rfl, rfl, rfl⟩), hx, rfl⟩, fun w' i' x' hv hxo => ?_⟩
  rcases (h w' i' x').1 hv with hv | ⟨rfl, rfl, rfl⟩
  · rcases hl with ⟨h1, h2⟩ | ⟨⟨w1, i1, x1, h1, h2, h3⟩, h4⟩
    · rw [h2 _ _ _ hv] at hxo; cases hxo
    · have := h4 _ _ _ hv hxo
      have := hN w1 x1
      omega
  · exact Int.le_refl _

theorem IsLo.keep {N : Nat → TOutcome → Int} {V V' : Occs} {w i : Nat} {x : TOutcome} (h : Ext1 V V' w i x) {lo : Int} (hl : IsLo N V lo) (hc : lo ≠ 0) (hc' : lo ≤ N w x) : IsLo N V' lo := by
  rcases hl with ⟨h1, h2⟩ | ⟨⟨w1, i1, x1, h1, h2, h3⟩, h4⟩
  · exact absurd h1 hc
  · refine .inr ⟨⟨w1, i1, x1, (h _ _ _).2 (.inl h1), h2, h3⟩, fun w' i' x' hv hxo => ?_⟩
    rcases (h w' i' x').1 hv with hv | ⟨rfl, rfl, rfl⟩
    · exact h4 _ _ _ hv hxo
    · exact hc'

theorem IsHi.more {N : Nat → TOutcome → Int} {V V' : Occs} {w i : Nat} {x : TOutcome} (h : Ext1 V V' w i x) (hx : x.Out = false) {hi : Int} (hl : IsHi N V hi) (hc : hi ≤ N w x) : IsHi N V' (N w x) := by
  refine .inr ⟨⟨w, i, x, (h _ _ _).2 (.inr ⟨rfl, rfl, rfl⟩), hx, rfl⟩, fun w' i' x' hv hxo => ?_⟩
  rcases (h w' i' x').1 hv with hv | ⟨rfl, rfl, rfl⟩
  · rcases hl with ⟨h1, h2⟩ | ⟨⟨w1, i1, x1, h1, h2, h3⟩, h4⟩
    · rw [h2 _ _ _ hv] at hxo; cases hxo
    · have := h4 _ _ _ hv hxo
      omega
  · exact Int.le_refl _

theorem IsHi.keep {N : Nat → TOutcome → Int} {V V' : Occs} {w i : Nat} {x : TOutcome} (h : Ext1 V V' w i x) {hi : Int} (hl : IsHi N V hi) (hc : hi ≠ 0) (hc' : N w x ≤ hi) : IsHi N V' hi := by
  rcases hl with ⟨h1, h2⟩ | ⟨⟨w1, i1, x1, h1, h2, h3⟩, h4⟩
  · exact absurd h1 hc
  · refine .inr ⟨⟨w1, i1, x1, (h _ _ _).2 (.inl h1), h2, h3⟩, fun w' i' x' hv hxo => ?_⟩
    rcases (h w' i' x').1 hv with hv | ⟨rfl, rfl, rfl⟩
    · exact h4 _ _ _ hv hxo
    · exact hc'

theorem IsLo.uniq {N : Nat → TOutcome → Int} {V : Occs} {a b : Int} (ha : IsLo N V a) (hb : IsLo N V b) : a = b := by
  rcases ha with ⟨h1, h2⟩ | ⟨⟨w1, i1, x1, h1, h2, h3⟩, h4⟩
  · rcases hb with ⟨h5, h6⟩ | ⟨⟨w1, i1, x1, h5, h6, h7⟩, h8⟩
    · omega
    · rw [h2 _ _ _ h5] at h6; cases h6
  · rcases hb with ⟨h5, h6⟩ | ⟨⟨w2, i2, x2, h5, h6, h7⟩, h8⟩
    · rw [h6 _ _ _ h1] at h2; cases h2
    · have := h4 _ _ _ h5 h6
      have := h8 _ _ _ h1 h2
      omega

theorem IsHi.uniq {N : Nat → TOutcome → Int} {V : Occs} {a b : Int} (ha : IsHi N V a) (hb : IsHi N V b) : a = b := by
  rcases ha with ⟨h1, h2⟩ | ⟨⟨w1, i1, x1, h1, h2, h3⟩, h4⟩
  · rcases hb with ⟨h5, h6⟩ | ⟨⟨w1, i1, x1, h5, h6, h7⟩, h8⟩
    · omega
    · rw [h2 _ _ _ h5] at h6; cases h6
  · rcases hb with ⟨h5, h6⟩ | ⟨⟨w2, i2, x2, h5, h6, h7⟩, h8⟩
    · rw [h6 _ _ _ h1] at h2; cases h2
    · have := h4 _ _ _ h5 h6
      have := h8 _ _ _ h1 h2
      omega

theorem IsOut.uniq {V : Occs} {a b : Bool} (ha : IsOut V a) (hb : IsOut V b) : a = b := by
  unfold IsOut at ha hb
  rw [← hb] at ha
  cases a <;> cases b <;> simp at ha ⊢

/-- No rank: both are 0. -/
theorem IsLo.pos {N : Nat → TOutcome → Int} {V : Occs} {lo : Int} (h : IsLo N V lo) (hN : ∀ w x, 1 ≤ N w x) : lo = 0 ∨ 1 ≤ lo := by
  rcases h with ⟨h1, _⟩ | ⟨⟨w, i, x, _, _, h3⟩, _⟩
  · exact .inl h1
  · exact .inr (by rw [h3]; exact hN w x)

abbrev NB (f : TField) (r w : Nat) (x : TOutcome) : Int := (nBest f w r x : Int)

abbrev NW (f : TField) (r w : Nat) (x : TOutcome) : Int := (nWorst f w r x : Int)

theorem NB_pos (f : TField) (r w : Nat) (x : TOutcome) : 1 ≤ NB f r w x := by unfold NB nBest; omega

theorem NW_pos (f : TField) (r w : Nat) (x : TOutcome) : 1 ≤ NW f r w x := by unfold NW nWorst; omega

/-- What is known about a runner's rank. -/
structure IsRank (f : TField) (r : Nat) (x : TRank) : Prop where
  bib : f.Runners[r]?.map (·.Bib) = some x.Bib
  lo : IsLo (NB f r) (Occ f r) x.Lo
  hi : IsHi (NW f r) (Occ f r) x.Hi
  out : IsOut (Occ f r) x.Out
  kind : x.Kind = if x.Lo = 0 then 3 else if x.Lo = x.Hi ∧ x.Out = false then 1 else 2

theorem IsRank.uniq {f : TField} {r : Nat} {x y : TRank} (hx : IsRank f r x) (hy : IsRank f r y) : x = y := by
  obtain ⟨a1, a2, a3, a4, a5⟩ := hx
  obtain ⟨b1, b2, b3, b4, b5⟩ := hy
  obtain ⟨p1, p2, p3, p4, p5⟩ := x
  obtain ⟨q1, q2, q3, q4, q5⟩ := y
  dsimp only at *
  have e1 : p1 = q1 := Option.some.inj (a1.symm.trans b1)
  have e2 := a2.uniq b2
  have e3 := a3.uniq b3
  have e4 := a4.uniq b4
  subst e1 e2 e3 e4
  rw [a5, b5]

theorem maxG_eq (a b : Int) : maxG a b = if a < b then b else a := by
  unfold maxG; split <;> rfl

def ROf (f : TField) (r : Nat) (V : Occs) (s : Int × Int × Bool) : Prop := IsLo (NB f r) V s.1 ∧ IsHi (NW f r) V s.2.1 ∧ IsOut V s.2.2

theorem ref_Of_L2 {f : TField} (hs : Small f) (hf : FieldOK f) {r : Nat} (hr : r < nrun f) {w : Nat} (hw : w < npair f + 1) (hp : Poss f.Runners w) {s0 : Int × Int × Bool} (h0 : ROf f r (Vis f r w 0) s0) :
    ∃ s, m_stopwatchref25_Of_L2 f (r : Int) (w : Int) (wl f.Runners r w) ((wl f.Runners r w).length + 1) 0 s0.1 s0.2.1 s0.2.2 = some s ∧ ROf f r (Vis f r w (wl f.Runners r w).length) s := by
  have hlen := wl_len hs hf hr hw
  exact inv_loop (N := (wl f.Runners r w).length) (f := fun n i (s : Int × Int × Bool) => m_stopwatchref25_Of_L2 f (r : Int) (w : Int) (wl f.Runners r w) n (i : Int) s.1 s.2.1 s.2.2) (k := some) (I := fun i s => ROf f r (Vis f r w i) s) (s0 := s0) (fun i s hi hI => by
    have ho : Occ f r w i (wl f.Runners r w)[i] := ⟨hw, hp, by simp [hi]⟩
    have hv : Ext1 (Vis f r w i) (Vis f r w (i + 1)) w i (wl f.Runners r w)[i] := Vis.succ ho
    have hxok := ho.ok hf hr
    have e1 : idx (wl f.Runners r w) (i : Int) = some (wl f.Runners r w)[i] := idx_lt hi
    generalize (wl f.Runners r w)[i] = x at ho hv hxok e1
    obtain ⟨a, b, c⟩ := s
    obtain ⟨h1, h2, h3⟩ := hI
    dsimp only at h1 h2 h3
    cases hx : x.Out with
    | true =>
      refine ⟨(a, b, true), ⟨h1.skip hv hx, h2.skip hv hx, IsOut.skip hv hx⟩, fun n => ?_⟩
      show m_stopwatchref25_Of_L2 f (r : Int) (w : Int) (wl f.Runners r w) (n + 1) (i : Int) a b c = _
      rw [m_stopwatchref25_Of_L2, dec_lt_nat, decide_eq_true hi, cond_true, ref25_Possible_eq hs hf hw, chk_pos hp, some_bind, cond_true, e1, some_bind, hx, cond_true, some_bind, w64_succ (by omega)]
    | false =>
      have hb := NB_pos f r w x
      have hpos := h1.pos (NB_pos f r)
      refine ⟨(if a = 0 then NB f r w x else if NB f r w x < a then NB f r w x else a, if b < NW f r w x then NW f r w x else b, c), ⟨?_, ?_, h3.step hv hx⟩, fun n => ?_⟩
      · show IsLo _ _ (if a = 0 then NB f r w x else if NB f r w x < a then NB f r w x else a)
        by_cases e : a = 0
        · rw [if_pos e]; exact h1.less hv hx (.inl e) (NB_pos f r)
        · rw [if_neg e]
          by_cases e2 : NB f r w x < a
          · rw [if_pos e2]; exact h1.less hv hx (.inr e2) (NB_pos f r)
          · rw [if_neg e2]; exact h1.keep hv e (by omega)
      · show IsHi _ _ (if b < NW f r w x then NW f r w x else b)
        have := NW_pos f r w x
        by_cases e : b < NW f r w x
        · rw [if_pos e]; exact h2.more hv hx (by omega)
        · rw [if_neg e]; exact h2.keep hv (by omega) (by omega)
      · show m_stopwatchref25_Of_L2 f (r : Int) (w : Int) (wl f.Runners r w) (n + 1) (i : Int) a b c = m_stopwatchref25_Of_L2 f (r : Int) (w : Int) (wl f.Runners r w) n ((i + 1 : Nat) : Int) (if a = 0 then NB f r w x else if NB f r w x < a then NB f r w x else a) (if b < NW f r w x then NW f r w x else b) c
        rw [m_stopwatchref25_Of_L2, dec_lt_nat, decide_eq_true hi, cond_true, ref25_Possible_eq hs hf hw, chk_pos hp, some_bind, cond_true, e1, some_bind, hx, cond_false, some_bind, extremes_eq hs hf hr hw hxok hx, some_bind, w64_succ (by omega)]
        simp only [bif_eq, bif_dec, maxG_eq]
        show Option.bind (if a = 0 then _ else if NB f r w x < a then _ else _) _ = _
        by_cases e : a = 0
        · rw [if_pos e, if_pos e]; rfl
        · rw [if_neg e, if_neg e]
          by_cases e2 : NB f r w x < a
          · rw [if_pos e2, if_pos e2]; rfl
          · rw [if_neg e2, if_neg e2]; rfl) (fun n s => by
    show m_stopwatchref25_Of_L2 f (r : Int) (w : Int) (wl f.Runners r w) (n + 1) (((wl f.Runners r w).length : Nat) : Int) s.1 s.2.1 s.2.2 = _
    rw [m_stopwatchref25_Of_L2]; simp) h0

theorem ROf.same {f : TField} {r : Nat} {V V' : Occs} (h : Same V V') {s : Int × Int × Bool} (hs : ROf f r V s) : ROf f r V' s := ⟨h.lo hs.1, h.hi hs.2.1, h.out hs.2.2⟩

theorem ref_Of_skip {f : TField} (hs : Small f) (hf : FieldOK f) {r : Int} {w : Nat} (hw : w < npair f + 1) (hp : ¬Poss f.Runners w) (l : List TOutcome) (s : Int × Int × Bool) : m_stopwatchref25_Of_L2 f r (w : Int) l (l.length + 1) 0 s.1 s.2.1 s.2.2 = some s := by
  rw [m_stopwatchref25_Of_L2, ref25_Possible_eq hs hf hw, chk_neg hp, some_bind, cond_false]
  cases decide ((0 : Int) < (l.length : Int)) <;> rfl

theorem ref_Of_main {f : TField} (hs : Small f) (hf : FieldOK f) {r : Nat} (hr : r < nrun f) :
    ∃ s, m_stopwatchref25_Of_L1 f (r : Int) (npair f + 1 + 1) 0 0 0 false = some s ∧ ROf f r (Occ f r) s := by
  have hsp : npair f ≤ 1000 := hs.pairs
  obtain ⟨s, h1, h2⟩ := inv_loop (N := npair f + 1) (f := fun n w (s : Int × Int × Bool) => m_stopwatchref25_Of_L1 f (r : Int) n (w : Int) s.1 s.2.1 s.2.2) (k := some) (I := fun w s => ROf f r (Vis f r w 0) s) (s0 := (0, 0, false)) (fun w s hw hI => by
    by_cases hp : Poss f.Runners w
    · obtain ⟨s', h1, h2⟩ := ref_Of_L2 hs hf hr hw hp hI
      refine ⟨s', h2.same (fun a b c => (Vis.next a b c).symm), fun n => ?_⟩
      show m_stopwatchref25_Of_L1 f (r : Int) (n + 1) (w : Int) s.1 s.2.1 s.2.2 = _
      rw [m_stopwatchref25_Of_L1, dec_le_nat, decide_eq_true hw, cond_true, idx_lt hr, some_bind, (wl_mem hf hr hw).2, some_bind, fuel_sub, h1, some_bind, w64_succ (by omega)]
    · refine ⟨s, hI.same (fun a b c => (Vis.skip hp a b c).symm), fun n => ?_⟩
      show m_stopwatchref25_Of_L1 f (r : Int) (n + 1) (w : Int) s.1 s.2.1 s.2.2 = _
      rw [m_stopwatchref25_Of_L1, dec_le_nat, decide_eq_true hw, cond_true, idx_lt hr, some_bind, (wl_mem hf hr hw).2, some_bind, fuel_sub, ref_Of_skip hs hf hw hp, some_bind, w64_succ (by omega)]) (fun n s => by
    show m_stopwatchref25_Of_L1 f (r : Int) (n + 1) ((npair f + 1 : Nat) : Int) s.1 s.2.1 s.2.2 = _
    rw [m_stopwatchref25_Of_L1, dec_le_nat]; simp) ⟨.inl ⟨rfl, fun w i x h => absurd h (Vis.zero w i x)⟩, .inl ⟨rfl, fun w i x h => absurd h (Vis.zero w i x)⟩, ⟨fun h => (by cases h), fun ⟨w, i, x, h, _⟩ => absurd h (Vis.zero w i x)⟩⟩
  exact ⟨s, h1, h2.same (fun a b c => Vis.all a b c)⟩

theorem inR_of {f : TField} {r : Nat} (h : r < nrun f) : InR f (r : Int) := by
  have : r < f.Runners.length := h
  exact ⟨by omega, by omega⟩

theorem ref_Of_eq {f : TField} (hs : Small f) (hf : FieldOK f) {r : Nat} (hr : r < nrun f) :
    ∃ x, m_stopwatchref25_Of f (r : Int) = some (x, 0) ∧ IsRank f r x := by
  obtain ⟨s, h1, h2, h3, h4⟩ := ref_Of_main hs hf hr
  unfold m_stopwatchref25_Of
  rw [ref25_check_eq hs, chk_pos hf, chk_pos (inR_of hr), some_bind, idx_lt hr, fuel_add, h1]
  refine ⟨_, rfl, ⟨by simp [hr], h2, h3, h4, ?_⟩⟩
  obtain ⟨a, b, c⟩ := s
  show (bif a == 0 then (3 : Int) else bif a == b then bif !c then 1 else 2 else 2) = if a = 0 then 3 else if a = b ∧ c = false then 1 else 2
  rw [bif_eq, bif_eq]
  by_cases e : a = 0
  · rw [if_pos e, if_pos e]
  · rw [if_neg e, if_neg e]
    by_cases e2 : a = b
    · rw [if_pos e2]; cases c <;> simp [e2]
    · rw [if_neg e2]; simp [e2]

theorem drive_best_count {f : TField} (hs : Small f) (hf : FieldOK f) {r w : Nat} (hr : r < nrun f) (hw : w < npair f + 1) (hp : Poss f.Runners w) {x : TOutcome} (hx : OutOK f.Clocks x) (hxo : x.Out = false) :
    m_ranks_direction_drive_with_ranks_best_2_L3 f (r : Int) (w : Int) x (nrun f + 1) 1 0 = some (NB f r w x) := by
  have hlen : nrun f ≤ 1000000 := hs.runners
  have h := count_loop (N := nrun f) (f := fun n i c => m_ranks_direction_drive_with_ranks_best_2_L3 f (r : Int) (w : Int) x n c (i : Int)) (p := sureK f w r x) (k := some) (c0 := 1) (fun n i c hi h1 h2 => by
    show m_ranks_direction_drive_with_ranks_best_2_L3 f (r : Int) (w : Int) x (n + 1) c (i : Int) = _
    rw [m_ranks_direction_drive_with_ranks_best_2_L3, dec_lt_nat, decide_eq_true hi, cond_true, bif_eq, w64_succ (by omega)]
    by_cases e : i = r
    · have e1 : sureK f w r x i = false := by unfold sureK; simp [e]
      rw [if_pos (by omega), e1]; rfl
    · obtain ⟨j, y, _, h3, _⟩ := choose_best_eq hs hf hr hi hw (hp i hi) hx hxo
      have e1 : sureK f w r x i = (wl f.Runners i w).all (forced f r x i) := by unfold sureK; simp [e]
      rw [if_neg (by omega), h3, some_bind, e1, w64_of (n := c + 1) (by omega) (by omega)]
      cases (wl f.Runners i w).all (forced f r x i) <;> rfl) (fun n c => by
    show m_ranks_direction_drive_with_ranks_best_2_L3 f (r : Int) (w : Int) x (n + 1) c ((nrun f : Nat) : Int) = _
    rw [m_ranks_direction_drive_with_ranks_best_2_L3]; simp)
  refine Eq.trans h ?_
  unfold NB nBest
  congr 1

theorem drive_worst_count {f : TField} (hs : Small f) (hf : FieldOK f) {r w : Nat} (hr : r < nrun f) (hw : w < npair f + 1) (hp : Poss f.Runners w) {x : TOutcome} (hx : OutOK f.Clocks x) (hxo : x.Out = false) :
    m_ranks_direction_drive_with_ranks_worst_2_L3 f (r : Int) (w : Int) x (nrun f + 1) 1 0 = some (NW f r w x) := by
  have hlen : nrun f ≤ 1000000 := hs.runners
  have h := count_loop (N := nrun f) (f := fun n i c => m_ranks_direction_drive_with_ranks_worst_2_L3 f (r : Int) (w : Int) x n c (i : Int)) (p := mayK f w r x) (k := some) (c0 := 1) (fun n i c hi h1 h2 => by
    show m_ranks_direction_drive_with_ranks_worst_2_L3 f (r : Int) (w : Int) x (n + 1) c (i : Int) = _
    rw [m_ranks_direction_drive_with_ranks_worst_2_L3, dec_lt_nat, decide_eq_true hi, cond_true, bif_eq, w64_succ (by omega)]
    by_cases e : i = r
    · have e1 : mayK f w r x i = false := by unfold mayK; simp [e]
      rw [if_pos (by omega), e1]; rfl
    · obtain ⟨j, y, _, h3, _⟩ := choose_worst_eq hs hf hr hi hw (hp i hi) hx hxo
      have e1 : mayK f w r x i = (wl f.Runners i w).any (can f r x i) := by unfold mayK; simp [e]
      rw [if_neg (by omega), h3, some_bind, e1, w64_of (n := c + 1) (by omega) (by omega)]
      cases (wl f.Runners i w).any (can f r x i) <;> rfl) (fun n c => by
    show m_ranks_direction_drive_with_ranks_worst_2_L3 f (r : Int) (w : Int) x (n + 1) c ((nrun f : Nat) : Int) = _
    rw [m_ranks_direction_drive_with_ranks_worst_2_L3]; simp)
  refine Eq.trans h ?_
  unfold NW nWorst
  congr 1

/-- Where a drive stands: nowhere yet, or at the place of its best rank. -/
def DrB (f : TField) (r : Nat) (V : Occs) (t : Int × Int × Int × Bool) : Prop :=
  (t.2.2.2 = false ∧ ∀ w i x, V w i x → x.Out = true) ∨ (t.2.2.2 = true ∧ (∃ w i x, V w i x ∧ x.Out = false ∧ t.1 = (w : Int) ∧ t.2.1 = (i : Int) ∧ t.2.2.1 = NB f r w x) ∧ ∀ w i x, V w i x → x.Out = false → t.2.2.1 ≤ NB f r w x)

def DrW (f : TField) (r : Nat) (V : Occs) (t : Int × Int × Int × Bool) : Prop :=
  (t.2.2.2 = false ∧ ∀ w i x, V w i x → x.Out = true) ∨ (t.2.2.2 = true ∧ (∃ w i x, V w i x ∧ x.Out = false ∧ t.1 = (w : Int) ∧ t.2.1 = (i : Int) ∧ t.2.2.1 = NW f r w x) ∧ ∀ w i x, V w i x → x.Out = false → NW f r w x ≤ t.2.2.1)

theorem DrB.same {f : TField} {r : Nat} {V V' : Occs} (h : Same V V') {t : Int × Int × Int × Bool} (ht : DrB f r V t) : DrB f r V' t := by
  rcases ht with ⟨h1, h2⟩ | ⟨h1, ⟨w, i, x, h2, h3⟩, h4⟩
  · exact .inl ⟨h1, fun w i x hv => h2 w i x ((h w i x).2 hv)⟩
  · exact .inr ⟨h1, ⟨w, i, x, (h w i x).1 h2, h3⟩, fun w i x hv => h4 w i x ((h w i x).2 hv)⟩

theorem DrW.same {f : TField} {r : Nat} {V V' : Occs} (h : Same V V') {t : Int × Int × Int × Bool} (ht : DrW f r V t) : DrW f r V' t := by
  rcases ht with ⟨h1, h2⟩ | ⟨h1, ⟨w, i, x, h2, h3⟩, h4⟩
  · exact .inl ⟨h1, fun w i x hv => h2 w i x ((h w i x).2 hv)⟩
  · exact .inr ⟨h1, ⟨w, i, x, (h w i x).1 h2, h3⟩, fun w i x hv => h4 w i x ((h w i x).2 hv)⟩

theorem DrB.skip {f : TField} {r : Nat} {V V' : Occs} {w i : Nat} {x : TOutcome} (h : Ext1 V V' w i x) (hx : x.Out = true) {t : Int × Int × Int × Bool} (ht : DrB f r V t) : DrB f r V' t := by
  rcases ht with ⟨h1, h2⟩ | ⟨h1, ⟨w1, i1, x1, h2, h3⟩, h4⟩
  · refine .inl ⟨h1, fun w' i' x' hv => ?_⟩
    rcases (h w' i' x').1 hv with hv | ⟨rfl, rfl, rfl⟩
    · exact h2 _ _ _ hv
    · exact hx
  · refine .inr ⟨h1, ⟨w1, i1, x1, (h _ _ _).2 (.inl h2), h3⟩, fun w' i' x' hv hxo => ?_⟩
    rcases (h w' i' x').1 hv with hv | ⟨rfl, rfl, rfl⟩
    · exact h4 _ _ _ hv hxo
    · rw [hx] at hxo; cases hxo

theorem DrW.skip {f : TField} {r : Nat} {V V' : Occs} {w i : Nat} {x : TOutcome} (h : Ext1 V V' w i x) (hx : x.Out = true) {t : Int × Int × Int × Bool} (ht : DrW f r V t) : DrW f r V' t := by
  rcases ht with ⟨h1, h2⟩ | ⟨h1, ⟨w1, i1, x1, h2, h3⟩, h4⟩
  · refine .inl ⟨h1, fun w' i' x' hv => ?_⟩
    rcases (h w' i' x').1 hv with hv | ⟨rfl, rfl, rfl⟩
    · exact h2 _ _ _ hv
    · exact hx
  · refine .inr ⟨h1, ⟨w1, i1, x1, (h _ _ _).2 (.inl h2), h3⟩, fun w' i' x' hv hxo => ?_⟩
    rcases (h w' i' x').1 hv with hv | ⟨rfl, rfl, rfl⟩
    · exact h4 _ _ _ hv hxo
    · rw [hx] at hxo; cases hxo

theorem DrB.step {f : TField} {r : Nat} {V V' : Occs} {w i : Nat} {x : TOutcome} (h : Ext1 V V' w i x) (hx : x.Out = false) {a b rk : Int} {ok : Bool} (ht : DrB f r V (a, b, rk, ok)) : DrB f r V' (if (!ok || decide (NB f r w x < rk)) = true then ((w : Int), (i : Int), NB f r w x, true) else (a, b, rk, ok)) := by
  by_cases hc : (!ok || decide (NB f r w x < rk)) = true
  · rw [if_pos hc]
    refine .inr ⟨rfl, ⟨w, i, x, (h _ _ _).2 (.inr ⟨rfl, rfl, rfl⟩), hx, rfl, rfl, rfl⟩, fun w' i' x' hv hxo => ?_⟩
    rcases (h w' i' x').1 hv with hv | ⟨rfl, rfl, rfl⟩
    · rcases ht with ⟨h1, h2⟩ | ⟨h1, _, h4⟩
      · rw [h2 _ _ _ hv] at hxo; cases hxo
      · have := h4 _ _ _ hv hxo
        dsimp only at h1 this ⊢
        subst h1
        simp at hc
        omega
    · exact Int.le_refl _
  · rw [if_neg hc]
    rcases ht with ⟨h1, h2⟩ | ⟨h1, ⟨w1, i1, x1, h2, h3⟩, h4⟩
    · dsimp only at h1; subst h1; simp at hc
    · refine .inr ⟨h1, ⟨w1, i1, x1, (h _ _ _).2 (.inl h2), h3⟩, fun w' i' x' hv hxo => ?_⟩
      rcases (h w' i' x').1 hv with hv | ⟨rfl, rfl, rfl⟩
      · exact h4 _ _ _ hv hxo
      · dsimp only at h1 ⊢; subst h1; simp at hc; exact hc

theorem DrW.step {f : TField} {r : Nat} {V V' : Occs} {w i : Nat} {x : TOutcome} (h : Ext1 V V' w i x) (hx : x.Out = false) {a b rk : Int} {ok : Bool} (ht : DrW f r V (a, b, rk, ok)) : DrW f r V' (if (!ok || decide (NW f r w x > rk)) = true then ((w : Int), (i : Int), NW f r w x, true) else (a, b, rk, ok)) := by
  by_cases hc : (!ok || decide (NW f r w x > rk)) = true
  · rw [if_pos hc]
    refine .inr ⟨rfl, ⟨w, i, x, (h _ _ _).2 (.inr ⟨rfl, rfl, rfl⟩), hx, rfl, rfl, rfl⟩, fun w' i' x' hv hxo => ?_⟩
    rcases (h w' i' x').1 hv with hv | ⟨rfl, rfl, rfl⟩
    · rcases ht with ⟨h1, h2⟩ | ⟨h1, _, h4⟩
      · rw [h2 _ _ _ hv] at hxo; cases hxo
      · have := h4 _ _ _ hv hxo
        dsimp only at h1 this ⊢
        subst h1
        simp at hc
        omega
    · exact Int.le_refl _
  · rw [if_neg hc]
    rcases ht with ⟨h1, h2⟩ | ⟨h1, ⟨w1, i1, x1, h2, h3⟩, h4⟩
    · dsimp only at h1; subst h1; simp at hc
    · refine .inr ⟨h1, ⟨w1, i1, x1, (h _ _ _).2 (.inl h2), h3⟩, fun w' i' x' hv hxo => ?_⟩
      rcases (h w' i' x').1 hv with hv | ⟨rfl, rfl, rfl⟩
      · exact h4 _ _ _ hv hxo
      · dsimp only at h1 ⊢; subst h1; simp at hc; exact hc

theorem drive_best_eq {f : TField} (hs : Small f) (hf : FieldOK f) {r : Nat} (hr : r < nrun f) :
    ∃ t : Int × Int × Int × Bool, m_ranks_direction_drive_with_ranks_best_2 f (r : Int) = some (⟨t.1, t.2.1, t.2.2.1⟩, t.2.2.2) ∧ DrB f r (Occ f r) t := by
  unfold m_ranks_direction_drive_with_ranks_best_2 m_ranks_worlds
  simp only [some_bind, worlds_eq hs hf]
  obtain ⟨t, h1, h2⟩ := worlds_inv (N := npair f + 1) (p := Poss f.Runners) (G := m_ranks_direction_drive_with_ranks_best_2_R1 f (r : Int)) (I := fun w t => DrB f r (Vis f r w 0) t) (s0 := (0, 0, 0, false)) (fun w t hw hp hI => by
    have hlen := wl_len hs hf hr hw
    obtain ⟨t', h1, h2⟩ := inv_loop (N := (wl f.Runners r w).length) (f := fun n i (t : Int × Int × Int × Bool) => m_ranks_direction_drive_with_ranks_best_2_L2 f (r : Int) (w : Int) (wl f.Runners r w) n (i : Int) t.1 t.2.1 t.2.2.1 t.2.2.2) (k := some) (I := fun i t => DrB f r (Vis f r w i) t) (s0 := t) (fun i t hi hI => by
      have ho : Occ f r w i (wl f.Runners r w)[i] := ⟨hw, hp, by simp [hi]⟩
      have hv : Ext1 (Vis f r w i) (Vis f r w (i + 1)) w i (wl f.Runners r w)[i] := Vis.succ ho
      have hxok := ho.ok hf hr
      have e1 : idx (wl f.Runners r w) (i : Int) = some (wl f.Runners r w)[i] := idx_lt hi
      generalize (wl f.Runners r w)[i] = x at ho hv hxok e1
      obtain ⟨a, b, rk, ok⟩ := t
      cases hx : x.Out with
      | true =>
        refine ⟨(a, b, rk, ok), hI.skip hv hx, fun n => ?_⟩
        show m_ranks_direction_drive_with_ranks_best_2_L2 f (r : Int) (w : Int) (wl f.Runners r w) (n + 1) (i : Int) a b rk ok = _
        rw [m_ranks_direction_drive_with_ranks_best_2_L2, dec_lt_nat, decide_eq_true hi, cond_true, e1, some_bind, hx, cond_true, w64_succ (by omega)]
      | false =>
        refine ⟨_, hI.step hv hx, fun n => ?_⟩
        show m_ranks_direction_drive_with_ranks_best_2_L2 f (r : Int) (w : Int) (wl f.Runners r w) (n + 1) (i : Int) a b rk ok = _
        rw [m_ranks_direction_drive_with_ranks_best_2_L2, dec_lt_nat, decide_eq_true hi, cond_true, e1, some_bind, hx, cond_false, fuel_sub, drive_best_count hs hf hr hw hp hxok hx, some_bind, w64_succ (by omega)]
        unfold m_ranks_best_2
        cases ok with
        | false => rfl
        | true =>
          simp only [Bool.not_true, cond_false, some_bind, Bool.false_or]
          rw [Bool.cond_eq_ite]
          split <;> rfl) (fun n t => by
      show m_ranks_direction_drive_with_ranks_best_2_L2 f (r : Int) (w : Int) (wl f.Runners r w) (n + 1) (((wl f.Runners r w).length : Nat) : Int) t.1 t.2.1 t.2.2.1 t.2.2.2 = _
      rw [m_ranks_direction_drive_with_ranks_best_2_L2]; simp) hI
    refine ⟨t', ?_, h2.same (fun a b c => (Vis.next a b c).symm)⟩
    obtain ⟨a, b, rk, ok⟩ := t
    show (idx f.Runners (r : Int)).bind _ = _
    rw [idx_lt hr, some_bind, (wl_mem hf hr hw).2, some_bind, fuel_sub]
    dsimp only at h1
    refine Eq.trans (congrArg (fun z => Option.bind z _) h1) ?_
    rfl) (fun w t hw hp hI => hI.same (fun a b c => (Vis.skip hp a b c).symm)) (.inl ⟨rfl, fun w i x h => absurd h (Vis.zero w i x)⟩)
  refine ⟨t, ?_, h2.same (fun a b c => Vis.all a b c)⟩
  show Option.bind (foldO _ (listP (Poss f.Runners) 0 (npair f + 1)) _) _ = _
  rw [h1]
  rfl

theorem drive_worst_eq {f : TField} (hs : Small f) (hf : FieldOK f) {r : Nat} (hr : r < nrun f) :
    ∃ t : Int × Int × Int × Bool, m_ranks_direction_drive_with_ranks_worst_2 f (r : Int) = some (⟨t.1, t.2.1, t.2.2.1⟩, t.2.2.2) ∧ DrW f r (Occ f r) t := by
  unfold m_ranks_direction_drive_with_ranks_worst_2 m_ranks_worlds
  simp only [some_bind, worlds_eq hs hf]
  obtain ⟨t, h1, h2⟩ := worlds_inv (N := npair f + 1) (p := Poss f.Runners) (G := m_ranks_direction_drive_with_ranks_worst_2_R1 f (r : Int)) (I := fun w t => DrW f r (Vis f r w 0) t) (s0 := (0, 0, 0, false)) (fun w t hw hp hI => by
    have hlen := wl_len hs hf hr hw
    obtain ⟨t', h1, h2⟩ := inv_loop (N := (wl f.Runners r w).length) (f := fun n i (t : Int × Int × Int × Bool) => m_ranks_direction_drive_with_ranks_worst_2_L2 f (r : Int) (w : Int) (wl f.Runners r w) n (i : Int) t.1 t.2.1 t.2.2.1 t.2.2.2) (k := some) (I := fun i t => DrW f r (Vis f r w i) t) (s0 := t) (fun i t hi hI => by
      have ho : Occ f r w i (wl f.Runners r w)[i] := ⟨hw, hp, by simp [hi]⟩
      have hv : Ext1 (Vis f r w i) (Vis f r w (i + 1)) w i (wl f.Runners r w)[i] := Vis.succ ho
      have hxok := ho.ok hf hr
      have e1 : idx (wl f.Runners r w) (i : Int) = some (wl f.Runners r w)[i] := idx_lt hi
      generalize (wl f.Runners r w)[i] = x at ho hv hxok e1
      obtain ⟨a, b, rk, ok⟩ := t
      cases hx : x.Out with
      | true =>
        refine ⟨(a, b, rk, ok), hI.skip hv hx, fun n => ?_⟩
        show m_ranks_direction_drive_with_ranks_worst_2_L2 f (r : Int) (w : Int) (wl f.Runners r w) (n + 1) (i : Int) a b rk ok = _
        rw [m_ranks_direction_drive_with_ranks_worst_2_L2, dec_lt_nat, decide_eq_true hi, cond_true, e1, some_bind, hx, cond_true, w64_succ (by omega)]
      | false =>
        refine ⟨_, hI.step hv hx, fun n => ?_⟩
        show m_ranks_direction_drive_with_ranks_worst_2_L2 f (r : Int) (w : Int) (wl f.Runners r w) (n + 1) (i : Int) a b rk ok = _
        rw [m_ranks_direction_drive_with_ranks_worst_2_L2, dec_lt_nat, decide_eq_true hi, cond_true, e1, some_bind, hx, cond_false, fuel_sub, drive_worst_count hs hf hr hw hp hxok hx, some_bind, w64_succ (by omega)]
        unfold m_ranks_worst_2
        cases ok with
        | false => rfl
        | true =>
          simp only [Bool.not_true, cond_false, some_bind, Bool.false_or]
          rw [Bool.cond_eq_ite]
          split <;> rfl) (fun n t => by
      show m_ranks_direction_drive_with_ranks_worst_2_L2 f (r : Int) (w : Int) (wl f.Runners r w) (n + 1) (((wl f.Runners r w).length : Nat) : Int) t.1 t.2.1 t.2.2.1 t.2.2.2 = _
      rw [m_ranks_direction_drive_with_ranks_worst_2_L2]; simp) hI
    refine ⟨t', ?_, h2.same (fun a b c => (Vis.next a b c).symm)⟩
    obtain ⟨a, b, rk, ok⟩ := t
    show (idx f.Runners (r : Int)).bind _ = _
    rw [idx_lt hr, some_bind, (wl_mem hf hr hw).2, some_bind, fuel_sub]
    dsimp only at h1
    refine Eq.trans (congrArg (fun z => Option.bind z _) h1) ?_
    rfl) (fun w t hw hp hI => hI.same (fun a b c => (Vis.skip hp a b c).symm)) (.inl ⟨rfl, fun w i x h => absurd h (Vis.zero w i x)⟩)
  refine ⟨t, ?_, h2.same (fun a b c => Vis.all a b c)⟩
  show Option.bind (foldO _ (listP (Poss f.Runners) 0 (npair f + 1)) _) _ = _
  rw [h1]
  rfl

theorem containsO_eq {l : List TOutcome} (hl : l.length ≤ 1000000) : m_slices_ContainsFunc_Outcome_Outcome_with_ranks_of_1 l = some (l.any (·.Out)) := by
  unfold m_slices_ContainsFunc_Outcome_Outcome_with_ranks_of_1 m_slices_IndexFunc_Outcome_Outcome_with_ranks_of_1
  rw [fuel_sub]
  rcases find_at (l := l) (f := fun n i => m_slices_IndexFunc_Outcome_Outcome_with_ranks_of_1_L1 l m_slices_IndexFunc_Outcome_Outcome_with_ranks_of_1_J2 n (i : Int)) (p := fun x => x.Out) (A := fun i _ => (i : Int)) (k := some (-1)) (fun n i hi => by
    show m_slices_IndexFunc_Outcome_Outcome_with_ranks_of_1_L1 l _ (n + 1) (i : Int) = _
    rw [m_slices_IndexFunc_Outcome_Outcome_with_ranks_of_1_L1, dec_lt_nat, decide_eq_true hi, cond_true, idx_lt hi, some_bind, w64_succ (by omega)]
    unfold m_ranks_of_1
    rw [some_bind, Bool.cond_eq_ite]) (fun n => by
    show m_slices_IndexFunc_Outcome_Outcome_with_ranks_of_1_L1 l _ (n + 1) ((l.length : Nat) : Int) = _
    rw [m_slices_IndexFunc_Outcome_Outcome_with_ranks_of_1_L1]
    simp [m_slices_IndexFunc_Outcome_Outcome_with_ranks_of_1_J2]) with ⟨i, hi, h1, h2, _⟩ | ⟨h1, h2⟩
  · have ha : l.any (·.Out) = true := List.any_eq_true.2 ⟨_, List.getElem_mem hi, h1⟩
    rw [ha]
    refine Eq.trans (congrArg (fun z => Option.bind z _) h2) ?_
    rw [some_bind, decide_eq_true (by omega)]
  · have ha : l.any (·.Out) = false := by
      rw [← Bool.not_eq_true]
      intro h
      obtain ⟨y, hy, hp⟩ := List.any_eq_true.1 h
      rw [h1 y hy] at hp
      cases hp
    rw [ha]
    refine Eq.trans (congrArg (fun z => Option.bind z _) h2) ?_
    rfl

theorem of_out {f : TField} (hs : Small f) (hf : FieldOK f) {r : Nat} (hr : r < nrun f) :
    ∃ o, foldO (m_ranks_of_R1 f (r : Int)) (listP (Poss f.Runners) 0 (npair f + 1)) false = some o ∧ IsOut (Occ f r) o := by
  obtain ⟨o, h1, h2⟩ := worlds_inv (N := npair f + 1) (p := Poss f.Runners) (G := m_ranks_of_R1 f (r : Int)) (I := fun w o => IsOut (Vis f r w 0) o) (s0 := false) (fun w o hw hp hI => by
    have hlen := wl_len hs hf hr hw
    refine ⟨o || (wl f.Runners r w).any (·.Out), ?_, ?_⟩
    · unfold m_ranks_of_R1
      dsimp only
      rw [idx_lt hr, some_bind, (wl_mem hf hr hw).2, some_bind, containsO_eq (by omega)]
      cases o <;> rfl
    · unfold IsOut at hI ⊢
      rw [Bool.or_eq_true, hI, List.any_eq_true]
      constructor
      · rintro (⟨w', i', x', h1, h2⟩ | ⟨x, h1, h2⟩)
        · exact ⟨w', i', x', ⟨by have := h1.1; omega, h1.2⟩, h2⟩
        · obtain ⟨i, hi, rfl⟩ := List.mem_iff_getElem.1 h1
          exact ⟨w, i, _, ⟨by omega, hw, hp, by simp [hi]⟩, h2⟩
      · rintro ⟨w', i', x', ⟨h1, h2⟩, h3⟩
        by_cases e : w' = w
        · subst e; exact .inr ⟨x', List.mem_of_getElem? h2.2.2, h3⟩
        · exact .inl ⟨w', i', x', ⟨by omega, h2⟩, h3⟩) (fun w o hw hp hI => by
    have h : Same (Vis f r w 0) (Vis f r (w + 1) 0) := fun a b c => (Vis.skip hp a b c).symm
    exact h.out hI) ⟨fun h => (by cases h), fun ⟨w, i, x, h, _⟩ => absurd h (Vis.zero w i x)⟩
  have h : Same (Vis f r (npair f + 1) 0) (Occ f r) := fun a b c => Vis.all a b c
  exact ⟨o, h1, h.out h2⟩

theorem of_eq {f : TField} (hs : Small f) (hf : FieldOK f) {r : Nat} (hr : r < nrun f) :
    ∃ x, m_ranks_of f (r : Int) = some x ∧ IsRank f r x := by
  obtain ⟨o, h1, h2⟩ := of_out hs hf hr
  obtain ⟨⟨a, b, rk, ok⟩, h3, h4⟩ := drive_best_eq hs hf hr
  obtain ⟨⟨a', b', rk', ok'⟩, h5, h6⟩ := drive_worst_eq hs hf hr
  have hw := worlds_eq hs hf
  unfold m_ranks_of m_ranks_worlds m_ranks_best m_ranks_worst
  rw [idx_lt hr]
  simp only [some_bind, hw]
  rw [show foldO (m_ranks_of_R1 f (r : Int)) (listP (Poss f.Runners) 0 (f.Pairs.length + 1)) false = some o from h1, some_bind, h3]
  simp only [some_bind]
  have hbib : f.Runners[r]?.map (·.Bib) = some f.Runners[r].Bib := by
    have : r < f.Runners.length := hr
    simp [this]
  rcases h4 with ⟨g1, g2⟩ | ⟨g1, ⟨w, i, x, g2, g3, g4, g5, g6⟩, g7⟩
  · dsimp only at g1
    subst g1
    rw [Bool.not_false, cond_true]
    exact ⟨_, rfl, hbib, .inl ⟨rfl, g2⟩, .inl ⟨rfl, g2⟩, h2, by simp⟩
  · dsimp only at g1 g4 g5 g6 g7
    subst g1
    rw [Bool.not_true, cond_false, h5]
    simp only [some_bind]
    have hlo : IsLo (NB f r) (Occ f r) rk := .inr ⟨⟨w, i, x, g2, g3, g6⟩, g7⟩
    have hhi : IsHi (NW f r) (Occ f r) rk' := by
      rcases h6 with ⟨k1, k2⟩ | ⟨k1, ⟨w', i', x', k2, k3, k4, k5, k6⟩, k7⟩
      · rw [k2 _ _ _ g2] at g3; cases g3
      · exact .inr ⟨⟨w', i', x', k2, k3, k6⟩, k7⟩
    have hz : rk ≠ 0 := by have := NB_pos f r w x; omega
    rw [bif_eq]
    by_cases e : rk = rk'
    · rw [if_pos e]
      cases o with
      | false => exact ⟨_, rfl, hbib, hlo, hhi, h2, by simp [hz, e]; intro h; omega⟩
      | true => exact ⟨_, rfl, hbib, hlo, hhi, h2, by simp [hz]⟩
    · rw [if_neg e]; exact ⟨_, rfl, hbib, hlo, hhi, h2, by simp [hz, e]⟩

theorem Of_ok {f : TField} (hs : Small f) (hf : FieldOK f) {r : Nat} (hr : r < nrun f) :
    ∃ x, m_ranks_Of f (r : Int) = some (x, 0) ∧ m_stopwatchref25_Of f (r : Int) = some (x, 0) ∧ m_ranks_of f (r : Int) = some x ∧ IsRank f r x := by
  obtain ⟨x, h1, h2⟩ := of_eq hs hf hr
  obtain ⟨y, h3, h4⟩ := ref_Of_eq hs hf hr
  have := h2.uniq h4
  subst this
  refine ⟨x, ?_, h3, h1, h2⟩
  unfold m_ranks_Of
  rw [ranks_check_eq hs (by simp), chk_pos hf, chk_pos (by simpa using inR_of hr), some_bind, h1]
  rfl

/-- The ranks of all runners. -/
def IsRanks (f : TField) (l : List TRank) : Prop := l.length = nrun f ∧ ∀ i x, l[i]? = some x → IsRank f i x

theorem IsRanks.uniq {f : TField} {l m : List TRank} (hl : IsRanks f l) (hm : IsRanks f m) : l = m := by
  obtain ⟨h1, h2⟩ := hl
  obtain ⟨h3, h4⟩ := hm
  refine List.ext_getElem (by omega) fun i hi hj => ?_
  exact (h2 i _ (by simp [hi])).uniq (h4 i _ (by simp [hj]))

/-- The offset of a variable in a history. -/
def off (h : THistory) (i : Nat) : Int := ((0 :: h.Offsets)[i]?).getD 0

def ch (h : THistory) (k : Nat) : TChoice := (h.Choices[k]?).getD default

def oc (f : TField) (h : THistory) (k : Nat) : TOutcome := ((wl f.Runners k h.World.toNat)[(ch h k).Outcome.toNat]?).getD default

def net (f : TField) (h : THistory) (k : Nat) : Int := (ch h k).X + off h (vr (oc f h k))

/-- A history that is admissible. -/
structure Adm (f : TField) (h : THistory) : Prop where
  world : 0 ≤ h.World ∧ h.World < npair f + 1
  poss : Poss f.Runners h.World.toNat
  offs : h.Offsets.length = nseg f
  chs : h.Choices.length = nrun f
  small : ∀ i, i < nseg f + 1 → -1125899906842624 ≤ off h i ∧ off h i ≤ 1125899906842624
  tri : ∀ i, i < nseg f + 1 → ∀ k, k < nseg f + 1 → off h k - off h i ≤ far f i k
  choice : ∀ k, k < nrun f → 0 ≤ (ch h k).Outcome ∧ (ch h k).Outcome < (wl f.Runners k h.World.toNat).length ∧ ((oc f h k).Out = true → (ch h k).X = 0) ∧ ((oc f h k).Out = false → (oc f h k).Lo ≤ (ch h k).X ∧ (ch h k).X ≤ (oc f h k).Hi)

theorem Adm.nat {f : TField} {h : THistory} (ha : Adm f h) : h.World = (h.World.toNat : Int) ∧ h.World.toNat < npair f + 1 := by
  have := ha.world
  omega

theorem ch_get {h : THistory} {k : Nat} (hk : k < h.Choices.length) : h.Choices[k] = ch h k := by unfold ch; simp [hk]

theorem ch_idx {f : TField} {h : THistory} (ha : Adm f h) {k : Nat} (hk : k < nrun f) : idx h.Choices (k : Int) = some (ch h k) := by
  have : k < h.Choices.length := by rw [ha.chs]; exact hk
  rw [idx_lt this, ch_get this]

theorem oc_occ {f : TField} {h : THistory} (ha : Adm f h) {k : Nat} (hk : k < nrun f) : Occ f k h.World.toNat (ch h k).Outcome.toNat (oc f h k) := by
  obtain ⟨h1, h2, _⟩ := ha.choice k hk
  refine ⟨ha.nat.2, ha.poss, ?_⟩
  have : (ch h k).Outcome.toNat < (wl f.Runners k h.World.toNat).length := by omega
  unfold oc
  simp [this]

theorem oc_ok {f : TField} (hf : FieldOK f) {h : THistory} (ha : Adm f h) {k : Nat} (hk : k < nrun f) : OutOK f.Clocks (oc f h k) := (oc_occ ha hk).ok hf hk

theorem oc_mem {f : TField} {h : THistory} (ha : Adm f h) {k : Nat} (hk : k < nrun f) : oc f h k ∈ wl f.Runners k h.World.toNat := List.mem_of_getElem? (oc_occ ha hk).2.2

theorem ref25_Possible_all {f : TField} (hs : Small f) (hf : FieldOK f) (w : Int) : m_stopwatchref25_Possible f w = chk ((0 ≤ w ∧ w < npair f + 1) ∧ Poss f.Runners w.toNat) false (some true) := by
  by_cases h : 0 ≤ w ∧ w < npair f + 1
  · have e : w = (w.toNat : Int) := by omega
    have h1 := ref25_Possible_eq hs hf (w := w.toNat) (by show w.toNat < npair f + 1; omega)
    rw [← e] at h1
    rw [h1]
    exact chk_congr (by simp [h]) fun _ => rfl
  · rw [chk_neg (fun hh => h hh.1)]
    unfold m_stopwatchref25_Possible
    rw [bif_dec, bif_dec]
    by_cases h1 : w < 0
    · rw [if_pos h1]
    · rw [if_neg h1, if_pos (by have : ((npair f : Nat) : Int) = (f.Pairs.length : Int) := rfl; omega)]

theorem adm_L1 {l : List Int} {kk : Unit → Option Bool} (hl : l.length ≤ 1000000) : m_stopwatchref25_Admissible_L1 l kk (l.length + 1) 0 = chk (∀ i, i < l.length → -1125899906842624 ≤ (l[i]?).getD 0 ∧ (l[i]?).getD 0 ≤ 1125899906842624) false (kk ()) := by
  refine chk_loop (f := fun n i => m_stopwatchref25_Admissible_L1 l kk n (i : Int)) (fun n i hi => ?_) (fun n => ?_)
  · show m_stopwatchref25_Admissible_L1 l kk (n + 1) (i : Int) = _
    have e : (l[i]?).getD 0 = l[i] := by simp [hi]
    rw [m_stopwatchref25_Admissible_L1, dec_lt_nat, decide_eq_true hi, cond_true, idx_lt hi, some_bind, some_bind, w64_succ (by omega), bif_dec, bif_dec, e]
    by_cases h1 : l[i] < -1125899906842624
    · rw [if_pos h1, chk_neg (by omega)]
    · rw [if_neg h1]
      by_cases h2 : l[i] > 1125899906842624
      · rw [if_pos h2, chk_neg (by omega)]
      · rw [if_neg h2, chk_pos (by omega)]
  · show m_stopwatchref25_Admissible_L1 l kk (n + 1) ((l.length : Nat) : Int) = _
    rw [m_stopwatchref25_Admissible_L1]; simp

theorem adm_L3 {f : TField} (hf : FieldOK f) {l : List Int} {kk : Unit → Option Bool} (hl : l.length = nseg f + 1) (hb : ∀ i, i < l.length → -1125899906842624 ≤ (l[i]?).getD 0 ∧ (l[i]?).getD 0 ≤ 1125899906842624) {i : Nat} (hi : i < nseg f + 1) : m_stopwatchref25_Admissible_L3 f l (i : Int) kk (l.length + 1) 0 = chk (∀ k, k < l.length → (l[k]?).getD 0 - (l[i]?).getD 0 ≤ far f i k) false (kk ()) := by
  refine chk_loop (f := fun n k => m_stopwatchref25_Admissible_L3 f l (i : Int) kk n (k : Int)) (fun n k hk => ?_) (fun n => ?_)
  · show m_stopwatchref25_Admissible_L3 f l (i : Int) kk (n + 1) (k : Int) = _
    have hi' : i < l.length := by omega
    have e1 : (l[i]?).getD 0 = l[i] := by simp [hi']
    have e2 : (l[k]?).getD 0 = l[k] := by simp [hk]
    obtain ⟨row, g1, g2⟩ := far_get hf.clocks (i := i) (j := k) hi (by rw [hl] at hk; exact hk)
    have b1 := hb i hi'
    have b2 := hb k hk
    have hsg : nseg f ≤ 511 := hf.clocks.few
    rw [m_stopwatchref25_Admissible_L3, dec_lt_nat, decide_eq_true hk, cond_true, idx_lt hk, some_bind, idx_lt hi', some_bind, g1, some_bind, g2, some_bind, w64_succ (by omega), bif_dec, e1, e2]
    rw [e1] at b1
    rw [e2] at b2
    rw [w64_of (by omega) (by omega)]
    by_cases h1 : l[k] - l[i] > far f i k
    · rw [if_pos h1, chk_neg (by omega)]
    · rw [if_neg h1, chk_pos (by omega)]
  · show m_stopwatchref25_Admissible_L3 f l (i : Int) kk (n + 1) ((l.length : Nat) : Int) = _
    rw [m_stopwatchref25_Admissible_L3]; simp

theorem adm_L2 {f : TField} (hf : FieldOK f) {l : List Int} {kk : Unit → Option Bool} (hl : l.length = nseg f + 1) (hb : ∀ i, i < l.length → -1125899906842624 ≤ (l[i]?).getD 0 ∧ (l[i]?).getD 0 ≤ 1125899906842624) : m_stopwatchref25_Admissible_L2 f l kk (l.length + 1) 0 = chk (∀ i, i < l.length → ∀ k, k < l.length → (l[k]?).getD 0 - (l[i]?).getD 0 ≤ far f i k) false (kk ()) := by
  refine chk_loop (f := fun n i => m_stopwatchref25_Admissible_L2 f l kk n (i : Int)) (fun n i hi => ?_) (fun n => ?_)
  · show m_stopwatchref25_Admissible_L2 f l kk (n + 1) (i : Int) = _
    have hsg : nseg f ≤ 511 := hf.clocks.few
    rw [m_stopwatchref25_Admissible_L2, dec_lt_nat, decide_eq_true hi, cond_true, fuel_sub, adm_L3 hf hl hb (by omega)]
    show chk _ _ (m_stopwatchref25_Admissible_L2 f l kk n (w64 ((i : Int) + 1))) = _
    rw [w64_succ (by omega)]
  · show m_stopwatchref25_Admissible_L2 f l kk (n + 1) ((l.length : Nat) : Int) = _
    rw [m_stopwatchref25_Admissible_L2]; simp

theorem adm_L5 {f : TField} (hs : Small f) (hf : FieldOK f) {h : THistory} (hw : 0 ≤ h.World ∧ h.World < npair f + 1) (hc : h.Choices.length = nrun f) : m_stopwatchref25_Admissible_L5 f h m_stopwatchref25_Admissible_J6 (h.Choices.length + 1) 0 = chk (∀ k, k < h.Choices.length → 0 ≤ (ch h k).Outcome ∧ (ch h k).Outcome < (wl f.Runners k h.World.toNat).length ∧ ((oc f h k).Out = true → (ch h k).X = 0) ∧ ((oc f h k).Out = false → (oc f h k).Lo ≤ (ch h k).X ∧ (ch h k).X ≤ (oc f h k).Hi)) false (some true) := by
  refine chk_loop (f := fun n i => m_stopwatchref25_Admissible_L5 f h m_stopwatchref25_Admissible_J6 n (i : Int)) (fun n i hi => ?_) (fun n => ?_)
  · show m_stopwatchref25_Admissible_L5 f h m_stopwatchref25_Admissible_J6 (n + 1) (i : Int) = _
    have hlen : nrun f ≤ 1000000 := hs.runners
    have hi' : i < nrun f := by omega
    obtain ⟨_, hm⟩ := wl_mem hf hi' (w := h.World.toNat) (by have : h.World < (npair f : Int) + 1 := hw.2; show _ < npair f + 1; omega)
    have ew : (h.World.toNat : Int) = h.World := by omega
    rw [ew] at hm
    rw [m_stopwatchref25_Admissible_L5, dec_lt_nat, decide_eq_true hi, cond_true, idx_lt hi', some_bind, hm, some_bind, idx_lt hi, some_bind, w64_succ (by omega), ch_get hi, bif_dec, bif_dec]
    have e : oc f h i = ((wl f.Runners i h.World.toNat)[(ch h i).Outcome.toNat]?).getD default := rfl
    generalize ch h i = c at e
    generalize wl f.Runners i h.World.toNat = l at e
    by_cases h1 : c.Outcome < 0
    · rw [if_pos h1, chk_neg (by omega)]
    · rw [if_neg h1]
      by_cases h2 : c.Outcome ≥ (l.length : Int)
      · rw [if_pos h2, chk_neg (by omega)]
      · have h3 : c.Outcome.toNat < l.length := by omega
        have h4 : idx l c.Outcome = some (oc f h i) := by
          have : c.Outcome = (c.Outcome.toNat : Int) := by omega
          rw [this, idx_lt h3, e]
          simp [h3]
        rw [if_neg h2, h4, some_bind]
        generalize oc f h i = x
        cases hx : x.Out with
        | true =>
          rw [cond_true, bif_ne]
          by_cases h5 : c.X = 0
          · rw [if_pos h5, chk_pos ⟨by omega, by omega, fun _ => h5, fun h => by cases h⟩]
          · rw [if_neg h5, chk_neg (fun h => h5 (h.2.2.1 rfl))]
        | false =>
          rw [cond_false, Bool.cond_eq_ite]
          by_cases h5 : x.Lo ≤ c.X ∧ c.X ≤ x.Hi
          · rw [if_neg (by simp; omega), chk_pos ⟨by omega, by omega, fun h => (by cases h), fun _ => h5⟩]
          · rw [if_pos (by simp; omega), chk_neg (fun h => h5 (h.2.2.2 rfl))]
  · show m_stopwatchref25_Admissible_L5 f h m_stopwatchref25_Admissible_J6 (n + 1) ((h.Choices.length : Nat) : Int) = _
    rw [m_stopwatchref25_Admissible_L5]; simp [m_stopwatchref25_Admissible_J6]

theorem adm_iff {f : TField} {h : THistory} : (((((0 ≤ h.World ∧ h.World < npair f + 1) ∧ Poss f.Runners h.World.toNat) ∧ h.Offsets.length = nseg f ∧ h.Choices.length = nrun f) ∧ (∀ i, i < (0 :: h.Offsets).length → -1125899906842624 ≤ ((0 :: h.Offsets)[i]?).getD 0 ∧ ((0 :: h.Offsets)[i]?).getD 0 ≤ 1125899906842624)) ∧ (∀ i, i < (0 :: h.Offsets).length → ∀ k, k < (0 :: h.Offsets).length → ((0 :: h.Offsets)[k]?).getD 0 - ((0 :: h.Offsets)[i]?).getD 0 ≤ far f i k)) ∧ (∀ k, k < h.Choices.length → 0 ≤ (ch h k).Outcome ∧ (ch h k).Outcome < (wl f.Runners k h.World.toNat).length ∧ ((oc f h k).Out = true → (ch h k).X = 0) ∧ ((oc f h k).Out = false → (oc f h k).Lo ≤ (ch h k).X ∧ (ch h k).X ≤ (oc f h k).Hi)) ↔ Adm f h := by
  constructor
  · rintro ⟨⟨⟨⟨⟨a, b⟩, c, d⟩, e⟩, g⟩, i⟩
    rw [List.length_cons, c] at e g
    rw [d] at i
    exact ⟨a, b, c, d, e, g, i⟩
  · rintro ⟨a, b, c, d, e, g, i⟩
    refine ⟨⟨⟨⟨⟨a, b⟩, c, d⟩, ?_⟩, ?_⟩, ?_⟩
    · rw [List.length_cons, c]; exact e
    · rw [List.length_cons, c]; exact g
    · rw [d]; exact i

theorem Admissible_eq {f : TField} (hs : Small f) (hf : FieldOK f) (h : THistory) : ∃ b, m_stopwatchref25_Admissible f h = some b ∧ (b = true ↔ Adm f h) := by
  have key : m_stopwatchref25_Admissible f h = chk (Adm f h) false (some true) := by
    have hsg : nseg f ≤ 511 := hf.clocks.few
    unfold m_stopwatchref25_Admissible
    rw [ref25_Possible_all hs hf]
    by_cases h1 : 0 ≤ h.World ∧ h.World < npair f + 1
    · by_cases h2 : Poss f.Runners h.World.toNat
      · rw [chk_pos ⟨h1, h2⟩]
        simp only [some_bind, Bool.not_true, cond_false, bif_ne]
        by_cases h3 : h.Offsets.length = nseg f
        · rw [if_pos (show (h.Offsets.length : Int) = (f.Clocks.Segments.length : Int) by rw [h3])]
          by_cases h4 : h.Choices.length = nrun f
          · rw [if_pos (show (h.Choices.length : Int) = (f.Runners.length : Int) by rw [h4]), app_ok (by simp [h3]; omega) (by simp [h3]; omega), some_bind]
            show m_stopwatchref25_Admissible_L1 (0 :: h.Offsets) _ _ 0 = _
            rw [show ([0] ++ h.Offsets) = 0 :: h.Offsets from rfl, fuel_sub, adm_L1 (by simp [h3]; omega)]
            have e : m_stopwatchref25_Admissible_J8 f h (0 :: h.Offsets) () = m_stopwatchref25_Admissible_L2 f (0 :: h.Offsets) (m_stopwatchref25_Admissible_J7 f h) ((0 :: h.Offsets).length + 1) 0 := by
              unfold m_stopwatchref25_Admissible_J8; rw [fuel_sub]
            have e2 : m_stopwatchref25_Admissible_J7 f h () = chk (∀ k, k < h.Choices.length → 0 ≤ (ch h k).Outcome ∧ (ch h k).Outcome < (wl f.Runners k h.World.toNat).length ∧ ((oc f h k).Out = true → (ch h k).X = 0) ∧ ((oc f h k).Out = false → (oc f h k).Lo ≤ (ch h k).X ∧ (ch h k).X ≤ (oc f h k).Hi)) false (some true) := by
              unfold m_stopwatchref25_Admissible_J7; rw [fuel_sub, adm_L5 hs hf h1 h4]
            refine Eq.trans (chk_and' fun h5 => Eq.trans e (adm_L2 hf (by simp [h3]) h5)) ?_
            rw [e2, chk_and]
            refine chk_congr ?_ fun _ => rfl
            rw [← adm_iff]
            simp only [h1, h2, h3, h4, and_self, true_and]
          · rw [if_neg (show ¬(h.Choices.length : Int) = (f.Runners.length : Int) from fun e => h4 (by have : (h.Choices.length : Int) = (nrun f : Int) := e; omega)), chk_neg (fun ha : Adm f h => h4 ha.chs)]
        · rw [if_neg (show ¬(h.Offsets.length : Int) = (f.Clocks.Segments.length : Int) from fun e => h3 (by have : (h.Offsets.length : Int) = (nseg f : Int) := e; omega)), chk_neg (fun ha : Adm f h => h3 ha.offs)]
      · rw [chk_neg (fun hh => h2 hh.2), chk_neg (fun ha : Adm f h => h2 ha.poss)]; rfl
    · rw [chk_neg (fun hh => h1 hh.1), chk_neg (fun ha : Adm f h => h1 ha.world)]; rfl
  rw [key]
  by_cases ha : Adm f h
  · exact ⟨true, chk_pos ha, by simp [ha]⟩
  · exact ⟨false, chk_neg ha, by simp [ha]⟩

theorem Outcome_eq {f : TField} (hf : FieldOK f) {h : THistory} (ha : Adm f h) {k : Nat} (hk : k < nrun f) : m_stopwatchref25_Outcome f h (k : Int) = some (oc f h k) := by
  unfold m_stopwatchref25_Outcome
  obtain ⟨hw1, hw2⟩ := ha.nat
  obtain ⟨h1, h2, _⟩ := ha.choice k hk
  have e : (ch h k).Outcome = ((ch h k).Outcome.toNat : Int) := by omega
  have h3 : (ch h k).Outcome.toNat < (wl f.Runners k h.World.toNat).length := by omega
  have ho := (oc_occ ha hk).2.2
  rw [idx_lt hk, some_bind, hw1, (wl_mem hf hk hw2).2, some_bind, ch_idx ha hk, some_bind, e, idx_lt h3, some_bind]
  rw [List.getElem?_eq_getElem h3] at ho
  exact ho

theorem off_idx {f : TField} {h : THistory} (ha : Adm f h) {i : Nat} (hi : i < nseg f) : idx h.Offsets (i : Int) = some (off h (i + 1)) := by
  have : i < h.Offsets.length := by rw [ha.offs]; exact hi
  rw [idx_lt this]; unfold off; simp [this]

theorem offset_eq {f : TField} {h : THistory} (ha : Adm f h) {x : TOutcome} (hx : OutOK f.Clocks x) (hxo : x.Out = false) : m_stopwatchref25_offset h x = some (off h (vr x)) := by
  obtain ⟨h1, h2, _⟩ := hx.2 hxo
  unfold m_stopwatchref25_offset vr
  rw [bif_dec]
  by_cases h3 : x.Seg < 0
  · have e : (x.Seg + 1).toNat = 0 := by omega
    rw [if_pos h3, e]; rfl
  · have e : (x.Seg + 1).toNat = x.Seg.toNat + 1 := by omega
    have e2 : x.Seg = (x.Seg.toNat : Int) := by omega
    rw [if_neg h3, e, e2, off_idx ha (i := x.Seg.toNat) (by show _ < f.Clocks.Segments.length; omega)]
    rfl

theorem vr_lt {f : TField} (hf : FieldOK f) {x : TOutcome} (hx : OutOK f.Clocks x) (hxo : x.Out = false) : vr x < nseg f + 1 := (vr_eq hf.clocks hx hxo).2

theorem net_bound {f : TField} (hf : FieldOK f) {h : THistory} (ha : Adm f h) {k : Nat} (hk : k < nrun f) (hxo : (oc f h k).Out = false) : -300000000000000000 ≤ net f h k ∧ net f h k ≤ 300000000000000000 := by
  have hx := oc_ok hf ha hk
  obtain ⟨_, _, h1, h2, h3⟩ := hx.2 hxo
  have h4 := (ha.choice k hk).2.2.2 hxo
  have h5 := ha.small _ (vr_lt hf hx hxo)
  unfold net
  omega

theorem Net_eq {f : TField} (hf : FieldOK f) {h : THistory} (ha : Adm f h) {k : Nat} (hk : k < nrun f) : m_stopwatchref25_Net f h (k : Int) = some (if (oc f h k).Out = true then (0, false) else (net f h k, true)) := by
  unfold m_stopwatchref25_Net
  rw [Outcome_eq hf ha hk, some_bind]
  cases hxo : (oc f h k).Out with
  | true => rfl
  | false =>
    have hx := oc_ok hf ha hk
    have hb := net_bound hf ha hk hxo
    unfold net at hb
    rw [cond_false, ch_idx ha hk, some_bind, offset_eq ha hx hxo, some_bind, w64_of (by omega) (by omega)]
    rfl

/-- Is a runner ahead of another one in a history; what rank has it? -/
def inFr (f : TField) (h : THistory) (a b : Nat) : Bool := !(oc f h a).Out && ((oc f h b).Out || front f a b (net f h a - net f h b))

def rank (f : TField) (h : THistory) (r : Nat) : Nat := if (oc f h r).Out = true then 0 else 1 + (List.range (nrun f)).countP (fun k => inFr f h k r)

theorem InFront_eq {f : TField} (hs : Small f) (hf : FieldOK f) {h : THistory} (ha : Adm f h) {a b : Nat} (hk : a < nrun f) (hb : b < nrun f) : m_stopwatchref25_InFront f h (a : Int) (b : Int) = some (inFr f h a b) := by
  unfold m_stopwatchref25_InFront inFr front
  rw [Net_eq hf ha hk, Net_eq hf ha hb]
  cases (oc f h a).Out with
  | true => rfl
  | false =>
    cases (oc f h b).Out with
    | true => rfl
    | false =>
      simp only [some_bind, Bool.false_eq_true, if_false, Bool.not_true, cond_false, Bool.not_false, Bool.true_and, Bool.false_or, bif_dec, bif_eq, idx_lt hk, idx_lt hb, keys_get, Less_eq _ _ (keys_len hs hk)]
      generalize net f h a = p
      generalize net f h b = q
      by_cases h1 : p < q
      · rw [if_pos h1]; simp; omega
      · rw [if_neg h1]
        by_cases h2 : p = q
        · rw [if_pos h2]; subst h2; simp
        · rw [if_neg h2]
          have e1 : ¬(p - q < 0) := by omega
          have e2 : ¬(p - q = 0) := by omega
          simp [e1, e2]

theorem Rank_eq {f : TField} (hs : Small f) (hf : FieldOK f) {h : THistory} (ha : Adm f h) {r : Nat} (hr : r < nrun f) : m_stopwatchref25_Rank f h (r : Int) = some (rank f h r : Int) := by
  have hlen : nrun f ≤ 1000000 := hs.runners
  unfold m_stopwatchref25_Rank rank
  rw [Net_eq hf ha hr]
  cases (oc f h r).Out with
  | true => rfl
  | false =>
    have hc := count_loop (N := nrun f) (f := fun n i c => m_stopwatchref25_Rank_L1 f h (r : Int) n c (i : Int)) (p := fun k => inFr f h k r) (k := some) (c0 := 1) (fun n i c hi h1 h2 => by
      show m_stopwatchref25_Rank_L1 f h (r : Int) (n + 1) c (i : Int) = _
      rw [m_stopwatchref25_Rank_L1, dec_lt_nat, decide_eq_true hi, cond_true, InFront_eq hs hf ha hi hr, some_bind, w64_succ (by omega), w64_of (n := c + 1) (by omega) (by omega)]
      cases inFr f h i r <;> rfl) (fun n c => by
      show m_stopwatchref25_Rank_L1 f h (r : Int) (n + 1) c ((nrun f : Nat) : Int) = _
      rw [m_stopwatchref25_Rank_L1]; simp)
    replace hc : m_stopwatchref25_Rank_L1 f h (r : Int) (f.Runners.length + 1) 1 0 = _ := hc
    simp only [some_bind, Bool.false_eq_true, if_false, Bool.not_true, cond_false, fuel_sub, hc]
    congr 1

/-! What holds in every history. -/

theorem front_mono {f : TField} {k r : Nat} {d e : Int} (h : e ≤ d) (hd : front f k r d = true) : front f k r e = true := by
  unfold front at *
  simp only [Bool.or_eq_true, Bool.and_eq_true, decide_eq_true_eq] at *
  rcases hd with hd | ⟨hd, hk⟩
  · left; omega
  · by_cases he : e < 0
    · exact .inl he
    · exact .inr ⟨by omega, hk⟩

theorem off_diff {f : TField} {h : THistory} (ha : Adm f h) {i k : Nat} (hi : i < nseg f + 1) (hk : k < nseg f + 1) : off h k - off h i ≤ far f i k := ha.tri i hi k hk

theorem forced_inFr {f : TField} (hf : FieldOK f) {h : THistory} (ha : Adm f h) {r k : Nat} (hr : r < nrun f) (hk : k < nrun f) (hxo : (oc f h r).Out = false) (hF : forced f r (oc f h r) k (oc f h k) = true) : inFr f h k r = true := by
  unfold forced at hF
  unfold inFr
  rw [Bool.and_eq_true] at hF ⊢
  refine ⟨hF.1, ?_⟩
  rw [Bool.or_eq_true]
  right
  have hyo : (oc f h k).Out = false := by simpa using hF.1
  refine front_mono ?_ hF.2
  have h1 := (ha.choice r hr).2.2.2 hxo
  have h2 := (ha.choice k hk).2.2.2 hyo
  have h3 := off_diff ha (vr_lt hf (oc_ok hf ha hr) hxo) (vr_lt hf (oc_ok hf ha hk) hyo)
  unfold net
  omega

theorem inFr_can {f : TField} (hf : FieldOK f) {h : THistory} (ha : Adm f h) {r k : Nat} (hr : r < nrun f) (hk : k < nrun f) (hxo : (oc f h r).Out = false) (hF : inFr f h k r = true) : can f r (oc f h r) k (oc f h k) = true := by
  unfold inFr at hF
  unfold can
  rw [Bool.and_eq_true] at hF ⊢
  refine ⟨hF.1, ?_⟩
  have h0 := hF.2
  rw [hxo, Bool.false_or] at h0
  have hyo : (oc f h k).Out = false := by simpa using hF.1
  refine front_mono ?_ h0
  have h1 := (ha.choice r hr).2.2.2 hxo
  have h2 := (ha.choice k hk).2.2.2 hyo
  have h3 := off_diff ha (vr_lt hf (oc_ok hf ha hk) hyo) (vr_lt hf (oc_ok hf ha hr) hxo)
  unfold net
  omega

theorem inFr_self {f : TField} {h : THistory} {r : Nat} (hxo : (oc f h r).Out = false) : inFr f h r r = false := by
  unfold inFr front
  rw [hxo]
  simp [kLt_irrefl]

theorem countP_le_of {N : Nat} {p q : Nat → Bool} (h : ∀ i, i < N → p i = true → q i = true) : (List.range N).countP p ≤ (List.range N).countP q :=
  List.countP_mono_left fun i hi hp => h i (by simpa using hi) hp

/-- In every history, the rank is within what the outcome leads to. -/
theorem rank_between {f : TField} (hf : FieldOK f) {h : THistory} (ha : Adm f h) {r : Nat} (hr : r < nrun f) (hxo : (oc f h r).Out = false) :
    NB f r h.World.toNat (oc f h r) ≤ rank f h r ∧ (rank f h r : Int) ≤ NW f r h.World.toNat (oc f h r) := by
  unfold rank NB NW nBest nWorst
  rw [hxo]
  simp only [Bool.false_eq_true, if_false]
  have h1 := countP_le_of (N := nrun f) (p := sureK f h.World.toNat r (oc f h r)) (q := fun k => inFr f h k r) (fun k hk hp => by
    unfold sureK at hp
    rw [Bool.and_eq_true, List.all_eq_true] at hp
    exact forced_inFr hf ha hr hk hxo (hp.2 _ (oc_mem ha hk)))
  have h2 := countP_le_of (N := nrun f) (p := fun k => inFr f h k r) (q := mayK f h.World.toNat r (oc f h r)) (fun k hk hp => by
    unfold mayK
    rw [Bool.and_eq_true, List.any_eq_true, decide_eq_true_iff]
    refine ⟨?_, _, oc_mem ha hk, inFr_can hf ha hr hk hxo hp⟩
    rintro rfl
    rw [inFr_self hxo] at hp
    cases hp)
  omega

theorem rank_zero {f : TField} {h : THistory} {r : Nat} : rank f h r = 0 ↔ (oc f h r).Out = true := by
  unfold rank
  by_cases e : (oc f h r).Out = true
  · simp [e]
  · simp [e]

/-- .. and within what is known about the runner. -/
theorem rank_known {f : TField} (hf : FieldOK f) {h : THistory} (ha : Adm f h) {r : Nat} (hr : r < nrun f) {x : TRank} (hx : IsRank f r x) :
    (rank f h r = 0 ∧ x.Out = true) ∨ (1 ≤ rank f h r ∧ 1 ≤ x.Lo ∧ x.Lo ≤ rank f h r ∧ (rank f h r : Int) ≤ x.Hi) := by
  have ho := oc_occ ha hr
  cases hxo : (oc f h r).Out with
  | true => exact .inl ⟨rank_zero.2 hxo, hx.out.2 ⟨_, _, _, ho, hxo⟩⟩
  | false =>
    right
    obtain ⟨h1, h2⟩ := rank_between hf ha hr hxo
    have h3 := NB_pos f r h.World.toNat (oc f h r)
    rcases hx.lo with ⟨_, h4⟩ | ⟨⟨w, i, y, _, _, h6⟩, h5⟩
    · rw [h4 _ _ _ ho] at hxo; cases hxo
    · have h7 := h5 _ _ _ ho hxo
      have h8 := NB_pos f r w y
      rcases hx.hi with ⟨_, h9⟩ | ⟨_, h9⟩
      · rw [h9 _ _ _ ho] at hxo; cases hxo
      · have h10 := h9 _ _ _ ho hxo
        omega

theorem allany_loop {α β : Type} {l : List α} {f : Nat → Nat → Bool × Bool → Option β} {k : Bool × Bool → Option β} {A B : α → Bool}
    (hs : ∀ n i (h : i < l.length) s, f (n + 1) i s = f n (i + 1) (s.1 && A l[i], s.2 || B l[i])) (he : ∀ n s, f (n + 1) l.length s = k s) (s : Bool × Bool) :
    f (l.length + 1) 0 s = k (s.1 && l.all A, s.2 || l.any B) := by
  obtain ⟨t, h1, h2⟩ := inv_loop (N := l.length) (f := f) (k := k) (I := fun i t => t = (s.1 && (l.take i).all A, s.2 || (l.take i).any B)) (s0 := s) (fun i t hi hI => by
    refine ⟨_, ?_, fun n => hs n i hi t⟩
    rw [hI, List.take_succ_eq_append_getElem hi, List.all_append, List.any_append]
    simp [Bool.and_assoc, Bool.or_assoc]) he (by simp)
  rw [h1, h2, List.take_length]

/-- Ahead with these outcomes, for certain and possibly. -/
def sureXY (f : TField) (a b : Nat) (x y : TOutcome) : Bool := !x.Out && (y.Out || forced f b y a x)

def mayXY (f : TField) (a b : Nat) (x y : TOutcome) : Bool := !x.Out && (y.Out || can f b y a x)

def sureW (f : TField) (a b w : Nat) : Bool := (wl f.Runners a w).all fun x => (wl f.Runners b w).all (sureXY f a b x)

def mayW (f : TField) (a b w : Nat) : Bool := (wl f.Runners a w).any fun x => (wl f.Runners b w).any (mayXY f a b x)

theorem Ahead_L3_eq {f : TField} (hs : Small f) (hf : FieldOK f) {a b : Nat} (ha : a < nrun f) (hb : b < nrun f) {x : TOutcome} (hx : OutOK f.Clocks x) {m : List TOutcome} (hm : ∀ o, o ∈ m → OutOK f.Clocks o) (hml : m.length ≤ 1000) (s : Bool × Bool) :
    m_ranks_Ahead_L3 f (a : Int) (b : Int) x m (m.length + 1) 0 s.1 s.2 = some (s.1 && m.all (sureXY f a b x), s.2 || m.any (mayXY f a b x)) := by
  refine allany_loop (l := m) (f := fun n j s => m_ranks_Ahead_L3 f (a : Int) (b : Int) x m n (j : Int) s.1 s.2) (k := some) (A := sureXY f a b x) (B := mayXY f a b x) (fun n j hj s => ?_) (fun n s => ?_) s
  · show m_ranks_Ahead_L3 f (a : Int) (b : Int) x m (n + 1) (j : Int) s.1 s.2 = _
    obtain ⟨c, p⟩ := s
    have hy := hm _ (List.getElem_mem hj)
    rw [m_ranks_Ahead_L3, dec_lt_nat, decide_eq_true hj, cond_true, idx_lt hj, some_bind, w64_succ (by omega)]
    unfold sureXY mayXY
    cases hxo : x.Out with
    | true => simp
    | false =>
      cases hyo : (m[j]).Out with
      | true => simp
      | false =>
        rw [ahead_best_eq hs hf hb ha hy hx hyo, ahead_worst_eq hs hf hb ha hy hx hyo]
        cases c <;> cases p <;> rfl
  · show m_ranks_Ahead_L3 f (a : Int) (b : Int) x m (n + 1) ((m.length : Nat) : Int) s.1 s.2 = _
    rw [m_ranks_Ahead_L3]; simp

theorem Ahead_L2_eq {f : TField} (hs : Small f) (hf : FieldOK f) {a b : Nat} (ha : a < nrun f) (hb : b < nrun f) {w : Nat} (hw : w < npair f + 1) (s : Bool × Bool) :
    m_ranks_Ahead_L2 f (a : Int) (b : Int) (w : Int) (wl f.Runners a w) ((wl f.Runners a w).length + 1) 0 s.1 s.2 = some (s.1 && sureW f a b w, s.2 || mayW f a b w) := by
  have hal := wl_len hs hf ha hw
  refine allany_loop (l := wl f.Runners a w) (f := fun n j s => m_ranks_Ahead_L2 f (a : Int) (b : Int) (w : Int) (wl f.Runners a w) n (j : Int) s.1 s.2) (k := some) (fun n j hj s => ?_) (fun n s => ?_) s
  · show m_ranks_Ahead_L2 f (a : Int) (b : Int) (w : Int) (wl f.Runners a w) (n + 1) (j : Int) s.1 s.2 = _
    rw [m_ranks_Ahead_L2, dec_lt_nat, decide_eq_true hj, cond_true, idx_lt hj, some_bind, idx_lt hb, some_bind, (wl_mem hf hb hw).2, some_bind, fuel_sub, Ahead_L3_eq hs hf ha hb (wl_ok hf ha hw _ (List.getElem_mem hj)) (wl_ok hf hb hw) (wl_len hs hf hb hw), some_bind, w64_succ (by omega)]
  · show m_ranks_Ahead_L2 f (a : Int) (b : Int) (w : Int) (wl f.Runners a w) (n + 1) (((wl f.Runners a w).length : Nat) : Int) s.1 s.2 = _
    rw [m_ranks_Ahead_L2]; simp

/-- What Ahead says of two runners. -/
structure IsAhead (f : TField) (a b : Nat) (c p : Bool) : Prop where
  sure : c = true ↔ a ≠ b ∧ ∀ w, w < npair f + 1 → Poss f.Runners w → ∀ x, x ∈ wl f.Runners a w → ∀ y, y ∈ wl f.Runners b w → sureXY f a b x y = true
  may : p = true ↔ a ≠ b ∧ ∃ w, w < npair f + 1 ∧ Poss f.Runners w ∧ ∃ x, x ∈ wl f.Runners a w ∧ ∃ y, y ∈ wl f.Runners b w ∧ mayXY f a b x y = true

theorem sureW_iff {f : TField} {a b w : Nat} : sureW f a b w = true ↔ ∀ x, x ∈ wl f.Runners a w → ∀ y, y ∈ wl f.Runners b w → sureXY f a b x y = true := by
  unfold sureW; simp only [List.all_eq_true]

theorem mayW_iff {f : TField} {a b w : Nat} : mayW f a b w = true ↔ ∃ x, x ∈ wl f.Runners a w ∧ ∃ y, y ∈ wl f.Runners b w ∧ mayXY f a b x y = true := by
  unfold mayW; simp only [List.any_eq_true]

theorem Ahead_ok {f : TField} (hs : Small f) (hf : FieldOK f) {a b : Nat} (ha : a < nrun f) (hb : b < nrun f) : ∃ c p, m_ranks_Ahead f (a : Int) (b : Int) = some (c, p, 0) ∧ IsAhead f a b c p := by
  have hw := worlds_eq hs hf
  unfold m_ranks_Ahead m_ranks_worlds
  rw [ranks_check_eq hs (by simp), chk_pos hf, chk_pos (by simp [inR_of ha, inR_of hb]), some_bind, bif_eq]
  simp only [bne_self_eq_false, cond_false]
  by_cases hab : a = b
  · rw [if_pos (by rw [hab])]
    exact ⟨false, false, rfl, ⟨by simp [hab], by simp [hab]⟩⟩
  · rw [if_neg (by omega)]
    simp only [some_bind, hw]
    obtain ⟨⟨c, p⟩, h1, h2, h3⟩ := worlds_inv (N := npair f + 1) (p := Poss f.Runners) (G := m_ranks_Ahead_R1 f (a : Int) (b : Int)) (I := fun w s => (s.1 = true ↔ ∀ v, v < w → Poss f.Runners v → sureW f a b v = true) ∧ (s.2 = true ↔ ∃ v, v < w ∧ Poss f.Runners v ∧ mayW f a b v = true)) (s0 := (true, false)) (fun w s hw hp hI => by
      obtain ⟨c, p⟩ := s
      refine ⟨(c && sureW f a b w, p || mayW f a b w), ?_, ?_, ?_⟩
      · show (idx f.Runners (a : Int)).bind _ = _
        rw [idx_lt ha, some_bind, (wl_mem hf ha hw).2, some_bind, fuel_sub, Ahead_L2_eq hs hf ha hb hw (c, p)]
        rfl
      · dsimp only; rw [Bool.and_eq_true, show c = true ↔ _ from hI.1]
        constructor
        · rintro ⟨h1, h2⟩ v hv hpv
          by_cases e : v = w
          · exact e ▸ h2
          · exact h1 v (by omega) hpv
        · intro h; exact ⟨fun v hv hpv => h v (by omega) hpv, h w (by omega) hp⟩
      · dsimp only; rw [Bool.or_eq_true, show p = true ↔ _ from hI.2]
        constructor
        · rintro (⟨v, h1, h2, h3⟩ | h)
          · exact ⟨v, by omega, h2, h3⟩
          · exact ⟨w, by omega, hp, h⟩
        · rintro ⟨v, h1, h2, h3⟩
          by_cases e : v = w
          · exact .inr (e ▸ h3)
          · exact .inl ⟨v, by omega, h2, h3⟩) (fun w s hw hp hI => by
      refine ⟨hI.1.trans ⟨fun h v hv hpv => ?_, fun h v hv hpv => h v (by omega) hpv⟩, hI.2.trans ⟨fun ⟨v, h1, h2, h3⟩ => ⟨v, by omega, h2, h3⟩, fun ⟨v, h1, h2, h3⟩ => ⟨v, ?_, h2, h3⟩⟩⟩
      · by_cases e : v = w
        · subst e; exact absurd hpv hp
        · exact h v (by omega) hpv
      · by_cases e : v = w
        · subst e; exact absurd h2 hp
        · omega) (by simp)
    refine ⟨c, p, ?_, ⟨?_, ?_⟩⟩
    · show Option.bind (foldO _ (listP (Poss f.Runners) 0 (npair f + 1)) _) _ = _
      rw [h1]; rfl
    · rw [h2]
      simp only [sureW_iff]
      exact ⟨fun h => ⟨hab, h⟩, fun h => h.2⟩
    · rw [h3]
      simp only [mayW_iff]
      exact ⟨fun h => ⟨hab, h⟩, fun h => h.2⟩

/-- Two bits of a number. -/
theorem low2 (b : Int) : 0 ≤ bitK .i64 (BitVec.ofInt 64 b &&& BitVec.ofInt 64 3) ∧ bitK .i64 (BitVec.ofInt 64 b &&& BitVec.ofInt 64 3) < 4 := by
  unfold bitK
  have h : ((BitVec.ofInt 64 b &&& BitVec.ofInt 64 3) : BitVec 64).toNat < 4 := by
    rw [BitVec.toNat_and]
    exact Nat.and_lt_two_pow _ (n := 2) (by decide)
  generalize (BitVec.ofInt 64 b &&& BitVec.ofInt 64 3) = v at h
  have h2 : IntKind.wrap .i64 ((BitVec.toNat v : Nat) : Int) = ((BitVec.toNat v : Nat) : Int) := w64_of (by omega) (by omega)
  constructor
  · refine Int.le_trans (b := ((BitVec.toNat v : Nat) : Int)) (by omega) (Int.le_of_eq h2.symm)
  · refine Int.lt_of_le_of_lt (Int.le_of_eq h2) (by omega)

theorem next_ok {v : Int} {l : List Int} (h0 : 0 ≤ v) (h1 : v ≤ l.length) (hl : l.length ≤ 140737488351232) : ∃ r v', m_stopwatchlaw25_history_1 v l = some (r, v') ∧ 0 ≤ v' ∧ v' ≤ l.length := by
  unfold m_stopwatchlaw25_history_1
  rw [bif_dec]
  by_cases h : v ≥ (l.length : Int)
  · rw [if_pos h]; exact ⟨0, v, rfl, h0, h1⟩
  · rw [if_neg h, w64_of (n := v + 1) (by omega) (by omega), w64_of (by omega) (by omega)]
    obtain ⟨x, h2, _⟩ := idx_int (l := l) (i := v + 1 - 1) (by omega) (by omega)
    rw [h2]
    exact ⟨x, v + 1, rfl, by omega, by omega⟩

theorem hist_L1 {f : TField} (hf : FieldOK f) {l : List Int} (hl : l.length ≤ 140737488351232) : ∃ s : Int × List Int, m_stopwatchlaw25_history_L1 f l (nseg f + 1) 0 0 [] = some s ∧ 0 ≤ s.1 ∧ s.1 ≤ l.length := by
  have hsg : nseg f ≤ 511 := hf.clocks.few
  obtain ⟨s, h1, h2⟩ := inv_loop (N := nseg f) (f := fun n i (s : Int × List Int) => m_stopwatchlaw25_history_L1 f l n (i : Int) s.1 s.2) (k := some) (I := fun i s => (0 ≤ s.1 ∧ s.1 ≤ l.length) ∧ s.2.length = i) (s0 := (0, [])) (fun i s hi hI => by
    obtain ⟨r, v, g1, g2, g3⟩ := next_ok hI.1.1 hI.1.2 hl
    have e := hI.2
    refine ⟨(v, s.2 ++ [r]), ⟨⟨g2, g3⟩, by simp [e]⟩, fun n => ?_⟩
    show m_stopwatchlaw25_history_L1 f l (n + 1) (i : Int) s.1 s.2 = _
    rw [m_stopwatchlaw25_history_L1, dec_lt_nat, decide_eq_true hi, cond_true, g1]
    simp only [some_bind]
    rw [app_ok (by simp; omega) (by simp; omega), some_bind, w64_succ (by omega)]) (fun n s => by
    show m_stopwatchlaw25_history_L1 f l (n + 1) ((nseg f : Nat) : Int) s.1 s.2 = _
    rw [m_stopwatchlaw25_history_L1]; simp) ⟨⟨by simp, by simp⟩, rfl⟩
  exact ⟨s, h1, h2.1⟩

theorem hist_L3 {f : TField} (hf : FieldOK f) {l : List Int} (hl : l.length ≤ 140737488351232) (h1 : 1 ≤ l.length) : ∃ s : Int × List Int, m_stopwatchlaw25_history_L3 f l (nseg f + 1) 0 1 [] = some s ∧ 0 ≤ s.1 ∧ s.1 ≤ l.length := by
  have hsg : nseg f ≤ 511 := hf.clocks.few
  obtain ⟨s, h1, h2⟩ := inv_loop (N := nseg f) (f := fun n i (s : Int × List Int) => m_stopwatchlaw25_history_L3 f l n (i : Int) s.1 s.2) (k := some) (I := fun i s => (0 ≤ s.1 ∧ s.1 ≤ l.length) ∧ s.2.length = i) (s0 := (1, [])) (fun i s hi hI => by
    obtain ⟨r, v, g1, g2, g3⟩ := next_ok hI.1.1 hI.1.2 hl
    have e := hI.2
    refine ⟨(v, s.2 ++ [r]), ⟨⟨g2, g3⟩, by simp [e]⟩, fun n => ?_⟩
    show m_stopwatchlaw25_history_L3 f l (n + 1) (i : Int) s.1 s.2 = _
    rw [m_stopwatchlaw25_history_L3, dec_lt_nat, decide_eq_true hi, cond_true, g1]
    simp only [some_bind]
    rw [app_ok (by simp; omega) (by simp; omega), some_bind, w64_succ (by omega)]) (fun n s => by
    show m_stopwatchlaw25_history_L3 f l (n + 1) ((nseg f : Nat) : Int) s.1 s.2 = _
    rw [m_stopwatchlaw25_history_L3]; simp) ⟨⟨by simp, by simp; omega⟩, rfl⟩
  exact ⟨s, h1, h2.1⟩

/-- Whatever the two numbers are: a choice is looked up, if there is one. -/
theorem pick_ok {α : Type} {ws : List (List α)} {a b : Int} (ha : 0 ≤ a) (hb : 0 ≤ b) : ∃ c, (bif decide (a < (ws.length : Int)) then (idx ws a).bind fun x => some (decide (b < (x.length : Int))) else some false) = some c ∧ (c = true → ∃ x y, idx ws a = some x ∧ idx x b = some y) := by
  rw [bif_dec]
  by_cases h : a < (ws.length : Int)
  · rw [if_pos h]
    obtain ⟨x, h1, _⟩ := idx_int ha h
    rw [h1]
    refine ⟨_, rfl, fun hc => ?_⟩
    obtain ⟨y, h2, _⟩ := idx_int hb (by simpa using hc)
    exact ⟨x, y, rfl, h2⟩
  · rw [if_neg h]; exact ⟨false, rfl, fun h => by cases h⟩

theorem hist_L2 {f : TField} (hs : Small f) {l : List Int} (hl : l.length ≤ 140737488351232) {v : Int} (h0 : 0 ≤ v) (h1 : v ≤ l.length) : ∃ s, m_stopwatchlaw25_history_L2 f l (nrun f + 1) 0 v [] = some s := by
  have hlen : nrun f ≤ 1000000 := hs.runners
  have hrec : ∀ c i n (v : Int) (s : List TChoice), i + c = nrun f → c ≤ n → 0 ≤ v → v ≤ l.length → s.length = i → ∃ t, m_stopwatchlaw25_history_L2 f l (n + 1) (i : Int) v s = some t := by
    intro c
    induction c with
    | zero =>
      intro i n v s h _ _ _ _
      have : i = nrun f := by omega
      subst this
      exact ⟨s, by rw [m_stopwatchlaw25_history_L2]; simp⟩
    | succ c ih =>
      intro i n v s h hn h0 h1 hsl
      have hi : i < nrun f := by omega
      obtain ⟨n, rfl⟩ : ∃ n', n = n' + 1 := ⟨n - 1, by omega⟩
      rw [m_stopwatchlaw25_history_L2, dec_lt_nat, decide_eq_true hi, cond_true, idx_lt hi, some_bind, w64_succ (by omega), bif_dec]
      generalize f.Runners[i] = x
      have happ : ∀ c : TChoice, app 16 s [c] = some (s ++ [c]) := fun c => app_ok (by simp; omega) (by simp; omega)
      have fin : ∀ (v' : Int) (c : TChoice), 0 ≤ v' → v' ≤ l.length → ∃ t, m_stopwatchlaw25_history_L2 f l (n + 1) ((i + 1 : Nat) : Int) v' (s ++ [c]) = some t := fun v' c a b => ih (i + 1) n v' (s ++ [c]) (by omega) (by omega) a b (by simp [hsl])
      by_cases hv : v ≥ (l.length : Int)
      · rw [if_pos hv]
        obtain ⟨c, k1, k2⟩ := pick_ok (ws := x.Worlds) (low2 0).1 (low2 0).1
        rw [k1, some_bind]
        cases c with
        | false => simp only [cond_false, happ, some_bind]; exact fin _ _ h0 h1
        | true =>
          obtain ⟨p, q, k3, k4⟩ := k2 rfl
          simp only [cond_true, k3, k4, some_bind]
          cases q.Out with
          | true => simp only [Bool.not_true, cond_false, happ, some_bind]; exact fin _ _ h0 h1
          | false =>
            obtain ⟨r, v', g1, g2, g3⟩ := next_ok h0 h1 hl
            simp only [Bool.not_false, cond_true, g1, happ, some_bind]; exact fin _ _ g2 g3
      · rw [if_neg hv, w64_of (n := v + 1) (by omega) (by omega), w64_of (n := v + 1 - 1) (by omega) (by omega)]
        obtain ⟨z, hz, _⟩ := idx_int (l := l) (i := v + 1 - 1) (by omega) (by omega)
        rw [hz, some_bind]
        obtain ⟨c, k1, k2⟩ := pick_ok (ws := x.Worlds) (low2 0).1 (low2 z).1
        rw [k1, some_bind]
        cases c with
        | false => simp only [cond_false, happ, some_bind]; exact fin _ _ (by omega) (by omega)
        | true =>
          obtain ⟨p, q, k3, k4⟩ := k2 rfl
          simp only [cond_true, k3, k4, some_bind]
          cases q.Out with
          | true => simp only [Bool.not_true, cond_false, happ, some_bind]; exact fin _ _ (by omega) (by omega)
          | false =>
            obtain ⟨r, v', g1, g2, g3⟩ := next_ok (v := v + 1) (l := l) (by omega) (by omega) hl
            simp only [Bool.not_false, cond_true, g1, happ, some_bind]; exact fin _ _ g2 g3
  exact hrec (nrun f) 0 (nrun f) v [] (by omega) (by omega) h0 h1 rfl

theorem hist_L4 {f : TField} (hs : Small f) {l : List Int} (hl : l.length ≤ 140737488351232) (w : Int) {v : Int} (h0 : 0 ≤ v) (h1 : v ≤ l.length) : ∃ s, m_stopwatchlaw25_history_L4 f l w (nrun f + 1) 0 v [] = some s := by
  have hlen : nrun f ≤ 1000000 := hs.runners
  have hrec : ∀ c i n (v : Int) (s : List TChoice), i + c = nrun f → c ≤ n → 0 ≤ v → v ≤ l.length → s.length = i → ∃ t, m_stopwatchlaw25_history_L4 f l w (n + 1) (i : Int) v s = some t := by
    intro c
    induction c with
    | zero =>
      intro i n v s h _ _ _ _
      have : i = nrun f := by omega
      subst this
      exact ⟨s, by rw [m_stopwatchlaw25_history_L4]; simp⟩
    | succ c ih =>
      intro i n v s h hn h0 h1 hsl
      have hi : i < nrun f := by omega
      obtain ⟨n, rfl⟩ : ∃ n', n = n' + 1 := ⟨n - 1, by omega⟩
      rw [m_stopwatchlaw25_history_L4, dec_lt_nat, decide_eq_true hi, cond_true, idx_lt hi, some_bind, w64_succ (by omega), bif_dec]
      generalize f.Runners[i] = x
      have happ : ∀ c : TChoice, app 16 s [c] = some (s ++ [c]) := fun c => app_ok (by simp; omega) (by simp; omega)
      have fin : ∀ (v' : Int) (c : TChoice), 0 ≤ v' → v' ≤ l.length → ∃ t, m_stopwatchlaw25_history_L4 f l w (n + 1) ((i + 1 : Nat) : Int) v' (s ++ [c]) = some t := fun v' c a b => ih (i + 1) n v' (s ++ [c]) (by omega) (by omega) a b (by simp [hsl])
      by_cases hv : v ≥ (l.length : Int)
      · rw [if_pos hv]
        obtain ⟨c, k1, k2⟩ := pick_ok (ws := x.Worlds) (low2 w).1 (low2 0).1
        rw [k1, some_bind]
        cases c with
        | false => simp only [cond_false, happ, some_bind]; exact fin _ _ h0 h1
        | true =>
          obtain ⟨p, q, k3, k4⟩ := k2 rfl
          simp only [cond_true, k3, k4, some_bind]
          cases q.Out with
          | true => simp only [Bool.not_true, cond_false, happ, some_bind]; exact fin _ _ h0 h1
          | false =>
            obtain ⟨r, v', g1, g2, g3⟩ := next_ok h0 h1 hl
            simp only [Bool.not_false, cond_true, g1, happ, some_bind]; exact fin _ _ g2 g3
      · rw [if_neg hv, w64_of (n := v + 1) (by omega) (by omega), w64_of (n := v + 1 - 1) (by omega) (by omega)]
        obtain ⟨z, hz, _⟩ := idx_int (l := l) (i := v + 1 - 1) (by omega) (by omega)
        rw [hz, some_bind]
        obtain ⟨c, k1, k2⟩ := pick_ok (ws := x.Worlds) (low2 w).1 (low2 z).1
        rw [k1, some_bind]
        cases c with
        | false => simp only [cond_false, happ, some_bind]; exact fin _ _ (by omega) (by omega)
        | true =>
          obtain ⟨p, q, k3, k4⟩ := k2 rfl
          simp only [cond_true, k3, k4, some_bind]
          cases q.Out with
          | true => simp only [Bool.not_true, cond_false, happ, some_bind]; exact fin _ _ (by omega) (by omega)
          | false =>
            obtain ⟨r, v', g1, g2, g3⟩ := next_ok (v := v + 1) (l := l) (by omega) (by omega) hl
            simp only [Bool.not_false, cond_true, g1, happ, some_bind]; exact fin _ _ g2 g3
  exact hrec (nrun f) 0 (nrun f) v [] (by omega) (by omega) h0 h1 rfl

theorem hist_some {f : TField} (hs : Small f) (hf : FieldOK f) {l : List Int} (hl : l.length ≤ 140737488351232) : ∃ h, m_stopwatchlaw25_history f l = some h := by
  unfold m_stopwatchlaw25_history
  rw [bif_dec]
  by_cases h : (0 : Int) ≥ (l.length : Int)
  · rw [if_pos h, fuel_sub, fuel_sub]
    obtain ⟨s, h1, h2, h3⟩ := hist_L1 hf hl
    obtain ⟨t, h4⟩ := hist_L2 hs hl h2 h3
    replace h1 : m_stopwatchlaw25_history_L1 f l (f.Clocks.Segments.length + 1) 0 0 [] = some s := h1
    replace h4 : m_stopwatchlaw25_history_L2 f l (f.Runners.length + 1) 0 s.1 [] = some t := h4
    obtain ⟨s1, s2⟩ := s
    rw [h1]
    simp only [some_bind] at h4 ⊢
    rw [h4]
    exact ⟨_, rfl⟩
  · have h0 : 0 < l.length := by omega
    rw [if_neg h, fuel_sub, fuel_sub]
    have hz : idx l 0 = some l[0] := idx_lt (i := 0) h0
    obtain ⟨s, h1, h2, h3⟩ := hist_L3 hf hl h0
    obtain ⟨t, h4⟩ := hist_L4 hs hl l[0] h2 h3
    replace h1 : m_stopwatchlaw25_history_L3 f l (f.Clocks.Segments.length + 1) 0 1 [] = some s := h1
    replace h4 : m_stopwatchlaw25_history_L4 f l l[0] (f.Runners.length + 1) 0 s.1 [] = some t := h4
    obtain ⟨s1, s2⟩ := s
    rw [hz, some_bind, h1]
    simp only [some_bind] at h4 ⊢
    rw [h4]
    exact ⟨_, rfl⟩

theorem ahead_front {f : TField} (hf : FieldOK f) {h : THistory} (ha : Adm f h) {k i : Nat} (hk : k < nrun f) (hi : i < nrun f) {c p : Bool} (hA : IsAhead f k i c p) : (c = true → inFr f h k i = true) ∧ (inFr f h k i = true → p = true) := by
  have hw := ha.nat.2
  constructor
  · intro hc
    obtain ⟨_, h1⟩ := hA.sure.1 hc
    have h2 := h1 _ hw ha.poss _ (oc_mem ha hk) _ (oc_mem ha hi)
    unfold sureXY at h2
    cases hy : (oc f h i).Out with
    | true =>
      unfold inFr
      rw [Bool.and_eq_true] at h2
      rw [h2.1, hy]; rfl
    | false =>
      rw [hy, Bool.and_eq_true, Bool.false_or] at h2
      exact forced_inFr hf ha hi hk hy h2.2
  · intro hF
    have hne : k ≠ i := by
      rintro rfl
      unfold inFr at hF
      cases hy : (oc f h k).Out with
      | true => rw [hy] at hF; cases hF
      | false =>
        have := inFr_self (f := f) hy
        unfold inFr at this
        rw [this] at hF; cases hF
    refine hA.may.2 ⟨hne, _, hw, ha.poss, _, oc_mem ha hk, _, oc_mem ha hi, ?_⟩
    unfold mayXY
    have h0 := hF
    unfold inFr at h0
    rw [Bool.and_eq_true] at h0
    rw [h0.1, Bool.true_and]
    cases hy : (oc f h i).Out with
    | true => rfl
    | false =>
      have := inFr_can hf ha hi hk hy hF
      rw [this]; rfl

theorem RanksInside_true (y0 : TField) (y1 : List Int) (w0 : wTField y0) (w1 : wL wI y1) : m_stopwatchlaw25_RanksInside y0 y1 = some true := by
  unfold m_stopwatchlaw25_RanksInside
  rw [sane_true, some_bind]
  obtain ⟨b, h1, h2⟩ := few_eq w0
  rw [h1]
  cases b with
  | false => rfl
  | true =>
    have hs := (h2.1 rfl).small
    simp only [some_bind, Bool.not_true, cond_false]
    rw [ref24_Check_eq hs]
    by_cases hf : FieldOK y0
    · rw [chk_pos hf]
      simp only [some_bind, bne_self_eq_false, cond_false]
      obtain ⟨h, g1⟩ := hist_some hs hf w1.1
      obtain ⟨b, g2, g3⟩ := Admissible_eq hs hf h
      rw [g1, some_bind, g2]
      cases b with
      | false => rfl
      | true =>
        have ha := g3.1 rfl
        have hlen : nrun y0 ≤ 1000000 := hs.runners
        simp only [some_bind, Bool.not_true, cond_false]
        rw [fuel_sub]
        refine (chk_loop (N := nrun y0) (r := false) (k := some true) (ok := fun _ => True) (f := fun n i => m_stopwatchlaw25_RanksInside_L1 y0 h m_stopwatchlaw25_RanksInside_J4 n (i : Int)) (fun n i hi => ?_) (fun n => ?_)).trans (chk_pos fun _ _ => trivial)
        · show m_stopwatchlaw25_RanksInside_L1 y0 h m_stopwatchlaw25_RanksInside_J4 (n + 1) (i : Int) = _
          obtain ⟨x, k1, _, _, hx⟩ := Of_ok hs hf hi
          have hk := rank_known hf ha hi hx
          have hL2 : m_stopwatchlaw25_RanksInside_L2 y0 h (i : Int) (m_stopwatchlaw25_RanksInside_J3 (i : Int) (m_stopwatchlaw25_RanksInside_L1 y0 h m_stopwatchlaw25_RanksInside_J4 n)) (nrun y0 + 1) 0 = m_stopwatchlaw25_RanksInside_L1 y0 h m_stopwatchlaw25_RanksInside_J4 n ((i + 1 : Nat) : Int) := by
            refine (chk_loop (N := nrun y0) (r := false) (ok := fun _ => True) (f := fun m k => m_stopwatchlaw25_RanksInside_L2 y0 h (i : Int) (m_stopwatchlaw25_RanksInside_J3 (i : Int) (m_stopwatchlaw25_RanksInside_L1 y0 h m_stopwatchlaw25_RanksInside_J4 n)) m (k : Int)) (fun m k hk => ?_) (fun m => ?_)).trans (chk_pos fun _ _ => trivial)
            · show m_stopwatchlaw25_RanksInside_L2 y0 h (i : Int) _ (m + 1) (k : Int) = _
              obtain ⟨c, p, q1, q2⟩ := Ahead_ok hs hf hk hi
              obtain ⟨q3, q4⟩ := ahead_front hf ha hk hi q2
              rw [m_stopwatchlaw25_RanksInside_L2, dec_lt_nat, decide_eq_true hk, cond_true, q1]
              simp only [some_bind, InFront_eq hs hf ha hk hi, bne_self_eq_false, Bool.false_or]
              rw [w64_succ (by omega), chk_pos trivial]
              cases hc : c with
              | true =>
                have e1 := q3 hc
                have e2 := q4 e1
                rw [e1, e2]; rfl
              | false =>
                cases hF : inFr y0 h k i with
                | true => rw [q4 hF]; rfl
                | false => rfl
            · show m_stopwatchlaw25_RanksInside_L2 y0 h (i : Int) _ (m + 1) ((nrun y0 : Nat) : Int) = _
              rw [m_stopwatchlaw25_RanksInside_L2]
              unfold m_stopwatchlaw25_RanksInside_J3
              rw [w64_succ (by omega)]
              simp
          have hb := hx.bib
          have hi' : i < y0.Runners.length := hi
          rw [List.getElem?_eq_getElem hi', Option.map_some] at hb
          rw [m_stopwatchlaw25_RanksInside_L1, dec_lt_nat, decide_eq_true hi, cond_true, idx_lt hi, some_bind, k1, chk_pos trivial]
          simp only [some_bind, Rank_eq hs hf ha hi, bne_self_eq_false, Bool.false_or]
          have e0 : (x.Bib != (y0.Runners[i]).Bib) = false := by
            have := Option.some.inj hb
            simp [this]
          rw [e0, Bool.false_or, fuel_sub]
          replace hL2 : m_stopwatchlaw25_RanksInside_L2 y0 h (i : Int) (m_stopwatchlaw25_RanksInside_J3 (i : Int) (m_stopwatchlaw25_RanksInside_L1 y0 h m_stopwatchlaw25_RanksInside_J4 n)) (y0.Runners.length + 1) 0 = _ := hL2
          rw [hL2]
          have hkind := hx.kind
          generalize rank y0 h i = n0 at hk
          clear k1 hx hb e0 hL2
          obtain ⟨p1, p2, p3, p4, p5⟩ := x
          dsimp only at hk hkind ⊢
          rcases hk with ⟨e1, e2⟩ | ⟨e1, e2, e3, e4⟩
          · subst e1
            subst e2
            have : p2 ≠ 1 := by
              rw [hkind]; split
              · decide
              · simp
            have e5 : (p2 == 1) = false := by simpa using this
            simp [e5]
          · have f1 : ((n0 : Int) == 0) = false := by simp; omega
            have f2 : decide ((n0 : Int) > 0) = true := by simp; omega
            have f3 : (p2 == 3) = false := by
              have : p2 ≠ 3 := by
                rw [hkind, if_neg (by omega)]; split <;> decide
              simpa using this
            have f4 : decide ((n0 : Int) < p3) = false := by simp; omega
            have f5 : decide ((n0 : Int) > p4) = false := by simp; omega
            have f6 : p2 = 1 → ((n0 : Int) != p3) = false := by
              intro h7
              have : p3 = p4 := by
                rw [hkind, if_neg (by omega)] at h7
                split at h7
                · rename_i hc; exact hc.1
                · cases h7
              simp; omega
            rw [f1, f2, f3, f4, f5]
            by_cases h7 : p2 = 1
            · rw [f6 h7]; simp [h7]
            · have e5 : (p2 == 1) = false := by simpa using h7
              rw [e5]; rfl
        · show m_stopwatchlaw25_RanksInside_L1 y0 h m_stopwatchlaw25_RanksInside_J4 (n + 1) ((nrun y0 : Nat) : Int) = _
          rw [m_stopwatchlaw25_RanksInside_L1]; simp [m_stopwatchlaw25_RanksInside_J4]
    · rw [chk_neg hf]; rfl

end Go.Stop
