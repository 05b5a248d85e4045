/- Plain laws: loops of models, as statements over numbers. No condition. -/
import Derived.Test.YthandbiapckgkaaV
namespace Go.Stop
open Go Go.Abs

theorem w64_of {n : Int} (h1 : -9223372036854775808 ≤ n) (h2 : n ≤ 9223372036854775807) : w64 n = n := by
  unfold w64; simp only [IntKind.wrap, IntKind.bits, IntKind.signed]; simp; omega
theorem w64_nat {n : Nat} (h : n ≤ 9223372036854775807) : w64 (n : Int) = n := w64_of (by omega) (by omega)
theorem w64_succ {i : Nat} (h : i < 9223372036854775807) : w64 ((i : Int) + 1) = ((i + 1 : Nat) : Int) := by
  rw [w64_of (by omega) (by omega)]; rfl
theorem idx_nat {α : Type} (l : List α) (i : Nat) : idx l (i : Int) = l[i]? := by
  unfold idx; simp
theorem idx_lt {α : Type} {l : List α} {i : Nat} (h : i < l.length) : idx l (i : Int) = some l[i] := by
  rw [idx_nat]; simp [h]
theorem idx_int {α : Type} {l : List α} {i : Int} (h : 0 ≤ i) (h' : i < l.length) : ∃ x, idx l i = some x ∧ x ∈ l := by
  have : i.toNat < l.length := by omega
  refine ⟨l[i.toNat], ?_, List.getElem_mem _⟩
  unfold idx; simp [h, this]
theorem some_bind {α β : Type} (a : α) (f : α → Option β) : (some a).bind f = f a := rfl

theorem dec_lt_nat (i n : Nat) : decide ((i : Int) < (n : Int)) = decide (i < n) := by simp
theorem dec_le_nat (i n : Nat) : decide ((i : Int) ≤ (n : Int)) = decide (i < n + 1) := by
  by_cases h : i < n + 1
  · simp [h]; omega
  · simp [h]; omega

section
open Classical

/-- A test: k if p, else r. -/
noncomputable def chk {β : Type} (p : Prop) (r : β) (k : Option β) : Option β := if p then k else some r
theorem chk_and {β : Type} (p q : Prop) (r : β) (k : Option β) : chk p r (chk q r k) = chk (p ∧ q) r k := by
  unfold chk; by_cases hp : p <;> by_cases hq : q <;> simp [hp, hq]
theorem chk_congr {β : Type} {p q : Prop} {r : β} {k k' : Option β} (h : p ↔ q) (hk : p → k = k') : chk p r k = chk q r k' := by
  unfold chk
  by_cases hp : p
  · rw [if_pos hp, if_pos (h.1 hp), hk hp]
  · rw [if_neg hp, if_neg (fun hq => hp (h.2 hq))]
/-- A loop that leaves with r at the first number that is not right. -/
theorem chk_loop {β : Type} {N : Nat} {f : Nat → Nat → Option β} {r : β} {ok : Nat → Prop} {k : Option β} (hs : ∀ n i, i < N → f (n + 1) i = chk (ok i) r (f n (i + 1))) (he : ∀ n, f (n + 1) N = k) :
    f (N + 1) 0 = chk (∀ i, i < N → ok i) r k := by
  unfold chk at hs ⊢
  have key : ∀ c i n, i + c = N → c ≤ n → f (n + 1) i = if (∀ j, i ≤ j → j < N → ok j) then k else some r := by
    intro c
    induction c with
    | zero =>
      intro i n h _
      have : i = N := by omega
      subst this
      rw [he, if_pos (fun j h1 h2 => absurd h2 (by omega))]
    | succ c ih =>
      intro i n h hn
      rw [hs n i (by omega)]
      obtain ⟨n, rfl⟩ : ∃ n', n = n' + 1 := ⟨n - 1, by omega⟩
      by_cases h1 : ok i
      · rw [if_pos h1, ih (i + 1) n (by omega) (by omega)]
        by_cases h2 : ∀ j, i + 1 ≤ j → j < N → ok j
        · rw [if_pos h2, if_pos]
          intro j hj hjN
          by_cases e : j = i
          · exact e ▸ h1
          · exact h2 j (by omega) hjN
        · rw [if_neg h2, if_neg]
          intro h3
          exact h2 fun j hj hjN => h3 j (by omega) hjN
      · rw [if_neg h1, if_neg]
        intro h3
        exact h1 (h3 i (by omega) (by omega))
  rw [key N 0 N (by omega) (by omega)]
  simp

/-- .. where the right numbers so far may be leant on. -/
theorem chk_loop' {β : Type} {N : Nat} {f : Nat → Nat → Option β} {r : β} {ok : Nat → Prop} {k : Option β} (hs : ∀ n i, i < N → (∀ j, j < i → ok j) → f (n + 1) i = chk (ok i) r (f n (i + 1))) (he : ∀ n, (∀ j, j < N → ok j) → f (n + 1) N = k) :
    f (N + 1) 0 = chk (∀ i, i < N → ok i) r k := by
  have key : ∀ c i n, i + c = N → c ≤ n → (∀ j, j < i → ok j) → f (n + 1) i = chk (∀ j, j < N → ok j) r k := by
    intro c
    induction c with
    | zero =>
      intro i n h _ hp
      have : i = N := by omega
      subst this
      rw [he n hp]; unfold chk; rw [if_pos hp]
    | succ c ih =>
      intro i n h hn hp
      rw [hs n i (by omega) hp]
      obtain ⟨n, rfl⟩ : ∃ n', n = n' + 1 := ⟨n - 1, by omega⟩
      by_cases h1 : ok i
      · rw [ih (i + 1) n (by omega) (by omega) (fun j hj => by
          by_cases e : j = i
          · exact e ▸ h1
          · exact hp j (by omega))]
        unfold chk; rw [if_pos h1]
      · unfold chk; rw [if_neg h1, if_neg (fun h3 => h1 (h3 i (by omega)))]
  exact key N 0 N (by omega) (by omega) (fun j hj => absurd hj (by omega))

/-- A loop that keeps what is known of its state. -/
theorem run_inv {σ : Type} {N : Nat} {f : Nat → Nat → σ → Option σ} {I : Nat → σ → Prop} (hs : ∀ n i s, i < N → I i s → ∃ s', I (i + 1) s' ∧ f (n + 1) i s = f n (i + 1) s') (he : ∀ n s, f (n + 1) N s = some s) {s0 : σ} (h0 : I 0 s0) :
    ∃ s, f (N + 1) 0 s0 = some s ∧ I N s := by
  have key : ∀ c i n s, i + c = N → c ≤ n → I i s → ∃ s', f (n + 1) i s = some s' ∧ I N s' := by
    intro c
    induction c with
    | zero =>
      intro i n s h _ hi
      have : i = N := by omega
      subst this
      exact ⟨s, he n s, hi⟩
    | succ c ih =>
      intro i n s h hn hi
      obtain ⟨s', h1, h2⟩ := hs n i s (by omega) hi
      obtain ⟨n, rfl⟩ : ∃ n', n = n' + 1 := ⟨n - 1, by omega⟩
      rw [h2]
      exact ih (i + 1) n s' (by omega) (by omega) h1
  exact key N 0 N s0 (by omega) (by omega) h0

/-- Two loops side by side, each round handing on the same state. -/
theorem run2 {σ : Type} {N : Nat} {f g : Nat → Nat → σ → Option σ} {I : Nat → σ → Prop} (hs : ∀ i s, i < N → I i s → ∃ s', I (i + 1) s' ∧ ∀ n, f (n + 1) i s = f n (i + 1) s' ∧ g (n + 1) i s = g n (i + 1) s') (hf : ∀ n s, f (n + 1) N s = some s) (hg : ∀ n s, g (n + 1) N s = some s) {s0 : σ} (h0 : I 0 s0) :
    ∃ s, f (N + 1) 0 s0 = some s ∧ g (N + 1) 0 s0 = some s ∧ I N s := by
  have key : ∀ c i n s, i + c = N → c ≤ n → I i s → ∃ s', f (n + 1) i s = some s' ∧ g (n + 1) i s = some s' ∧ I N s' := by
    intro c
    induction c with
    | zero =>
      intro i n s h _ hi
      have : i = N := by omega
      subst this
      exact ⟨s, hf n s, hg n s, hi⟩
    | succ c ih =>
      intro i n s h hn hi
      obtain ⟨s', h1, h2⟩ := hs i s (by omega) hi
      obtain ⟨n, rfl⟩ : ∃ n', n = n' + 1 := ⟨n - 1, by omega⟩
      rw [(h2 _).1, (h2 _).2]
      exact ih (i + 1) n s' (by omega) (by omega) h1
  exact key N 0 N s0 (by omega) (by omega) h0

/-- The numbers from i on that are taken. -/
noncomputable def listP (p : Nat → Prop) : Nat → Nat → List Int
  | _, 0 => []
  | i, c + 1 => if p i then (i : Int) :: listP p (i + 1) c else listP p (i + 1) c

/-- An iterator over numbers. -/
theorem it_loop {N : Nat} {f : Nat → Nat → Option (List Int)} {p : Nat → Prop} (hs : ∀ n i, i < N → f (n + 1) i = if p i then (f n (i + 1)).bind fun l => some ((i : Int) :: l) else f n (i + 1)) (he : ∀ n, f (n + 1) N = some []) : f (N + 1) 0 = some (listP p 0 N) := by
  have key : ∀ c i n, i + c = N → c ≤ n → f (n + 1) i = some (listP p i c) := by
    intro c
    induction c with
    | zero =>
      intro i n h _
      have : i = N := by omega
      subst this
      rw [he]; rfl
    | succ c ih =>
      intro i n h hn
      obtain ⟨n, rfl⟩ : ∃ n', n = n' + 1 := ⟨n - 1, by omega⟩
      rw [hs _ i (by omega), ih (i + 1) n (by omega) (by omega), listP]
      by_cases hp : p i
      · rw [if_pos hp, if_pos hp]; rfl
      · rw [if_neg hp, if_neg hp]
  exact key N 0 N (by omega) (by omega)

/-- A range over an iterator, and a loop that passes over what it does not take. -/
theorem worlds_run {σ : Type} {N : Nat} {p : Nat → Prop} {G : Int → σ → Option σ} {g : Nat → Nat → σ → Option σ} {I : Nat → σ → Prop} (hs : ∀ i s, i < N → p i → I i s → ∃ s', I (i + 1) s' ∧ G (i : Int) s = some s' ∧ ∀ n, g (n + 1) i s = g n (i + 1) s') (hn : ∀ i s, i < N → ¬p i → I i s → I (i + 1) s ∧ ∀ n, g (n + 1) i s = g n (i + 1) s) (he : ∀ n s, g (n + 1) N s = some s) {s0 : σ} (h0 : I 0 s0) :
    ∃ s, foldO G (listP p 0 N) s0 = some s ∧ g (N + 1) 0 s0 = some s ∧ I N s := by
  have key : ∀ c i n s, i + c = N → c ≤ n → I i s → ∃ s', foldO G (listP p i c) s = some s' ∧ g (n + 1) i s = some s' ∧ I N s' := by
    intro c
    induction c with
    | zero =>
      intro i n s h _ hi
      have : i = N := by omega
      subst this
      exact ⟨s, rfl, he n s, hi⟩
    | succ c ih =>
      intro i n s h hn' hi
      obtain ⟨n, rfl⟩ : ∃ n', n = n' + 1 := ⟨n - 1, by omega⟩
      rw [listP]
      by_cases hp : p i
      · obtain ⟨s', h1, h2, h3⟩ := hs i s (by omega) hp hi
        rw [if_pos hp, foldO, h2, h3]
        exact ih (i + 1) n s' (by omega) (by omega) h1
      · obtain ⟨h1, h2⟩ := hn i s (by omega) hp hi
        rw [if_neg hp, h2]
        exact ih (i + 1) n s (by omega) (by omega) h1
  exact key N 0 N s0 (by omega) (by omega) h0

/-- A loop that hands on a state and never leaves. -/
theorem run_loop {σ : Type} {N : Nat} {f : Nat → Nat → σ → Option σ} {g : Nat → σ → Option σ} (hs : ∀ n i s, i < N → f (n + 1) i s = (g i s).bind (f n (i + 1))) (he : ∀ n s, f (n + 1) N s = some s) (s : σ) :
    f (N + 1) 0 s = foldO g (List.range N) s := by
  have key : ∀ c i n s, i + c = N → c ≤ n → f (n + 1) i s = foldO g (List.range' i c) s := by
    intro c
    induction c with
    | zero =>
      intro i n s h _
      have : i = N := by omega
      subst this
      rw [he]; rfl
    | succ c ih =>
      intro i n s h hn
      rw [hs n i s (by omega)]
      obtain ⟨n, rfl⟩ : ∃ n', n = n' + 1 := ⟨n - 1, by omega⟩
      rw [List.range'_succ]
      show _ = (g i s).bind (foldO g (List.range' (i + 1) c))
      congr 1
      funext s'
      exact ih (i + 1) n s' (by omega) (by omega)
  rw [key N 0 N s (by omega) (by omega), List.range_eq_range']

/-- A loop that leaves with its number at the first that is sought. -/
theorem find_loop {N : Nat} {f : Nat → Nat → Option Int} {p : Nat → Prop} (hs : ∀ n i, i < N → f (n + 1) i = if p i then some (i : Int) else f n (i + 1)) (he : ∀ n, f (n + 1) N = some (-1)) :
    ∃ r, f (N + 1) 0 = some r ∧ (r ≥ 0 ↔ ∃ i, i < N ∧ p i) := by
  have key : ∀ c i n, i + c = N → c ≤ n → ∃ r, f (n + 1) i = some r ∧ (r ≥ 0 ↔ ∃ j, i ≤ j ∧ j < N ∧ p j) := by
    intro c
    induction c with
    | zero =>
      intro i n h _
      have : i = N := by omega
      subst this
      refine ⟨-1, he n, by simp; omega⟩
    | succ c ih =>
      intro i n h hn
      rw [hs n i (by omega)]
      obtain ⟨n, rfl⟩ : ∃ n', n = n' + 1 := ⟨n - 1, by omega⟩
      by_cases h1 : p i
      · rw [if_pos h1]
        exact ⟨_, rfl, fun _ => ⟨i, Nat.le_refl _, by omega, h1⟩, fun _ => by omega⟩
      · rw [if_neg h1]
        obtain ⟨r, h2, h3⟩ := ih (i + 1) n (by omega) (by omega)
        refine ⟨r, h2, h3.trans ⟨fun ⟨j, a, b, c⟩ => ⟨j, by omega, b, c⟩, fun ⟨j, a, b, c⟩ => ⟨j, ?_, b, c⟩⟩⟩
        by_cases e : j = i
        · exact absurd (e ▸ c) h1
        · omega
  obtain ⟨r, h1, h2⟩ := key N 0 N (by omega) (by omega)
  exact ⟨r, h1, h2.trans ⟨fun ⟨j, _, b, c⟩ => ⟨j, b, c⟩, fun ⟨j, b, c⟩ => ⟨j, by omega, b, c⟩⟩⟩

end

theorem bif_dec {β : Type} (p : Prop) [Decidable p] (a b : β) : (bif decide p then a else b) = if p then a else b := by
  by_cases h : p <;> simp [h]

theorem bif_eq {β : Type} (x y : Int) (a b : β) : (bif x == y then a else b) = if x = y then a else b := by
  rw [Bool.cond_eq_ite]; simp only [beq_iff_eq]
theorem bif_ne {β : Type} (x y : Int) (a b : β) : (bif x != y then a else b) = if x = y then b else a := by
  rw [Bool.cond_eq_ite]; simp only [bne_iff_ne, ne_eq, ite_not]
theorem chk_pos {β : Type} {p : Prop} {r : β} {k : Option β} (h : p) : chk p r k = k := by unfold chk; rw [if_pos h]
theorem chk_neg {β : Type} {p : Prop} {r : β} {k : Option β} (h : ¬p) : chk p r k = some r := by unfold chk; rw [if_neg h]
/-- A test reckoned as a bool: it says whether something is wrong. -/
theorem bind_chk {β : Type} {p : Prop} {t : Option Bool} {r : β} {k : Option β} (h : ∃ b, t = some b ∧ (b = true ↔ ¬p)) : (t.bind fun v => bif v then some r else k) = chk p r k := by
  obtain ⟨b, rfl, hb⟩ := h
  cases b with
  | true => rw [chk_neg (hb.1 rfl)]; rfl
  | false => rw [chk_pos (Classical.byContradiction fun h => by simpa using hb.2 h)]; rfl

theorem fuel_sub (n : Nat) : ((n : Int) - 0).toNat + 1 = n + 1 := by omega
theorem fuel_add (n : Nat) : ((n : Int) + 1 - 0).toNat + 1 = (n + 1) + 1 := by omega

end Go.Stop
