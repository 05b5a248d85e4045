/- Plain laws: loops over lists. No condition. -/
import Derived.Test.YthandbiapckgkaaP9
import Derived.Test.YthandbiapckgkaaPR
namespace Go.Stop
open Go Go.Abs

theorem w64_id {n : Int} (h : -9223372036854775808 ≤ n ∧ n ≤ 9223372036854775807) : w64 n = n := w64_of h.1 h.2

/-- A loop that leaves at the first element that is sought. -/
theorem find_at {α β : Type} {l : List α} {f : Nat → Nat → Option β} {p : α → Bool} {A : Nat → α → β} {k : Option β}
    (hs : ∀ n i (h : i < l.length), f (n + 1) i = if p l[i] = true then some (A i l[i]) else f n (i + 1)) (he : ∀ n, f (n + 1) l.length = k) :
    (∃ i, ∃ h : i < l.length, p l[i] = true ∧ f (l.length + 1) 0 = some (A i l[i]) ∧ ∀ j (hj : j < l.length), j < i → p l[j] = false) ∨ ((∀ x, x ∈ l → p x = false) ∧ f (l.length + 1) 0 = k) := by
  have key : ∀ c i n, i + c = l.length → c ≤ n → (∀ j (hj : j < l.length), j < i → p l[j] = false) → (∃ i', ∃ h : i' < l.length, p l[i'] = true ∧ f (n + 1) i = some (A i' l[i']) ∧ ∀ j (hj : j < l.length), j < i' → p l[j] = false) ∨ ((∀ x, x ∈ l → p x = false) ∧ f (n + 1) i = k) := by
    intro c
    induction c with
    | zero =>
      intro i n h _ hp
      have : i = l.length := by omega
      subst this
      refine .inr ⟨fun x hx => ?_, he n⟩
      obtain ⟨j, hj, rfl⟩ := List.mem_iff_getElem.1 hx
      exact hp j hj hj
    | succ c ih =>
      intro i n h hn hp
      have hi : i < l.length := by omega
      rw [hs n i hi]
      obtain ⟨n, rfl⟩ : ∃ n', n = n' + 1 := ⟨n - 1, by omega⟩
      by_cases h1 : p l[i] = true
      · rw [if_pos h1]
        exact .inl ⟨i, hi, h1, rfl, hp⟩
      · rw [if_neg h1]
        refine ih (i + 1) n (by omega) (by omega) fun j hj hlt => ?_
        by_cases e : j = i
        · subst e; simpa using h1
        · exact hp j hj (by omega)
  exact key l.length 0 l.length (by omega) (by omega) (fun j _ h => absurd h (by omega))

theorem any_loop {α β : Type} {l : List α} {f : Nat → Nat → Option β} {p : α → Bool} {r : β} {k : Option β}
    (hs : ∀ n i (h : i < l.length), f (n + 1) i = if p l[i] = true then some r else f n (i + 1)) (he : ∀ n, f (n + 1) l.length = k) :
    f (l.length + 1) 0 = if l.any p = true then some r else k := by
  rcases find_at (A := fun _ _ => r) hs he with ⟨i, h, h1, h2, _⟩ | ⟨h1, h2⟩
  · rw [h2, if_pos]
    rw [List.any_eq_true]
    exact ⟨_, List.getElem_mem h, h1⟩
  · rw [h2, if_neg]
    intro h
    obtain ⟨x, hx, hp⟩ := List.any_eq_true.1 h
    rw [h1 x hx] at hp
    cases hp

/-- A loop over numbers that leaves at the first that is sought. -/
theorem anyN_loop {β : Type} {N : Nat} {f : Nat → Nat → Option β} {p : Nat → Bool} {r : β} {k : Option β}
    (hs : ∀ n i, i < N → f (n + 1) i = if p i = true then some r else f n (i + 1)) (he : ∀ n, f (n + 1) N = k) :
    f (N + 1) 0 = if (List.range N).any p = true then some r else k := by
  have := any_loop (l := List.range N) (f := f) (p := p) (r := r) (k := k) (fun n i h => by
    have hi : i < N := by simpa using h
    rw [hs n i hi]; simp) (fun n => by simpa using he n)
  simpa using this

/-- A loop that counts. -/
theorem count_loop {β : Type} {N : Nat} {f : Nat → Nat → Int → Option β} {p : Nat → Bool} {k : Int → Option β} {c0 : Int}
    (hs : ∀ n i c, i < N → c0 ≤ c → c ≤ c0 + (i : Int) → f (n + 1) i c = f n (i + 1) (if p i = true then c + 1 else c)) (he : ∀ n c, f (n + 1) N c = k c) :
    f (N + 1) 0 c0 = k (c0 + ((List.range N).countP p : Nat)) := by
  have key : ∀ c i n, i + c = N → c ≤ n → f (n + 1) i (c0 + ((List.range i).countP p : Nat)) = k (c0 + ((List.range N).countP p : Nat)) := by
    intro c
    induction c with
    | zero =>
      intro i n h _
      have : i = N := by omega
      subst this
      exact he n _
    | succ c ih =>
      intro i n h hn
      have hle : (List.range i).countP p ≤ i := by have := List.countP_le_length (p := p) (l := List.range i); simpa using this
      obtain ⟨n, rfl⟩ : ∃ n', n = n' + 1 := ⟨n - 1, by omega⟩
      rw [hs _ i _ (by omega) (by omega) (by omega), ← ih (i + 1) n (by omega) (by omega), List.range_succ, List.countP_append]
      congr 1
      by_cases hp : p i = true
      · simp [hp]; omega
      · simp [hp]
  have := key N 0 N (by omega) (by omega)
  simpa using this

theorem count_le {N : Nat} {p : Nat → Bool} : (List.range N).countP p ≤ N := by
  have := List.countP_le_length (p := p) (l := List.range N); simpa using this

/-- A loop that keeps what is known of its state, and goes on. -/
theorem inv_loop {σ β : Type} {N : Nat} {f : Nat → Nat → σ → Option β} {k : σ → Option β} {I : Nat → σ → Prop} (hs : ∀ i s, i < N → I i s → ∃ s', I (i + 1) s' ∧ ∀ n, f (n + 1) i s = f n (i + 1) s') (he : ∀ n s, f (n + 1) N s = k s) {s0 : σ} (h0 : I 0 s0) :
    ∃ s, f (N + 1) 0 s0 = k s ∧ I N s := by
  have key : ∀ c i n s, i + c = N → c ≤ n → I i s → ∃ s', f (n + 1) i s = k s' ∧ I N s' := by
    intro c
    induction c with
    | zero =>
      intro i n s h _ hi
      have : i = N := by omega
      subst this
      exact ⟨s, he n s, hi⟩
    | succ c ih =>
      intro i n s h hn hi
      obtain ⟨s', h1, h2⟩ := hs i s (by omega) hi
      obtain ⟨n, rfl⟩ : ∃ n', n = n' + 1 := ⟨n - 1, by omega⟩
      rw [h2]
      exact ih (i + 1) n s' (by omega) (by omega) h1
  exact key N 0 N s0 (by omega) (by omega) h0

/-- A range over an iterator that keeps what is known. -/
theorem worlds_inv {σ : Type} {N : Nat} {p : Nat → Prop} {G : Int → σ → Option σ} {I : Nat → σ → Prop} (hs : ∀ i s, i < N → p i → I i s → ∃ s', G (i : Int) s = some s' ∧ I (i + 1) s') (hn : ∀ i s, i < N → ¬p i → I i s → I (i + 1) s) {s0 : σ} (h0 : I 0 s0) :
    ∃ s, foldO G (listP p 0 N) s0 = some s ∧ I N s := by
  have key : ∀ c i s, i + c = N → I i s → ∃ s', foldO G (listP p i c) s = some s' ∧ I N s' := by
    intro c
    induction c with
    | zero =>
      intro i s h hi
      have : i = N := by omega
      subst this
      exact ⟨s, rfl, hi⟩
    | succ c ih =>
      intro i s h hi
      rw [listP]
      by_cases hp : p i
      · obtain ⟨s', h1, h2⟩ := hs i s (by omega) hp hi
        rw [if_pos hp, foldO, h1]
        exact ih (i + 1) s' (by omega) h2
      · rw [if_neg hp]
        exact ih (i + 1) s (by omega) (hn i s (by omega) hp hi)
  exact key N 0 s0 (by omega) h0

/-- A loop that appends what it makes of each element. -/
theorem map_loop {α γ β : Type} {b : Nat} {l : List α} {f : Nat → Nat → List γ → Option β} {g : α → γ} {k : List γ → Option β} (hb : l.length * b ≤ 140737488355328) (hl : l.length < 9223372036854775808)
    (hs : ∀ n i (h : i < l.length) s, f (n + 1) i s = (app b s [g l[i]]).bind (f n (i + 1))) (he : ∀ n s, f (n + 1) l.length s = k s) :
    f (l.length + 1) 0 [] = k (l.map g) := by
  obtain ⟨s, h1, h2⟩ := inv_loop (N := l.length) (f := f) (k := k) (I := fun i s => s = (l.take i).map g) (s0 := []) (fun i s hi hI => by
    have hlen : s.length = i := by rw [hI]; simp; omega
    refine ⟨s ++ [g l[i]], ?_, fun n => ?_⟩
    · rw [hI, List.take_succ_eq_append_getElem hi, List.map_append]; rfl
    · have hm : (i + 1) * b ≤ l.length * b := Nat.mul_le_mul_right b (by omega)
      have e : s.length + [g l[i]].length = i + 1 := by rw [hlen]; rfl
      rw [hs n i hi s, app_ok (by rw [e]; omega) (by rw [e]; omega)]; rfl) he rfl
  rw [h1, h2, List.take_length]

end Go.Stop
