/- Plain laws: two loops side by side with states of their own. No condition. -/
import Derived.Test.YthandbiapckgkaaP0
namespace Go.Stop
open Go Go.Abs

theorem run2r {σ τ : Type} {N : Nat} {f : Nat → Nat → σ → Option σ} {g : Nat → Nat → τ → Option τ} {I : Nat → σ → τ → Prop} (hs : ∀ i s t, i < N → I i s t → ∃ s' t', I (i + 1) s' t' ∧ (∀ n, f (n + 1) i s = f n (i + 1) s') ∧ ∀ n, g (n + 1) i t = g n (i + 1) t') (hf : ∀ n s, f (n + 1) N s = some s) (hg : ∀ n t, g (n + 1) N t = some t) {s0 : σ} {t0 : τ} (h0 : I 0 s0 t0) :
    ∃ s t, f (N + 1) 0 s0 = some s ∧ g (N + 1) 0 t0 = some t ∧ I N s t := by
  have key : ∀ c i n s t, i + c = N → c ≤ n → I i s t → ∃ s' t', f (n + 1) i s = some s' ∧ g (n + 1) i t = some t' ∧ I N s' t' := by
    intro c
    induction c with
    | zero =>
      intro i n s t h _ hi
      have : i = N := by omega
      subst this
      exact ⟨s, t, hf n s, hg n t, hi⟩
    | succ c ih =>
      intro i n s t h hn hi
      obtain ⟨s', t', h1, h2, h3⟩ := hs i s t (by omega) hi
      obtain ⟨n, rfl⟩ : ∃ n', n = n' + 1 := ⟨n - 1, by omega⟩
      rw [h2, h3]
      exact ih (i + 1) n s' t' (by omega) (by omega) h1
  exact key N 0 N s0 t0 (by omega) (by omega) h0

theorem worlds_run2r {σ τ : Type} {N : Nat} {p : Nat → Prop} {G : Int → σ → Option σ} {g : Nat → Nat → τ → Option τ} {I : Nat → σ → τ → Prop} (hs : ∀ i s t, i < N → p i → I i s t → ∃ s' t', I (i + 1) s' t' ∧ G (i : Int) s = some s' ∧ ∀ n, g (n + 1) i t = g n (i + 1) t') (hn : ∀ i s t, i < N → ¬p i → I i s t → I (i + 1) s t ∧ ∀ n, g (n + 1) i t = g n (i + 1) t) (he : ∀ n t, g (n + 1) N t = some t) {s0 : σ} {t0 : τ} (h0 : I 0 s0 t0) :
    ∃ s t, foldO G (listP p 0 N) s0 = some s ∧ g (N + 1) 0 t0 = some t ∧ I N s t := by
  have key : ∀ c i n s t, i + c = N → c ≤ n → I i s t → ∃ s' t', foldO G (listP p i c) s = some s' ∧ g (n + 1) i t = some t' ∧ I N s' t' := by
    intro c
    induction c with
    | zero =>
      intro i n s t h _ hi
      have : i = N := by omega
      subst this
      exact ⟨s, t, rfl, he n t, hi⟩
    | succ c ih =>
      intro i n s t h hn' hi
      obtain ⟨n, rfl⟩ : ∃ n', n = n' + 1 := ⟨n - 1, by omega⟩
      rw [listP]
      by_cases hp : p i
      · obtain ⟨s', t', h1, h2, h3⟩ := hs i s t (by omega) hp hi
        rw [if_pos hp, foldO, h2, h3]
        exact ih (i + 1) n s' t' (by omega) (by omega) h1
      · obtain ⟨h1, h2⟩ := hn i s t (by omega) hp hi
        rw [if_neg hp, h2]
        exact ih (i + 1) n s t (by omega) (by omega) h1
  exact key N 0 N s0 t0 (by omega) (by omega) h0

/-- Two loops that leave at the same number. -/
theorem any2 {α : Type} {N : Nat} {f : Nat → Nat → Option α} {g : Nat → Nat → Option Bool} {A : Nat → α} {B : α} (hs : ∀ i, i < N → ∃ b : Bool, (∀ n, f (n + 1) i = if b = true then some (A i) else f n (i + 1)) ∧ ∀ n, g (n + 1) i = if b = true then some true else g n (i + 1)) (hf : ∀ n, f (n + 1) N = some B) (hg : ∀ n, g (n + 1) N = some false) :
    ∃ b : Bool, g (N + 1) 0 = some b ∧ (b = true → ∃ i, i < N ∧ f (N + 1) 0 = some (A i)) ∧ (b = false → f (N + 1) 0 = some B) := by
  have key : ∀ c i n, i + c = N → c ≤ n → ∃ b : Bool, g (n + 1) i = some b ∧ (b = true → ∃ j, j < N ∧ f (n + 1) i = some (A j)) ∧ (b = false → f (n + 1) i = some B) := by
    intro c
    induction c with
    | zero =>
      intro i n h _
      have : i = N := by omega
      subst this
      exact ⟨false, hg n, fun h => (by cases h), fun _ => hf n⟩
    | succ c ih =>
      intro i n h hn
      obtain ⟨b, h1, h2⟩ := hs i (by omega)
      obtain ⟨n, rfl⟩ : ∃ n', n = n' + 1 := ⟨n - 1, by omega⟩
      rw [h1, h2]
      cases b with
      | true => exact ⟨true, rfl, fun _ => ⟨i, by omega, rfl⟩, fun h => (by cases h)⟩
      | false => exact ih (i + 1) n (by omega) (by omega)
  exact key N 0 N (by omega) (by omega)

end Go.Stop
