/- Plain laws about the models. No condition. -/
import Derived.Test.YtbcanffnlgibhaaDoorZV
import Derived.KernelRfl
import Derived.Sort.AssemblyPlain
import Derived.Lib.BitFns
namespace Go.Stop
open Go Go.Abs
set_option linter.unusedVariables false
set_option linter.unusedSimpArgs false
theorem w64_of {n : Int} (h1 : -9223372036854775808 ≤ n) (h2 : n ≤ 9223372036854775807) : w64 n = n := by
  unfold w64; simp only [IntKind.wrap, IntKind.bits, IntKind.signed]; simp; omega
theorem w64_nat {n : Nat} (h : n ≤ 9223372036854775807) : w64 (n : Int) = n := w64_of (by omega) (by omega)
theorem idx_nat {α : Type} (l : List α) (i : Nat) : idx l (i : Int) = l[i]? := by
  unfold idx; simp
theorem some_bind {α β : Type} (a : α) (f : α → Option β) : (some a).bind f = f a := rfl
theorem bif_dec {β : Type} (p : Prop) [Decidable p] (a b : β) : (bif decide p then a else b) = if p then a else b := by
  by_cases h : p <;> simp [h]
theorem fuel_sub (n : Nat) : ((n : Int) - 0).toNat + 1 = n + 1 := by omega
theorem app_ok {α : Type} {b : Nat} {l r : List α} (h : (l.length + r.length) * b ≤ 140737488355328) (h' : l.length + r.length < 9223372036854775808) : app b l r = some (l ++ r) := by
  unfold app; rw [if_pos ⟨h, h'⟩]
theorem w64c {i : Int} {n : Nat} (h : i = n) (hn : n < 9223372036854775807) : w64 i = (n : Int) := by
  subst h; exact w64_nat (by omega)
theorem idx_at {α : Type} {l : List α} {i : Nat} {a : α} (h : l[i]? = some a) : idx l (i : Int) = some a := by rw [idx_nat]; exact h
theorem drop_cons {α : Type} {l r : List α} {i : Nat} {a : α} (h : l.drop i = a :: r) : l[i]? = some a ∧ l.drop (i + 1) = r ∧ i < l.length := by
  have h1 : l[i]? = some a := by have := congrArg (·[0]?) h; simpa using this
  refine ⟨h1, ?_, (List.getElem?_eq_some_iff.1 h1).1⟩
  have := congrArg List.tail h
  simpa using this
theorem rangeL {α σ β : Type} {l : List α} {f : Nat → Nat → σ → Option β} {g : List α → σ → Option β} (I : Nat → σ → Prop)
    (h0 : ∀ n s, I l.length s → f (n + 1) l.length s = g [] s)
    (h1 : ∀ n i s a r, l.drop i = a :: r → l[i]? = some a → i < l.length → a ∈ l → I i s → (∀ s', I (i + 1) s' → f n (i + 1) s' = g r s') → f (n + 1) i s = g (a :: r) s) :
    ∀ s, I 0 s → f (l.length + 1) 0 s = g l s := by
  have key : ∀ r i n s, l.drop i = r → r.length ≤ n → I i s → i ≤ l.length → f (n + 1) i s = g r s := by
    intro r
    induction r with
    | nil =>
      intro i n s h _ hi hl
      have : i = l.length := by have := congrArg List.length h; simp at this; omega
      subst this
      exact h0 n s hi
    | cons a r ih =>
      intro i n s h hn hi hl
      obtain ⟨e1, e2, e3⟩ := drop_cons h
      obtain ⟨n, rfl⟩ : ∃ n', n = n' + 1 := ⟨n - 1, by simp at hn; omega⟩
      refine h1 (n + 1) i s a r h e1 e3 (List.mem_of_getElem? e1) hi fun s' hs' => ?_
      exact ih (i + 1) n s' e2 (by simpa using hn) hs' e3
  intro s hs
  exact key l 0 l.length s rfl (Nat.le_refl _) hs (Nat.zero_le _)
theorem sane30_true : M68 = some true := by decide +kernel
def mny (n : Int) : Prop := -1125899906842624 ≤ n ∧ n ≤ 1125899906842624
theorem moneyCheck_eq (n : Int) : M0 n = some (if n > 1125899906842624 then 300 else if n < -1125899906842624 then 300 else 0) := by
  unfold M0
  rw [bif_dec, bif_dec]
  split
  · rfl
  · split <;> rfl
theorem moneyCheck_ok {n : Int} (h : mny n) : M0 n = some 0 := by
  obtain ⟨h1, h2⟩ := h
  rw [moneyCheck_eq, if_neg (by omega), if_neg (by omega)]
theorem moneyCheck_bad {n : Int} (h : ¬mny n) : M0 n = some 300 := by
  unfold mny at h
  rw [moneyCheck_eq]
  by_cases h1 : n > 1125899906842624
  · rw [if_pos h1]
  · rw [if_neg h1, if_pos (by omega)]
@[reducible, instance] def mnyDec (n : Int) : Decidable (mny n) := by unfold mny; infer_instance
def sumA : List Int → Int → Int × Int
  | [], n => (n, 0)
  | x :: r, n => if mny x then if mny (n + x) then sumA r (n + x) else (0, 300) else (0, 300)
theorem sum_eq (l : List Int) (hl : l.length ≤ 1000000) : M72 l = some (sumA l 0) ∧ M75 l = some (sumA l 0) := by
  have step : ∀ (x n : Int) (hn : mny n) (k : Int → Option (Int × Int)), ((M0 x).bind fun r_14 => bif r_14 != 0 then some (0, 300) else (M0 (w64 (n + x))).bind fun r_17 => bif r_17 != 0 then some (0, 300) else k (w64 (n + x))) = if mny x then if mny (n + x) then k (n + x) else some (0, 300) else some (0, 300) := by
    intro x n hn k
    by_cases hx : mny x
    · have hw : w64 (n + x) = n + x := w64_of (by unfold mny at hx hn; omega) (by unfold mny at hx hn; omega)
      rw [moneyCheck_ok hx, some_bind, hw, if_pos hx]
      by_cases hs : mny (n + x)
      · rw [moneyCheck_ok hs, if_pos hs]; rfl
      · rw [moneyCheck_bad hs, if_neg hs]; rfl
    · rw [moneyCheck_bad hx, if_neg hx]; rfl
  constructor
  · unfold M72
    rw [fuel_sub]
    exact rangeL (σ := Int) (l := l) (f := fun n i s => M70 l M71 n s (i : Int)) (g := fun r s => some (sumA r s)) (fun _ s => mny s)
      (fun n s _ => by
        show M70 l M71 (n + 1) s (l.length : Int) = _
        rw [M70, decide_eq_false (by omega), cond_false]; rfl)
      (fun n i s a r h e1 e3 hm hI hk => by
        show M70 l M71 (n + 1) s (i : Int) = _
        rw [M70, decide_eq_true (by omega), cond_true, idx_at e1, some_bind, w64c (i := (i : Int) + 1) (n := i + 1) (by omega) (by omega), step a s hI (fun z => M70 l M71 n z ((i + 1 : Nat) : Int)), sumA]
        split
        · split
          · rename_i hs; exact hk _ hs
          · rfl
        · rfl) 0 (by unfold mny; omega)
  · unfold M75
    rw [fuel_sub]
    exact rangeL (σ := Int) (l := l) (f := fun n i s => M73 l M74 n s (i : Int)) (g := fun r s => some (sumA r s)) (fun _ s => mny s)
      (fun n s _ => by
        show M73 l M74 (n + 1) s (l.length : Int) = _
        rw [M73, decide_eq_false (by omega), cond_false]; rfl)
      (fun n i s a r h e1 e3 hm hI hk => by
        show M73 l M74 (n + 1) s (i : Int) = _
        rw [M73, decide_eq_true (by omega), cond_true, idx_at e1, w64c (i := (i : Int) + 1) (n := i + 1) (by omega) (by omega)]
        refine Eq.trans (step a s hI (fun z => M73 l M74 n z ((i + 1 : Nat) : Int))) ?_
        rw [sumA]
        split
        · split
          · rename_i hs; exact hk _ hs
          · rfl
        · rfl) 0 (by unfold mny; omega)
theorem sumA_ok : ∀ (l : List Int) (n : Int), mny n → (sumA l n).2 = 0 → (sumA l n).1 = n + l.sum ∧ mny (sumA l n).1
  | [], n, hn, _ => by simp [sumA, hn]
  | x :: r, n, hn, h => by
    rw [sumA] at h ⊢
    by_cases h1 : mny x
    · rw [if_pos h1] at h ⊢
      by_cases h2 : mny (n + x)
      · rw [if_pos h2] at h ⊢
        obtain ⟨a, b⟩ := sumA_ok r (n + x) h2 h
        exact ⟨by rw [a, List.sum_cons]; omega, b⟩
      · rw [if_neg h2] at h; cases h
    · rw [if_neg h1] at h; cases h
theorem MoneyAdds_true (y0 : List Int) (y1 : List Int) (w0 : wL wI y0) (w1 : wL wI y1) : M76 y0 y1 = some true := by
  unfold M76
  have l0 := w0.1
  have l1 := w1.1
  rw [sane30_true, some_bind, Bool.not_true, cond_false, w64_of (n := (y0.length : Int) + y1.length) (by omega) (by omega), bif_dec]
  by_cases hl : (y0.length : Int) + y1.length > 500
  · rw [if_pos hl]
  · have z0 : mny 0 := by unfold mny; omega
    rw [if_neg hl]
    have s1 := (sum_eq y0 (by omega)).1
    have s2 := (sum_eq y1 (by omega)).1
    have s3 := (sum_eq ([] ++ y0 ++ y1) (by simp; omega)).1
    have s4 := (sum_eq ([] ++ y1 ++ y0) (by simp; omega)).1
    have p1 : app 8 [] y0 = some ([] ++ y0) := app_ok (by simp; omega) (by simp; omega)
    have p2 : app 8 ([] ++ y0) y1 = some ([] ++ y0 ++ y1) := app_ok (by simp; omega) (by simp; omega)
    have p3 : app 8 [] y1 = some ([] ++ y1) := app_ok (by simp; omega) (by simp; omega)
    have p4 : app 8 ([] ++ y1) y0 = some ([] ++ y1 ++ y0) := app_ok (by simp; omega) (by simp; omega)
    have s5 := (sum_eq [(sumA y0 0).1, (sumA y1 0).1] (by simp)).1
    simp only [s1, s2, some_bind, p1, p2, s3, p3, p4, s4, s5]
    by_cases h : (sumA y0 0).2 = 0 ∧ (sumA y1 0).2 = 0 ∧ (sumA ([] ++ y0 ++ y1) 0).2 = 0 ∧ (sumA ([] ++ y1 ++ y0) 0).2 = 0
    · obtain ⟨h1, h2, h3, h4⟩ := h
      obtain ⟨a1, b1⟩ := sumA_ok _ 0 z0 h1
      obtain ⟨a2, b2⟩ := sumA_ok _ 0 z0 h2
      obtain ⟨a3, b3⟩ := sumA_ok _ 0 z0 h3
      obtain ⟨a4, b4⟩ := sumA_ok _ 0 z0 h4
      have e3 : (sumA ([] ++ y0 ++ y1) 0).1 = (sumA y0 0).1 + (sumA y1 0).1 := by rw [a1, a2, a3]; simp
      have e4 : (sumA ([] ++ y1 ++ y0) 0).1 = (sumA y0 0).1 + (sumA y1 0).1 := by rw [a1, a2, a4]; simp [Int.add_comm]
      have e5 : sumA [(sumA y0 0).1, (sumA y1 0).1] 0 = ((sumA y0 0).1 + (sumA y1 0).1, 0) := by
        rw [e3] at b3
        rw [sumA, if_pos b1, Int.zero_add, if_pos b1, sumA, if_pos b2, if_pos b3, sumA]
      rw [h1, h2, h3, h4, e3, e4, e5]
      simp
    · have hb : (((sumA y0 0).2 != 0) || (((sumA y1 0).2 != 0) || (((sumA ([] ++ y0 ++ y1) 0).2 != 0) || ((sumA ([] ++ y1 ++ y0) 0).2 != 0)))) = true := by
        simp only [Bool.or_eq_true, bne_iff_ne]
        omega
      rw [hb, cond_true]
end Go.Stop
