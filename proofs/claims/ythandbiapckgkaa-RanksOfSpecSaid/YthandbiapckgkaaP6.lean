/- Plain laws: who is ahead: the parts. No condition. -/
import Derived.Test.YthandbiapckgkaaP5
namespace Go.Stop
open Go Go.Abs

theorem w64_add (a b : Int) : w64 (a + w64 b) = w64 (a + b) := by
  unfold w64; simp only [IntKind.wrap, IntKind.bits, IntKind.signed]; simp; omega

theorem foldO_nil {σ α : Type} (f : α → σ → Option σ) (s : σ) : foldO f [] s = some s := rfl

def InR (f : TField) (a : Int) : Prop := 0 ≤ a ∧ a < f.Runners.length

theorem ranks_check_eq {f : TField} (hs : Small f) {l : List Int} (hl : l.length ≤ 1000) : m_ranks_check f l = chk (FieldOK f) 240 (chk (∀ a, a ∈ l → InR f a) 250 (some 0)) := by
  unfold m_ranks_check
  rw [field_Check_eq hs]
  by_cases h : FieldOK f
  · rw [chk_pos h, chk_pos h, some_bind]
    simp only [bne_self_eq_false, cond_false]
    rw [fuel_sub]
    refine (chk_loop (ok := fun j => ∀ a, l[j]? = some a → InR f a) (k := some 0) (r := 250) (f := fun n j => m_ranks_check_L1 f l m_ranks_check_J2 n (j : Int)) (fun n j hj => ?_) (fun n => ?_)).trans (chk_congr all_get fun _ => rfl)
    · show m_ranks_check_L1 f l m_ranks_check_J2 (n + 1) (j : Int) = _
      rw [m_ranks_check_L1, dec_lt_nat, decide_eq_true hj, cond_true, idx_lt hj, some_bind, w64_succ (by omega), bif_dec, bif_dec]
      have hx : l[j]? = some l[j] := by simp [hj]
      rw [hx]
      generalize l[j] = a
      simp only [Option.some.injEq, forall_eq']
      unfold InR
      by_cases h1 : a < 0
      · rw [if_pos h1, chk_neg (by omega)]
      · rw [if_neg h1]
        by_cases h2 : a ≥ (f.Runners.length : Int)
        · rw [if_pos h2, chk_neg (by omega)]
        · rw [if_neg h2, chk_pos (by omega)]
    · show m_ranks_check_L1 f l m_ranks_check_J2 (n + 1) ((l.length : Nat) : Int) = _
      rw [m_ranks_check_L1]
      simp [m_ranks_check_J2]
  · rw [chk_neg h, chk_neg h]; rfl

theorem ref25_check_eq {f : TField} (hs : Small f) (a : Int) : m_stopwatchref25_check f a = chk (FieldOK f) 240 (chk (InR f a) 250 (some 0)) := by
  unfold m_stopwatchref25_check
  rw [ref24_Check_eq hs]
  by_cases h : FieldOK f
  · rw [chk_pos h, chk_pos h, some_bind]
    simp only [bne_self_eq_false, cond_false]
    rw [bif_dec, bif_dec]
    unfold InR
    by_cases h1 : a < 0
    · rw [if_pos h1, chk_neg (by omega)]
    · rw [if_neg h1]
      by_cases h2 : a ≥ (f.Runners.length : Int)
      · rw [if_pos h2, chk_neg (by omega)]
      · rw [if_neg h2, chk_pos (by omega)]
  · rw [chk_neg h, chk_neg h]; rfl

/-- Keys compared: both ways of doing it. -/
theorem less_compare (a b : List Int) (ha : a.length < 9223372036854775807) : ∃ r t, m_slices_Compare_int_int a b = some r ∧ m_stopwatchref25_Less a b = some t ∧ (r < 0 ↔ t = true) := by
  unfold m_slices_Compare_int_int m_stopwatchref25_Less
  rw [fuel_sub]
  have key : ∀ c i n, i + c = a.length → c ≤ n → ∃ r t, m_slices_Compare_int_int_L1 a b (m_slices_Compare_int_int_J2 a b) (n + 1) (i : Int) = some r ∧ m_stopwatchref25_Less_L1 a b (m_stopwatchref25_Less_J2 a b) (n + 1) (i : Int) = some t ∧ (i ≤ b.length → (r < 0 ↔ t = true)) := by
    intro c
    induction c with
    | zero =>
      intro i n h _
      have : i = a.length := by omega
      subst this
      rw [m_slices_Compare_int_int_L1, m_stopwatchref25_Less_L1]
      simp only [dec_lt_nat, Nat.lt_irrefl, decide_false, cond_false]
      unfold m_slices_Compare_int_int_J2 m_stopwatchref25_Less_J2
      rw [dec_lt_nat, bif_dec]
      by_cases h1 : a.length < b.length
      · rw [if_pos h1]; exact ⟨_, _, rfl, rfl, fun _ => by simp [h1]⟩
      · rw [if_neg h1]; exact ⟨_, _, rfl, rfl, fun _ => by simp [h1]⟩
    | succ c ih =>
      intro i n h hn
      obtain ⟨n, rfl⟩ : ∃ n', n = n' + 1 := ⟨n - 1, by omega⟩
      have hi : i < a.length := by omega
      obtain ⟨r, t, h1, h2, h3⟩ := ih (i + 1) n (by omega) (by omega)
      rw [m_slices_Compare_int_int_L1, m_stopwatchref25_Less_L1, dec_lt_nat, decide_eq_true hi, cond_true, cond_true, idx_lt hi, some_bind, w64_succ (by omega), h1, h2]
      by_cases hb : i < b.length
      · rw [bif_dec, if_neg (by omega), dec_lt_nat, decide_eq_true hb, cond_true, idx_lt hb]
        simp only [some_bind, cmp_eq, bif_ne]
        generalize a[i] = p
        generalize b[i] = q
        rcases Int.lt_trichotomy p q with h5 | h5 | h5
        · have hX : (if p < q then (-1 : Int) else if q < p then 1 else 0) = -1 := if_pos h5
          rw [hX, if_neg (by decide), if_neg (by omega)]
          exact ⟨_, _, rfl, rfl, fun _ => by simp [h5]⟩
        · have hX : (if p < q then (-1 : Int) else if q < p then 1 else 0) = 0 := by rw [if_neg (by omega), if_neg (by omega)]
          rw [hX, if_pos rfl, if_pos h5]
          exact ⟨r, t, rfl, rfl, fun _ => h3 (by omega)⟩
        · have hX : (if p < q then (-1 : Int) else if q < p then 1 else 0) = 1 := by rw [if_neg (by omega), if_pos h5]
          rw [hX, if_neg (by decide), if_neg (by omega)]
          exact ⟨_, _, rfl, rfl, fun _ => by simp; omega⟩
      · rw [bif_dec, if_pos (by omega), dec_lt_nat, decide_eq_false hb, cond_false]
        unfold m_stopwatchref25_Less_J2
        refine ⟨_, _, rfl, rfl, fun _ => ?_⟩
        rw [dec_lt_nat]
        simp; omega
  obtain ⟨r, t, h1, h2, h3⟩ := key a.length 0 a.length (by omega) (by omega)
  exact ⟨r, t, h1, h2, h3 (by omega)⟩

end Go.Stop
