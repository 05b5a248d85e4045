/- Plain laws: what fields are valid. No condition. -/
import Derived.Test.YthandbiapckgkaaP2
namespace Go.Stop
open Go Go.Abs

theorem app_ok {α : Type} {b : Nat} {l r : List α} (h : (l.length + r.length) * b ≤ 140737488355328) (h' : l.length + r.length < 9223372036854775808) : app b l r = some (l ++ r) := by
  unfold app; rw [if_pos ⟨h, h'⟩]

theorem flat_succ {α : Type} {ws : List (List α)} {i : Nat} (hi : i < ws.length) : (ws.take (i + 1)).flatten = (ws.take i).flatten ++ ws[i] := by
  rw [List.take_succ_eq_append_getElem hi, List.flatten_append]; simp

theorem concat_eq {ws : List (List TOutcome)} (h1 : ws.length ≤ 1000) (h2 : ∀ w, w ∈ ws → w.length ≤ 1000) : m_slices_Concat_Outcome_Outcome ws = some ws.flatten := by
  have hw : ∀ i (hi : i < ws.length), ws[i].length ≤ 1000 := fun i hi => h2 _ (List.getElem_mem hi)
  unfold m_slices_Concat_Outcome_Outcome
  simp only [fuel_sub]
  obtain ⟨r, hr, hr0, hr1⟩ := run_inv (N := ws.length) (f := fun n i s => m_slices_Concat_Outcome_Outcome_L1 ws n s (i : Int)) (I := fun i s => 0 ≤ s ∧ s ≤ 1000 * (i : Int)) (s0 := 0) (fun n i s hi hI => by
    refine ⟨s + ws[i].length, ?_, ?_⟩
    · have := hw i hi; omega
    · show m_slices_Concat_Outcome_Outcome_L1 ws (n + 1) s (i : Int) = m_slices_Concat_Outcome_Outcome_L1 ws n (s + ws[i].length) ((i + 1 : Nat) : Int)
      have := hw i hi
      rw [m_slices_Concat_Outcome_Outcome_L1, dec_lt_nat, decide_eq_true hi, cond_true, idx_lt hi, some_bind, w64_of (by omega) (by omega), bif_dec, if_neg (by omega), w64_succ (by omega)]) (fun n s => by
    show m_slices_Concat_Outcome_Outcome_L1 ws (n + 1) s ((ws.length : Nat) : Int) = _
    rw [m_slices_Concat_Outcome_Outcome_L1]; simp) ⟨by omega, by omega⟩
  replace hr : m_slices_Concat_Outcome_Outcome_L1 ws (ws.length + 1) 0 0 = some r := hr
  rw [hr, some_bind, bif_dec, if_neg (by omega), w64_of (by omega) (by omega), bif_dec]
  have hI : ∀ i (hi : i < ws.length), ((ws.take i).flatten.length ≤ 1000 * i) → ((ws.take (i + 1)).flatten.length ≤ 1000 * (i + 1)) := fun i hi h => by
    rw [flat_succ hi, List.length_append]; have := hw i hi; omega
  split
  · have e : mkZ 32 (r - 0) = some r.toNat := by
      unfold mkZ; rw [if_pos (by omega)]; simp
    rw [e, some_bind]
    have e2 : ∀ (l : List TOutcome), slcTo l 0 = some [] := fun l => by unfold slcTo; simp
    rw [e2, some_bind]
    obtain ⟨l, hl, rfl, _⟩ := run_inv (N := ws.length) (f := fun n i s => m_slices_Concat_Outcome_Outcome_L2 ws n (i : Int) s) (I := fun i s => s = (ws.take i).flatten ∧ s.length ≤ 1000 * i) (s0 := []) (fun n i s hi hI' => by
      obtain ⟨rfl, hlen⟩ := hI'
      refine ⟨_, ⟨rfl, hI i hi hlen⟩, ?_⟩
      show m_slices_Concat_Outcome_Outcome_L2 ws (n + 1) (i : Int) _ = m_slices_Concat_Outcome_Outcome_L2 ws n ((i + 1 : Nat) : Int) _
      have := hw i hi
      rw [m_slices_Concat_Outcome_Outcome_L2, dec_lt_nat, decide_eq_true hi, cond_true, idx_lt hi, some_bind, app_ok (by omega) (by omega), some_bind, w64_succ (by omega), flat_succ hi]) (fun n s => by
      show m_slices_Concat_Outcome_Outcome_L2 ws (n + 1) ((ws.length : Nat) : Int) s = _
      rw [m_slices_Concat_Outcome_Outcome_L2]; simp) ⟨rfl, by simp⟩
    replace hl : m_slices_Concat_Outcome_Outcome_L2 ws (ws.length + 1) 0 [] = some (ws.take ws.length).flatten := hl
    rw [hl, some_bind, List.take_length]
  · obtain ⟨l, hl, rfl, _⟩ := run_inv (N := ws.length) (f := fun n i s => m_slices_Concat_Outcome_Outcome_L3 ws n (i : Int) s) (I := fun i s => s = (ws.take i).flatten ∧ s.length ≤ 1000 * i) (s0 := []) (fun n i s hi hI' => by
      obtain ⟨rfl, hlen⟩ := hI'
      refine ⟨_, ⟨rfl, hI i hi hlen⟩, ?_⟩
      show m_slices_Concat_Outcome_Outcome_L3 ws (n + 1) (i : Int) _ = m_slices_Concat_Outcome_Outcome_L3 ws n ((i + 1 : Nat) : Int) _
      have := hw i hi
      rw [m_slices_Concat_Outcome_Outcome_L3, dec_lt_nat, decide_eq_true hi, cond_true, idx_lt hi, some_bind, app_ok (by omega) (by omega), some_bind, w64_succ (by omega), flat_succ hi]) (fun n s => by
      show m_slices_Concat_Outcome_Outcome_L3 ws (n + 1) ((ws.length : Nat) : Int) s = _
      rw [m_slices_Concat_Outcome_Outcome_L3]; simp) ⟨rfl, by simp⟩
    replace hl : m_slices_Concat_Outcome_Outcome_L3 ws (ws.length + 1) 0 [] = some (ws.take ws.length).flatten := hl
    rw [hl, some_bind, List.take_length]

/-- A field of no great size. -/
structure Small (f : TField) : Prop where
  seg : f.Clocks.Segments.length ≤ 1000
  pairs : f.Pairs.length ≤ 1000
  runners : f.Runners.length ≤ 1000000
  worlds : ∀ r, r ∈ f.Runners → r.Keys.length ≤ 1000 ∧ r.Worlds.length ≤ 1000 ∧ ∀ w, w ∈ r.Worlds → w.length ≤ 1000

def PairLt (q p : TPair) : Prop := q.A < p.A ∨ q.A = p.A ∧ q.B < p.B
def PairOK (l : List TPair) (i : Nat) : Prop := ∀ p, l[i]? = some p → 1 ≤ p.A ∧ p.A < p.B ∧ p.B ≤ 9999 ∧ (0 < i → ∀ q, l[i - 1]? = some q → PairLt q p)

/-- The pair before. -/
def lastP (l : List TPair) (i : Nat) : TPair := if i = 0 then ⟨0, 0⟩ else (l[i - 1]?).getD ⟨0, 0⟩

theorem field_L1 {f : TField} {kk : Unit → Option Int} (hl : f.Pairs.length ≤ 1000) : m_field_Check_L1 f kk (f.Pairs.length + 1) 0 0 0 = chk (∀ i, i < f.Pairs.length → PairOK f.Pairs i) 240 (kk ()) := by
  refine chk_loop (f := fun n i => m_field_Check_L1 f kk n (i : Int) (lastP f.Pairs i).A (lastP f.Pairs i).B) (fun n i hi => ?_) (fun n => ?_)
  · show m_field_Check_L1 f kk (n + 1) (i : Int) _ _ = _
    rw [m_field_Check_L1, dec_lt_nat, decide_eq_true hi, cond_true, idx_lt hi, some_bind, w64_succ (by omega)]
    have hx : f.Pairs[i]? = some f.Pairs[i] := by simp [hi]
    have hnext : lastP f.Pairs (i + 1) = f.Pairs[i] := by unfold lastP; simp [hi]
    rw [hnext]
    generalize f.Pairs[i] = p at hx
    have hok : PairOK f.Pairs i ↔ 1 ≤ p.A ∧ p.A < p.B ∧ p.B ≤ 9999 ∧ (0 < i → ∀ q, f.Pairs[i - 1]? = some q → PairLt q p) := by
      unfold PairOK; rw [hx]; simp
    have hlast : 1 ≤ p.A → ((0 < i → ∀ q, f.Pairs[i - 1]? = some q → PairLt q p) ↔ ¬(p.A < (lastP f.Pairs i).A ∨ p.A = (lastP f.Pairs i).A ∧ p.B ≤ (lastP f.Pairs i).B)) := by
      intro hA
      unfold lastP PairLt
      by_cases h0 : i = 0
      · subst h0; simp; omega
      · have h8 : i - 1 < f.Pairs.length := by omega
        rw [if_neg h0, List.getElem?_eq_getElem h8]
        simp only [Option.getD_some, Option.some.injEq, forall_eq']
        constructor
        · intro h; have := h (by omega); omega
        · intro h _; omega
    by_cases hOK : PairOK f.Pairs i
    · rw [chk_pos hOK]
      obtain ⟨h1, h2, h3, h4⟩ := hok.1 hOK
      have h5 := (hlast h1).1 h4
      rw [Bool.cond_eq_ite, if_neg]
      simp only [Bool.or_eq_true, Bool.and_eq_true, decide_eq_true_eq, beq_iff_eq]
      omega
    · rw [chk_neg hOK, Bool.cond_eq_ite, if_pos]
      simp only [Bool.or_eq_true, Bool.and_eq_true, decide_eq_true_eq, beq_iff_eq]
      by_cases h1 : 1 ≤ p.A
      · have h5 := hlast h1
        refine Classical.byContradiction fun h6 => hOK (hok.2 ⟨h1, by omega, by omega, h5.2 (by omega)⟩)
      · left; omega
  · show m_field_Check_L1 f kk (n + 1) ((f.Pairs.length : Nat) : Int) _ _ = _
    rw [m_field_Check_L1]
    simp

theorem ref24_L1 {f : TField} {kk : Unit → Option Int} (hl : f.Pairs.length ≤ 1000) : m_stopwatchref24_Check_L1 f kk (f.Pairs.length + 1) 0 = chk (∀ i, i < f.Pairs.length → PairOK f.Pairs i) 240 (kk ()) := by
  refine chk_loop (f := fun n i => m_stopwatchref24_Check_L1 f kk n (i : Int)) (fun n i hi => ?_) (fun n => ?_)
  · show m_stopwatchref24_Check_L1 f kk (n + 1) (i : Int) = _
    rw [m_stopwatchref24_Check_L1, dec_lt_nat, decide_eq_true hi, cond_true, idx_lt hi, some_bind, w64_succ (by omega)]
    have hx : f.Pairs[i]? = some f.Pairs[i] := by simp [hi]
    generalize f.Pairs[i] = p at hx
    have hok : PairOK f.Pairs i ↔ 1 ≤ p.A ∧ p.A < p.B ∧ p.B ≤ 9999 ∧ (0 < i → ∀ q, f.Pairs[i - 1]? = some q → PairLt q p) := by
      unfold PairOK; rw [hx]; simp
    rw [bif_dec, bif_dec, bif_dec]
    by_cases h1 : p.A < 1
    · rw [if_pos h1, chk_neg (fun h => by have := hok.1 h; omega)]
    rw [if_neg h1]
    by_cases h2 : p.A ≥ p.B
    · rw [if_pos h2, chk_neg (fun h => by have := hok.1 h; omega)]
    rw [if_neg h2]
    by_cases h3 : p.B > 9999
    · rw [if_pos h3, chk_neg (fun h => by have := hok.1 h; omega)]
    rw [if_neg h3]
    refine bind_chk ?_
    rw [hok, bif_dec]
    by_cases h6 : (i : Int) > 0
    · have h7 : 0 < i := by omega
      have h8 : i - 1 < f.Pairs.length := by omega
      rw [if_pos h6, pred_nat h7 (by omega), idx_lt h8, List.getElem?_eq_getElem h8]
      simp only [some_bind, bif_dec, bif_eq, Option.some.injEq, forall_eq']
      generalize f.Pairs[i - 1] = q
      unfold PairLt
      by_cases h9 : q.A > p.A
      · rw [if_pos h9]; exact ⟨true, rfl, by simp; omega⟩
      · rw [if_neg h9]
        by_cases h10 : q.A = p.A
        · rw [if_pos h10]; refine ⟨_, rfl, ?_⟩
          rw [decide_eq_true_iff]; omega
        · rw [if_neg h10]; refine ⟨false, rfl, ?_⟩
          simp; omega
    · rw [if_neg h6]
      refine ⟨false, rfl, ?_⟩
      simp only [Bool.false_eq_true, false_iff, Classical.not_not]
      exact ⟨by omega, by omega, by omega, fun h => by omega⟩
  · show m_stopwatchref24_Check_L1 f kk (n + 1) ((f.Pairs.length : Nat) : Int) = _
    rw [m_stopwatchref24_Check_L1]
    simp

end Go.Stop
