/- Plain laws: rivals and ranks, cleanly. No condition. -/
import Derived.Test.YthandbiapckgkaaQ1
namespace Go.Stop
open Go Go.Abs

abbrev nrun (f : TField) : Nat := f.Runners.length
abbrev npair (f : TField) : Nat := f.Pairs.length

theorem anyLate_eq {f : TField} (hs : Small f) (hf : FieldOK f) {r k w : Nat} (hr : r < nrun f) (hk : k < nrun f) (hw : w < npair f + 1) {x : TOutcome} (hx : OutOK f.Clocks x) (hxo : x.Out = false) :
    m_stopwatchref25_anyLate f (w : Int) x (r : Int) (k : Int) = some (!(wl f.Runners k w).all (forced f r x k)) := by
  unfold m_stopwatchref25_anyLate
  rw [idx_lt hk, some_bind, (wl_mem hf hk hw).2, some_bind, fuel_sub]
  have hok := wl_ok hf hk hw
  have hlen := wl_len hs hf hk hw
  show m_stopwatchref25_anyLate_L1 f x (r : Int) (k : Int) (wl f.Runners k w) _ _ 0 = some (!(wl f.Runners k w).all (forced f r x k))
  generalize wl f.Runners k w = l at hok hlen
  have h := any_loop (l := l) (f := fun n i => m_stopwatchref25_anyLate_L1 f x (r : Int) (k : Int) l m_stopwatchref25_anyLate_J2 n (i : Int)) (p := fun y => !forced f r x k y) (r := true) (k := some false) (fun n i hi => by
    show m_stopwatchref25_anyLate_L1 f x (r : Int) (k : Int) l _ (n + 1) (i : Int) = _
    rw [m_stopwatchref25_anyLate_L1, dec_lt_nat, decide_eq_true hi, cond_true, idx_lt hi, some_bind, late_eq hs hf hr hk hx (hok _ (List.getElem_mem hi)) hxo, some_bind, w64_succ (by omega), Bool.cond_eq_ite]) (fun n => by
    show m_stopwatchref25_anyLate_L1 f x (r : Int) (k : Int) l _ (n + 1) ((l.length : Nat) : Int) = _
    rw [m_stopwatchref25_anyLate_L1]; simp [m_stopwatchref25_anyLate_J2])
  refine Eq.trans h ?_
  rw [List.not_all_eq_any_not]
  cases l.any fun y => !forced f r x k y <;> rfl

theorem anyEarly_eq {f : TField} (hs : Small f) (hf : FieldOK f) {r k w : Nat} (hr : r < nrun f) (hk : k < nrun f) (hw : w < npair f + 1) {x : TOutcome} (hx : OutOK f.Clocks x) (hxo : x.Out = false) :
    m_stopwatchref25_anyEarly f (w : Int) x (r : Int) (k : Int) = some ((wl f.Runners k w).any (can f r x k)) := by
  unfold m_stopwatchref25_anyEarly
  rw [idx_lt hk, some_bind, (wl_mem hf hk hw).2, some_bind, fuel_sub]
  have hok := wl_ok hf hk hw
  have hlen := wl_len hs hf hk hw
  show m_stopwatchref25_anyEarly_L1 f x (r : Int) (k : Int) (wl f.Runners k w) _ _ 0 = some ((wl f.Runners k w).any (can f r x k))
  generalize wl f.Runners k w = l at hok hlen
  have h := any_loop (l := l) (f := fun n i => m_stopwatchref25_anyEarly_L1 f x (r : Int) (k : Int) l m_stopwatchref25_anyEarly_J2 n (i : Int)) (p := can f r x k) (r := true) (k := some false) (fun n i hi => by
    show m_stopwatchref25_anyEarly_L1 f x (r : Int) (k : Int) l _ (n + 1) (i : Int) = _
    rw [m_stopwatchref25_anyEarly_L1, dec_lt_nat, decide_eq_true hi, cond_true, idx_lt hi, some_bind, early_eq hs hf hr hk hx (hok _ (List.getElem_mem hi)) hxo, some_bind, w64_succ (by omega), Bool.cond_eq_ite]) (fun n => by
    show m_stopwatchref25_anyEarly_L1 f x (r : Int) (k : Int) l _ (n + 1) ((l.length : Nat) : Int) = _
    rw [m_stopwatchref25_anyEarly_L1]; simp [m_stopwatchref25_anyEarly_J2])
  refine Eq.trans h ?_
  cases l.any (can f r x k) <;> rfl

/-- What a direction's choice of a rival's outcome is. -/
theorem choose_best_eq {f : TField} (hs : Small f) (hf : FieldOK f) {r k w : Nat} (hr : r < nrun f) (hk : k < nrun f) (hw : w < npair f + 1) (hne : (wl f.Runners k w).length ≠ 0) {x : TOutcome} (hx : OutOK f.Clocks x) (hxo : x.Out = false) :
    ∃ i : Nat, ∃ y, (wl f.Runners k w)[i]? = some y ∧ m_ranks_direction_choose_with_ranks_best_2 f (w : Int) (r : Int) x (k : Int) = some ((i : Int), (wl f.Runners k w).all (forced f r x k)) ∧ forced f r x k y = (wl f.Runners k w).all (forced f r x k) := by
  unfold m_ranks_direction_choose_with_ranks_best_2
  have e : m_ranks_best_2 2 1 = some false := rfl
  rw [e, some_bind, idx_lt hk, some_bind, (wl_mem hf hk hw).2, some_bind, fuel_sub]
  have hok := wl_ok hf hk hw
  have hlen := wl_len hs hf hk hw
  show ∃ i : Nat, ∃ y, (wl f.Runners k w)[i]? = some y ∧ m_ranks_direction_choose_with_ranks_best_2_L1 f (r : Int) x (k : Int) false (wl f.Runners k w) _ _ 0 = _ ∧ _
  generalize wl f.Runners k w = l at hok hlen hne
  rcases find_at (l := l) (f := fun n i => m_ranks_direction_choose_with_ranks_best_2_L1 f (r : Int) x (k : Int) false l (m_ranks_direction_choose_with_ranks_best_2_J2 false) n (i : Int)) (p := fun y => !forced f r x k y) (A := fun i _ => ((i : Int), false)) (k := some (0, true)) (fun n i hi => by
    show m_ranks_direction_choose_with_ranks_best_2_L1 f (r : Int) x (k : Int) false l _ (n + 1) (i : Int) = _
    rw [m_ranks_direction_choose_with_ranks_best_2_L1, dec_lt_nat, decide_eq_true hi, cond_true, idx_lt hi, some_bind, ahead_best_eq hs hf hr hk hx (hok _ (List.getElem_mem hi)) hxo, some_bind, w64_succ (by omega)]
    cases forced f r x k l[i] <;> rfl) (fun n => by
    show m_ranks_direction_choose_with_ranks_best_2_L1 f (r : Int) x (k : Int) false l _ (n + 1) ((l.length : Nat) : Int) = _
    rw [m_ranks_direction_choose_with_ranks_best_2_L1]; simp [m_ranks_direction_choose_with_ranks_best_2_J2]) with ⟨i, hi, h1, h2, _⟩ | ⟨h1, h2⟩
  · have ha : l.all (forced f r x k) = false := by
      rw [← Bool.not_eq_true]
      intro h
      rw [List.all_eq_true] at h
      rw [h _ (List.getElem_mem hi)] at h1
      cases h1
    exact ⟨i, l[i], by simp [hi], by rw [ha]; exact h2, by rw [ha]; simpa using h1⟩
  · have ha : l.all (forced f r x k) = true := by
      rw [List.all_eq_true]; intro y hy; simpa using h1 y hy
    have h0 : 0 < l.length := by omega
    exact ⟨0, l[0], by simp [h0], by rw [ha]; exact h2, by rw [ha]; simpa using h1 _ (List.getElem_mem h0)⟩

theorem choose_worst_eq {f : TField} (hs : Small f) (hf : FieldOK f) {r k w : Nat} (hr : r < nrun f) (hk : k < nrun f) (hw : w < npair f + 1) (hne : (wl f.Runners k w).length ≠ 0) {x : TOutcome} (hx : OutOK f.Clocks x) (hxo : x.Out = false) :
    ∃ i : Nat, ∃ y, (wl f.Runners k w)[i]? = some y ∧ m_ranks_direction_choose_with_ranks_worst_2 f (w : Int) (r : Int) x (k : Int) = some ((i : Int), (wl f.Runners k w).any (can f r x k)) ∧ can f r x k y = (wl f.Runners k w).any (can f r x k) := by
  unfold m_ranks_direction_choose_with_ranks_worst_2
  have e : m_ranks_worst_2 2 1 = some true := rfl
  rw [e, some_bind, idx_lt hk, some_bind, (wl_mem hf hk hw).2, some_bind, fuel_sub]
  have hok := wl_ok hf hk hw
  have hlen := wl_len hs hf hk hw
  show ∃ i : Nat, ∃ y, (wl f.Runners k w)[i]? = some y ∧ m_ranks_direction_choose_with_ranks_worst_2_L1 f (r : Int) x (k : Int) true (wl f.Runners k w) _ _ 0 = _ ∧ _
  generalize wl f.Runners k w = l at hok hlen hne
  rcases find_at (l := l) (f := fun n i => m_ranks_direction_choose_with_ranks_worst_2_L1 f (r : Int) x (k : Int) true l (m_ranks_direction_choose_with_ranks_worst_2_J2 true) n (i : Int)) (p := can f r x k) (A := fun i _ => ((i : Int), true)) (k := some (0, false)) (fun n i hi => by
    show m_ranks_direction_choose_with_ranks_worst_2_L1 f (r : Int) x (k : Int) true l _ (n + 1) (i : Int) = _
    rw [m_ranks_direction_choose_with_ranks_worst_2_L1, dec_lt_nat, decide_eq_true hi, cond_true, idx_lt hi, some_bind, ahead_worst_eq hs hf hr hk hx (hok _ (List.getElem_mem hi)) hxo, some_bind, w64_succ (by omega)]
    cases can f r x k l[i] <;> rfl) (fun n => by
    show m_ranks_direction_choose_with_ranks_worst_2_L1 f (r : Int) x (k : Int) true l _ (n + 1) ((l.length : Nat) : Int) = _
    rw [m_ranks_direction_choose_with_ranks_worst_2_L1]; simp [m_ranks_direction_choose_with_ranks_worst_2_J2]) with ⟨i, hi, h1, h2, _⟩ | ⟨h1, h2⟩
  · have ha : l.any (can f r x k) = true := List.any_eq_true.2 ⟨_, List.getElem_mem hi, h1⟩
    exact ⟨i, l[i], by simp [hi], by rw [ha]; exact h2, by rw [ha]; exact h1⟩
  · have ha : l.any (can f r x k) = false := by
      rw [← Bool.not_eq_true]
      intro h
      obtain ⟨y, hy, hp⟩ := List.any_eq_true.1 h
      rw [h1 y hy] at hp
      cases hp
    have h0 : 0 < l.length := by omega
    exact ⟨0, l[0], by simp [h0], by rw [ha]; exact h2, by rw [ha]; exact h1 _ (List.getElem_mem h0)⟩

/-- Is a rival another one, and surely or possibly ahead? -/
def sureK (f : TField) (w : Nat) (r : Nat) (x : TOutcome) (k : Nat) : Bool := decide (k ≠ r) && (wl f.Runners k w).all (forced f r x k)
def mayK (f : TField) (w : Nat) (r : Nat) (x : TOutcome) (k : Nat) : Bool := decide (k ≠ r) && (wl f.Runners k w).any (can f r x k)
def nBest (f : TField) (w : Nat) (r : Nat) (x : TOutcome) : Nat := 1 + (List.range (nrun f)).countP (sureK f w r x)
def nWorst (f : TField) (w : Nat) (r : Nat) (x : TOutcome) : Nat := 1 + (List.range (nrun f)).countP (mayK f w r x)

theorem extremes_eq {f : TField} (hs : Small f) (hf : FieldOK f) {r w : Nat} (hr : r < nrun f) (hw : w < npair f + 1) {x : TOutcome} (hx : OutOK f.Clocks x) (hxo : x.Out = false) :
    m_stopwatchref25_extremes f (w : Int) x (r : Int) = some ((nBest f w r x : Int), (nWorst f w r x : Int)) := by
  have hlen : nrun f ≤ 1000000 := hs.runners
  unfold m_stopwatchref25_extremes
  rw [fuel_sub]
  obtain ⟨s, h1, h2⟩ := inv_loop (N := nrun f) (f := fun n i (s : Int × Int) => m_stopwatchref25_extremes_L1 f (w : Int) x (r : Int) n s.1 s.2 (i : Int)) (k := some) (I := fun i s => s = (((1 + (List.range i).countP (sureK f w r x) : Nat) : Int), ((1 + (List.range i).countP (mayK f w r x) : Nat) : Int))) (s0 := (1, 1)) (fun i s hi hI => by
    refine ⟨_, rfl, fun n => ?_⟩
    show m_stopwatchref25_extremes_L1 f (w : Int) x (r : Int) (n + 1) s.1 s.2 (i : Int) = _
    rw [m_stopwatchref25_extremes_L1, dec_lt_nat, decide_eq_true hi, cond_true, bif_eq, hI]
    have c1 := count_le (N := i) (p := sureK f w r x)
    have c2 := count_le (N := i) (p := mayK f w r x)
    have d1 : (List.range (i + 1)).countP (sureK f w r x) = (List.range i).countP (sureK f w r x) + if sureK f w r x i = true then 1 else 0 := by rw [List.range_succ, List.countP_append]; simp [List.countP_cons]
    have d2 : (List.range (i + 1)).countP (mayK f w r x) = (List.range i).countP (mayK f w r x) + if mayK f w r x i = true then 1 else 0 := by rw [List.range_succ, List.countP_append]; simp [List.countP_cons]
    rw [d1, d2]
    generalize (List.range i).countP (sureK f w r x) = p at c1
    generalize (List.range i).countP (mayK f w r x) = q at c2
    by_cases hir : i = r
    · have e1 : sureK f w r x i = false := by unfold sureK; simp [hir]
      have e2 : mayK f w r x i = false := by unfold mayK; simp [hir]
      rw [if_pos (by omega), some_bind, w64_succ (by omega), e1, e2]
      rfl
    · rw [if_neg (by omega), anyLate_eq hs hf hr hi hw hx hxo, anyEarly_eq hs hf hr hi hw hx hxo]
      have e1 : sureK f w r x i = (wl f.Runners i w).all (forced f r x i) := by unfold sureK; simp [hir]
      have e2 : mayK f w r x i = (wl f.Runners i w).any (can f r x i) := by unfold mayK; simp [hir]
      rw [e1, e2]
      simp only [some_bind, Bool.not_not]
      rw [w64_succ (i := i) (by omega), w64_of (n := ((1 + p : Nat) : Int) + 1) (by omega) (by omega), w64_of (n := ((1 + q : Nat) : Int) + 1) (by omega) (by omega)]
      cases (wl f.Runners i w).all (forced f r x i) <;> cases (wl f.Runners i w).any (can f r x i) <;> rfl) (fun n s => by
    show m_stopwatchref25_extremes_L1 f (w : Int) x (r : Int) (n + 1) s.1 s.2 ((nrun f : Nat) : Int) = _
    rw [m_stopwatchref25_extremes_L1]; simp) (by simp)
  replace h1 : m_stopwatchref25_extremes_L1 f (w : Int) x (r : Int) (nrun f + 1) 1 1 0 = some s := h1
  rw [h1, h2]
  rfl

end Go.Stop
