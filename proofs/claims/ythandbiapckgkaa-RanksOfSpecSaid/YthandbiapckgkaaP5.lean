/- Plain laws: what fields are valid, whole. No condition. -/
import Derived.Test.YthandbiapckgkaaP4
namespace Go.Stop
open Go Go.Abs

theorem bib_eq (n : Int) : m_stopwatchref12_Bib n = some (decide (1 ≤ n ∧ n ≤ 9999)) := by
  unfold m_stopwatchref12_Bib m_stopwatchref12_in
  rw [bif_dec]
  by_cases h : 1 ≤ n
  · rw [if_pos (by omega)]; simp [h]
  · rw [if_neg (by omega)]; simp [h]

theorem ref24_L2 {f : TField} {kk : Unit → Option Int} (hk : ClocksOK f.Clocks) (hs : Small f) : m_stopwatchref24_Check_L2 f kk (f.Runners.length + 1) 0 = chk (∀ i, i < f.Runners.length → RunnerOK f i) 240 (kk ()) := by
  refine chk_loop (f := fun n i => m_stopwatchref24_Check_L2 f kk n (i : Int)) (fun n i hi => ?_) (fun n => ?_)
  · show m_stopwatchref24_Check_L2 f kk (n + 1) (i : Int) = _
    have hsr := hs.runners
    have hsp := hs.pairs
    have h0 : 0 < f.Runners.length := by omega
    rw [m_stopwatchref24_Check_L2, dec_lt_nat, decide_eq_true hi, cond_true, idx_lt hi, some_bind]
    have hx : f.Runners[i]? = some f.Runners[i] := by simp [hi]
    have hz : idx f.Runners 0 = some f.Runners[0] := idx_lt (i := 0) h0
    have hz' : f.Runners[0]? = some f.Runners[0] := by simp [h0]
    rw [hz]
    obtain ⟨hw0, hw1, hw2⟩ := hs.worlds _ (List.getElem_mem hi)
    generalize f.Runners[0] = z at hz'
    generalize f.Runners[i] = r at hx hw0 hw1 hw2
    have hok : ((1 ≤ r.Bib ∧ r.Bib ≤ 9999 ∧ (0 < i → ∀ q, f.Runners[i - 1]? = some q → q.Bib < r.Bib) ∧ r.Keys.length = z.Keys.length ∧ r.Worlds.length = f.Pairs.length + 1) ∧ ∀ w, w ∈ r.Worlds → ∀ o, o ∈ w → OutOK f.Clocks o) ↔ RunnerOK f i := by
      unfold RunnerOK; rw [hx, hz']; simp
    refine Eq.trans (bind_chk (p := 1 ≤ r.Bib ∧ r.Bib ≤ 9999 ∧ (0 < i → ∀ q, f.Runners[i - 1]? = some q → q.Bib < r.Bib) ∧ r.Keys.length = z.Keys.length ∧ r.Worlds.length = f.Pairs.length + 1) ?_) (Eq.trans (chk_and' fun h => ?_) (chk_congr hok fun _ => rfl))
    · rw [bib_eq, some_bind, bif_dec]
      by_cases h1 : 1 ≤ r.Bib ∧ r.Bib ≤ 9999
      · rw [decide_eq_true h1, Bool.not_true, cond_false]
        by_cases h6 : (i : Int) > 0
        · have h7 : 0 < i := by omega
          have h8 : i - 1 < f.Runners.length := by omega
          rw [if_pos h6, pred_nat h7 (by omega), idx_lt h8, List.getElem?_eq_getElem h8]
          simp only [some_bind, bif_dec, bif_ne, Option.some.injEq, forall_eq']
          generalize f.Runners[i - 1] = q
          by_cases h9 : q.Bib ≥ r.Bib
          · rw [if_pos h9]; exact ⟨true, rfl, by simp; omega⟩
          · rw [if_neg h9]
            by_cases h10 : r.Keys.length = z.Keys.length
            · rw [if_pos (by omega)]; refine ⟨_, rfl, ?_⟩
              rw [w64_succ (by omega), bne_iff_ne]; omega
            · rw [if_neg (by omega)]; exact ⟨true, rfl, by simp [h10]⟩
        · rw [if_neg h6, some_bind, bif_ne]
          have h7 : ¬0 < i := by omega
          by_cases h10 : r.Keys.length = z.Keys.length
          · rw [if_pos (by omega)]; refine ⟨_, rfl, ?_⟩
            rw [w64_succ (by omega), bne_iff_ne]; omega
          · rw [if_neg (by omega)]; exact ⟨true, rfl, by simp [h10]⟩
      · rw [decide_eq_false h1, Bool.not_false, cond_true]
        exact ⟨true, rfl, by simp; omega⟩
    · rw [fuel_sub, ref24_L3 hk hw1 hw2]
      show chk _ _ (m_stopwatchref24_Check_L2 f kk n (w64 ((i : Int) + 1))) = _
      rw [w64_succ (by omega)]
  · show m_stopwatchref24_Check_L2 f kk (n + 1) ((f.Runners.length : Nat) : Int) = _
    rw [m_stopwatchref24_Check_L2]
    simp

/-- The outcomes of a runner in a world. -/
def wl (l : List TRunner) (i w : Nat) : List TOutcome := ((l[i]?).bind fun r => r.Worlds[w]?).getD []
theorem wl_get {l : List TRunner} {i w : Nat} (hi : i < l.length) (hw : w < l[i].Worlds.length) : idx l[i].Worlds (w : Int) = some (wl l i w) := by
  rw [idx_lt hw]; unfold wl; simp [hi, hw]

def Poss (l : List TRunner) (w : Nat) : Prop := ∀ i, i < l.length → (wl l i w).length ≠ 0

theorem containsF_eq {l : List TRunner} {w : Nat} (hl : l.length ≤ 1000000) (hw : ∀ r, r ∈ l → w < r.Worlds.length) : ∃ b, m_slices_ContainsFunc_Runner_Runner_with_field_possible_1 l (w : Int) = some b ∧ (b = true ↔ ¬Poss l w) := by
  unfold m_slices_ContainsFunc_Runner_Runner_with_field_possible_1 m_slices_IndexFunc_Runner_Runner_with_field_possible_1
  rw [fuel_sub]
  obtain ⟨r, h1, h2⟩ := find_loop (N := l.length) (f := fun n i => m_slices_IndexFunc_Runner_Runner_with_field_possible_1_L1 l (w : Int) m_slices_IndexFunc_Runner_Runner_with_field_possible_1_J2 n (i : Int)) (p := fun i => (wl l i w).length = 0) (fun n i hi => by
    show m_slices_IndexFunc_Runner_Runner_with_field_possible_1_L1 l (w : Int) _ (n + 1) (i : Int) = _
    rw [m_slices_IndexFunc_Runner_Runner_with_field_possible_1_L1, dec_lt_nat, decide_eq_true hi, cond_true, idx_lt hi, some_bind, w64_succ (by omega)]
    unfold m_field_possible_1
    rw [wl_get hi (hw _ (List.getElem_mem hi)), some_bind, some_bind, bif_eq]
    by_cases h : (wl l i w).length = 0
    · rw [if_pos h, if_pos (by omega)]
    · rw [if_neg h, if_neg (by omega)]) (fun n => by
    show m_slices_IndexFunc_Runner_Runner_with_field_possible_1_L1 l (w : Int) _ (n + 1) ((l.length : Nat) : Int) = _
    rw [m_slices_IndexFunc_Runner_Runner_with_field_possible_1_L1]
    simp [m_slices_IndexFunc_Runner_Runner_with_field_possible_1_J2])
  refine ⟨decide (r ≥ 0), ?_, ?_⟩
  · have h1 : m_slices_IndexFunc_Runner_Runner_with_field_possible_1_L1 l (w : Int) m_slices_IndexFunc_Runner_Runner_with_field_possible_1_J2 (l.length + 1) 0 = some r := h1
    rw [h1]; rfl
  · rw [decide_eq_true_iff, h2]
    unfold Poss
    simp only [Classical.not_forall, Classical.not_not, exists_prop]

theorem field_possible_eq {f : TField} (hs : Small f) (hr : ∀ r, r ∈ f.Runners → r.Worlds.length = f.Pairs.length + 1) : m_field_possible f = chk (∀ w, w < f.Pairs.length + 1 → ¬Poss f.Runners w) true (some false) := by
  have hsr := hs.runners
  have hsp := hs.pairs
  unfold m_field_possible
  rw [w64_succ (by omega), fuel_sub]
  refine chk_loop (N := f.Pairs.length + 1) (f := fun n w => m_field_possible_L1 f m_field_possible_J2 n (w : Int)) (fun n w hw => ?_) (fun n => ?_)
  · show m_field_possible_L1 f m_field_possible_J2 (n + 1) (w : Int) = _
    obtain ⟨b, h1, h2⟩ := containsF_eq hsr (w := w) (fun r h => by rw [hr r h]; exact hw)
    rw [m_field_possible_L1, w64_succ (by omega), dec_lt_nat, decide_eq_true hw, cond_true, h1, some_bind, w64_succ (by omega)]
    cases b with
    | true => rw [chk_pos (h2.1 rfl)]; rfl
    | false => rw [chk_neg (fun h => by simpa using h2.2 h)]; rfl
  · show m_field_possible_L1 f m_field_possible_J2 (n + 1) ((f.Pairs.length + 1 : Nat) : Int) = _
    rw [m_field_possible_L1, w64_succ (by omega)]
    simp [m_field_possible_J2]

theorem ref24_Possible_eq {f : TField} (hs : Small f) (hr : ∀ r, r ∈ f.Runners → r.Worlds.length = f.Pairs.length + 1) {w : Nat} (hw : w < f.Pairs.length + 1) : m_stopwatchref24_Possible f (w : Int) = chk (Poss f.Runners w) false (some true) := by
  have hsr := hs.runners
  have hsp := hs.pairs
  unfold m_stopwatchref24_Possible
  rw [fuel_sub]
  refine chk_loop (f := fun n i => m_stopwatchref24_Possible_L1 f (w : Int) m_stopwatchref24_Possible_J2 n (i : Int)) (fun n i hi => ?_) (fun n => ?_)
  · show m_stopwatchref24_Possible_L1 f (w : Int) m_stopwatchref24_Possible_J2 (n + 1) (i : Int) = _
    have hwi : w < f.Runners[i].Worlds.length := by rw [hr _ (List.getElem_mem hi)]; exact hw
    rw [m_stopwatchref24_Possible_L1, dec_lt_nat, decide_eq_true hi, cond_true, bif_dec, if_neg (by omega), idx_lt hi, some_bind, bif_dec, if_neg (by omega), some_bind, wl_get hi hwi, some_bind, bif_eq, w64_succ (by omega)]
    by_cases h : (wl f.Runners i w).length = 0
    · rw [if_pos (by omega), chk_neg (fun h' => h' h)]
    · rw [if_neg (by omega), chk_pos h]
  · show m_stopwatchref24_Possible_L1 f (w : Int) m_stopwatchref24_Possible_J2 (n + 1) ((f.Runners.length : Nat) : Int) = _
    rw [m_stopwatchref24_Possible_L1]
    simp [m_stopwatchref24_Possible_J2]

theorem ref24_possible_eq {f : TField} (hs : Small f) (hr : ∀ r, r ∈ f.Runners → r.Worlds.length = f.Pairs.length + 1) : m_stopwatchref24_possible f = chk (∀ w, w < f.Pairs.length + 1 → ¬Poss f.Runners w) true (some false) := by
  have hsr := hs.runners
  have hsp := hs.pairs
  unfold m_stopwatchref24_possible
  rw [fuel_add]
  refine chk_loop (N := f.Pairs.length + 1) (f := fun n w => m_stopwatchref24_possible_L1 f m_stopwatchref24_possible_J2 n (w : Int)) (fun n w hw => ?_) (fun n => ?_)
  · show m_stopwatchref24_possible_L1 f m_stopwatchref24_possible_J2 (n + 1) (w : Int) = _
    rw [m_stopwatchref24_possible_L1, dec_le_nat, decide_eq_true hw, cond_true, ref24_Possible_eq hs hr hw, w64_succ (by omega)]
    by_cases h : Poss f.Runners w
    · rw [chk_pos h, chk_neg (fun h' => h' h)]; rfl
    · rw [chk_neg h, chk_pos h]; rfl
  · show m_stopwatchref24_possible_L1 f m_stopwatchref24_possible_J2 (n + 1) ((f.Pairs.length + 1 : Nat) : Int) = _
    rw [m_stopwatchref24_possible_L1, dec_le_nat]
    simp [m_stopwatchref24_possible_J2]

/-- A field that is valid. -/
structure FieldOK (f : TField) : Prop where
  clocks : ClocksOK f.Clocks
  size : f.Pairs.length ≤ 16 ∧ 1 ≤ f.Runners.length ∧ f.Runners.length ≤ 4000
  pair : ∀ i, i < f.Pairs.length → PairOK f.Pairs i
  runner : ∀ i, i < f.Runners.length → RunnerOK f i
  poss : ¬∀ w, w < f.Pairs.length + 1 → ¬Poss f.Runners w

theorem worlds_of {f : TField} (h : ∀ i, i < f.Runners.length → RunnerOK f i) : ∀ r, r ∈ f.Runners → r.Worlds.length = f.Pairs.length + 1 := by
  intro r hr
  obtain ⟨i, hi, rfl⟩ := List.mem_iff_getElem.1 hr
  exact (h i hi _ (by simp [hi])).1.2.2.2.2

theorem fieldOK_iff (f : TField) : (ClocksOK f.Clocks ∧ f.Pairs.length ≤ 16 ∧ 1 ≤ f.Runners.length ∧ f.Runners.length ≤ 4000) ∧ (∀ i, i < f.Pairs.length → PairOK f.Pairs i) ∧ (∀ i, i < f.Runners.length → RunnerOK f i) ∧ (¬∀ w, w < f.Pairs.length + 1 → ¬Poss f.Runners w) ↔ FieldOK f :=
  ⟨fun ⟨⟨a, b⟩, c, d, e⟩ => ⟨a, b, c, d, e⟩, fun ⟨a, b, c, d, e⟩ => ⟨⟨a, b⟩, c, d, e⟩⟩

theorem field_Check_eq {f : TField} (hs : Small f) : m_field_Check f = chk (FieldOK f) 240 (some 0) := by
  have hsg := hs.seg
  unfold m_field_Check
  refine Eq.trans (bind_chk (p := ClocksOK f.Clocks ∧ f.Pairs.length ≤ 16 ∧ 1 ≤ f.Runners.length ∧ f.Runners.length ≤ 4000) ?_) (Eq.trans (chk_and' (q := (∀ i, i < f.Pairs.length → PairOK f.Pairs i) ∧ (∀ i, i < f.Runners.length → RunnerOK f i) ∧ (¬∀ w, w < f.Pairs.length + 1 → ¬Poss f.Runners w)) fun h => ?_) (chk_congr (fieldOK_iff f) fun _ => rfl))
  · rw [clocks_Check_eq (by omega)]
    by_cases h1 : ClocksOK f.Clocks
    · rw [chk_pos h1, some_bind, bif_dec, bif_dec]
      simp only [bne_self_eq_false, cond_false]
      by_cases h2 : f.Pairs.length ≤ 16
      · rw [if_neg (by omega)]
        by_cases h3 : 1 ≤ f.Runners.length
        · rw [if_neg (by omega)]
          refine ⟨_, rfl, ?_⟩
          rw [decide_eq_true_iff]
          simp only [h1, h2, h3, true_and]
          omega
        · rw [if_pos (by omega)]; exact ⟨true, rfl, by simp [h3]⟩
      · rw [if_pos (by omega)]; exact ⟨true, rfl, by simp [h2]⟩
    · rw [chk_neg h1, some_bind]; exact ⟨true, rfl, by simp [h1]⟩
  · rw [fuel_sub, field_L1 hs.pairs]
    refine chk_and' fun h2 => ?_
    show m_field_Check_L2 f (m_field_Check_J5 f) _ 0 0 = _
    rw [fuel_sub, field_L2 h.1 hs]
    refine chk_and' fun h3 => ?_
    unfold m_field_Check_J5
    rw [field_possible_eq hs (worlds_of h3)]
    by_cases h4 : ∀ w, w < f.Pairs.length + 1 → ¬Poss f.Runners w
    · rw [chk_pos h4, chk_neg (fun h => h h4)]; rfl
    · rw [chk_neg h4, chk_pos h4]; rfl

theorem ref24_Check_eq {f : TField} (hs : Small f) : m_stopwatchref24_Check f = chk (FieldOK f) 240 (some 0) := by
  have hsg := hs.seg
  unfold m_stopwatchref24_Check
  refine Eq.trans (bind_chk (p := ClocksOK f.Clocks ∧ f.Pairs.length ≤ 16 ∧ 1 ≤ f.Runners.length ∧ f.Runners.length ≤ 4000) ?_) (Eq.trans (chk_and' (q := (∀ i, i < f.Pairs.length → PairOK f.Pairs i) ∧ (∀ i, i < f.Runners.length → RunnerOK f i) ∧ (¬∀ w, w < f.Pairs.length + 1 → ¬Poss f.Runners w)) fun h => ?_) (chk_congr (fieldOK_iff f) fun _ => rfl))
  · rw [ref16_Check_eq (by omega)]
    by_cases h1 : ClocksOK f.Clocks
    · rw [chk_pos h1, some_bind, bif_dec, bif_dec]
      simp only [bne_self_eq_false, cond_false]
      by_cases h2 : f.Pairs.length ≤ 16
      · rw [if_neg (by omega)]
        by_cases h3 : 1 ≤ f.Runners.length
        · rw [if_neg (by omega)]
          refine ⟨_, rfl, ?_⟩
          rw [decide_eq_true_iff]
          simp only [h1, h2, h3, true_and]
          omega
        · rw [if_pos (by omega)]; exact ⟨true, rfl, by simp [h3]⟩
      · rw [if_pos (by omega)]; exact ⟨true, rfl, by simp [h2]⟩
    · rw [chk_neg h1, some_bind]; exact ⟨true, rfl, by simp [h1]⟩
  · rw [fuel_sub, ref24_L1 hs.pairs]
    refine chk_and' fun h2 => ?_
    show m_stopwatchref24_Check_L2 f (m_stopwatchref24_Check_J7 f) _ 0 = _
    rw [fuel_sub, ref24_L2 h.1 hs]
    refine chk_and' fun h3 => ?_
    unfold m_stopwatchref24_Check_J7
    rw [ref24_possible_eq hs (worlds_of h3)]
    by_cases h4 : ∀ w, w < f.Pairs.length + 1 → ¬Poss f.Runners w
    · rw [chk_pos h4, chk_neg (fun h => h h4)]; rfl
    · rw [chk_neg h4, chk_pos h4]; rfl

end Go.Stop
