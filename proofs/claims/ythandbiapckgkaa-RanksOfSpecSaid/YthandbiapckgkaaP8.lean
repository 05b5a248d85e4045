/- Plain laws: the law on who is ahead. No condition. -/
import Derived.Test.YthandbiapckgkaaP7
import Derived.KernelRfl
namespace Go.Stop
open Go Go.Abs

theorem sane_true : m_stopwatchlaw25_sane = some true := by kernel_rfl

theorem containsW_eq {l : List TRunner} {w : Nat} (hl : l.length ≤ 1000000) (hw : ∀ r, r ∈ l → w < r.Worlds.length) : ∃ b, m_slices_ContainsFunc_Runner_Runner_with_ranks_worlds_1_1 l (w : Int) = some b ∧ (b = true ↔ ¬Poss l w) := by
  unfold m_slices_ContainsFunc_Runner_Runner_with_ranks_worlds_1_1 m_slices_IndexFunc_Runner_Runner_with_ranks_worlds_1_1
  rw [fuel_sub]
  obtain ⟨r, h1, h2⟩ := find_loop (N := l.length) (f := fun n i => m_slices_IndexFunc_Runner_Runner_with_ranks_worlds_1_1_L1 l (w : Int) m_slices_IndexFunc_Runner_Runner_with_ranks_worlds_1_1_J2 n (i : Int)) (p := fun i => (wl l i w).length = 0) (fun n i hi => by
    show m_slices_IndexFunc_Runner_Runner_with_ranks_worlds_1_1_L1 l (w : Int) _ (n + 1) (i : Int) = _
    rw [m_slices_IndexFunc_Runner_Runner_with_ranks_worlds_1_1_L1, dec_lt_nat, decide_eq_true hi, cond_true, idx_lt hi, some_bind, w64_succ (by omega)]
    unfold m_ranks_worlds_1_1
    rw [wl_get hi (hw _ (List.getElem_mem hi)), some_bind, some_bind, bif_eq]
    by_cases h : (wl l i w).length = 0
    · rw [if_pos h, if_pos (by omega)]
    · rw [if_neg h, if_neg (by omega)]) (fun n => by
    show m_slices_IndexFunc_Runner_Runner_with_ranks_worlds_1_1_L1 l (w : Int) _ (n + 1) ((l.length : Nat) : Int) = _
    rw [m_slices_IndexFunc_Runner_Runner_with_ranks_worlds_1_1_L1]
    simp [m_slices_IndexFunc_Runner_Runner_with_ranks_worlds_1_1_J2])
  refine ⟨decide (r ≥ 0), ?_, ?_⟩
  · have h1 : m_slices_IndexFunc_Runner_Runner_with_ranks_worlds_1_1_L1 l (w : Int) m_slices_IndexFunc_Runner_Runner_with_ranks_worlds_1_1_J2 (l.length + 1) 0 = some r := h1
    rw [h1]; rfl
  · rw [decide_eq_true_iff, h2]
    unfold Poss
    simp only [Classical.not_forall, Classical.not_not, exists_prop]

theorem worlds_eq {f : TField} (hs : Small f) (hf : FieldOK f) : m_ranks_worlds_1 f.Clocks.Segments f.Clocks.Far f.Pairs f.Runners = some (listP (Poss f.Runners) 0 (f.Pairs.length + 1)) := by
  have hsr := hs.runners
  have hsp := hs.pairs
  unfold m_ranks_worlds_1
  rw [w64_succ (by omega), fuel_sub]
  refine it_loop (N := f.Pairs.length + 1) (f := fun n w => m_ranks_worlds_1_L1 f.Pairs f.Runners m_ranks_worlds_1_J2 n (w : Int)) (fun n w hw => ?_) (fun n => ?_)
  · show m_ranks_worlds_1_L1 f.Pairs f.Runners m_ranks_worlds_1_J2 (n + 1) (w : Int) = _
    obtain ⟨b, h1, h2⟩ := containsW_eq hsr (w := w) (fun r h => by rw [worlds_of hf.runner r h]; exact hw)
    rw [m_ranks_worlds_1_L1, w64_succ (by omega), dec_lt_nat, decide_eq_true hw, cond_true, h1, some_bind, w64_succ (by omega)]
    cases b with
    | true => rw [if_neg (h2.1 rfl)]; rfl
    | false => rw [if_pos (Classical.byContradiction fun h => by simpa using h2.2 h)]; rfl
  · show m_ranks_worlds_1_L1 f.Pairs f.Runners m_ranks_worlds_1_J2 (n + 1) ((f.Pairs.length + 1 : Nat) : Int) = _
    rw [m_ranks_worlds_1_L1, w64_succ (by omega)]
    simp [m_ranks_worlds_1_J2]

theorem ref25_Possible_eq {f : TField} (hs : Small f) (hf : FieldOK f) {w : Nat} (hw : w < f.Pairs.length + 1) : m_stopwatchref25_Possible f (w : Int) = chk (Poss f.Runners w) false (some true) := by
  have hsr := hs.runners
  have hsp := hs.pairs
  unfold m_stopwatchref25_Possible
  rw [fuel_sub, bif_dec, if_neg (by omega), bif_dec, if_neg (by omega)]
  refine chk_loop (f := fun n i => m_stopwatchref25_Possible_L1 f (w : Int) m_stopwatchref25_Possible_J2 n (i : Int)) (fun n i hi => ?_) (fun n => ?_)
  · show m_stopwatchref25_Possible_L1 f (w : Int) m_stopwatchref25_Possible_J2 (n + 1) (i : Int) = _
    have hwi : w < f.Runners[i].Worlds.length := by rw [worlds_of hf.runner _ (List.getElem_mem hi)]; exact hw
    rw [m_stopwatchref25_Possible_L1, dec_lt_nat, decide_eq_true hi, cond_true, idx_lt hi, some_bind, bif_dec, if_neg (by omega), some_bind, wl_get hi hwi, some_bind, bif_eq, w64_succ (by omega)]
    by_cases h : (wl f.Runners i w).length = 0
    · rw [if_pos (by omega), chk_neg (fun h' => h' h)]
    · rw [if_neg (by omega), chk_pos h]
  · show m_stopwatchref25_Possible_L1 f (w : Int) m_stopwatchref25_Possible_J2 (n + 1) ((f.Runners.length : Nat) : Int) = _
    rw [m_stopwatchref25_Possible_L1]
    simp [m_stopwatchref25_Possible_J2]

theorem ahead_main {f : TField} (hs : Small f) (hf : FieldOK f) {a b : Nat} (ha : a < f.Runners.length) (hb : b < f.Runners.length) : ∃ s : Bool × Bool, foldO (m_ranks_Ahead_R1 f (a : Int) (b : Int)) (listP (Poss f.Runners) 0 (f.Pairs.length + 1)) (true, false) = some s ∧ m_stopwatchref25_Ahead_L1 f (a : Int) (b : Int) (f.Pairs.length + 1 + 1) true false 0 = some s := by
  have hsp := hs.pairs
  obtain ⟨s, h1, h2, _⟩ := worlds_run (N := f.Pairs.length + 1) (p := Poss f.Runners) (G := m_ranks_Ahead_R1 f (a : Int) (b : Int)) (g := fun n w s => m_stopwatchref25_Ahead_L1 f (a : Int) (b : Int) n s.1 s.2 (w : Int)) (I := fun _ _ => True) (s0 := (true, false)) (fun w s hw hp _ => by
    obtain ⟨s', h1, h2⟩ := ahead_L2 hs hf ha hb hw s
    refine ⟨s', trivial, ?_, fun n => ?_⟩
    · obtain ⟨c, p⟩ := s
      show (idx f.Runners (a : Int)).bind _ = _
      rw [idx_lt ha, some_bind, (wl_mem hf ha hw).2, some_bind, fuel_sub, h1]
      rfl
    · show m_stopwatchref25_Ahead_L1 f (a : Int) (b : Int) (n + 1) s.1 s.2 (w : Int) = m_stopwatchref25_Ahead_L1 f (a : Int) (b : Int) n s'.1 s'.2 ((w + 1 : Nat) : Int)
      rw [m_stopwatchref25_Ahead_L1, dec_le_nat, decide_eq_true hw, cond_true, ref25_Possible_eq hs hf hw, chk_pos hp, some_bind, Bool.not_true, cond_false, idx_lt ha, some_bind, (wl_mem hf ha hw).2, some_bind, idx_lt hb, some_bind, (wl_mem hf hb hw).2, some_bind, fuel_sub, h2, some_bind, w64_succ (by omega)]) (fun w s hw hp _ => ⟨trivial, fun n => by
    show m_stopwatchref25_Ahead_L1 f (a : Int) (b : Int) (n + 1) s.1 s.2 (w : Int) = m_stopwatchref25_Ahead_L1 f (a : Int) (b : Int) n s.1 s.2 ((w + 1 : Nat) : Int)
    rw [m_stopwatchref25_Ahead_L1, dec_le_nat, decide_eq_true hw, cond_true, ref25_Possible_eq hs hf hw, chk_neg hp, some_bind, Bool.not_false, cond_true, w64_succ (by omega)]⟩) (fun n s => by
    show m_stopwatchref25_Ahead_L1 f (a : Int) (b : Int) (n + 1) s.1 s.2 ((f.Pairs.length + 1 : Nat) : Int) = _
    rw [m_stopwatchref25_Ahead_L1, dec_le_nat]; simp) trivial
  exact ⟨s, h1, h2⟩

theorem Ahead_eq {f : TField} (hs : Small f) (a b : Int) : ∃ r, m_ranks_Ahead f a b = some r ∧ m_stopwatchref25_Ahead f a b = some r := by
  unfold m_ranks_Ahead m_stopwatchref25_Ahead
  rw [ranks_check_eq hs (by simp), ref25_check_eq hs, ref25_check_eq hs]
  by_cases hf : FieldOK f
  · simp only [chk_pos hf]
    by_cases ha : InR f a
    · by_cases hb : InR f b
      · rw [chk_pos (by simp [ha, hb]), chk_pos ha, chk_pos hb]
        simp only [some_bind, bne_self_eq_false, cond_false, beq_self_eq_true, cond_true]
        by_cases hab : a = b
        · exact ⟨(false, false, 0), by rw [bif_eq, if_pos hab], by rw [bif_eq, if_pos hab]⟩
        · obtain ⟨ia, rfl, hia⟩ := inR_nat ha
          obtain ⟨ib, rfl, hib⟩ := inR_nat hb
          obtain ⟨s, h1, h2⟩ := ahead_main hs hf hia hib
          rw [bif_eq, if_neg hab, bif_eq, if_neg hab, fuel_add, h2]
          unfold m_ranks_worlds
          rw [some_bind, worlds_eq hs hf, some_bind, h1]
          exact ⟨_, rfl, rfl⟩
      · rw [chk_neg (by simp [ha, hb]), chk_pos ha, chk_neg hb]
        exact ⟨_, rfl, rfl⟩
    · rw [chk_neg (by simp [ha]), chk_neg ha]
      exact ⟨_, rfl, rfl⟩
  · simp only [chk_neg hf]
    exact ⟨_, rfl, rfl⟩

end Go.Stop
