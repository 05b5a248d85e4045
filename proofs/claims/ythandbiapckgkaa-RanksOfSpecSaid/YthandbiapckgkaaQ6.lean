/- Plain laws: RanksOfSpec. No condition. -/
import Derived.Test.YthandbiapckgkaaQ5
namespace Go.Stop
open Go Go.Abs

theorem of_out {f : TField} (hs : Small f) (hf : FieldOK f) {r : Nat} (hr : r < nrun f) :
    ∃ o, foldO (m_ranks_of_R1 f (r : Int)) (listP (Poss f.Runners) 0 (npair f + 1)) false = some o ∧ IsOut (Occ f r) o := by
  obtain ⟨o, h1, h2⟩ := worlds_inv (N := npair f + 1) (p := Poss f.Runners) (G := m_ranks_of_R1 f (r : Int)) (I := fun w o => IsOut (Vis f r w 0) o) (s0 := false) (fun w o hw hp hI => by
    have hlen := wl_len hs hf hr hw
    refine ⟨o || (wl f.Runners r w).any (·.Out), ?_, ?_⟩
    · unfold m_ranks_of_R1
      dsimp only
      rw [idx_lt hr, some_bind, (wl_mem hf hr hw).2, some_bind, containsO_eq (by omega)]
      cases o <;> rfl
    · unfold IsOut at hI ⊢
      rw [Bool.or_eq_true, hI, List.any_eq_true]
      constructor
      · rintro (⟨w', i', x', h1, h2⟩ | ⟨x, h1, h2⟩)
        · exact ⟨w', i', x', ⟨by have := h1.1; omega, h1.2⟩, h2⟩
        · obtain ⟨i, hi, rfl⟩ := List.mem_iff_getElem.1 h1
          exact ⟨w, i, _, ⟨by omega, hw, hp, by simp [hi]⟩, h2⟩
      · rintro ⟨w', i', x', ⟨h1, h2⟩, h3⟩
        by_cases e : w' = w
        · subst e; exact .inr ⟨x', List.mem_of_getElem? h2.2.2, h3⟩
        · exact .inl ⟨w', i', x', ⟨by omega, h2⟩, h3⟩) (fun w o hw hp hI => by
    have h : Same (Vis f r w 0) (Vis f r (w + 1) 0) := fun a b c => (Vis.skip hp a b c).symm
    exact h.out hI) ⟨fun h => (by cases h), fun ⟨w, i, x, h, _⟩ => absurd h (Vis.zero w i x)⟩
  have h : Same (Vis f r (npair f + 1) 0) (Occ f r) := fun a b c => Vis.all a b c
  exact ⟨o, h1, h.out h2⟩

theorem of_eq {f : TField} (hs : Small f) (hf : FieldOK f) {r : Nat} (hr : r < nrun f) :
    ∃ x, m_ranks_of f (r : Int) = some x ∧ IsRank f r x := by
  obtain ⟨o, h1, h2⟩ := of_out hs hf hr
  obtain ⟨⟨a, b, rk, ok⟩, h3, h4⟩ := drive_best_eq hs hf hr
  obtain ⟨⟨a', b', rk', ok'⟩, h5, h6⟩ := drive_worst_eq hs hf hr
  have hw := worlds_eq hs hf
  unfold m_ranks_of m_ranks_worlds m_ranks_best m_ranks_worst
  rw [idx_lt hr]
  simp only [some_bind, hw]
  rw [show foldO (m_ranks_of_R1 f (r : Int)) (listP (Poss f.Runners) 0 (f.Pairs.length + 1)) false = some o from h1, some_bind, h3]
  simp only [some_bind]
  have hbib : f.Runners[r]?.map (·.Bib) = some f.Runners[r].Bib := by
    have : r < f.Runners.length := hr
    simp [this]
  rcases h4 with ⟨g1, g2⟩ | ⟨g1, ⟨w, i, x, g2, g3, g4, g5, g6⟩, g7⟩
  · dsimp only at g1
    subst g1
    rw [Bool.not_false, cond_true]
    exact ⟨_, rfl, hbib, .inl ⟨rfl, g2⟩, .inl ⟨rfl, g2⟩, h2, by simp⟩
  · dsimp only at g1 g4 g5 g6 g7
    subst g1
    rw [Bool.not_true, cond_false, h5]
    simp only [some_bind]
    have hlo : IsLo (NB f r) (Occ f r) rk := .inr ⟨⟨w, i, x, g2, g3, g6⟩, g7⟩
    have hhi : IsHi (NW f r) (Occ f r) rk' := by
      rcases h6 with ⟨k1, k2⟩ | ⟨k1, ⟨w', i', x', k2, k3, k4, k5, k6⟩, k7⟩
      · rw [k2 _ _ _ g2] at g3; cases g3
      · exact .inr ⟨⟨w', i', x', k2, k3, k6⟩, k7⟩
    have hz : rk ≠ 0 := by have := NB_pos f r w x; omega
    rw [bif_eq]
    by_cases e : rk = rk'
    · rw [if_pos e]
      cases o with
      | false => exact ⟨_, rfl, hbib, hlo, hhi, h2, by simp [hz, e]; intro h; omega⟩
      | true => exact ⟨_, rfl, hbib, hlo, hhi, h2, by simp [hz]⟩
    · rw [if_neg e]; exact ⟨_, rfl, hbib, hlo, hhi, h2, by simp [hz, e]⟩

theorem Of_ok {f : TField} (hs : Small f) (hf : FieldOK f) {r : Nat} (hr : r < nrun f) :
    ∃ x, m_ranks_Of f (r : Int) = some (x, 0) ∧ m_stopwatchref25_Of f (r : Int) = some (x, 0) ∧ m_ranks_of f (r : Int) = some x ∧ IsRank f r x := by
  obtain ⟨x, h1, h2⟩ := of_eq hs hf hr
  obtain ⟨y, h3, h4⟩ := ref_Of_eq hs hf hr
  have := h2.uniq h4
  subst this
  refine ⟨x, ?_, h3, h1, h2⟩
  unfold m_ranks_Of
  rw [ranks_check_eq hs (by simp), chk_pos hf, chk_pos (by simpa using inR_of hr), some_bind, h1]
  rfl

theorem Of_both {f : TField} (hs : Small f) (a : Int) : ∃ x, m_ranks_Of f a = some x ∧ m_stopwatchref25_Of f a = some x := by
  by_cases h : FieldOK f ∧ InR f a
  · obtain ⟨i, rfl, hi⟩ := inR_nat h.2
    obtain ⟨x, h1, h2, _⟩ := Of_ok hs h.1 hi
    exact ⟨_, h1, h2⟩
  · obtain ⟨e, _, h1, h2, _⟩ := ref_Of_err hs a h
    exact ⟨_, h2, h1⟩

/-- The ranks of all runners. -/
def IsRanks (f : TField) (l : List TRank) : Prop := l.length = nrun f ∧ ∀ i x, l[i]? = some x → IsRank f i x

theorem IsRanks.uniq {f : TField} {l m : List TRank} (hl : IsRanks f l) (hm : IsRanks f m) : l = m := by
  obtain ⟨h1, h2⟩ := hl
  obtain ⟨h3, h4⟩ := hm
  refine List.ext_getElem (by omega) fun i hi hj => ?_
  exact (h2 i _ (by simp [hi])).uniq (h4 i _ (by simp [hj]))

theorem IsRanks.snoc {f : TField} {i : Nat} {l : List TRank} {x : TRank} (h : l.length = i ∧ ∀ j x, l[j]? = some x → IsRank f j x) (hx : IsRank f i x) : (l ++ [x]).length = i + 1 ∧ ∀ j y, (l ++ [x])[j]? = some y → IsRank f j y := by
  obtain ⟨h1, h2⟩ := h
  refine ⟨by simp [h1], fun j y hj => ?_⟩
  by_cases e : j < l.length
  · rw [List.getElem?_append_left e] at hj; exact h2 j y hj
  · rw [List.getElem?_append_right (by omega)] at hj
    have : j - l.length = 0 := by
      have := (List.getElem?_eq_some_iff.1 hj).1
      simp at this; omega
    rw [this] at hj
    simp at hj
    subst hj
    have : j = i := by omega
    exact this ▸ hx

theorem All_eq {f : TField} (hs : Small f) : (FieldOK f ∧ ∃ l, m_ranks_All f = some (l, 0) ∧ m_stopwatchref25_All f = some (l, 0) ∧ IsRanks f l) ∨ (¬FieldOK f ∧ m_ranks_All f = some ([], 240) ∧ m_stopwatchref25_All f = some ([], 240)) := by
  have hlen : nrun f ≤ 1000000 := hs.runners
  unfold m_ranks_All m_stopwatchref25_All
  rw [ranks_check_eq hs (by simp), ref24_Check_eq hs]
  by_cases hf : FieldOK f
  · refine .inl ⟨hf, ?_⟩
    rw [chk_pos hf, chk_pos hf, chk_pos (by simp), fuel_sub]
    simp only [some_bind, bne_self_eq_false, cond_false]
    obtain ⟨l, h1, h2⟩ := inv_loop (N := nrun f) (f := fun n i l => m_ranks_All_L1 f n (i : Int) l) (k := some) (I := fun i l => l.length = i ∧ ∀ j x, l[j]? = some x → IsRank f j x) (s0 := []) (fun i l hi hI => by
      obtain ⟨x, _, _, g1, g2⟩ := Of_ok hs hf hi
      refine ⟨l ++ [x], IsRanks.snoc hI g2, fun n => ?_⟩
      have e1 := hI.1
      show m_ranks_All_L1 f (n + 1) (i : Int) l = _
      rw [m_ranks_All_L1, dec_lt_nat, decide_eq_true hi, cond_true, g1, some_bind, app_ok (by simp; omega) (by simp; omega), some_bind, w64_succ (by omega)]) (fun n l => by
      show m_ranks_All_L1 f (n + 1) ((nrun f : Nat) : Int) l = _
      rw [m_ranks_All_L1]; simp) ⟨rfl, fun j x h => by simp at h⟩
    obtain ⟨m, h3, h4⟩ := inv_loop (N := nrun f) (f := fun n i l => m_stopwatchref25_All_L1 f n (i : Int) l) (k := some) (I := fun i l => l.length = i ∧ ∀ j x, l[j]? = some x → IsRank f j x) (s0 := []) (fun i l hi hI => by
      obtain ⟨x, _, g1, _, g2⟩ := Of_ok hs hf hi
      refine ⟨l ++ [x], IsRanks.snoc hI g2, fun n => ?_⟩
      have e1 := hI.1
      show m_stopwatchref25_All_L1 f (n + 1) (i : Int) l = _
      rw [m_stopwatchref25_All_L1, dec_lt_nat, decide_eq_true hi, cond_true, g1]
      simp only [some_bind]
      rw [app_ok (by simp; omega) (by simp; omega), some_bind, w64_succ (by omega)]) (fun n l => by
      show m_stopwatchref25_All_L1 f (n + 1) ((nrun f : Nat) : Int) l = _
      rw [m_stopwatchref25_All_L1]; simp) ⟨rfl, fun j x h => by simp at h⟩
    have e : l = m := IsRanks.uniq h2 h4
    subst e
    replace h1 : m_ranks_All_L1 f (f.Runners.length + 1) 0 [] = some l := h1
    replace h3 : m_stopwatchref25_All_L1 f (f.Runners.length + 1) 0 [] = some l := h3
    rw [h1, h3]
    exact ⟨l, rfl, rfl, h2⟩
  · refine .inr ⟨hf, ?_⟩
    rw [chk_neg hf, chk_neg hf]
    exact ⟨rfl, rfl⟩

theorem SameRanks_self {l : List TRank} (h : l.length ≤ 9223372036854775807) : m_stopwatchref25_SameRanks l l = some true := by
  unfold m_stopwatchref25_SameRanks
  simp only [bne_self_eq_false, cond_false]
  rw [fuel_sub]
  refine (chk_loop (N := l.length) (r := false) (k := some true) (ok := fun _ => True) (f := fun n i => m_stopwatchref25_SameRanks_L1 l l m_stopwatchref25_SameRanks_J2 n (i : Int)) (fun n i hi => ?_) (fun n => ?_)).trans (chk_pos fun _ _ => trivial)
  · show m_stopwatchref25_SameRanks_L1 l l _ (n + 1) (i : Int) = _
    rw [m_stopwatchref25_SameRanks_L1, dec_lt_nat, decide_eq_true hi, cond_true, idx_lt hi, some_bind, some_bind, w64_succ (by omega), chk_pos trivial]
    simp
  · show m_stopwatchref25_SameRanks_L1 l l _ (n + 1) ((l.length : Nat) : Int) = _
    rw [m_stopwatchref25_SameRanks_L1]; simp [m_stopwatchref25_SameRanks_J2]

theorem RanksOfSpec_true (y0 : TField) (y1 : Int) (w0 : wTField y0) (_w1 : wI y1) : m_stopwatchlaw25_RanksOfSpec y0 y1 = some true := by
  unfold m_stopwatchlaw25_RanksOfSpec
  rw [sane_true, some_bind]
  obtain ⟨b, h1, h2⟩ := few_eq w0
  rw [h1]
  cases b with
  | false => rfl
  | true =>
    have hs := (h2.1 rfl).small
    have step : ∀ (n : Nat) (i : Int) (y : Int), decide (i < 2) = true → idx (([y1, (bitK .i64 (BitVec.ofInt 64 y1 &&& BitVec.ofInt 64 3))] : List Int)) i = some y → m_stopwatchlaw25_RanksOfSpec_L1 y0 y1 (m_stopwatchlaw25_RanksOfSpec_J2 y0) (n + 1) i = m_stopwatchlaw25_RanksOfSpec_L1 y0 y1 (m_stopwatchlaw25_RanksOfSpec_J2 y0) n (w64 (i + 1)) := by
      intro n i y hi hy
      obtain ⟨⟨x, e⟩, g1, g2⟩ := Of_both hs y
      rw [m_stopwatchlaw25_RanksOfSpec_L1, hi, cond_true, hy, some_bind, g1, g2]
      simp
    have hJ : m_stopwatchlaw25_RanksOfSpec_J2 y0 () = some true := by
      unfold m_stopwatchlaw25_RanksOfSpec_J2
      rcases All_eq hs with ⟨hf, l, g1, g2, g3⟩ | ⟨hf, g1, g2⟩
      · have hlen : nrun y0 ≤ 1000000 := hs.runners
        have := g3.1
        rw [g1, g2]
        simp only [some_bind]
        rw [SameRanks_self (by omega)]
        rfl
      · rw [g1, g2]
        simp only [some_bind]
        rw [SameRanks_self (by simp)]
        rfl
    show m_stopwatchlaw25_RanksOfSpec_L1 y0 y1 (m_stopwatchlaw25_RanksOfSpec_J2 y0) 3 0 = some true
    rw [step 2 0 y1 (by decide) rfl, step 1 _ _ (by decide) rfl]
    exact hJ

end Go.Stop
