/- Plain laws: Of of the program. No condition. -/
import Derived.Test.YthandbiapckgkaaQ4
namespace Go.Stop
open Go Go.Abs

theorem drive_best_count {f : TField} (hs : Small f) (hf : FieldOK f) {r w : Nat} (hr : r < nrun f) (hw : w < npair f + 1) (hp : Poss f.Runners w) {x : TOutcome} (hx : OutOK f.Clocks x) (hxo : x.Out = false) :
    m_ranks_direction_drive_with_ranks_best_2_L3 f (r : Int) (w : Int) x (nrun f + 1) 1 0 = some (NB f r w x) := by
  have hlen : nrun f ≤ 1000000 := hs.runners
  have h := count_loop (N := nrun f) (f := fun n i c => m_ranks_direction_drive_with_ranks_best_2_L3 f (r : Int) (w : Int) x n c (i : Int)) (p := sureK f w r x) (k := some) (c0 := 1) (fun n i c hi h1 h2 => by
    show m_ranks_direction_drive_with_ranks_best_2_L3 f (r : Int) (w : Int) x (n + 1) c (i : Int) = _
    rw [m_ranks_direction_drive_with_ranks_best_2_L3, dec_lt_nat, decide_eq_true hi, cond_true, bif_eq, w64_succ (by omega)]
    by_cases e : i = r
    · have e1 : sureK f w r x i = false := by unfold sureK; simp [e]
      rw [if_pos (by omega), e1]; rfl
    · obtain ⟨j, y, _, h3, _⟩ := choose_best_eq hs hf hr hi hw (hp i hi) hx hxo
      have e1 : sureK f w r x i = (wl f.Runners i w).all (forced f r x i) := by unfold sureK; simp [e]
      rw [if_neg (by omega), h3, some_bind, e1, w64_of (n := c + 1) (by omega) (by omega)]
      cases (wl f.Runners i w).all (forced f r x i) <;> rfl) (fun n c => by
    show m_ranks_direction_drive_with_ranks_best_2_L3 f (r : Int) (w : Int) x (n + 1) c ((nrun f : Nat) : Int) = _
    rw [m_ranks_direction_drive_with_ranks_best_2_L3]; simp)
  refine Eq.trans h ?_
  unfold NB nBest
  congr 1

theorem drive_worst_count {f : TField} (hs : Small f) (hf : FieldOK f) {r w : Nat} (hr : r < nrun f) (hw : w < npair f + 1) (hp : Poss f.Runners w) {x : TOutcome} (hx : OutOK f.Clocks x) (hxo : x.Out = false) :
    m_ranks_direction_drive_with_ranks_worst_2_L3 f (r : Int) (w : Int) x (nrun f + 1) 1 0 = some (NW f r w x) := by
  have hlen : nrun f ≤ 1000000 := hs.runners
  have h := count_loop (N := nrun f) (f := fun n i c => m_ranks_direction_drive_with_ranks_worst_2_L3 f (r : Int) (w : Int) x n c (i : Int)) (p := mayK f w r x) (k := some) (c0 := 1) (fun n i c hi h1 h2 => by
    show m_ranks_direction_drive_with_ranks_worst_2_L3 f (r : Int) (w : Int) x (n + 1) c (i : Int) = _
    rw [m_ranks_direction_drive_with_ranks_worst_2_L3, dec_lt_nat, decide_eq_true hi, cond_true, bif_eq, w64_succ (by omega)]
    by_cases e : i = r
    · have e1 : mayK f w r x i = false := by unfold mayK; simp [e]
      rw [if_pos (by omega), e1]; rfl
    · obtain ⟨j, y, _, h3, _⟩ := choose_worst_eq hs hf hr hi hw (hp i hi) hx hxo
      have e1 : mayK f w r x i = (wl f.Runners i w).any (can f r x i) := by unfold mayK; simp [e]
      rw [if_neg (by omega), h3, some_bind, e1, w64_of (n := c + 1) (by omega) (by omega)]
      cases (wl f.Runners i w).any (can f r x i) <;> rfl) (fun n c => by
    show m_ranks_direction_drive_with_ranks_worst_2_L3 f (r : Int) (w : Int) x (n + 1) c ((nrun f : Nat) : Int) = _
    rw [m_ranks_direction_drive_with_ranks_worst_2_L3]; simp)
  refine Eq.trans h ?_
  unfold NW nWorst
  congr 1

/-- Where a drive stands: nowhere yet, or at the place of its best rank. -/
def DrB (f : TField) (r : Nat) (V : Occs) (t : Int × Int × Int × Bool) : Prop :=
  (t.2.2.2 = false ∧ ∀ w i x, V w i x → x.Out = true) ∨ (t.2.2.2 = true ∧ (∃ w i x, V w i x ∧ x.Out = false ∧ t.1 = (w : Int) ∧ t.2.1 = (i : Int) ∧ t.2.2.1 = NB f r w x) ∧ ∀ w i x, V w i x → x.Out = false → t.2.2.1 ≤ NB f r w x)
def DrW (f : TField) (r : Nat) (V : Occs) (t : Int × Int × Int × Bool) : Prop :=
  (t.2.2.2 = false ∧ ∀ w i x, V w i x → x.Out = true) ∨ (t.2.2.2 = true ∧ (∃ w i x, V w i x ∧ x.Out = false ∧ t.1 = (w : Int) ∧ t.2.1 = (i : Int) ∧ t.2.2.1 = NW f r w x) ∧ ∀ w i x, V w i x → x.Out = false → NW f r w x ≤ t.2.2.1)

theorem DrB.same {f : TField} {r : Nat} {V V' : Occs} (h : Same V V') {t : Int × Int × Int × Bool} (ht : DrB f r V t) : DrB f r V' t := by
  rcases ht with ⟨h1, h2⟩ | ⟨h1, ⟨w, i, x, h2, h3⟩, h4⟩
  · exact .inl ⟨h1, fun w i x hv => h2 w i x ((h w i x).2 hv)⟩
  · exact .inr ⟨h1, ⟨w, i, x, (h w i x).1 h2, h3⟩, fun w i x hv => h4 w i x ((h w i x).2 hv)⟩
theorem DrW.same {f : TField} {r : Nat} {V V' : Occs} (h : Same V V') {t : Int × Int × Int × Bool} (ht : DrW f r V t) : DrW f r V' t := by
  rcases ht with ⟨h1, h2⟩ | ⟨h1, ⟨w, i, x, h2, h3⟩, h4⟩
  · exact .inl ⟨h1, fun w i x hv => h2 w i x ((h w i x).2 hv)⟩
  · exact .inr ⟨h1, ⟨w, i, x, (h w i x).1 h2, h3⟩, fun w i x hv => h4 w i x ((h w i x).2 hv)⟩
theorem DrB.skip {f : TField} {r : Nat} {V V' : Occs} {w i : Nat} {x : TOutcome} (h : Ext1 V V' w i x) (hx : x.Out = true) {t : Int × Int × Int × Bool} (ht : DrB f r V t) : DrB f r V' t := by
  rcases ht with ⟨h1, h2⟩ | ⟨h1, ⟨w1, i1, x1, h2, h3⟩, h4⟩
  · refine .inl ⟨h1, fun w' i' x' hv => ?_⟩
    rcases (h w' i' x').1 hv with hv | ⟨rfl, rfl, rfl⟩
    · exact h2 _ _ _ hv
    · exact hx
  · refine .inr ⟨h1, ⟨w1, i1, x1, (h _ _ _).2 (.inl h2), h3⟩, fun w' i' x' hv hxo => ?_⟩
    rcases (h w' i' x').1 hv with hv | ⟨rfl, rfl, rfl⟩
    · exact h4 _ _ _ hv hxo
    · rw [hx] at hxo; cases hxo
theorem DrW.skip {f : TField} {r : Nat} {V V' : Occs} {w i : Nat} {x : TOutcome} (h : Ext1 V V' w i x) (hx : x.Out = true) {t : Int × Int × Int × Bool} (ht : DrW f r V t) : DrW f r V' t := by
  rcases ht with ⟨h1, h2⟩ | ⟨h1, ⟨w1, i1, x1, h2, h3⟩, h4⟩
  · refine .inl ⟨h1, fun w' i' x' hv => ?_⟩
    rcases (h w' i' x').1 hv with hv | ⟨rfl, rfl, rfl⟩
    · exact h2 _ _ _ hv
    · exact hx
  · refine .inr ⟨h1, ⟨w1, i1, x1, (h _ _ _).2 (.inl h2), h3⟩, fun w' i' x' hv hxo => ?_⟩
    rcases (h w' i' x').1 hv with hv | ⟨rfl, rfl, rfl⟩
    · exact h4 _ _ _ hv hxo
    · rw [hx] at hxo; cases hxo
theorem DrB.step {f : TField} {r : Nat} {V V' : Occs} {w i : Nat} {x : TOutcome} (h : Ext1 V V' w i x) (hx : x.Out = false) {a b rk : Int} {ok : Bool} (ht : DrB f r V (a, b, rk, ok)) : DrB f r V' (if (!ok || decide (NB f r w x < rk)) = true then ((w : Int), (i : Int), NB f r w x, true) else (a, b, rk, ok)) := by
  by_cases hc : (!ok || decide (NB f r w x < rk)) = true
  · rw [if_pos hc]
    refine .inr ⟨rfl, ⟨w, i, x, (h _ _ _).2 (.inr ⟨rfl, rfl, rfl⟩), hx, rfl, rfl, rfl⟩, fun w' i' x' hv hxo => ?_⟩
    rcases (h w' i' x').1 hv with hv | ⟨rfl, rfl, rfl⟩
    · rcases ht with ⟨h1, h2⟩ | ⟨h1, _, h4⟩
      · rw [h2 _ _ _ hv] at hxo; cases hxo
      · have := h4 _ _ _ hv hxo
        dsimp only at h1 this ⊢
        subst h1
        simp at hc
        omega
    · exact Int.le_refl _
  · rw [if_neg hc]
    rcases ht with ⟨h1, h2⟩ | ⟨h1, ⟨w1, i1, x1, h2, h3⟩, h4⟩
    · dsimp only at h1; subst h1; simp at hc
    · refine .inr ⟨h1, ⟨w1, i1, x1, (h _ _ _).2 (.inl h2), h3⟩, fun w' i' x' hv hxo => ?_⟩
      rcases (h w' i' x').1 hv with hv | ⟨rfl, rfl, rfl⟩
      · exact h4 _ _ _ hv hxo
      · dsimp only at h1 ⊢; subst h1; simp at hc; exact hc
theorem DrW.step {f : TField} {r : Nat} {V V' : Occs} {w i : Nat} {x : TOutcome} (h : Ext1 V V' w i x) (hx : x.Out = false) {a b rk : Int} {ok : Bool} (ht : DrW f r V (a, b, rk, ok)) : DrW f r V' (if (!ok || decide (NW f r w x > rk)) = true then ((w : Int), (i : Int), NW f r w x, true) else (a, b, rk, ok)) := by
  by_cases hc : (!ok || decide (NW f r w x > rk)) = true
  · rw [if_pos hc]
    refine .inr ⟨rfl, ⟨w, i, x, (h _ _ _).2 (.inr ⟨rfl, rfl, rfl⟩), hx, rfl, rfl, rfl⟩, fun w' i' x' hv hxo => ?_⟩
    rcases (h w' i' x').1 hv with hv | ⟨rfl, rfl, rfl⟩
    · rcases ht with ⟨h1, h2⟩ | ⟨h1, _, h4⟩
      · rw [h2 _ _ _ hv] at hxo; cases hxo
      · have := h4 _ _ _ hv hxo
        dsimp only at h1 this ⊢
        subst h1
        simp at hc
        omega
    · exact Int.le_refl _
  · rw [if_neg hc]
    rcases ht with ⟨h1, h2⟩ | ⟨h1, ⟨w1, i1, x1, h2, h3⟩, h4⟩
    · dsimp only at h1; subst h1; simp at hc
    · refine .inr ⟨h1, ⟨w1, i1, x1, (h _ _ _).2 (.inl h2), h3⟩, fun w' i' x' hv hxo => ?_⟩
      rcases (h w' i' x').1 hv with hv | ⟨rfl, rfl, rfl⟩
      · exact h4 _ _ _ hv hxo
      · dsimp only at h1 ⊢; subst h1; simp at hc; exact hc

theorem drive_best_eq {f : TField} (hs : Small f) (hf : FieldOK f) {r : Nat} (hr : r < nrun f) :
    ∃ t : Int × Int × Int × Bool, m_ranks_direction_drive_with_ranks_best_2 f (r : Int) = some (⟨t.1, t.2.1, t.2.2.1⟩, t.2.2.2) ∧ DrB f r (Occ f r) t := by
  unfold m_ranks_direction_drive_with_ranks_best_2 m_ranks_worlds
  simp only [some_bind, worlds_eq hs hf]
  obtain ⟨t, h1, h2⟩ := worlds_inv (N := npair f + 1) (p := Poss f.Runners) (G := m_ranks_direction_drive_with_ranks_best_2_R1 f (r : Int)) (I := fun w t => DrB f r (Vis f r w 0) t) (s0 := (0, 0, 0, false)) (fun w t hw hp hI => by
    have hlen := wl_len hs hf hr hw
    obtain ⟨t', h1, h2⟩ := inv_loop (N := (wl f.Runners r w).length) (f := fun n i (t : Int × Int × Int × Bool) => m_ranks_direction_drive_with_ranks_best_2_L2 f (r : Int) (w : Int) (wl f.Runners r w) n (i : Int) t.1 t.2.1 t.2.2.1 t.2.2.2) (k := some) (I := fun i t => DrB f r (Vis f r w i) t) (s0 := t) (fun i t hi hI => by
      have ho : Occ f r w i (wl f.Runners r w)[i] := ⟨hw, hp, by simp [hi]⟩
      have hv : Ext1 (Vis f r w i) (Vis f r w (i + 1)) w i (wl f.Runners r w)[i] := Vis.succ ho
      have hxok := ho.ok hf hr
      have e1 : idx (wl f.Runners r w) (i : Int) = some (wl f.Runners r w)[i] := idx_lt hi
      generalize (wl f.Runners r w)[i] = x at ho hv hxok e1
      obtain ⟨a, b, rk, ok⟩ := t
      cases hx : x.Out with
      | true =>
        refine ⟨(a, b, rk, ok), hI.skip hv hx, fun n => ?_⟩
        show m_ranks_direction_drive_with_ranks_best_2_L2 f (r : Int) (w : Int) (wl f.Runners r w) (n + 1) (i : Int) a b rk ok = _
        rw [m_ranks_direction_drive_with_ranks_best_2_L2, dec_lt_nat, decide_eq_true hi, cond_true, e1, some_bind, hx, cond_true, w64_succ (by omega)]
      | false =>
        refine ⟨_, hI.step hv hx, fun n => ?_⟩
        show m_ranks_direction_drive_with_ranks_best_2_L2 f (r : Int) (w : Int) (wl f.Runners r w) (n + 1) (i : Int) a b rk ok = _
        rw [m_ranks_direction_drive_with_ranks_best_2_L2, dec_lt_nat, decide_eq_true hi, cond_true, e1, some_bind, hx, cond_false, fuel_sub, drive_best_count hs hf hr hw hp hxok hx, some_bind, w64_succ (by omega)]
        unfold m_ranks_best_2
        cases ok with
        | false => rfl
        | true =>
          simp only [Bool.not_true, cond_false, some_bind, Bool.false_or]
          rw [Bool.cond_eq_ite]
          split <;> rfl) (fun n t => by
      show m_ranks_direction_drive_with_ranks_best_2_L2 f (r : Int) (w : Int) (wl f.Runners r w) (n + 1) (((wl f.Runners r w).length : Nat) : Int) t.1 t.2.1 t.2.2.1 t.2.2.2 = _
      rw [m_ranks_direction_drive_with_ranks_best_2_L2]; simp) hI
    refine ⟨t', ?_, h2.same (fun a b c => (Vis.next a b c).symm)⟩
    obtain ⟨a, b, rk, ok⟩ := t
    show (idx f.Runners (r : Int)).bind _ = _
    rw [idx_lt hr, some_bind, (wl_mem hf hr hw).2, some_bind, fuel_sub]
    dsimp only at h1
    refine Eq.trans (congrArg (fun z => Option.bind z _) h1) ?_
    rfl) (fun w t hw hp hI => hI.same (fun a b c => (Vis.skip hp a b c).symm)) (.inl ⟨rfl, fun w i x h => absurd h (Vis.zero w i x)⟩)
  refine ⟨t, ?_, h2.same (fun a b c => Vis.all a b c)⟩
  show Option.bind (foldO _ (listP (Poss f.Runners) 0 (npair f + 1)) _) _ = _
  rw [h1]
  rfl

theorem drive_worst_eq {f : TField} (hs : Small f) (hf : FieldOK f) {r : Nat} (hr : r < nrun f) :
    ∃ t : Int × Int × Int × Bool, m_ranks_direction_drive_with_ranks_worst_2 f (r : Int) = some (⟨t.1, t.2.1, t.2.2.1⟩, t.2.2.2) ∧ DrW f r (Occ f r) t := by
  unfold m_ranks_direction_drive_with_ranks_worst_2 m_ranks_worlds
  simp only [some_bind, worlds_eq hs hf]
  obtain ⟨t, h1, h2⟩ := worlds_inv (N := npair f + 1) (p := Poss f.Runners) (G := m_ranks_direction_drive_with_ranks_worst_2_R1 f (r : Int)) (I := fun w t => DrW f r (Vis f r w 0) t) (s0 := (0, 0, 0, false)) (fun w t hw hp hI => by
    have hlen := wl_len hs hf hr hw
    obtain ⟨t', h1, h2⟩ := inv_loop (N := (wl f.Runners r w).length) (f := fun n i (t : Int × Int × Int × Bool) => m_ranks_direction_drive_with_ranks_worst_2_L2 f (r : Int) (w : Int) (wl f.Runners r w) n (i : Int) t.1 t.2.1 t.2.2.1 t.2.2.2) (k := some) (I := fun i t => DrW f r (Vis f r w i) t) (s0 := t) (fun i t hi hI => by
      have ho : Occ f r w i (wl f.Runners r w)[i] := ⟨hw, hp, by simp [hi]⟩
      have hv : Ext1 (Vis f r w i) (Vis f r w (i + 1)) w i (wl f.Runners r w)[i] := Vis.succ ho
      have hxok := ho.ok hf hr
      have e1 : idx (wl f.Runners r w) (i : Int) = some (wl f.Runners r w)[i] := idx_lt hi
      generalize (wl f.Runners r w)[i] = x at ho hv hxok e1
      obtain ⟨a, b, rk, ok⟩ := t
      cases hx : x.Out with
      | true =>
        refine ⟨(a, b, rk, ok), hI.skip hv hx, fun n => ?_⟩
        show m_ranks_direction_drive_with_ranks_worst_2_L2 f (r : Int) (w : Int) (wl f.Runners r w) (n + 1) (i : Int) a b rk ok = _
        rw [m_ranks_direction_drive_with_ranks_worst_2_L2, dec_lt_nat, decide_eq_true hi, cond_true, e1, some_bind, hx, cond_true, w64_succ (by omega)]
      | false =>
        refine ⟨_, hI.step hv hx, fun n => ?_⟩
        show m_ranks_direction_drive_with_ranks_worst_2_L2 f (r : Int) (w : Int) (wl f.Runners r w) (n + 1) (i : Int) a b rk ok = _
        rw [m_ranks_direction_drive_with_ranks_worst_2_L2, dec_lt_nat, decide_eq_true hi, cond_true, e1, some_bind, hx, cond_false, fuel_sub, drive_worst_count hs hf hr hw hp hxok hx, some_bind, w64_succ (by omega)]
        unfold m_ranks_worst_2
        cases ok with
        | false => rfl
        | true =>
          simp only [Bool.not_true, cond_false, some_bind, Bool.false_or]
          rw [Bool.cond_eq_ite]
          split <;> rfl) (fun n t => by
      show m_ranks_direction_drive_with_ranks_worst_2_L2 f (r : Int) (w : Int) (wl f.Runners r w) (n + 1) (((wl f.Runners r w).length : Nat) : Int) t.1 t.2.1 t.2.2.1 t.2.2.2 = _
      rw [m_ranks_direction_drive_with_ranks_worst_2_L2]; simp) hI
    refine ⟨t', ?_, h2.same (fun a b c => (Vis.next a b c).symm)⟩
    obtain ⟨a, b, rk, ok⟩ := t
    show (idx f.Runners (r : Int)).bind _ = _
    rw [idx_lt hr, some_bind, (wl_mem hf hr hw).2, some_bind, fuel_sub]
    dsimp only at h1
    refine Eq.trans (congrArg (fun z => Option.bind z _) h1) ?_
    rfl) (fun w t hw hp hI => hI.same (fun a b c => (Vis.skip hp a b c).symm)) (.inl ⟨rfl, fun w i x h => absurd h (Vis.zero w i x)⟩)
  refine ⟨t, ?_, h2.same (fun a b c => Vis.all a b c)⟩
  show Option.bind (foldO _ (listP (Poss f.Runners) 0 (npair f + 1)) _) _ = _
  rw [h1]
  rfl

theorem containsO_eq {l : List TOutcome} (hl : l.length ≤ 1000000) : m_slices_ContainsFunc_Outcome_Outcome_with_ranks_of_1 l = some (l.any (·.Out)) := by
  unfold m_slices_ContainsFunc_Outcome_Outcome_with_ranks_of_1 m_slices_IndexFunc_Outcome_Outcome_with_ranks_of_1
  rw [fuel_sub]
  rcases find_at (l := l) (f := fun n i => m_slices_IndexFunc_Outcome_Outcome_with_ranks_of_1_L1 l m_slices_IndexFunc_Outcome_Outcome_with_ranks_of_1_J2 n (i : Int)) (p := fun x => x.Out) (A := fun i _ => (i : Int)) (k := some (-1)) (fun n i hi => by
    show m_slices_IndexFunc_Outcome_Outcome_with_ranks_of_1_L1 l _ (n + 1) (i : Int) = _
    rw [m_slices_IndexFunc_Outcome_Outcome_with_ranks_of_1_L1, dec_lt_nat, decide_eq_true hi, cond_true, idx_lt hi, some_bind, w64_succ (by omega)]
    unfold m_ranks_of_1
    rw [some_bind, Bool.cond_eq_ite]) (fun n => by
    show m_slices_IndexFunc_Outcome_Outcome_with_ranks_of_1_L1 l _ (n + 1) ((l.length : Nat) : Int) = _
    rw [m_slices_IndexFunc_Outcome_Outcome_with_ranks_of_1_L1]
    simp [m_slices_IndexFunc_Outcome_Outcome_with_ranks_of_1_J2]) with ⟨i, hi, h1, h2, _⟩ | ⟨h1, h2⟩
  · have ha : l.any (·.Out) = true := List.any_eq_true.2 ⟨_, List.getElem_mem hi, h1⟩
    rw [ha]
    refine Eq.trans (congrArg (fun z => Option.bind z _) h2) ?_
    rw [some_bind, decide_eq_true (by omega)]
  · have ha : l.any (·.Out) = false := by
      rw [← Bool.not_eq_true]
      intro h
      obtain ⟨y, hy, hp⟩ := List.any_eq_true.1 h
      rw [h1 y hy] at hp
      cases hp
    rw [ha]
    refine Eq.trans (congrArg (fun z => Option.bind z _) h2) ?_
    rfl

end Go.Stop
