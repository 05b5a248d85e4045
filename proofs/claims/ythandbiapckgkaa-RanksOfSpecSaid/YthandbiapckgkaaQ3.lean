/- Plain laws: what is known about a rank. No condition. -/
import Derived.Test.YthandbiapckgkaaQ2
namespace Go.Stop
open Go Go.Abs

/-- An outcome of a runner in a possible world, with its place. -/
def Occ (f : TField) (r w i : Nat) (x : TOutcome) : Prop := w < npair f + 1 ∧ Poss f.Runners w ∧ (wl f.Runners r w)[i]? = some x
def Vis (f : TField) (r w i : Nat) (w' i' : Nat) (x : TOutcome) : Prop := (w' < w ∨ w' = w ∧ i' < i) ∧ Occ f r w' i' x

theorem Occ.ok {f : TField} (hf : FieldOK f) {r w i : Nat} {x : TOutcome} (hr : r < nrun f) (h : Occ f r w i x) : OutOK f.Clocks x :=
  wl_ok hf hr h.1 _ (List.mem_of_getElem? h.2.2)

theorem Vis.succ {f : TField} {r w i : Nat} {x : TOutcome} (h : Occ f r w i x) (w' i' : Nat) (x' : TOutcome) : Vis f r w (i + 1) w' i' x' ↔ Vis f r w i w' i' x' ∨ (w' = w ∧ i' = i ∧ x' = x) := by
  unfold Vis
  constructor
  · rintro ⟨h1, h2⟩
    by_cases e : w' = w ∧ i' = i
    · obtain ⟨rfl, rfl⟩ := e
      refine .inr ⟨rfl, rfl, ?_⟩
      have := h.2.2.symm.trans h2.2.2
      cases this; rfl
    · refine .inl ⟨?_, h2⟩
      omega
  · rintro (⟨h1, h2⟩ | ⟨rfl, rfl, rfl⟩)
    · exact ⟨by omega, h2⟩
    · exact ⟨by omega, h⟩
theorem Vis.zero {f : TField} {r : Nat} (w' i' : Nat) (x' : TOutcome) : ¬Vis f r 0 0 w' i' x' := by
  rintro ⟨h, _⟩; omega
theorem Vis.next {f : TField} {r w : Nat} (w' i' : Nat) (x' : TOutcome) : Vis f r (w + 1) 0 w' i' x' ↔ Vis f r w (wl f.Runners r w).length w' i' x' := by
  unfold Vis
  constructor
  · rintro ⟨h1, h2⟩
    refine ⟨?_, h2⟩
    by_cases e : w' = w
    · subst e
      exact .inr ⟨rfl, (List.getElem?_eq_some_iff.1 h2.2.2).1⟩
    · omega
  · rintro ⟨h1, h2⟩; exact ⟨by omega, h2⟩
theorem Vis.skip {f : TField} {r w : Nat} (hp : ¬Poss f.Runners w) (w' i' : Nat) (x' : TOutcome) : Vis f r (w + 1) 0 w' i' x' ↔ Vis f r w 0 w' i' x' := by
  unfold Vis
  constructor
  · rintro ⟨h1, h2⟩
    refine ⟨?_, h2⟩
    by_cases e : w' = w
    · subst e; exact absurd h2.2.1 hp
    · omega
  · rintro ⟨h1, h2⟩; exact ⟨by omega, h2⟩
theorem Vis.all {f : TField} {r : Nat} (w' i' : Nat) (x' : TOutcome) : Vis f r (npair f + 1) 0 w' i' x' ↔ Occ f r w' i' x' := by
  unfold Vis
  exact ⟨fun h => h.2, fun h => ⟨.inl h.1, h⟩⟩

abbrev Occs := Nat → Nat → TOutcome → Prop
def Ext1 (V V' : Occs) (w i : Nat) (x : TOutcome) : Prop := ∀ w' i' x', V' w' i' x' ↔ V w' i' x' ∨ (w' = w ∧ i' = i ∧ x' = x)
def Same (V V' : Occs) : Prop := ∀ w i x, V w i x ↔ V' w i x

def IsLo (N : Nat → TOutcome → Int) (V : Occs) (lo : Int) : Prop := (lo = 0 ∧ ∀ w i x, V w i x → x.Out = true) ∨ ((∃ w i x, V w i x ∧ x.Out = false ∧ lo = N w x) ∧ ∀ w i x, V w i x → x.Out = false → lo ≤ N w x)
def IsHi (N : Nat → TOutcome → Int) (V : Occs) (hi : Int) : Prop := (hi = 0 ∧ ∀ w i x, V w i x → x.Out = true) ∨ ((∃ w i x, V w i x ∧ x.Out = false ∧ hi = N w x) ∧ ∀ w i x, V w i x → x.Out = false → N w x ≤ hi)
def IsOut (V : Occs) (out : Bool) : Prop := out = true ↔ ∃ w i x, V w i x ∧ x.Out = true

theorem Same.lo {N : Nat → TOutcome → Int} {V V' : Occs} (h : Same V V') {lo : Int} (hl : IsLo N V lo) : IsLo N V' lo := by
  rcases hl with ⟨h1, h2⟩ | ⟨⟨w, i, x, h1, h2, h3⟩, h4⟩
  · exact .inl ⟨h1, fun w i x hv => h2 w i x ((h w i x).2 hv)⟩
  · exact .inr ⟨⟨w, i, x, (h w i x).1 h1, h2, h3⟩, fun w i x hv => h4 w i x ((h w i x).2 hv)⟩
theorem Same.hi {N : Nat → TOutcome → Int} {V V' : Occs} (h : Same V V') {hi : Int} (hl : IsHi N V hi) : IsHi N V' hi := by
  rcases hl with ⟨h1, h2⟩ | ⟨⟨w, i, x, h1, h2, h3⟩, h4⟩
  · exact .inl ⟨h1, fun w i x hv => h2 w i x ((h w i x).2 hv)⟩
  · exact .inr ⟨⟨w, i, x, (h w i x).1 h1, h2, h3⟩, fun w i x hv => h4 w i x ((h w i x).2 hv)⟩
theorem Same.out {V V' : Occs} (h : Same V V') {o : Bool} (hl : IsOut V o) : IsOut V' o := by
  unfold IsOut at hl ⊢
  rw [hl]
  exact ⟨fun ⟨w, i, x, h1, h2⟩ => ⟨w, i, x, (h w i x).1 h1, h2⟩, fun ⟨w, i, x, h1, h2⟩ => ⟨w, i, x, (h w i x).2 h1, h2⟩⟩

theorem IsLo.skip {N : Nat → TOutcome → Int} {V V' : Occs} {w i : Nat} {x : TOutcome} (h : Ext1 V V' w i x) (hx : x.Out = true) {lo : Int} (hl : IsLo N V lo) : IsLo N V' lo := by
  rcases hl with ⟨h1, h2⟩ | ⟨⟨w1, i1, x1, h1, h2, h3⟩, h4⟩
  · refine .inl ⟨h1, fun w' i' x' hv => ?_⟩
    rcases (h w' i' x').1 hv with hv | ⟨rfl, rfl, rfl⟩
    · exact h2 _ _ _ hv
    · exact hx
  · refine .inr ⟨⟨w1, i1, x1, (h _ _ _).2 (.inl h1), h2, h3⟩, fun w' i' x' hv hxo => ?_⟩
    rcases (h w' i' x').1 hv with hv | ⟨rfl, rfl, rfl⟩
    · exact h4 _ _ _ hv hxo
    · rw [hx] at hxo; cases hxo
theorem IsHi.skip {N : Nat → TOutcome → Int} {V V' : Occs} {w i : Nat} {x : TOutcome} (h : Ext1 V V' w i x) (hx : x.Out = true) {lo : Int} (hl : IsHi N V lo) : IsHi N V' lo := by
  rcases hl with ⟨h1, h2⟩ | ⟨⟨w1, i1, x1, h1, h2, h3⟩, h4⟩
  · refine .inl ⟨h1, fun w' i' x' hv => ?_⟩
    rcases (h w' i' x').1 hv with hv | ⟨rfl, rfl, rfl⟩
    · exact h2 _ _ _ hv
    · exact hx
  · refine .inr ⟨⟨w1, i1, x1, (h _ _ _).2 (.inl h1), h2, h3⟩, fun w' i' x' hv hxo => ?_⟩
    rcases (h w' i' x').1 hv with hv | ⟨rfl, rfl, rfl⟩
    · exact h4 _ _ _ hv hxo
    · rw [hx] at hxo; cases hxo
theorem IsOut.skip {V V' : Occs} {w i : Nat} {x : TOutcome} (h : Ext1 V V' w i x) (hx : x.Out = true) : IsOut V' true :=
  ⟨fun _ => ⟨w, i, x, (h _ _ _).2 (.inr ⟨rfl, rfl, rfl⟩), hx⟩, fun _ => rfl⟩
theorem IsOut.step {V V' : Occs} {w i : Nat} {x : TOutcome} (h : Ext1 V V' w i x) (hx : x.Out = false) {o : Bool} (ho : IsOut V o) : IsOut V' o := by
  unfold IsOut at ho ⊢
  rw [ho]
  constructor
  · rintro ⟨w', i', x', h1, h2⟩; exact ⟨w', i', x', (h _ _ _).2 (.inl h1), h2⟩
  · rintro ⟨w', i', x', h1, h2⟩
    rcases (h w' i' x').1 h1 with hv | ⟨rfl, rfl, rfl⟩
    · exact ⟨_, _, _, hv, h2⟩
    · rw [hx] at h2; cases h2
/-- A new least. -/
theorem IsLo.less {N : Nat → TOutcome → Int} {V V' : Occs} {w i : Nat} {x : TOutcome} (h : Ext1 V V' w i x) (hx : x.Out = false) {lo : Int} (hl : IsLo N V lo) (hc : lo = 0 ∨ N w x < lo) (hN : ∀ w x, 1 ≤ N w x) : IsLo N V' (N w x) := by
  refine .inr ⟨⟨w, i, x, (h _ _ _).2 (.inr ⟨rfl, rfl, rfl⟩), hx, rfl⟩, fun w' i' x' hv hxo => ?_⟩
  rcases (h w' i' x').1 hv with hv | ⟨rfl, rfl, rfl⟩
  · rcases hl with ⟨h1, h2⟩ | ⟨⟨w1, i1, x1, h1, h2, h3⟩, h4⟩
    · rw [h2 _ _ _ hv] at hxo; cases hxo
    · have := h4 _ _ _ hv hxo
      have := hN w1 x1
      omega
  · exact Int.le_refl _
theorem IsLo.keep {N : Nat → TOutcome → Int} {V V' : Occs} {w i : Nat} {x : TOutcome} (h : Ext1 V V' w i x) {lo : Int} (hl : IsLo N V lo) (hc : lo ≠ 0) (hc' : lo ≤ N w x) : IsLo N V' lo := by
  rcases hl with ⟨h1, h2⟩ | ⟨⟨w1, i1, x1, h1, h2, h3⟩, h4⟩
  · exact absurd h1 hc
  · refine .inr ⟨⟨w1, i1, x1, (h _ _ _).2 (.inl h1), h2, h3⟩, fun w' i' x' hv hxo => ?_⟩
    rcases (h w' i' x').1 hv with hv | ⟨rfl, rfl, rfl⟩
    · exact h4 _ _ _ hv hxo
    · exact hc'
theorem IsHi.more {N : Nat → TOutcome → Int} {V V' : Occs} {w i : Nat} {x : TOutcome} (h : Ext1 V V' w i x) (hx : x.Out = false) {hi : Int} (hl : IsHi N V hi) (hc : hi ≤ N w x) : IsHi N V' (N w x) := by
  refine .inr ⟨⟨w, i, x, (h _ _ _).2 (.inr ⟨rfl, rfl, rfl⟩), hx, rfl⟩, fun w' i' x' hv hxo => ?_⟩
  rcases (h w' i' x').1 hv with hv | ⟨rfl, rfl, rfl⟩
  · rcases hl with ⟨h1, h2⟩ | ⟨⟨w1, i1, x1, h1, h2, h3⟩, h4⟩
    · rw [h2 _ _ _ hv] at hxo; cases hxo
    · have := h4 _ _ _ hv hxo
      omega
  · exact Int.le_refl _
theorem IsHi.keep {N : Nat → TOutcome → Int} {V V' : Occs} {w i : Nat} {x : TOutcome} (h : Ext1 V V' w i x) {hi : Int} (hl : IsHi N V hi) (hc : hi ≠ 0) (hc' : N w x ≤ hi) : IsHi N V' hi := by
  rcases hl with ⟨h1, h2⟩ | ⟨⟨w1, i1, x1, h1, h2, h3⟩, h4⟩
  · exact absurd h1 hc
  · refine .inr ⟨⟨w1, i1, x1, (h _ _ _).2 (.inl h1), h2, h3⟩, fun w' i' x' hv hxo => ?_⟩
    rcases (h w' i' x').1 hv with hv | ⟨rfl, rfl, rfl⟩
    · exact h4 _ _ _ hv hxo
    · exact hc'
theorem IsLo.uniq {N : Nat → TOutcome → Int} {V : Occs} {a b : Int} (ha : IsLo N V a) (hb : IsLo N V b) : a = b := by
  rcases ha with ⟨h1, h2⟩ | ⟨⟨w1, i1, x1, h1, h2, h3⟩, h4⟩
  · rcases hb with ⟨h5, h6⟩ | ⟨⟨w1, i1, x1, h5, h6, h7⟩, h8⟩
    · omega
    · rw [h2 _ _ _ h5] at h6; cases h6
  · rcases hb with ⟨h5, h6⟩ | ⟨⟨w2, i2, x2, h5, h6, h7⟩, h8⟩
    · rw [h6 _ _ _ h1] at h2; cases h2
    · have := h4 _ _ _ h5 h6
      have := h8 _ _ _ h1 h2
      omega
theorem IsHi.uniq {N : Nat → TOutcome → Int} {V : Occs} {a b : Int} (ha : IsHi N V a) (hb : IsHi N V b) : a = b := by
  rcases ha with ⟨h1, h2⟩ | ⟨⟨w1, i1, x1, h1, h2, h3⟩, h4⟩
  · rcases hb with ⟨h5, h6⟩ | ⟨⟨w1, i1, x1, h5, h6, h7⟩, h8⟩
    · omega
    · rw [h2 _ _ _ h5] at h6; cases h6
  · rcases hb with ⟨h5, h6⟩ | ⟨⟨w2, i2, x2, h5, h6, h7⟩, h8⟩
    · rw [h6 _ _ _ h1] at h2; cases h2
    · have := h4 _ _ _ h5 h6
      have := h8 _ _ _ h1 h2
      omega
theorem IsOut.uniq {V : Occs} {a b : Bool} (ha : IsOut V a) (hb : IsOut V b) : a = b := by
  unfold IsOut at ha hb
  rw [← hb] at ha
  cases a <;> cases b <;> simp at ha ⊢
/-- No rank: both are 0. -/
theorem IsLo.pos {N : Nat → TOutcome → Int} {V : Occs} {lo : Int} (h : IsLo N V lo) (hN : ∀ w x, 1 ≤ N w x) : lo = 0 ∨ 1 ≤ lo := by
  rcases h with ⟨h1, _⟩ | ⟨⟨w, i, x, _, _, h3⟩, _⟩
  · exact .inl h1
  · exact .inr (by rw [h3]; exact hN w x)

abbrev NB (f : TField) (r w : Nat) (x : TOutcome) : Int := (nBest f w r x : Int)
abbrev NW (f : TField) (r w : Nat) (x : TOutcome) : Int := (nWorst f w r x : Int)
theorem NB_pos (f : TField) (r w : Nat) (x : TOutcome) : 1 ≤ NB f r w x := by unfold NB nBest; omega
theorem NW_pos (f : TField) (r w : Nat) (x : TOutcome) : 1 ≤ NW f r w x := by unfold NW nWorst; omega

/-- What is known about a runner's rank. -/
structure IsRank (f : TField) (r : Nat) (x : TRank) : Prop where
  bib : f.Runners[r]?.map (·.Bib) = some x.Bib
  lo : IsLo (NB f r) (Occ f r) x.Lo
  hi : IsHi (NW f r) (Occ f r) x.Hi
  out : IsOut (Occ f r) x.Out
  kind : x.Kind = if x.Lo = 0 then 3 else if x.Lo = x.Hi ∧ x.Out = false then 1 else 2

theorem IsRank.uniq {f : TField} {r : Nat} {x y : TRank} (hx : IsRank f r x) (hy : IsRank f r y) : x = y := by
  obtain ⟨a1, a2, a3, a4, a5⟩ := hx
  obtain ⟨b1, b2, b3, b4, b5⟩ := hy
  obtain ⟨p1, p2, p3, p4, p5⟩ := x
  obtain ⟨q1, q2, q3, q4, q5⟩ := y
  dsimp only at *
  have e1 : p1 = q1 := Option.some.inj (a1.symm.trans b1)
  have e2 := a2.uniq b2
  have e3 := a3.uniq b3
  have e4 := a4.uniq b4
  subst e1 e2 e3 e4
  rw [a5, b5]

end Go.Stop
