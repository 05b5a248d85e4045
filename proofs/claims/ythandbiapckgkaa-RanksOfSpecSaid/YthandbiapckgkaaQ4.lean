/- Plain laws: what Of says, on both sides. No condition. -/
import Derived.Test.YthandbiapckgkaaQ3
namespace Go.Stop
open Go Go.Abs

theorem listP_mem {p : Nat → Prop} {a : Int} : ∀ {c i : Nat}, a ∈ listP p i c → ∃ j : Nat, a = (j : Int) ∧ i ≤ j ∧ j < i + c ∧ p j
  | 0, _, h => by simp [listP] at h
  | c + 1, i, h => by
    rw [listP] at h
    by_cases hp : p i
    · rw [if_pos hp] at h
      rcases List.mem_cons.1 h with rfl | h
      · exact ⟨i, rfl, by omega, by omega, hp⟩
      · obtain ⟨j, h1, h2, h3, h4⟩ := listP_mem h; exact ⟨j, h1, by omega, by omega, h4⟩
    · rw [if_neg hp] at h
      obtain ⟨j, h1, h2, h3, h4⟩ := listP_mem h; exact ⟨j, h1, by omega, by omega, h4⟩

theorem maxG_eq (a b : Int) : maxG a b = if a < b then b else a := by
  unfold maxG; split <;> rfl

def ROf (f : TField) (r : Nat) (V : Occs) (s : Int × Int × Bool) : Prop := IsLo (NB f r) V s.1 ∧ IsHi (NW f r) V s.2.1 ∧ IsOut V s.2.2

theorem ref_Of_L2 {f : TField} (hs : Small f) (hf : FieldOK f) {r : Nat} (hr : r < nrun f) {w : Nat} (hw : w < npair f + 1) (hp : Poss f.Runners w) {s0 : Int × Int × Bool} (h0 : ROf f r (Vis f r w 0) s0) :
    ∃ s, m_stopwatchref25_Of_L2 f (r : Int) (w : Int) (wl f.Runners r w) ((wl f.Runners r w).length + 1) 0 s0.1 s0.2.1 s0.2.2 = some s ∧ ROf f r (Vis f r w (wl f.Runners r w).length) s := by
  have hlen := wl_len hs hf hr hw
  exact inv_loop (N := (wl f.Runners r w).length) (f := fun n i (s : Int × Int × Bool) => m_stopwatchref25_Of_L2 f (r : Int) (w : Int) (wl f.Runners r w) n (i : Int) s.1 s.2.1 s.2.2) (k := some) (I := fun i s => ROf f r (Vis f r w i) s) (s0 := s0) (fun i s hi hI => by
    have ho : Occ f r w i (wl f.Runners r w)[i] := ⟨hw, hp, by simp [hi]⟩
    have hv : Ext1 (Vis f r w i) (Vis f r w (i + 1)) w i (wl f.Runners r w)[i] := Vis.succ ho
    have hxok := ho.ok hf hr
    have e1 : idx (wl f.Runners r w) (i : Int) = some (wl f.Runners r w)[i] := idx_lt hi
    generalize (wl f.Runners r w)[i] = x at ho hv hxok e1
    obtain ⟨a, b, c⟩ := s
    obtain ⟨h1, h2, h3⟩ := hI
    dsimp only at h1 h2 h3
    cases hx : x.Out with
    | true =>
      refine ⟨(a, b, true), ⟨h1.skip hv hx, h2.skip hv hx, IsOut.skip hv hx⟩, fun n => ?_⟩
      show m_stopwatchref25_Of_L2 f (r : Int) (w : Int) (wl f.Runners r w) (n + 1) (i : Int) a b c = _
      rw [m_stopwatchref25_Of_L2, dec_lt_nat, decide_eq_true hi, cond_true, ref25_Possible_eq hs hf hw, chk_pos hp, some_bind, cond_true, e1, some_bind, hx, cond_true, some_bind, w64_succ (by omega)]
    | false =>
      have hb := NB_pos f r w x
      have hpos := h1.pos (NB_pos f r)
      refine ⟨(if a = 0 then NB f r w x else if NB f r w x < a then NB f r w x else a, if b < NW f r w x then NW f r w x else b, c), ⟨?_, ?_, h3.step hv hx⟩, fun n => ?_⟩
      · show IsLo _ _ (if a = 0 then NB f r w x else if NB f r w x < a then NB f r w x else a)
        by_cases e : a = 0
        · rw [if_pos e]; exact h1.less hv hx (.inl e) (NB_pos f r)
        · rw [if_neg e]
          by_cases e2 : NB f r w x < a
          · rw [if_pos e2]; exact h1.less hv hx (.inr e2) (NB_pos f r)
          · rw [if_neg e2]; exact h1.keep hv e (by omega)
      · show IsHi _ _ (if b < NW f r w x then NW f r w x else b)
        have := NW_pos f r w x
        by_cases e : b < NW f r w x
        · rw [if_pos e]; exact h2.more hv hx (by omega)
        · rw [if_neg e]; exact h2.keep hv (by omega) (by omega)
      · show m_stopwatchref25_Of_L2 f (r : Int) (w : Int) (wl f.Runners r w) (n + 1) (i : Int) a b c = m_stopwatchref25_Of_L2 f (r : Int) (w : Int) (wl f.Runners r w) n ((i + 1 : Nat) : Int) (if a = 0 then NB f r w x else if NB f r w x < a then NB f r w x else a) (if b < NW f r w x then NW f r w x else b) c
        rw [m_stopwatchref25_Of_L2, dec_lt_nat, decide_eq_true hi, cond_true, ref25_Possible_eq hs hf hw, chk_pos hp, some_bind, cond_true, e1, some_bind, hx, cond_false, some_bind, extremes_eq hs hf hr hw hxok hx, some_bind, w64_succ (by omega)]
        simp only [bif_eq, bif_dec, maxG_eq]
        show Option.bind (if a = 0 then _ else if NB f r w x < a then _ else _) _ = _
        by_cases e : a = 0
        · rw [if_pos e, if_pos e]; rfl
        · rw [if_neg e, if_neg e]
          by_cases e2 : NB f r w x < a
          · rw [if_pos e2, if_pos e2]; rfl
          · rw [if_neg e2, if_neg e2]; rfl) (fun n s => by
    show m_stopwatchref25_Of_L2 f (r : Int) (w : Int) (wl f.Runners r w) (n + 1) (((wl f.Runners r w).length : Nat) : Int) s.1 s.2.1 s.2.2 = _
    rw [m_stopwatchref25_Of_L2]; simp) h0

theorem ROf.same {f : TField} {r : Nat} {V V' : Occs} (h : Same V V') {s : Int × Int × Bool} (hs : ROf f r V s) : ROf f r V' s := ⟨h.lo hs.1, h.hi hs.2.1, h.out hs.2.2⟩

theorem ref_Of_skip {f : TField} (hs : Small f) (hf : FieldOK f) {r : Int} {w : Nat} (hw : w < npair f + 1) (hp : ¬Poss f.Runners w) (l : List TOutcome) (s : Int × Int × Bool) : m_stopwatchref25_Of_L2 f r (w : Int) l (l.length + 1) 0 s.1 s.2.1 s.2.2 = some s := by
  rw [m_stopwatchref25_Of_L2, ref25_Possible_eq hs hf hw, chk_neg hp, some_bind, cond_false]
  cases decide ((0 : Int) < (l.length : Int)) <;> rfl

theorem ref_Of_main {f : TField} (hs : Small f) (hf : FieldOK f) {r : Nat} (hr : r < nrun f) :
    ∃ s, m_stopwatchref25_Of_L1 f (r : Int) (npair f + 1 + 1) 0 0 0 false = some s ∧ ROf f r (Occ f r) s := by
  have hsp : npair f ≤ 1000 := hs.pairs
  obtain ⟨s, h1, h2⟩ := inv_loop (N := npair f + 1) (f := fun n w (s : Int × Int × Bool) => m_stopwatchref25_Of_L1 f (r : Int) n (w : Int) s.1 s.2.1 s.2.2) (k := some) (I := fun w s => ROf f r (Vis f r w 0) s) (s0 := (0, 0, false)) (fun w s hw hI => by
    by_cases hp : Poss f.Runners w
    · obtain ⟨s', h1, h2⟩ := ref_Of_L2 hs hf hr hw hp hI
      refine ⟨s', h2.same (fun a b c => (Vis.next a b c).symm), fun n => ?_⟩
      show m_stopwatchref25_Of_L1 f (r : Int) (n + 1) (w : Int) s.1 s.2.1 s.2.2 = _
      rw [m_stopwatchref25_Of_L1, dec_le_nat, decide_eq_true hw, cond_true, idx_lt hr, some_bind, (wl_mem hf hr hw).2, some_bind, fuel_sub, h1, some_bind, w64_succ (by omega)]
    · refine ⟨s, hI.same (fun a b c => (Vis.skip hp a b c).symm), fun n => ?_⟩
      show m_stopwatchref25_Of_L1 f (r : Int) (n + 1) (w : Int) s.1 s.2.1 s.2.2 = _
      rw [m_stopwatchref25_Of_L1, dec_le_nat, decide_eq_true hw, cond_true, idx_lt hr, some_bind, (wl_mem hf hr hw).2, some_bind, fuel_sub, ref_Of_skip hs hf hw hp, some_bind, w64_succ (by omega)]) (fun n s => by
    show m_stopwatchref25_Of_L1 f (r : Int) (n + 1) ((npair f + 1 : Nat) : Int) s.1 s.2.1 s.2.2 = _
    rw [m_stopwatchref25_Of_L1, dec_le_nat]; simp) ⟨.inl ⟨rfl, fun w i x h => absurd h (Vis.zero w i x)⟩, .inl ⟨rfl, fun w i x h => absurd h (Vis.zero w i x)⟩, ⟨fun h => (by cases h), fun ⟨w, i, x, h, _⟩ => absurd h (Vis.zero w i x)⟩⟩
  exact ⟨s, h1, h2.same (fun a b c => Vis.all a b c)⟩

theorem inR_of {f : TField} {r : Nat} (h : r < nrun f) : InR f (r : Int) := by
  have : r < f.Runners.length := h
  exact ⟨by omega, by omega⟩

theorem ref_Of_eq {f : TField} (hs : Small f) (hf : FieldOK f) {r : Nat} (hr : r < nrun f) :
    ∃ x, m_stopwatchref25_Of f (r : Int) = some (x, 0) ∧ IsRank f r x := by
  obtain ⟨s, h1, h2, h3, h4⟩ := ref_Of_main hs hf hr
  unfold m_stopwatchref25_Of
  rw [ref25_check_eq hs, chk_pos hf, chk_pos (inR_of hr), some_bind, idx_lt hr, fuel_add, h1]
  refine ⟨_, rfl, ⟨by simp [hr], h2, h3, h4, ?_⟩⟩
  obtain ⟨a, b, c⟩ := s
  show (bif a == 0 then (3 : Int) else bif a == b then bif !c then 1 else 2 else 2) = if a = 0 then 3 else if a = b ∧ c = false then 1 else 2
  rw [bif_eq, bif_eq]
  by_cases e : a = 0
  · rw [if_pos e, if_pos e]
  · rw [if_neg e, if_neg e]
    by_cases e2 : a = b
    · rw [if_pos e2]; cases c <;> simp [e2]
    · rw [if_neg e2]; simp [e2]

theorem ref_Of_err {f : TField} (hs : Small f) (a : Int) (h : ¬(FieldOK f ∧ InR f a)) : ∃ e, e ≠ 0 ∧ m_stopwatchref25_Of f a = some (⟨0, 0, 0, 0, false⟩, e) ∧ m_ranks_Of f a = some (⟨0, 0, 0, 0, false⟩, e) ∧ (¬FieldOK f → e = 240) ∧ (FieldOK f → e = 250) := by
  unfold m_stopwatchref25_Of m_ranks_Of
  rw [ref25_check_eq hs, ranks_check_eq hs (by simp)]
  by_cases hf : FieldOK f
  · have ha : ¬InR f a := fun ha => h ⟨hf, ha⟩
    rw [chk_pos hf, chk_neg ha, chk_pos hf, chk_neg (by simpa using ha)]
    exact ⟨250, by decide, rfl, rfl, fun h => absurd hf h, fun _ => rfl⟩
  · rw [chk_neg hf, chk_neg hf]
    exact ⟨240, by decide, rfl, rfl, fun _ => rfl, fun h => absurd h hf⟩

end Go.Stop
