/- Plain laws: who is ahead. No condition. -/
import Derived.Test.YthandbiapckgkaaP6
namespace Go.Stop
open Go Go.Abs

theorem inR_nat {f : TField} {a : Int} (h : InR f a) : ∃ i : Nat, a = (i : Int) ∧ i < f.Runners.length := by
  obtain ⟨h1, h2⟩ := h
  exact ⟨a.toNat, by omega, by omega⟩

theorem seg_nat {k : TClocks} {x : TOutcome} (hk : ClocksOK k) (h : OutOK k x) (ho : x.Out = false) : ∃ i : Nat, w64 (x.Seg + 1) = (i : Int) ∧ i < k.Segments.length + 1 := by
  obtain ⟨h1, h2, _⟩ := h.2 ho
  have := hk.few
  exact ⟨(x.Seg + 1).toNat, by rw [w64_of (by omega) (by omega)]; omega, by omega⟩

theorem far_get {k : TClocks} (hk : ClocksOK k) {i j : Nat} (hi : i < k.Segments.length + 1) (hj : j < k.Segments.length + 1) : ∃ row, idx k.Far (i : Int) = some row ∧ idx row (j : Int) = some (at2 k.Far i j) := by
  obtain ⟨row, h1, h2, h3⟩ := rows_get hk.row hk.far hi
  exact ⟨row, h2, idx2 h1 (by omega)⟩

theorem best_late {f : TField} (hs : Small f) (hf : FieldOK f) {a b : Int} (ha : InR f a) (hb : InR f b) {x y : TOutcome} (hx : OutOK f.Clocks x) (hy : OutOK f.Clocks y) (hxo : x.Out = false) (hyo : y.Out = false) :
    ∃ t, m_ranks_direction_ahead_with_ranks_best_2 f b y a x = some t ∧ m_stopwatchref25_late f y b x a = some (!t) := by
  obtain ⟨ia, rfl, hia⟩ := inR_nat ha
  obtain ⟨ib, rfl, hib⟩ := inR_nat hb
  obtain ⟨i, e1, hi⟩ := seg_nat hf.clocks hy hyo
  obtain ⟨j, e2, hj⟩ := seg_nat hf.clocks hx hxo
  obtain ⟨row, h1, h2⟩ := far_get hf.clocks hi hj
  unfold m_ranks_direction_ahead_with_ranks_best_2 m_stopwatchref25_late m_ranks_hi m_ranks_lo m_ranks_best_1
  have hl : f.Runners[ia].Keys.length < 9223372036854775807 := by have := (hs.worlds _ (List.getElem_mem hia)).1; omega
  obtain ⟨r, t, h3, h4, h5⟩ := less_compare f.Runners[ia].Keys f.Runners[ib].Keys hl
  simp only [hxo, cond_false, some_bind, e1, e2, h1, h2, idx_lt hia, idx_lt hib, h3, h4, bif_dec, bif_eq]
  generalize w64 (w64 (x.Hi + at2 f.Clocks.Far i j) - y.Lo) = d
  by_cases h6 : d < 0
  · rw [if_pos h6, if_neg (by omega), if_neg (by omega)]; exact ⟨true, rfl, rfl⟩
  · rw [if_neg h6]
    by_cases h7 : d = 0
    · rw [if_pos h7, if_neg (by omega), if_pos h7]
      refine ⟨_, rfl, ?_⟩
      congr 2
      cases t with
      | true => simpa using h5
      | false => simp at h5; simp; omega
    · rw [if_neg h7, if_pos (by omega)]; exact ⟨false, rfl, rfl⟩

theorem worst_early {f : TField} (hs : Small f) (hf : FieldOK f) {a b : Int} (ha : InR f a) (hb : InR f b) {x y : TOutcome} (hx : OutOK f.Clocks x) (hy : OutOK f.Clocks y) (hxo : x.Out = false) (hyo : y.Out = false) :
    ∃ t, m_ranks_direction_ahead_with_ranks_worst_2 f b y a x = some t ∧ m_stopwatchref25_early f y b x a = some t := by
  obtain ⟨ia, rfl, hia⟩ := inR_nat ha
  obtain ⟨ib, rfl, hib⟩ := inR_nat hb
  obtain ⟨i, e1, hi⟩ := seg_nat hf.clocks hy hyo
  obtain ⟨j, e2, hj⟩ := seg_nat hf.clocks hx hxo
  obtain ⟨row, h1, h2⟩ := far_get hf.clocks hj hi
  unfold m_ranks_direction_ahead_with_ranks_worst_2 m_stopwatchref25_early m_ranks_hi m_ranks_lo m_ranks_worst_1
  have hl : f.Runners[ia].Keys.length < 9223372036854775807 := by have := (hs.worlds _ (List.getElem_mem hia)).1; omega
  obtain ⟨r, t, h3, h4, h5⟩ := less_compare f.Runners[ia].Keys f.Runners[ib].Keys hl
  have hd : x.Lo + (0 - at2 f.Clocks.Far j i) = x.Lo - at2 f.Clocks.Far j i := by omega
  simp only [hxo, cond_false, some_bind, e1, e2, h1, h2, idx_lt hia, idx_lt hib, h3, h4, bif_dec, bif_eq, w64_add, hd]
  generalize w64 (w64 (x.Lo - at2 f.Clocks.Far j i) - y.Hi) = d
  by_cases h6 : d < 0
  · rw [if_pos h6, if_pos h6]; exact ⟨true, rfl, rfl⟩
  · rw [if_neg h6, if_neg h6]
    by_cases h7 : d = 0
    · rw [if_pos h7, if_pos h7]
      refine ⟨_, rfl, ?_⟩
      congr 1
      cases t with
      | true => simpa using h5
      | false => simp at h5; simp; omega
    · rw [if_neg h7, if_neg h7]; exact ⟨false, rfl, rfl⟩

theorem wl_mem {f : TField} (hf : FieldOK f) {i w : Nat} (hi : i < f.Runners.length) (hw : w < f.Pairs.length + 1) : wl f.Runners i w ∈ f.Runners[i].Worlds ∧ idx f.Runners[i].Worlds (w : Int) = some (wl f.Runners i w) := by
  have hl := worlds_of hf.runner _ (List.getElem_mem hi)
  have hw' : w < f.Runners[i].Worlds.length := by omega
  refine ⟨?_, wl_get hi hw'⟩
  unfold wl
  simp [hi, hw']

theorem wl_ok {f : TField} (hf : FieldOK f) {i w : Nat} (hi : i < f.Runners.length) (hw : w < f.Pairs.length + 1) : ∀ o, o ∈ wl f.Runners i w → OutOK f.Clocks o :=
  fun o ho => (hf.runner i hi _ (by simp [hi])).2 _ (wl_mem hf hi hw).1 o ho

theorem wl_len {f : TField} (hs : Small f) (hf : FieldOK f) {i w : Nat} (hi : i < f.Runners.length) (hw : w < f.Pairs.length + 1) : (wl f.Runners i w).length ≤ 1000 :=
  (hs.worlds _ (List.getElem_mem hi)).2.2 _ (wl_mem hf hi hw).1

theorem ahead_L3 {f : TField} (hs : Small f) (hf : FieldOK f) {a b : Int} (ha : InR f a) (hb : InR f b) {l m : List TOutcome} (hl : ∀ o, o ∈ l → OutOK f.Clocks o) (hm : ∀ o, o ∈ m → OutOK f.Clocks o) (hml : m.length ≤ 1000) {i : Nat} (hi : i < l.length) (s0 : Bool × Bool) :
    ∃ s, m_ranks_Ahead_L3 f a b l[i] m (m.length + 1) 0 s0.1 s0.2 = some s ∧ m_stopwatchref25_Ahead_L3 f a b l m (i : Int) (m.length + 1) s0.1 s0.2 0 = some s := by
  obtain ⟨s, h1, h2, _⟩ := run2 (N := m.length) (f := fun n j s => m_ranks_Ahead_L3 f a b l[i] m n (j : Int) s.1 s.2) (g := fun n j s => m_stopwatchref25_Ahead_L3 f a b l m (i : Int) n s.1 s.2 (j : Int)) (I := fun _ _ => True) (s0 := s0) (fun j s hj _ => by
    have hx := hl _ (List.getElem_mem hi)
    have hy := hm _ (List.getElem_mem hj)
    have e1 : idx l (i : Int) = some l[i] := idx_lt hi
    have e2 : idx m (j : Int) = some m[j] := idx_lt hj
    generalize l[i] = x at hx e1
    generalize m[j] = y at hy e2
    obtain ⟨c, p⟩ := s
    cases hxo : x.Out with
    | true =>
      refine ⟨(false, p), trivial, fun n => ⟨?_, ?_⟩⟩
      · show m_ranks_Ahead_L3 f a b x m (n + 1) (j : Int) c p = m_ranks_Ahead_L3 f a b x m n ((j + 1 : Nat) : Int) false p
        rw [m_ranks_Ahead_L3, dec_lt_nat, decide_eq_true hj, cond_true, e2, some_bind, hxo, cond_true, some_bind, w64_succ (by omega)]
      · show m_stopwatchref25_Ahead_L3 f a b l m (i : Int) (n + 1) c p (j : Int) = m_stopwatchref25_Ahead_L3 f a b l m (i : Int) n false p ((j + 1 : Nat) : Int)
        rw [m_stopwatchref25_Ahead_L3, dec_lt_nat, decide_eq_true hj, cond_true, e1, some_bind, hxo, cond_true, some_bind, w64_succ (by omega)]
    | false =>
      cases hyo : y.Out with
      | true =>
        refine ⟨(c, true), trivial, fun n => ⟨?_, ?_⟩⟩
        · show m_ranks_Ahead_L3 f a b x m (n + 1) (j : Int) c p = m_ranks_Ahead_L3 f a b x m n ((j + 1 : Nat) : Int) c true
          rw [m_ranks_Ahead_L3, dec_lt_nat, decide_eq_true hj, cond_true, e2, some_bind, hxo, cond_false, hyo, cond_true, some_bind, w64_succ (by omega)]
        · show m_stopwatchref25_Ahead_L3 f a b l m (i : Int) (n + 1) c p (j : Int) = m_stopwatchref25_Ahead_L3 f a b l m (i : Int) n c true ((j + 1 : Nat) : Int)
          rw [m_stopwatchref25_Ahead_L3, dec_lt_nat, decide_eq_true hj, cond_true, e1, some_bind, hxo, cond_false, e2, some_bind, hyo, cond_true, some_bind, w64_succ (by omega)]
      | false =>
        obtain ⟨t1, h1, h2⟩ := best_late hs hf ha hb hx hy hxo hyo
        obtain ⟨t2, h3, h4⟩ := worst_early hs hf ha hb hx hy hxo hyo
        refine ⟨(c && t1, p || t2), trivial, fun n => ⟨?_, ?_⟩⟩
        · show m_ranks_Ahead_L3 f a b x m (n + 1) (j : Int) c p = m_ranks_Ahead_L3 f a b x m n ((j + 1 : Nat) : Int) (c && t1) (p || t2)
          rw [m_ranks_Ahead_L3, dec_lt_nat, decide_eq_true hj, cond_true, e2, some_bind, hxo, cond_false, hyo, cond_false, h1, h3, w64_succ (by omega)]
          cases c <;> cases p <;> rfl
        · show m_stopwatchref25_Ahead_L3 f a b l m (i : Int) (n + 1) c p (j : Int) = m_stopwatchref25_Ahead_L3 f a b l m (i : Int) n (c && t1) (p || t2) ((j + 1 : Nat) : Int)
          rw [m_stopwatchref25_Ahead_L3, dec_lt_nat, decide_eq_true hj, cond_true, e1, some_bind, hxo, cond_false, e2, some_bind, hyo, cond_false, w64_succ (by omega)]
          simp only [some_bind, h2, h4, Bool.not_not]
          cases c <;> cases p <;> rfl) (fun n s => by
    show m_ranks_Ahead_L3 f a b l[i] m (n + 1) ((m.length : Nat) : Int) s.1 s.2 = _
    rw [m_ranks_Ahead_L3]; simp) (fun n s => by
    show m_stopwatchref25_Ahead_L3 f a b l m (i : Int) (n + 1) s.1 s.2 ((m.length : Nat) : Int) = _
    rw [m_stopwatchref25_Ahead_L3]; simp) trivial
  exact ⟨s, h1, h2⟩

theorem ahead_L2 {f : TField} (hs : Small f) (hf : FieldOK f) {a ib : Nat} (ha : a < f.Runners.length) (hb : ib < f.Runners.length) {w : Nat} (hw : w < f.Pairs.length + 1) (s0 : Bool × Bool) :
    ∃ s, m_ranks_Ahead_L2 f a ib (w : Int) (wl f.Runners a w) ((wl f.Runners a w).length + 1) 0 s0.1 s0.2 = some s ∧ m_stopwatchref25_Ahead_L2 f a ib (wl f.Runners a w) (wl f.Runners ib w) ((wl f.Runners a w).length + 1) s0.1 s0.2 0 = some s := by
  have hal := wl_len hs hf ha hw
  obtain ⟨s, h1, h2, _⟩ := run2 (N := (wl f.Runners a w).length) (f := fun n j s => m_ranks_Ahead_L2 f a ib (w : Int) (wl f.Runners a w) n (j : Int) s.1 s.2) (g := fun n j s => m_stopwatchref25_Ahead_L2 f a ib (wl f.Runners a w) (wl f.Runners ib w) n s.1 s.2 (j : Int)) (I := fun _ _ => True) (s0 := s0) (fun j s hj _ => by
    obtain ⟨s', h1, h2⟩ := ahead_L3 hs hf (a := (a : Int)) (b := (ib : Int)) ⟨by omega, by omega⟩ ⟨by omega, by omega⟩ (wl_ok hf ha hw) (wl_ok hf hb hw) (wl_len hs hf hb hw) hj s
    refine ⟨s', trivial, fun n => ⟨?_, ?_⟩⟩
    · show m_ranks_Ahead_L2 f a ib (w : Int) (wl f.Runners a w) (n + 1) (j : Int) s.1 s.2 = m_ranks_Ahead_L2 f a ib (w : Int) (wl f.Runners a w) n ((j + 1 : Nat) : Int) s'.1 s'.2
      rw [m_ranks_Ahead_L2, dec_lt_nat, decide_eq_true hj, cond_true, idx_lt hj, some_bind, idx_lt hb, some_bind, (wl_mem hf hb hw).2, some_bind, fuel_sub, h1, some_bind, w64_succ (by omega)]
    · show m_stopwatchref25_Ahead_L2 f a ib (wl f.Runners a w) (wl f.Runners ib w) (n + 1) s.1 s.2 (j : Int) = m_stopwatchref25_Ahead_L2 f a ib (wl f.Runners a w) (wl f.Runners ib w) n s'.1 s'.2 ((j + 1 : Nat) : Int)
      rw [m_stopwatchref25_Ahead_L2, dec_lt_nat, decide_eq_true hj, cond_true, fuel_sub, h2, some_bind, w64_succ (by omega)]) (fun n s => by
    show m_ranks_Ahead_L2 f a ib (w : Int) (wl f.Runners a w) (n + 1) (((wl f.Runners a w).length : Nat) : Int) s.1 s.2 = _
    rw [m_ranks_Ahead_L2]; simp) (fun n s => by
    show m_stopwatchref25_Ahead_L2 f a ib (wl f.Runners a w) (wl f.Runners ib w) (n + 1) s.1 s.2 (((wl f.Runners a w).length : Nat) : Int) = _
    rw [m_stopwatchref25_Ahead_L2]; simp) trivial
  exact ⟨s, h1, h2⟩

end Go.Stop
