/- Plain laws: what fields are valid: runners, worlds. No condition. -/
import Derived.Test.YthandbiapckgkaaP3
namespace Go.Stop
open Go Go.Abs

theorem all_get {α : Type} {l : List α} {p : α → Prop} : (∀ j, j < l.length → ∀ o, l[j]? = some o → p o) ↔ ∀ o, o ∈ l → p o := by
  constructor
  · intro h o ho
    obtain ⟨j, hj, rfl⟩ := List.mem_iff_getElem.1 ho
    exact h j hj _ (by simp [hj])
  · intro h j hj o ho
    exact h o (List.mem_of_getElem? ho)

theorem field_L3 {f : TField} {kk : Unit → Option Int} (hk : ClocksOK f.Clocks) {l : List TOutcome} (hl : l.length < 9223372036854775807) : m_field_Check_L3 f l kk (l.length + 1) 0 = chk (∀ o, o ∈ l → OutOK f.Clocks o) 240 (kk ()) := by
  refine (chk_loop (ok := fun j => ∀ o, l[j]? = some o → OutOK f.Clocks o) (k := kk ()) (r := 240) (f := fun n i => m_field_Check_L3 f l kk n (i : Int)) (fun n i hi => ?_) (fun n => ?_)).trans (chk_congr all_get fun _ => rfl)
  · show m_field_Check_L3 f l kk (n + 1) (i : Int) = _
    have hw : f.Clocks.Segments.length < 9223372036854775807 := by have := hk.few; omega
    rw [m_field_Check_L3, dec_lt_nat, decide_eq_true hi, cond_true, idx_lt hi, some_bind, w64_succ (by omega), outcome_Check_eq hw, chk_pos hk]
    have hx : l[i]? = some l[i] := by simp [hi]
    rw [hx]
    by_cases h : OutOK f.Clocks l[i]
    · rw [chk_pos h, some_bind, chk_pos (by simpa using h)]; rfl
    · rw [chk_neg h, some_bind, chk_neg (by simpa using h)]; rfl
  · show m_field_Check_L3 f l kk (n + 1) ((l.length : Nat) : Int) = _
    rw [m_field_Check_L3]
    simp

theorem ref24_L4 {f : TField} {kk : Unit → Option Int} (hk : ClocksOK f.Clocks) {x : TRunner} {i : Nat} {l : List TOutcome} (hx : idx x.Worlds (i : Int) = some l) (hl : l.length < 9223372036854775807) : m_stopwatchref24_Check_L4 f x i kk (l.length + 1) 0 = chk (∀ o, o ∈ l → OutOK f.Clocks o) 240 (kk ()) := by
  refine (chk_loop (ok := fun j => ∀ o, l[j]? = some o → OutOK f.Clocks o) (k := kk ()) (r := 240) (f := fun n j => m_stopwatchref24_Check_L4 f x i kk n (j : Int)) (fun n j hj => ?_) (fun n => ?_)).trans (chk_congr all_get fun _ => rfl)
  · show m_stopwatchref24_Check_L4 f x i kk (n + 1) (j : Int) = _
    have hw : f.Clocks.Segments.length < 9223372036854775807 := by have := hk.few; omega
    rw [m_stopwatchref24_Check_L4, hx, some_bind, dec_lt_nat, decide_eq_true hj, cond_true, some_bind, idx_lt hj, some_bind, w64_succ (by omega), ref23_Check_eq hw, chk_pos hk]
    have hx : l[j]? = some l[j] := by simp [hj]
    rw [hx]
    by_cases h : OutOK f.Clocks l[j]
    · rw [chk_pos h, some_bind, chk_pos (by simpa using h)]; rfl
    · rw [chk_neg h, some_bind, chk_neg (by simpa using h)]; rfl
  · show m_stopwatchref24_Check_L4 f x i kk (n + 1) ((l.length : Nat) : Int) = _
    rw [m_stopwatchref24_Check_L4, hx, some_bind]
    simp

theorem ref24_L3 {f : TField} {kk : Unit → Option Int} (hk : ClocksOK f.Clocks) {x : TRunner} (h1 : x.Worlds.length ≤ 1000) (h2 : ∀ w, w ∈ x.Worlds → w.length ≤ 1000) : m_stopwatchref24_Check_L3 f x kk (x.Worlds.length + 1) 0 = chk (∀ w, w ∈ x.Worlds → ∀ o, o ∈ w → OutOK f.Clocks o) 240 (kk ()) := by
  refine (chk_loop (ok := fun j => ∀ w, x.Worlds[j]? = some w → ∀ o, o ∈ w → OutOK f.Clocks o) (k := kk ()) (r := 240) (f := fun n j => m_stopwatchref24_Check_L3 f x kk n (j : Int)) (fun n j hj => ?_) (fun n => ?_)).trans (chk_congr all_get fun _ => rfl)
  · show m_stopwatchref24_Check_L3 f x kk (n + 1) (j : Int) = _
    have hx : x.Worlds[j]? = some x.Worlds[j] := by simp [hj]
    have hb := h2 _ (List.getElem_mem hj)
    rw [m_stopwatchref24_Check_L3, dec_lt_nat, decide_eq_true hj, cond_true, idx_lt hj, Option.getD_some, fuel_sub, ref24_L4 hk (idx_lt hj) (by omega)]
    show chk _ _ (m_stopwatchref24_Check_L3 f x kk n (w64 ((j : Int) + 1))) = _
    rw [w64_succ (by omega)]
    exact chk_congr (by rw [hx]; simp) fun _ => rfl
  · show m_stopwatchref24_Check_L3 f x kk (n + 1) ((x.Worlds.length : Nat) : Int) = _
    rw [m_stopwatchref24_Check_L3]
    simp

def RunnerOK (f : TField) (i : Nat) : Prop := ∀ r, f.Runners[i]? = some r → (1 ≤ r.Bib ∧ r.Bib ≤ 9999 ∧ (0 < i → ∀ q, f.Runners[i - 1]? = some q → q.Bib < r.Bib) ∧ (∀ z, f.Runners[0]? = some z → r.Keys.length = z.Keys.length) ∧ r.Worlds.length = f.Pairs.length + 1) ∧ ∀ w, w ∈ r.Worlds → ∀ o, o ∈ w → OutOK f.Clocks o

def lastB (f : TField) (i : Nat) : Int := if i = 0 then 0 else ((f.Runners[i - 1]?).map (·.Bib)).getD 0

theorem field_L2 {f : TField} {kk : Unit → Option Int} (hk : ClocksOK f.Clocks) (hs : Small f) : m_field_Check_L2 f kk (f.Runners.length + 1) 0 0 = chk (∀ i, i < f.Runners.length → RunnerOK f i) 240 (kk ()) := by
  refine chk_loop' (f := fun n i => m_field_Check_L2 f kk n (lastB f i) (i : Int)) (fun n i hi hp => ?_) (fun n _ => ?_)
  · show m_field_Check_L2 f kk (n + 1) (lastB f i) (i : Int) = _
    have hsr := hs.runners
    have hsp := hs.pairs
    have h0 : 0 < f.Runners.length := by omega
    rw [m_field_Check_L2, dec_lt_nat, decide_eq_true hi, cond_true, idx_lt hi, some_bind, w64_succ (by omega)]
    have hx : f.Runners[i]? = some f.Runners[i] := by simp [hi]
    have hz : idx f.Runners 0 = some f.Runners[0] := idx_lt (i := 0) h0
    have hz' : f.Runners[0]? = some f.Runners[0] := by simp [h0]
    rw [hz]
    have hnext : lastB f (i + 1) = f.Runners[i].Bib := by unfold lastB; simp [hi]
    obtain ⟨hw0, hw1, hw2⟩ := hs.worlds _ (List.getElem_mem hi)
    rw [hnext]
    generalize f.Runners[0] = z at hz'
    generalize f.Runners[i] = r at hx hw0 hw1 hw2
    have hok : RunnerOK f i ↔ (1 ≤ r.Bib ∧ r.Bib ≤ 9999 ∧ (0 < i → ∀ q, f.Runners[i - 1]? = some q → q.Bib < r.Bib) ∧ r.Keys.length = z.Keys.length ∧ r.Worlds.length = f.Pairs.length + 1) ∧ ∀ w, w ∈ r.Worlds → ∀ o, o ∈ w → OutOK f.Clocks o := by
      unfold RunnerOK; rw [hx, hz']; simp
    have hlast : lastB f i < r.Bib ↔ 1 ≤ r.Bib ∧ (0 < i → ∀ q, f.Runners[i - 1]? = some q → q.Bib < r.Bib) := by
      unfold lastB
      by_cases h0 : i = 0
      · subst h0; simp; omega
      · have h8 : i - 1 < f.Runners.length := by omega
        have := hp (i - 1) (by omega)
        unfold RunnerOK at this
        rw [List.getElem?_eq_getElem h8] at this
        have h9 := (this _ rfl).1.1
        rw [if_neg h0, List.getElem?_eq_getElem h8]
        simp only [Option.map_some, Option.getD_some, Option.some.injEq, forall_eq']
        constructor
        · intro h; exact ⟨by omega, fun _ => h⟩
        · intro h; exact h.2 (by omega)
    have hfin : (lastB f i < r.Bib ∧ r.Bib ≤ 9999 ∧ r.Keys.length = z.Keys.length ∧ r.Worlds.length = f.Pairs.length + 1) ∧ (∀ w, w ∈ r.Worlds → ∀ o, o ∈ w → OutOK f.Clocks o) ↔ RunnerOK f i := by
      rw [hok, hlast]
      constructor
      · rintro ⟨⟨⟨a, b⟩, c, d, e⟩, g⟩; exact ⟨⟨a, c, b, d, e⟩, g⟩
      · rintro ⟨⟨a, c, b, d, e⟩, g⟩; exact ⟨⟨⟨a, b⟩, c, d, e⟩, g⟩
    refine Eq.trans (bind_chk (p := lastB f i < r.Bib ∧ r.Bib ≤ 9999 ∧ r.Keys.length = z.Keys.length ∧ r.Worlds.length = f.Pairs.length + 1) ?_) (Eq.trans (chk_and' fun h => ?_) (chk_congr hfin fun _ => rfl))
    · rw [bif_dec, bif_dec, some_bind, bif_ne]
      by_cases h1 : r.Bib ≤ lastB f i
      · rw [if_pos h1]; exact ⟨true, rfl, by simp; omega⟩
      rw [if_neg h1]
      by_cases h2 : r.Bib > 9999
      · rw [if_pos h2]; exact ⟨true, rfl, by simp; omega⟩
      rw [if_neg h2]
      by_cases h3 : r.Keys.length = z.Keys.length
      · rw [if_pos (by omega)]
        refine ⟨_, rfl, ?_⟩
        rw [bne_iff_ne]
        omega
      · rw [if_neg (by omega)]; exact ⟨true, rfl, by simp [h3]⟩
    · rw [concat_eq hw1 hw2, some_bind, fuel_sub, field_L3 hk (by
        have : ∀ (ws : List (List TOutcome)), (∀ w, w ∈ ws → w.length ≤ 1000) → ws.flatten.length ≤ 1000 * ws.length := by
          intro ws
          induction ws with
          | nil => intro _; simp
          | cons a t ih =>
            intro h
            have h1 := ih (fun w hw => h w (by simp [hw]))
            have h2 := h a (by simp)
            simp only [List.flatten_cons, List.length_append, List.length_cons]
            omega
        have := this r.Worlds hw2
        omega)]
      refine chk_congr ?_ fun _ => ?_
      · simp only [List.mem_flatten]
        exact ⟨fun h w hw o ho => h o ⟨w, hw, ho⟩, fun h o ⟨w, hw, ho⟩ => h w hw o ho⟩
      · show m_field_Check_L2 f kk n r.Bib (w64 ((i : Int) + 1)) = _
        rw [w64_succ (by omega)]
  · show m_field_Check_L2 f kk (n + 1) _ ((f.Runners.length : Nat) : Int) = _
    rw [m_field_Check_L2]
    simp

end Go.Stop
