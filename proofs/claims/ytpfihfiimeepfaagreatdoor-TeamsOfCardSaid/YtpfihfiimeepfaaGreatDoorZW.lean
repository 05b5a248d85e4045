/- Plain laws about the models. No condition. -/
import Derived.Test.YtpfihfiimeepfaaGreatDoorZV
import Derived.KernelRfl
import Derived.Sort.AssemblyPlain
import Derived.Lib.BitFns
namespace Go.Stop
open Go Go.Abs
set_option linter.unusedVariables false
set_option linter.unusedSimpArgs false
theorem w64_of {n : Int} (h1 : -9223372036854775808 ≤ n) (h2 : n ≤ 9223372036854775807) : w64 n = n := by
  unfold w64; simp only [IntKind.wrap, IntKind.bits, IntKind.signed]; simp; omega
theorem w64_nat {n : Nat} (h : n ≤ 9223372036854775807) : w64 (n : Int) = n := w64_of (by omega) (by omega)
theorem w64_succ {i : Nat} (h : i < 9223372036854775807) : w64 ((i : Int) + 1) = ((i + 1 : Nat) : Int) := by
  rw [w64_of (by omega) (by omega)]; rfl
theorem idx_nat {α : Type} (l : List α) (i : Nat) : idx l (i : Int) = l[i]? := by
  unfold idx; simp
theorem idx_lt {α : Type} {l : List α} {i : Nat} (h : i < l.length) : idx l (i : Int) = some l[i] := by
  rw [idx_nat]; simp [h]
theorem some_bind {α β : Type} (a : α) (f : α → Option β) : (some a).bind f = f a := rfl
theorem dec_lt_nat (i n : Nat) : decide ((i : Int) < (n : Int)) = decide (i < n) := by simp
section
open Classical
noncomputable def chk {β : Type} (p : Prop) (r : β) (k : Option β) : Option β := if p then k else some r
theorem chk_loop {β : Type} {N : Nat} {f : Nat → Nat → Option β} {r : β} {ok : Nat → Prop} {k : Option β} (hs : ∀ n i, i < N → f (n + 1) i = chk (ok i) r (f n (i + 1))) (he : ∀ n, f (n + 1) N = k) :
    f (N + 1) 0 = chk (∀ i, i < N → ok i) r k := by
  unfold chk at hs ⊢
  have key : ∀ c i n, i + c = N → c ≤ n → f (n + 1) i = if (∀ j, i ≤ j → j < N → ok j) then k else some r := by
    intro c
    induction c with
    | zero =>
      intro i n h _
      have : i = N := by omega
      subst this
      rw [he, if_pos (fun j h1 h2 => absurd h2 (by omega))]
    | succ c ih =>
      intro i n h hn
      rw [hs n i (by omega)]
      obtain ⟨n, rfl⟩ : ∃ n', n = n' + 1 := ⟨n - 1, by omega⟩
      by_cases h1 : ok i
      · rw [if_pos h1, ih (i + 1) n (by omega) (by omega)]
        by_cases h2 : ∀ j, i + 1 ≤ j → j < N → ok j
        · rw [if_pos h2, if_pos]
          intro j hj hjN
          by_cases e : j = i
          · exact e ▸ h1
          · exact h2 j (by omega) hjN
        · rw [if_neg h2, if_neg]
          intro h3
          exact h2 fun j hj hjN => h3 j (by omega) hjN
      · rw [if_neg h1, if_neg]
        intro h3
        exact h1 (h3 i (by omega) (by omega))
  rw [key N 0 N (by omega) (by omega)]
  simp
end
theorem chk_pos {β : Type} {p : Prop} {r : β} {k : Option β} (h : p) : chk p r k = k := by unfold chk; rw [if_pos h]
theorem chk_neg {β : Type} {p : Prop} {r : β} {k : Option β} (h : ¬p) : chk p r k = some r := by unfold chk; rw [if_neg h]
theorem fuel_sub (n : Nat) : ((n : Int) - 0).toNat + 1 = n + 1 := by omega
def SegLt (y x : TSegment) : Prop := y.Mat < x.Mat ∨ y.Mat = x.Mat ∧ y.Epoch < x.Epoch
def SegOK (l : List TSegment) (i : Nat) : Prop := ∀ x, l[i]? = some x → 0 ≤ x.Mat ∧ x.Mat < 40 ∧ 0 ≤ x.Epoch ∧ x.Epoch ≤ 255 ∧ (-1099511627776 ≤ x.Anchor ∧ x.Anchor ≤ 1099511627776) ∧ (0 < i → ∀ y, l[i - 1]? = some y → SegLt y x)
def at2 (l : List (List Int)) (i j : Nat) : Int := ((l[i]?.getD [])[j]?).getD 0
def Entry (w : Int) : Prop := -2199023255552 ≤ w ∧ w ≤ 2199023255552
def RowOK (k : TClocks) (i : Nat) : Prop := (k.Far[i]?.getD []).length = k.Segments.length + 1 ∧ at2 k.Far i i = 0 ∧ ∀ j, j < k.Segments.length + 1 → Entry (at2 k.Far i j)
def TriOK (k : TClocks) : Prop := ∀ i, i < k.Segments.length + 1 → ∀ j, j < k.Segments.length + 1 → ∀ m, m < k.Segments.length + 1 → ¬at2 k.Far i m > w64 (at2 k.Far i j + at2 k.Far j m)
structure ClocksOK (k : TClocks) : Prop where
  few : k.Segments.length ≤ 511
  far : k.Far.length = k.Segments.length + 1
  seg : ∀ i, i < k.Segments.length → SegOK k.Segments i
  row : ∀ i, i < k.Far.length → RowOK k i
  tri : TriOK k
def OutOK (k : TClocks) (x : TOutcome) : Prop :=
  (x.Out = true → x.Seg = -1 ∧ x.Lo = 0 ∧ x.Hi = 0) ∧ (x.Out = false → -1 ≤ x.Seg ∧ x.Seg < k.Segments.length ∧ -288230376151711744 ≤ x.Lo ∧ x.Lo ≤ x.Hi ∧ x.Hi ≤ 288230376151711744)
def PairLt (q p : TPair) : Prop := q.A < p.A ∨ q.A = p.A ∧ q.B < p.B
def PairOK (l : List TPair) (i : Nat) : Prop := ∀ p, l[i]? = some p → 1 ≤ p.A ∧ p.A < p.B ∧ p.B ≤ 9999 ∧ (0 < i → ∀ q, l[i - 1]? = some q → PairLt q p)
def RunnerOK (f : TField) (i : Nat) : Prop := ∀ r, f.Runners[i]? = some r → (1 ≤ r.Bib ∧ r.Bib ≤ 9999 ∧ (0 < i → ∀ q, f.Runners[i - 1]? = some q → q.Bib < r.Bib) ∧ (∀ z, f.Runners[0]? = some z → r.Keys.length = z.Keys.length) ∧ r.Worlds.length = f.Pairs.length + 1) ∧ ∀ w, w ∈ r.Worlds → ∀ o, o ∈ w → OutOK f.Clocks o
def wl (l : List TRunner) (i w : Nat) : List TOutcome := ((l[i]?).bind fun r => r.Worlds[w]?).getD []
theorem wl_get {l : List TRunner} {i w : Nat} (hi : i < l.length) (hw : w < l[i].Worlds.length) : idx l[i].Worlds (w : Int) = some (wl l i w) := by
  rw [idx_lt hw]; unfold wl; simp [hi, hw]
def Poss (l : List TRunner) (w : Nat) : Prop := ∀ i, i < l.length → (wl l i w).length ≠ 0
structure FieldOK (f : TField) : Prop where
  clocks : ClocksOK f.Clocks
  size : f.Pairs.length ≤ 16 ∧ 1 ≤ f.Runners.length ∧ f.Runners.length ≤ 4000
  pair : ∀ i, i < f.Pairs.length → PairOK f.Pairs i
  runner : ∀ i, i < f.Runners.length → RunnerOK f i
  poss : ¬∀ w, w < f.Pairs.length + 1 → ¬Poss f.Runners w
theorem worlds_of {f : TField} (h : ∀ i, i < f.Runners.length → RunnerOK f i) : ∀ r, r ∈ f.Runners → r.Worlds.length = f.Pairs.length + 1 := by
  intro r hr
  obtain ⟨i, hi, rfl⟩ := List.mem_iff_getElem.1 hr
  exact (h i hi _ (by simp [hi])).1.2.2.2.2
theorem wl_mem {f : TField} (hf : FieldOK f) {i w : Nat} (hi : i < f.Runners.length) (hw : w < f.Pairs.length + 1) : wl f.Runners i w ∈ f.Runners[i].Worlds ∧ idx f.Runners[i].Worlds (w : Int) = some (wl f.Runners i w) := by
  have hl := worlds_of hf.runner _ (List.getElem_mem hi)
  have hw' : w < f.Runners[i].Worlds.length := by omega
  refine ⟨?_, wl_get hi hw'⟩
  unfold wl
  simp [hi, hw']
theorem wl_ok {f : TField} (hf : FieldOK f) {i w : Nat} (hi : i < f.Runners.length) (hw : w < f.Pairs.length + 1) : ∀ o, o ∈ wl f.Runners i w → OutOK f.Clocks o :=
  fun o ho => (hf.runner i hi _ (by simp [hi])).2 _ (wl_mem hf hi hw).1 o ho
theorem inv_loop {σ β : Type} {N : Nat} {f : Nat → Nat → σ → Option β} {k : σ → Option β} {I : Nat → σ → Prop} (hs : ∀ i s, i < N → I i s → ∃ s', I (i + 1) s' ∧ ∀ n, f (n + 1) i s = f n (i + 1) s') (he : ∀ n s, f (n + 1) N s = k s) {s0 : σ} (h0 : I 0 s0) :
    ∃ s, f (N + 1) 0 s0 = k s ∧ I N s := by
  have key : ∀ c i n s, i + c = N → c ≤ n → I i s → ∃ s', f (n + 1) i s = k s' ∧ I N s' := by
    intro c
    induction c with
    | zero =>
      intro i n s h _ hi
      have : i = N := by omega
      subst this
      exact ⟨s, he n s, hi⟩
    | succ c ih =>
      intro i n s h hn hi
      obtain ⟨s', h1, h2⟩ := hs i s (by omega) hi
      obtain ⟨n, rfl⟩ : ∃ n', n = n' + 1 := ⟨n - 1, by omega⟩
      rw [h2]
      exact ih (i + 1) n s' (by omega) (by omega) h1
  exact key N 0 N s0 (by omega) (by omega) h0
def kLt : List Int → List Int → Bool
  | _, [] => false
  | [], _ :: _ => true
  | a :: s, b :: t => if a = b then kLt s t else decide (a < b)
def vr (x : TOutcome) : Nat := (x.Seg + 1).toNat
def keys (f : TField) (i : Nat) : List Int := ((f.Runners[i]?).map (·.Keys)).getD []
abbrev far (f : TField) (i j : Nat) : Int := at2 f.Clocks.Far i j
abbrev nseg (f : TField) : Nat := f.Clocks.Segments.length
theorem vr_eq {k : TClocks} {x : TOutcome} (hk : ClocksOK k) (h : OutOK k x) (ho : x.Out = false) : w64 (x.Seg + 1) = (vr x : Int) ∧ vr x < k.Segments.length + 1 := by
  obtain ⟨h1, h2, _⟩ := h.2 ho
  have := hk.few
  unfold vr
  exact ⟨by rw [w64_of (by omega) (by omega)]; omega, by omega⟩
theorem far_bound {f : TField} (hf : FieldOK f) {i j : Nat} (hi : i < nseg f + 1) (hj : j < nseg f + 1) : -2199023255552 ≤ far f i j ∧ far f i j ≤ 2199023255552 :=
  (hf.clocks.row i (by rw [hf.clocks.far]; exact hi)).2.2 j hj
theorem far_self {f : TField} (hf : FieldOK f) {i : Nat} (hi : i < nseg f + 1) : far f i i = 0 :=
  (hf.clocks.row i (by rw [hf.clocks.far]; exact hi)).2.1
theorem far_tri {f : TField} (hf : FieldOK f) {i j m : Nat} (hi : i < nseg f + 1) (hj : j < nseg f + 1) (hm : m < nseg f + 1) : far f i m ≤ far f i j + far f j m := by
  have h := hf.clocks.tri i hi j hj m hm
  have h1 := far_bound hf hi hj
  have h2 := far_bound hf hj hm
  unfold far at h1 h2 ⊢
  rw [w64_of (by omega) (by omega)] at h
  omega
def front (f : TField) (k r : Nat) (d : Int) : Bool := decide (d < 0) || (decide (d = 0) && kLt (keys f k) (keys f r))
def forced (f : TField) (r : Nat) (x : TOutcome) (k : Nat) (y : TOutcome) : Bool := !y.Out && front f k r (y.Hi + far f (vr x) (vr y) - x.Lo)
def can (f : TField) (r : Nat) (x : TOutcome) (k : Nat) (y : TOutcome) : Bool := !y.Out && front f k r (y.Lo - far f (vr y) (vr x) - x.Hi)
abbrev nrun (f : TField) : Nat := f.Runners.length
abbrev npair (f : TField) : Nat := f.Pairs.length
theorem vr_lt {f : TField} (hf : FieldOK f) {x : TOutcome} (hx : OutOK f.Clocks x) (hxo : x.Out = false) : vr x < nseg f + 1 := (vr_eq hf.clocks hx hxo).2
theorem front_mono {f : TField} {k r : Nat} {d e : Int} (h : e ≤ d) (hd : front f k r d = true) : front f k r e = true := by
  unfold front at *
  simp only [Bool.or_eq_true, Bool.and_eq_true, decide_eq_true_eq] at *
  rcases hd with hd | ⟨hd, hk⟩
  · left; omega
  · by_cases he : e < 0
    · exact .inl he
    · exact .inr ⟨by omega, hk⟩
def sureXY (f : TField) (a b : Nat) (x y : TOutcome) : Bool := !x.Out && (y.Out || forced f b y a x)
def mayXY (f : TField) (a b : Nat) (x y : TOutcome) : Bool := !x.Out && (y.Out || can f b y a x)
structure IsAhead (f : TField) (a b : Nat) (c p : Bool) : Prop where
  sure : c = true ↔ a ≠ b ∧ ∀ w, w < npair f + 1 → Poss f.Runners w → ∀ x, x ∈ wl f.Runners a w → ∀ y, y ∈ wl f.Runners b w → sureXY f a b x y = true
  may : p = true ↔ a ≠ b ∧ ∃ w, w < npair f + 1 ∧ Poss f.Runners w ∧ ∃ x, x ∈ wl f.Runners a w ∧ ∃ y, y ∈ wl f.Runners b w ∧ mayXY f a b x y = true
theorem forced_can {f : TField} (hf : FieldOK f) {r k : Nat} {x y : TOutcome} (hx : OutOK f.Clocks x) (hy : OutOK f.Clocks y) (hxo : x.Out = false) (h : forced f r x k y = true) : can f r x k y = true := by
  unfold forced at h
  unfold can
  rw [Bool.and_eq_true] at h ⊢
  refine ⟨h.1, front_mono ?_ h.2⟩
  have hyo : y.Out = false := by simpa using h.1
  obtain ⟨_, _, b1, b2, b3⟩ := hx.2 hxo
  obtain ⟨_, _, b4, b5, b6⟩ := hy.2 hyo
  have h1 := far_tri hf (vr_lt hf hx hxo) (vr_lt hf hy hyo) (vr_lt hf hx hxo)
  rw [far_self hf (vr_lt hf hx hxo)] at h1
  omega
theorem some_world {f : TField} (hf : FieldOK f) : ∃ w, w < npair f + 1 ∧ Poss f.Runners w := by
  refine Classical.byContradiction fun h => hf.poss fun w hw hp => h ⟨w, hw, hp⟩
theorem some_out {f : TField} {k w : Nat} (hk : k < nrun f) (hp : Poss f.Runners w) : ∃ y, y ∈ wl f.Runners k w := by
  have := hp k hk
  exact ⟨(wl f.Runners k w)[0]'(by omega), List.getElem_mem _⟩
theorem IsAhead.imp {f : TField} (hf : FieldOK f) {a b : Nat} (ha : a < nrun f) (hb : b < nrun f) {c p : Bool} (h : IsAhead f a b c p) (hc : c = true) : p = true := by
  obtain ⟨h1, h2⟩ := h.sure.1 hc
  obtain ⟨w, hw, hp⟩ := some_world hf
  obtain ⟨x, hx⟩ := some_out ha hp
  obtain ⟨y, hy⟩ := some_out hb hp
  refine h.may.2 ⟨h1, w, hw, hp, x, hx, y, hy, ?_⟩
  have h3 := h2 w hw hp x hx y hy
  unfold sureXY at h3
  unfold mayXY
  rw [Bool.and_eq_true, Bool.or_eq_true] at h3 ⊢
  refine ⟨h3.1, ?_⟩
  cases hyo : y.Out with
  | true => exact .inl rfl
  | false =>
    rw [hyo] at h3
    rcases h3.2 with h4 | h4
    · cases h4
    · exact .inr (forced_can hf (wl_ok hf hb hw y hy) (wl_ok hf ha hw x hx) hyo h4)
theorem mapGet_put {α β : Type} [DecidableEq α] : ∀ (l : List (α × β)) (k k' : α) (v z : β), mapGet (mapPut l k v) k' z = if k' = k then v else mapGet l k' z
  | [], k, k', v, z => by
    show (bif decide (k' = k) then v else z) = _
    by_cases h : k' = k
    · rw [decide_eq_true h, cond_true, if_pos h]
    · rw [decide_eq_false h, cond_false, if_neg h]; rfl
  | p :: r, k, k', v, z => by
    rw [mapPut]
    by_cases h : k = p.1
    · rw [decide_eq_true h, cond_true, mapGet, mapGet]
      by_cases h' : k' = k
      · rw [decide_eq_true h', cond_true, if_pos h']
      · rw [decide_eq_false h', cond_false, if_neg h', ← h, decide_eq_false h', cond_false]
    · rw [decide_eq_false h, cond_false, mapGet, mapGet, mapGet_put r k k' v z]
      by_cases h' : k' = p.1
      · rw [decide_eq_true h', cond_true, cond_true, if_neg]
        intro e; exact h (e.symm.trans h')
      · rw [decide_eq_false h', cond_false, cond_false]
theorem w64c {i : Int} {n : Nat} (h : i = n) (hn : n < 9223372036854775807) : w64 i = (n : Int) := by
  subst h; exact w64_nat (by omega)
theorem idx_at {α : Type} {l : List α} {i : Nat} {a : α} (h : l[i]? = some a) : idx l (i : Int) = some a := by rw [idx_nat]; exact h
theorem drop_cons {α : Type} {l r : List α} {i : Nat} {a : α} (h : l.drop i = a :: r) : l[i]? = some a ∧ l.drop (i + 1) = r ∧ i < l.length := by
  have h1 : l[i]? = some a := by have := congrArg (·[0]?) h; simpa using this
  refine ⟨h1, ?_, (List.getElem?_eq_some_iff.1 h1).1⟩
  have := congrArg List.tail h
  simpa using this
theorem rangeL {α σ β : Type} {l : List α} {f : Nat → Nat → σ → Option β} {g : List α → σ → Option β} (I : Nat → σ → Prop)
    (h0 : ∀ n s, I l.length s → f (n + 1) l.length s = g [] s)
    (h1 : ∀ n i s a r, l.drop i = a :: r → l[i]? = some a → i < l.length → a ∈ l → I i s → (∀ s', I (i + 1) s' → f n (i + 1) s' = g r s') → f (n + 1) i s = g (a :: r) s) :
    ∀ s, I 0 s → f (l.length + 1) 0 s = g l s := by
  have key : ∀ r i n s, l.drop i = r → r.length ≤ n → I i s → i ≤ l.length → f (n + 1) i s = g r s := by
    intro r
    induction r with
    | nil =>
      intro i n s h _ hi hl
      have : i = l.length := by have := congrArg List.length h; simp at this; omega
      subst this
      exact h0 n s hi
    | cons a r ih =>
      intro i n s h hn hi hl
      obtain ⟨e1, e2, e3⟩ := drop_cons h
      obtain ⟨n, rfl⟩ : ∃ n', n = n' + 1 := ⟨n - 1, by simp at hn; omega⟩
      refine h1 (n + 1) i s a r h e1 e3 (List.mem_of_getElem? e1) hi fun s' hs' => ?_
      exact ih (i + 1) n s' e2 (by simpa using hn) hs' e3
  intro s hs
  exact key l 0 l.length s rfl (Nat.le_refl _) hs (Nat.zero_le _)
theorem rangeL0 {α β : Type} {l : List α} {f : Nat → Nat → Option β} {g : List α → Option β}
    (h0 : ∀ n, f (n + 1) l.length = g [])
    (h1 : ∀ n i a r, l.drop i = a :: r → l[i]? = some a → i < l.length → a ∈ l → f n (i + 1) = g r → f (n + 1) i = g (a :: r)) :
    f (l.length + 1) 0 = g l :=
  rangeL (σ := Unit) (f := fun n i _ => f n i) (g := fun l _ => g l) (fun _ _ => True) (fun n _ _ => h0 n) (fun n i _ a r e1 e2 e3 e4 _ h => h1 n i a r e1 e2 e3 e4 (h () trivial)) () trivial
theorem fuelL (n : Nat) : (((n : Nat) : Int) - 0).toNat + 1 = n + 1 := by omega
def okS (s : TSpan) : Prop := -70368744177664 ≤ s.Lo ∧ s.Lo ≤ s.Hi ∧ s.Hi ≤ 70368744177664
@[reducible, instance] def okSDec (s : TSpan) : Decidable (okS s) := by unfold okS; infer_instance
def inS (t : Int) (s : TSpan) : Prop := s.Lo ≤ t ∧ t ≤ s.Hi
def inL (t : Int) (l : List TSpan) : Prop := ∃ s, s ∈ l ∧ inS t s
def Tid : List TSpan → Prop
  | [] => True
  | s :: l => (s.Lo ≤ s.Hi ∧ ∀ x, x ∈ l → s.Hi + 1 < x.Lo) ∧ Tid l
theorem inL_nil (t : Int) : ¬inL t [] := fun ⟨_, h, _⟩ => by cases h
theorem inL_cons {t : Int} {s : TSpan} {l : List TSpan} : inL t (s :: l) ↔ inS t s ∨ inL t l := by
  constructor
  · rintro ⟨x, hx, h⟩
    rcases List.mem_cons.1 hx with rfl | hx
    · exact .inl h
    · exact .inr ⟨x, hx, h⟩
  · rintro (h | ⟨x, hx, h⟩)
    · exact ⟨s, List.mem_cons_self, h⟩
    · exact ⟨x, List.mem_cons_of_mem _ hx, h⟩
theorem Tid.ext : ∀ {a b : List TSpan}, Tid a → Tid b → (∀ t, inL t a ↔ inL t b) → a = b
  | [], [], _, _, _ => rfl
  | [], s :: l, _, hb, h => absurd ((h s.Lo).2 (inL_cons.2 (.inl ⟨Int.le_refl _, hb.1.1⟩))) (inL_nil _)
  | s :: l, [], ha, _, h => absurd ((h s.Lo).1 (inL_cons.2 (.inl ⟨Int.le_refl _, ha.1.1⟩))) (inL_nil _)
  | s :: l, s' :: l', ha, hb, h => by
    have low : ∀ {x : TSpan} {r : List TSpan} {t : Int}, Tid (x :: r) → inL t (x :: r) → x.Lo ≤ t := by
      intro x r t hx ht
      rcases inL_cons.1 ht with ht | ⟨y, hy, ht⟩
      · exact ht.1
      · have := hx.1.2 y hy; have := hx.1.1; have := ht.1; omega
    have gap : ∀ {x : TSpan} {r : List TSpan} {t : Int}, Tid (x :: r) → inL t r → x.Hi + 1 < t := by
      intro x r t hx ⟨y, hy, ht⟩
      have := hx.1.2 y hy; have := ht.1; omega
    have h1 : s.Lo = s'.Lo := by
      have a1 := low hb ((h s.Lo).1 (inL_cons.2 (.inl ⟨Int.le_refl _, ha.1.1⟩)))
      have a2 := low ha ((h s'.Lo).2 (inL_cons.2 (.inl ⟨Int.le_refl _, hb.1.1⟩)))
      omega
    have h2 : s.Hi = s'.Hi := by
      by_cases hlt : s.Hi < s'.Hi
      · have a1 := (h (s.Hi + 1)).2 (inL_cons.2 (.inl ⟨by have := ha.1.1; omega, by omega⟩))
        rcases inL_cons.1 a1 with a1 | a1
        · have := a1.2; omega
        · have := gap ha a1; omega
      · by_cases hgt : s'.Hi < s.Hi
        · have a1 := (h (s'.Hi + 1)).1 (inL_cons.2 (.inl ⟨by have := hb.1.1; omega, by omega⟩))
          rcases inL_cons.1 a1 with a1 | a1
          · have := a1.2; omega
          · have := gap hb a1; omega
        · omega
    have e : s = s' := by cases s; cases s'; simp_all
    subst e
    congr 1
    refine Tid.ext ha.2 hb.2 fun t => ⟨fun ht => ?_, fun ht => ?_⟩
    · rcases inL_cons.1 ((h t).1 (inL_cons.2 (.inr ht))) with h3 | h3
      · have := gap ha ht; have := h3.2; omega
      · exact h3
    · rcases inL_cons.1 ((h t).2 (inL_cons.2 (.inr ht))) with h3 | h3
      · have := gap hb ht; have := h3.2; omega
      · exact h3
theorem in33_eq (l : List Int) (n : Int) (hl : l.length < 9000000000000000000) : M111 l n = some (decide (n ∈ l)) := by
  unfold M111
  rw [fuelL]
  exact rangeL0 (l := l) (f := fun k i => M109 l n M110 k (i : Int)) (g := fun r => some (decide (n ∈ r)))
    (fun k => by
      show M109 l n M110 (k + 1) (l.length : Int) = _
      rw [M109, decide_eq_false (by omega), cond_false]; rfl)
    (fun k i a r h e1 e3 hm hk => by
      show M109 l n M110 (k + 1) (i : Int) = _
      rw [M109, decide_eq_true (by omega), cond_true, idx_at e1, some_bind]
      by_cases e : a = n
      · rw [show (a == n) = true from by simp [e], cond_true, decide_eq_true (by simp [e])]
      · rw [show (a == n) = false from by simpa using e, cond_false, w64c (i := (i : Int) + 1) (n := i + 1) (by omega) (by omega)]
        refine hk.trans ?_
        congr 1
        exact Bool.eq_iff_iff.2 (by rw [decide_eq_true_iff, decide_eq_true_iff, List.mem_cons]; exact ⟨fun h => .inr h, fun h => h.elim (fun h => absurd h.symm e) id⟩))
def bef (r : Nat → Int) (j i : Nat) : Bool := decide (r i < r j ∨ r j = r i ∧ j < i)
structure Ord (r : Nat → Int) (n : Nat) (s : List Nat) : Prop where
  perm : s.Perm (List.range n)
  pw : s.Pairwise fun x y => bef r x y = true
theorem Ord.len {r : Nat → Int} {n : Nat} {s : List Nat} (h : Ord r n s) : s.length = n := by simpa using h.perm.length_eq
def ba (l : List UInt8) : ByteArray := ⟨l.toArray⟩
theorem ba_size (l : List UInt8) : (ba l).size = l.length := by simp [ba, ByteArray.size]
theorem ba_toList (l : List UInt8) : (ba l).toList = l := by rw [ByteArray.toList_eq]; rfl
theorem ba_app (l r : List UInt8) : ba l ++ ba r = ba (l ++ r) := by
  apply ByteArray.ext
  simp [ba]
theorem catS_ba {l r : List UInt8} (h : l.length + r.length ≤ 9223372036854775807) : catS (ba l) (ba r) = some (ba (l ++ r)) := by
  unfold catS
  rw [ba_size, ba_size, if_pos h, ba_app]
theorem digit_nat {d : Nat} (h : d < 10) : (UInt8.ofNat (48 + d)).toNat = 48 + d := by
  rw [UInt8.toNat_ofNat']
  omega
theorem sort31 : ([3, 1] : List Int).mergeSort (fun x y => decide (x ≤ y)) = [1, 3] := by simp [List.mergeSort, List.MergeSort.Internal.splitInTwo]
theorem itoa12 : M92 12 = some (ByteArray.mk #[49, 50]) := by
  unfold M92
  rw [if_pos (by decide)]
  rw [show Lib.itoa 12 = [49, 50] from by decide +kernel]
theorem of_a : M94 ((([({ Bib := 3, Distance := 0, Wave := 0, Slot := 0, Age := 0, Chip := 0, Team := 12, Lot := 0 } : TStarter), ({ Bib := 1, Distance := 0, Wave := 0, Slot := 0, Age := 0, Chip := 0, Team := 12, Lot := 0 } : TStarter)] : List TStarter))) 2 = some [⟨ByteArray.mk #[49, 50], [1, 3], 2⟩] := by
  unfold M94
  rw [if_pos (by decide)]
  rw [show List.foldl grp34 [] ((([({ Bib := 3, Distance := 0, Wave := 0, Slot := 0, Age := 0, Chip := 0, Team := 12, Lot := 0 } : TStarter), ({ Bib := 1, Distance := 0, Wave := 0, Slot := 0, Age := 0, Chip := 0, Team := 12, Lot := 0 } : TStarter)] : List TStarter))) = [(12, [3, 1])] from by decide +kernel]
  rw [show (([(12, [3, 1])] : List (Int × List Int)).map (·.1)) = [12] from rfl, List.mergeSort_singleton, M93]
  rw [itoa12]
  simp only [Option.bind_some]
  rw [show mapGet ([(12, [3, 1])] : List (Int × List Int)) 12 [] = [3, 1] from rfl, sort31]
  decide +kernel
theorem of_b : M94 ((([] : List TStarter))) 3 = some [] := by
  unfold M94
  rw [if_pos (by decide)]
  simp [M93]
theorem of_c : M94 ((([({ Bib := 3, Distance := 0, Wave := 0, Slot := 0, Age := 0, Chip := 0, Team := 12, Lot := 0 } : TStarter)] : List TStarter))) 2 = some [] := by
  unfold M94
  rw [if_pos (by decide)]
  rw [show List.foldl grp34 [] ((([({ Bib := 3, Distance := 0, Wave := 0, Slot := 0, Age := 0, Chip := 0, Team := 12, Lot := 0 } : TStarter)] : List TStarter))) = [(12, [3])] from by decide +kernel]
  rw [show (([(12, [3])] : List (Int × List Int)).map (·.1)) = [12] from rfl, List.mergeSort_singleton, M93]
  rw [itoa12]
  simp only [Option.bind_some]
  rw [show mapGet ([(12, [3])] : List (Int × List Int)) 12 [] = [3] from rfl, List.mergeSort_singleton]
  decide +kernel
theorem sane34_true : M105 = some true := by
  unfold M105
  rw [of_a, of_b, of_c]
  decide +kernel
def bibOK (l : List Int) (i : Nat) : Prop := 1 ≤ (l[i]?).getD 0 ∧ (l[i]?).getD 0 ≤ 9999 ∧ (0 < i → (l[i - 1]?).getD 0 < (l[i]?).getD 0)
structure TeamOK (t : TTeam) : Prop where
  name : 1 ≤ t.Name.size ∧ t.Name.size ≤ 24
  len : t.Bibs.length ≤ 16
  best : 1 ≤ t.Best ∧ t.Best ≤ t.Bibs.length
  bibs : ∀ i, i < t.Bibs.length → bibOK t.Bibs i
theorem getD_at {l : List Int} {i : Nat} (h : i < l.length) : (l[i]?).getD 0 = l[i] := by simp [h]
theorem team_round {l : List Int} {i : Nat} (hi : i < l.length) (hl : l.length ≤ 16) (k : Option Bool) :
    (Option.bind (bif decide (l[i] < 1) then some true else bif decide (l[i] > 9999) then some true else bif decide ((i : Int) > 0) then (idx l (w64 ((i : Int) - 1))).bind fun x_21 => some (decide (l[i] ≤ x_21)) else some false) fun v_16 =>
     bif v_16 then some false else k) = chk (bibOK l i) false k := by
  unfold chk bibOK
  rw [getD_at hi]
  by_cases h1 : l[i] < 1
  · rw [decide_eq_true h1, cond_true, if_neg (by omega)]; rfl
  · rw [decide_eq_false h1, cond_false]
    by_cases h2 : l[i] > 9999
    · rw [decide_eq_true h2, cond_true, if_neg (by omega)]; rfl
    · rw [decide_eq_false h2, cond_false]
      by_cases h3 : 0 < i
      · obtain ⟨j, rfl⟩ : ∃ j, i = j + 1 := ⟨i - 1, by omega⟩
        rw [decide_eq_true (by omega), cond_true, w64c (n := j) (by omega) (by omega), idx_lt (by omega), some_bind, some_bind]
        rw [show j + 1 - 1 = j from rfl, getD_at (by omega)]
        by_cases h4 : l[j + 1] ≤ l[j]
        · rw [decide_eq_true h4, cond_true, if_neg (by omega)]
        · rw [decide_eq_false h4, cond_false, if_pos (by omega)]
      · rw [decide_eq_false (by omega), cond_false, if_pos (by omega)]; rfl
theorem isTeam_L1 {t : TTeam} (hl : t.Bibs.length ≤ 16) : M2 t M3 (t.Bibs.length + 1) 0 = chk (∀ i, i < t.Bibs.length → bibOK t.Bibs i) false (some true) := by
  have := chk_loop (N := t.Bibs.length) (f := fun n i => M2 t M3 n (i : Int)) (r := false) (ok := bibOK t.Bibs) (k := some true) (fun n i hi => by
    show M2 t M3 (n + 1) (i : Int) = _
    rw [M2, dec_lt_nat, decide_eq_true hi, cond_true, idx_lt hi, some_bind, w64_succ (by omega)]
    exact team_round hi hl _) (fun n => by
    show M2 t M3 (n + 1) ((t.Bibs.length : Nat) : Int) = _
    rw [M2]; simp [M3])
  exact this
theorem valid_L1 {t : TTeam} (hl : t.Bibs.length ≤ 16) : M106 t M107 (t.Bibs.length + 1) 0 = chk (∀ i, i < t.Bibs.length → bibOK t.Bibs i) false (some true) := by
  have := chk_loop (N := t.Bibs.length) (f := fun n i => M106 t M107 n (i : Int)) (r := false) (ok := bibOK t.Bibs) (k := some true) (fun n i hi => by
    show M106 t M107 (n + 1) (i : Int) = _
    rw [M106, dec_lt_nat, decide_eq_true hi, cond_true, idx_lt hi, w64_succ (by omega)]
    simp only [some_bind]
    exact team_round hi hl _) (fun n => by
    show M106 t M107 (n + 1) ((t.Bibs.length : Nat) : Int) = _
    rw [M106]; simp [M107])
  exact this
def teamPre (t : TTeam) : Prop := (1 ≤ t.Name.size ∧ t.Name.size ≤ 24) ∧ t.Bibs.length ≤ 16 ∧ 1 ≤ t.Best ∧ t.Best ≤ t.Bibs.length
theorem teamOK_iff (t : TTeam) : TeamOK t ↔ teamPre t ∧ ∀ i, i < t.Bibs.length → bibOK t.Bibs i :=
  ⟨fun h => ⟨⟨h.name, h.len, h.best⟩, h.bibs⟩, fun ⟨⟨h1, h2, h3⟩, h4⟩ => ⟨h1, h2, h3, h4⟩⟩
theorem isTeam_eq (t : TTeam) : M4 t = chk (TeamOK t) false (some true) := by
  unfold M4
  by_cases hp : teamPre t
  · obtain ⟨⟨h1, h2⟩, h3, h4, h5⟩ := hp
    rw [decide_eq_false (by omega), decide_eq_false (by omega), decide_eq_false (by omega), decide_eq_false (by omega), decide_eq_false (by omega)]
    simp only [Bool.or_false, cond_false, fuel_sub]
    rw [isTeam_L1 h3]
    unfold chk
    by_cases hb : ∀ i, i < t.Bibs.length → bibOK t.Bibs i
    · rw [if_pos hb, if_pos ((teamOK_iff t).2 ⟨⟨⟨h1, h2⟩, h3, h4, h5⟩, hb⟩)]
    · rw [if_neg hb, if_neg fun h => hb h.bibs]
  · have hn : ¬TeamOK t := fun h => hp ((teamOK_iff t).1 h).1
    have hb : ((decide ((((t.Name.size : Nat) : Int)) < 1)) || ((decide ((((t.Name.size : Nat) : Int)) > 24)) || ((decide ((((t.Bibs).length : Int)) > 16)) || ((decide (t.Best < 1)) || (decide (t.Best > (((t.Bibs).length : Int)))))))) = true := by
      simp only [Bool.or_eq_true, decide_eq_true_eq]
      unfold teamPre at hp
      omega
    rw [hb, cond_true]
    unfold chk
    rw [if_neg hn]
theorem valid_eq (t : TTeam) : M108 t = chk (TeamOK t) false (some true) := by
  unfold M108
  by_cases hp : teamPre t
  · obtain ⟨⟨h1, h2⟩, h3, h4, h5⟩ := hp
    rw [decide_eq_false (by omega), decide_eq_false (by omega), decide_eq_false (by omega), decide_eq_false (by omega), decide_eq_false (by omega), decide_eq_false (by omega)]
    simp only [Bool.or_false, cond_false, fuel_sub]
    rw [valid_L1 h3]
    unfold chk
    by_cases hb : ∀ i, i < t.Bibs.length → bibOK t.Bibs i
    · rw [if_pos hb, if_pos ((teamOK_iff t).2 ⟨⟨⟨h1, h2⟩, h3, h4, h5⟩, hb⟩)]
    · rw [if_neg hb, if_neg fun h => hb h.bibs]
  · have hn : ¬TeamOK t := fun h => hp ((teamOK_iff t).1 h).1
    have hb : ((decide ((((t.Name.size : Nat) : Int)) < 1)) || ((decide ((((t.Name.size : Nat) : Int)) > 24)) || ((decide ((((t.Bibs).length : Int)) < 1)) || ((decide ((((t.Bibs).length : Int)) > 16)) || ((decide (t.Best < 1)) || (decide (t.Best > (((t.Bibs).length : Int))))))))) = true := by
      simp only [Bool.or_eq_true, decide_eq_true_eq]
      unfold teamPre at hp
      omega
    rw [hb, cond_true]
    unfold chk
    rw [if_neg hn]
def srt (l : List Int) : List Int := l.mergeSort fun x y => decide (x ≤ y)
theorem srt_perm (l : List Int) : (srt l).Perm l := List.mergeSort_perm _ _
theorem srt_len (l : List Int) : (srt l).length = l.length := (srt_perm l).length_eq
theorem srt_pw (l : List Int) : (srt l).Pairwise (· ≤ ·) := by
  have := List.pairwise_mergeSort (le := fun x y : Int => decide (x ≤ y)) (fun a b c h1 h2 => by simp only [decide_eq_true_eq] at *; omega) (fun a b => by simp only [Bool.or_eq_true, decide_eq_true_eq]; omega) l
  exact this.imp fun h => by simpa using h
theorem idx0_cons {α : Type} (a : α) (l : List α) : idx (a :: l) 0 = some a := rfl
theorem srt_mem {l : List Int} {x : Int} : x ∈ srt l ↔ x ∈ l := (srt_perm l).mem_iff
theorem srt_rise {l : List Int} (h : l.Nodup) : (srt l).Pairwise (· < ·) := by
  have h1 : (srt l).Nodup := (srt_perm l).nodup_iff.2 h
  have h2 := srt_pw l
  rw [List.pairwise_iff_getElem] at h2 ⊢
  intro i j hi hj hij
  have h3 := h2 i j hi hj hij
  have h4 : (srt l)[i] ≠ (srt l)[j] := fun e => by
    have := (List.getElem_inj h1).1 e
    omega
  omega
theorem compact_upto {l : List Int} (h : l.Pairwise (· ≤ ·)) : ∀ m, m ≤ l.length → (Lib.compactUpTo l.toArray m).Pairwise (· < ·) ∧ ∀ x, x ∈ Lib.compactUpTo l.toArray m ↔ ∃ j, ∃ hj : j < l.length, j < m ∧ l[j] = x
  | 0, _ => ⟨by simp [Lib.compactUpTo], fun x => by simp [Lib.compactUpTo]⟩
  | m + 1, hm => by
    obtain ⟨h1, h2⟩ := compact_upto h m (by omega)
    have hg : ∀ j (hj : j < l.length), l.toArray[j]! = l[j] := fun j hj => by simp [hj]
    rw [List.pairwise_iff_getElem] at h
    rw [Lib.compactUpTo_succ]
    by_cases hk : Lib.keeps l.toArray m = true
    · rw [if_pos hk]
      constructor
      · rw [List.pairwise_append]
        refine ⟨h1, by simp, fun a ha b hb => ?_⟩
        rw [List.mem_singleton] at hb
        subst hb
        rw [hg m (by omega)]
        obtain ⟨j, hj, hjm, rfl⟩ := (h2 a).1 ha
        have hk' : m = 0 ∨ l.toArray[m]! ≠ l.toArray[m - 1]! := by simpa [Lib.keeps] using hk
        rcases hk' with hk' | hk'
        · omega
        · rw [hg m (by omega), hg (m - 1) (by omega)] at hk'
          have a1 := h (m - 1) m (by omega) (by omega) (by omega)
          have a2 : l[j] ≤ l[m - 1] := by
            by_cases e : j = m - 1
            · subst e; exact Int.le_refl _
            · exact h j (m - 1) hj (by omega) (by omega)
          omega
      · intro x
        rw [List.mem_append, h2, List.mem_singleton, hg m (by omega)]
        constructor
        · rintro (⟨j, hj, hjm, e⟩ | e)
          · exact ⟨j, hj, by omega, e⟩
          · exact ⟨m, by omega, by omega, e.symm⟩
        · rintro ⟨j, hj, hjm, e⟩
          by_cases hjm' : j = m
          · subst hjm'; exact .inr e.symm
          · exact .inl ⟨j, hj, by omega, e⟩
    · rw [if_neg hk, List.append_nil]
      have hk' : ¬(m = 0 ∨ l.toArray[m]! ≠ l.toArray[m - 1]!) := by simpa [Lib.keeps] using hk
      rw [not_or, Classical.not_not] at hk'
      rw [hg m (by omega), hg (m - 1) (by omega)] at hk'
      refine ⟨h1, fun x => ?_⟩
      rw [h2]
      constructor
      · rintro ⟨j, hj, hjm, e⟩
        exact ⟨j, hj, by omega, e⟩
      · rintro ⟨j, hj, hjm, e⟩
        by_cases hjm' : j = m
        · subst hjm'
          exact ⟨j - 1, by omega, by omega, by rw [← e, hk'.2]⟩
        · exact ⟨j, hj, by omega, e⟩
theorem compact_srt (l : List Int) : (Lib.compact (srt l)).Pairwise (· < ·) ∧ ∀ x, x ∈ Lib.compact (srt l) ↔ x ∈ l := by
  obtain ⟨h1, h2⟩ := compact_upto (srt_pw l) (srt l).length (Nat.le_refl _)
  refine ⟨h1, fun x => ?_⟩
  unfold Lib.compact
  rw [h2, ← srt_mem (l := l), List.mem_iff_getElem]
  constructor
  · rintro ⟨j, hj, _, e⟩; exact ⟨j, hj, e⟩
  · rintro ⟨j, hj, e⟩; exact ⟨j, hj, hj, e⟩
theorem digB (d : Nat) (h : d < 10) : strOfNums [IntKind.wrap .u8 (48 + IntKind.wrap .u8 (d : Int))] = ba [UInt8.ofNat (48 + d)] := by
  have hall : ∀ d : Fin 10, IntKind.wrap .u8 (48 + IntKind.wrap .u8 (d.val : Int)) = ((48 + d.val : Nat) : Int) := by decide +kernel
  have := hall ⟨d, h⟩
  simp only at this
  unfold strOfNums ba
  rw [this]
  simp only [List.map_cons, List.map_nil, Int.toNat_natCast]
theorem dec_loop {g : Nat → Int → ByteArray → Option ByteArray}
    (hs : ∀ n v s, g (n + 1) v s = bif decide (v > 0) then (catS (strOfNums [IntKind.wrap .u8 (48 + IntKind.wrap .u8 (Int.tmod v 10))]) s).bind fun s => g n (w64 (Int.tdiv v 10)) s else some s) :
    ∀ (m u : Nat) (s : List UInt8), u ≤ m → s.length + u ≤ 9223372036854775807 → g (m + 1) (u : Int) (ba s) = some (ba ((if u = 0 then [] else Lib.decDigits u) ++ s)) := by
  intro m
  induction m with
  | zero =>
    intro u s hu _
    obtain rfl : u = 0 := by omega
    rw [hs, decide_eq_false (by omega), cond_false]; rfl
  | succ m ih =>
    intro u s hu hb
    rw [hs]
    by_cases h0 : u = 0
    · subst h0
      rw [decide_eq_false (by omega), cond_false]; rfl
    · have hm : Int.tmod (u : Int) 10 = ((u % 10 : Nat) : Int) := by rw [Int.tmod_eq_emod_of_nonneg (by omega)]; rfl
      have hd : Int.tdiv (u : Int) 10 = ((u / 10 : Nat) : Int) := by rw [Int.tdiv_eq_ediv_of_nonneg (by omega)]; rfl
      rw [decide_eq_true (by omega), cond_true, hm, hd, digB _ (by omega), catS_ba (by simp; omega), some_bind, w64_of (by omega) (by omega), ih (u / 10) _ (by omega) (by simp; omega), if_neg h0]
      congr 2
      by_cases h1 : u < 10
      · rw [if_pos (by omega), Lib.decDigits_one h1, Nat.mod_eq_of_lt h1]; rfl
      · rw [if_neg (by omega)]
        conv => rhs; rw [Lib.decDigits, dif_neg h1]
        simp
theorem text34_eq {u : Nat} (h0 : 0 < u) (hu : u ≤ 9223372036854775807) : M113 (u : Int) = some (ba (Lib.decDigits u)) := by
  unfold M113
  have := dec_loop (g := M112) (fun n v s => by rw [M112]) u u [] (Nat.le_refl _) (by simpa using hu)
  rw [if_neg (by omega), List.append_nil] at this
  rw [show ((u : Int) - 0 : Int).toNat + 1 = u + 1 from by omega]
  rw [show (ByteArray.mk #[]) = ba [] from rfl, this]; rfl
theorem itoa34_eq {u : Nat} (hu : u ≤ 9223372036854775807) : M92 (u : Int) = some (ba (Lib.decDigits u)) := by
  unfold M92
  rw [if_pos (by omega)]
  unfold Lib.itoa ba
  rw [if_neg (by omega)]; simp
def valD (l : List UInt8) : Nat := l.foldl (fun n c => n * 10 + (c.toNat - 48)) 0
theorem valD_dd : ∀ (m u : Nat), u ≤ m → valD (Lib.decDigits u) = u := by
  intro m
  induction m with
  | zero =>
    intro u hu
    obtain rfl : u = 0 := by omega
    rw [Lib.decDigits_one (by omega)]; rfl
  | succ m ih =>
    intro u hu
    by_cases h : u < 10
    · rw [Lib.decDigits_one h]
      simp only [valD, List.foldl_cons, List.foldl_nil]
      rw [digit_nat h]; omega
    · rw [Lib.decDigits, dif_neg h]
      have := ih (u / 10) (by omega)
      unfold valD at this ⊢
      rw [List.foldl_append, this]
      simp only [List.foldl_cons, List.foldl_nil]
      rw [digit_nat (Nat.mod_lt _ (by omega))]; omega
theorem dd_inj {u v : Nat} (h : Lib.decDigits u = Lib.decDigits v) : u = v := by
  rw [← valD_dd u u (Nat.le_refl _), ← valD_dd v v (Nat.le_refl _), h]
theorem ba_inj {l m : List UInt8} (h : ba l = ba m) : l = m := by
  have := congrArg ByteArray.toList h
  rwa [ba_toList, ba_toList] at this
noncomputable def tb (p : Prop) : Bool := @decide p (Classical.propDecidable p)
theorem tb_pos {p : Prop} (h : p) : tb p = true := by unfold tb; simp [h]
theorem tb_neg {p : Prop} (h : ¬p) : tb p = false := by unfold tb; simp [h]
theorem tb_iff {p : Prop} : tb p = true ↔ p := ⟨fun h => Classical.byContradiction fun hn => (by rw [tb_neg hn] at h; cases h), tb_pos⟩
theorem chk_tb (p : Prop) : chk p false (some true) = some (tb p) := by
  by_cases h : p
  · rw [chk_pos h, tb_pos h]
  · rw [chk_neg h, tb_neg h]
def stOK (s : TStarter) : Bool := decide (s.Team > 0) && (decide (s.Bib ≥ 1) && decide (s.Bib ≤ 9999))
theorem stOK_iff (s : TStarter) : stOK s = true ↔ 0 < s.Team ∧ 1 ≤ s.Bib ∧ s.Bib ≤ 9999 := by simp [stOK]
def bibsK (x : List TStarter) (k : Int) : List Int := (x.filter fun s => stOK s && s.Team == k).map (·.Bib)
theorem bibsK_mem {x : List TStarter} {k b : Int} : b ∈ bibsK x k ↔ ∃ s, s ∈ x ∧ stOK s = true ∧ s.Team = k ∧ s.Bib = b := by
  unfold bibsK
  simp only [List.mem_map, List.mem_filter, Bool.and_eq_true, beq_iff_eq]
  constructor
  · rintro ⟨s, ⟨h1, h2, h3⟩, h4⟩; exact ⟨s, h1, h2, h3, h4⟩
  · rintro ⟨s, h1, h2, h3, h4⟩; exact ⟨s, ⟨h1, h2, h3⟩, h4⟩
theorem grp_get : ∀ (x : List TStarter) (gs : List (Int × List Int)) (k : Int), mapGet (x.foldl grp34 gs) k [] = mapGet gs k [] ++ bibsK x k
  | [], gs, k => by simp [bibsK]
  | s :: x, gs, k => by
    rw [List.foldl_cons, grp_get x]
    have e : grp34 gs s = bif stOK s then mapPut gs s.Team (mapGet gs s.Team [] ++ [s.Bib]) else gs := rfl
    rw [e]
    cases ho : stOK s with
    | false => rw [cond_false]; unfold bibsK; rw [List.filter_cons, ho]; rfl
    | true =>
      rw [cond_true, mapGet_put]
      unfold bibsK
      rw [List.filter_cons, ho]
      by_cases hk : k = s.Team
      · rw [if_pos hk, if_pos (by simp [hk]), List.map_cons, hk]; simp
      · rw [if_neg hk, if_neg (by simp; exact fun h => hk h.symm)]
theorem put_keys {β : Type} : ∀ (l : List (Int × β)) (k : Int) (v : β) (y : Int), y ∈ (mapPut l k v).map (·.1) ↔ y = k ∨ y ∈ l.map (·.1)
  | [], k, v, y => by simp [mapPut]
  | p :: r, k, v, y => by
    rw [mapPut]
    by_cases h : k = p.1
    · rw [decide_eq_true h, cond_true]; simp [h]
    · rw [decide_eq_false h, cond_false, List.map_cons, List.mem_cons, put_keys r, List.map_cons, List.mem_cons]
      constructor
      · rintro (h1 | h1 | h1)
        · exact .inr (.inl h1)
        · exact .inl h1
        · exact .inr (.inr h1)
      · rintro (h1 | h1 | h1)
        · exact .inr (.inl h1)
        · exact .inl h1
        · exact .inr (.inr h1)
theorem put_nodup {β : Type} : ∀ {l : List (Int × β)} {k : Int} {v : β}, (l.map (·.1)).Nodup → ((mapPut l k v).map (·.1)).Nodup
  | [], k, v, _ => by simp [mapPut]
  | p :: r, k, v, h => by
    rw [List.map_cons, List.nodup_cons] at h
    rw [mapPut]
    by_cases hk : k = p.1
    · rw [decide_eq_true hk, cond_true, List.map_cons, List.nodup_cons, hk]; exact h
    · rw [decide_eq_false hk, cond_false, List.map_cons, List.nodup_cons, put_keys]
      refine ⟨?_, put_nodup h.2⟩
      rintro (h1 | h1)
      · exact hk h1.symm
      · exact h.1 h1
theorem grp_keys : ∀ (x : List TStarter) (gs : List (Int × List Int)), (gs.map (·.1)).Nodup → ((x.foldl grp34 gs).map (·.1)).Nodup ∧ ∀ k, k ∈ (x.foldl grp34 gs).map (·.1) ↔ k ∈ gs.map (·.1) ∨ ∃ s, s ∈ x ∧ stOK s = true ∧ s.Team = k
  | [], gs, h => ⟨h, fun k => by simp⟩
  | s :: x, gs, h => by
    have e : grp34 gs s = bif stOK s then mapPut gs s.Team (mapGet gs s.Team [] ++ [s.Bib]) else gs := rfl
    cases ho : stOK s with
    | false =>
      rw [ho, cond_false] at e
      obtain ⟨h1, h2⟩ := grp_keys x (grp34 gs s) (by rw [e]; exact h)
      rw [List.foldl_cons]
      refine ⟨h1, fun k => ?_⟩
      rw [h2, e]
      constructor
      · rintro (h3 | ⟨t, h3, h4, h5⟩)
        · exact .inl h3
        · exact .inr ⟨t, List.mem_cons_of_mem _ h3, h4, h5⟩
      · rintro (h3 | ⟨t, h3, h4, h5⟩)
        · exact .inl h3
        · rcases List.mem_cons.1 h3 with h3 | h3
          · subst h3; rw [ho] at h4; cases h4
          · exact .inr ⟨t, h3, h4, h5⟩
    | true =>
      rw [ho, cond_true] at e
      obtain ⟨h1, h2⟩ := grp_keys x (grp34 gs s) (by rw [e]; exact put_nodup h)
      rw [List.foldl_cons]
      refine ⟨h1, fun k => ?_⟩
      rw [h2, e, put_keys]
      constructor
      · rintro ((h3 | h3) | ⟨t, h3, h4, h5⟩)
        · exact .inr ⟨s, List.mem_cons_self, ho, h3.symm⟩
        · exact .inl h3
        · exact .inr ⟨t, List.mem_cons_of_mem _ h3, h4, h5⟩
      · rintro (h3 | ⟨t, h3, h4, h5⟩)
        · exact .inl (.inr h3)
        · rcases List.mem_cons.1 h3 with h3 | h3
          · subst h3; exact .inl (.inl h5.symm)
          · exact .inr ⟨t, h3, h4, h5⟩
def teamK (x : List TStarter) (best : Int) (k : Int) : TTeam := ⟨ba (Lib.decDigits k.toNat), Lib.compact (srt (bibsK x k)), best⟩
noncomputable def okK (x : List TStarter) (best : Int) (k : Int) : Bool := tb (TeamOK (teamK x best k))
theorem of_L2 {x : List TStarter} {best : Int} {gs : List (Int × List Int)} (hg : ∀ k, mapGet gs k [] = bibsK x k) : ∀ (ks : List Int) (l : List TTeam), (∀ k, k ∈ ks → 0 < k ∧ k ≤ 9223372036854775807) →
    M93 best gs ks l = some (l ++ (ks.filter (okK x best)).map (teamK x best))
  | [], l, _ => by rw [M93]; simp
  | k :: ks, l, h => by
    obtain ⟨h1, h2⟩ := h k List.mem_cons_self
    have hk : ((k.toNat : Nat) : Int) = k := by omega
    have hi := itoa34_eq (u := k.toNat) (by omega)
    rw [hk] at hi
    rw [M93, hi, some_bind, hg]
    show (M4 (teamK x best k)).bind _ = _
    rw [isTeam_eq, chk_tb, some_bind]
    rw [show (⟨ba (Lib.decDigits k.toNat), Lib.compact ((bibsK x k).mergeSort fun x y => decide (x ≤ y)), best⟩ : TTeam) = teamK x best k from rfl, of_L2 hg ks _ (fun k hk => h k (List.mem_cons_of_mem _ hk)), List.filter_cons]
    unfold okK
    cases tb (TeamOK (teamK x best k)) with
    | true => rw [cond_true, if_pos rfl, List.map_cons]; simp
    | false => rw [cond_false, if_neg (by simp)]
def keysK (x : List TStarter) : List Int := (x.foldl grp34 []).map (·.1)
theorem keysK_mem {x : List TStarter} {k : Int} : k ∈ keysK x ↔ ∃ s, s ∈ x ∧ stOK s = true ∧ s.Team = k := by
  unfold keysK
  rw [(grp_keys x [] (by simp)).2]; simp
theorem keysK_nodup (x : List TStarter) : (keysK x).Nodup := (grp_keys x [] (by simp)).1
noncomputable def ofK (x : List TStarter) (best : Int) : List TTeam := ((srt (keysK x)).filter (okK x best)).map (teamK x best)
theorem Of34_eq {x : List TStarter} (hx : wL wTStarter x) (hl : x.length ≤ 1000) (best : Int) : M94 x best = some (ofK x best) := by
  have ht : ∀ s, s ∈ x → -9223372036854775808 ≤ s.Team ∧ s.Team ≤ 9223372036854775807 := fun s hs => by
    have := hx.2 s hs
    unfold wTStarter at this
    exact this.2.2.2.2.2.2.1
  unfold M94
  rw [if_pos ⟨hl, ht⟩, of_L2 (x := x) (fun k => by rw [grp_get]; rfl)]
  · rfl
  · intro k hk
    have hk : k ∈ srt (keysK x) := hk
    rw [srt_mem, keysK_mem] at hk
    obtain ⟨s, h1, h2, h3⟩ := hk
    rw [stOK_iff] at h2
    have := (ht s h1).2
    omega
/- The reference. -/
theorem ofK_len (x : List TStarter) (best : Int) : (ofK x best).length ≤ x.length := by
  have hk : ∀ (x : List TStarter) (gs : List (Int × List Int)), (x.foldl grp34 gs).length ≤ gs.length + x.length := by
    intro x
    induction x with
    | nil => intro gs; simp
    | cons s x ih =>
      intro gs
      have h1 := ih (grp34 gs s)
      have h2 : (grp34 gs s).length ≤ gs.length + 1 := by
        have e : grp34 gs s = bif stOK s then mapPut gs s.Team (mapGet gs s.Team [] ++ [s.Bib]) else gs := rfl
        rw [e]
        have hput : ∀ (l : List (Int × List Int)) (k : Int) (v : List Int), (mapPut l k v).length ≤ l.length + 1 := by
          intro l
          induction l with
          | nil => intro k v; simp [mapPut]
          | cons p r ih => intro k v; rw [mapPut]; cases decide (k = p.1) <;> simp; have := ih k v; omega
        cases stOK s with
        | true => exact hput _ _ _
        | false => simp
      rw [List.foldl_cons, List.length_cons]; omega
  have h1 := hk x []
  unfold ofK
  rw [List.length_map]
  refine Nat.le_trans (List.length_filter_le _ _) ?_
  rw [srt_len]
  unfold keysK
  rw [List.length_map]
  simpa using h1
noncomputable def okKeys (x : List TStarter) (best : Int) : List Int := (srt (keysK x)).filter (okK x best)
theorem ofK_map (x : List TStarter) (best : Int) : ofK x best = (okKeys x best).map (teamK x best) := rfl
theorem okKeys_rise (x : List TStarter) (best : Int) : (okKeys x best).Pairwise (· < ·) := (srt_rise (keysK_nodup x)).filter _
theorem okKeys_mem {x : List TStarter} {best k : Int} (h : k ∈ okKeys x best) : TeamOK (teamK x best k) ∧ 0 < k := by
  unfold okKeys at h
  obtain ⟨h1, h2⟩ := List.mem_filter.1 h
  rw [srt_mem, keysK_mem] at h1
  obtain ⟨s, _, h3, h4⟩ := h1
  rw [stOK_iff] at h3
  unfold okK at h2
  exact ⟨tb_iff.1 h2, by omega⟩
theorem name_inj {k q : Int} (hk : 0 < k) (hq : 0 < q) (h : ba (Lib.decDigits k.toNat) = ba (Lib.decDigits q.toNat)) : k = q := by
  have := dd_inj (ba_inj h)
  omega
theorem toList_beq (a b : ByteArray) : (a.toList == b.toList) = true ↔ a = b := by
  rw [beq_iff_eq]
  constructor
  · intro h
    rw [ByteArray.toList_eq, ByteArray.toList_eq] at h
    exact ByteArray.ext (Array.toList_inj.1 h)
  · intro h; rw [h]
theorem of_names {x : List TStarter} {best : Int} {i : Nat} (hi : i < (ofK x best).length) (hl : (ofK x best).length ≤ 1000) (K : Unit → Option Bool) :
    M114 (ofK x best) (i : Int) K (i + 1) 0 = K () := by
  obtain ⟨_, h1, _⟩ := inv_loop (σ := Unit) (N := i) (f := fun n k _ => M114 (ofK x best) (i : Int) K n (k : Int)) (k := K) (I := fun _ _ => True) (s0 := ()) (fun k _ hk _ => ⟨(), trivial, fun n => by
    show M114 (ofK x best) (i : Int) K (n + 1) (k : Int) = _
    have hne : ((ofK x best)[k].Name.toList == (ofK x best)[i].Name.toList) = false := by
      rw [Bool.eq_false_iff]
      intro h
      rw [toList_beq] at h
      have hr := okKeys_rise x best
      rw [List.pairwise_iff_getElem] at hr
      simp only [ofK_map, List.length_map] at hi
      have h3 := hr k i (by omega) hi hk
      have e1 : (ofK x best)[k].Name = ba (Lib.decDigits ((okKeys x best)[k]).toNat) := by simp only [ofK_map, List.getElem_map]; rfl
      have e2 : (ofK x best)[i].Name = ba (Lib.decDigits ((okKeys x best)[i]).toNat) := by simp only [ofK_map, List.getElem_map]; rfl
      rw [e1, e2] at h
      have := name_inj (okKeys_mem (List.getElem_mem (by omega))).2 (okKeys_mem (List.getElem_mem hi)).2 h
      omega
    rw [M114, decide_eq_true (by omega), cond_true, idx_lt (by omega), some_bind, idx_lt hi, some_bind, hne, cond_false, w64_succ (by omega)]⟩) (fun n _ => by
    show M114 (ofK x best) (i : Int) K (n + 1) (i : Int) = _
    rw [M114, decide_eq_false (by omega), cond_false]) trivial
  exact h1
theorem of_number {x : List TStarter} (ht : ∀ s, s ∈ x → s.Team ≤ 9223372036854775807) {best : Int} {i : Nat} (hi : i < (ofK x best).length) (hx : x.length ≤ 1000) {key : Int} (hk : key ∈ okKeys x best) (he : (ofK x best)[i] = teamK x best key) :
    M115 x (ofK x best) (i : Int) (x.length + 1) 0 0 = some key := by
  obtain ⟨hok, hpos⟩ := okKeys_mem hk
  obtain ⟨b0, r0, hb0⟩ : ∃ b r, (teamK x best key).Bibs = b :: r := by
    cases hb : (teamK x best key).Bibs with
    | nil => have := hok.best; rw [hb] at this; simp at this; omega
    | cons b r => exact ⟨b, r, rfl⟩
  let M : Nat → Prop := fun j => ∃ h : j < x.length, 0 < x[j].Team ∧ x[j].Bib = b0 ∧ x[j].Team = key
  obtain ⟨s, h1, h2⟩ := inv_loop (σ := Int) (N := x.length) (f := fun n j s => M115 x (ofK x best) (i : Int) n s (j : Int)) (k := some) (I := fun j s => (s = 0 ∨ s = key) ∧ ((∃ q, q < j ∧ M q) → s = key)) (s0 := 0) (fun j s hj hI => by
    have pre : ∀ n, M115 x (ofK x best) (i : Int) (n + 1) s (j : Int) = if 0 < x[j].Team ∧ x[j].Bib = b0 ∧ x[j].Team = key then M115 x (ofK x best) (i : Int) n key ((j + 1 : Nat) : Int) else M115 x (ofK x best) (i : Int) n s ((j + 1 : Nat) : Int) := by
      intro n
      rw [M115, dec_lt_nat, decide_eq_true hj, cond_true, idx_lt hj, some_bind, w64_succ (by omega)]
      by_cases c1 : x[j].Team > 0
      · rw [decide_eq_true c1, cond_true, some_bind, idx_lt hi, some_bind, he, hb0, idx0_cons, some_bind]
        by_cases c2 : x[j].Bib = b0
        · have htx := ht _ (List.getElem_mem hj)
          have hx1 : ((x[j].Team.toNat : Nat) : Int) = x[j].Team := by omega
          have htxt := text34_eq (u := x[j].Team.toNat) (by omega) (by omega)
          rw [hx1] at htxt
          rw [show (x[j].Bib == b0) = true from by simp [c2], cond_true, some_bind, htxt]
          simp only [some_bind]
          have hnm : (teamK x best key).Name = ba (Lib.decDigits key.toNat) := rfl
          rw [hnm]
          by_cases c3 : x[j].Team = key
          · rw [show ((ba (Lib.decDigits x[j].Team.toNat)).toList == (ba (Lib.decDigits key.toNat)).toList) = true from by rw [toList_beq, c3], cond_true, if_pos ⟨c1, c2, c3⟩, c3]
          · rw [show ((ba (Lib.decDigits x[j].Team.toNat)).toList == (ba (Lib.decDigits key.toNat)).toList) = false from by
              rw [Bool.eq_false_iff]
              intro h
              rw [toList_beq] at h
              exact c3 (name_inj c1 hpos h), cond_false, if_neg fun h => c3 h.2.2]
        · rw [show (x[j].Bib == b0) = false from by simp [c2], cond_false, some_bind, cond_false, if_neg fun h => c2 h.2.1]
      · rw [decide_eq_false c1, cond_false, some_bind, cond_false, if_neg fun h => c1 h.1]
    by_cases hm : 0 < x[j].Team ∧ x[j].Bib = b0 ∧ x[j].Team = key
    · exact ⟨key, ⟨.inr rfl, fun _ => rfl⟩, fun n => by rw [pre, if_pos hm]⟩
    · refine ⟨s, ⟨hI.1, ?_⟩, fun n => by rw [pre, if_neg hm]⟩
      rintro ⟨q, hq, hM⟩
      by_cases e : q = j
      · subst e; exact absurd hM.2 hm
      · exact hI.2 ⟨q, by omega, hM⟩) (fun n s => by
    show M115 x (ofK x best) (i : Int) (n + 1) s (x.length : Int) = some s
    rw [M115, decide_eq_false (by omega), cond_false]) ⟨.inl rfl, fun ⟨q, hq, _⟩ => by omega⟩
  have hex : ∃ q, q < x.length ∧ M q := by
    have hmem : b0 ∈ bibsK x key := by
      have : b0 ∈ (teamK x best key).Bibs := by rw [hb0]; simp
      exact ((compact_srt (bibsK x key)).2 b0).1 this
    obtain ⟨s, a1, a2, a3, a4⟩ := bibsK_mem.1 hmem
    obtain ⟨q, hq, rfl⟩ := List.mem_iff_getElem.1 a1
    rw [stOK_iff] at a2
    exact ⟨q, hq, hq, a2.1, a4, a3⟩
  refine Eq.trans h1 ?_
  rw [h2.2 hex]
theorem of_complete {x : List TStarter} {best : Int} {i : Nat} (hi : i < (ofK x best).length) (hx : x.length ≤ 1000) {key : Int} (hk : key ∈ okKeys x best) (he : (ofK x best)[i] = teamK x best key) (K : Unit → Option Bool) :
    M116 x (ofK x best) (i : Int) key K (x.length + 1) 0 = K () := by
  obtain ⟨hok, hpos⟩ := okKeys_mem hk
  have hlen := hok.len
  obtain ⟨_, h1, _⟩ := inv_loop (σ := Unit) (N := x.length) (f := fun n j _ => M116 x (ofK x best) (i : Int) key K n (j : Int)) (k := K) (I := fun _ _ => True) (s0 := ()) (fun j _ hj _ => ⟨(), trivial, fun n => by
    show M116 x (ofK x best) (i : Int) key K (n + 1) (j : Int) = _
    rw [M116, dec_lt_nat, decide_eq_true hj, cond_true, idx_lt hj, some_bind, w64_succ (by omega)]
    by_cases c1 : x[j].Team = key
    · rw [show (x[j].Team == key) = true from by simp [c1], cond_true, some_bind]
      by_cases c2 : x[j].Bib ≥ 1
      · rw [decide_eq_true c2, cond_true, some_bind]
        by_cases c3 : x[j].Bib ≤ 9999
        · have hm : x[j].Bib ∈ (teamK x best key).Bibs := ((compact_srt (bibsK x key)).2 _).2 (bibsK_mem.2 ⟨x[j], List.getElem_mem hj, (stOK_iff _).2 ⟨by omega, c2, c3⟩, c1, rfl⟩)
          rw [decide_eq_true c3, cond_true, idx_lt hi, some_bind, some_bind, he, in33_eq _ _ (by omega), decide_eq_true hm]
          rfl
        · rw [decide_eq_false c3]; rfl
      · rw [decide_eq_false c2]; rfl
    · rw [show (x[j].Team == key) = false from by simp [c1]]; rfl⟩) (fun n _ => by
    show M116 x (ofK x best) (i : Int) key K (n + 1) (x.length : Int) = _
    rw [M116, decide_eq_false (by omega), cond_false]) trivial
  exact h1
theorem TeamsOf_true (y0 : List TStarter) (y1 : Int) (w0 : (wL wTStarter) y0) (_w1 : wI y1) : M121 y0 y1 = some true := by
  unfold M121
  rw [sane34_true, some_bind, Bool.not_true, cond_false]
  by_cases h20 : (y0.length : Int) > 20
  · rw [decide_eq_true h20, cond_true]
  rw [decide_eq_false h20, cond_false, Of34_eq w0 (by omega), some_bind, fuel_sub]
  have hl := ofK_len y0 y1
  have ht : ∀ s, s ∈ y0 → s.Team ≤ 9223372036854775807 := fun s hs => by
    have := w0.2 s hs
    unfold wTStarter at this
    exact this.2.2.2.2.2.2.1.2
  have hgetk : ∀ i (hi : i < (ofK y0 y1).length), ∃ key, key ∈ okKeys y0 y1 ∧ (ofK y0 y1)[i] = teamK y0 y1 key := fun i hi => by
    have hi' : i < (okKeys y0 y1).length := by simpa [ofK_map] using hi
    exact ⟨(okKeys y0 y1)[i], List.getElem_mem hi', by simp only [ofK_map, List.getElem_map]⟩
  obtain ⟨_, h1, _⟩ := inv_loop (σ := Unit) (N := (ofK y0 y1).length) (f := fun n i _ => M119 y0 y1 (ofK y0 y1) M120 n (i : Int)) (k := fun _ => some true) (I := fun _ _ => True) (s0 := ()) (fun i _ hi _ => ⟨(), trivial, fun n => by
    show M119 y0 y1 (ofK y0 y1) M120 (n + 1) (i : Int) = _
    obtain ⟨key, hk, he⟩ := hgetk i hi
    obtain ⟨hok, hpos⟩ := okKeys_mem hk
    rw [M119, dec_lt_nat, decide_eq_true hi, cond_true, idx_lt hi, some_bind, some_bind, he, valid_eq, chk_pos hok, some_bind, Bool.not_true, cond_false]
    rw [show ((teamK y0 y1 key).Best != y1) = false from by simp [teamK], cond_false, show ((i : Int) - 0 : Int).toNat + 1 = i + 1 from by omega, of_names hi (by omega)]
    unfold M118
    rw [fuel_sub, of_number ht hi (by omega) hk he, some_bind, show (key == 0) = false from by simp; omega, cond_false, of_complete hi (by omega) hk he]
    unfold M117
    rw [w64_succ (by omega)]⟩) (fun n _ => by
    show M119 y0 y1 (ofK y0 y1) M120 (n + 1) ((ofK y0 y1).length : Int) = _
    rw [M119, decide_eq_false (by omega), cond_false]; rfl) trivial
  exact h1
end Go.Stop
