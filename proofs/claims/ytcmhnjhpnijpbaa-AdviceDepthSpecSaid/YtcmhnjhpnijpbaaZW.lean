/- Plain laws about the models. No condition. -/
import Derived.Test.YtcmhnjhpnijpbaaZV
import Derived.KernelRfl
import Derived.Sort.AssemblyPlain
import Derived.Lib.BitFns
namespace Go.Stop
open Go Go.Abs
set_option linter.unusedVariables false
set_option linter.unusedSimpArgs false
theorem w64_of {n : Int} (h1 : -9223372036854775808 ≤ n) (h2 : n ≤ 9223372036854775807) : w64 n = n := by
  unfold w64; simp only [IntKind.wrap, IntKind.bits, IntKind.signed]; simp; omega
theorem w64_succ {i : Nat} (h : i < 9223372036854775807) : w64 ((i : Int) + 1) = ((i + 1 : Nat) : Int) := by
  rw [w64_of (by omega) (by omega)]; rfl
theorem idx_nat {α : Type} (l : List α) (i : Nat) : idx l (i : Int) = l[i]? := by
  unfold idx; simp
theorem idx_lt {α : Type} {l : List α} {i : Nat} (h : i < l.length) : idx l (i : Int) = some l[i] := by
  rw [idx_nat]; simp [h]
theorem some_bind {α β : Type} (a : α) (f : α → Option β) : (some a).bind f = f a := rfl
theorem dec_lt_nat (i n : Nat) : decide ((i : Int) < (n : Int)) = decide (i < n) := by simp
section
open Classical
noncomputable def chk {β : Type} (p : Prop) (r : β) (k : Option β) : Option β := if p then k else some r
theorem chk_congr {β : Type} {p q : Prop} {r : β} {k k' : Option β} (h : p ↔ q) (hk : p → k = k') : chk p r k = chk q r k' := by
  unfold chk
  by_cases hp : p
  · rw [if_pos hp, if_pos (h.1 hp), hk hp]
  · rw [if_neg hp, if_neg (fun hq => hp (h.2 hq))]
theorem chk_loop {β : Type} {N : Nat} {f : Nat → Nat → Option β} {r : β} {ok : Nat → Prop} {k : Option β} (hs : ∀ n i, i < N → f (n + 1) i = chk (ok i) r (f n (i + 1))) (he : ∀ n, f (n + 1) N = k) :
    f (N + 1) 0 = chk (∀ i, i < N → ok i) r k := by
  unfold chk at hs ⊢
  have key : ∀ c i n, i + c = N → c ≤ n → f (n + 1) i = if (∀ j, i ≤ j → j < N → ok j) then k else some r := by
    intro c
    induction c with
    | zero =>
      intro i n h _
      have : i = N := by omega
      subst this
      rw [he, if_pos (fun j h1 h2 => absurd h2 (by omega))]
    | succ c ih =>
      intro i n h hn
      rw [hs n i (by omega)]
      obtain ⟨n, rfl⟩ : ∃ n', n = n' + 1 := ⟨n - 1, by omega⟩
      by_cases h1 : ok i
      · rw [if_pos h1, ih (i + 1) n (by omega) (by omega)]
        by_cases h2 : ∀ j, i + 1 ≤ j → j < N → ok j
        · rw [if_pos h2, if_pos]
          intro j hj hjN
          by_cases e : j = i
          · exact e ▸ h1
          · exact h2 j (by omega) hjN
        · rw [if_neg h2, if_neg]
          intro h3
          exact h2 fun j hj hjN => h3 j (by omega) hjN
      · rw [if_neg h1, if_neg]
        intro h3
        exact h1 (h3 i (by omega) (by omega))
  rw [key N 0 N (by omega) (by omega)]
  simp
end
theorem bif_dec {β : Type} (p : Prop) [Decidable p] (a b : β) : (bif decide p then a else b) = if p then a else b := by
  by_cases h : p <;> simp [h]
theorem chk_pos {β : Type} {p : Prop} {r : β} {k : Option β} (h : p) : chk p r k = k := by unfold chk; rw [if_pos h]
theorem chk_neg {β : Type} {p : Prop} {r : β} {k : Option β} (h : ¬p) : chk p r k = some r := by unfold chk; rw [if_neg h]
theorem fuel_sub (n : Nat) : ((n : Int) - 0).toNat + 1 = n + 1 := by omega
def at2 (l : List (List Int)) (i j : Nat) : Int := ((l[i]?.getD [])[j]?).getD 0
theorem all_get {α : Type} {l : List α} {p : α → Prop} : (∀ j, j < l.length → ∀ o, l[j]? = some o → p o) ↔ ∀ o, o ∈ l → p o := by
  constructor
  · intro h o ho
    obtain ⟨j, hj, rfl⟩ := List.mem_iff_getElem.1 ho
    exact h j hj _ (by simp [hj])
  · intro h j hj o ho
    exact h o (List.mem_of_getElem? ho)
theorem few_L2 {x : TRunner} {kk : Unit → Option Bool} (h : x.Worlds.length ≤ 4) : M132 x kk (x.Worlds.length + 1) 0 = chk (∀ w, w ∈ x.Worlds → w.length ≤ 4) false (kk ()) := by
  refine (chk_loop (ok := fun j => ∀ w, x.Worlds[j]? = some w → w.length ≤ 4) (k := kk ()) (r := false) (f := fun n j => M132 x kk n (j : Int)) (fun n j hj => ?_) (fun n => ?_)).trans (chk_congr all_get fun _ => rfl)
  · show M132 x kk (n + 1) (j : Int) = _
    have hx : x.Worlds[j]? = some x.Worlds[j] := by simp [hj]
    rw [M132, dec_lt_nat, decide_eq_true hj, cond_true, idx_lt hj, some_bind, bif_dec, w64_succ (by omega), hx]
    generalize x.Worlds[j] = w
    simp only [Option.some.injEq, forall_eq']
    by_cases h1 : w.length ≤ 4
    · rw [if_neg (by omega), chk_pos h1]
    · rw [if_pos (by omega), chk_neg h1]
  · show M132 x kk (n + 1) ((x.Worlds.length : Nat) : Int) = _
    rw [M132]
    simp
def FewR (r : TRunner) : Prop := r.Keys.length ≤ 5 ∧ r.Worlds.length ≤ 4 ∧ ∀ w, w ∈ r.Worlds → w.length ≤ 4
theorem few_L1 {f : TField} {kk : Unit → Option Bool} (hl : f.Runners.length ≤ 9223372036854775807) : M134 f kk (f.Runners.length + 1) 0 = chk (∀ r, r ∈ f.Runners → FewR r) false (kk ()) := by
  refine (chk_loop (ok := fun j => ∀ r, f.Runners[j]? = some r → FewR r) (k := kk ()) (r := false) (f := fun n j => M134 f kk n (j : Int)) (fun n j hj => ?_) (fun n => ?_)).trans (chk_congr all_get fun _ => rfl)
  · show M134 f kk (n + 1) (j : Int) = _
    have hx : f.Runners[j]? = some f.Runners[j] := by simp [hj]
    rw [M134, dec_lt_nat, decide_eq_true hj, cond_true, idx_lt hj, some_bind, bif_dec, bif_dec, hx]
    generalize f.Runners[j] = r
    simp only [Option.some.injEq, forall_eq']
    unfold FewR
    by_cases h1 : r.Keys.length ≤ 5
    · rw [if_neg (by omega)]
      by_cases h2 : r.Worlds.length ≤ 4
      · rw [if_neg (by omega), fuel_sub, few_L2 h2]
        refine chk_congr (by simp [h1, h2]) fun _ => ?_
        show M134 f kk n (w64 ((j : Int) + 1)) = _
        rw [w64_succ (by omega)]
      · rw [if_pos (by omega), chk_neg (fun h => h2 h.2.1)]
    · rw [if_pos (by omega), chk_neg (fun h => h1 h.1)]
  · show M134 f kk (n + 1) ((f.Runners.length : Nat) : Int) = _
    rw [M134]
    simp
theorem few_L4 {f : TField} {kk : Unit → Option Bool} (hl : f.Clocks.Far.length ≤ 9223372036854775807) : M135 f kk (f.Clocks.Far.length + 1) 0 = chk (∀ r, r ∈ f.Clocks.Far → r.length ≤ 8) false (kk ()) := by
  refine (chk_loop (ok := fun j => ∀ r, f.Clocks.Far[j]? = some r → r.length ≤ 8) (k := kk ()) (r := false) (f := fun n j => M135 f kk n (j : Int)) (fun n j hj => ?_) (fun n => ?_)).trans (chk_congr all_get fun _ => rfl)
  · show M135 f kk (n + 1) (j : Int) = _
    have hx : f.Clocks.Far[j]? = some f.Clocks.Far[j] := by simp [hj]
    rw [M135, dec_lt_nat, decide_eq_true hj, cond_true, idx_lt hj, some_bind, bif_dec, hx, w64_succ (by omega)]
    generalize f.Clocks.Far[j] = r
    simp only [Option.some.injEq, forall_eq']
    by_cases h1 : r.length ≤ 8
    · rw [if_neg (by omega), chk_pos h1]
    · rw [if_pos (by omega), chk_neg h1]
  · show M135 f kk (n + 1) ((f.Clocks.Far.length : Nat) : Int) = _
    rw [M135]
    simp
structure FewOK (f : TField) : Prop where
  runner : ∀ r, r ∈ f.Runners → FewR r
  far : ∀ r, r ∈ f.Clocks.Far → r.length ≤ 8
  runners : f.Runners.length ≤ 6
  pairs : f.Pairs.length ≤ 3
  segs : f.Clocks.Segments.length ≤ 4
  rows : f.Clocks.Far.length ≤ 6
theorem few_eq {f : TField} (hw : wTField f) : ∃ b, M138 f = some b ∧ (b = true ↔ FewOK f) := by
  obtain ⟨⟨_, hfar⟩, _, hrun⟩ := hw
  unfold M138
  rw [fuel_sub, few_L1 (Nat.le_trans hrun.1 (by decide))]
  unfold M137
  rw [fuel_sub, few_L4 (Nat.le_trans hfar.1 (by decide))]
  unfold M136
  by_cases h1 : ∀ r, r ∈ f.Runners → FewR r
  · rw [chk_pos h1]
    by_cases h2 : ∀ r, r ∈ f.Clocks.Far → r.length ≤ 8
    · rw [chk_pos h2]
      refine ⟨_, rfl, ?_⟩
      simp only [Bool.and_eq_true, decide_eq_true_eq]
      exact ⟨fun ⟨a, b, c, d⟩ => ⟨h1, h2, by omega, by omega, by omega, by omega⟩, fun h => by
        have := h.runners; have := h.pairs; have := h.segs; have := h.rows
        omega⟩
    · rw [chk_neg h2]
      exact ⟨false, rfl, by simp; exact fun h => h2 h.far⟩
  · rw [chk_neg h1]
    exact ⟨false, rfl, by simp; exact fun h => h1 h.runner⟩
theorem w64_id {n : Int} (h : -9223372036854775808 ≤ n ∧ n ≤ 9223372036854775807) : w64 n = n := w64_of h.1 h.2
abbrev far (f : TField) (i j : Nat) : Int := at2 f.Clocks.Far i j
theorem sane37_true : M131 = some true := by decide +kernel
theorem depthR_L1 (p : TPlan) (rc : TPlan → Option Int) : ∀ (n : Nat) (a b : Int), M145 p rc n a b = M123 p rc n a b
  | 0, _, _ => rfl
  | n + 1, a, b => by
    rw [M145, M123]
    simp only [depthR_L1 p rc n]
theorem depthR_eq : ∀ (n : Nat) (p : TPlan), M147 n p = M125 n p
  | 0, _ => rfl
  | n + 1, p => by
    have h : M147 n = M125 n := funext fun q => depthR_eq n q
    rw [M147, M125, M146, M124, h]
    simp only [depthR_L1]
def PlOK (y : TPlan) : Prop := wI y.Look ∧ y.After.length ≤ 140737488351232 ∧ ∀ x, x ∈ y.After → PlD (eTPlan0 x)
theorem plOK_of {y : TPlan} (h : wTPlan y) : PlOK y := h
theorem pld_open {x : TPlan0} (h : PlD (eTPlan0 x)) : ∃ y, uTPlan x = some y ∧ PlOK y := by
  generalize hd : eTPlan0 x = d at h
  obtain ⟨n, es, hn, hl, h⟩ := h
  obtain ⟨l, rfl⟩ := pld_l h
  obtain ⟨a, b⟩ := x
  unfold eTPlan0 at hd
  dsimp only at hd
  injection hd with hd
  injection hd with ha hd
  injection hd with hb _
  subst ha; subst hb
  refine ⟨⟨n, l⟩, ?_, ?_, ?_, fun x hx => h _ (List.mem_map_of_mem hx)⟩
  · show (match (D.i .i64 n), D.ls (List.map eTPlan0 l) with | .i .i64 n, .ls es => (uL0 es).map fun l => (⟨n, l⟩ : TPlan) | _, _ => none) = _
    dsimp only
    rw [uL0_p]; rfl
  · simp [Lit.wf, IntKind.min, IntKind.max, IntKind.signed, IntKind.bits] at hn
    exact ⟨hn.1, hn.2⟩
  · rw [List.length_map] at hl; exact hl
def HB : Nat → TPlan → Prop
  | 0, p => p.After = []
  | h + 1, p => ∀ x, x ∈ p.After → ∃ y, uTPlan x = some y ∧ PlOK y ∧ HB h y
theorem plans_L1 {p : TPlan} (hp : PlOK p) {d : Nat} (hd : d ≤ 30) {rc : TPlan → Int → Option Int} {B : Int} (hB0 : 0 ≤ B) (hB : B ≤ 100000)
    (hrc : ∀ y, PlOK y → ∃ r, rc y ((d + 1 : Nat) : Int) = some r ∧ 1 ≤ r ∧ r ≤ B ∧ (r ≤ 100 → d + 1 ≤ 30 ∧ HB (30 - (d + 1)) y)) :
    ∀ (c i n : Nat) (s : Int), i + c = p.After.length → c ≤ n → 1 ≤ s → s ≤ 1000 + B → ∃ r, M139 p (d : Int) rc (n + 1) s (i : Int) = some r ∧ s ≤ r ∧ r ≤ 1000 + B ∧ (r ≤ 100 → ∀ x, x ∈ p.After.drop i → ∃ y, uTPlan x = some y ∧ PlOK y ∧ d + 1 ≤ 30 ∧ HB (30 - (d + 1)) y) := by
  intro c
  induction c with
  | zero =>
    intro i n s hi _ h1 h2
    refine ⟨s, ?_, Int.le_refl _, h2, fun _ x hx => ?_⟩
    · rw [M139, dec_lt_nat, decide_eq_false (by omega), cond_false]
    · rw [List.drop_eq_nil_of_le (by omega)] at hx; cases hx
  | succ c ih =>
    intro i n s hi hn h1 h2
    obtain ⟨n, rfl⟩ : ∃ n', n = n' + 1 := ⟨n - 1, by omega⟩
    have hil : i < p.After.length := by omega
    rw [M139, dec_lt_nat, decide_eq_true hil, cond_true]
    by_cases hs : s < 1000
    · rw [decide_eq_true hs, cond_true, idx_lt hil, some_bind]
      obtain ⟨y, hy, hyo⟩ := pld_open (hp.2.2 _ (List.getElem_mem hil))
      rw [hy, some_bind, w64_succ (by omega)]
      obtain ⟨r, hr, r1, r2, r3⟩ := hrc y hyo
      have hlen := hp.2.1
      rw [hr, some_bind, w64_succ (by omega), w64_id ⟨by omega, by omega⟩]
      obtain ⟨r', e1, e2, e3, e4⟩ := ih (i + 1) n (s + r) (by omega) (by omega) (by omega) (by omega)
      refine ⟨r', e1, by omega, e3, fun h x hx => ?_⟩
      rw [List.drop_eq_getElem_cons hil] at hx
      rcases List.mem_cons.1 hx with rfl | hx
      · obtain ⟨a, b⟩ := r3 (by omega)
        exact ⟨y, hy, hyo, a, b⟩
      · exact e4 h x hx
    · rw [decide_eq_false hs, cond_false]
      exact ⟨s, rfl, Int.le_refl _, h2, fun h => by omega⟩
theorem plans_spec : ∀ (n d : Nat) (p : TPlan), PlOK p → d ≤ 31 → 32 - d ≤ n → ∃ r, M141 n p (d : Int) = some r ∧ 1 ≤ r ∧ r ≤ 1000 * (32 - d : Nat) ∧ (r ≤ 100 → d ≤ 30 ∧ HB (30 - d) p) := by
  intro n
  induction n with
  | zero => intro d p _ h1 h2; omega
  | succ n ih =>
    intro d p hp hd hn
    rw [M141, M140]
    by_cases h30 : d ≤ 30
    · rw [decide_eq_false (by omega), cond_false, fuel_sub]
      have := plans_L1 hp h30 (rc := M141 n) (B := 1000 * (32 - (d + 1) : Nat)) (by omega) (by omega) (fun y hy => ih (d + 1) y hy (by omega) (by omega)) p.After.length 0 p.After.length 1 (by omega) (by omega) (by omega) (by omega)
      obtain ⟨r, e1, e2, e3, e4⟩ := this
      refine ⟨r, ?_, by omega, by omega, fun h => ⟨h30, ?_⟩⟩
      · rw [show ((0 : Nat) : Int) = 0 from rfl] at e1
        rw [e1]; rfl
      · have h4 := e4 h
        rw [List.drop_zero] at h4
        by_cases e : d = 30
        · subst e
          show p.After = []
          cases hA : p.After with
          | nil => rfl
          | cons x r => obtain ⟨_, _, _, h5, _⟩ := h4 x (by rw [hA]; simp); omega
        · rw [show 30 - d = (30 - (d + 1)) + 1 from by omega]
          intro x hx
          obtain ⟨y, h5, h6, _, h7⟩ := h4 x hx
          exact ⟨y, h5, h6, h7⟩
    · rw [decide_eq_true (by omega), cond_true]
      exact ⟨1000, rfl, by omega, by omega, fun h => by omega⟩
theorem depth_L1 {p : TPlan} {rc : TPlan → Option Int} {B : Int} (hp : PlOK p) (hrc : ∀ x, x ∈ p.After → ∃ y, uTPlan x = some y ∧ ∃ r, rc y = some r ∧ 0 ≤ r ∧ r ≤ B) :
    ∀ (c i n : Nat) (s : Int), i + c = p.After.length → c ≤ n → 0 ≤ s → s ≤ B → ∃ r, M123 p rc (n + 1) s (i : Int) = some r ∧ 0 ≤ r ∧ r ≤ B := by
  intro c
  induction c with
  | zero =>
    intro i n s hi _ h1 h2
    refine ⟨s, ?_, h1, h2⟩
    rw [M123, dec_lt_nat, decide_eq_false (by omega), cond_false]
  | succ c ih =>
    intro i n s hi hn h1 h2
    obtain ⟨n, rfl⟩ : ∃ n', n = n' + 1 := ⟨n - 1, by omega⟩
    have hil : i < p.After.length := by omega
    have hlen := hp.2.1
    rw [M123, dec_lt_nat, decide_eq_true hil, cond_true, idx_lt hil, some_bind]
    obtain ⟨y, hy, r, hr, r1, r2⟩ := hrc _ (List.getElem_mem hil)
    rw [hy, some_bind, hr, some_bind, w64_succ (by omega)]
    refine ih (i + 1) n _ (by omega) (by omega) ?_ ?_
    · unfold maxG; split <;> omega
    · unfold maxG; split <;> omega
theorem depth_some : ∀ (h n : Nat) (p : TPlan), h < n → h ≤ 1000 → PlOK p → HB h p → ∃ r, M125 n p = some r ∧ 0 ≤ r ∧ r ≤ h + 1 := by
  intro h
  induction h with
  | zero =>
    intro n p hn _ hp hb
    obtain ⟨n, rfl⟩ : ∃ n', n = n' + 1 := ⟨n - 1, by omega⟩
    rw [M125, M124]
    by_cases hl : p.Look < 0
    · rw [decide_eq_true hl, cond_true]; exact ⟨0, rfl, by omega, by omega⟩
    · rw [decide_eq_false hl, cond_false, fuel_sub]
      have hA : p.After = [] := hb
      obtain ⟨r, e1, e2, e3⟩ := depth_L1 (rc := M125 n) (B := 0) hp (by rw [hA]; intro x hx; cases hx) p.After.length 0 p.After.length 0 (by omega) (by omega) (by omega) (by omega)
      rw [show ((0 : Nat) : Int) = 0 from rfl] at e1
      rw [e1, some_bind, w64_id ⟨by omega, by omega⟩]
      exact ⟨r + 1, rfl, by omega, by omega⟩
  | succ h ih =>
    intro n p hn hk hp hb
    obtain ⟨n, rfl⟩ : ∃ n', n = n' + 1 := ⟨n - 1, by omega⟩
    rw [M125, M124]
    by_cases hl : p.Look < 0
    · rw [decide_eq_true hl, cond_true]; exact ⟨0, rfl, by omega, by omega⟩
    · rw [decide_eq_false hl, cond_false, fuel_sub]
      obtain ⟨r, e1, e2, e3⟩ := depth_L1 (rc := M125 n) (B := h + 1) hp (fun x hx => by
        obtain ⟨y, a, b, c⟩ := hb x hx
        obtain ⟨r, r1, r2, r3⟩ := ih n y (by omega) (by omega) b c
        exact ⟨y, a, r, r1, r2, r3⟩) p.After.length 0 p.After.length 0 (by omega) (by omega) (by omega) (by omega)
      rw [show ((0 : Nat) : Int) = 0 from rfl] at e1
      rw [e1, some_bind, w64_id ⟨by omega, by omega⟩]
      exact ⟨r + 1, rfl, by omega, by omega⟩
theorem next_eq {a : List Int} (hl : a.length ≤ 40) : ∀ (c i n : Nat) (p : TPlan), i + c = a.length → c ≤ n → PlOK p → ∃ r, M1 a M2 (n + 1) (i : Int) p.Look p.After = some r ∧ M148 a M149 (n + 1) (i : Int) p.Look p.After = some r := by
  intro c
  induction c with
  | zero =>
    intro i n p hi _ hp
    refine ⟨(p.Look, true), ?_, ?_⟩
    · rw [M1, dec_lt_nat, decide_eq_false (by omega), cond_false]; rfl
    · rw [M148, dec_lt_nat, decide_eq_false (by omega), cond_false]; rfl
  | succ c ih =>
    intro i n p hi hn hp
    obtain ⟨n, rfl⟩ : ∃ n', n = n' + 1 := ⟨n - 1, by omega⟩
    have hil : i < a.length := by omega
    rw [M1, M148, dec_lt_nat, decide_eq_true hil, cond_true, cond_true, idx_lt hil]
    simp only [some_bind]
    by_cases h1 : p.Look < 0
    · rw [decide_eq_true h1, cond_true, cond_true]; exact ⟨_, rfl, rfl⟩
    · rw [decide_eq_false h1, cond_false, cond_false]
      by_cases h2 : a[i] < 0
      · rw [decide_eq_true h2, cond_true, cond_true]; exact ⟨_, rfl, rfl⟩
      · rw [decide_eq_false h2, cond_false, cond_false]
        by_cases h3 : a[i] ≥ (p.After.length : Int)
        · rw [decide_eq_true h3, cond_true, cond_true]; exact ⟨_, rfl, rfl⟩
        · rw [decide_eq_false h3, cond_false, cond_false]
          obtain ⟨k, hk⟩ : ∃ k : Nat, a[i] = (k : Int) := ⟨a[i].toNat, by omega⟩
          rw [hk] at h3 ⊢
          have hkl : k < p.After.length := by omega
          rw [idx_lt hkl]
          simp only [some_bind]
          obtain ⟨y, hy, hyo⟩ := pld_open (hp.2.2 _ (List.getElem_mem hkl))
          rw [hy]
          simp only [some_bind]
          rw [w64_succ (by omega)]
          exact ih (i + 1) n y (by omega) (by omega) hyo
structure Few37 (q : TQuestion) : Prop where
  field : FewOK q.Field
  looks : q.Looks.length ≤ 4
  ans : ∀ x, x ∈ q.Looks → x.Answers.length ≤ 6
theorem few37_L1 {q : TQuestion} (hl : q.Looks.length ≤ 140737488351232) (kk : Unit → Option Bool) : M142 q kk (q.Looks.length + 1) 0 = chk (∀ i (h : i < q.Looks.length), q.Looks[i].Answers.length ≤ 6) false (kk ()) := by
  have := chk_loop (N := q.Looks.length) (f := fun n i => M142 q kk n (i : Int)) (r := false) (ok := fun i => ∀ h : i < q.Looks.length, q.Looks[i].Answers.length ≤ 6) (k := kk ()) (fun n i hi => by
    show M142 q kk (n + 1) (i : Int) = _
    rw [M142, dec_lt_nat, decide_eq_true hi, cond_true, idx_lt hi, some_bind, w64_succ (by omega)]
    unfold chk
    by_cases h : q.Looks[i].Answers.length ≤ 6
    · rw [decide_eq_false (by omega), cond_false, if_pos (fun _ => h)]
    · rw [decide_eq_true (by omega), cond_true, if_neg (fun hh => h (hh hi))]) (fun n => by
    show M142 q kk (n + 1) ((q.Looks.length : Nat) : Int) = _
    rw [M142, dec_lt_nat, decide_eq_false (by omega), cond_false])
  refine this.trans ?_
  unfold chk
  by_cases h : ∀ i (h : i < q.Looks.length), q.Looks[i].Answers.length ≤ 6
  · rw [if_pos (fun i _ hh => h i hh), if_pos h]
  · rw [if_neg (fun hh => h fun i hi => hh i hi hi), if_neg h]
theorem few37_eq {q : TQuestion} {p : TPlan} (hq : wTField q.Field) (hl : q.Looks.length ≤ 140737488351232) (hp : PlOK p) : ∃ b, M144 q p = some b ∧ (b = true → Few37 q ∧ HB 30 p) := by
  unfold M144
  rw [fuel_sub, few37_L1 hl]
  by_cases ha : ∀ i (h : i < q.Looks.length), q.Looks[i].Answers.length ≤ 6
  · rw [chk_pos ha, M143]
    obtain ⟨b, h1, h2⟩ := few_eq hq
    rw [h1, some_bind]
    cases b with
    | false => exact ⟨false, rfl, fun h => by cases h⟩
    | true =>
      rw [cond_true]
      by_cases h4 : q.Looks.length ≤ 4
      · rw [decide_eq_true (by omega), cond_true]
        obtain ⟨r, e1, _, _, e4⟩ := plans_spec 1000 0 p hp (by omega) (by omega)
        rw [show ((0 : Nat) : Int) = 0 from rfl] at e1
        rw [e1, some_bind]
        refine ⟨_, rfl, fun h => ⟨⟨h2.1 rfl, h4, fun x hx => ?_⟩, (e4 (of_decide_eq_true h)).2⟩⟩
        obtain ⟨i, hi, rfl⟩ := List.mem_iff_getElem.1 hx
        exact ha i hi
      · rw [decide_eq_false (by omega), cond_false]
        exact ⟨false, rfl, fun h => by cases h⟩
  · rw [chk_neg ha]
    exact ⟨false, rfl, fun h => by cases h⟩
theorem AdviceDepthSpec_true (y0 : TPlan) (y1 : List Int) (w0 : wTPlan y0) (_w1 : (wL wI) y1) : M151 y0 y1 = some true := by
  unfold M151
  have hp := plOK_of w0
  rw [sane37_true, some_bind, Bool.not_true, cond_false]
  obtain ⟨b, h1, h2⟩ := few37_eq (q := ⟨⟨⟨[], []⟩, [], []⟩, 0, []⟩) (p := y0) (by unfold wTField wTClocks; simp [wL]) (by simp) hp
  rw [h1, some_bind]
  cases b with
  | false => rfl
  | true =>
    rw [Bool.not_true, cond_false]
    by_cases hl : y1.length ≤ 40
    · rw [decide_eq_false (by omega), cond_false]
      obtain ⟨r, e1, e2⟩ := next_eq hl y1.length 0 y1.length y0 (by omega) (by omega) hp
      obtain ⟨d, d1, d2, d3⟩ := depth_some 30 1000 y0 (by omega) (by omega) hp (h2 rfl).2
      unfold M3 M150
      rw [show ((0 : Nat) : Int) = 0 from rfl] at e1 e2
      rw [fuel_sub, e1, e2, depthR_eq, d1]
      simp only [some_bind]
      simp
    · rw [decide_eq_true (by omega), cond_true]
end Go.Stop
