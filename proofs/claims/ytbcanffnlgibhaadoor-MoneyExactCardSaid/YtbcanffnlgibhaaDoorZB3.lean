/- What models are made of, and how the stops of a walk follow them. No condition. -/
import Derived.Test.YtbcanffnlgibhaaDoorZB2
namespace Go.Abs
variable {P : Program} {X : Nat → Prop} {m m' : Mp} {H : Hp} {w w' : World}
abbrev w64 (n : Int) : Int := IntKind.i64.wrap n
def idx {α : Type} (l : List α) (i : Int) : Option α := if 0 ≤ i then l[i.toNat]? else none
def app {α : Type} (b : Nat) (l r : List α) : Option (List α) := if (l.length + r.length) * b ≤ 140737488355328 ∧ l.length + r.length < 9223372036854775808 then some (l ++ r) else none
def nz (y : Int) : Option Unit := if y = 0 then none else some ()
def nn (y : Int) : Option Unit := if 0 ≤ y then some () else none
def slcFrom {α : Type} (l : List α) (a : Int) : Option (List α) := if 0 ≤ a ∧ a ≤ l.length then some (l.drop a.toNat) else none
def slcTo {α : Type} (l : List α) (b : Int) : Option (List α) := if 0 ≤ b ∧ b ≤ l.length then some (l.take b.toNat) else none
def foldO {σ α : Type} (f : α → σ → Option σ) : List α → σ → Option σ
  | [], s => some s
  | a :: l, s => (f a s).bind (foldO f l)
abbrev maxG (p q : Int) : Int := if q > p then q else p
/- Encodings. -/
def eI (n : Int) : D := .i .i64 n
def eL {α : Type} (f : α → D) (l : List α) : D := .ls (List.map f l)
theorem aQ {α : Type} {f : α → D} {l : List α} {q : Nat} (h : ∀ a, (AV.d (f a)).cells.length = q) : ∀ e, e ∈ List.map AV.d (List.map f l) → e.cells.length = q := by
  intro e he
  simp only [List.mem_map] at he
  obtain ⟨_, ⟨a, _, rfl⟩, rfl⟩ := he
  exact h a
theorem bS {α β : Type} {o : Option α} {f : α → Option β} {r : β} (h : o.bind f = some r) : ∃ x, o = some x ∧ f x = some r := by
  cases o with
  | none => cases h
  | some x => exact ⟨x, rfl, h⟩
theorem idx_some {α : Type} {l : List α} {i : Int} {x : α} (h : idx l i = some x) : i = (i.toNat : Int) ∧ l[i.toNat]? = some x := by
  unfold idx at h
  split at h
  · exact ⟨by omega, h⟩
  · cases h
theorem cB {ρ : Type} {b : Bool} {o1 o2 : Option ρ} {r : ρ} {A B : Prop} (h : (bif b then o1 else o2) = some r) (hx : b = true → o1 = some r → A) (hy : b = false → o2 = some r → B) : condS b A B :=
  condS_mk (fun e => hx e (by rw [e] at h; exact h)) (fun e => hy e (by rw [e] at h; exact h))
theorem ixP_of {α : Type} {f : α → D} {l : List α} {i : Int} {x : α} {k : D → Prop} (h : idx l i = some x) (hk : k (f x)) : ixP (l.map f) i k := by
  obtain ⟨h1, h2⟩ := idx_some h
  exact ixP_mk i.toNat (f x) h1 (by rw [List.getElem?_map, h2]; rfl) hk
theorem ixS_of {α : Type} {l : List α} {i : Int} {x : α} {n : Nat} {k : Nat → Prop} (h : idx l i = some x) (hn : n = l.length) (hk : k i.toNat) : ixS n i k := by
  obtain ⟨h1, h2⟩ := idx_some h
  exact ixS_mk i.toNat h1 (by rw [hn]; exact (List.getElem?_eq_some_iff.1 h2).1) hk
theorem elP_of {α : Type} {f : α → D} {l : List α} {i : Int} {x : α} {k : AV → Prop} (h : idx l i = some x) (hk : k (.d (f x))) : elP ((l.map f).map .d) (0 + i.toNat) k := by
  obtain ⟨_, h2⟩ := idx_some h
  exact elP_mk _ (by rw [Nat.zero_add, List.getElem?_map, List.getElem?_map, h2]; rfl) hk
theorem nn_ge {y : Int} {u : Unit} (h : nn y = some u) : 0 ≤ y := by
  unfold nn at h
  split at h
  · assumption
  · cases h
theorem nz_ne {y : Int} {u : Unit} (h : nz y = some u) : y ≠ 0 := by
  unfold nz at h
  split at h
  · cases h
  · assumption
theorem apS_of {α : Type} {b q n : Nat} {l r s : List α} {xs : List AV} {k : Prop} (h : app b l r = some s) (hq : ∀ e, e ∈ xs → e.cells.length = q) (hn : n = l.length) (hx : xs.length = r.length) (hk : s = l ++ r → k) : apS q b n xs k := by
  unfold app at h
  split at h
  · rename_i hc
    cases h
    exact apS_mk hq (by rw [hn, hx]; exact hc.1) (by rw [hn, hx]; exact hc.2) (hk rfl)
  · cases h
theorem Tr.cutQ {α : Type} {cx : Cx} {A : Code} {T : Tp} {H : Hp} {Q : Post} (Sc : α → Tp × Hp) (G : α → Prop)
    (hA : Tr P cx A T H fun e T' H' => match e with
      | .normal => ∃ s, G s ∧ Wk cx.F T' H' (Sc s).1 (Sc s).2
      | e => Q e T' H')
    (hB : ∀ s, G s → ∀ T' H', Wk cx.F T' H' (Sc s).1 (Sc s).2 → Q .normal T' H') : Tr P cx A T H Q := by
  refine hA.mono ?_
  rintro e T' H' h
  cases e with
  | normal => obtain ⟨s, hg, hw⟩ := h; exact hB s hg T' H' hw
  | _ => exact h
theorem Tr.cutQ1 {cx : Cx} {A : Code} {T : Tp} {H : Hp} {Q : Post} (Tc : Tp) (Hc : Hp)
    (hA : Tr P cx A T H fun e T' H' => match e with
      | .normal => Wk cx.F T' H' Tc Hc
      | e => Q e T' H')
    (hB : ∀ T' H', Wk cx.F T' H' Tc Hc → Q .normal T' H') : Tr P cx A T H Q := by
  refine hA.mono ?_
  rintro e T' H' h
  cases e with
  | normal => exact hB T' H' h
  | _ => exact h
theorem Wk.trans {F : Nat} {T T' T'' : Tp} {H H' H'' : Hp} (h : Wk F T H T' H') (h' : Wk F T' H' T'' H'') : Wk F T H T'' H'' := by
  unfold Wk at *
  intro X mb wb N m a w hmb hr
  obtain ⟨m1, hr1, s1⟩ := h X mb wb N m a w hmb hr
  obtain ⟨m2, hr2, s2⟩ := h' X mb wb N m1 a w hmb hr1
  exact ⟨m2, hr2, fun b hb => s1 b (s2 b hb)⟩
theorem foldO_split {σ α : Type} {f : α → σ → Option σ} : ∀ {l : List α} {s s' : σ}, foldO f l s = some s' → ∃ ss : Nat → σ, ss 0 = s ∧ ss l.length = s' ∧ ∀ (i : Nat) a, l[i]? = some a → f a (ss i) = some (ss (i + 1))
  | [], s, s', h => by
    simp only [foldO, Option.some.injEq] at h
    exact ⟨fun _ => s, rfl, h, fun i a ha => by simp at ha⟩
  | a :: l, s, s', h => by
    obtain ⟨s1, h1, h2⟩ := bS h
    obtain ⟨ss, e0, e1, hs⟩ := foldO_split h2
    refine ⟨fun i => match i with
      | 0 => s
      | i + 1 => ss i, rfl, by simpa using e1, fun i b hb => ?_⟩
    cases i with
    | zero => simp at hb; subst hb; rw [h1, ← e0]
    | succ i => exact hs i b (by simpa using hb)
/- So many rounds of a loop, one by one. -/
theorem frE_of {α : Type} {f0 : AV → Hp → (D → Hp → Prop) → Prop} {f : α → D} {l : List α} {n : Nat} {k : List D → Hp → Prop} (hn : n = l.length) (hk : k (l.map f) H) : frE f0 ((l.map f).map .d) n H k := frE_ds _ rfl (by simp [hn]) hk
/- Strings and arrays. -/
def catS (a b : ByteArray) : Option ByteArray := if a.size + b.size ≤ 9223372036854775807 then some (a ++ b) else none
theorem catS_of {a b r : ByteArray} {K : ByteArray → Prop} (h : catS a b = some r) (hk : K r) : catX a b K := by
  unfold catS at h
  split at h
  · rename_i hc
    cases h
    exact catX_mk hc hk
  · cases h
def idxS (a : ByteArray) (i : Int) : Option Int := if 0 ≤ i then (a[i.toNat]?).map (fun c => (c.toNat : Int)) else none
def slcS (a : ByteArray) (lo hi : Int) : Option ByteArray := if 0 ≤ lo ∧ lo ≤ hi ∧ hi ≤ a.size then some (a.extract lo.toNat hi.toNat) else none
theorem slcS_of {a r : ByteArray} {lo hi : Int} {K : ByteArray → Prop} (h : slcS a lo hi = some r) (hk : K r) : slX a lo hi K := by
  unfold slcS at h
  split at h
  · rename_i hc
    cases h
    exact slX_mk lo.toNat hi.toNat (by omega) (by omega) (by omega) (by omega) hk
  · cases h
def bytS (a : ByteArray) : List Int := a.data.toList.map fun c => (c.toNat : Int)
def idxA {α : Type} (n : Nat) (l : List α) (i : Int) : Option α := if 0 ≤ i ∧ i < n then l[i.toNat]? else none
theorem idxA_idx {α : Type} {n : Nat} {l : List α} {i : Int} {x : α} (h : idxA n l i = some x) : idx l i = some x := by
  unfold idxA at h
  split at h
  · rename_i hc
    unfold idx
    rw [if_pos hc.1]; exact h
  · cases h
theorem idxA_of {α : Type} {n : Nat} {l : List α} {i : Int} {x : α} {k : Nat → Prop} (h : idxA n l i = some x) (hk : k i.toNat) : ixS n i k := by
  unfold idxA at h
  split at h
  · rename_i hc
    exact ixS_mk i.toNat (by omega) (by omega) hk
  · cases h
def slcA {α : Type} (n : Nat) (l : List α) (i : Int) : Option (List α) := if l.length = n ∧ 0 ≤ i ∧ i ≤ n then some (l.take i.toNat) else none
theorem slcA_of {α : Type} {n : Nat} {l r : List α} {i : Int} {K : Nat → Nat → Prop} (h : slcA n l i = some r) (hk : l.length = n → r = l.take i.toNat → i.toNat = r.length → K 0 i.toNat) : slS 0 i n K := by
  unfold slcA at h
  split at h
  · rename_i hc
    cases h
    exact slS_mk 0 i.toNat rfl (by omega) (by omega) (by omega) (hk hc.1 rfl (by rw [List.length_take]; omega))
  · cases h
end Go.Abs
