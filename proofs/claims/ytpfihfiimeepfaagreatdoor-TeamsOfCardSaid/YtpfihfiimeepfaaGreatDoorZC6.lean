/- Plain facts on groups. No condition. -/
import Derived.Test.YtpfihfiimeepfaaGreatDoorZC5
import Derived.Test.YtpfihfiimeepfaaGreatDoorZM
namespace Go.Proofs.Tryz
open Go Go.Abs Go.Stop
def gl34 (gs : List (Int × List Int)) : GL := gs.map fun p => (p.1, some p.2)
theorem gl34_put : ∀ (gs : List (Int × List Int)) (k : Int) (zs : List Int), gl34 (mapPut gs k zs) = mapPut (gl34 gs) k (some zs)
  | [], _, _ => rfl
  | p :: r, k, zs => by
    have ih := gl34_put r k zs
    show gl34 (bif decide (k = p.1) then (k, zs) :: r else p :: mapPut r k zs) = (bif decide (k = p.1) then (k, some zs) :: gl34 r else (p.1, some p.2) :: mapPut (gl34 r) k (some zs))
    cases hd : decide (k = p.1) with
    | true => rfl
    | false => rw [cond_false, cond_false, ← ih]; rfl
theorem gl34_get : ∀ (gs : List (Int × List Int)) (k : Int), mapGet (gl34 gs) k (some []) = some (mapGet gs k [])
  | [], _ => rfl
  | p :: r, k => by
    have ih := gl34_get r k
    show (bif decide (k = p.1) then some p.2 else mapGet (gl34 r) k (some [])) = some (bif decide (k = p.1) then p.2 else mapGet r k [])
    cases hd : decide (k = p.1) with
    | true => rfl
    | false => rw [cond_false, cond_false, ih]
theorem mapGet_mapPut {β : Type} : ∀ (l : List (Int × β)) (k k' : Int) (v z : β), mapGet (mapPut l k v) k' z = if k' = k then v else mapGet l k' z
  | [], k, k', v, z => by
    show (bif decide (k' = k) then v else z) = _
    by_cases h : k' = k
    · rw [decide_eq_true h, cond_true, if_pos h]
    · rw [decide_eq_false h, cond_false, if_neg h]; rfl
  | p :: r, k, k', v, z => by
    rw [mapPut]
    by_cases h : k = p.1
    · rw [decide_eq_true h, cond_true, mapGet, mapGet]
      by_cases h' : k' = k
      · rw [decide_eq_true h', cond_true, if_pos h']
      · rw [decide_eq_false h', cond_false, if_neg h', ← h, decide_eq_false h', cond_false]
    · rw [decide_eq_false h, cond_false, mapGet, mapGet, mapGet_mapPut r k k' v z]
      by_cases h' : k' = p.1
      · rw [decide_eq_true h', cond_true, cond_true, if_neg]
        intro e; exact h (e.symm.trans h')
      · rw [decide_eq_false h', cond_false, cond_false]
theorem grp34_len : ∀ (l : List TStarter) (gs : List (Int × List Int)) (k : Int), (mapGet (l.foldl grp34 gs) k []).length ≤ (mapGet gs k []).length + l.length
  | [], gs, k => Nat.le_refl _
  | s :: l, gs, k => by
    have ih := grp34_len l (grp34 gs s) k
    rw [List.foldl_cons, List.length_cons]
    have hs : (mapGet (grp34 gs s) k []).length ≤ (mapGet gs k []).length + 1 := by
      unfold grp34
      cases decide (s.Team > 0) && (decide (s.Bib ≥ 1) && decide (s.Bib ≤ 9999)) with
      | false => rw [cond_false]; omega
      | true =>
        rw [cond_true, mapGet_mapPut]
        by_cases hk : k = s.Team
        · rw [if_pos hk, List.length_append, hk]; simp
        · rw [if_neg hk]; omega
    omega
theorem mapPut_mem {β : Type} : ∀ {l : List (Int × β)} {k : Int} {v : β} {p : Int × β}, p ∈ mapPut l k v → p ∈ l ∨ p = (k, v)
  | [], k, v, p, h => by
    have : p = (k, v) := by simpa [mapPut] using h
    exact .inr this
  | q :: r, k, v, p, h => by
    rw [mapPut] at h
    cases hd : decide (k = q.1) with
    | true =>
      rw [hd, cond_true] at h
      rcases List.mem_cons.1 h with h | h
      · exact .inr h
      · exact .inl (List.mem_cons_of_mem _ h)
    | false =>
      rw [hd, cond_false] at h
      rcases List.mem_cons.1 h with h | h
      · exact .inl (by rw [h]; exact List.mem_cons_self)
      · rcases mapPut_mem h with h | h
        · exact .inl (List.mem_cons_of_mem _ h)
        · exact .inr h
theorem mapPut_nodup {β : Type} : ∀ {l : List (Int × β)} {k : Int} {v : β}, (l.map (·.1)).Nodup → ((mapPut l k v).map (·.1)).Nodup
  | [], k, v, _ => by simp [mapPut]
  | q :: r, k, v, h => by
    rw [List.map_cons, List.nodup_cons] at h
    rw [mapPut]
    cases hd : decide (k = q.1) with
    | true =>
      have : k = q.1 := of_decide_eq_true hd
      rw [cond_true, List.map_cons, List.nodup_cons, this]; exact h
    | false =>
      rw [cond_false, List.map_cons, List.nodup_cons]
      refine ⟨fun hm => ?_, mapPut_nodup h.2⟩
      obtain ⟨p, hp, he⟩ := List.mem_map.1 hm
      rcases mapPut_mem hp with hp | hp
      · exact h.1 (List.mem_map.2 ⟨p, hp, he⟩)
      · rw [hp] at he
        exact absurd he (of_decide_eq_false hd)
theorem mapPut_len {β : Type} : ∀ (l : List (Int × β)) (k : Int) (v : β), (mapPut l k v).length ≤ l.length + 1
  | [], k, v => by simp [mapPut]
  | q :: r, k, v => by
    rw [mapPut]
    cases decide (k = q.1) with
    | true => simp
    | false => have := mapPut_len r k v; simp; omega
/-- What is known of the groups. -/
def OK34 (gs : List (Int × List Int)) : Prop := (gs.map (·.1)).Nodup ∧ ∀ p ∈ gs, p.2 ≠ [] ∧ -9223372036854775808 ≤ p.1 ∧ p.1 ≤ 9223372036854775807
theorem grps34_ok : ∀ {l : List TStarter} {gs : List (Int × List Int)}, OK34 gs → (∀ s ∈ l, -9223372036854775808 ≤ s.Team ∧ s.Team ≤ 9223372036854775807) → OK34 (l.foldl grp34 gs) ∧ (l.foldl grp34 gs).length ≤ gs.length + l.length
  | [], gs, h, _ => ⟨h, Nat.le_refl _⟩
  | s :: l, gs, h, hl => by
    have hs := hl s List.mem_cons_self
    have h1 : OK34 (grp34 gs s) ∧ (grp34 gs s).length ≤ gs.length + 1 := by
      unfold grp34
      cases decide (s.Team > 0) && (decide (s.Bib ≥ 1) && decide (s.Bib ≤ 9999)) with
      | false => rw [cond_false]; exact ⟨h, Nat.le_succ _⟩
      | true =>
        rw [cond_true]
        refine ⟨⟨mapPut_nodup h.1, fun p hp => ?_⟩, mapPut_len _ _ _⟩
        rcases mapPut_mem hp with hp | hp
        · exact h.2 p hp
        · rw [hp]; exact ⟨by simp, hs⟩
    obtain ⟨h2, h3⟩ := grps34_ok (l := l) h1.1 fun s hs => hl s (List.mem_cons_of_mem _ hs)
    rw [List.foldl_cons, List.length_cons]
    exact ⟨h2, by omega⟩
def take34 (G : GL) (ks : List Int) : GL := ks.foldl (fun G k => mapPut G k none) G
theorem take34_get : ∀ (ks : List Int) (G : GL) (k : Int), k ∉ ks → mapGet (take34 G ks) k none = mapGet G k none
  | [], G, k, _ => rfl
  | q :: ks, G, k, h => by
    rw [List.mem_cons, not_or] at h
    show mapGet (take34 (mapPut G q none) ks) k none = _
    rw [take34_get ks _ k h.2, mapGet_mapPut, if_neg h.1]
theorem gl34_have : ∀ (gs : List (Int × List Int)) (k : Int), k ∈ gs.map (·.1) → mapGet (gl34 gs) k none = some (mapGet gs k []) ∧ (k, mapGet gs k []) ∈ gs
  | [], k, h => by cases h
  | p :: r, k, h => by
    show (bif decide (k = p.1) then some p.2 else mapGet (gl34 r) k none) = some (bif decide (k = p.1) then p.2 else mapGet r k []) ∧ (k, bif decide (k = p.1) then p.2 else mapGet r k []) ∈ p :: r
    cases hd : decide (k = p.1) with
    | true =>
      rw [cond_true, cond_true]
      refine ⟨rfl, ?_⟩
      have : k = p.1 := of_decide_eq_true hd
      rw [this]; exact List.mem_cons_self
    | false =>
      rw [cond_false, cond_false]
      rw [List.map_cons, List.mem_cons] at h
      rcases h with h | h
      · exact absurd h (of_decide_eq_false hd)
      · obtain ⟨h1, h2⟩ := gl34_have r k h
        exact ⟨h1, List.mem_cons_of_mem _ h2⟩
end Go.Proofs.Tryz
