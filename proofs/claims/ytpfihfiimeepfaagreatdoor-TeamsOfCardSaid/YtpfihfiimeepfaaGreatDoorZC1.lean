/- A map of slices of the function's own: what it is in the world, how a slice is taken out of it and put into it. No condition. -/
import Derived.Test.YtpfihfiimeepfaaGreatDoorZB7
import Derived.MapKept
import Derived.Maps.Keyed
namespace Go.Abs
variable {P : Program} {X : Nat → Prop} {m m' : Mp} {H : Hp} {w w' : World}
abbrev GL := List (Int × Option (List Int))
abbrev XH (X hid : Nat → Prop) : Nat → Prop := fun c => X c ∨ hid c
def dI64 (z : Int) : AV := .d (.i .i64 z)
/-- The slice v lies at the start of block c, and holds those numbers. -/
def OwnI (w : World) (c : Nat) (zs : List Int) (v : Value) : Prop :=
  ∃ (cap : Nat) (cells : Array Value) (el : TypeId), v = .slice (some ⟨c, 0, none⟩) zs.length cap ∧ w.heap[c]? = some (.cells cells el (0, 0)) ∧ zs.length ≤ cap ∧ cap ≤ cells.size ∧ ∀ (l : Nat) z, zs[l]? = some z → cells[l]? = some (.int .i64 z)
theorem OwnI.kept {c : Nat} {zs : List Int} {v : Value} (h : OwnI w c zs v) (hk : w'.heap[c]? = w.heap[c]?) : OwnI w' c zs v := by
  obtain ⟨cap, cells, el, h1, h2, h3⟩ := h
  exact ⟨cap, cells, el, h1, hk.trans h2, h3⟩
structure Grp (X hid : Nat → Prop) (wb : World) (b : Nat) (G : GL) (w : World) : Prop where
  hb : hid b
  old : ∀ c, hid c → wb.heap.size ≤ c ∧ c < w.heap.size ∧ ¬X c
  rng : ∀ p ∈ G, (Lit.int .i64 p.1).wf = true
  ent : ∃ (es : Array MapEntry) (ck : Nat) (cs : Nat → Nat), w.heap[b]? = some (.map es ck) ∧ Go.MapKept.Stamped es ck ∧ es.size = G.length ∧
    (∀ (j : Nat) k o, G[j]? = some (k, o) → ∃ e, es[j]? = some e ∧ e.key = .int .i64 k ∧ ∀ zs, o = some zs → hid (cs j) ∧ cs j ≠ b ∧ OwnI w (cs j) zs e.val) ∧
    ∀ (j j' : Nat) k k' zs zs', G[j]? = some (k, some zs) → G[j']? = some (k', some zs') → cs j = cs j' → j = j'
theorem Grp.kept {hid : Nat → Prop} {wb : World} {b : Nat} {G : GL} (h : Grp X hid wb b G w) (hs : w.heap.size ≤ w'.heap.size) (hk : ∀ c, hid c → w'.heap[c]? = w.heap[c]?) : Grp X hid wb b G w' := by
  obtain ⟨es, ck, cs, h1, h2, h3, h4, h5⟩ := h.ent
  refine ⟨h.hb, fun c hc => let ⟨a, b, d⟩ := h.old c hc; ⟨a, Nat.lt_of_lt_of_le b hs, d⟩, h.rng, es, ck, cs, (hk b h.hb).trans h1, h2, h3, fun j k o hj => ?_, h5⟩
  obtain ⟨e, a1, a2, a3⟩ := h4 j k o hj
  exact ⟨e, a1, a2, fun zs hz => let ⟨b1, b2, b3⟩ := a3 zs hz; ⟨b1, b2, b3.kept (hk _ b1)⟩⟩
/-- A slice is taken out: from here on its block is no longer hidden. -/
theorem Grp.take {hid : Nat → Prop} {wb : World} {b : Nat} {G : GL} (h : Grp X hid wb b G w) {j : Nat} {k : Int} {zs : List Int} (hj : G[j]? = some (k, some zs)) :
    ∃ es ck e c, w.heap[b]? = some (.map es ck) ∧ es[j]? = some e ∧ e.key = .int .i64 k ∧ hid c ∧ OwnI w c zs e.val ∧ Grp X (fun x => hid x ∧ x ≠ c) wb b (G.set j (k, none)) w := by
  obtain ⟨es, ck, cs, h1, h2, h3, h4, h5⟩ := h.ent
  obtain ⟨e, a1, a2, a3⟩ := h4 j k _ hj
  obtain ⟨b1, b2, b3⟩ := a3 zs rfl
  refine ⟨es, ck, e, cs j, h1, a1, a2, b1, b3, ⟨h.hb, Ne.symm b2⟩, fun c hc => h.old c hc.1, fun p hp => ?_, es, ck, cs, h1, h2, by rw [List.length_set]; exact h3, fun i k' o hi => ?_, fun i i' k1 k2 z1 z2 hi hi' he => ?_⟩
  · rcases List.mem_or_eq_of_mem_set hp with hp | rfl
    · exact h.rng p hp
    · exact h.rng (k, some zs) (List.mem_of_getElem? hj)
  · rw [List.getElem?_set] at hi
    by_cases hij : j = i
    · subst hij
      have hlt : j < G.length := (List.getElem?_eq_some_iff.1 hj).1
      simp [hlt] at hi
      obtain ⟨rfl, rfl⟩ := hi
      exact ⟨e, a1, a2, fun zs hz => by cases hz⟩
    · rw [if_neg hij] at hi
      obtain ⟨e', c1, c2, c3⟩ := h4 i k' o hi
      refine ⟨e', c1, c2, fun zs' hz => ?_⟩
      obtain ⟨d1, d2, d3⟩ := c3 zs' hz
      subst hz
      exact ⟨⟨d1, fun e => hij (h5 j i _ _ _ _ hj hi e.symm)⟩, d2, d3⟩
  · rw [List.getElem?_set] at hi hi'
    by_cases h6 : j = i
    · subst h6
      have hlt : j < G.length := (List.getElem?_eq_some_iff.1 hj).1
      simp [hlt] at hi
    · rw [if_neg h6] at hi
      by_cases h7 : j = i'
      · subst h7
        have hlt : j < G.length := (List.getElem?_eq_some_iff.1 hj).1
        simp [hlt] at hi'
      · rw [if_neg h7] at hi'
        exact h5 i i' _ _ _ _ hi hi' he
/-- From one set of hidden blocks to another. -/
theorem V.chg {X' : Nat → Prop} (hI : ∀ b, Imm X m w b → Imm X' m' w b) (hl : m.length ≤ m'.length) (hs : ∀ (κ : Nat) e, κ < m.length → m'[κ]? = some e → e = .dead ∨ m[κ]? = some e) {v : Value} {x : AV} (hv : V X m w v x) : V X' m' w v x := by
  induction hv with
  | d v x hr => exact .d v x (hr.mono fun b hb => ⟨hI b hb, rfl⟩)
  | ag vs cs hl h1 _ ih => exact .ag vs cs hl h1 ih
  | tp vs cs hl _ ih => exact .tp vs cs hl ih
  | fn f vs cs hl _ ih => exact .fn f vs cs hl ih
  | fm f vs cs hl _ ih => exact .fm f vs cs hl ih
  | sl v κ k off n hκ h1 hh h0 => exact .sl v κ k off n (Nat.lt_of_lt_of_le hκ hl) h1 (fun b hb => hh b ((hs κ _ hκ hb).resolve_left (by simp))) fun hb => h0 ((hs κ _ hκ hb).resolve_left (by simp))
  | pe v κ k j off hκ h1 hh h0 => exact .pe v κ k j off (Nat.lt_of_lt_of_le hκ hl) h1 (fun b hb => hh b ((hs κ _ hκ hb).resolve_left (by simp))) fun hn => h0 ((hs κ _ hκ hn).resolve_left (by simp))
  | mr v κ hκ h1 hh h0 => exact .mr v κ (Nat.lt_of_lt_of_le hκ hl) h1 (fun b hb => hh b ((hs κ _ hκ hb).resolve_left (by simp))) fun hn => h0 ((hs κ _ hκ hn).resolve_left (by simp))
  | pt v κ off hκ h1 hh h0 => exact .pt v κ off (Nat.lt_of_lt_of_le hκ hl) h1 (fun b hb => hh b ((hs κ _ hκ hb).resolve_left (by simp))) fun hn => h0 ((hs κ _ hκ hn).resolve_left (by simp))
  | nsl => exact .nsl
  | yl l => exact .yl l
  | mx b => exact .mx b
  | cv v => exact .cv v
  | vw v κ k off n hκ hh h0 => exact .vw v κ k off n (Nat.lt_of_lt_of_le hκ hl) (fun b hb => hh b ((hs κ _ hκ hb).resolve_left (by simp))) fun hb => h0 ((hs κ _ hκ hb).resolve_left (by simp))
  | un v => exact .un v
theorem BRel.chg {X' : Nat → Prop} (hI : ∀ b, Imm X m w b → Imm X' m' w b) (hl : m.length ≤ m'.length) (hs : ∀ (κ : Nat) e, κ < m.length → m'[κ]? = some e → e = .dead ∨ m[κ]? = some e) {vs : Array Value} {B : Blk} (hb : BRel X m w vs B) : BRel X' m' w vs B := by
  cases B with
  | var cs => exact fun j c hc => let ⟨v, e, hv⟩ := hb j c hc; ⟨v, e, hv.1.chg hI hl hs, hv.2⟩
  | arr k es => exact ⟨hb.1, fun j e l c h1 h2 => let ⟨v, e, hv⟩ := hb.2 j e l c h1 h2; ⟨v, e, hv.1.chg hI hl hs, hv.2⟩⟩
  | mp E => exact hb
theorem dI64_get {zs : List Int} {j : Nat} {e : AV} (h : (zs.map dI64)[j]? = some e) : ∃ z, zs[j]? = some z ∧ e = dI64 z := by
  simp only [List.getElem?_map, Option.map_eq_some_iff] at h
  obtain ⟨z, h1, h2⟩ := h
  exact ⟨z, h1, h2.symm⟩
/-- The block of a slice that has been taken out is the frame's own. -/
theorem Rel.take {hid : Nat → Prop} {wb : World} {N : Nat} {T : Tp} {a : Act} {c : Nat} {zs : List Int} {v : Value} (hr : Rel (XH X hid) [] wb N m T H a w) (hc : hid c) (hx : wb.heap.size ≤ c ∧ c < w.heap.size ∧ ¬X c) (ho : OwnI w c zs v) :
    Rel (XH X fun x => hid x ∧ x ≠ c) [] wb N (m ++ [.blk c]) T (H ++ [some (.arr 1 (zs.map dI64))]) a w ∧ V (XH X fun x => hid x ∧ x ≠ c) (m ++ [.blk c]) w v (.sl H.length 1 0 zs.length) := by
  have hh := hr.heap
  have hnm : ∀ κ : Nat, m[κ]? ≠ some (ME.blk c) := fun κ hκ => (hh.lt κ c hκ).2 (.inr hc)
  have key : ∀ (κ b : Nat), (m ++ [ME.blk c])[κ]? = some (.blk b) → (κ < m.length ∧ m[κ]? = some (.blk b)) ∨ (κ = m.length ∧ b = c) := by
    intro κ b hk
    by_cases hlt : κ < m.length
    · rw [List.getElem?_append_left hlt] at hk; exact .inl ⟨hlt, hk⟩
    · have := (List.getElem?_eq_some_iff.1 hk).1
      have : κ = m.length := by simp at this; omega
      subst this
      simp at hk
      exact .inr ⟨rfl, hk.symm⟩
  have hI : ∀ b, Imm (XH X hid) m w b → Imm (XH X fun x => hid x ∧ x ≠ c) (m ++ [.blk c]) w b := by
    intro b hb
    refine ⟨hb.1, fun h => hb.2.1 (h.imp id And.left), fun h => ?_⟩
    obtain ⟨κ, hκ⟩ := get_of_mem h
    rcases key κ b hκ with ⟨_, h1⟩ | ⟨_, h1⟩
    · exact hb.2.2 (mem_of_get h1)
    · subst h1; exact hb.2.1 (.inr hc)
  have hl : m.length ≤ (m ++ [ME.blk c]).length := by simp
  have hs : ∀ (κ : Nat) e, κ < m.length → (m ++ [ME.blk c])[κ]? = some e → e = .dead ∨ m[κ]? = some e := fun κ e hκ h => by rw [List.getElem?_append_left hκ] at h; exact .inr h
  have hext : Ext (XH X fun x => hid x ∧ x ≠ c) [] wb (m ++ [.blk c]) w := by
    refine ⟨fun b hb hn => ?_, hr.ext.size, by simp, fun κ e hκ => by simp at hκ, hr.ext.room, hr.ext.out⟩
    obtain ⟨h1, h2⟩ := hr.ext.keep b hb hn
    refine ⟨h1, fun h => ?_⟩
    obtain ⟨κ, hκ⟩ := get_of_mem h
    rcases key κ b hκ with ⟨_, h3⟩ | ⟨_, h3⟩
    · exact h2 (mem_of_get h3)
    · omega
  obtain ⟨cap, cells, el, ev, hg, hle, hcap, hcell⟩ := ho
  refine ⟨⟨hext, hr.size, fun t => (hr.tmp t).chg hI hl hs, ?_, ?_⟩, ?_⟩
  · refine ⟨by simp [hh.len], fun κ B hκ => ?_, fun κ κ' b h1 h2 => ?_, fun κ b h1 => ?_, fun b hb => hh.old b (hb.imp id And.left), ⟨fun g cs hg => ?_⟩⟩
    · by_cases hlt : κ < H.length
      · rw [List.getElem?_append_left hlt] at hκ
        rcases hh.blk κ B hκ with ⟨b, us, el', h1, h2, h3⟩ | ⟨h1, h2⟩ | ⟨E, b', es, ck, e1, e2, e3, e4⟩
        · exact .inl ⟨b, us, el', by rw [List.getElem?_append_left (by rw [hh.len]; exact hlt)]; exact h1, h2, h3.chg hI hl hs⟩
        · exact .inr (.inl ⟨by rw [List.getElem?_append_left (by rw [hh.len]; exact hlt)]; exact h1, h2⟩)
        · exact .inr (.inr ⟨E, b', es, ck, e1, by rw [List.getElem?_append_left (by rw [hh.len]; exact hlt)]; exact e2, e3, e4.mono fun b hb => ⟨hI b hb, rfl⟩⟩)
      · have hlt2 := (List.getElem?_eq_some_iff.1 hκ).1
        have hk2 : κ = H.length := by simp at hlt2; omega
        subst hk2
        simp at hκ
        subst hκ
        refine .inl ⟨c, cells, el, by rw [← hh.len]; simp, hg, fun e he => ?_, fun j e l x he hx => ?_⟩
        · obtain ⟨z, _, rfl⟩ := List.mem_map.1 he; rfl
        · obtain ⟨z, hz, rfl⟩ := dI64_get he
          have hl0 : l = 0 := by
            have := (List.getElem?_eq_some_iff.1 hx).1
            simp [dI64, AV.cells, D.cells] at this
            exact this
          subst hl0
          have hx' : x = .d (.i .i64 z) := by simpa [dI64, AV.cells, D.cells] using hx.symm
          subst hx'
          exact ⟨_, by simpa using hcell j z hz, .d _ _ (.i _ _), rfl⟩
    · rcases key κ b h1 with ⟨_, a1⟩ | ⟨a1, b1⟩ <;> rcases key κ' b h2 with ⟨_, a2⟩ | ⟨a2, b2⟩
      · exact hh.inj _ _ _ a1 a2
      · subst b2; exact (hnm κ a1).elim
      · subst b1; exact (hnm κ' a2).elim
      · omega
    · rcases key κ b h1 with ⟨_, a1⟩ | ⟨_, b1⟩
      · obtain ⟨c1, c2⟩ := hh.lt κ b a1
        exact ⟨c1, fun h => c2 (h.imp id And.left)⟩
      · subst b1
        exact ⟨hx.2.1, fun h => h.elim hx.2.2 fun h => h.2 rfl⟩
    · obtain ⟨h1, h2, h3⟩ := hh.tab.get g cs hg
      refine ⟨h1, fun h => h2 (h.imp id And.left), fun h => ?_⟩
      obtain ⟨κ, hκ⟩ := get_of_mem h
      rcases key κ g hκ with ⟨_, a1⟩ | ⟨_, b1⟩
      · exact h3 (mem_of_get a1)
      · subst b1; exact h2 (.inr hc)
  · obtain ⟨ms, e, nd, hd⟩ := hr.defers
    refine ⟨ms, e, nd, fun D hD => ⟨⟨(hd D hD).1.1, fun h => ?_⟩, (hd D hD).2⟩⟩
    obtain ⟨κ, hκ⟩ := get_of_mem h
    rcases key κ D hκ with ⟨_, a1⟩ | ⟨_, b1⟩
    · exact (hd D hD).1.2 (mem_of_get a1)
    · subst b1
      have := (hd D hD).1.1
      rw [hg] at this; cases this
  · subst ev
    refine .sl _ _ _ _ _ (by simp [hh.len]) rfl (fun b hb => ?_) (fun hb => ?_)
    · rw [← hh.len] at hb
      simp at hb
      subst hb
      exact ⟨cap, by simp, hle, cells, el, (0, 0), hg, by simpa using hcap⟩
    · rw [← hh.len] at hb
      simp at hb
theorem Imm.kill_hid {hid : Nat → Prop} {κ c : Nat} (_hh : HRel (XH X hid) m H w) (hm : m[κ]? = some (.blk c)) : ∀ b, Imm (XH X hid) m w b → Imm (XH X fun x => hid x ∨ x = c) (m.set κ .dead) w b := by
  intro b hb
  refine ⟨hb.1, fun h => ?_, fun h => ?_⟩
  · rcases h with h | h | h
    · exact hb.2.1 (.inl h)
    · exact hb.2.1 (.inr h)
    · subst h; exact hb.2.2 (mem_of_get hm)
  · obtain ⟨j, hj⟩ := get_of_mem h
    rw [List.getElem?_set] at hj
    by_cases he : κ = j
    · simp [he] at hj
    · simp [he] at hj; exact hb.2.2 (mem_of_get hj)
/-- A slice of the frame's own is put among the hidden ones. -/
theorem Rel.give {hid : Nat → Prop} {wb : World} {N : Nat} {T : Tp} {a : Act} {κ : Nat} {zs : List Int} {v : Value} (hr : Rel (XH X hid) [] wb N m T H a w) (hκ : H[κ]? = some (some (.arr 1 (zs.map dI64)))) (hz : zs ≠ []) (hv : V (XH X hid) m w v (.sl κ 1 0 zs.length)) :
    ∃ c, OwnI w c zs v ∧ (wb.heap.size ≤ c ∧ c < w.heap.size ∧ ¬X c) ∧ ¬hid c ∧ Rel (XH X fun x => hid x ∨ x = c) [] wb N (m.set κ .dead) T (H.set κ none) a w := by
  have hh := hr.heap
  rcases hh.blk2 κ _ hκ with ⟨c, vs, el, hm, hg, hB⟩ | ⟨_, q, hq⟩
  · have hlt := hh.lt κ c hm
    have hI := Imm.kill_hid hh hm
    have hl : m.length ≤ (m.set κ .dead).length := by simp
    have hs : ∀ (κ' : Nat) e, κ' < m.length → (m.set κ .dead)[κ']? = some e → e = .dead ∨ m[κ']? = some e := by
      intro κ' e hlt h
      rw [List.getElem?_set] at h
      by_cases he : κ = κ'
      · simp [he] at h; exact .inl (h.2.symm)
      · simp [he] at h; exact .inr h
    have hdead : ∀ (κ' b' : Nat), (m.set κ .dead)[κ']? = some (.blk b') → κ ≠ κ' ∧ m[κ']? = some (.blk b') := by
      intro κ' b' h
      rw [List.getElem?_set] at h
      by_cases he : κ = κ'
      · simp [he] at h
      · simp [he] at h; exact ⟨he, h⟩
    have hwb : wb.heap.size ≤ c := by
      rcases Nat.lt_or_ge c wb.heap.size with h | h
      · exact absurd (mem_of_get hm) (hr.ext.keep c h (by simp)).2
      · exact h
    refine ⟨c, ?_, ⟨hwb, hlt.1, fun h => hlt.2 (.inl h)⟩, fun h => hlt.2 (.inr h), ⟨?_, hr.size, fun t => (hr.tmp t).chg hI hl hs, ?_, ?_⟩⟩
    · cases hv with
      | sl _ _ _ _ _ _ h1 hb h0 =>
        obtain ⟨cap, rfl, hle, us, el', fz, hg', hroom⟩ := hb c hm
        rw [hg] at hg'
        simp only [Option.some.injEq, Obj.cells.injEq] at hg'
        obtain ⟨rfl, rfl, rfl⟩ := hg'
        refine ⟨cap, vs, el, rfl, hg, hle, by simpa using hroom, fun l z hlz => ?_⟩
        obtain ⟨v, e, hC⟩ := hB.2 l (dI64 z) 0 (.d (.i .i64 z)) (by simp [hlz]) rfl
        rw [V.int hC.1] at e
        simpa using e
    · refine ⟨fun b hb hn => ?_, hr.ext.size, by simp, fun κ e hκ => by simp at hκ, hr.ext.room, hr.ext.out⟩
      obtain ⟨h1, h2⟩ := hr.ext.keep b hb hn
      refine ⟨h1, fun h => ?_⟩
      obtain ⟨j, hj⟩ := get_of_mem h
      exact h2 (mem_of_get (hdead j b hj).2)
    · refine ⟨by simp [hh.len], fun κ' B hκ' => ?_, fun κ1 κ2 b h1 h2 => hh.inj _ _ _ (hdead _ _ h1).2 (hdead _ _ h2).2, fun κ' b h1 => ?_, fun b hb => ?_, ⟨fun g cs hg => ?_⟩⟩
      · rw [List.getElem?_set] at hκ'
        by_cases he : κ = κ'
        · simp [he] at hκ'
        · simp [he] at hκ'
          rcases hh.blk κ' B hκ' with ⟨b, us, el', h1, h2, h3⟩ | ⟨h1, h2⟩ | ⟨E, b', es, ck, e1, e2, e3, e4⟩
          · exact .inl ⟨b, us, el', by simp [he, h1], h2, h3.chg hI hl hs⟩
          · exact .inr (.inl ⟨by simp [he, h1], h2⟩)
          · exact .inr (.inr ⟨E, b', es, ck, e1, by simp [he, e2], e3, e4.mono fun b hb => ⟨hI b hb, rfl⟩⟩)
      · obtain ⟨h2, h3⟩ := hdead κ' b h1
        obtain ⟨h4, h5⟩ := hh.lt κ' b h3
        refine ⟨h4, fun h => ?_⟩
        rcases h with h | h | h
        · exact h5 (.inl h)
        · exact h5 (.inr h)
        · subst h; exact h2 (hh.inj _ _ _ hm h3)
      · rcases hb with h | h | h
        · exact hh.old b (.inl h)
        · exact hh.old b (.inr h)
        · subst h; exact hlt.1
      · obtain ⟨h1, h2, h3⟩ := hh.tab.get g cs hg
        refine ⟨h1, fun h => ?_, fun h => ?_⟩
        · rcases h with h | h | h
          · exact h2 (.inl h)
          · exact h2 (.inr h)
          · subst h; exact h3 (mem_of_get hm)
        · obtain ⟨j, hj⟩ := get_of_mem h
          exact h3 (mem_of_get (hdead j g hj).2)
    · obtain ⟨ms, e, nd, hd⟩ := hr.defers
      refine ⟨ms, e, nd, fun D hD => ⟨⟨(hd D hD).1.1, fun h => ?_⟩, (hd D hD).2⟩⟩
      obtain ⟨j, hj⟩ := get_of_mem h
      exact (hd D hD).1.2 (mem_of_get (hdead j D hj).2)
  · cases zs with
    | nil => exact absurd rfl hz
    | cons z r => simp at hq
/-- Other hidden blocks, seen as one's own no more. -/
theorem Rel.shut {hid : Nat → Prop} {wb : World} {N : Nat} {T : Tp} {a : Act} (hr : Rel (XH X hid) [] wb N m T H a w) : Rel X [] wb N m T H a w := by
  have hh := hr.heap
  have hI : ∀ b, Imm (XH X hid) m w b → Imm X m w b := fun b hb => ⟨hb.1, fun h => hb.2.1 (.inl h), hb.2.2⟩
  refine ⟨⟨hr.ext.keep, hr.ext.size, hr.ext.len, hr.ext.same, hr.ext.room, hr.ext.out⟩, hr.size, fun t => (hr.tmp t).chg hI (Nat.le_refl _) (fun κ e _ h => .inr h), ?_, hr.defers⟩
  refine ⟨hh.len, fun κ B hκ => ?_, hh.inj, fun κ b h => ⟨(hh.lt κ b h).1, fun hx => (hh.lt κ b h).2 (.inl hx)⟩, fun b hb => hh.old b (.inl hb), ⟨fun g cs hg => ?_⟩⟩
  · rcases hh.blk κ B hκ with ⟨b, us, el', h1, h2, h3⟩ | ⟨h1, h2⟩ | ⟨E, b', es, ck, e1, e2, e3, e4⟩
    · exact .inl ⟨b, us, el', h1, h2, h3.chg hI (Nat.le_refl _) (fun κ e _ h => .inr h)⟩
    · exact .inr (.inl ⟨h1, h2⟩)
    · exact .inr (.inr ⟨E, b', es, ck, e1, e2, e3, e4.mono fun b hb => ⟨hI b hb, rfl⟩⟩)
  · obtain ⟨h1, h2, h3⟩ := hh.tab.get g cs hg
    exact ⟨h1, fun h => h2 (.inl h), h3⟩
/-- The keys differ. -/
theorem Grp.apart {hid : Nat → Prop} {wb : World} {b : Nat} {G : GL} (h : Grp X hid wb b G w) : (G.map (·.1)).Nodup := by
  obtain ⟨es, ck, cs, h1, h2, h3, h4, h5⟩ := h.ent
  rw [List.Nodup, List.pairwise_map, List.pairwise_iff_getElem]
  intro i j hi hj hij he
  obtain ⟨ei, a1, a2, _⟩ := h4 i G[i].1 G[i].2 (by simp [hi])
  obtain ⟨ej, b1, b2, _⟩ := h4 j G[j].1 G[j].2 (by simp [hj])
  have hp := ((Go.MapKept.stamped_iff es ck).1 h2).2.2
  rw [List.pairwise_iff_getElem] at hp
  have hi' : i < es.toList.length := by simpa [h3] using hi
  have hj' : j < es.toList.length := by simpa [h3] using hj
  refine hp i j hi' hj' hij ?_
  have e1 : es.toList[i] = ei := by
    have := (Array.getElem?_eq_some_iff.1 a1).2
    simpa using this
  have e2 : es.toList[j] = ej := by
    have := (Array.getElem?_eq_some_iff.1 b1).2
    simpa using this
  rw [e1, e2, a2, b2, he]
theorem mapPut_at {β : Type} : ∀ {G : List (Int × β)} {j : Nat} {k : Int} {o : β} (v : β), (G.map (·.1)).Nodup → G[j]? = some (k, o) → mapPut G k v = G.set j (k, v) ∧ ∀ z, mapGet G k z = o
  | [], j, k, o, v, _, h => by simp at h
  | p :: r, 0, k, o, v, _, h => by
    simp at h; subst h
    simp [mapPut, mapGet]
  | p :: r, j + 1, k, o, v, hn, h => by
    simp only [List.map_cons, List.nodup_cons] at hn
    have h' : r[j]? = some (k, o) := by simpa using h
    obtain ⟨e1, e2⟩ := mapPut_at v hn.2 h'
    have hne : decide (k = p.1) = false := by
      rw [decide_eq_false]
      intro e
      exact hn.1 (List.mem_map.2 ⟨(k, o), List.mem_of_getElem? h', e⟩)
    refine ⟨by rw [mapPut, hne, cond_false, e1]; rfl, fun z => by rw [mapGet, hne, cond_false]; exact e2 z⟩
theorem mapPut_new {β : Type} : ∀ {G : List (Int × β)} {k : Int} (v : β), (∀ p ∈ G, p.1 ≠ k) → mapPut G k v = G ++ [(k, v)] ∧ ∀ z, mapGet G k z = z
  | [], k, v, _ => ⟨rfl, fun _ => rfl⟩
  | p :: r, k, v, h => by
    obtain ⟨e1, e2⟩ := mapPut_new (G := r) v fun q hq => h q (List.mem_cons_of_mem _ hq)
    have hne : decide (k = p.1) = false := by
      rw [decide_eq_false]
      intro e; exact h p List.mem_cons_self e.symm
    exact ⟨by rw [mapPut, hne, cond_false, e1]; rfl, fun z => by rw [mapGet, hne, cond_false]; exact e2 z⟩
/-- Where a key is found among the groups. -/
theorem Grp.find {hid : Nat → Prop} {wb : World} {b : Nat} {G : GL} {kt : TypeId} (hk : P.underlying kt = some (.int .i64)) (h : Grp X hid wb b G w) {k : Int} (hw : (Lit.int .i64 k).wf = true) :
    ∃ (es : Array MapEntry) (ck : Nat), w.heap[b]? = some (.map es ck) ∧ (∀ em, (Instr.checkKey em 10000 kt (.int .i64 k)).run P w = .ok () w) ∧ (Instr.keyThatStays (.int .i64 k) (.int .i64 k)).run P w = .ok (.int .i64 k) w ∧
      (((Instr.findKey kt (.int .i64 k) es.toList).run P w = .ok none w ∧ (∀ e ∈ es.toList, e.key ≠ .int .i64 k) ∧ ∀ p ∈ G, p.1 ≠ k) ∨
       ∃ j e o, (Instr.findKey kt (.int .i64 k) es.toList).run P w = .ok (some (j, e.val)) w ∧ es[j]? = some e ∧ e.key = .int .i64 k ∧ G[j]? = some (k, o)) := by
  obtain ⟨es, ck, cs, h1, h2, h3, h4, h5⟩ := h.ent
  have K := Go.Maps.int_keyed hk
  have hkey := Go.Maps.keyOf_int_mk hk hw
  have at_ : ∀ (j : Nat) (e : MapEntry), es[j]? = some e → ∃ p, G[j]? = some p ∧ e.key = .int .i64 p.1 := by
    intro j e he
    have hlt : j < G.length := by
      rw [← h3]
      exact (Array.getElem?_eq_some_iff.1 he).1
    obtain ⟨e', a1, a2, _⟩ := h4 j G[j].1 G[j].2 (by simp [hlt])
    rw [he] at a1
    obtain rfl : e = e' := by simpa using a1
    exact ⟨G[j], by simp [hlt], a2⟩
  refine ⟨es, ck, h1, fun em => K.check w em hkey, K.stays w hkey, ?_⟩
  rcases K.find w hkey es.toList (fun e he => by
    obtain ⟨j, hj⟩ := List.getElem?_of_mem he
    obtain ⟨p, hp, hpk⟩ := at_ j e (by simpa using hj)
    exact ⟨_, by rw [hpk]; exact Go.Maps.keyOf_int_mk hk (h.rng p (List.mem_of_getElem? hp))⟩) with ⟨f1, f2⟩ | ⟨j, e, f1, f2, f3⟩
  · refine .inl ⟨f1, f2, fun p hp he => ?_⟩
    obtain ⟨j, hj⟩ := List.getElem?_of_mem hp
    obtain ⟨e, a1, a2, _⟩ := h4 j p.1 p.2 hj
    exact f2 e (by have : es.toList[j]? = some e := by simpa using a1
                   exact List.mem_of_getElem? this) (by rw [a2, he])
  · have f2' : es[j]? = some e := by simpa using f2
    obtain ⟨p, hp, hpk⟩ := at_ j e f2'
    refine .inr ⟨j, e, p.2, f1, f2', f3, ?_⟩
    rw [f3] at hpk
    have : k = p.1 := by simpa using hpk
    rw [hp, this]
/-- A slice is put into the map. -/
theorem Grp.put {hid : Nat → Prop} {wb : World} {b : Nat} {G : GL} {t kt et : TypeId} (ht : P.underlying t = some (.map kt et)) (hk : P.underlying kt = some (.int .i64)) (h : Grp X hid wb b G w) {k : Int} (hw : (Lit.int .i64 k).wf = true)
    {zs : List Int} {v : Value} {c : Nat} (ho : OwnI w c zs v) (hc : wb.heap.size ≤ c ∧ c < w.heap.size ∧ ¬X c) (hn : ¬hid c) :
    ∃ (es : Array MapEntry) (ck : Nat) (es' : Array MapEntry) (ck' : Nat), w.heap[b]? = some (.map es ck) ∧ (Instr.mapUpdate t (.map (some b)) (.int .i64 k) v).run P w = .ok () { w with heap := w.heap.setIfInBounds b (.map es' ck') } ∧
      Grp X (fun x => hid x ∨ x = c) wb b (mapPut G k (some zs)) { w with heap := w.heap.setIfInBounds b (.map es' ck') } := by
  obtain ⟨es, ck, g1, g2, g3, g4⟩ := h.find hk hw
  obtain ⟨es0, ck0, cs, h1, h2, h3, h4, h5⟩ := h.ent
  rw [g1] at h1
  simp only [Option.some.injEq, Obj.map.injEq] at h1
  obtain ⟨rfl, rfl⟩ := h1
  have hg := Go.MapKept.run_getObj_map (P := P) g1
  have hblt : b < w.heap.size := (Array.getElem?_eq_some_iff.1 g1).1
  have hcb : c ≠ b := fun e => hn (e ▸ h.hb)
  -- what the other hidden blocks are
  have oth : ∀ es' ck' x, x ≠ b → ({ w with heap := w.heap.setIfInBounds b (.map es' ck') } : World).heap[x]? = w.heap[x]? := fun es' ck' x hx => by simp [Ne.symm hx]
  have fin : ∀ es' ck' (j : Nat), es'.size = (mapPut G k (some zs)).length → Go.MapKept.Stamped es' ck' →
      (∃ e, es'[j]? = some e ∧ e.key = .int .i64 k ∧ e.val = v) → (mapPut G k (some zs))[j]? = some (k, some zs) → (∀ i, i ≠ j → (mapPut G k (some zs))[i]? = G[i]? ∧ es'[i]? = es[i]?) →
      Grp X (fun x => hid x ∨ x = c) wb b (mapPut G k (some zs)) { w with heap := w.heap.setIfInBounds b (.map es' ck') } := by
    intro es' ck' j hsz hst hej hGj hoth
    refine ⟨.inl h.hb, fun x hx => ?_, fun p hp => ?_, es', ck', fun i => if i = j then c else cs i, by simp [hblt], hst, hsz, fun i k' o hi => ?_, fun i i' k1 k2 z1 z2 hi hi' he => ?_⟩
    · simp only [Array.size_setIfInBounds]
      rcases hx with hx | hx
      · exact h.old x hx
      · subst hx; exact hc
    · obtain ⟨i, hi⟩ := List.getElem?_of_mem hp
      by_cases hij : i = j
      · subst hij
        rw [hGj] at hi
        obtain rfl : (k, some zs) = p := by simpa using hi
        exact hw
      · rw [(hoth i hij).1] at hi
        exact h.rng p (List.mem_of_getElem? hi)
    · by_cases hij : i = j
      · subst hij
        rw [hGj] at hi
        simp only [Option.some.injEq, Prod.mk.injEq] at hi
        obtain ⟨rfl, rfl⟩ := hi
        obtain ⟨e, e1, e2, e3⟩ := hej
        refine ⟨e, e1, e2, fun zs' hz => ?_⟩
        cases hz
        dsimp only
        rw [if_pos rfl, e3]
        exact ⟨.inr rfl, hcb, ho.kept (oth _ _ _ hcb)⟩
      · rw [(hoth i hij).1] at hi
        obtain ⟨e, e1, e2, e3⟩ := h4 i k' o hi
        refine ⟨e, by rw [(hoth i hij).2]; exact e1, e2, fun zs' hz => ?_⟩
        obtain ⟨d1, d2, d3⟩ := e3 zs' hz
        dsimp only
        rw [if_neg hij]
        exact ⟨.inl d1, d2, d3.kept (oth _ _ _ d2)⟩
    · have act : ∀ (i : Nat) k' z, (mapPut G k (some zs))[i]? = some (k', some z) → i ≠ j → hid (cs i) := by
        intro i k' z hi hij
        rw [(hoth i hij).1] at hi
        obtain ⟨e, _, _, e3⟩ := h4 i k' _ hi
        exact (e3 z rfl).1
      by_cases hij : i = j
      · by_cases hij' : i' = j
        · omega
        · simp only [if_pos hij, if_neg hij'] at he
          exact absurd (he ▸ act i' _ _ hi' hij') hn
      · by_cases hij' : i' = j
        · simp only [if_neg hij, if_pos hij'] at he
          exact absurd (he ▸ act i _ _ hi hij) hn
        · simp only [if_neg hij, if_neg hij'] at he
          rw [(hoth i hij).1] at hi
          rw [(hoth i' hij').1] at hi'
          exact h5 i i' _ _ _ _ hi hi' he
  rcases g4 with ⟨f1, f2, f3⟩ | ⟨j, e, o, f1, f2, f3, f4⟩
  · obtain ⟨m1, _⟩ := mapPut_new (some zs) f3
    refine ⟨es, ck, es.push { key := .int .i64 k, val := v, born := ck }, ck + 1, g1, by simp [Instr.mapUpdate, underlying, ht, hg, g2, f1, Go.MapKept.run_setObj_map _ g1], fin _ _ G.length ?_ ?_ ?_ ?_ fun i hi => ?_⟩
    · rw [m1]; simp [h3]
    · exact Go.MapKept.stamped_push h2 f2
    · exact ⟨{ key := .int .i64 k, val := v, born := ck }, by rw [← h3]; simp, rfl, rfl⟩
    · rw [m1]; simp
    · rw [m1]
      rcases Nat.lt_or_ge i G.length with hlt | hge
      · exact ⟨by rw [List.getElem?_append_left hlt], by rw [Array.getElem?_push_lt (by omega)]; simp [h3, hlt]⟩
      · have hgt : G.length < i := by omega
        exact ⟨by rw [List.getElem?_eq_none (by simp; omega), List.getElem?_eq_none (by omega)], by rw [Array.getElem?_eq_none (by simp; omega), Array.getElem?_eq_none (by omega)]⟩
  · obtain ⟨m1, _⟩ := mapPut_at (some zs) h.apart f4
    have hjl : j < G.length := (List.getElem?_eq_some_iff.1 f4).1
    have hks : ((es[j]?).map (·.key)).getD (.int .i64 k) = .int .i64 k := by rw [f2]; exact f3
    refine ⟨es, ck, es.modify j fun e => { e with key := .int .i64 k, val := v }, ck, g1, by simp [Instr.mapUpdate, underlying, ht, hg, g2, f1, hks, g3, Go.MapKept.run_setObj_map _ g1], fin _ _ j ?_ ?_ ?_ ?_ fun i hi => ?_⟩
    · rw [m1]; simp [h3]
    · refine Go.MapKept.stamped_modify h2 j _ (fun e _ => rfl) fun e' _ he' => ?_
      rw [f2] at he'
      obtain rfl : e = e' := by simpa using he'
      exact f3.symm
    · exact ⟨{ e with key := .int .i64 k, val := v }, by simp [Array.getElem?_modify, f2], rfl, rfl⟩
    · rw [m1]; simp [hjl]
    · rw [m1]
      exact ⟨by rw [List.getElem?_set]; simp [Ne.symm hi], by rw [Array.getElem?_modify]; simp [Ne.symm hi]⟩
end Go.Abs
