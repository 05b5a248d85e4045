/- The library's functions on maps' keys and slices of numbers, as operations over abstract states. No condition. -/
import Derived.Test.YtpfihfiimeepfaaGreatDoorZC2
import Derived.Test.YtpfihfiimeepfaaGreatDoorZK1
import Derived.Sort.OwnSortedInts
namespace Go.Proofs.Tryz
open Go Go.Abs
theorem ext_rewr {X : Nat → Prop} {m : Mp} {w w' : World} {κ b : Nat} {vs vs' : Array Value} {el : TypeId} (hm : m[κ]? = some (.blk b)) (hg : w.heap[b]? = some (.cells vs el (0, 0))) (hg' : w'.heap[b]? = some (.cells vs' el (0, 0))) (hs : vs'.size = vs.size)
    (hsz : w.heap.size ≤ w'.heap.size) (ho : ∀ c, c ≠ b → c < w.heap.size → w'.heap[c]? = w.heap[c]?) (hout : Same w w') : Ext X m w m w' where
  out := hout
  keep b' hb' hn := ⟨ho b' (fun e => hn (by subst e; exact mem_of_get hm)) hb', hn⟩
  size := hsz
  len := Nat.le_refl _
  same _ _ _ h := .inr h
  room b' n := by
    rintro ⟨us, el', fz, e, hn⟩
    by_cases hbb : b' = b
    · subst hbb
      rw [hg] at e
      simp only [Option.some.injEq, Obj.cells.injEq] at e
      obtain ⟨rfl, rfl, rfl⟩ := e
      exact ⟨vs', el, (0, 0), hg', by omega⟩
    · exact ⟨us, el', fz, (ho b' hbb (Array.getElem?_eq_some_iff.1 e).1).trans e, hn⟩
theorem hrel_rewr {X : Nat → Prop} {m : Mp} {H : Hp} {w w' : World} {κ b : Nat} {vs vs' : Array Value} {el : TypeId} {B B' : Blk} (h : HRel X m H w) (hm : m[κ]? = some (.blk b)) (hκ : H[κ]? = some (some B)) (hg : w.heap[b]? = some (.cells vs el (0, 0)))
    (hg' : w'.heap[b]? = some (.cells vs' el (0, 0))) (hs : vs'.size = vs.size) (hsz : w.heap.size ≤ w'.heap.size) (ho : ∀ c, c ≠ b → c < w.heap.size → w'.heap[c]? = w.heap[c]?) (hout : Same w w') (hB : BRel X m w vs' B') : HRel X m (H.set κ (some B')) w' := by
  have hx : Ext X m w m w' := ext_rewr hm hg hg' hs hsz ho hout
  refine ⟨by simp [h.len], fun κ' ds hκ' => ?_, h.inj, fun κ b h1 => let ⟨l, x⟩ := h.lt κ b h1; ⟨Nat.lt_of_lt_of_le l hx.size, x⟩, fun b hb => Nat.lt_of_lt_of_le (h.old b hb) hx.size, h.tab.ext hx⟩
  rw [List.getElem?_set] at hκ'
  by_cases he : κ = κ'
  · subst he
    have hlt : κ < H.length := (List.getElem?_eq_some_iff.1 hκ).1
    simp [hlt] at hκ'
    subst hκ'
    exact .inl ⟨b, vs', el, hm, hg', hB.ext hx⟩
  · simp [he] at hκ'
    rcases h.blk κ' ds hκ' with ⟨b', us, el', h1, h2, h3⟩ | h0 | ⟨E, b', es, ck, e1, e2, e3, e4⟩
    · refine .inl ⟨b', us, el', h1, ?_, h3.ext hx⟩
      rw [ho b' (fun e => he (by subst e; exact h.inj _ _ _ hm h1)) (h.lt _ _ h1).1]
      exact h2
    · exact .inr (.inl h0)
    · refine .inr (.inr ⟨E, b', es, ck, e1, e2, ?_, e4.ext hx⟩)
      rw [ho b' (fun e => he (by subst e; exact h.inj _ _ _ hm e2)) (h.lt _ _ e2).1]
      exact e3
def msortI (zs : List Int) : List Int := zs.mergeSort fun x y => decide (x ≤ y)
theorem msortI_perm (zs : List Int) : (msortI zs).Perm zs := List.mergeSort_perm _ _
theorem msortI_len (zs : List Int) : (msortI zs).length = zs.length := List.length_mergeSort _
/-- A slice of numbers in a block of one's own: where it lies. -/
theorem own_slice {X : Nat → Prop} {m : Mp} {H : Hp} {w : World} {κ : Nat} {zs : List Int} {v : Value} (hh : HRel X m H w) (hκ : H[κ]? = some (some (.arr 1 (zs.map dI64)))) (hz : zs ≠ []) (hv : V X m w v (.sl κ 1 0 zs.length)) :
    ∃ (b : Nat) (vs : Array Value) (el : TypeId) (cap : Nat), m[κ]? = some (.blk b) ∧ w.heap[b]? = some (.cells vs el (0, 0)) ∧ v = .slice (some ⟨b, 0, none⟩) zs.length cap ∧ zs.length ≤ cap ∧ cap ≤ vs.size ∧ ∀ (l : Nat) z, zs[l]? = some z → vs[l]? = some (.int .i64 z) := by
  rcases hh.blk2 κ _ hκ with ⟨b, vs, el, hm, hg, hB⟩ | ⟨_, q, hq⟩
  · cases hv with
    | sl _ _ _ _ _ _ h1 hb h0 =>
      obtain ⟨cap, rfl, hle, us, el', fz, hg', hroom⟩ := hb b hm
      rw [hg] at hg'
      simp only [Option.some.injEq, Obj.cells.injEq] at hg'
      obtain ⟨rfl, rfl, rfl⟩ := hg'
      refine ⟨b, vs, el, cap, hm, hg, rfl, hle, by simpa using hroom, fun l z hlz => ?_⟩
      obtain ⟨v, e, hC⟩ := hB.2 l (dI64 z) 0 (.d (.i .i64 z)) (by simp [hlz]) rfl
      rw [V.int hC.1] at e
      simpa using e
  · cases zs with
    | nil => exact absurd rfl hz
    | cons z r => simp at hq
theorem cells_list {vs : Array Value} {zs : List Int} (h : ∀ (l : Nat) z, zs[l]? = some z → vs[l]? = some (.int .i64 z)) : vs.toList.take zs.length = zs.map (Value.int .i64) := by
  apply List.ext_getElem?
  intro j
  rcases Nat.lt_or_ge j zs.length with hj | hj
  · rw [List.getElem?_take_of_lt hj, List.getElem?_map, List.getElem?_eq_getElem hj]
    have := h j zs[j] (List.getElem?_eq_getElem hj)
    simpa using this
  · rw [List.getElem?_eq_none (by simp; omega), List.getElem?_eq_none (by simpa using hj)]
/-- What a row's rewriting by the library comes to. -/
theorem row_world {w w' : World} {b n : Nat} {os : Array Obj} {vs : Array Value} {el : TypeId} {d : Array Int} (hg : w.heap[b]? = some (.cells vs el (0, 0))) (hw : w' = Sort.grow (Sort.putRow (Value.int .i64) (Sort.ahead w n) b 0 d) os) :
    w'.heap[b]? = some (.cells (Sort.putCells (Value.int .i64) 0 d vs) el (0, 0)) ∧ w.heap.size ≤ w'.heap.size ∧ (∀ c, c ≠ b → c < w.heap.size → w'.heap[c]? = w.heap[c]?) ∧ Same w w' := by
  subst hw
  refine ⟨heap_sortedI d hg, by simp [Sort.ahead], fun c hc hlt => ?_, ?_⟩
  · simp only [Sort.grow, Sort.putRow, Sort.mapBlock, Sort.ahead]
    rw [Array.getElem?_append_left (by simpa using hlt)]
    simp [Array.getElem?_modify, Ne.symm hc]
  · exact ⟨rfl, rfl, rfl⟩
theorem putCells_get {vs : Array Value} {d : Array Int} {j : Nat} {z : Int} (hj : d[j]? = some z) (hlt : j < vs.size) : (Sort.putCells (Value.int .i64) 0 d vs)[j]? = some (.int .i64 z) := by
  obtain ⟨h1, h2⟩ := Array.getElem?_eq_some_iff.1 hj
  simp only [Sort.putCells, Array.getElem?_mapIdx, Array.getElem?_eq_getElem hlt, Option.map_some]
  rw [if_pos ⟨by omega, by omega⟩, Nat.sub_zero, getElem!_pos d j h1, h2]
theorem sort_ecall {H : Hp} {κ : Nat} {zs : List Int} (hκ : H[κ]? = some (some (.arr 1 (zs.map dI64)))) (hz : zs ≠ []) (hn : zs.length < 4611686018427387904) {Q : AV → Hp → Prop} (hq : Q (retD []) (H.set κ (some (.arr 1 ((msortI zs).map dI64))))) :
    ECall prog 52 [.sl κ 1 0 zs.length] H Q := by
  unfold ECall
  refine ⟨⟨_, _, func52, rfl, rfl⟩, fun X m vals w hs hv hh => ?_⟩
  obtain ⟨v, rfl⟩ := Array.size_eq_one_iff.1 (show vals.size = 1 from hs)
  obtain ⟨b, vs, el, cap, hm, hg, rfl, hle, hcap, hcell⟩ := own_slice hh hκ hz (hv 0 v _ rfl rfl)
  have hH := holds_of_blockI hg (cells_list hcell)
  have hlt : b < w.heap.size := (Array.getElem?_eq_some_iff.1 hg).1
  refine (callsIn_wide.2 (Go.Proofs.Tryz.slices_Sort_int b 0 cap zs w hH hlt hn)).mono ?_
  rintro e w' ⟨rfl, n, os, hw⟩
  obtain ⟨g1, g2, g3, g4⟩ := row_world hg hw
  have hsz : (Sort.putCells (Value.int .i64) 0 (msortI zs).toArray vs).size = vs.size := by simp [Sort.putCells]
  refine ⟨_, m, _, _, rfl, .tp _ _ rfl (fun j v c h1 _ => by simp at h1), hrel_rewr (B' := .arr 1 ((msortI zs).map dI64)) hh hm hκ hg g1 hsz g2 g3 g4 ⟨fun e he => ?_, fun j e l c he hc => ?_⟩, ext_rewr hm hg g1 hsz g2 g3 g4, hq⟩
  · obtain ⟨z, _, rfl⟩ := List.mem_map.1 he; rfl
  · obtain ⟨z, hz', rfl⟩ := dI64_get he
    have hl0 : l = 0 := by
      have := (List.getElem?_eq_some_iff.1 hc).1
      simp [dI64, AV.cells, D.cells] at this
      exact this
    subst hl0
    have hx' : c = .d (.i .i64 z) := by simpa [dI64, AV.cells, D.cells] using hc.symm
    subst hx'
    have hjl : j < zs.length := by
      have := (List.getElem?_eq_some_iff.1 hz').1
      rwa [msortI_len] at this
    exact ⟨_, by simpa [msortI] using putCells_get (d := (msortI zs).toArray) (by simpa using hz') (by omega), .d _ _ (.i _ _), rfl⟩
theorem compact_ecall {H : Hp} {κ n : Nat} {zs : List Int} (hnl : n = zs.length) (hκ : H[κ]? = some (some (.arr 1 (zs.map dI64)))) (hz : zs ≠ []) (hn : zs.length ≤ 9223372036854775807) {Q : AV → Hp → Prop} (hq : Q (retD [.ls ((Lib.compact zs).map (D.i .i64))]) (H.set κ none)) :
    ECall prog 54 [.sl κ 1 0 n] H Q := by
  subst hnl
  unfold ECall
  refine ⟨⟨_, _, func54, rfl, rfl⟩, fun X m vals w hs hv hh => ?_⟩
  obtain ⟨v, rfl⟩ := Array.size_eq_one_iff.1 (show vals.size = 1 from hs)
  obtain ⟨b, vs, el, cap, hm, hg, rfl, hle, hcap, hcell⟩ := own_slice hh hκ hz (hv 0 v _ rfl rfl)
  have hH := holds_of_blockI hg (cells_list hcell)
  refine (callsIn_wide.2 (Go.Proofs.Tryz.slices_Compact_int b 0 cap zs w hH hn hle)).mono ?_
  rintro e w' ⟨rfl, n, hw⟩
  have hcl := Lib.compact_length_le zs
  obtain ⟨g1, g2, g3, g4⟩ := row_world (w' := w') (n := n) (os := #[]) hg (by rw [Sort.grow_empty]; exact hw)
  have hsz : (Sort.putCells (Value.int .i64) 0 (Lib.compact zs ++ List.replicate (zs.length - (Lib.compact zs).length) 0).toArray vs).size = vs.size := by simp [Sort.putCells]
  have hcl2 : ∀ (j : Nat) z, (Lib.compact zs)[j]? = some z → (Sort.putCells (Value.int .i64) 0 (Lib.compact zs ++ List.replicate (zs.length - (Lib.compact zs).length) 0).toArray vs)[j]? = some (.int .i64 z) := by
    intro j z hj
    have hjl := (List.getElem?_eq_some_iff.1 hj).1
    exact putCells_get (by rw [List.getElem?_toArray, List.getElem?_append_left hjl]; exact hj) (by omega)
  have hx := ext_rewr (X := X) hm hg g1 hsz g2 g3 g4
  have hh1 := hrel_rewr (B' := .arr 1 []) hh hm hκ hg g1 hsz g2 g3 g4 ⟨fun e he => (by cases he), fun j e l c he hc => by simp at he⟩
  have hkap : (H.set κ (some (Blk.arr 1 []))).set κ none = H.set κ none := by simp
  have hk := hh1.kill κ
  rw [hkap] at hk
  have himm : Imm X (m.set κ .dead) w' b := imm_killed hh1 hm
  refine ⟨_, m.set κ .dead, _, _, rfl, .d _ _ ?_, hk, hx.trans (Ext.kill κ), hq⟩
  have := Rd.ls (I := Imm X (m.set κ .dead) w') (w := w') b 0 cap 1 ((Lib.compact zs).map (D.i .i64)) (fun j _ => .int .i64 (((Lib.compact zs)[j]?).getD 0)) himm (by simp; omega) (fun e he => by obtain ⟨z, _, rfl⟩ := List.mem_map.1 he; rfl) (fun j e l c he hc => ?_) (fun j e l c he hc => ?_)
  · simpa using this
  · simp only [List.getElem?_map, Option.map_eq_some_iff] at he
    obtain ⟨z, hj, rfl⟩ := he
    have hl0 : l = 0 := by
      have := (List.getElem?_eq_some_iff.1 hc).1
      simpa [D.cells] using this
    subst hl0
    rw [hj]
    refine ⟨?_, rfl⟩
    simp only [World.cell?, g1]
    have := hcl2 j z hj
    simpa using this
  · simp only [List.getElem?_map, Option.map_eq_some_iff] at he
    obtain ⟨z, hj, rfl⟩ := he
    have hl0 : l = 0 := by
      have := (List.getElem?_eq_some_iff.1 hc).1
      simpa [D.cells] using this
    subst hl0
    have : c = .i .i64 z := by simpa [D.cells] using hc.symm
    subst this
    rw [hj]
    exact .i _ _
end Go.Proofs.Tryz
