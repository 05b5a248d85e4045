/- slices.SortFunc at members of teams, by the contracts of the library. No condition. -/
import Derived.Test.YtpfihfiimeepfaaGreatDoorZC6
import Derived.Shelf.SlSortCmp.NoneTotal
import Derived.Shelf.SlicesG.Cmp
namespace Go.Proofs.Tryz
open Go Go.Abs Go.Stop Go.RowKit Go.Lib Go.Sort
/-- A member's four cells. -/
def encMb (x : Tteams_member) : List Value := [.int .i64 x.Span.Lo, .int .i64 x.Span.Hi, .bool x.can, .bool x.sure]
theorem encMb_len (x : Tteams_member) : (encMb x).length = 4 := rfl
theorem encMb_one (x : Tteams_member) : ∀ v ∈ encMb x, v.oneCell' = true := by
  intro v hv
  simp [encMb] at hv
  rcases hv with rfl | rfl | rfl | rfl <;> rfl
theorem mb_cell (x : Tteams_member) (q : Nat) (c : AV) (h : (AV.d (eTteams_member x)).cells[q]? = some c) : ∃ d v, c = .d d ∧ scalV d = some v ∧ (encMb x)[q]? = some v ∧ q < 4 := by
  match q, h with
  | 0, h => cases h; exact ⟨_, _, rfl, rfl, rfl, by omega⟩
  | 1, h => cases h; exact ⟨_, _, rfl, rfl, rfl, by omega⟩
  | 2, h => cases h; exact ⟨_, _, rfl, rfl, rfl, by omega⟩
  | 3, h => cases h; exact ⟨_, _, rfl, rfl, rfl, by omega⟩
  | q + 4, h => cases h
theorem mb_cells (x : Tteams_member) {q : Nat} (h : q < 4) : ∃ c, (AV.d (eTteams_member x)).cells[q]? = some c := by
  match q, h with
  | 0, _ => exact ⟨_, rfl⟩
  | 1, _ => exact ⟨_, rfl⟩
  | 2, _ => exact ⟨_, rfl⟩
  | 3, _ => exact ⟨_, rfl⟩
  | q + 4, h => omega
theorem own_mb {X : Nat → Prop} {m : Mp} {H : Hp} {w : World} {κ : Nat} {l : List Tteams_member} {v : Value} (hh : HRel X m H w) (hκ : H[κ]? = some (some (.arr 4 (List.map .d (List.map eTteams_member l))))) (hv : V X m w v (.sl κ 4 0 (List.length l))) :
    (l = [] ∧ ∃ p cap, v = .slice p 0 cap) ∨ ∃ (b : Nat) (vs : Array Value) (el : TypeId) (cap : Nat), m[κ]? = some (.blk b) ∧ w.heap[b]? = some (.cells vs el (0, 0)) ∧ v = .slice (some ⟨b, 0, none⟩) l.length cap ∧ l.length ≤ cap ∧ cap * 4 ≤ vs.size ∧ ∀ (j q : Nat) x, l[j]? = some x → q < 4 → vs[j * 4 + q]? = (encMb x)[q]? := by
  rcases hh.blk2 κ _ hκ with ⟨b, vs, el, hm, hg, hB⟩ | ⟨hm, q, hq⟩
  · cases hv with
    | sl _ _ _ _ _ _ h1 hb h0 =>
      obtain ⟨cap, rfl, hle, us, el', fz, hg', hroom⟩ := hb b hm
      rw [hg] at hg'
      simp only [Option.some.injEq, Obj.cells.injEq] at hg'
      obtain ⟨rfl, rfl, rfl⟩ := hg'
      refine .inr ⟨b, vs, el, cap, hm, hg, by rw [Nat.zero_mul], hle, by simpa using hroom, fun j q x hj hq => ?_⟩
      obtain ⟨c, hc⟩ := mb_cells x hq
      obtain ⟨v, e, hC⟩ := hB.2 j (.d (eTteams_member x)) q c (by simp [hj]) hc
      obtain ⟨d, v', rfl, h2, h3, _⟩ := mb_cell x q c hc
      rw [e, h3]
      cases hC.1 with
      | d _ _ hr => rw [hr.scalV_eq h2]
  · cases l with
    | nil =>
      cases hv with
      | sl _ _ _ _ _ _ h1 hb h0 => exact .inl ⟨rfl, none, 0, (h0 hm).1⟩
    | cons z r => simp at hq
theorem row_worldK {w w' : World} {b n : Nat} {os : Array Obj} {vs : Array Value} {el : TypeId} {F : Array Value} (hg : w.heap[b]? = some (.cells vs el (0, 0))) (hw : w' = Sort.grow (Sort.putRow id (Sort.ahead w n) b 0 F) os) :
    w'.heap[b]? = some (.cells (Sort.putCells id 0 F vs) el (0, 0)) ∧ w.heap.size ≤ w'.heap.size ∧ (∀ c, c ≠ b → c < w.heap.size → w'.heap[c]? = w.heap[c]?) ∧ Same w w' := by
  subst hw
  have hb : b < w.heap.size := (Array.getElem?_eq_some_iff.1 hg).1
  refine ⟨?_, by simp [Sort.ahead], fun c hc hlt => ?_, ?_⟩
  · rw [heap_grow_old _ _ (by simpa using hb)]
    simp [putRow, mapBlock, Sort.ahead, Array.getElem?_modify, hg, onCells]
  · simp only [Sort.grow, Sort.putRow, Sort.mapBlock, Sort.ahead]
    rw [Array.getElem?_append_left (by simpa using hlt)]
    simp [Array.getElem?_modify, Ne.symm hc]
  · exact ⟨rfl, rfl, rfl⟩
theorem sortMb_mc {f : FuncId} {cf : Tteams_member → Tteams_member → Int} (hO : SWO (ltOf cf)) (eg : ∀ args w, (callFunc f args).run prog w = .ok (.enter f args) w)
    (hcl : ∀ x y W, Calls prog f #[.agg (encMb x).toArray, .agg (encMb y).toArray] W fun e w' => e = .returned (.int .i64 (cf x y)) ∧ ∃ q os', w' = grow (W.drewN q) os') (l : List Tteams_member) (hn : l.length < 4611686018427387904) :
    MC prog 73 [.sl 0 4 0 (List.length l), .d (.fn f [])] [.arr 4 (List.map .d (List.map eTteams_member l))] (fun rs Bs => rs = [] ∧ Bs = [.arr 4 (List.map .d (List.map eTteams_member (Sort.pdq (ltOf cf) l.toArray 0 l.length (Lib.bitLen l.length) true true).toList))]) := by
  have hsort := pdq_sorts (ltOf cf) hO l.toArray 0 l.length (Lib.bitLen l.length) true true (Nat.zero_le _) (by simp) (Or.inl rfl)
  have hsize : (Sort.pdq (ltOf cf) l.toArray 0 l.length (Lib.bitLen l.length) true true).size = l.length := by rw [hsort.1.1]; simp
  generalize hD : Sort.pdq (ltOf cf) l.toArray 0 l.length (Lib.bitLen l.length) true true = D at hsort hsize
  unfold MC ECall
  refine ⟨⟨_, _, func73, rfl, rfl⟩, fun X m vals w hs hv hh => ?_⟩
  obtain ⟨v, fv, rfl⟩ : ∃ v fv, vals = #[v, fv] := by
    obtain ⟨L⟩ := vals
    match L, hs with
    | [v, fv], _ => exact ⟨v, fv, rfl⟩
  have hfv : fv = .func (.func f) #[] #[] := by
    cases hv 1 fv (.d (.fn f [])) rfl rfl with
    | d _ _ hr =>
      cases hr with
      | fn _ vs _ hl _ =>
        have : vs = #[] := Array.eq_empty_of_size_eq_zero (by simpa using hl)
        rw [this]
  subst hfv
  have hκ : ([Blk.arr 4 (List.map AV.d (List.map eTteams_member l))].map some)[0]? = some (some (.arr 4 (List.map .d (List.map eTteams_member l)))) := rfl
  rcases own_mb hh hκ (hv 0 v _ rfl rfl) with ⟨rfl, p, cap, rfl⟩ | ⟨b, vs, el, cap, hm, hg, rfl, hle, hcap, hcell⟩
  · have hc := AnyF.slices_SortFunc_none { Tryz.sortMb with } p cap (.func (.func f) #[] #[]) w
    change Calls prog 73 _ _ _ at hc
    refine (callsIn_wide.2 hc).mono ?_
    rintro e w' ⟨rfl, rfl⟩
    have hDe : D.toList = [] := by rw [← Array.length_toList] at hsize; exact List.length_eq_zero_iff.1 (by simpa using hsize)
    exact ⟨_, m, _, _, rfl, .tp #[] [] rfl (fun j v c h1 _ => by simp at h1), hh, .refl _ _ _, [], [.arr 4 []], rfl, rfl, rfl, ⟨⟨[], rfl⟩, trivial⟩, rfl, by rw [hDe]; rfl⟩
  · have hH : HoldsK encMb 4 w b 0 l.toArray := by
      intro t ht
      have ht' : t < l.length * 4 := by simpa using ht
      rw [get_flatK _ _ _ t (by simpa using ht')]
      have hj : t / 4 < l.length := by omega
      have hq : t % 4 < 4 := Nat.mod_lt _ (by omega)
      have h1 := hcell (t / 4) (t % 4) l[t / 4] (List.getElem?_eq_getElem hj) hq
      rw [show t / 4 * 4 + t % 4 = t by omega] at h1
      refine ⟨?_, by simp [World.frozen?, hg]⟩
      simp only [World.cell?, hg, Nat.zero_add]
      have h2 : l.toArray[t / 4]! = l[t / 4] := by simp [hj]
      rw [h2]
      have h3 : (encMb l[t / 4])[t % 4]? = some ((encMb l[t / 4])[t % 4]!) := by rw [List.getElem?_eq_getElem (by rw [encMb_len]; exact hq), List.getElem!_eq_getElem?_getD, List.getElem?_eq_getElem (by rw [encMb_len]; exact hq)]; rfl
      rw [h1, h3]
      simp
    have hlt : b < w.heap.size := (Array.getElem?_eq_some_iff.1 hg).1
    have hc := AnyQ.slices_SortFunc_eq Tryz.sortMb 4 Tryz.isAgg87 Tryz.sizeOf87 encMb encMb_len encMb_one cf hO f #[] b 0 cap l.toArray w eg (fun m os dk _ x y => hcl x y _) hH hlt (by simpa using hn)
    change Calls prog 73 _ _ _ at hc
    simp only [List.size_toArray] at hc
    rw [hD] at hc
    refine (callsIn_wide.2 hc).mono ?_
    rintro e w' ⟨rfl, n, os, hw⟩
    obtain ⟨g1, g2, g3, g4⟩ := row_worldK (F := flatK encMb 4 D) hg hw
    have hsz : (Sort.putCells id 0 (flatK encMb 4 D) vs).size = vs.size := by simp [Sort.putCells]
    have hBr : BRel X m w (Sort.putCells id 0 (flatK encMb 4 D) vs) (.arr 4 (List.map .d (List.map eTteams_member D.toList))) := by
      refine ⟨fun e he => ?_, fun j e q c he hc => ?_⟩
      · simp only [List.map_map, List.mem_map] at he
        obtain ⟨x, _, rfl⟩ := he
        rfl
      · simp only [List.map_map, List.getElem?_map, Option.map_eq_some_iff, Function.comp] at he
        obtain ⟨x, hx, rfl⟩ := he
        obtain ⟨d, v', rfl, h2, h3, hq⟩ := mb_cell x q c hc
        have hjD : j < D.size := by have := (List.getElem?_eq_some_iff.1 hx).1; simpa using this
        have ht : j * 4 + q < D.size * 4 := by omega
        refine ⟨v', ?_, .d _ _ (Rd.of_scal h2), ?_⟩
        · simp only [Sort.putCells, Array.getElem?_mapIdx, Array.getElem?_eq_getElem (show j * 4 + q < vs.size by omega), Option.map_some]
          rw [if_pos ⟨by omega, by simpa using ht⟩, Nat.sub_zero, get_flatK _ _ _ _ ht, show (j * 4 + q) / 4 = j by omega, show (j * 4 + q) % 4 = q by omega]
          have h4 : D[j]! = x := by
            have := (List.getElem?_eq_some_iff.1 hx).2
            rw [getElem!_pos D j hjD, ← this]; simp
          rw [h4, List.getElem!_eq_getElem?_getD, h3]; rfl
        · exact encMb_one x v' (List.mem_of_getElem? h3)
    exact ⟨_, m, _, _, rfl, .tp #[] [] rfl (fun j v c h1 _ => by simp at h1), hrel_rewr hh hm hκ hg g1 hsz g2 g3 g4 hBr, ext_rewr hm hg g1 hsz g2 g3 g4, [], [.arr 4 (List.map .d (List.map eTteams_member D.toList))], rfl, rfl, rfl, ⟨⟨_, rfl⟩, trivial⟩, rfl, rfl⟩
/- The three orders. -/
theorem compareI_neg (x y : Int) : decide (Lib.compareInt x y < 0) = decide (x < y) := by
  unfold Lib.compareInt
  by_cases h1 : x < y
  · simp [h1]
  · by_cases h2 : y < x <;> simp [h1, h2]
theorem swo_of {α : Type} {cf : α → α → Int} {key : α → Int} (h : ∀ x y, decide (cf x y < 0) = decide (key x < key y)) : SWO (ltOf cf) where
  irrefl x := by unfold ltOf; rw [h]; simp
  trans x y z h1 h2 := by unfold ltOf at *; rw [h] at *; simp at *; omega
  ntrans x y z h1 h2 := by unfold ltOf at *; rw [h] at *; simp at *; omega
set_option maxHeartbeats 1000000 in
theorem clo38 (x y : Tteams_member) (W : World) : Calls prog 38 #[.agg (encMb x).toArray, .agg (encMb y).toArray] W fun e w' => e = .returned (.int .i64 (Lib.compareInt x.Span.Lo y.Span.Lo)) ∧ ∃ q os', w' = grow (W.drewN q) os' := by
  have hcon := fun W' => AnyG.cmp_Compare_int Tryz.cmpInt x.Span.Lo y.Span.Lo W'
  change ∀ W', Calls prog 74 _ _ _ at hcon
  unfold encMb
  generalize Lib.compareInt x.Span.Lo y.Span.Lo = r at hcon ⊢
  go_enter func38, ntmps38
  go_wp2_with (go_at_call 74; refine (hcon _).mono ?_; rintro e w' ⟨rfl, rfl⟩)
  go_ret
  exact ⟨rfl, 0, _, by rw [alloc_eq_grow, alloc_eq_grow, grow_grow]; rfl⟩
set_option maxHeartbeats 1000000 in
theorem clo40 (x y : Tteams_member) (W : World) : Calls prog 40 #[.agg (encMb x).toArray, .agg (encMb y).toArray] W fun e w' => e = .returned (.int .i64 (Lib.compareInt x.Span.Hi y.Span.Hi)) ∧ ∃ q os', w' = grow (W.drewN q) os' := by
  have hcon := fun W' => AnyG.cmp_Compare_int Tryz.cmpInt x.Span.Hi y.Span.Hi W'
  change ∀ W', Calls prog 74 _ _ _ at hcon
  unfold encMb
  generalize Lib.compareInt x.Span.Hi y.Span.Hi = r at hcon ⊢
  go_enter func40, ntmps40
  go_wp2_with (go_at_call 74; refine (hcon _).mono ?_; rintro e w' ⟨rfl, rfl⟩)
  go_ret
  exact ⟨rfl, 0, _, by rw [alloc_eq_grow, alloc_eq_grow, grow_grow]; rfl⟩
set_option maxHeartbeats 1000000 in
theorem clo42 (x y : Tteams_member) (W : World) : Calls prog 42 #[.agg (encMb x).toArray, .agg (encMb y).toArray] W fun e w' => e = .returned (.int .i64 (Lib.compareInt y.Span.Hi x.Span.Hi)) ∧ ∃ q os', w' = grow (W.drewN q) os' := by
  have hcon := fun W' => AnyG.cmp_Compare_int Tryz.cmpInt y.Span.Hi x.Span.Hi W'
  change ∀ W', Calls prog 74 _ _ _ at hcon
  unfold encMb
  generalize Lib.compareInt y.Span.Hi x.Span.Hi = r at hcon ⊢
  go_enter func42, ntmps42
  go_wp2_with (go_at_call 74; refine (hcon _).mono ?_; rintro e w' ⟨rfl, rfl⟩)
  go_ret
  exact ⟨rfl, 0, _, by rw [alloc_eq_grow, alloc_eq_grow, grow_grow]; rfl⟩
theorem eg38 : ∀ args w, (callFunc 38 args).run prog w = .ok (.enter 38 args) w := enters_of func38 (by kernel_rfl) rfl
theorem eg40 : ∀ args w, (callFunc 40 args).run prog w = .ok (.enter 40 args) w := enters_of func40 (by kernel_rfl) rfl
theorem eg42 : ∀ args w, (callFunc 42 args).run prog w = .ok (.enter 42 args) w := enters_of func42 (by kernel_rfl) rfl
theorem swo38 : SWO (ltOf fun x y : Tteams_member => Lib.compareInt x.Span.Lo y.Span.Lo) := swo_of (key := fun x => x.Span.Lo) fun _ _ => compareI_neg _ _
theorem swo40 : SWO (ltOf fun x y : Tteams_member => Lib.compareInt x.Span.Hi y.Span.Hi) := swo_of (key := fun x => x.Span.Hi) fun _ _ => compareI_neg _ _
theorem swo42 : SWO (ltOf fun x y : Tteams_member => Lib.compareInt y.Span.Hi x.Span.Hi) := swo_of (key := fun x => -x.Span.Hi) fun _ _ => by rw [compareI_neg]; exact decide_eq_decide.2 (by omega)
end Go.Proofs.Tryz
