/- slices.Sorted(maps.Keys(m)) at a map of slices of the function's own. No condition. -/
import Derived.Test.YtpfihfiimeepfaaGreatDoorZC3
namespace Go.Proofs.Tryz
open Go Go.Abs
theorem keys_ecall {b : Nat} {H : Hp} {Q : AV → Hp → Prop} (hq : Q (.fn 82 [.pt H.length 0]) (H ++ [some (.var [.mx b])])) : ECall prog 51 [.mx b] H Q := by
  unfold ECall
  refine ⟨⟨_, _, func51, rfl, rfl⟩, fun X m vals w hs hv hh => ?_⟩
  obtain ⟨v, rfl⟩ := Array.size_eq_one_iff.1 (show vals.size = 1 from hs)
  have hvv := (hv 0 v _ rfl rfl).mxv
  subst hvv
  refine (AnyZI.keys_in Go.Proofs.Tryz.keys51 Fence.wide 0 trivial rfl (some b) w).mono ?_
  rintro e w' ⟨rfl, rfl⟩
  have hB : BRel X m w #[.map (some b)] (.var [.mx b]) := by
    intro j c hc
    have hj : j = 0 := by have := (List.getElem?_eq_some_iff.1 hc).1; simpa using this
    subst hj
    obtain rfl : AV.mx b = c := by simpa using hc
    exact ⟨_, rfl, .mx b, rfl⟩
  refine ⟨_, m ++ [.blk w.heap.size], _, _, rfl, .fn _ _ _ rfl (fun j v c h1 h2 => ?_), hh.alloc hB, Ext.alloc _ hh, hq⟩
  have hj : j = 0 := by have := (List.getElem?_eq_some_iff.1 h2).1; simpa using this
  subst hj
  obtain rfl : AV.pt H.length 0 = c := by simpa using h2
  obtain rfl : Value.pointer (some ⟨w.heap.size, 0, none⟩) = v := by simpa using h1
  refine .pt _ _ _ (by simp [hh.len]) rfl (fun b hb => ?_) (fun hb => ?_)
  · rw [← hh.len] at hb; simp at hb; subst hb; rfl
  · rw [← hh.len] at hb; simp at hb
/-- The groups' map, in the words of the shelf. -/
theorem Grp.ownsMap {X hid : Nat → Prop} {wb : World} {b : Nat} {G : GL} {w : World} (h : Grp X hid wb b G w) (hn : G.length ≤ maxLen) :
    ∃ D0 : DataW Unit, w.ownsMap prog 3 (fun _ => some (.nil, [])) b G.length D0 ∧ Maps.size D0 = G.length ∧ (intKeys D0).Perm (G.map (·.1)) := by
  obtain ⟨es, ck, cs, h1, h2, h3, h4, h5⟩ := h.ent
  have hk : prog.underlying 3 = some (.int .i64) := Go.Proofs.Tryz.underlying3
  have hrd : ∀ (j : Nat) (e : MapEntry), es[j]? = some e → ∃ p, G[j]? = some p ∧ WideElems.rd (H := Unit) prog 3 (fun _ => some (.nil, [])) e = some (.int .i64 p.1, .nil) := by
    intro j e he
    have hlt : j < G.length := by
      rw [← h3]
      exact (Array.getElem?_eq_some_iff.1 he).1
    obtain ⟨e', a1, a2, _⟩ := h4 j G[j].1 G[j].2 (by simp [hlt])
    rw [he] at a1
    obtain rfl : e = e' := by simpa using a1
    refine ⟨G[j], by simp [hlt], ?_⟩
    have := h.rng G[j] (List.getElem_mem hlt)
    simp [WideElems.rd, a2, Go.Maps.keyOf_int_mk hk this]
  have hmap : (es.toList.map (WideElems.rg (H := Unit) prog 3 fun _ => some (.nil, []))) = G.map fun p => (Lit.int .i64 p.1, DataW.nil) := by
    apply List.ext_getElem?
    intro j
    rw [List.getElem?_map, List.getElem?_map]
    rcases Nat.lt_or_ge j G.length with hlt | hge
    · have hlt' : j < es.size := by omega
      obtain ⟨p, hp, hr⟩ := hrd j es[j] (by simp [hlt'])
      rw [hp, Array.getElem?_toList, Array.getElem?_eq_getElem hlt', Option.map_some, Option.map_some, WideElems.rg_of hr]
    · rw [List.getElem?_eq_none hge, List.getElem?_eq_none (by simpa [h3] using hge)]; rfl
  refine ⟨.map ((es.toList.map (WideElems.rg prog 3 fun _ => some (.nil, []))).foldr DataW.insert []), ⟨es, ck, h1, ⟨by omega, h2, fun x hx => ?_⟩, by omega, rfl⟩, ?_, ?_⟩
  · obtain ⟨j, hj⟩ := List.getElem?_of_mem hx
    obtain ⟨p, _, hr⟩ := hrd j x (by simpa using hj)
    exact ⟨_, hr⟩
  · rw [hmap]
    show (List.foldr DataW.insert [] (G.map fun p => (Lit.int .i64 p.1, DataW.nil))).length = G.length
    rw [DataW.length_sorted, List.length_map]
  · rw [hmap]
    show ((List.foldr DataW.insert [] (G.map fun p => (Lit.int .i64 p.1, (DataW.nil : DataW Unit)))).map fun p : Lit × DataW Unit => Go.intOf p.1).Perm _
    refine ((WideShapes.sorted_perm _).map _).trans ?_
    rw [List.map_map]
    exact List.Perm.refl _
theorem sortsI (m : Nat) : AnyZI.SortsIn prog Go.Proofs.Tryz.sorted50_ren Fence.wide m :=
  ⟨fun blk off cap ss W hH hblk hsz => callsIn_wide.2 (Go.Proofs.Tryz.slices_Sort_int blk off cap ss W hH hblk hsz),
   fun p cap W => callsIn_wide.2 (Go.Proofs.Tryz.slices_Sort_int_none p cap W)⟩
/-- The keys of the map, in their order. -/
theorem OpsG.sorted {cx : Cx} {b : Nat} {T : Tp} {H : Hp} {G : GL} {ops : Array Oper} {os : List Oper} {K : Tp → Hp → GL → Prop} {o : Oper} {d x : Tmp} {κ : Nat} {ts : Array TypeId}
    (ho : o.op = .call { callee := .value (.func 50), args := #[.tmp x], argTypes := ts }) (hod : o.dst = some d) (hgd : o.guard = none) (hd : d < cx.N) (hx : getT T x = .fn 82 [.pt κ 0]) (hκ : H[κ]? = some (some (.var [.mx b]))) (hn : G.length ≤ 1000000)
    (h : OpsG prog cx b ops os ((d, .d (.ls ((msortI (G.map (·.1))).map (D.i .i64)))) :: T) H G K) : OpsG prog cx b ops (o :: os) T H G K := by
  refine OpsG.one hgd fun X wb a w R next hr hnx => ?_
  obtain ⟨hid, m, hr, hdf, hg⟩ := hr
  have hxv := hr.tmp x
  rw [hx] at hxv
  obtain ⟨c, hm, hxe⟩ : ∃ c, m[κ]? = some (.blk c) ∧ a.tmps.getD x undef = .func (.func 82) #[] #[.pointer (some ⟨c, 0, none⟩)] := by
    generalize a.tmps.getD x undef = u at hxv
    cases hxv with
    | fn _ vs _ hl hv =>
      obtain ⟨p, rfl⟩ := Array.size_eq_one_iff.1 (show vs.size = 1 from hl)
      have hp := hv 0 p _ rfl rfl
      rcases hr.heap.blk2 κ _ hκ with ⟨c, us, el, e1, _, _⟩ | ⟨_, _, e⟩
      · cases hp with
        | pt _ _ _ _ _ hb _ => exact ⟨c, e1, by rw [hb c e1]⟩
      · cases e
  obtain ⟨us, el, hgc, hBc⟩ := hr.heap.get hm hκ
  have hcell : w.cell? ⟨c, 0, none⟩ = some (.map (some b)) := by
    obtain ⟨v, e, hC⟩ := hBc 0 (.mx b) rfl
    rw [hC.1.mxv] at e
    simp [World.cell?, hgc, e]
  have hclt : c < w.heap.size := (hr.heap.lt κ c hm).1
  obtain ⟨D0, hown, hsz, hperm⟩ := Grp.ownsMap hg (by unfold maxLen; omega)
  have hseq : SeqGives Fence.wide 2 prog 82 #[.pointer (some ⟨c, 0, none⟩)] encZ (fun ss => ss.Perm (intKeys D0)) (Maps.size D0) w :=
    AnyZI.keys_gives (ρ := Go.Proofs.Tryz.keys51_ren) { Go.Proofs.Tryz.keys51 with } Fence.wide 2 trivial rfl (by omega) c b G.length D0 w hclt hcell hown
  have hcall := AnyZI.sorted_in Go.Proofs.Tryz.sorted50 Fence.wide 5 trivial trivial trivial trivial rfl (by omega) (sortsI _) (enters_of func52 (by kernel_rfl) rfl) 82 #[.pointer (some ⟨c, 0, none⟩)] trivial (enters_of func82 (by kernel_rfl) rfl) _ (Maps.size D0) (by rw [hsz]; unfold maxLen; omega) (by rw [hsz]; omega) w hseq
  change CallsIn _ _ prog 50 _ _ _ at hcall
  refine NOK.next (m := m) (X := XH X hid) (k := fun r H' => r = .d (.ls ((msortI (G.map (·.1))).map (D.i .i64))) ∧ H' = H) (fun c hc => by rw [ho] at hc; cases hc) (.inr ⟨50, #[.func (.func 82) #[] #[.pointer (some ⟨c, 0, none⟩)]], ?_, ?_⟩) ?_
  · obtain ⟨fn, cd, hfn, hbody, hname⟩ : EnterOK prog 50 := ⟨_, _, func50, rfl, rfl⟩
    simp [execOp, ho, resolve, Act.eval, hxe, Deferred.ofValue, invoke, callFunc, hfn, hbody, beq_eq_false_iff_ne.1 hname]
  · refine (callsIn_wide.2 (callsIn_wide.1 hcall)).mono ?_
    rintro e w' ⟨v, ss, rfl, hS, hrow, hnil, hb⟩
    have hk : KeepW w w' := ⟨hb.size, hb.block, hb.os, hb.output, hb.tape⟩
    have hss : ss.mergeSort (fun x y => decide (x ≤ y)) = msortI (G.map (·.1)) := mergeSort_of_perm_i (hS.trans hperm)
    rw [hss] at hrow
    have hlen : ss.length = (msortI (G.map (·.1))).length := by rw [← hss, List.length_mergeSort]
    refine ⟨v, m, _, H, rfl, .d _ _ ?_, hk.hrel hr.heap, hk.ext, rfl, rfl⟩
    rcases hrow.2 with ⟨rfl, hz⟩ | ⟨g, cap, cur, rfl, hbase, hgb, r1, r2, r3, r4⟩
    · have : msortI (G.map (·.1)) = [] := List.eq_nil_of_length_eq_zero (by omega)
      rw [this]
      exact .nil
    · have himm : Imm (XH X hid) m w' g := by
        refine ⟨(Array.getElem?_eq_some_iff.1 hgb).1, fun hx => ?_, fun hx => ?_⟩
        · have := hr.heap.old g hx; omega
        · obtain ⟨κ', hκ'⟩ := get_of_mem hx
          have := (hr.heap.lt κ' g hκ').1; omega
      rw [Nat.mul_one] at r4
      have hcl : ∀ (j : Nat) z, (msortI (G.map (·.1)))[j]? = some z → cur[j]? = some (.int .i64 z) := by
        intro j z hj
        have hjl := (List.getElem?_eq_some_iff.1 hj).1
        have := congrArg (fun l : List Value => l[j]?) r4
        simp only [List.getElem?_map, hj, Option.map_some] at this
        rw [List.getElem?_take_of_lt (by omega)] at this
        simpa using this
      have := Rd.ls (I := Imm (XH X hid) m w') (w := w') g 0 cap 1 ((msortI (G.map (·.1))).map (D.i .i64)) (fun j _ => .int .i64 (((msortI (G.map (·.1)))[j]?).getD 0)) himm (by simp; omega) (fun e he => by obtain ⟨z, _, rfl⟩ := List.mem_map.1 he; rfl) (fun j e l c he hc => ?_) (fun j e l c he hc => ?_)
      · rw [hlen]; simpa using this
      · simp only [List.getElem?_map, Option.map_eq_some_iff] at he
        obtain ⟨z, hj, rfl⟩ := he
        have hl0 : l = 0 := by
          have := (List.getElem?_eq_some_iff.1 hc).1
          simpa [D.cells] using this
        subst hl0
        rw [hj]
        refine ⟨?_, rfl⟩
        simp only [World.cell?, hgb]
        have := hcl j z hj
        simpa using this
      · simp only [List.getElem?_map, Option.map_eq_some_iff] at he
        obtain ⟨z, hj, rfl⟩ := he
        have hl0 : l = 0 := by
          have := (List.getElem?_eq_some_iff.1 hc).1
          simpa [D.cells] using this
        subst hl0
        have : c = .i .i64 z := by simpa [D.cells] using hc.symm
        subst this
        rw [hj]
        exact .i _ _
  · rintro v w' m' av H' h1 h2 h3 ⟨rfl, rfl⟩
    rw [hod]
    refine hnx _ _ _ _ _ ⟨hid, m', hr.put h3 h2 h1 hd, hdf, hg.kept h3.size fun c hc => ?_⟩ h
    refine (h3.keep c (hg.old c hc).2.1 fun hm => ?_).1
    obtain ⟨κ, hκ⟩ := get_of_mem hm
    exact (hr.heap.lt κ c hκ).2 (.inr hc)
end Go.Proofs.Tryz
