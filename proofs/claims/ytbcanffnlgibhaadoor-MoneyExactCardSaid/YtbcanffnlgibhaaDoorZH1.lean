/- The given statement. No condition. -/
import Derived.Test.YtbcanffnlgibhaaDoorRows
import Derived.Test.YtbcanffnlgibhaaDoorCards
import Derived.Test.YtbcanffnlgibhaaDoorTie
import Derived.Test.YtbcanffnlgibhaaDoorZB8
import Derived.SevenTiedAt
import Derived.Lay
import Derived.Lib.LaidTab
import Derived.Lib.ItoaNum
import Derived.Test.YtbcanffnlgibhaaDoorZS3
import Derived.Test.YtbcanffnlgibhaaDoorZW
namespace Go.Proofs.YtbcanffnlgibhaaDoor
open Go Go.Abs Go.Stop Go.ChangeShapes Go.WideShapes Go.ChangeAt Go.RowKit Go.Proofs.Tryd
set_option maxRecDepth 100000

theorem laid_tab (W : World) (h : laidMetH Tryd.prog Rows.moneyExactRow.laid W) : TabX (fun _ => False) [] W := by
  have h1 : laidMet Tryd.prog Rows.moneyExactRow.laid W := h
  have h3 : Lib.TabIs Tryd.prog W "internal/strconv.uint64pow10" .u64 Lib.pow10Tab := Lib.tabIs_of_head (g := 0) (t := 106) (e := 80) (n := 20) (rest := []) (by kernel_rfl) (by kernel_rfl) (by kernel_rfl) (by kernel_rfl) (by kernel_rfl) (by kernel_rfl) (laidMet_tail (laidMet_tail h1))
  refine ⟨fun g cs hg => ⟨?_, fun h => h, by simp⟩⟩
  obtain ⟨rfl, rfl⟩ := hg
  unfold Lib.TabIs World.var? at h3
  rw [show Program.globalNamed Tryd.prog "internal/strconv.uint64pow10" = some 0 from by kernel_rfl] at h3
  replace h3 : (match W.heap[0]? with | some (Obj.cells cs _ _) => some cs | _ => none) = some (Lib.pow10Tab.map fun z => Value.int .u64 z).toArray := h3
  split at h3
  · rename_i cs el fz hh
    refine ⟨el, fz, ?_⟩
    cases h3
    exact hh
  · cases h3
theorem laid_wit (os : Os) {H : Type} (enc : TypeId × Value → H) : ∃ (w : World) (tape : Tape) (i : Input), w.os = os ∧ (w.forCall tape i).Shaped Tryd.checked.prog ∧ i.vars = [] ∧ Input.okWide Tryd.checked.prog (w.forCall tape i) .any w.heap.size 8 i ∧
    (OpenSpec.ofChange Rows.moneyExactSpec).preRow enc Tryd.checked.prog Tryd.f8 [] false Rows.moneyExactRow.laid (w.forCall tape i).memory i.args ∧ ({} : Assume).holds Tryd.checked.prog (lone (Frame.enter Tryd.checked.prog 8 i.args .normal) [] (w.forCall tape i)) := by
  refine witness_row_at (enc := enc) (C := Tryd.checked) false (World.laidAll Tryd.prog os Rows.moneyExactRow.laid) #[.int .i64 0, .slice none 0 0] (World.laidAll_os _ _ _) (by kernel_rfl) (by kernel_rfl) (by kernel_rfl) ?_
  have hw : (DataW.whole enc Tryd.prog ((World.laidAll Tryd.prog os Rows.moneyExactRow.laid).forCall (fun _ _ => 0) ⟨#[], #[.int .i64 0, .slice none 0 0], []⟩).memory Tryd.f8.params.toList (OpenSpec.ofChange Rows.moneyExactSpec).vars false #[.int .i64 0, .slice none 0 0].toList 12).isSome = true := by kernel_rfl
  obtain ⟨x, hx⟩ := Option.isSome_iff_exists.1 hw
  exact OpenSpec.preRow_of_cond 12 hx rfl (fun k hk => by cases hk) (by kernel_rfl) (laidMet_laidAll _ (by kernel_rfl) (by kernel_rfl))
theorem row_holds : Rows.MoneyExactSaid :=
  OpenClaim.holds_of_cond (p := Tryd.pinned) (s := OpenSpec.ofChange Rows.moneyExactSpec) (c := Rows.moneyExactRow) 8 Tryd.f8 rfl rfl rfl rfl rfl rfl rfl ⟨rfl, rfl, rfl, rfl, rfl⟩ rfl rfl rfl rfl rfl (by kernel_rfl) Tryd.func8 (by kernel_rfl)
    (of_decide_eq_true (by kernel_rfl)) (by unfold Func.isWrapper; first | (rw [if_pos (by decide +kernel)]; kernel_rfl) | (rw [if_neg (by decide +kernel)]; exact ⟨rfl, rfl⟩))
    (fun os started H enc _ F0 => by
      rw [OpenClaim.pre_eq_preRow]
      exact liftedL (F := F0) (laid := Rows.moneyExactRow.laid) (C := Tryd.checked) (f := 8) (fn := Tryd.f8) (s := Rows.moneyExactSpec) (by kernel_rfl) started (by kernel_rfl) Tryd.func8
        (laid_wit os enc) rfl (by kernel_rfl) rfl (fun ds hd => by
        match ds, hd with
        | [_, _], _ => rfl)
        (by kernel_rfl) (by kernel_rfl) (fun W hW => laid_tab W hW) fun W b0 vs h => by
        replace h : ArgsOf enc Tryd.prog W b0 [3, 22] vs := h
        obtain ⟨y0, r0, w0, h, k0⟩ := args_cons is_i (by kernel_rfl) h
        obtain ⟨y1, r1, w1, h, k1⟩ := args_cons (is_l is_i) (by kernel_rfl) h
        exact ⟨_, k0 _ (k1 _ (args_nil h)), P82 y0 y1 true (Stop.MoneyExact_true y0 y1 w0 w1)⟩)
theorem MoneyExact_holds : Rows.MoneyExactCardSaid :=
  Claim7.holds_tied_plain_at .later [] [.data, .data, .data] true _ false
    row_holds (fun _ h => by cases h) (by kernel_rfl) (fun _ h => by cases h) moneyExact_row_tie rfl ⟨rfl, rfl⟩ (by kernel_rfl) rfl
    (fun f fn hf hfn => by
      obtain rfl : f = 8 := Option.some.inj ((show Tryd.prog.funcNamed "stopwatch/stopwatchlaw30.MoneyExact" = some 8 by kernel_rfl).symm.trans hf) |>.symm
      obtain rfl : fn = Tryd.f8 := (Option.some.inj (Tryd.func8.symm.trans hfn)).symm
      exact ⟨by kernel_rfl, fun j t ht => by
        have hj : [3, 22].all (fun t => !Tryd.prog.wantsStandIn t) = true := by kernel_rfl
        have h1 := List.all_eq_true.1 hj t (List.mem_of_getElem? (by simpa using (show ([3, 22] : List TypeId).toArray[j]? = some t from ht)))
        exact (by simpa using h1 : Tryd.prog.wantsStandIn t = false)⟩)
    (by kernel_rfl)

#print axioms MoneyExact_holds
end Go.Proofs.YtbcanffnlgibhaaDoor
