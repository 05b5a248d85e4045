/- The given statement. No condition. -/
import Derived.Test.YtpfihfiimeepfaaGreatDoorRows
import Derived.Test.YtpfihfiimeepfaaGreatDoorCards
import Derived.Test.YtpfihfiimeepfaaGreatDoorTie
import Derived.Test.YtpfihfiimeepfaaGreatDoorZB8
import Derived.SevenTiedAt
import Derived.Lay
import Derived.Lib.LaidTab
import Derived.Lib.ItoaNum
import Derived.Test.YtpfihfiimeepfaaGreatDoorZS5
import Derived.Test.YtpfihfiimeepfaaGreatDoorZW
namespace Go.Proofs.YtpfihfiimeepfaaGreatDoor
open Go Go.Abs Go.Stop Go.ChangeShapes Go.WideShapes Go.ChangeAt Go.RowKit Go.Proofs.Tryz
set_option maxRecDepth 100000

theorem laid_tab (W : World) (h : laidMetH Tryz.prog Rows.teamsOrderRow.laid W) : TabX (fun _ => False) [] W := by
  have h1 : laidMet Tryz.prog Rows.teamsOrderRow.laid W := h
  have h3 : Lib.TabIs Tryz.prog W "internal/strconv.uint64pow10" .u64 Lib.pow10Tab := Lib.tabIs_of_head (g := 0) (t := 189) (e := 160) (n := 20) (rest := []) (by kernel_rfl) (by kernel_rfl) (by kernel_rfl) (by kernel_rfl) (by kernel_rfl) (by kernel_rfl) (laidMet_tail (laidMet_tail h1))
  refine ⟨fun g cs hg => ⟨?_, fun h => h, by simp⟩⟩
  obtain ⟨rfl, rfl⟩ := hg
  unfold Lib.TabIs World.var? at h3
  rw [show Program.globalNamed Tryz.prog "internal/strconv.uint64pow10" = some 0 from by kernel_rfl] at h3
  replace h3 : (match W.heap[0]? with | some (Obj.cells cs _ _) => some cs | _ => none) = some (Lib.pow10Tab.map fun z => Value.int .u64 z).toArray := h3
  split at h3
  · rename_i cs el fz hh
    refine ⟨el, fz, ?_⟩
    cases h3
    exact hh
  · cases h3
theorem laid_wit (os : Os) {H : Type} (enc : TypeId × Value → H) : ∃ (w : World) (tape : Tape) (i : Input), w.os = os ∧ (w.forCall tape i).Shaped Tryz.checked.prog ∧ i.vars = [] ∧ Input.okWide Tryz.checked.prog (w.forCall tape i) .any w.heap.size 9 i ∧
    (OpenSpec.ofChange Rows.teamsOrderSpec).preRow enc Tryz.checked.prog Tryz.f9 [] false Rows.teamsOrderRow.laid (w.forCall tape i).memory i.args ∧ ({} : Assume).holds Tryz.checked.prog (lone (Frame.enter Tryz.checked.prog 9 i.args .normal) [] (w.forCall tape i)) := by
  refine witness_row_at (enc := enc) (C := Tryz.checked) false (World.laidAll Tryz.prog os Rows.teamsOrderRow.laid) #[.agg #[.slice none 0 0, .slice none 0 0, .slice none 0 0, .slice none 0 0], .slice none 0 0, .int .i64 0, .int .i64 0] (World.laidAll_os _ _ _) (by kernel_rfl) (by kernel_rfl) (by kernel_rfl) ?_
  have hw : (DataW.whole enc Tryz.prog ((World.laidAll Tryz.prog os Rows.teamsOrderRow.laid).forCall (fun _ _ => 0) ⟨#[], #[.agg #[.slice none 0 0, .slice none 0 0, .slice none 0 0, .slice none 0 0], .slice none 0 0, .int .i64 0, .int .i64 0], []⟩).memory Tryz.f9.params.toList (OpenSpec.ofChange Rows.teamsOrderSpec).vars false #[.agg #[.slice none 0 0, .slice none 0 0, .slice none 0 0, .slice none 0 0], .slice none 0 0, .int .i64 0, .int .i64 0].toList 12).isSome = true := by kernel_rfl
  obtain ⟨x, hx⟩ := Option.isSome_iff_exists.1 hw
  exact OpenSpec.preRow_of_cond 12 hx rfl (fun k hk => by cases hk) (by kernel_rfl) (laidMet_laidAll _ (by kernel_rfl) (by kernel_rfl))
theorem row_holds : Rows.TeamsOrderSaid :=
  OpenClaim.holds_of_cond (p := Tryz.pinned) (s := OpenSpec.ofChange Rows.teamsOrderSpec) (c := Rows.teamsOrderRow) 9 Tryz.f9 rfl rfl rfl rfl rfl rfl rfl ⟨rfl, rfl, rfl, rfl, rfl⟩ rfl rfl rfl rfl rfl (by kernel_rfl) Tryz.func9 (by kernel_rfl)
    (of_decide_eq_true (by kernel_rfl)) (by unfold Func.isWrapper; first | (rw [if_pos (by decide +kernel)]; kernel_rfl) | (rw [if_neg (by decide +kernel)]; exact ⟨rfl, rfl⟩))
    (fun os started H enc _ F0 => by
      rw [OpenClaim.pre_eq_preRow]
      exact liftedL (F := F0) (laid := Rows.teamsOrderRow.laid) (C := Tryz.checked) (f := 9) (fn := Tryz.f9) (s := Rows.teamsOrderSpec) (by kernel_rfl) started (by kernel_rfl) Tryz.func9
        (laid_wit os enc) rfl (by kernel_rfl) rfl (fun ds hd => by
        match ds, hd with
        | [_, _, _, _], _ => rfl)
        (by kernel_rfl) (by kernel_rfl) (fun W hW => laid_tab W hW) fun W b0 vs h => by
        replace h : ArgsOf enc Tryz.prog W b0 [29, 30, 3, 3] vs := h
        obtain ⟨y0, r0, w0, h, k0⟩ := args_cons isTField (by kernel_rfl) h
        obtain ⟨y1, r1, w1, h, k1⟩ := args_cons (is_l isTTeam) (by kernel_rfl) h
        obtain ⟨y2, r2, w2, h, k2⟩ := args_cons is_i (by kernel_rfl) h
        obtain ⟨y3, r3, w3, h, k3⟩ := args_cons is_i (by kernel_rfl) h
        exact ⟨_, k0 _ (k1 _ (k2 _ (k3 _ (args_nil h)))), P140 y0 y1 y2 y3 true (Stop.TeamsOrder_true y0 y1 y2 y3 w0 w1 w2 w3)⟩)
theorem TeamsOrder_holds : Rows.TeamsOrderCardSaid :=
  Claim7.holds_tied_plain_at .later [] [.data, .data, .data] true _ false
    row_holds (fun _ h => by cases h) (by kernel_rfl) (fun _ h => by cases h) teamsOrder_row_tie rfl ⟨rfl, rfl⟩ (by kernel_rfl) rfl
    (fun f fn hf hfn => by
      obtain rfl : f = 9 := Option.some.inj ((show Tryz.prog.funcNamed "stopwatch/stopwatchlaw34.TeamsOrder" = some 9 by kernel_rfl).symm.trans hf) |>.symm
      obtain rfl : fn = Tryz.f9 := (Option.some.inj (Tryz.func9.symm.trans hfn)).symm
      exact ⟨by kernel_rfl, fun j t ht => by
        have hj : [29, 30, 3, 3].all (fun t => !Tryz.prog.wantsStandIn t) = true := by kernel_rfl
        have h1 := List.all_eq_true.1 hj t (List.mem_of_getElem? (by simpa using (show ([29, 30, 3, 3] : List TypeId).toArray[j]? = some t from ht)))
        exact (by simpa using h1 : Tryz.prog.wantsStandIn t = false)⟩)
    (by kernel_rfl)

#print axioms TeamsOrder_holds
end Go.Proofs.YtpfihfiimeepfaaGreatDoor
