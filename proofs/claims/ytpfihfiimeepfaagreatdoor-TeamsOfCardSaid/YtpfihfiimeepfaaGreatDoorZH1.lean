/- The given statement. No condition. -/
import Derived.Test.YtpfihfiimeepfaaGreatDoorRows
import Derived.Test.YtpfihfiimeepfaaGreatDoorCards
import Derived.Test.YtpfihfiimeepfaaGreatDoorTie
import Derived.Test.YtpfihfiimeepfaaGreatDoorZB8
import Derived.SevenTiedAt
import Derived.Lay
import Derived.Lib.LaidTab
import Derived.Lib.ItoaNum
import Derived.Test.YtpfihfiimeepfaaGreatDoorZS5
import Derived.Test.YtpfihfiimeepfaaGreatDoorZW
namespace Go.Proofs.YtpfihfiimeepfaaGreatDoor
open Go Go.Abs Go.Stop Go.ChangeShapes Go.WideShapes Go.ChangeAt Go.RowKit Go.Proofs.Tryz
set_option maxRecDepth 100000

theorem laid_tab (W : World) (h : laidMetH Tryz.prog Rows.teamsOfRow.laid W) : TabX (fun _ => False) [] W := by
  have h1 : laidMet Tryz.prog Rows.teamsOfRow.laid W := h
  have h3 : Lib.TabIs Tryz.prog W "internal/strconv.uint64pow10" .u64 Lib.pow10Tab := Lib.tabIs_of_head (g := 0) (t := 189) (e := 160) (n := 20) (rest := []) (by kernel_rfl) (by kernel_rfl) (by kernel_rfl) (by kernel_rfl) (by kernel_rfl) (by kernel_rfl) (laidMet_tail (laidMet_tail h1))
  refine ⟨fun g cs hg => ⟨?_, fun h => h, by simp⟩⟩
  obtain ⟨rfl, rfl⟩ := hg
  unfold Lib.TabIs World.var? at h3
  rw [show Program.globalNamed Tryz.prog "internal/strconv.uint64pow10" = some 0 from by kernel_rfl] at h3
  replace h3 : (match W.heap[0]? with | some (Obj.cells cs _ _) => some cs | _ => none) = some (Lib.pow10Tab.map fun z => Value.int .u64 z).toArray := h3
  split at h3
  · rename_i cs el fz hh
    refine ⟨el, fz, ?_⟩
    cases h3
    exact hh
  · cases h3
theorem laid_wit (os : Os) {H : Type} (enc : TypeId × Value → H) : ∃ (w : World) (tape : Tape) (i : Input), w.os = os ∧ (w.forCall tape i).Shaped Tryz.checked.prog ∧ i.vars = [] ∧ Input.okWide Tryz.checked.prog (w.forCall tape i) .any w.heap.size 8 i ∧
    (OpenSpec.ofChange Rows.teamsOfSpec).preRow enc Tryz.checked.prog Tryz.f8 [] false Rows.teamsOfRow.laid (w.forCall tape i).memory i.args ∧ ({} : Assume).holds Tryz.checked.prog (lone (Frame.enter Tryz.checked.prog 8 i.args .normal) [] (w.forCall tape i)) := by
  refine witness_row_at (enc := enc) (C := Tryz.checked) false (World.laidAll Tryz.prog os Rows.teamsOfRow.laid) #[.slice none 0 0, .int .i64 0] (World.laidAll_os _ _ _) (by kernel_rfl) (by kernel_rfl) (by kernel_rfl) ?_
  have hw : (DataW.whole enc Tryz.prog ((World.laidAll Tryz.prog os Rows.teamsOfRow.laid).forCall (fun _ _ => 0) ⟨#[], #[.slice none 0 0, .int .i64 0], []⟩).memory Tryz.f8.params.toList (OpenSpec.ofChange Rows.teamsOfSpec).vars false #[.slice none 0 0, .int .i64 0].toList 12).isSome = true := by kernel_rfl
  obtain ⟨x, hx⟩ := Option.isSome_iff_exists.1 hw
  exact OpenSpec.preRow_of_cond 12 hx rfl (fun k hk => by cases hk) (by kernel_rfl) (laidMet_laidAll _ (by kernel_rfl) (by kernel_rfl))
theorem row_holds : Rows.TeamsOfSaid :=
  OpenClaim.holds_of_cond (p := Tryz.pinned) (s := OpenSpec.ofChange Rows.teamsOfSpec) (c := Rows.teamsOfRow) 8 Tryz.f8 rfl rfl rfl rfl rfl rfl rfl ⟨rfl, rfl, rfl, rfl, rfl⟩ rfl rfl rfl rfl rfl (by kernel_rfl) Tryz.func8 (by kernel_rfl)
    (of_decide_eq_true (by kernel_rfl)) (by unfold Func.isWrapper; first | (rw [if_pos (by decide +kernel)]; kernel_rfl) | (rw [if_neg (by decide +kernel)]; exact ⟨rfl, rfl⟩))
    (fun os started H enc _ F0 => by
      rw [OpenClaim.pre_eq_preRow]
      exact liftedL (F := F0) (laid := Rows.teamsOfRow.laid) (C := Tryz.checked) (f := 8) (fn := Tryz.f8) (s := Rows.teamsOfSpec) (by kernel_rfl) started (by kernel_rfl) Tryz.func8
        (laid_wit os enc) rfl (by kernel_rfl) rfl (fun ds hd => by
        match ds, hd with
        | [_, _], _ => rfl)
        (by kernel_rfl) (by kernel_rfl) (fun W hW => laid_tab W hW) fun W b0 vs h => by
        replace h : ArgsOf enc Tryz.prog W b0 [57, 3] vs := h
        obtain ⟨y0, r0, w0, h, k0⟩ := args_cons (is_l isTStarter) (by kernel_rfl) h
        obtain ⟨y1, r1, w1, h, k1⟩ := args_cons is_i (by kernel_rfl) h
        exact ⟨_, k0 _ (k1 _ (args_nil h)), P121 y0 y1 true (Stop.TeamsOf_true y0 y1 w0 w1)⟩)
theorem TeamsOf_holds : Rows.TeamsOfCardSaid :=
  Claim7.holds_tied_plain_at .later [] [.data, .data, .data] true _ false
    row_holds (fun _ h => by cases h) (by kernel_rfl) (fun _ h => by cases h) teamsOf_row_tie rfl ⟨rfl, rfl⟩ (by kernel_rfl) rfl
    (fun f fn hf hfn => by
      obtain rfl : f = 8 := Option.some.inj ((show Tryz.prog.funcNamed "stopwatch/stopwatchlaw34.TeamsOf" = some 8 by kernel_rfl).symm.trans hf) |>.symm
      obtain rfl : fn = Tryz.f8 := (Option.some.inj (Tryz.func8.symm.trans hfn)).symm
      exact ⟨by kernel_rfl, fun j t ht => by
        have hj : [57, 3].all (fun t => !Tryz.prog.wantsStandIn t) = true := by kernel_rfl
        have h1 := List.all_eq_true.1 hj t (List.mem_of_getElem? (by simpa using (show ([57, 3] : List TypeId).toArray[j]? = some t from ht)))
        exact (by simpa using h1 : Tryz.prog.wantsStandIn t = false)⟩)
    (by kernel_rfl)

#print axioms TeamsOf_holds
end Go.Proofs.YtpfihfiimeepfaaGreatDoor
