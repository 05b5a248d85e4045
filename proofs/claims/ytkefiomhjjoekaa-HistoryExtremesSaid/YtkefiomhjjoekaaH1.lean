/- The given statement. No condition. -/
import Derived.Test.YtkefiomhjjoekaaRows
import Derived.Test.YtkefiomhjjoekaaS7
import Derived.Test.YtkefiomhjjoekaaW
namespace Go.Proofs.Ytkefiomhjjoekaa
open Go Go.Abs Go.Stop Go.ChangeShapes Go.WideShapes Go.ChangeAt Go.RowKit Go.Proofs.Try
set_option maxRecDepth 100000

theorem HistoryExtremes_holds : Rows.HistoryExtremesSaid :=
  OpenClaim.holds_of_wide (p := Try.pinned) (s := Rows.historyExtremesSpec) (c := Rows.historyExtremesRow) 10 Try.f10 rfl rfl rfl rfl rfl rfl rfl ⟨rfl, rfl, rfl, rfl, rfl⟩ rfl rfl rfl rfl rfl (by kernel_rfl) Try.func10 (by kernel_rfl)
    (of_decide_eq_true (by kernel_rfl)) (by unfold Func.isWrapper; first | (rw [if_pos (by decide +kernel)]; kernel_rfl) | (rw [if_neg (by decide +kernel)]; exact ⟨rfl, rfl⟩))
    (fun os started H enc _ => lifted (C := Try.checked) (f := 10) (fn := Try.f10) (s := Rows.historyExtremesSpec) (by kernel_rfl) started (by kernel_rfl) Try.func10
      (ChangeSpec.witness6 (enc := enc) (C := Try.checked) false ⟨#[], #[.agg #[.slice none 0 0, .slice none 0 0, .slice none 0 0, .slice none 0 0], .int .i64 0], []⟩ 12 (by kernel_rfl) (by kernel_rfl) (by kernel_rfl) (by kernel_rfl))
      rfl (by kernel_rfl) rfl (fun ds hd => by
        match ds, hd with
        | [_, _], _ => rfl)
      (by kernel_rfl) (by kernel_rfl) fun W b0 vs h => by
        replace h : ArgsOf enc Try.prog W b0 [29, 3] vs := h
        obtain ⟨y0, r0, w0, h, k0⟩ := args_cons isTField (by kernel_rfl) h
        obtain ⟨y1, r1, w1, h, k1⟩ := args_cons is_i (by kernel_rfl) h
        exact ⟨_, k0 _ (k1 _ (args_nil h)), s_stopwatchlaw26_HistoryExtremes y0 y1 true (Stop.HistoryExtremes_true y0 y1 w0 w1)⟩)

#print axioms HistoryExtremes_holds
end Go.Proofs.Ytkefiomhjjoekaa
