/- The given statement. No condition. -/
import Derived.Test.YtkefiomhjjoekaaRows
import Derived.Test.YtkefiomhjjoekaaS7
import Derived.Test.YtkefiomhjjoekaaW
namespace Go.Proofs.Ytkefiomhjjoekaa
open Go Go.Abs Go.Stop Go.ChangeShapes Go.WideShapes Go.ChangeAt Go.RowKit Go.Proofs.Try
set_option maxRecDepth 100000

theorem HistoryRanks_holds : Rows.HistoryRanksSaid :=
  OpenClaim.holds_of_wide (p := Try.pinned) (s := Rows.historyRanksSpec) (c := Rows.historyRanksRow) 9 Try.f9 rfl rfl rfl rfl rfl rfl rfl ⟨rfl, rfl, rfl, rfl, rfl⟩ rfl rfl rfl rfl rfl (by kernel_rfl) Try.func9 (by kernel_rfl)
    (of_decide_eq_true (by kernel_rfl)) (by unfold Func.isWrapper; first | (rw [if_pos (by decide +kernel)]; kernel_rfl) | (rw [if_neg (by decide +kernel)]; exact ⟨rfl, rfl⟩))
    (fun os started H enc _ => lifted (C := Try.checked) (f := 9) (fn := Try.f9) (s := Rows.historyRanksSpec) (by kernel_rfl) started (by kernel_rfl) Try.func9
      (ChangeSpec.witness6 (enc := enc) (C := Try.checked) false ⟨#[], #[.agg #[.slice none 0 0, .slice none 0 0, .slice none 0 0, .slice none 0 0], .agg #[.int .i64 0, .slice none 0 0, .slice none 0 0]], []⟩ 12 (by kernel_rfl) (by kernel_rfl) (by kernel_rfl) (by kernel_rfl))
      rfl (by kernel_rfl) rfl (fun ds hd => by
        match ds, hd with
        | [_, _], _ => rfl)
      (by kernel_rfl) (by kernel_rfl) fun W b0 vs h => by
        replace h : ArgsOf enc Try.prog W b0 [29, 33] vs := h
        obtain ⟨y0, r0, w0, h, k0⟩ := args_cons isTField (by kernel_rfl) h
        obtain ⟨y1, r1, w1, h, k1⟩ := args_cons isTHistory (by kernel_rfl) h
        exact ⟨_, k0 _ (k1 _ (args_nil h)), s_stopwatchlaw26_HistoryRanks y0 y1 true (Stop.HistoryRanks_true y0 y1 w0 w1)⟩)

#print axioms HistoryRanks_holds
end Go.Proofs.Ytkefiomhjjoekaa
