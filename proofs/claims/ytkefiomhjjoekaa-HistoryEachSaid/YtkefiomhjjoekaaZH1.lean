/- The given statement. No condition. -/
import Derived.Test.YtkefiomhjjoekaaRows
import Derived.Test.YtkefiomhjjoekaaZS4
import Derived.Test.YtkefiomhjjoekaaZW
namespace Go.Proofs.Ytkefiomhjjoekaa
open Go Go.Abs Go.Stop Go.ChangeShapes Go.WideShapes Go.ChangeAt Go.RowKit Go.Proofs.Try
set_option maxRecDepth 100000

theorem HistoryEach_holds : Rows.HistoryEachSaid :=
  OpenClaim.holds_of_wide (p := Try.pinned) (s := Rows.historyEachSpec) (c := Rows.historyEachRow) 6 Try.f6 rfl rfl rfl rfl rfl rfl rfl ⟨rfl, rfl, rfl, rfl, rfl⟩ rfl rfl rfl rfl rfl (by kernel_rfl) Try.func6 (by kernel_rfl)
    (of_decide_eq_true (by kernel_rfl)) (by unfold Func.isWrapper; first | (rw [if_pos (by decide +kernel)]; kernel_rfl) | (rw [if_neg (by decide +kernel)]; exact ⟨rfl, rfl⟩))
    (fun os started H enc _ => lifted (C := Try.checked) (f := 6) (fn := Try.f6) (s := Rows.historyEachSpec) (by kernel_rfl) started (by kernel_rfl) Try.func6
      (ChangeSpec.witness6 (enc := enc) (C := Try.checked) false ⟨#[], #[.agg #[.slice none 0 0, .slice none 0 0, .slice none 0 0, .slice none 0 0], .int .i64 0, .slice none 0 0], []⟩ 12 (by kernel_rfl) (by kernel_rfl) (by kernel_rfl) (by kernel_rfl))
      rfl (by kernel_rfl) rfl (fun ds hd => by
        match ds, hd with
        | [_, _, _], _ => rfl)
      (by kernel_rfl) (by kernel_rfl) fun W b0 vs h => by
        replace h : ArgsOf enc Try.prog W b0 [29, 3, 47] vs := h
        obtain ⟨y0, r0, w0, h, k0⟩ := args_cons isTField (by kernel_rfl) h
        obtain ⟨y1, r1, w1, h, k1⟩ := args_cons is_i (by kernel_rfl) h
        obtain ⟨y2, r2, w2, h, k2⟩ := args_cons (is_l is_u8) (by kernel_rfl) h
        exact ⟨_, k0 _ (k1 _ (k2 _ (args_nil h))), P178 y0 y1 y2 true (Stop.HistoryEach_true y0 y1 y2 w0 w1 w2)⟩)

#print axioms HistoryEach_holds
end Go.Proofs.Ytkefiomhjjoekaa
