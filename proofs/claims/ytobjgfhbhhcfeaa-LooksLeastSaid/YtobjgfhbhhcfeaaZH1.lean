/- The given statement. No condition. -/
import Derived.Test.YtobjgfhbhhcfeaaRows
import Derived.Test.YtobjgfhbhhcfeaaZS6
import Derived.Test.YtobjgfhbhhcfeaaZW
namespace Go.Proofs.Ytobjgfhbhhcfeaa
open Go Go.Abs Go.Stop Go.ChangeShapes Go.WideShapes Go.ChangeAt Go.RowKit Go.Proofs.Try
set_option maxRecDepth 100000

theorem LooksLeast_holds : Rows.LooksLeastSaid :=
  OpenClaim.holds_of_wide (p := Try.pinned) (s := Rows.looksLeastSpec) (c := Rows.looksLeastRow) 6 Try.f6 rfl rfl rfl rfl rfl rfl rfl ⟨rfl, rfl, rfl, rfl, rfl⟩ rfl rfl rfl rfl rfl (by kernel_rfl) Try.func6 (by kernel_rfl)
    (of_decide_eq_true (by kernel_rfl)) (by unfold Func.isWrapper; first | (rw [if_pos (by decide +kernel)]; kernel_rfl) | (rw [if_neg (by decide +kernel)]; exact ⟨rfl, rfl⟩))
    (fun os started H enc _ => lifted (C := Try.checked) (f := 6) (fn := Try.f6) (s := Rows.looksLeastSpec) (by kernel_rfl) started (by kernel_rfl) Try.func6
      (ChangeSpec.witness6 (enc := enc) (C := Try.checked) false ⟨#[], #[.agg #[.slice none 0 0, .slice none 0 0, .slice none 0 0, .slice none 0 0, .int .i64 0, .slice none 0 0]], []⟩ 12 (by kernel_rfl) (by kernel_rfl) (by kernel_rfl) (by kernel_rfl))
      rfl (by kernel_rfl) rfl (fun ds hd => by
        match ds, hd with
        | [_], _ => rfl)
      (by kernel_rfl) (by kernel_rfl) (fun _ _ h => h) fun W b0 vs h => by
        replace h : ArgsOf enc Try.prog W b0 [32] vs := h
        obtain ⟨y0, r0, w0, h, k0⟩ := args_cons isTQuestion (by kernel_rfl) h
        exact ⟨_, k0 _ (args_nil h), P226 y0 true (Stop.LooksLeast_true y0 w0)⟩)

#print axioms LooksLeast_holds
end Go.Proofs.Ytobjgfhbhhcfeaa
