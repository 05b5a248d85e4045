/- The given statement. No condition. -/
import Derived.Test.YtobjgfhbhhcfeaaRows
import Derived.Test.YtobjgfhbhhcfeaaZS7
import Derived.Test.YtobjgfhbhhcfeaaZW
namespace Go.Proofs.Ytobjgfhbhhcfeaa
open Go Go.Abs Go.Stop Go.ChangeShapes Go.WideShapes Go.ChangeAt Go.RowKit Go.Proofs.Try
set_option maxRecDepth 100000

theorem LooksGreedySpec_holds : Rows.LooksGreedySpecSaid :=
  OpenClaim.holds_of_wide (p := Try.pinned) (s := Rows.looksGreedySpecSpec) (c := Rows.looksGreedySpecRow) 5 Try.f5 rfl rfl rfl rfl rfl rfl rfl ⟨rfl, rfl, rfl, rfl, rfl⟩ rfl rfl rfl rfl rfl (by kernel_rfl) Try.func5 (by kernel_rfl)
    (of_decide_eq_true (by kernel_rfl)) (by unfold Func.isWrapper; first | (rw [if_pos (by decide +kernel)]; kernel_rfl) | (rw [if_neg (by decide +kernel)]; exact ⟨rfl, rfl⟩))
    (fun os started H enc _ => lifted (C := Try.checked) (f := 5) (fn := Try.f5) (s := Rows.looksGreedySpecSpec) (by kernel_rfl) started (by kernel_rfl) Try.func5
      (ChangeSpec.witness6 (enc := enc) (C := Try.checked) false ⟨#[], #[.agg #[.slice none 0 0, .slice none 0 0, .slice none 0 0, .slice none 0 0, .int .i64 0, .slice none 0 0]], []⟩ 12 (by kernel_rfl) (by kernel_rfl) (by kernel_rfl) (by kernel_rfl))
      rfl (by kernel_rfl) rfl (fun ds hd => by
        match ds, hd with
        | [_], _ => rfl)
      (by kernel_rfl) (by kernel_rfl) (fun _ _ h => h) fun W b0 vs h => by
        replace h : ArgsOf enc Try.prog W b0 [32] vs := h
        obtain ⟨y0, r0, w0, h, k0⟩ := args_cons isTQuestion (by kernel_rfl) h
        exact ⟨_, k0 _ (args_nil h), P235 y0 true (Stop.LooksGreedySpec_true y0 w0)⟩)

#print axioms LooksGreedySpec_holds
end Go.Proofs.Ytobjgfhbhhcfeaa
