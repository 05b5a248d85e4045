/- The given statement. No condition. -/
import Derived.Test.YthandbiapckgkaaRows
import Derived.Test.YthandbiapckgkaaZS5
import Derived.Test.YthandbiapckgkaaZW
namespace Go.Proofs.Ythandbiapckgkaa
open Go Go.Abs Go.Stop Go.ChangeShapes Go.WideShapes Go.ChangeAt Go.RowKit Go.Proofs.Try
set_option maxRecDepth 100000

theorem RanksExact_holds : Rows.RanksExactSaid :=
  OpenClaim.holds_of_wide (p := Try.pinned) (s := Rows.ranksExactSpec) (c := Rows.ranksExactRow) 5 Try.f5 rfl rfl rfl rfl rfl rfl rfl ⟨rfl, rfl, rfl, rfl, rfl⟩ rfl rfl rfl rfl rfl (by kernel_rfl) Try.func5 (by kernel_rfl)
    (of_decide_eq_true (by kernel_rfl)) (by unfold Func.isWrapper; first | (rw [if_pos (by decide +kernel)]; kernel_rfl) | (rw [if_neg (by decide +kernel)]; exact ⟨rfl, rfl⟩))
    (fun os started H enc _ => lifted (C := Try.checked) (f := 5) (fn := Try.f5) (s := Rows.ranksExactSpec) (by kernel_rfl) started (by kernel_rfl) Try.func5
      (ChangeSpec.witness6 (enc := enc) (C := Try.checked) false ⟨#[], #[.agg #[.slice none 0 0, .slice none 0 0, .slice none 0 0, .slice none 0 0], .int .i64 0], []⟩ 12 (by kernel_rfl) (by kernel_rfl) (by kernel_rfl) (by kernel_rfl))
      rfl (by kernel_rfl) rfl (fun ds hd => by
        match ds, hd with
        | [_, _], _ => rfl)
      (by kernel_rfl) (by kernel_rfl) (fun _ _ h => h) fun W b0 vs h => by
        replace h : ArgsOf enc Try.prog W b0 [29, 3] vs := h
        obtain ⟨y0, r0, w0, h, k0⟩ := args_cons isTField (by kernel_rfl) h
        obtain ⟨y1, r1, w1, h, k1⟩ := args_cons is_i (by kernel_rfl) h
        exact ⟨_, k0 _ (k1 _ (args_nil h)), P171 y0 y1 true (Stop.RanksExact_true y0 y1 w0 w1)⟩)

#print axioms RanksExact_holds
end Go.Proofs.Ythandbiapckgkaa
