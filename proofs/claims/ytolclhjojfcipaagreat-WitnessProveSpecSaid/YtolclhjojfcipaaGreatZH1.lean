/- The given statement. No condition. -/
import Derived.Test.YtolclhjojfcipaaGreatRows
import Derived.Test.YtolclhjojfcipaaGreatZS12
import Derived.Test.YtolclhjojfcipaaGreatZW
namespace Go.Proofs.YtolclhjojfcipaaGreat
open Go Go.Abs Go.Stop Go.ChangeShapes Go.WideShapes Go.ChangeAt Go.RowKit Go.Proofs.Tryz
set_option maxRecDepth 100000

theorem WitnessProveSpec_holds : Rows.WitnessProveSpecSaid :=
  OpenClaim.holds_of_wide (p := Tryz.pinned) (s := Rows.witnessProveSpecSpec) (c := Rows.witnessProveSpecRow) 3 Tryz.f3 rfl rfl rfl rfl rfl rfl rfl ⟨rfl, rfl, rfl, rfl, rfl⟩ rfl rfl rfl rfl rfl (by kernel_rfl) Tryz.func3 (by kernel_rfl)
    (of_decide_eq_true (by kernel_rfl)) (by unfold Func.isWrapper; first | (rw [if_pos (by decide +kernel)]; kernel_rfl) | (rw [if_neg (by decide +kernel)]; exact ⟨rfl, rfl⟩))
    (fun os started H enc _ => lifted (C := Tryz.checked) (f := 3) (fn := Tryz.f3) (s := Rows.witnessProveSpecSpec) (by kernel_rfl) started (by kernel_rfl) Tryz.func3
      (ChangeSpec.witness6 (enc := enc) (C := Tryz.checked) false ⟨#[], #[.agg #[.slice none 0 0, .slice none 0 0, .slice none 0 0, .slice none 0 0], .int .i64 0], []⟩ 12 (by kernel_rfl) (by kernel_rfl) (by kernel_rfl) (by kernel_rfl))
      rfl (by kernel_rfl) rfl (fun ds hd => by
        match ds, hd with
        | [_, _], _ => rfl)
      (by kernel_rfl) (by kernel_rfl) fun W b0 vs h => by
        replace h : ArgsOf enc Tryz.prog W b0 [29, 3] vs := h
        obtain ⟨y0, r0, w0, h, k0⟩ := args_cons isTField (by kernel_rfl) h
        obtain ⟨y1, r1, w1, h, k1⟩ := args_cons is_i (by kernel_rfl) h
        exact ⟨_, k0 _ (k1 _ (args_nil h)), P352 y0 y1 true (Stop.WitnessProveSpec_true y0 y1 w0 w1)⟩)

#print axioms WitnessProveSpec_holds
end Go.Proofs.YtolclhjojfcipaaGreat
