/- The given statement. No condition. -/
import Derived.Test.YtolclhjojfcipaaGreatRows
import Derived.Test.YtolclhjojfcipaaGreatZS12
import Derived.Test.YtolclhjojfcipaaGreatZW
namespace Go.Proofs.YtolclhjojfcipaaGreat
open Go Go.Abs Go.Stop Go.ChangeShapes Go.WideShapes Go.ChangeAt Go.RowKit Go.Proofs.Tryz
set_option maxRecDepth 100000

theorem WitnessOpen_holds : Rows.WitnessOpenSaid :=
  OpenClaim.holds_of_wide (p := Tryz.pinned) (s := Rows.witnessOpenSpec) (c := Rows.witnessOpenRow) 5 Tryz.f5 rfl rfl rfl rfl rfl rfl rfl ⟨rfl, rfl, rfl, rfl, rfl⟩ rfl rfl rfl rfl rfl (by kernel_rfl) Tryz.func5 (by kernel_rfl)
    (of_decide_eq_true (by kernel_rfl)) (by unfold Func.isWrapper; first | (rw [if_pos (by decide +kernel)]; kernel_rfl) | (rw [if_neg (by decide +kernel)]; exact ⟨rfl, rfl⟩))
    (fun os started H enc _ => lifted (C := Tryz.checked) (f := 5) (fn := Tryz.f5) (s := Rows.witnessOpenSpec) (by kernel_rfl) started (by kernel_rfl) Tryz.func5
      (ChangeSpec.witness6 (enc := enc) (C := Tryz.checked) false ⟨#[], #[.agg #[.slice none 0 0, .slice none 0 0, .slice none 0 0, .slice none 0 0], .int .u8 0], []⟩ 12 (by kernel_rfl) (by kernel_rfl) (by kernel_rfl) (by kernel_rfl))
      rfl (by kernel_rfl) rfl (fun ds hd => by
        match ds, hd with
        | [_, _], _ => rfl)
      (by kernel_rfl) (by kernel_rfl) fun W b0 vs h => by
        replace h : ArgsOf enc Tryz.prog W b0 [29, 5] vs := h
        obtain ⟨y0, r0, w0, h, k0⟩ := args_cons isTField (by kernel_rfl) h
        obtain ⟨y1, r1, w1, h, k1⟩ := args_cons is_u8 (by kernel_rfl) h
        exact ⟨_, k0 _ (k1 _ (args_nil h)), P307 y0 y1 true (Stop.WitnessOpen_true y0 y1 w0 w1)⟩)

#print axioms WitnessOpen_holds
end Go.Proofs.YtolclhjojfcipaaGreat
