/- The given statement. No condition. -/
import Derived.Test.YtapjficbenpaeaaGreatRows
import Derived.Test.YtapjficbenpaeaaGreatZS13
import Derived.Test.YtapjficbenpaeaaGreatZW
namespace Go.Proofs.YtapjficbenpaeaaGreat
open Go Go.Abs Go.Stop Go.ChangeShapes Go.WideShapes Go.ChangeAt Go.RowKit Go.Proofs.Tryz
set_option maxRecDepth 100000

theorem StagesTotals_holds : Rows.StagesTotalsSaid :=
  OpenClaim.holds_of_wide (p := Tryz.pinned) (s := Rows.stagesTotalsSpec) (c := Rows.stagesTotalsRow) 4 Tryz.f4 rfl rfl rfl rfl rfl rfl rfl ⟨rfl, rfl, rfl, rfl, rfl⟩ rfl rfl rfl rfl rfl (by kernel_rfl) Tryz.func4 (by kernel_rfl)
    (of_decide_eq_true (by kernel_rfl)) (by unfold Func.isWrapper; first | (rw [if_pos (by decide +kernel)]; kernel_rfl) | (rw [if_neg (by decide +kernel)]; exact ⟨rfl, rfl⟩))
    (fun os started H enc _ => lifted (C := Tryz.checked) (f := 4) (fn := Tryz.f4) (s := Rows.stagesTotalsSpec) (by kernel_rfl) started (by kernel_rfl) Tryz.func4
      (ChangeSpec.witness6 (enc := enc) (C := Tryz.checked) false ⟨#[], #[.slice none 0 0, .int .i64 0], []⟩ 12 (by kernel_rfl) (by kernel_rfl) (by kernel_rfl) (by kernel_rfl))
      rfl (by kernel_rfl) rfl (fun ds hd => by
        match ds, hd with
        | [_, _], _ => rfl)
      (by kernel_rfl) (by kernel_rfl) fun W b0 vs h => by
        replace h : ArgsOf enc Tryz.prog W b0 [22, 3] vs := h
        obtain ⟨y0, r0, w0, h, k0⟩ := args_cons (is_l isTField) (by kernel_rfl) h
        obtain ⟨y1, r1, w1, h, k1⟩ := args_cons is_i (by kernel_rfl) h
        exact ⟨_, k0 _ (k1 _ (args_nil h)), P326 y0 y1 true (Stop.StagesTotals_true y0 y1 w0 w1)⟩)

#print axioms StagesTotals_holds
end Go.Proofs.YtapjficbenpaeaaGreat
