/- The given statement. No condition. -/
import Derived.Test.YtapjficbenpaeaaGreatRows
import Derived.Test.YtapjficbenpaeaaGreatZS12
import Derived.Test.YtapjficbenpaeaaGreatZW
namespace Go.Proofs.YtapjficbenpaeaaGreat
open Go Go.Abs Go.Stop Go.ChangeShapes Go.WideShapes Go.ChangeAt Go.RowKit Go.Proofs.Tryz
set_option maxRecDepth 100000

theorem StagesSound_holds : Rows.StagesSoundSaid :=
  OpenClaim.holds_of_wide (p := Tryz.pinned) (s := Rows.stagesSoundSpec) (c := Rows.stagesSoundRow) 3 Tryz.f3 rfl rfl rfl rfl rfl rfl rfl ⟨rfl, rfl, rfl, rfl, rfl⟩ rfl rfl rfl rfl rfl (by kernel_rfl) Tryz.func3 (by kernel_rfl)
    (of_decide_eq_true (by kernel_rfl)) (by unfold Func.isWrapper; first | (rw [if_pos (by decide +kernel)]; kernel_rfl) | (rw [if_neg (by decide +kernel)]; exact ⟨rfl, rfl⟩))
    (fun os started H enc _ => lifted (C := Tryz.checked) (f := 3) (fn := Tryz.f3) (s := Rows.stagesSoundSpec) (by kernel_rfl) started (by kernel_rfl) Tryz.func3
      (ChangeSpec.witness6 (enc := enc) (C := Tryz.checked) false ⟨#[], #[.slice none 0 0, .slice none 0 0, .int .i64 0], []⟩ 12 (by kernel_rfl) (by kernel_rfl) (by kernel_rfl) (by kernel_rfl))
      rfl (by kernel_rfl) rfl (fun ds hd => by
        match ds, hd with
        | [_, _, _], _ => rfl)
      (by kernel_rfl) (by kernel_rfl) fun W b0 vs h => by
        replace h : ArgsOf enc Tryz.prog W b0 [22, 23, 3] vs := h
        obtain ⟨y0, r0, w0, h, k0⟩ := args_cons (is_l isTField) (by kernel_rfl) h
        obtain ⟨y1, r1, w1, h, k1⟩ := args_cons (is_l isTHistory) (by kernel_rfl) h
        obtain ⟨y2, r2, w2, h, k2⟩ := args_cons is_i (by kernel_rfl) h
        exact ⟨_, k0 _ (k1 _ (k2 _ (args_nil h))), P356 y0 y1 y2 true (Stop.StagesSound_true y0 y1 y2 w0 w1 w2)⟩)

#print axioms StagesSound_holds
end Go.Proofs.YtapjficbenpaeaaGreat
