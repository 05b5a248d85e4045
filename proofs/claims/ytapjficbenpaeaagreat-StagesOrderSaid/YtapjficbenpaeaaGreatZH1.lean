/- The given statement. No condition. -/
import Derived.Test.YtapjficbenpaeaaGreatRows
import Derived.Test.YtapjficbenpaeaaGreatZS10
import Derived.Test.YtapjficbenpaeaaGreatZW
namespace Go.Proofs.YtapjficbenpaeaaGreat
open Go Go.Abs Go.Stop Go.ChangeShapes Go.WideShapes Go.ChangeAt Go.RowKit Go.Proofs.Tryz
set_option maxRecDepth 100000

theorem StagesOrder_holds : Rows.StagesOrderSaid :=
  OpenClaim.holds_of_wide (p := Tryz.pinned) (s := Rows.stagesOrderSpec) (c := Rows.stagesOrderRow) 8 Tryz.f8 rfl rfl rfl rfl rfl rfl rfl ⟨rfl, rfl, rfl, rfl, rfl⟩ rfl rfl rfl rfl rfl (by kernel_rfl) Tryz.func8 (by kernel_rfl)
    (of_decide_eq_true (by kernel_rfl)) (by unfold Func.isWrapper; first | (rw [if_pos (by decide +kernel)]; kernel_rfl) | (rw [if_neg (by decide +kernel)]; exact ⟨rfl, rfl⟩))
    (fun os started H enc _ => lifted (C := Tryz.checked) (f := 8) (fn := Tryz.f8) (s := Rows.stagesOrderSpec) (by kernel_rfl) started (by kernel_rfl) Tryz.func8
      (ChangeSpec.witness6 (enc := enc) (C := Tryz.checked) false ⟨#[], #[.slice none 0 0, .int .i64 0, .int .i64 0, .int .i64 0], []⟩ 12 (by kernel_rfl) (by kernel_rfl) (by kernel_rfl) (by kernel_rfl))
      rfl (by kernel_rfl) rfl (fun ds hd => by
        match ds, hd with
        | [_, _, _, _], _ => rfl)
      (by kernel_rfl) (by kernel_rfl) fun W b0 vs h => by
        replace h : ArgsOf enc Tryz.prog W b0 [22, 3, 3, 3] vs := h
        obtain ⟨y0, r0, w0, h, k0⟩ := args_cons (is_l isTField) (by kernel_rfl) h
        obtain ⟨y1, r1, w1, h, k1⟩ := args_cons is_i (by kernel_rfl) h
        obtain ⟨y2, r2, w2, h, k2⟩ := args_cons is_i (by kernel_rfl) h
        obtain ⟨y3, r3, w3, h, k3⟩ := args_cons is_i (by kernel_rfl) h
        exact ⟨_, k0 _ (k1 _ (k2 _ (k3 _ (args_nil h)))), P323 y0 y1 y2 y3 true (Stop.StagesOrder_true y0 y1 y2 y3 w0 w1 w2 w3)⟩)

#print axioms StagesOrder_holds
end Go.Proofs.YtapjficbenpaeaaGreat
