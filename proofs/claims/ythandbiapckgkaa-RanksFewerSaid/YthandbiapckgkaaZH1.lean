/- The given statement. No condition. -/
import Derived.Test.YthandbiapckgkaaRows
import Derived.Test.YthandbiapckgkaaZS5
import Derived.Test.YthandbiapckgkaaZW
namespace Go.Proofs.Ythandbiapckgkaa
open Go Go.Abs Go.Stop Go.ChangeShapes Go.WideShapes Go.ChangeAt Go.RowKit Go.Proofs.Try
set_option maxRecDepth 100000

theorem RanksFewer_holds : Rows.RanksFewerSaid :=
  OpenClaim.holds_of_wide (p := Try.pinned) (s := Rows.ranksFewerSpec) (c := Rows.ranksFewerRow) 8 Try.f8 rfl rfl rfl rfl rfl rfl rfl ⟨rfl, rfl, rfl, rfl, rfl⟩ rfl rfl rfl rfl rfl (by kernel_rfl) Try.func8 (by kernel_rfl)
    (of_decide_eq_true (by kernel_rfl)) (by unfold Func.isWrapper; first | (rw [if_pos (by decide +kernel)]; kernel_rfl) | (rw [if_neg (by decide +kernel)]; exact ⟨rfl, rfl⟩))
    (fun os started H enc _ => lifted (C := Try.checked) (f := 8) (fn := Try.f8) (s := Rows.ranksFewerSpec) (by kernel_rfl) started (by kernel_rfl) Try.func8
      (ChangeSpec.witness6 (enc := enc) (C := Try.checked) false ⟨#[], #[.agg #[.slice none 0 0, .slice none 0 0, .slice none 0 0, .slice none 0 0], .int .i64 0, .int .i64 0, .int .i64 0], []⟩ 12 (by kernel_rfl) (by kernel_rfl) (by kernel_rfl) (by kernel_rfl))
      rfl (by kernel_rfl) rfl (fun ds hd => by
        match ds, hd with
        | [_, _, _, _], _ => rfl)
      (by kernel_rfl) (by kernel_rfl) (fun _ _ h => h) fun W b0 vs h => by
        replace h : ArgsOf enc Try.prog W b0 [29, 3, 3, 3] vs := h
        obtain ⟨y0, r0, w0, h, k0⟩ := args_cons isTField (by kernel_rfl) h
        obtain ⟨y1, r1, w1, h, k1⟩ := args_cons is_i (by kernel_rfl) h
        obtain ⟨y2, r2, w2, h, k2⟩ := args_cons is_i (by kernel_rfl) h
        obtain ⟨y3, r3, w3, h, k3⟩ := args_cons is_i (by kernel_rfl) h
        exact ⟨_, k0 _ (k1 _ (k2 _ (k3 _ (args_nil h)))), P143 y0 y1 y2 y3 true (Stop.RanksFewer_true y0 y1 y2 y3 w0 w1 w2 w3)⟩)

#print axioms RanksFewer_holds
end Go.Proofs.Ythandbiapckgkaa
