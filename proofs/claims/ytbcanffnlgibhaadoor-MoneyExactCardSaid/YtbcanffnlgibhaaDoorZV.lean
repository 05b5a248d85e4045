/- Shapes and ranges of what the laws are about, by program (gen.py). No condition. -/
import Derived.Test.YtbcanffnlgibhaaDoorZM
import Derived.Test.YtbcanffnlgibhaaDoorZB6
namespace Go.Stop
open Go Go.Abs
def shTmoney_part : Sh := .st [.i .i64, .i .i64, .i .i64]
def wTmoney_part (x : Tmoney_part) : Prop := wI x.index ∧ wI x.cents ∧ wI x.rest
theorem isTmoney_part : Is shTmoney_part eTmoney_part wTmoney_part := by
  intro cs h
  unfold shTmoney_part HasC at h
  unfold HasF at h
  obtain ⟨a0, r0, rfl, h0, h⟩ := h
  obtain ⟨y0, _, rfl, w0⟩ := is_i a0 h0
  unfold HasF at h
  obtain ⟨a1, r1, rfl, h1, h⟩ := h
  obtain ⟨y1, _, rfl, w1⟩ := is_i a1 h1
  unfold HasF at h
  obtain ⟨a2, r2, rfl, h2, h⟩ := h
  obtain ⟨y2, _, rfl, w2⟩ := is_i a2 h2
  unfold HasF at h
  subst h
  exact ⟨⟨y0, y1, y2⟩, rfl, rfl, w0, w1, w2⟩
end Go.Stop
