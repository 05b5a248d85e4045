/- From a contract of this layer to the given statement of a law. No condition. -/
import Derived.Test.YtpfihfiimeepfaaGreatDoorZB5
import Derived.WalkKit
import Derived.ProofKit
import Derived.ChangeCalls
namespace Go.Abs
open Go.ChangeShapes Go.WideShapes Go.RowKit
section
variable {H : Type} {enc : TypeId × Value → H} {P : Program} {w w' : World}
theorem trodAll_at {base : Nat} {spare : Nat → Bool} {held : Bool} : ∀ {ts : List TypeId} {vs : List Value} {ds : List (DataW H)} {ps : List MemPlace}, DataW.TrodAll enc P w base spare held ts vs ds ps →
    ∀ (j : Nat) t v, ts[j]? = some t → vs[j]? = some v → ∃ d p, ds[j]? = some d ∧ DataW.Trod enc P w base spare held t v d p
  | [], [], [], _, _, j, t, v, ht, _ => by simp at ht
  | t0 :: ts, v0 :: vs, d0 :: ds, ps, h, j, t, v, ht, hv => by
    obtain ⟨p, q, h1, h2, rfl⟩ := h
    cases j with
    | zero => simp at ht hv; subst ht; subst hv; exact ⟨_, _, rfl, h1⟩
    | succ j => simpa using trodAll_at h2 j t v (by simpa using ht) (by simpa using hv)
  | [], _ :: _, _, _, h, _, _, _, _, _ => by cases h
  | _ :: _, [], _, _, h, _, _, _, _, _ => by cases h
  | _ :: _, _ :: _, [], _, h, _, _, _, _, _ => by cases h
  | [], [], _ :: _, _, h, _, _, _, _, _ => by cases h
theorem trodAll_stays (hl : laidOutB P = true) (hw : ∀ b, b < w.heap.size → w'.heap[b]? = w.heap[b]?) : ∀ {ts : List TypeId} {vs : List Value} {ds : List (DataW H)} {ps : List MemPlace}, (∀ t, t ∈ ts → P.readableRec t = true ∧ t < P.types.size) →
    DataW.TrodAll enc P w 0 (fun _ => true) true ts vs ds ps → (∀ p, p ∈ ps → p.block < w.heap.size) → ∀ sp : Nat → Bool, (∀ p, p ∈ ps → sp p.block = true) → DataW.TrodAll enc P w' 0 sp true ts vs ds ps
  | [], [], [], _, _, h, _, _, _ => h
  | t0 :: ts, v0 :: vs, d0 :: ds, ps, ht, h, hlt, sp, hs => by
    obtain ⟨p, q, h1, h2, rfl⟩ := h
    refine ⟨p, q, ?_, trodAll_stays hl hw (fun t h => ht t (by simp [h])) h2 (fun x hx => hlt x (by simp [hx])) sp (fun x hx => hs x (by simp [hx])), rfl⟩
    obtain ⟨r1, r2⟩ := ht t0 (by simp)
    refine WideElems.Trod_stays hl r1 r2 h1 (fun x hx => ?_) (fun x hx => hs x (by simp [hx]))
    have hb := hw x.block (hlt x (by simp [hx]))
    cases x with
    | cell b o => exact World.cell?_of_block (w := w) hb
    | map b => exact hb
  | [], _ :: _, _, _, _, h, _, _, _ => by cases h
  | _ :: _, [], _, _, _, h, _, _, _ => by cases h
  | _ :: _, _ :: _, [], _, _, h, _, _, _ => by cases h
  | [], [], _ :: _, _, _, h, _, _, _ => by cases h
end
end Go.Abs
