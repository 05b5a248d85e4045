/- Shapes and ranges of what the laws are about, by program (gen.py). No condition. -/
import Derived.Test.YthandbiapckgkaaZM
import Derived.Test.YthandbiapckgkaaZB6
namespace Go.Stop
open Go Go.Abs
def shTclocks_place:Sh:=.st [.i .i64,.i .i64]
def wTclocks_place (x:Tclocks_place):Prop:=wI x.mat∧wI x.epoch
theorem isTclocks_place:Is shTclocks_place eTclocks_place wTclocks_place:=by
 intro cs h
 unfold shTclocks_place HasC at h
 unfold HasF at h
 obtain ⟨a0,r0,rfl,h0,h⟩:=h
 obtain ⟨y0,_,rfl,w0⟩:=is_i a0 h0
 unfold HasF at h
 obtain ⟨a1,r1,rfl,h1,h⟩:=h
 obtain ⟨y1,_,rfl,w1⟩:=is_i a1 h1
 unfold HasF at h
 subst h
 exact ⟨⟨y0,y1⟩,rfl,rfl,w0,w1⟩
def shTSegment:Sh:=.st [.i .i64,.i .i64,.i .i64]
def wTSegment (x:TSegment):Prop:=wI x.Mat∧wI x.Epoch∧wI x.Anchor
theorem isTSegment:Is shTSegment eTSegment wTSegment:=by
 intro cs h
 unfold shTSegment HasC at h
 unfold HasF at h
 obtain ⟨a0,r0,rfl,h0,h⟩:=h
 obtain ⟨y0,_,rfl,w0⟩:=is_i a0 h0
 unfold HasF at h
 obtain ⟨a1,r1,rfl,h1,h⟩:=h
 obtain ⟨y1,_,rfl,w1⟩:=is_i a1 h1
 unfold HasF at h
 obtain ⟨a2,r2,rfl,h2,h⟩:=h
 obtain ⟨y2,_,rfl,w2⟩:=is_i a2 h2
 unfold HasF at h
 subst h
 exact ⟨⟨y0,y1,y2⟩,rfl,rfl,w0,w1,w2⟩
def shTClocks:Sh:=.st [.sl shTSegment,.sl (.sl (.i .i64))]
def wTClocks (x:TClocks):Prop:=(wL wTSegment) x.Segments∧(wL (wL wI)) x.Far
theorem isTClocks:Is shTClocks eTClocks wTClocks:=by
 intro cs h
 unfold shTClocks HasC at h
 unfold HasF at h
 obtain ⟨a0,r0,rfl,h0,h⟩:=h
 obtain ⟨y0,_,rfl,w0⟩:=(is_l isTSegment) a0 h0
 unfold HasF at h
 obtain ⟨a1,r1,rfl,h1,h⟩:=h
 obtain ⟨y1,_,rfl,w1⟩:=(is_l (is_l is_i)) a1 h1
 unfold HasF at h
 subst h
 exact ⟨⟨y0,y1⟩,rfl,rfl,w0,w1⟩
def shTOutcome:Sh:=.st [.b,.i .i64,.i .i64,.i .i64]
def wTOutcome (x:TOutcome):Prop:=wB x.Out∧wI x.Seg∧wI x.Lo∧wI x.Hi
theorem isTOutcome:Is shTOutcome eTOutcome wTOutcome:=by
 intro cs h
 unfold shTOutcome HasC at h
 unfold HasF at h
 obtain ⟨a0,r0,rfl,h0,h⟩:=h
 obtain ⟨y0,_,rfl,w0⟩:=is_b a0 h0
 unfold HasF at h
 obtain ⟨a1,r1,rfl,h1,h⟩:=h
 obtain ⟨y1,_,rfl,w1⟩:=is_i a1 h1
 unfold HasF at h
 obtain ⟨a2,r2,rfl,h2,h⟩:=h
 obtain ⟨y2,_,rfl,w2⟩:=is_i a2 h2
 unfold HasF at h
 obtain ⟨a3,r3,rfl,h3,h⟩:=h
 obtain ⟨y3,_,rfl,w3⟩:=is_i a3 h3
 unfold HasF at h
 subst h
 exact ⟨⟨y0,y1,y2,y3⟩,rfl,rfl,w0,w1,w2,w3⟩
def shTPair:Sh:=.st [.i .i64,.i .i64]
def wTPair (x:TPair):Prop:=wI x.A∧wI x.B
theorem isTPair:Is shTPair eTPair wTPair:=by
 intro cs h
 unfold shTPair HasC at h
 unfold HasF at h
 obtain ⟨a0,r0,rfl,h0,h⟩:=h
 obtain ⟨y0,_,rfl,w0⟩:=is_i a0 h0
 unfold HasF at h
 obtain ⟨a1,r1,rfl,h1,h⟩:=h
 obtain ⟨y1,_,rfl,w1⟩:=is_i a1 h1
 unfold HasF at h
 subst h
 exact ⟨⟨y0,y1⟩,rfl,rfl,w0,w1⟩
def shTRunner:Sh:=.st [.i .i64,.sl (.i .i64),.sl (.sl shTOutcome)]
def wTRunner (x:TRunner):Prop:=wI x.Bib∧(wL wI) x.Keys∧(wL (wL wTOutcome)) x.Worlds
theorem isTRunner:Is shTRunner eTRunner wTRunner:=by
 intro cs h
 unfold shTRunner HasC at h
 unfold HasF at h
 obtain ⟨a0,r0,rfl,h0,h⟩:=h
 obtain ⟨y0,_,rfl,w0⟩:=is_i a0 h0
 unfold HasF at h
 obtain ⟨a1,r1,rfl,h1,h⟩:=h
 obtain ⟨y1,_,rfl,w1⟩:=(is_l is_i) a1 h1
 unfold HasF at h
 obtain ⟨a2,r2,rfl,h2,h⟩:=h
 obtain ⟨y2,_,rfl,w2⟩:=(is_l (is_l isTOutcome)) a2 h2
 unfold HasF at h
 subst h
 exact ⟨⟨y0,y1,y2⟩,rfl,rfl,w0,w1,w2⟩
def shTField:Sh:=.st [shTClocks,.sl shTPair,.sl shTRunner]
def wTField (x:TField):Prop:=wTClocks x.Clocks∧(wL wTPair) x.Pairs∧(wL wTRunner) x.Runners
theorem isTField:Is shTField eTField wTField:=by
 intro cs h
 unfold shTField HasC at h
 unfold HasF at h
 obtain ⟨a0,r0,rfl,h0,h⟩:=h
 obtain ⟨y0,_,rfl,w0⟩:=isTClocks a0 h0
 unfold HasF at h
 obtain ⟨a1,r1,rfl,h1,h⟩:=h
 obtain ⟨y1,_,rfl,w1⟩:=(is_l isTPair) a1 h1
 unfold HasF at h
 obtain ⟨a2,r2,rfl,h2,h⟩:=h
 obtain ⟨y2,_,rfl,w2⟩:=(is_l isTRunner) a2 h2
 unfold HasF at h
 subst h
 exact ⟨⟨y0,y1,y2⟩,rfl,rfl,w0,w1,w2⟩
def shTChoice:Sh:=.st [.i .i64,.i .i64]
def wTChoice (x:TChoice):Prop:=wI x.Outcome∧wI x.X
theorem isTChoice:Is shTChoice eTChoice wTChoice:=by
 intro cs h
 unfold shTChoice HasC at h
 unfold HasF at h
 obtain ⟨a0,r0,rfl,h0,h⟩:=h
 obtain ⟨y0,_,rfl,w0⟩:=is_i a0 h0
 unfold HasF at h
 obtain ⟨a1,r1,rfl,h1,h⟩:=h
 obtain ⟨y1,_,rfl,w1⟩:=is_i a1 h1
 unfold HasF at h
 subst h
 exact ⟨⟨y0,y1⟩,rfl,rfl,w0,w1⟩
def shTHistory:Sh:=.st [.i .i64,.sl (.i .i64),.sl shTChoice]
def wTHistory (x:THistory):Prop:=wI x.World∧(wL wI) x.Offsets∧(wL wTChoice) x.Choices
theorem isTHistory:Is shTHistory eTHistory wTHistory:=by
 intro cs h
 unfold shTHistory HasC at h
 unfold HasF at h
 obtain ⟨a0,r0,rfl,h0,h⟩:=h
 obtain ⟨y0,_,rfl,w0⟩:=is_i a0 h0
 unfold HasF at h
 obtain ⟨a1,r1,rfl,h1,h⟩:=h
 obtain ⟨y1,_,rfl,w1⟩:=(is_l is_i) a1 h1
 unfold HasF at h
 obtain ⟨a2,r2,rfl,h2,h⟩:=h
 obtain ⟨y2,_,rfl,w2⟩:=(is_l isTChoice) a2 h2
 unfold HasF at h
 subst h
 exact ⟨⟨y0,y1,y2⟩,rfl,rfl,w0,w1,w2⟩
end Go.Stop
