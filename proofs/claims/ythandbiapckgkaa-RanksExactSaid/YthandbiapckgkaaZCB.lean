/- Steps of a walk, in short. No condition. -/
import Derived.Test.YthandbiapckgkaaZL
import Derived.Test.YthandbiapckgkaaZB7
import Derived.KernelRfl
namespace Go.Abs
theorem q1 {A K:AV→Prop} {v:AV} (h:K v) (a:A v:=by exact fun _=>rr):∃ v,A v∧K v:=⟨v,a,h⟩
theorem q2 {B C:Prop} {A K:AV→Prop} {v:AV} (h:K v) (b:B:=by exact rfl) (c:C:=by exact rfl) (a:A v:=by exact rr):∃ v,(B∧C∧A v)∧K v:=⟨v,⟨b,c,a⟩,h⟩
theorem q3 {B C:Prop} {A K:AV→Prop} {v:AV} (a:A v) (h:K v) (b:B:=by exact rfl) (c:C:=by exact rfl):∃ v,(B∧C∧A v)∧K v:=⟨v,⟨b,c,a⟩,h⟩
theorem q4 {A K:AV→Prop} {v:AV} (h:K v) (a:A v:=by exact fun _=>arS_raw rr):∃ v,A v∧K v:=⟨v,a,h⟩
theorem pe {P:Program} {f:FuncId} {ds r:List D} {H:Hp} {Q:AV→Hp→Prop} (h:PC P f ds fun rs=>rs=r) (hq:Q (retD r) H):ECall P f (ds.map .d) H Q:=PC.ecall h fun rs e=>by subst e; exact hq
end Go.Abs
namespace Go.Proofs.Try
open Go Go.Abs
variable {N F:Nat} {ro:Option Nat} {id:Nat} {ops:Array Oper} {T:Tp} {H:Hp} {Q:Post} {B:Code}
theorem dq (W σ:List (Nat × Nat)) (h:SeqQ Try.prog ⟨N,ro,lay,F⟩ W ops σ T H fun T H=>Q .normal T H) (hok:(Nat.beq σ.length ops.size && okSeq W ops σ (Array.replicate ops.size false))=true:=by kernel_rfl):Tr Try.prog ⟨N,ro,lay,F⟩ (.region id ops true) T H Q:=Tr.draw (DrawP.seqQ layOK mixed W σ hok h)
theorem sg (h:RunOps Try.prog ⟨N,ro,lay,F⟩ ops.toList ops.toList T H fun T H=>Tr Try.prog ⟨N,ro,lay,F⟩ B T H Q):Tr Try.prog ⟨N,ro,lay,F⟩ (.seq (.region id ops false) B) T H Q:=Tr.seq (rg h)
theorem sd (W σ:List (Nat × Nat)) (h:SeqQ Try.prog ⟨N,ro,lay,F⟩ W ops σ T H fun T H=>Tr Try.prog ⟨N,ro,lay,F⟩ B T H Q) (hok:(Nat.beq σ.length ops.size && okSeq W ops σ (Array.replicate ops.size false))=true:=by kernel_rfl):Tr Try.prog ⟨N,ro,lay,F⟩ (.seq (.region id ops true) B) T H Q:=Tr.seq (Tr.draw (DrawP.seqQ layOK mixed W σ hok h))
end Go.Proofs.Try
