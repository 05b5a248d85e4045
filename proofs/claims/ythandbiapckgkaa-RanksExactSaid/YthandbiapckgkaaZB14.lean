/- A loop over an iterator whose rounds may panic, by its model. No condition. -/
import Derived.Test.YthandbiapckgkaaZB13
namespace Go.Abs
variable {P:Program} {X:Nat→Prop} {m m':Mp} {H:Hp} {w w':World}
/- One element of an array holds references: reading it,letting the array go. -/
end Go.Abs
