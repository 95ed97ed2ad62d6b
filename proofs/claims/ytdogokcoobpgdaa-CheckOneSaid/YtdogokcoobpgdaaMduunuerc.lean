import Derived.Test.YtdogokcoobpgdaaMnuvnmvwn
import Derived.Test.YtdogokcoobpgdaaMelkrconm
namespace Go.Proofs.Ytdogokcoobpgdaa
open Go.RowKit Go.Proofs.YtdogokcoobpgdaaW.PrintWords

theorem checkOne_walk (x : Hst) (y : Exq) (w : World) (hx : HstOk w x) (hsx : ∀ a, x.attrs.a = some a → a.spot = none) (hy : ExqOk w y) (hsy : ∀ a, y.attrs.a = some a → a.spot = none) :
    Calls Try.prog 3 #[hstA x, exqA y] w fun e w' => e = .returned (.bool true) ∧ Below w.heap.size w w' := one_any w x y hx hy hsx hsy
end Go.Proofs.Ytdogokcoobpgdaa
