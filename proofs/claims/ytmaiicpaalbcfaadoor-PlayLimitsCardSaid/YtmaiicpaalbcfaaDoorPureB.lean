/-
The law's own example is met: the two plays are reckoned. No condition.
-/
import Derived.Test.YtmaiicpaalbcfaaDoorPx3
namespace Go.Proofs.YtmaiicpaalbcfaaDoor.Pure
open Go.RowKit Go.Proofs.YtmaiicpaalbcfaaDoor.P Go.Proofs.YtmaiicpaalbcfaaDoorW.PrintWords Go.Proofs.YtmaiicpaalbcfaaDoorW.PrintLast Go.Proofs.YtmaiicpaalbcfaaDoor
theorem awake5_at : warplaw5_awake.f 5 = some true := by kernel_rfl
theorem awake5 : Ev (fun k => warplaw5_awake.f k) true := Ev.of warplaw5_awake.mono awake5_at
end Go.Proofs.YtmaiicpaalbcfaaDoor.Pure
