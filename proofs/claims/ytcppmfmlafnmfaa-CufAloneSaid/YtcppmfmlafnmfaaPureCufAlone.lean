/-
The plain statement of CufAlone: what the contract claims is claimed for all that a caller can hand over. No condition.
-/
import Derived.Test.YtcppmfmlafnmfaaStubAlone
namespace Go.Proofs.Ytcppmfmlafnmfaa.Pure
open Go.RowKit Go.Proofs.Ytcppmfmlafnmfaa.P
theorem CufAlone : warplaw4_CufAlone.Pure := fun _ _ _ _ _ h0 h1 h2 h3 h4 => if_pos ⟨h0.2, h1.2, h2, h3, h4⟩
end Go.Proofs.Ytcppmfmlafnmfaa.Pure
