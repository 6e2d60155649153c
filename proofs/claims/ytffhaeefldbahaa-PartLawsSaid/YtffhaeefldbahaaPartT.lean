/-
The law's function PartLaws returns true for every number, list of bytes and three elements, of long lists too.
-/
import Derived.Test.YtffhaeefldbahaaPartS
import Derived.Test.YtffhaeefldbahaaPartQ
namespace Go.Proofs.Ytffhaeefldbahaa
open Go.RowKit
set_option maxHeartbeats 2000000 in
theorem partLaws_any (A : Option Addr) (n x y z : Nat) (la : List Int) (c : Nat) (w : World) (hr : RowB w A la) (hn : n ≤ 255) (hx : x ≤ 255) (hy : y ≤ 255) (hz : z ≤ 255) :
    Calls Try.prog 4 #[.int .u8 n, .slice A la.length c, .int .u8 x, .int .u8 y, .int .u8 z] w (BoolP true w) := by
  by_cases ha : 60 < la.length
  · have wn : IntKind.i64.wrap (1 + (n : Int) % 30) = 1 + (n : Int) % 30 := IntWalk.i64_in _ (by omega)
    clear hr
    go_enter Try.func4, Try.ntmps4
    go_wp2_with (go_at_call 9; refine (awake_any _).mono ?_; rintro e w1 ⟨rfl, hb⟩)
    go_ret
    exact ⟨rfl, hb⟩
  exact partLaws_small A n x y z la c w hr hn hx hy hz (by omega)
end Go.Proofs.Ytffhaeefldbahaa
