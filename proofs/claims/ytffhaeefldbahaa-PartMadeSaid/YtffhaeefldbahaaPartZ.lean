/-
The law's function PartMade returns true for every number, two lists of bytes and two elements, of long lists too.
-/
import Derived.Test.YtffhaeefldbahaaPartY
namespace Go.Proofs.Ytffhaeefldbahaa
open Go.RowKit
set_option maxHeartbeats 2000000 in
theorem partMade_any (A B : Option Addr) (n x y : Nat) (la lb : List Int) (c d : Nat) (w : World) (hr : RowB w A la) (hs : RowB w B lb) (hn : n ≤ 255) (hx : x ≤ 255) (hy : y ≤ 255) :
    Calls Try.prog 8 #[.int .u8 n, .slice A la.length c, .slice B lb.length d, .int .u8 x, .int .u8 y] w (BoolP true w) := by
  by_cases ha : 80 < la.length
  · clear hr hs
    go_enter Try.func8, Try.ntmps8
    go_wp2_with (go_at_call 9; refine (awake_any _).mono ?_; rintro e w1 ⟨rfl, hb⟩)
    go_ret
    exact ⟨rfl, hb⟩
  by_cases hb : 80 < lb.length
  · clear hr hs
    go_enter Try.func8, Try.ntmps8
    go_wp2_with (go_at_call 9; refine (awake_any _).mono ?_; rintro e w1 ⟨rfl, hb⟩)
    go_ret
    exact ⟨rfl, hb⟩
  exact partMade_small A B n x y la lb c d w hr hs hn hx hy (by omega) (by omega)
end Go.Proofs.Ytffhaeefldbahaa
