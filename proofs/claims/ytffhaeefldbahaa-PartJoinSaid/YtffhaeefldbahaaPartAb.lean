/-
The law's function PartJoin returns true for every number and two lists of bytes, of long lists too.
-/
import Derived.Test.YtffhaeefldbahaaPartAa
namespace Go.Proofs.Ytffhaeefldbahaa
open Go.RowKit
set_option maxHeartbeats 2000000 in
theorem partJoin_any (A B : Option Addr) (n : Nat) (la lb : List Int) (c d : Nat) (w : World) (hr : RowB w A la) (hs : RowB w B lb) (hn : n ≤ 255) :
    Calls Try.prog 6 #[.int .u8 n, .slice A la.length c, .slice B lb.length d] w (BoolP true w) := by
  by_cases ha : 40 < la.length
  · clear hr hs
    go_enter Try.func6, Try.ntmps6
    go_wp2_with (go_at_call 9; refine (awake_any _).mono ?_; rintro e w1 ⟨rfl, hb⟩)
    go_ret
    exact ⟨rfl, hb⟩
  by_cases hb : 40 < lb.length
  · clear hr hs
    go_enter Try.func6, Try.ntmps6
    go_wp2_with (go_at_call 9; refine (awake_any _).mono ?_; rintro e w1 ⟨rfl, hb⟩)
    go_ret
    exact ⟨rfl, hb⟩
  exact partJoin_small A B n la lb c d w hr hs hn (by omega) (by omega)
end Go.Proofs.Ytffhaeefldbahaa
