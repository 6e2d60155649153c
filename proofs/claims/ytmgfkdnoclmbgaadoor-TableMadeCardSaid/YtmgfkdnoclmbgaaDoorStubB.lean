/-
A contract, in the form of the printed texts, of table.Play. Conditions: the rows can be read; the plain play answers; the world holds the package's table.
-/
import Derived.Test.YtmgfkdnoclmbgaaDoorTabJ
namespace Go.Proofs.YtmgfkdnoclmbgaaDoor.P
open Go.RowKit Go.Proofs.YtmgfkdnoclmbgaaDoorW.PrintWords
def table_Play.f (l0 : List (List (S26))) (a1 : Int) (a2 : Int) (l3 : List Int) : Option ((List (List Int)) × (List (S26)) × Int × Int) := tabF l0 a1 a2 l3
theorem table_Play.calls (A0 : Option Addr) (c0 : Nat) (l0 : List (List (S26))) (a1 : Int) (a2 : Int) (A3 : Option Addr) (c3 : Nat) (l3 : List Int) (r1 : List (List Int)) (r2 : List (S26)) (r3 : Int) (r4 : Int) (w : World) (hr0 : Kd.C (Kd.slice 26 k26) w A0 l0.length l0) (hc0 : l0.length ≤ c0) (hr3 : Kd.C (Kd.int .i64) w A3 l3.length l3) (hc3 : l3.length ≤ c3) (h : table_Play.f l0 a1 a2 l3 = some (r1, r2, r3, r4)) (hT_ : Tab w := by first | exact hT_ | exact Tab.drewN hT_ _ | (refine Tab.below hT_ ?_; repeat (first | (with_reducible first | exact HB.out | apply below_alloc | apply pw_below_drewN | apply below_drew1) | exact HB.out))) :
    Calls Tryd.prog 9 #[.slice A0 l0.length c0, .int .i64 a1, .int .i64 a2, .slice A3 l3.length c3] w fun e w' => ∃ v0_ v1_ : Value, e = .returned (.tuple #[v0_, v1_, .int .i64 r3, .int .i64 r4]) ∧ Kd.S (Kd.slice 3 (Kd.int .i64)) 23 w' w.heap.size (fun _ => True) v0_ r1 ∧ Kd.R k26 26 w' w.heap.size (fun _ => True) v1_ r2 ∧ Below w.heap.size w w' :=
  play_table A0 c0 l0 a1 a2 A3 c3 l3 w hT_ hr0 hc0 hr3 hc3 r1 r2 r3 r4 h
end Go.Proofs.YtmgfkdnoclmbgaaDoor.P
