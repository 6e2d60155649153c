/-
Whether elements are there, by the program and by the reference; no condition.
-/
import Derived.Test.YtffhaeefldbahaaPartA
namespace Go.Proofs.Ytffhaeefldbahaa
open Go.RowKit
attribute [local go_sem ↓] Go.wp_at_zero Go.wp_at_succ
def thereB (n : Nat) (x y : Int) : Bool := decide (0 ≤ x ∧ 0 ≤ y ∧ x < n ∧ y < n)
set_option maxHeartbeats 2000000 in
theorem rthere_any (n x : Int) (w : World) : Calls Try.prog 27 #[.int .i64 n, .int .i64 x] w fun e w' => e = .returned (.bool (decide (0 ≤ x ∧ x < n))) ∧ w = w' := by
  by_cases h0 : 0 ≤ x <;> by_cases h1 : x < n <;>
  (go_enter Try.func27, Try.ntmps27
   go_wp2
   go_ret
   exact ⟨ret_bool (by first | (rw [decide_eq_decide]; omega) | (symm; rw [decide_eq_false_iff_not]; omega) | (symm; rw [decide_eq_true_iff]; omega) | (simp; omega)), rfl⟩)
set_option maxHeartbeats 2000000 in
theorem there_any (A : Option Addr) (n c : Nat) (x y : Int) (w : World) : Calls Try.prog 26 #[.slice A n c, .agg #[.int .i64 x, .int .i64 y]] w fun e w' => e = .returned (.bool (thereB n x y)) ∧ Below w.heap.size w w' := by
  have c0 : (w.alloc (.cells #[.int .i64 x, .int .i64 y] 45)).cell? ⟨w.heap.size, 0, none⟩ = some (.int .i64 x) := by go_simp
  have c1 : (w.alloc (.cells #[.int .i64 x, .int .i64 y] 45)).cell? ⟨w.heap.size, 1, none⟩ = some (.int .i64 y) := by go_simp
  have HB := Lib.hid (below_alloc (Below.refl w.heap.size w) (.cells #[.int .i64 x, .int .i64 y] 45))
  go_enter Try.func26, Try.ntmps26
  go_wp2
  all_goals (go_ret; exact ⟨ret_bool (by unfold thereB; first | (rw [decide_eq_decide]; omega) | (symm; rw [decide_eq_false_iff_not]; omega) | (symm; rw [decide_eq_true_iff]; omega)), HB.out⟩)
end Go.Proofs.Ytffhaeefldbahaa
