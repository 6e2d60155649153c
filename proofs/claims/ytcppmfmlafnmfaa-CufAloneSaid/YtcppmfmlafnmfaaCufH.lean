/-
The document's example of layer 4, walked: it is true. No condition.
-/
import Derived.Test.YtcppmfmlafnmfaaCufG
import Derived.Test.YtcppmfmlafnmfaaCufD
namespace Go.Proofs.Ytcppmfmlafnmfaa
open Go.RowKit
attribute [local go_sem ↓] Go.wp_at_zero Go.wp_at_succ
def BoolP (b : Bool) (w : World) (e : Ending) (w' : World) : Prop := e = .returned (.bool b) ∧ Below w.heap.size w w'
theorem one_row (x : Int) (w : World) : RowI (w.alloc (.cells #[.int .i64 x] 3)) (some ⟨w.heap.size, 0, none⟩) [x] :=
  ⟨rfl, by simp, fun _ => ⟨_, rfl, fun j hj => by
    rw [add_plain]
    have : j = 0 := by simp at hj; omega
    subst this
    simp [World.cell?_alloc_at, ints]⟩⟩
theorem fit_awake : Fit 1 ⟨1, 0, 0, 1, 0, 0, 0, 0, false, 0⟩ := by
  constructor <;> simp [In]
theorem step_awake (A B : Option Addr) (w : World) (h1 : RowI w A [0]) (h2 : RowI w B [0]) : Calls Try.prog 13 #[.slice A 1 1, .slice B 1 1, .agg #[.int .i64 1, .int .i64 0, .int .i64 0, .int .i64 1, .int .i64 0, .int .i64 0, .int .i64 0, .int .i64 0, .bool false, .int .i64 0]] w fun e w' => ∃ C d, e = .returned (.tuple #[.slice C 1 d, .agg #[.int .i64 1, .int .i64 0, .int .i64 0, .int .i64 1, .int .i64 0, .int .i64 0, .int .i64 0, .int .i64 0, .bool true, .int .i64 0]]) ∧ Below w.heap.size w w' := by
  have h := step_any A B 1 1 [0] [0] ⟨1, 0, 0, 1, 0, 0, 0, 0, false, 0⟩ w h1 h2 rfl (by simp) (by simp) fit_awake
  refine h.mono ?_
  rintro e w' ⟨C, d, he, _, _, hb⟩
  exact ⟨C, d, he, hb⟩
theorem begin_awake (w : World) : Calls Try.prog 12 #[.agg #[.int .i64 1, .int .i64 0, .int .i64 0], .int .i64 1] w fun e w' => e = .returned (.tuple #[.agg #[.int .i64 1, .int .i64 0, .int .i64 0, .int .i64 1, .int .i64 0, .int .i64 0, .int .i64 0, .int .i64 0, .bool false, .int .i64 0], .bool true]) ∧ Below w.heap.size w w' :=
  (begin_any 1 0 0 1 w).mono fun _ _ h => h
set_option maxHeartbeats 2000000 in
theorem awake_any (w : World) : Calls Try.prog 8 #[] w (BoolP true w) := by
  go_enter Try.func8, Try.ntmps8
  go_wp2_with fail
  refine (begin_awake w).mono ?_
  rintro e w1 ⟨rfl, hb⟩
  have HB := Lib.hid hb
  clear hb
  go_wp2_with fail
  obtain ⟨W1, hW⟩ : ∃ W1, W1 = w1.alloc (.cells #[.int .i64 1, .int .i64 0, .int .i64 0, .int .i64 1, .int .i64 0, .int .i64 0, .int .i64 0, .int .i64 0, .bool false, .int .i64 0] 31) := ⟨_, rfl⟩
  have hz : W1.heap.size = w1.heap.size + 1 := by rw [hW]; simp
  have HB := Lib.hid (show Below w.heap.size w W1 by rw [hW]; exact HB.out.alloc HB.out.size _)
  rw [← hW, ← hz]
  clear hW hz
  have r1 := (one_row 0 W1).kept (below_alloc (Below.refl _ _) (.cells #[.int .i64 0] 3))
  have r2 := one_row 0 (W1.alloc (.cells #[.int .i64 0] 3))
  rw [show (W1.alloc (.cells #[.int .i64 0] 3)).heap.size = W1.heap.size + 1 by simp] at r2
  refine (step_awake _ _ _ r1 r2).mono ?_
  clear r1 r2
  rintro e w2 ⟨C, d, rfl, hb⟩
  have HB := Lib.hid (below_next ((HB.out.alloc HB.out.size _).alloc (HB.out.alloc HB.out.size _).size _) hb ((HB.out.alloc HB.out.size _).alloc (HB.out.alloc HB.out.size _).size _).size)
  clear hb
  go_wp2
  go_ret
  exact ⟨rfl, HB.out.alloc HB.out.size _⟩
end Go.Proofs.Ytcppmfmlafnmfaa
