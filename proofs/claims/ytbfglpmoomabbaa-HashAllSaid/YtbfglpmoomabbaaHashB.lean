/-
The law's function HashAll returns true for every text, key and number of stripes, and changes nothing that was there before; the texts' lengths are ints.
-/
import Derived.Test.YtbfglpmoomabbaaHashA
namespace Go.Proofs.Ytbfglpmoomabbaa
open Go.RowKit
attribute [local go_sem ↓] Go.wp_at_zero Go.wp_at_succ
theorem le_max {n : Nat} (h : n ≤ 140737488355328) : n ≤ maxLen := by unfold maxLen; omega
set_option maxHeartbeats 2000000 in
theorem hashAll_any (s t : ByteArray) (a b n : Int) (w : World) (hs : s.size ≤ 9223372036854775807) (ht : t.size ≤ 9223372036854775807) :
    Calls Try.prog 3 #[.string s, .agg #[.string t, .int .i64 a, .int .i64 b], .int .i64 n] w (Yes w) := by
  by_cases h1 : 400 < s.size
  · go_enter Try.func3, Try.ntmps3
    go_wp2_with (go_at_call 11; refine (awake_any _).mono ?_; rintro e w1 ⟨rfl, hb⟩)
    go_ret
    exact ⟨rfl, below_next (below_alloc (Below.refl _ _) _) hb⟩
  · by_cases h2 : 400 < t.size
    · go_enter Try.func3, Try.ntmps3
      go_wp2_with (go_at_call 11; refine (awake_any _).mono ?_; rintro e w1 ⟨rfl, hb⟩)
      go_ret
      exact ⟨rfl, below_next (below_alloc (Below.refl _ _) _) hb⟩
    · go_enter Try.func3, Try.ntmps3
      go_wp2
      go_region_held3 (fun w' => w'.cell? ⟨w.heap.size, 0, none⟩ = some (.string t) ∧ w'.cell? ⟨w.heap.size, 1, none⟩ = some (.int .i64 a) ∧ w'.cell? ⟨w.heap.size, 2, none⟩ = some (.int .i64 b) ∧ Below w.heap.size w w') 
        (first | (go_split_ands; refine ⟨cell_kept hb (by assumption), cell_kept hb (by assumption), cell_kept hb (by assumption), below_next (by assumption) hb⟩) | (refine ⟨by go_simp, by go_simp, by go_simp, below_drewN (below_alloc (Below.refl _ _) _) 1⟩) | go_keep)
        (first
          | (go_at_call 12; refine (sum_any _ _ (by unfold maxLen; omega)).mono ?_; rintro e w' ⟨rfl, rfl⟩)
          | (go_at_call 13; refine (rsum_any _ _ (by unfold maxLen; omega)).mono ?_; rintro e w' ⟨rfl, rfl⟩)
          | (go_at_call 14; refine (of_any _ _ _ _ (by omega)).mono ?_; rintro e w' ⟨rfl, hb⟩)
          | (go_at_call 15; refine (rof_any _ _ _ _ (by omega)).mono ?_; rintro e w' ⟨rfl, hb⟩)
          | (go_at_call 16; refine (stripe_any _ _ _ _ _ (by omega)).mono ?_; rintro e w' ⟨rfl, hb⟩)
          | (go_at_call 17; refine (rstripe_any _ _ _ _ _ (by omega)).mono ?_; rintro e w' ⟨rfl, hb⟩)
          | (go_at_call 11; refine (awake_any _).mono ?_; rintro e w' ⟨rfl, hb⟩))
      go_wp2
      go_ret
      exact ⟨rfl, by go_split_ands; assumption⟩
end Go.Proofs.Ytbfglpmoomabbaa
