/-
The law's functions HashStripes and HashKnown return true for every argument, and change nothing that was there before; the name's length is an int.
-/
import Derived.Test.YtbfglpmoomabbaaHashA
namespace Go.Proofs.Ytbfglpmoomabbaa
open Go.RowKit
attribute [local go_sem ↓] Go.wp_at_zero Go.wp_at_succ
theorem capS_capS (n : Int) : capS (capS n) = capS n := by
  by_cases h1 : 64 < n
  · rw [show capS n = 64 by unfold capS; rw [if_pos h1]]; decide
  · by_cases h2 : 1 < n
    · have h : capS n = n := by unfold capS; rw [if_neg h1, if_pos h2]
      rw [h, h]
    · rw [show capS n = 1 by unfold capS; rw [if_neg h1, if_neg h2]]; decide
theorem stripe_capS {s : ByteArray} {a b n m : Int} (h : capS n = m) : stripeK s a b m = stripeK s a b n := by subst h; unfold stripeK; rw [capS_capS]
theorem stripe_1 (s : ByteArray) (a b : Int) : stripeK s a b 1 = 0 := by unfold stripeK; rw [show capS 1 = 1 by decide, Int.emod_one]
theorem stripe_lo (s : ByteArray) (a b n : Int) : 0 ≤ stripeK s a b n := Int.emod_nonneg _ (by have := capS_range n; omega)
theorem stripe_hi {s : ByteArray} {a b n m : Int} (h : capS n = m) : stripeK s a b n < m := by subst h; exact Int.emod_lt_of_pos _ (by have := capS_range n; omega)
theorem stripe_m (t : ByteArray) (a b n m : Int) (w : World) (h : capS n = m) (ht : t.size ≤ 140737488355328) :
    Calls Try.prog 16 #[.agg #[.string t, .int .i64 a, .int .i64 b], .int .i64 m] w (StripeK t a b n w) :=
  (stripe_any t a b m w ht).mono fun _ _ hh => ⟨by rw [hh.1, stripe_capS h], hh.2⟩
def Nought (w : World) (e : Ending) (w' : World) : Prop := e = .returned (.int .i64 0) ∧ Below w.heap.size w w'
theorem stripe_n1 (t : ByteArray) (a b : Int) (w : World) (ht : t.size ≤ 140737488355328) :
    Calls Try.prog 16 #[.agg #[.string t, .int .i64 a, .int .i64 b], .int .i64 1] w (Nought w) :=
  (stripe_any t a b 1 w ht).mono fun _ _ hh => ⟨by rw [hh.1, stripe_1], hh.2⟩
set_option maxHeartbeats 2000000 in
theorem hashStripes_any (t : ByteArray) (a b n : Int) (w : World) (ht : t.size ≤ 9223372036854775807) :
    Calls Try.prog 5 #[.agg #[.string t, .int .i64 a, .int .i64 b], .int .i64 n] w (Yes w) := by
  by_cases h2 : 400 < t.size
  · go_enter Try.func5, Try.ntmps5
    go_wp2_with (go_at_call 11; refine (awake_any _).mono ?_; rintro e w1 ⟨rfl, hb⟩)
    go_ret
    exact ⟨rfl, below_next (below_alloc (Below.refl _ _) _) hb⟩
  · have k0 := stripe_lo t a b n
    have k1 : ofK t a b % capS n = stripeK t a b n := rfl
    have k3 := ofK_range t a b
    have q0 : (w.alloc (.cells #[.string t, .int .i64 a, .int .i64 b] 23)).cell? ⟨w.heap.size, 0, none⟩ = some (.string t) := by go_simp
    have q1 : (w.alloc (.cells #[.string t, .int .i64 a, .int .i64 b] 23)).cell? ⟨w.heap.size, 1, none⟩ = some (.int .i64 a) := by go_simp
    have q2 : (w.alloc (.cells #[.string t, .int .i64 a, .int .i64 b] 23)).cell? ⟨w.heap.size, 2, none⟩ = some (.int .i64 b) := by go_simp
    have HB := Lib.hid (below_alloc (Below.refl w.heap.size w) (.cells #[.string t, .int .i64 a, .int .i64 b] 23))
    by_cases h1 : 64 < n
    · have hc : capS n = 64 := by unfold capS; rw [if_pos h1]
      have k2 := stripe_hi (s := t) (a := a) (b := b) hc
      rw [hc] at k1
      have HC := Lib.hid hc
      clear hc
      go_enter Try.func5, Try.ntmps5
      go_wp2_with fail
      refine (stripe_any _ _ _ _ _ (by omega)).mono ?_
      rintro e w1 ⟨rfl, hb⟩
      have q0 := cell_kept hb q0
      have q1 := cell_kept hb q1
      have q2 := cell_kept hb q2
      have HB := Lib.hid (below_next HB.out hb)
      clear hb
      go_wp2_with fail
      refine (stripe_m _ _ _ n _ _ HC.out (by omega)).mono ?_
      rintro e w2 ⟨rfl, hb⟩
      have q0 := cell_kept hb q0
      have q1 := cell_kept hb q1
      have q2 := cell_kept hb q2
      have HB := Lib.hid (below_next HB.out hb)
      clear hb
      go_wp2_with fail
      refine (stripe_n1 _ _ _ _ (by omega)).mono ?_
      rintro e w3 ⟨rfl, hb⟩
      have q0 := cell_kept hb q0
      have q1 := cell_kept hb q1
      have q2 := cell_kept hb q2
      have HB := Lib.hid (below_next HB.out hb)
      clear hb
      go_wp2_with fail
      refine (of_any _ _ _ _ (by omega)).mono ?_
      rintro e w4 ⟨rfl, hb⟩
      have HB := Lib.hid (below_next HB.out hb)
      clear hb
      go_wp2_with fail
      refine (awake_any _).mono ?_
      rintro e w5 ⟨rfl, hb⟩
      have HB := Lib.hid (below_next HB.out hb)
      clear hb
      go_wp2
      go_ret
      exact ⟨rfl, HB.out⟩
    · by_cases h3 : 1 < n
      · have hc : capS n = n := by unfold capS; rw [if_neg h1, if_pos h3]
        have k2 := stripe_hi (s := t) (a := a) (b := b) hc
        rw [hc] at k1
        have HC := Lib.hid hc
        clear hc
        go_enter Try.func5, Try.ntmps5
        go_wp2_with fail
        refine (stripe_any _ _ _ _ _ (by omega)).mono ?_
        rintro e w1 ⟨rfl, hb⟩
        have q0 := cell_kept hb q0
        have q1 := cell_kept hb q1
        have q2 := cell_kept hb q2
        have HB := Lib.hid (below_next HB.out hb)
        clear hb
        go_wp2_with fail
        refine (stripe_m _ _ _ n _ _ HC.out (by omega)).mono ?_
        rintro e w2 ⟨rfl, hb⟩
        have q0 := cell_kept hb q0
        have q1 := cell_kept hb q1
        have q2 := cell_kept hb q2
        have HB := Lib.hid (below_next HB.out hb)
        clear hb
        go_wp2_with fail
        refine (stripe_n1 _ _ _ _ (by omega)).mono ?_
        rintro e w3 ⟨rfl, hb⟩
        have q0 := cell_kept hb q0
        have q1 := cell_kept hb q1
        have q2 := cell_kept hb q2
        have HB := Lib.hid (below_next HB.out hb)
        clear hb
        go_wp2_with fail
        refine (of_any _ _ _ _ (by omega)).mono ?_
        rintro e w4 ⟨rfl, hb⟩
        have HB := Lib.hid (below_next HB.out hb)
        clear hb
        go_wp2_with fail
        refine (awake_any _).mono ?_
        rintro e w5 ⟨rfl, hb⟩
        have HB := Lib.hid (below_next HB.out hb)
        clear hb
        go_wp2
        go_ret
        exact ⟨rfl, HB.out⟩
      · have hc : capS n = 1 := by unfold capS; rw [if_neg h1, if_neg h3]
        have k2 := stripe_hi (s := t) (a := a) (b := b) hc
        rw [hc] at k1
        have HC := Lib.hid hc
        clear hc
        go_enter Try.func5, Try.ntmps5
        go_wp2_with fail
        refine (stripe_any _ _ _ _ _ (by omega)).mono ?_
        rintro e w1 ⟨rfl, hb⟩
        have q0 := cell_kept hb q0
        have q1 := cell_kept hb q1
        have q2 := cell_kept hb q2
        have HB := Lib.hid (below_next HB.out hb)
        clear hb
        go_wp2_with fail
        refine (stripe_m _ _ _ n _ _ HC.out (by omega)).mono ?_
        rintro e w2 ⟨rfl, hb⟩
        have q0 := cell_kept hb q0
        have q1 := cell_kept hb q1
        have q2 := cell_kept hb q2
        have HB := Lib.hid (below_next HB.out hb)
        clear hb
        go_wp2_with fail
        refine (stripe_n1 _ _ _ _ (by omega)).mono ?_
        rintro e w3 ⟨rfl, hb⟩
        have q0 := cell_kept hb q0
        have q1 := cell_kept hb q1
        have q2 := cell_kept hb q2
        have HB := Lib.hid (below_next HB.out hb)
        clear hb
        go_wp2_with fail
        refine (of_any _ _ _ _ (by omega)).mono ?_
        rintro e w4 ⟨rfl, hb⟩
        have HB := Lib.hid (below_next HB.out hb)
        clear hb
        go_wp2_with fail
        refine (awake_any _).mono ?_
        rintro e w5 ⟨rfl, hb⟩
        have HB := Lib.hid (below_next HB.out hb)
        clear hb
        go_wp2
        go_ret
        exact ⟨rfl, HB.out⟩
end Go.Proofs.Ytbfglpmoomabbaa
