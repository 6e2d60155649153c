/-
What a task is, and how it begins, by the program and by the reference; no condition.
-/
import Derived.Test.YtcppmfmlafnmfaaCufT
namespace Go.Proofs.Ytcppmfmlafnmfaa
open Go.RowKit
attribute [local go_sem ↓] Go.wp_at_zero Go.wp_at_succ
set_option maxHeartbeats 4000000 in
theorem begin_any (k x y n : Int) (w : World) : Calls Try.prog 12 #[ov k x y, .int .i64 n] w (BeginP k x y n w) := by
  by_cases h1 : k < 1
  · have q0 : decide (k < 1) = true := by simp [h1]
    have q1 : ¬ 1 ≤ k := by omega
    have HV := Lib.hid (show beginB k x y n = false by simp [beginB, *] <;> omega)
    unfold ov
    go_enter Try.func12, Try.ntmps12
    go_wp2
    go_returns
    refine ⟨by rw [HV.out, begin_no HV.out]; rfl, ?_⟩
    go_grown
  have q0 : decide (k < 1) = false := by simp [h1]
  by_cases h2 : 3 < k
  · have q1 : decide (3 < k) = true := by simp [h2]
    have q2 : ¬ k ≤ 3 := by omega
    have HV := Lib.hid (show beginB k x y n = false by simp [beginB, *] <;> omega)
    unfold ov
    go_enter Try.func12, Try.ntmps12
    go_wp2
    go_returns
    refine ⟨by rw [HV.out, begin_no HV.out]; rfl, ?_⟩
    go_grown
  have q1 : decide (3 < k) = false := by simp [h2]
  have k1 : 1 ≤ k := by omega
  have k3 : k ≤ 3 := by omega
  cases tx : thereB n x
  · have TX := Lib.hid tx
    by_cases x0 : 0 ≤ x
    · have x1 : ¬ x < n := by intro h; simp [thereB, x0, h] at tx
      have HV := Lib.hid (show beginB k x y n = false by simp [beginB, *] <;> omega)
      unfold ov
      go_enter Try.func12, Try.ntmps12
      go_wp2
      go_returns
      refine ⟨by rw [HV.out, begin_no HV.out]; rfl, ?_⟩
      go_grown
    · have x1 : ¬ 0 ≤ x := x0
      have HV := Lib.hid (show beginB k x y n = false by simp [beginB, *] <;> omega)
      unfold ov
      go_enter Try.func12, Try.ntmps12
      go_wp2
      go_returns
      refine ⟨by rw [HV.out, begin_no HV.out]; rfl, ?_⟩
      go_grown
  have TX := Lib.hid tx
  have x0 : 0 ≤ x := by simp [thereB] at tx; omega
  have x1 : x < n := by simp [thereB] at tx; omega
  by_cases h3 : k = 1
  · subst h3
    have q2 : ((1 : Int) != 1) = false := by simp
    have HV := Lib.hid (show beginB 1 x y n = true by simp [beginB, *] <;> omega)
    unfold ov
    go_enter Try.func12, Try.ntmps12
    go_wp2
    go_returns
    refine ⟨by rw [HV.out, begin_yes HV.out]; rfl, ?_⟩
    go_grown
  have q2 : (k != 1) = true := by simp [h3]
  cases ty : thereB n y
  · have TY := Lib.hid ty
    by_cases y0 : 0 ≤ y
    · have y1 : ¬ y < n := by intro h; simp [thereB, y0, h] at ty
      have HV := Lib.hid (show beginB k x y n = false by simp [beginB, *] <;> omega)
      unfold ov
      go_enter Try.func12, Try.ntmps12
      go_wp2
      go_returns
      refine ⟨by rw [HV.out, begin_no HV.out]; rfl, ?_⟩
      go_grown
    · have y1 : ¬ 0 ≤ y := y0
      have HV := Lib.hid (show beginB k x y n = false by simp [beginB, *] <;> omega)
      unfold ov
      go_enter Try.func12, Try.ntmps12
      go_wp2
      go_returns
      refine ⟨by rw [HV.out, begin_no HV.out]; rfl, ?_⟩
      go_grown
  have TY := Lib.hid ty
  have y0 : 0 ≤ y := by simp [thereB] at ty; omega
  have y1 : y < n := by simp [thereB] at ty; omega
  have HV := Lib.hid (show beginB k x y n = true by simp [beginB, *] <;> omega)
  unfold ov
  go_enter Try.func12, Try.ntmps12
  go_wp2
  go_returns
  refine ⟨by rw [HV.out, begin_yes HV.out]; rfl, ?_⟩
  go_grown
set_option maxHeartbeats 4000000 in
theorem rbegin_any (k x y n : Int) (w : World) : Calls Try.prog 16 #[ov k x y, .int .i64 n] w (RBeginP k x y n w) := by
  by_cases h1 : k < 1
  · have q0 : decide (k < 1) = true := by simp [h1]
    have q1 : ¬ 1 ≤ k := by omega
    have HV := Lib.hid (show beginB k x y n = false by simp [beginB, *] <;> omega)
    unfold ov
    go_enter Try.func16, Try.ntmps16
    go_wp2_with (go_at_call 29; (with_reducible refine (there_any _ _ _).mono ?_); rintro e w' ⟨rfl, q', rfl⟩; first | rw [TX.out] | rw [TY.out])
    go_returns
    refine ⟨by rw [HV.out, begin_no HV.out]; rfl, ?_⟩
    go_grown
  have q0 : decide (k < 1) = false := by simp [h1]
  by_cases h2 : 3 < k
  · have q1 : decide (3 < k) = true := by simp [h2]
    have q2 : ¬ k ≤ 3 := by omega
    have HV := Lib.hid (show beginB k x y n = false by simp [beginB, *] <;> omega)
    unfold ov
    go_enter Try.func16, Try.ntmps16
    go_wp2_with (go_at_call 29; (with_reducible refine (there_any _ _ _).mono ?_); rintro e w' ⟨rfl, q', rfl⟩; first | rw [TX.out] | rw [TY.out])
    go_returns
    refine ⟨by rw [HV.out, begin_no HV.out]; rfl, ?_⟩
    go_grown
  have q1 : decide (3 < k) = false := by simp [h2]
  have k1 : 1 ≤ k := by omega
  have k3 : k ≤ 3 := by omega
  cases tx : thereB n x
  · have TX := Lib.hid tx
    by_cases x0 : 0 ≤ x
    · have x1 : ¬ x < n := by intro h; simp [thereB, x0, h] at tx
      have HV := Lib.hid (show beginB k x y n = false by simp [beginB, *] <;> omega)
      unfold ov
      go_enter Try.func16, Try.ntmps16
      go_wp2_with (go_at_call 29; (with_reducible refine (there_any _ _ _).mono ?_); rintro e w' ⟨rfl, q', rfl⟩; first | rw [TX.out] | rw [TY.out])
      go_returns
      refine ⟨by rw [HV.out, begin_no HV.out]; rfl, ?_⟩
      go_grown; refine below_drewN ?_ _; go_grown
    · have x1 : ¬ 0 ≤ x := x0
      have HV := Lib.hid (show beginB k x y n = false by simp [beginB, *] <;> omega)
      unfold ov
      go_enter Try.func16, Try.ntmps16
      go_wp2_with (go_at_call 29; (with_reducible refine (there_any _ _ _).mono ?_); rintro e w' ⟨rfl, q', rfl⟩; first | rw [TX.out] | rw [TY.out])
      go_returns
      refine ⟨by rw [HV.out, begin_no HV.out]; rfl, ?_⟩
      go_grown; refine below_drewN ?_ _; go_grown
  have TX := Lib.hid tx
  have x0 : 0 ≤ x := by simp [thereB] at tx; omega
  have x1 : x < n := by simp [thereB] at tx; omega
  by_cases h3 : k = 1
  · subst h3
    have q2 : ((1 : Int) != 1) = false := by simp
    have HV := Lib.hid (show beginB 1 x y n = true by simp [beginB, *] <;> omega)
    unfold ov
    go_enter Try.func16, Try.ntmps16
    go_wp2_with (go_at_call 29; (with_reducible refine (there_any _ _ _).mono ?_); rintro e w' ⟨rfl, q', rfl⟩; first | rw [TX.out] | rw [TY.out])
    go_returns
    refine ⟨by rw [HV.out, begin_yes HV.out]; rfl, ?_⟩
    go_grown; refine below_drewN ?_ _; go_grown
  have q2 : (k != 1) = true := by simp [h3]
  cases ty : thereB n y
  · have TY := Lib.hid ty
    by_cases y0 : 0 ≤ y
    · have y1 : ¬ y < n := by intro h; simp [thereB, y0, h] at ty
      have HV := Lib.hid (show beginB k x y n = false by simp [beginB, *] <;> omega)
      unfold ov
      go_enter Try.func16, Try.ntmps16
      go_wp2_with (go_at_call 29; (with_reducible refine (there_any _ _ _).mono ?_); rintro e w' ⟨rfl, q', rfl⟩; first | rw [TX.out] | rw [TY.out])
      go_returns
      refine ⟨by rw [HV.out, begin_no HV.out]; rfl, ?_⟩
      go_grown; refine below_drewN ?_ _; go_grown
    · have y1 : ¬ 0 ≤ y := y0
      have HV := Lib.hid (show beginB k x y n = false by simp [beginB, *] <;> omega)
      unfold ov
      go_enter Try.func16, Try.ntmps16
      go_wp2_with (go_at_call 29; (with_reducible refine (there_any _ _ _).mono ?_); rintro e w' ⟨rfl, q', rfl⟩; first | rw [TX.out] | rw [TY.out])
      go_returns
      refine ⟨by rw [HV.out, begin_no HV.out]; rfl, ?_⟩
      go_grown; refine below_drewN ?_ _; go_grown
  have TY := Lib.hid ty
  have y0 : 0 ≤ y := by simp [thereB] at ty; omega
  have y1 : y < n := by simp [thereB] at ty; omega
  have HV := Lib.hid (show beginB k x y n = true by simp [beginB, *] <;> omega)
  unfold ov
  go_enter Try.func16, Try.ntmps16
  go_wp2_with (go_at_call 29; (with_reducible refine (there_any _ _ _).mono ?_); rintro e w' ⟨rfl, q', rfl⟩; first | rw [TX.out] | rw [TY.out])
  go_returns
  refine ⟨by rw [HV.out, begin_yes HV.out]; rfl, ?_⟩
  go_grown; refine below_drewN ?_ _; go_grown
end Go.Proofs.Ytcppmfmlafnmfaa
