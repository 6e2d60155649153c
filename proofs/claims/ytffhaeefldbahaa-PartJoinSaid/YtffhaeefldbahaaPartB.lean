/-
How many classes a list has, by the program and by the reference; no condition beside the list's length.
-/
import Derived.Test.YtffhaeefldbahaaPartA
namespace Go.Proofs.Ytffhaeefldbahaa
open Go.RowKit
attribute [local go_sem ↓] Go.wp_at_zero Go.wp_at_succ
set_option maxHeartbeats 2000000 in
theorem classes_any (A : Option Addr) (c : Nat) (l : List Int) (w : World) (hr : RowI w A l) : Calls Try.prog 15 #[.slice A l.length c] w (PureP (.int .i64 (cls l l.length)) w) := by
  have HL := Lib.hid hr.2.1
  have HR := Lib.hid hr
  have hl := HL.out
  clear hr
  go_enter Try.func15, Try.ntmps15
  go_wp2
  go_loopw [3, 4, 5, 8] (fun n _ _ v wr => ∃ (k q : Nat), k ≤ l.length ∧ n = .int .i64 (cls l k) ∧ v = .int .i64 k ∧ wr = w.drewN q) (fun n _ _ v _ => l.length - (intOf v).toNat)
  case atStart => exact ⟨0, 0, by omega, rfl, rfl, rfl⟩
  case round =>
    obtain ⟨k, q, hk, rfl, rfl, rfl⟩ := hrel
    by_cases hlt : k < l.length
    · obtain ⟨ad, rfl, hc⟩ := RowI.at_nat HR.out k hlt
      obtain ⟨x, hx⟩ : ∃ x, x = l.getD k 0 := ⟨_, rfl⟩
      rw [← hx] at hc
      have p1 : (0 : Int) ≤ (k : Int) := by omega
      have p2 : (k : Int) < (l.length : Int) := by omega
      have hcl := cls_le l k
      have hw : IntKind.i64.wrap ((cls l k : Int) + 1) = (cls l k : Int) + 1 := IntWalk.i64_in _ (by omega)
      by_cases hxk : x = (k : Int)
      · have HS := Lib.hid (show (cls l (k + 1) : Int) = (cls l k : Int) + 1 by rw [cls, if_pos (by rw [← hx]; exact hxk)]; omega)
        have q0 : (x == (k : Int)) = true := by simp [hxk]
        clear hx hxk
        go_wp2
        go_roundw
        case rel => exact ⟨k + 1, _, by omega, (by first | exact val_i64 HS.out.symm | (rw [HS.out])), by go_num, by first | rfl | exact World.drewN_drewN ..⟩
        case measure => simp [intOf]; omega
      · have HS := Lib.hid (show (cls l (k + 1) : Int) = (cls l k : Int) by rw [cls, if_neg (by rw [← hx]; exact hxk)]; omega)
        have q0 : (x == (k : Int)) = false := by simp [hxk]
        clear hx hxk
        go_wp2
        go_roundw
        case rel => exact ⟨k + 1, _, by omega, (by first | exact val_i64 HS.out.symm | (rw [HS.out])), by go_num, by first | rfl | exact World.drewN_drewN ..⟩
        case measure => simp [intOf]; omega
    · have HK := Lib.hid (show k = l.length by omega)
      go_wp2
      go_ret
      exact ⟨ret_i64 (by rw [HK.out]), _, rfl⟩
set_option maxHeartbeats 2000000 in
theorem rclasses_any (A : Option Addr) (c : Nat) (l : List Int) (w : World) (hr : RowI w A l) : Calls Try.prog 23 #[.slice A l.length c] w (PureP (.int .i64 (cls l l.length)) w) := by
  have HL := Lib.hid hr.2.1
  have HR := Lib.hid hr
  have hl := HL.out
  clear hr
  go_enter Try.func23, Try.ntmps23
  go_wp2
  go_loopw [3, 4] (fun n v wr => ∃ (k q : Nat), k ≤ l.length ∧ n = .int .i64 (cls l k) ∧ v = .int .i64 k ∧ wr = w.drewN q) (fun n v _ => l.length - (intOf v).toNat)
  case atStart => exact ⟨0, 0, by omega, rfl, rfl, rfl⟩
  case round =>
    obtain ⟨k, q, hk, rfl, rfl, rfl⟩ := hrel
    by_cases hlt : k < l.length
    · obtain ⟨ad, rfl, hc⟩ := RowI.at_nat HR.out k hlt
      obtain ⟨x, hx⟩ : ∃ x, x = l.getD k 0 := ⟨_, rfl⟩
      rw [← hx] at hc
      have p1 : (0 : Int) ≤ (k : Int) := by omega
      have p2 : (k : Int) < (l.length : Int) := by omega
      have hcl := cls_le l k
      have hw : IntKind.i64.wrap ((cls l k : Int) + 1) = (cls l k : Int) + 1 := IntWalk.i64_in _ (by omega)
      by_cases hxk : x = (k : Int)
      · have HS := Lib.hid (show (cls l (k + 1) : Int) = (cls l k : Int) + 1 by rw [cls, if_pos (by rw [← hx]; exact hxk)]; omega)
        have q0 : (x == (k : Int)) = true := by simp [hxk]
        clear hx hxk
        go_wp2
        go_roundw
        case rel => exact ⟨k + 1, _, by omega, (by first | exact val_i64 HS.out.symm | (rw [HS.out])), by go_num, by first | rfl | exact World.drewN_drewN ..⟩
        case measure => simp [intOf]; omega
      · have HS := Lib.hid (show (cls l (k + 1) : Int) = (cls l k : Int) by rw [cls, if_neg (by rw [← hx]; exact hxk)]; omega)
        have q0 : (x == (k : Int)) = false := by simp [hxk]
        clear hx hxk
        go_wp2
        go_roundw
        case rel => exact ⟨k + 1, _, by omega, (by first | exact val_i64 HS.out.symm | (rw [HS.out])), by go_num, by first | rfl | exact World.drewN_drewN ..⟩
        case measure => simp [intOf]; omega
    · have HK := Lib.hid (show k = l.length by omega)
      go_wp2
      go_ret
      exact ⟨ret_i64 (by rw [HK.out]), _, rfl⟩
end Go.Proofs.Ytffhaeefldbahaa
