/-
Whether one list's classes are within another one's, by the program and by the reference, where the first one's elements are there.
-/
import Derived.Test.YtffhaeefldbahaaPartA
namespace Go.Proofs.Ytffhaeefldbahaa
open Go.RowKit
attribute [local go_sem ↓] Go.wp_at_zero Go.wp_at_succ
set_option maxHeartbeats 2000000 in
theorem le_any (A B : Option Addr) (c d : Nat) (l m : List Int) (w : World) (hr : RowI w A l) (hs : RowI w B m) (hin : ∀ i, i < l.length → 0 ≤ l.getD i 0 ∧ l.getD i 0 < l.length) :
    Calls Try.prog 16 #[.slice A l.length c, .slice B m.length d] w (PureP (.bool (leB l m)) w) := by
  have hl := hr.2.1
  have hm := hs.2.1
  have HR := Lib.hid hr
  have HS := Lib.hid hs
  have HI := Lib.hid hin
  clear hr hs hin
  by_cases hlm : l.length = m.length
  · have HE := Lib.hid hlm
    have t0 : ((l.length : Int) != (m.length : Int)) = false := by simp; omega
    have hlm : (l.length : Int) ≤ (m.length : Int) := by omega
    go_enter Try.func16, Try.ntmps16
    go_wp2
    go_loopw [5, 6, 14] (fun _ _ v wr => ∃ (k q : Nat), k ≤ l.length ∧ v = .int .i64 k ∧ wr = w.drewN q ∧ ∀ j, j < k → m.getD j 0 = m.getD (l.getD j 0).toNat 0) (fun _ _ v _ => l.length - (intOf v).toNat)
    case atStart => exact ⟨0, 0, by omega, rfl, rfl, fun j hj => absurd hj (by omega)⟩
    case round =>
      obtain ⟨k, q, hk, rfl, rfl, hall⟩ := hrel
      have HA := Lib.hid hall
      clear hall
      by_cases hlt : k < l.length
      · obtain ⟨ad, rfl, hc⟩ := RowI.at_nat HR.out k hlt
        have hx := HI.out k hlt
        obtain ⟨x, hX⟩ : ∃ x, x = l.getD k 0 := ⟨_, rfl⟩
        rw [← hX] at hc hx
        obtain ⟨bd, rfl, hd⟩ := RowI.at_nat HS.out k (by omega)
        obtain ⟨bd', e, hd'⟩ := RowI.at_int HS.out x hx.1 (by omega)
        obtain rfl : bd = bd' := by injection e
        obtain ⟨y, hY⟩ : ∃ y, y = m.getD k 0 := ⟨_, rfl⟩
        obtain ⟨z, hZ⟩ : ∃ z, z = m.getD x.toNat 0 := ⟨_, rfl⟩
        rw [← hY] at hd
        rw [← hZ] at hd'
        have p1 : (0 : Int) ≤ (k : Int) := by omega
        have p2 : (k : Int) < (l.length : Int) := by omega
        have p2' : (k : Int) < (m.length : Int) := by omega
        have p3 := hx.1
        have p4 : x < (m.length : Int) := by omega
        have HZ := Lib.hid (show (y = z) = (m.getD k 0 = m.getD (l.getD k 0).toNat 0) by rw [hY, hZ, hX])
        clear hX hY hZ e hx
        by_cases hyz : y = z
        · have q0 : (y != z) = false := by simp [hyz]
          have HE2 := Lib.hid hyz
          clear hyz
          go_wp2
          go_quiet (fail)
          go_wp2
          go_roundw
          case rel => exact ⟨k + 1, _, by omega, by go_num, (by first | rfl | exact World.drewN_drewN ..), fun j hj => by
            rcases Nat.lt_or_ge j k with h | h
            · exact HA.out j h
            · obtain rfl : j = k := by omega
              rw [← HZ.out]
              exact HE2.out⟩
          case measure => simp [intOf]; omega
        · have q0 : (y != z) = true := by simp [hyz]
          have HE2 := Lib.hid (show leB l m = false by
            unfold leB
            rw [decide_eq_false_iff_not]
            intro h
            have := h.2 k hlt
            rw [← HZ.out] at this
            exact hyz this)
          clear hyz
          go_wp2
          go_quiet (fail)
          go_wp2
          go_ret
          exact ⟨ret_bool HE2.out.symm, _, by first | rfl | exact World.drewN_drewN ..⟩
      · have HE2 := Lib.hid (show leB l m = true by
          unfold leB
          rw [decide_eq_true_iff]
          exact ⟨HE.out, fun i hi => HA.out i (by omega)⟩)
        go_wp2
        go_ret
        exact ⟨ret_bool HE2.out.symm, _, rfl⟩
  · have t0 : ((l.length : Int) != (m.length : Int)) = true := by simp; omega
    have HE2 := Lib.hid (show leB l m = false by unfold leB; rw [decide_eq_false_iff_not]; exact fun h => hlm h.1)
    clear hlm
    go_enter Try.func16, Try.ntmps16
    go_wp2
    go_ret
    exact ⟨ret_bool HE2.out.symm, 0, rfl⟩
set_option maxHeartbeats 2000000 in
theorem rle_any (A B : Option Addr) (c d : Nat) (l m : List Int) (w : World) (hr : RowI w A l) (hs : RowI w B m) (hin : ∀ i, i < l.length → 0 ≤ l.getD i 0 ∧ l.getD i 0 < l.length) :
    Calls Try.prog 24 #[.slice A l.length c, .slice B m.length d] w (PureP (.bool (leB l m)) w) := by
  have hl := hr.2.1
  have hm := hs.2.1
  have HR := Lib.hid hr
  have HS := Lib.hid hs
  have HI := Lib.hid hin
  clear hr hs hin
  by_cases hlm : l.length = m.length
  · have HE := Lib.hid hlm
    have t0 : ((l.length : Int) != (m.length : Int)) = false := by simp; omega
    have hlm : (l.length : Int) ≤ (m.length : Int) := by omega
    go_enter Try.func24, Try.ntmps24
    go_wp2
    go_loopw [5] (fun v wr => ∃ (k q : Nat), k ≤ l.length ∧ v = .int .i64 k ∧ wr = w.drewN q ∧ ∀ j, j < k → m.getD j 0 = m.getD (l.getD j 0).toNat 0) (fun v _ => l.length - (intOf v).toNat)
    case atStart => exact ⟨0, 0, by omega, rfl, rfl, fun j hj => absurd hj (by omega)⟩
    case round =>
      obtain ⟨k, q, hk, rfl, rfl, hall⟩ := hrel
      have HA := Lib.hid hall
      clear hall
      by_cases hlt : k < l.length
      · obtain ⟨ad, rfl, hc⟩ := RowI.at_nat HR.out k hlt
        have hx := HI.out k hlt
        obtain ⟨x, hX⟩ : ∃ x, x = l.getD k 0 := ⟨_, rfl⟩
        rw [← hX] at hc hx
        obtain ⟨bd, rfl, hd⟩ := RowI.at_nat HS.out k (by omega)
        obtain ⟨bd', e, hd'⟩ := RowI.at_int HS.out x hx.1 (by omega)
        obtain rfl : bd = bd' := by injection e
        obtain ⟨y, hY⟩ : ∃ y, y = m.getD k 0 := ⟨_, rfl⟩
        obtain ⟨z, hZ⟩ : ∃ z, z = m.getD x.toNat 0 := ⟨_, rfl⟩
        rw [← hY] at hd
        rw [← hZ] at hd'
        have p1 : (0 : Int) ≤ (k : Int) := by omega
        have p2 : (k : Int) < (l.length : Int) := by omega
        have p2' : (k : Int) < (m.length : Int) := by omega
        have p3 := hx.1
        have p4 : x < (m.length : Int) := by omega
        have HZ := Lib.hid (show (y = z) = (m.getD k 0 = m.getD (l.getD k 0).toNat 0) by rw [hY, hZ, hX])
        clear hX hY hZ e hx
        by_cases hyz : y = z
        · have q0 : (y != z) = false := by simp [hyz]
          have HE2 := Lib.hid hyz
          clear hyz
          go_wp2
          go_quiet (fail)
          go_wp2
          go_roundw
          case rel => exact ⟨k + 1, _, by omega, by go_num, (by first | rfl | exact World.drewN_drewN ..), fun j hj => by
            rcases Nat.lt_or_ge j k with h | h
            · exact HA.out j h
            · obtain rfl : j = k := by omega
              rw [← HZ.out]
              exact HE2.out⟩
          case measure => simp [intOf]; omega
        · have q0 : (y != z) = true := by simp [hyz]
          have HE2 := Lib.hid (show leB l m = false by
            unfold leB
            rw [decide_eq_false_iff_not]
            intro h
            have := h.2 k hlt
            rw [← HZ.out] at this
            exact hyz this)
          clear hyz
          go_wp2
          go_quiet (fail)
          go_wp2
          go_ret
          exact ⟨ret_bool HE2.out.symm, _, by first | rfl | exact World.drewN_drewN ..⟩
      · have HE2 := Lib.hid (show leB l m = true by
          unfold leB
          rw [decide_eq_true_iff]
          exact ⟨HE.out, fun i hi => HA.out i (by omega)⟩)
        go_wp2
        go_ret
        exact ⟨ret_bool HE2.out.symm, _, rfl⟩
  · have t0 : ((l.length : Int) != (m.length : Int)) = true := by simp; omega
    have HE2 := Lib.hid (show leB l m = false by unfold leB; rw [decide_eq_false_iff_not]; exact fun h => hlm h.1)
    clear hlm
    go_enter Try.func24, Try.ntmps24
    go_wp2
    go_ret
    exact ⟨ret_bool HE2.out.symm, 0, rfl⟩
end Go.Proofs.Ytffhaeefldbahaa
