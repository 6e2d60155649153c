/-
The root above an element, by the program and by the reference: it is where the way up ends; for the reference's way the cells may be.
-/
import Derived.Test.YtcppmfmlafnmfaaCufB
namespace Go.Proofs.Ytcppmfmlafnmfaa
open Go.RowKit
attribute [local go_sem ↓] Go.wp_at_zero Go.wp_at_succ
set_option maxHeartbeats 2000000 in
theorem root_any (A : Option Addr) (c : Nat) (up : List Int) (x : Int) (w : World) (hr : RowI w A up) : Calls Try.prog 20 #[.slice A up.length c, .int .i64 x] w (PureP (.int .i64 (rootL up x)) w) := by
  have hlen := hr.2.1
  by_cases h0 : x < 0
  · have HV := Lib.hid (show rootL up x = -1 by unfold rootL; rw [if_neg (by simp [thereB]; omega)])
    clear hr
    go_enter Try.func20, Try.ntmps20
    go_wp2
    go_ret
    exact ⟨ret_i64 HV.out.symm, 0, rfl⟩
  · by_cases h1 : (up.length : Int) ≤ x
    · have HV := Lib.hid (show rootL up x = -1 by unfold rootL; rw [if_neg (by simp [thereB]; omega)])
      clear hr
      go_enter Try.func20, Try.ntmps20
      go_wp2
      go_ret
      exact ⟨ret_i64 HV.out.symm, 0, rfl⟩
    · obtain ⟨x, rfl⟩ := Int.eq_ofNat_of_zero_le (show 0 ≤ x by omega)
      have HR := Lib.hid hr
      have HX := Lib.hid (show x < up.length by omega)
      have h2 : (x : Int) < (up.length : Int) := by omega
      clear hr h0 h1
      go_enter Try.func20, Try.ntmps20
      go_wp2
      go_loopw [1, 5, 16] (fun u _ v wr => ∃ (k q cu : Nat), k ≤ up.length ∧ v = .int .i64 (k : Int) ∧ u = .int .i64 (cu : Int) ∧ wr = w.drewN q ∧ cu < up.length ∧ climb up (up.length - k) cu = rootN up x) (fun _ _ v _ => up.length - (intOf v).toNat)
      case atStart => exact ⟨0, 0, x, by omega, rfl, rfl, rfl, HX.out, rfl⟩
      case round =>
        obtain ⟨k, q, cu, hk, rfl, rfl, rfl, hcu, hcl⟩ := hrel
        have HC := Lib.hid hcl
        have HU := Lib.hid hcu
        clear hcl
        by_cases hlt : k < up.length
        · obtain ⟨ad, rfl, hc⟩ := RowI.at_nat HR.out cu hcu
          have HS := Lib.hid (show climb up (up.length - (k + 1)) (stepUp up cu) = rootN up x by rw [← HC.out, show up.length - k = (up.length - (k + 1)) + 1 by omega]; rfl)
          have HL := Lib.hid (stepUp_lt hcu)
          obtain ⟨y, hy⟩ : ∃ y, y = up.getD cu 0 := ⟨_, rfl⟩
          unfold stepUp at HS HL
          rw [← hy] at hc HS HL
          clear hy
          have p1 : (0 : Int) ≤ (cu : Int) := by omega
          have p2 : (cu : Int) < (up.length : Int) := by omega
          have p3 : (k : Int) < (up.length : Int) := by omega
          by_cases h1 : y = (cu : Int)
          · have t0 : (y != (cu : Int)) = false := by simp [h1]
            rw [if_neg (by omega)] at HS HL
            clear h1
            go_wp2
            go_roundw
            case rel => exact ⟨k + 1, _, cu, by omega, by go_num, rfl, rfl, HU.out, HS.out⟩
            case measure => simp [intOf]; omega
          · have t0 : (y != (cu : Int)) = true := by simp [h1]
            by_cases h3 : 0 ≤ y
            · have t1 : decide (0 ≤ y) = true := by simp [h3]
              by_cases h4 : y < (up.length : Int)
              · have t2 : decide (y < (up.length : Int)) = true := by simp [h4]
                rw [if_pos ⟨h1, h3, h4⟩] at HS HL
                obtain ⟨y, rfl⟩ := Int.eq_ofNat_of_zero_le h3
                simp only [Int.toNat_natCast] at HS HL
                go_wp2
                go_roundw
                case rel => exact ⟨k + 1, _, y, by omega, by go_num, rfl, rfl, HL.out, HS.out⟩
                case measure => simp [intOf]; omega
              · have t2 : decide (y < (up.length : Int)) = false := by simp; omega
                rw [if_neg (by omega)] at HS HL
                go_wp2
                go_roundw
                case rel => exact ⟨k + 1, _, cu, by omega, by go_num, rfl, rfl, HU.out, HS.out⟩
                case measure => simp [intOf]; omega
            · have t1 : decide (0 ≤ y) = false := by simp; omega
              rw [if_neg (by omega)] at HS HL
              go_wp2
              go_roundw
              case rel => exact ⟨k + 1, _, cu, by omega, by go_num, rfl, rfl, HU.out, HS.out⟩
              case measure => simp [intOf]; omega
        · obtain rfl : k = up.length := by omega
          have HV := Lib.hid (show rootL up x = (cu : Int) by rw [rootL_nat _ _ HX.out, ← HC.out]; simp [climb])
          go_wp2
          go_ret
          exact ⟨ret_i64 HV.out.symm, _, rfl⟩
set_option maxHeartbeats 2000000 in
theorem rroot_any (A : Option Addr) (c : Nat) (up p : List Int) (x : Int) (w : World) (hr : RowI w A up) (ho : Ok up p) : Calls Try.prog 15 #[.slice A up.length c, .int .i64 x] w (PureP (.int .i64 (rootL up x)) w) := by
  by_cases hb : thereB up.length x = true
  · have hb2 := hb
    simp only [thereB, Bool.and_eq_true, decide_eq_true_eq] at hb2
    obtain ⟨x, rfl⟩ := Int.eq_ofNat_of_zero_le hb2.1
    have HT := Lib.hid hb
    have HO := Lib.hid ho
    have HR := Lib.hid hr
    have HX := Lib.hid (show x < up.length by omega)
    clear hb hb2 ho hr
    go_enter Try.func15, Try.ntmps15
    go_wp2_with (go_at_call 29; (with_reducible refine (there_any _ _ _).mono ?_); rintro e w1 ⟨rfl, q1, rfl⟩; rw [HT.out])
    go_loopw [1] (fun u wr => ∃ (q cu : Nat), u = .int .i64 (cu : Int) ∧ wr = w.drewN q ∧ cu < up.length ∧ rootN up cu = rootN up x) (fun u _ => above p up.length (intOf u).toNat)
    case atStart => exact ⟨q1, x, rfl, rfl, HX.out, rfl⟩
    case round =>
      obtain ⟨q, cu, rfl, rfl, hcu, hcl⟩ := hrel
      have HC := Lib.hid hcl
      have HU := Lib.hid hcu
      clear hcl
      obtain ⟨ad, rfl, hc⟩ := RowI.at_nat HR.out cu hcu
      have hs := HO.out.step hcu
      rw [hs.1] at hc
      have p1 : (0 : Int) ≤ (cu : Int) := by omega
      have p2 : (cu : Int) < (up.length : Int) := by omega
      by_cases h1 : stepUp up cu = cu
      · rw [h1] at hc
        have t0 : ((cu : Int) != (cu : Int)) = false := by simp
        have HV := Lib.hid (show rootL up x = (cu : Int) by rw [rootL_nat _ _ HX.out, ← HC.out, root_of_fix h1])
        clear hs h1
        go_wp2
        go_ret
        exact ⟨ret_i64 HV.out.symm, _, rfl⟩
      · have t0 : ((stepUp up cu : Int) != (cu : Int)) = true := by simp; omega
        have HS := Lib.hid (root_up HO.out hcu)
        have HL := Lib.hid (stepUp_lt hcu)
        have HM := Lib.hid (above_lt (p := p) (stepUp_lt hcu) (hs.2.resolve_left h1))
        generalize stepUp up cu = y at *
        clear hs
        go_wp2
        go_roundw
        case rel => exact ⟨_, y, rfl, rfl, HL.out, by rw [HS.out, HC.out]⟩
        case measure => simp [intOf]; exact HM.out
  · have HT := Lib.hid (show thereB up.length x = false by simpa using hb)
    have HV := Lib.hid (show rootL up x = -1 by unfold rootL; rw [if_neg hb])
    clear hb hr ho
    go_enter Try.func15, Try.ntmps15
    go_wp2_with (go_at_call 29; (with_reducible refine (there_any _ _ _).mono ?_); rintro e w1 ⟨rfl, q1, rfl⟩; rw [HT.out])
    go_ret
    exact ⟨ret_i64 HV.out.symm, _, rfl⟩
end Go.Proofs.Ytcppmfmlafnmfaa
