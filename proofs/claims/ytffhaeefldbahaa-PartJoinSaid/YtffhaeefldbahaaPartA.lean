/-
Partitions' questions, the program's and the reference's: whether a list may be a partition, how many classes it has, whether one is finer than another one; no condition beside that what is finer may be a partition.
-/
import Derived.Test.YtffhaeefldbahaaInts
namespace Go.Proofs.Ytffhaeefldbahaa
open Go.RowKit
attribute [local go_sem ↓] Go.wp_at_zero Go.wp_at_succ
def goodAt (l : List Int) (i : Nat) : Prop := 0 ≤ l.getD i 0 ∧ l.getD i 0 ≤ i ∧ l.getD (l.getD i 0).toNat 0 = l.getD i 0
instance (l : List Int) (i : Nat) : Decidable (goodAt l i) := by unfold goodAt; infer_instance
def allGood (l : List Int) : Prop := ∀ i, i < l.length → goodAt l i
instance (l : List Int) : Decidable (allGood l) := by unfold allGood; infer_instance
def mayB (l : List Int) : Bool := decide (allGood l ∧ l.length ≤ 65536)
def PureP (v : Value) (w : World) (e : Ending) (w' : World) : Prop := e = .returned v ∧ ∃ n, w' = w.drewN n
theorem mayB_bad {l : List Int} (k : Nat) (hk : k < l.length) (h : ¬ goodAt l k) : mayB l = false := by
  unfold mayB
  rw [decide_eq_false_iff_not]
  exact fun hh => h (hh.1 k hk)
theorem mayB_all {l : List Int} (h : ∀ j, j < l.length → goodAt l j) : mayB l = decide ((l.length : Int) ≤ 65536) := by
  unfold mayB
  have : allGood l := h
  simp only [this, true_and]
  congr 1
  exact propext (by omega)
def cls (l : List Int) : Nat → Nat
  | 0 => 0
  | k + 1 => cls l k + if l.getD k 0 = (k : Int) then 1 else 0
theorem cls_le (l : List Int) : ∀ k, cls l k ≤ k
  | 0 => Nat.le_refl _
  | k + 1 => by
    have := cls_le l k
    unfold cls
    split <;> omega
def leB (l m : List Int) : Bool := decide (l.length = m.length ∧ ∀ i, i < l.length → m.getD i 0 = m.getD (l.getD i 0).toNat 0)
set_option maxHeartbeats 2000000 in
theorem mayPart_any (A : Option Addr) (c : Nat) (l : List Int) (w : World) (hr : RowI w A l) : Calls Try.prog 18 #[.slice A l.length c] w (PureP (.bool (mayB l)) w) := by
  have HL := Lib.hid hr.2.1
  have HR := Lib.hid hr
  have hl := HL.out
  clear hr
  go_enter Try.func18, Try.ntmps18
  go_wp2
  go_loopw [3] (fun v wr => ∃ (k q : Nat), k ≤ l.length ∧ v = .int .i64 k ∧ wr = w.drewN q ∧ (∀ j, j < k → goodAt l j)) (fun v _ => l.length - (intOf v).toNat)
  case atStart => exact ⟨0, 0, by omega, rfl, rfl, fun j hj => absurd hj (by omega)⟩
  case round =>
    obtain ⟨k, q, hk, rfl, rfl, hall⟩ := hrel
    have HA := Lib.hid hall
    clear hall
    by_cases hlt : k < l.length
    · obtain ⟨ad, rfl, hc⟩ := RowI.at_nat HR.out k hlt
      obtain ⟨x, hx⟩ : ∃ x, x = l.getD k 0 := ⟨_, rfl⟩
      rw [← hx] at hc
      have HX := Lib.hid hx
      clear hx
      have p1 : (0 : Int) ≤ (k : Int) := by omega
      have p2 : (k : Int) < (l.length : Int) := by omega
      by_cases h1 : x < 0
      · have q0 : decide (x < 0) = true := by simp; omega
        have HE := Lib.hid (show ¬ goodAt l k by intro h; have := h.1; rw [← HX.out] at this; omega)
        have HK := Lib.hid hlt
        go_wp2
        go_quiet (fail)
        go_wp2
        go_ret
        exact ⟨ret_bool (mayB_bad k HK.out HE.out).symm, _, by first | rfl | exact World.drewN_drewN ..⟩
      · by_cases h2 : (k : Int) < x
        · have q0 : decide (x < 0) = false := by simp; omega
          have q1 : decide ((k : Int) < x) = true := by simp; omega
          have HE := Lib.hid (show ¬ goodAt l k by intro h; have := h.2.1; rw [← HX.out] at this; omega)
          have HK := Lib.hid hlt
          go_wp2
          go_quiet (fail)
          go_wp2
          go_ret
          exact ⟨ret_bool (mayB_bad k HK.out HE.out).symm, _, by first | rfl | exact World.drewN_drewN ..⟩
        · obtain ⟨bd, e, hd⟩ := RowI.at_int HR.out x (by omega) (by omega)
          obtain rfl : ad = bd := by injection e
          obtain ⟨y, hy⟩ : ∃ y, y = l.getD x.toNat 0 := ⟨_, rfl⟩
          rw [← hy] at hd
          have HY := Lib.hid hy
          clear hy e
          have p3 : (0 : Int) ≤ x := by omega
          have p4 : x < (l.length : Int) := by omega
          have q0 : decide (x < 0) = false := by simp; omega
          have q1 : decide ((k : Int) < x) = false := by simp; omega
          by_cases h3 : y = x
          · have q2 : (y != x) = false := by simp [h3]
            have HE := Lib.hid (show goodAt l k by refine ⟨?_, ?_, ?_⟩ <;> rw [← HX.out]; exact p3; omega; rw [← HY.out]; exact h3)
            clear h3
            go_wp2
            go_quiet (fail)
            go_wp2
            go_roundw
            case rel => exact ⟨k + 1, _, by omega, by go_num, (by first | rfl | exact World.drewN_drewN ..), fun j hj => by
              rcases Nat.lt_or_ge j k with h | h
              · exact HA.out j h
              · obtain rfl : j = k := by omega
                exact HE.out⟩
            case measure => simp [intOf]; omega
          · have q2 : (y != x) = true := by simp [h3]
            have HE := Lib.hid (show ¬ goodAt l k by intro h; have := h.2.2; rw [← HX.out, ← HY.out] at this; exact h3 this)
            have HK := Lib.hid hlt
            clear h3
            go_wp2
            go_quiet (fail)
            go_wp2
            go_ret
            exact ⟨ret_bool (mayB_bad k HK.out HE.out).symm, _, by first | rfl | exact World.drewN_drewN ..⟩
    · have hk' : k = l.length := by omega
      go_wp2
      go_ret
      exact ⟨ret_bool (mayB_all (fun j hj => HA.out j (by omega))).symm, _, rfl⟩
set_option maxHeartbeats 2000000 in
theorem may_any (A : Option Addr) (c : Nat) (l : List Int) (w : World) (hr : RowI w A l) : Calls Try.prog 19 #[.slice A l.length c] w (PureP (.bool (mayB l)) w) := by
  have HL := Lib.hid hr.2.1
  have HR := Lib.hid hr
  have hl := HL.out
  clear hr
  go_enter Try.func19, Try.ntmps19
  go_wp2
  go_loopw [3, 4, 7] (fun _ _ v wr => ∃ (k q : Nat), k ≤ l.length ∧ v = .int .i64 k ∧ wr = w.drewN q ∧ (∀ j, j < k → goodAt l j)) (fun _ _ v _ => l.length - (intOf v).toNat)
  case atStart => exact ⟨0, 0, by omega, rfl, rfl, fun j hj => absurd hj (by omega)⟩
  case round =>
    obtain ⟨k, q, hk, rfl, rfl, hall⟩ := hrel
    have HA := Lib.hid hall
    clear hall
    by_cases hlt : k < l.length
    · obtain ⟨ad, rfl, hc⟩ := RowI.at_nat HR.out k hlt
      obtain ⟨x, hx⟩ : ∃ x, x = l.getD k 0 := ⟨_, rfl⟩
      rw [← hx] at hc
      have HX := Lib.hid hx
      clear hx
      have p1 : (0 : Int) ≤ (k : Int) := by omega
      have p2 : (k : Int) < (l.length : Int) := by omega
      by_cases h1 : x < 0
      · have q0 : decide (x < 0) = true := by simp; omega
        have HE := Lib.hid (show ¬ goodAt l k by intro h; have := h.1; rw [← HX.out] at this; omega)
        have HK := Lib.hid hlt
        go_wp2
        go_ret
        exact ⟨ret_bool (mayB_bad k HK.out HE.out).symm, _, by first | rfl | exact World.drewN_drewN ..⟩
      · by_cases h2 : (k : Int) < x
        · have q0 : decide (x < 0) = false := by simp; omega
          have q1 : decide ((k : Int) < x) = true := by simp; omega
          have HE := Lib.hid (show ¬ goodAt l k by intro h; have := h.2.1; rw [← HX.out] at this; omega)
          have HK := Lib.hid hlt
          go_wp2
          go_ret
          exact ⟨ret_bool (mayB_bad k HK.out HE.out).symm, _, by first | rfl | exact World.drewN_drewN ..⟩
        · obtain ⟨bd, e, hd⟩ := RowI.at_int HR.out x (by omega) (by omega)
          obtain rfl : ad = bd := by injection e
          obtain ⟨y, hy⟩ : ∃ y, y = l.getD x.toNat 0 := ⟨_, rfl⟩
          rw [← hy] at hd
          have HY := Lib.hid hy
          clear hy e
          have p3 : (0 : Int) ≤ x := by omega
          have p4 : x < (l.length : Int) := by omega
          have q0 : decide (x < 0) = false := by simp; omega
          have q1 : decide ((k : Int) < x) = false := by simp; omega
          by_cases h3 : y = x
          · have q2 : (y != x) = false := by simp [h3]
            have HE := Lib.hid (show goodAt l k by refine ⟨?_, ?_, ?_⟩ <;> rw [← HX.out]; exact p3; omega; rw [← HY.out]; exact h3)
            clear h3
            go_wp2
            go_roundw
            case rel => exact ⟨k + 1, _, by omega, by go_num, (by first | rfl | exact World.drewN_drewN ..), fun j hj => by
              rcases Nat.lt_or_ge j k with h | h
              · exact HA.out j h
              · obtain rfl : j = k := by omega
                exact HE.out⟩
            case measure => simp [intOf]; omega
          · have q2 : (y != x) = true := by simp [h3]
            have HE := Lib.hid (show ¬ goodAt l k by intro h; have := h.2.2; rw [← HX.out, ← HY.out] at this; exact h3 this)
            have HK := Lib.hid hlt
            clear h3
            go_wp2
            go_ret
            exact ⟨ret_bool (mayB_bad k HK.out HE.out).symm, _, by first | rfl | exact World.drewN_drewN ..⟩
    · have hk' : k = l.length := by omega
      go_wp2
      go_ret
      exact ⟨ret_bool (mayB_all (fun j hj => HA.out j (by omega))).symm, _, rfl⟩

end Go.Proofs.Ytffhaeefldbahaa
