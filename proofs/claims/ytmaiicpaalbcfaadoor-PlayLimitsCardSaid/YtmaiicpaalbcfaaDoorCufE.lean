/-
One step of a task, by the program and by the reference; a copy of the cells is a row of its own. Condition: the cells may be, the task's elements are there.
What a task is, and how it begins, by the program and by the reference; no condition.
-/
import Derived.Test.YtmaiicpaalbcfaaDoorCufT
import Derived.Lib.BufferMore
namespace Go.Proofs.YtmaiicpaalbcfaaDoor
open Go.RowKit
attribute [local go_sem ↓] Go.wp_at_zero Go.wp_at_succ
theorem info3 : (Tryd.prog.info? 3).map (fun i => (i.zero, i.size, i.bytes)) = some (some (.int .i64 0), 1, 8) := by kernel_rfl
def OwnP (l : List Int) (w : World) (e : Ending) (w' : World) : Prop := ∃ v, e = .returned v ∧ w'.ownsRow w.heap.size 3 1 v l.length (ints l) ∧ Below w.heap.size w w'
set_option maxHeartbeats 2000000 in
theorem clone_any (A : Option Addr) (c : Nat) (l : List Int) (w : World) (hr : RowI w A l) (hl : l.length ≤ 65536) : Calls Tryd.prog 47 #[.slice A l.length c] w (OwnP l w) := by
  rcases A with _ | ad
  · have h0 : l = [] := by
      rcases Nat.eq_zero_or_pos l.length with h | h
      · exact List.eq_nil_of_length_eq_zero h
      · obtain ⟨ad, h, _⟩ := hr.2.2 h
        cases h
    clear hr
    subst h0
    have hq := Lib.run_eql_slice_nil_nil (P := Tryd.prog) w 0 c Tryd.underlying22
    go_enter Tryd.func47, Tryd.ntmps47
    go_wp2
    go_ret
    exact ⟨_, rfl, World.ownsRow_nil _ _ _ _, Below.refl _ _⟩
  · have HR := Lib.hid hr
    clear hr
    have hq := Lib.run_eql_slice_some_nil (P := Tryd.prog) w ad l.length c Tryd.underlying22
    go_enter Tryd.func47, Tryd.ntmps47
    go_wp2_with
      (at_builtin
       refine append_row w.heap.size rfl (.tmp 5) (.tmp 6) 22 3 (.int .i64 0) 1 8 rfl Tryd.underlying22 info3 rfl (by omega) (by omega) (.slice (some ⟨w.heap.size, 0, none⟩) 0 0) 0 [] (ints l) (some ad) l.length c rfl rfl (World.ownsRow_lit w #[] 0 (Nat.le_refl _) (by simp [maxLen]) rfl) (by rw [Nat.mul_one]; exact HR.out.kept (below_alloc (Below.refl _ _) _)) (ints_one _) (by simp) (by omega) ?_
       intro v1 w5 hown hg hat
       have HO := Lib.hid hown
       have HB := Lib.hid ((below_alloc (Below.refl w.heap.size w) (.cells #[] 3)).grown hg (by simp) (fun j hj => by simp [Value.ownBlock] at hj; omega))
       clear hown hg hat)
    go_ret
    exact ⟨_, rfl, by have := HO.out; rw [Nat.zero_add, List.nil_append] at this; exact this, HB.out⟩

set_option maxHeartbeats 2000000 in
theorem done_any (t : T) (n : Int) (w : World) : Calls Tryd.prog 49 #[tv t, .int .i64 n] w (TP (finish t n) w) := by
  obtain ⟨k, x, y, s, u, v, ww, r, is, res⟩ := t
  unfold tv
  go_enter Tryd.func49, Tryd.ntmps49
  go_wp2
  go_returns
  exact ⟨rfl, by go_grown⟩
set_option maxHeartbeats 2000000 in
theorem rdone_any (t : T) (n : Int) (w : World) : Calls Tryd.prog 42 #[tv t, .int .i64 n] w (TP (finish t n) w) := by
  obtain ⟨k, x, y, s, u, v, ww, r, is, res⟩ := t
  unfold tv
  go_enter Tryd.func42, Tryd.ntmps42
  go_wp2
  go_returns
  exact ⟨rfl, by go_grown⟩
set_option maxHeartbeats 4000000 in
theorem found_any (t : T) (w : World) : Calls Tryd.prog 52 #[tv t] w (TP (foundT t) w) := by
  obtain ⟨k, x, y, s, u, v, ww, r, is, res⟩ := t
  by_cases h1 : s ≤ 3
  · have q1 : decide (s ≤ 3) = true := by simp [h1]
    by_cases h2 : k = 1
    · have HV := Lib.hid (show foundT ⟨k, x, y, s, u, v, ww, r, is, res⟩ = ⟨k, x, y, s, u, v, ww, r, true, u⟩ by simp [foundT, firstT, finish, h1, h2])
      have q2 : (k == 1) = true := by simp [h2]
      clear h2
      unfold tv
      go_enter Tryd.func52, Tryd.ntmps52
      go_wp2
      go_returns
      exact ⟨by rw [HV.out]; rfl, by go_grown⟩
    · have HV := Lib.hid (show foundT ⟨k, x, y, s, u, v, ww, r, is, res⟩ = ⟨k, x, y, 4, u, v, ww, r, is, res⟩ by simp [foundT, firstT, h1, h2])
      have q2 : (k == 1) = false := by simp [h2]
      clear h2
      unfold tv
      go_enter Tryd.func52, Tryd.ntmps52
      go_wp2
      go_returns
      exact ⟨by rw [HV.out]; rfl, by go_grown⟩
  · have q1 : decide (s ≤ 3) = false := by simp [h1]
    by_cases h3 : u = v
    · have q3 : (u == v) = true := by simp [h3]
      by_cases h2 : k = 2
      · have HV := Lib.hid (show foundT ⟨k, x, y, s, u, v, ww, r, is, res⟩ = ⟨k, x, y, s, u, v, ww, r, true, 1⟩ by simp [foundT, secondT, finish, h1, h2, h3])
        have q2 : (k == 2) = true := by simp [h2]
        clear h2 h3
        unfold tv
        go_enter Tryd.func52, Tryd.ntmps52
        go_wp2
        go_returns
        exact ⟨by rw [HV.out]; rfl, by go_grown⟩
      · have HV := Lib.hid (show foundT ⟨k, x, y, s, u, v, ww, r, is, res⟩ = ⟨k, x, y, s, u, v, ww, r, true, 0⟩ by simp [foundT, secondT, finish, h1, h2, h3])
        have q2 : (k == 2) = false := by simp [h2]
        clear h2 h3
        unfold tv
        go_enter Tryd.func52, Tryd.ntmps52
        go_wp2
        go_returns
        exact ⟨by rw [HV.out]; rfl, by go_grown⟩
    · have q3 : (u == v) = false := by simp [h3]
      by_cases h2 : k = 2
      · have HV := Lib.hid (show foundT ⟨k, x, y, s, u, v, ww, r, is, res⟩ = ⟨k, x, y, 7, u, v, ww, r, is, res⟩ by simp [foundT, secondT, h1, h2, h3])
        have q2 : (k == 2) = true := by simp [h2]
        clear h2 h3
        unfold tv
        go_enter Tryd.func52, Tryd.ntmps52
        go_wp2
        go_returns
        exact ⟨by rw [HV.out]; rfl, by go_grown⟩
      · have HV := Lib.hid (show foundT ⟨k, x, y, s, u, v, ww, r, is, res⟩ = ⟨k, x, y, 8, u, v, ww, r, is, res⟩ by simp [foundT, secondT, h1, h2, h3])
        have q2 : (k == 2) = false := by simp [h2]
        clear h2 h3
        unfold tv
        go_enter Tryd.func52, Tryd.ntmps52
        go_wp2
        go_returns
        exact ⟨by rw [HV.out]; rfl, by go_grown⟩
set_option maxHeartbeats 4000000 in
theorem rfirst_any (t : T) (w : World) : Calls Tryd.prog 39 #[tv t] w (TP (firstT t) w) := by
  obtain ⟨k, x, y, s, u, v, ww, r, is, res⟩ := t
  by_cases h2 : k = 1
  · have HV := Lib.hid (show firstT ⟨k, x, y, s, u, v, ww, r, is, res⟩ = ⟨k, x, y, s, u, v, ww, r, true, u⟩ by simp [firstT, finish, h2])
    have q2 : (k == 1) = true := by simp [h2]
    clear h2
    unfold tv
    go_enter Tryd.func39, Tryd.ntmps39
    go_wp2
    go_returns
    exact ⟨by rw [HV.out]; rfl, by go_grown⟩
  · have HV := Lib.hid (show firstT ⟨k, x, y, s, u, v, ww, r, is, res⟩ = ⟨k, x, y, 4, u, v, ww, r, is, res⟩ by simp [firstT, h2])
    have q2 : (k == 1) = false := by simp [h2]
    clear h2
    unfold tv
    go_enter Tryd.func39, Tryd.ntmps39
    go_wp2
    go_returns
    exact ⟨by rw [HV.out]; rfl, by go_grown⟩
set_option maxHeartbeats 4000000 in
theorem rsecond_any (t : T) (w : World) (hk : t.k = 2 ∨ t.k = 3) : Calls Tryd.prog 41 #[tv t] w (TP (secondT t) w) := by
  obtain ⟨k, x, y, s, u, v, ww, r, is, res⟩ := t
  simp only at hk
  by_cases h3 : u = v
  · have q3 : (u == v) = true := by simp [h3]
    by_cases h2 : k = 2
    · have HV := Lib.hid (show secondT ⟨k, x, y, s, u, v, ww, r, is, res⟩ = ⟨k, x, y, s, u, v, ww, r, true, 1⟩ by simp [secondT, finish, h2, h3])
      have q2 : (k == 2) = true := by simp [h2]
      clear h2 h3 hk
      unfold tv
      go_enter Tryd.func41, Tryd.ntmps41
      go_wp2
      go_returns
      exact ⟨by rw [HV.out]; rfl, by go_grown⟩
    · have HV := Lib.hid (show secondT ⟨k, x, y, s, u, v, ww, r, is, res⟩ = ⟨k, x, y, s, u, v, ww, r, true, 0⟩ by simp [secondT, finish, h2, h3])
      have q2 : (k == 2) = false := by simp [h2]
      clear h2 h3 hk
      unfold tv
      go_enter Tryd.func41, Tryd.ntmps41
      go_wp2
      go_returns
      exact ⟨by rw [HV.out]; rfl, by go_grown⟩
  · have q3 : (u == v) = false := by simp [h3]
    by_cases h2 : k = 2
    · have HV := Lib.hid (show secondT ⟨k, x, y, s, u, v, ww, r, is, res⟩ = ⟨k, x, y, 7, u, v, ww, r, is, res⟩ by simp [secondT, h2, h3])
      have q2 : (k == 3) = false := by simp [h2]
      clear h2 h3 hk
      unfold tv
      go_enter Tryd.func41, Tryd.ntmps41
      go_wp2
      go_returns
      exact ⟨by rw [HV.out]; rfl, by go_grown⟩
    · have HV := Lib.hid (show secondT ⟨k, x, y, s, u, v, ww, r, is, res⟩ = ⟨k, x, y, 8, u, v, ww, r, is, res⟩ by simp [secondT, h2, h3])
      have q2 : (k == 3) = true := by simp; omega
      clear h2 h3 hk
      unfold tv
      go_enter Tryd.func41, Tryd.ntmps41
      go_wp2
      go_returns
      exact ⟨by rw [HV.out]; rfl, by go_grown⟩
/-! ### a cell is changed, if it is yet what it was -/
def SetP (base g n cap : Nat) (up' : List Int) (b : Bool) (w : World) (e : Ending) (w' : World) : Prop := e = .returned (.bool b) ∧ w'.ownsRow base 3 1 (.slice (some ⟨g, 0, none⟩) n cap) n (ints up') ∧ w.grownBy w' (some g)
theorem own_lt {w : World} {base g n cap : Nat} {xs : List Value} (h : w.ownsRow base 3 1 (.slice (some ⟨g, 0, none⟩) n cap) n xs) : base ≤ g ∧ g < w.heap.size := h.lt g (by simp [Value.ownBlock])
theorem own_grown {w w' : World} {base n : Nat} {v : Value} {up : List Int} (h : w.ownsRow base 3 1 v n (ints up)) (hb : Below w.heap.size w w') : w'.ownsRow base 3 1 v n (ints up) := own_kept h hb
theorem grown_below {w w' : World} (h : Below w.heap.size w w') (g : Nat) : w.grownBy w' (some g) := grown_of_below h _
theorem set_grown {w w1 : World} {base g n cap : Nat} {up : List Int} (hb : Below w.heap.size w w1) (h : w.ownsRow base 3 1 (.slice (some ⟨g, 0, none⟩) n cap) n (ints up)) (j : Nat) (x : Int) :
    (w1.setCell ⟨g, j, none⟩ (.int .i64 x)).ownsRow base 3 1 (.slice (some ⟨g, 0, none⟩) n cap) n (ints (up.set j x)) ∧ w.grownBy (w1.setCell ⟨g, j, none⟩ (.int .i64 x)) (some g) := by
  have h1 := own_grown h hb
  have h2 := h1.stored j (.int .i64 x)
  rw [ints_set] at h2
  exact ⟨h2.1, (grown_below hb g).trans h2.2⟩
set_option maxHeartbeats 4000000 in
theorem set_any (base g n cap : Nat) (up : List Int) (x : Nat) (was now : Int) (w : World) (hx : x < n) (h : w.ownsRow base 3 1 (.slice (some ⟨g, 0, none⟩) n cap) n (ints up)) :
    Calls Tryd.prog 51 #[.slice (some ⟨g, 0, none⟩) n cap, .agg #[.int .i64 (x : Int), .int .i64 was, .int .i64 now]] w (SetP base g n cap (swapL up x was now) (decide (at_ up x = was)) w) := by
  have HO := Lib.hid h
  have hg := (own_lt h).2
  have c0 := own_cell_int h x hx
  have f0 := h.frozenAt x
  have p1 : (x : Int) < (n : Int) := by omega
  have p0 : (0 : Int) ≤ (x : Int) := by omega
  have HA := Lib.hid (show at_ up x = up.getD x 0 by simp [at_])
  have HSw := Lib.hid (show swapL up x was now = if up.getD x 0 = was then up.set x now else up by simp [swapL, at_])
  obtain ⟨a, ha⟩ : ∃ a, a = up.getD x 0 := ⟨_, rfl⟩
  rw [← ha] at c0 HA HSw
  clear ha h
  by_cases h1 : a = was
  · have q0 : (a == was) = true := by simp [h1]
    rw [if_pos h1] at HSw
    have HV := Lib.hid (show decide (at_ up x = was) = true by rw [HA.out]; simp [h1])
    clear h1
    go_enter Tryd.func51, Tryd.ntmps51
    go_wp2
    go_quiet (fail)
    go_wp2
    go_ret
    refine ⟨ret_bool HV.out.symm, ?_⟩
    rw [HSw.out]
    exact set_grown (below_drewN (by go_grown) _) HO.out x now
  · have q0 : (a == was) = false := by simp [h1]
    rw [if_neg h1] at HSw
    have HV := Lib.hid (show decide (at_ up x = was) = false by rw [HA.out]; simp [h1])
    clear h1
    go_enter Tryd.func51, Tryd.ntmps51
    go_wp2
    go_quiet (fail)
    go_wp2
    go_ret
    refine ⟨ret_bool HV.out.symm, ?_⟩
    rw [HSw.out]
    exact ⟨own_grown HO.out (below_drewN (by go_grown) _), grown_below (below_drewN (by go_grown) _) _⟩
set_option maxHeartbeats 4000000 in
theorem swap_any (base g n cap : Nat) (up : List Int) (x : Nat) (was now : Int) (w : World) (hx : x < n) (h : w.ownsRow base 3 1 (.slice (some ⟨g, 0, none⟩) n cap) n (ints up)) :
    Calls Tryd.prog 40 #[.slice (some ⟨g, 0, none⟩) n cap, .int .i64 (x : Int), .int .i64 was, .int .i64 now] w (SetP base g n cap (swapL up x was now) (decide (at_ up x = was)) w) := by
  have HO := Lib.hid h
  have hg := (own_lt h).2
  have c0 := own_cell_int h x hx
  have f0 := h.frozenAt x
  have p1 : (x : Int) < (n : Int) := by omega
  have p0 : (0 : Int) ≤ (x : Int) := by omega
  have HA := Lib.hid (show at_ up x = up.getD x 0 by simp [at_])
  have HSw := Lib.hid (show swapL up x was now = if up.getD x 0 = was then up.set x now else up by simp [swapL, at_])
  obtain ⟨a, ha⟩ : ∃ a, a = up.getD x 0 := ⟨_, rfl⟩
  rw [← ha] at c0 HA HSw
  clear ha h
  by_cases h1 : a = was
  · have q0 : (a == was) = true := by simp [h1]
    rw [if_pos h1] at HSw
    have HV := Lib.hid (show decide (at_ up x = was) = true by rw [HA.out]; simp [h1])
    clear h1
    go_enter Tryd.func40, Tryd.ntmps40
    go_wp2
    skip
    go_wp2
    go_ret
    refine ⟨ret_bool HV.out.symm, ?_⟩
    rw [HSw.out]
    exact set_grown (by go_grown) HO.out x now
  · have q0 : (a == was) = false := by simp [h1]
    rw [if_neg h1] at HSw
    have HV := Lib.hid (show decide (at_ up x = was) = false by rw [HA.out]; simp [h1])
    clear h1
    go_enter Tryd.func40, Tryd.ntmps40
    go_wp2
    skip
    go_wp2
    go_ret
    refine ⟨ret_bool HV.out.symm, ?_⟩
    rw [HSw.out]
    exact ⟨own_grown HO.out (by go_grown), grown_below (by go_grown) _⟩
end Go.Proofs.YtmaiicpaalbcfaaDoor

namespace Go.Proofs.YtmaiicpaalbcfaaDoor
open Go.RowKit
attribute [local go_sem ↓] Go.wp_at_zero Go.wp_at_succ
set_option maxHeartbeats 4000000 in
theorem begin_any (k x y n : Int) (w : World) : Calls Tryd.prog 33 #[ov k x y, .int .i64 n] w (BeginP k x y n w) := by
  by_cases h1 : k < 1
  · have q0 : decide (k < 1) = true := by simp [h1]
    have q1 : ¬ 1 ≤ k := by omega
    have HV := Lib.hid (show beginB k x y n = false by simp [beginB, *] <;> omega)
    unfold ov
    go_enter Tryd.func33, Tryd.ntmps33
    go_wp2
    go_returns
    refine ⟨by rw [HV.out, begin_no HV.out]; rfl, ?_⟩
    go_grown
  have q0 : decide (k < 1) = false := by simp [h1]
  by_cases h2 : 3 < k
  · have q1 : decide (3 < k) = true := by simp [h2]
    have q2 : ¬ k ≤ 3 := by omega
    have HV := Lib.hid (show beginB k x y n = false by simp [beginB, *] <;> omega)
    unfold ov
    go_enter Tryd.func33, Tryd.ntmps33
    go_wp2
    go_returns
    refine ⟨by rw [HV.out, begin_no HV.out]; rfl, ?_⟩
    go_grown
  have q1 : decide (3 < k) = false := by simp [h2]
  have k1 : 1 ≤ k := by omega
  have k3 : k ≤ 3 := by omega
  cases tx : thereB n x
  · have TX := Lib.hid tx
    by_cases x0 : 0 ≤ x
    · have x1 : ¬ x < n := by intro h; simp [thereB, x0, h] at tx
      have HV := Lib.hid (show beginB k x y n = false by simp [beginB, *] <;> omega)
      unfold ov
      go_enter Tryd.func33, Tryd.ntmps33
      go_wp2
      go_returns
      refine ⟨by rw [HV.out, begin_no HV.out]; rfl, ?_⟩
      go_grown
    · have x1 : ¬ 0 ≤ x := x0
      have HV := Lib.hid (show beginB k x y n = false by simp [beginB, *] <;> omega)
      unfold ov
      go_enter Tryd.func33, Tryd.ntmps33
      go_wp2
      go_returns
      refine ⟨by rw [HV.out, begin_no HV.out]; rfl, ?_⟩
      go_grown
  have TX := Lib.hid tx
  have x0 : 0 ≤ x := by simp [thereB] at tx; omega
  have x1 : x < n := by simp [thereB] at tx; omega
  by_cases h3 : k = 1
  · subst h3
    have q2 : ((1 : Int) != 1) = false := by simp
    have HV := Lib.hid (show beginB 1 x y n = true by simp [beginB, *] <;> omega)
    unfold ov
    go_enter Tryd.func33, Tryd.ntmps33
    go_wp2
    go_returns
    refine ⟨by rw [HV.out, begin_yes HV.out]; rfl, ?_⟩
    go_grown
  have q2 : (k != 1) = true := by simp [h3]
  cases ty : thereB n y
  · have TY := Lib.hid ty
    by_cases y0 : 0 ≤ y
    · have y1 : ¬ y < n := by intro h; simp [thereB, y0, h] at ty
      have HV := Lib.hid (show beginB k x y n = false by simp [beginB, *] <;> omega)
      unfold ov
      go_enter Tryd.func33, Tryd.ntmps33
      go_wp2
      go_returns
      refine ⟨by rw [HV.out, begin_no HV.out]; rfl, ?_⟩
      go_grown
    · have y1 : ¬ 0 ≤ y := y0
      have HV := Lib.hid (show beginB k x y n = false by simp [beginB, *] <;> omega)
      unfold ov
      go_enter Tryd.func33, Tryd.ntmps33
      go_wp2
      go_returns
      refine ⟨by rw [HV.out, begin_no HV.out]; rfl, ?_⟩
      go_grown
  have TY := Lib.hid ty
  have y0 : 0 ≤ y := by simp [thereB] at ty; omega
  have y1 : y < n := by simp [thereB] at ty; omega
  have HV := Lib.hid (show beginB k x y n = true by simp [beginB, *] <;> omega)
  unfold ov
  go_enter Tryd.func33, Tryd.ntmps33
  go_wp2
  go_returns
  refine ⟨by rw [HV.out, begin_yes HV.out]; rfl, ?_⟩
  go_grown
set_option maxHeartbeats 4000000 in
theorem rbegin_any (k x y n : Int) (w : World) : Calls Tryd.prog 27 #[ov k x y, .int .i64 n] w (RBeginP k x y n w) := by
  by_cases h1 : k < 1
  · have q0 : decide (k < 1) = true := by simp [h1]
    have q1 : ¬ 1 ≤ k := by omega
    have HV := Lib.hid (show beginB k x y n = false by simp [beginB, *] <;> omega)
    unfold ov
    go_enter Tryd.func27, Tryd.ntmps27
    go_wp2_with (go_at_call 32; (with_reducible refine (there_any _ _ _).mono ?_); rintro e w' ⟨rfl, q', rfl⟩; first | rw [TX.out] | rw [TY.out])
    go_returns
    refine ⟨by rw [HV.out, begin_no HV.out]; rfl, ?_⟩
    go_grown
  have q0 : decide (k < 1) = false := by simp [h1]
  by_cases h2 : 3 < k
  · have q1 : decide (3 < k) = true := by simp [h2]
    have q2 : ¬ k ≤ 3 := by omega
    have HV := Lib.hid (show beginB k x y n = false by simp [beginB, *] <;> omega)
    unfold ov
    go_enter Tryd.func27, Tryd.ntmps27
    go_wp2_with (go_at_call 32; (with_reducible refine (there_any _ _ _).mono ?_); rintro e w' ⟨rfl, q', rfl⟩; first | rw [TX.out] | rw [TY.out])
    go_returns
    refine ⟨by rw [HV.out, begin_no HV.out]; rfl, ?_⟩
    go_grown
  have q1 : decide (3 < k) = false := by simp [h2]
  have k1 : 1 ≤ k := by omega
  have k3 : k ≤ 3 := by omega
  cases tx : thereB n x
  · have TX := Lib.hid tx
    by_cases x0 : 0 ≤ x
    · have x1 : ¬ x < n := by intro h; simp [thereB, x0, h] at tx
      have HV := Lib.hid (show beginB k x y n = false by simp [beginB, *] <;> omega)
      unfold ov
      go_enter Tryd.func27, Tryd.ntmps27
      go_wp2_with (go_at_call 32; (with_reducible refine (there_any _ _ _).mono ?_); rintro e w' ⟨rfl, q', rfl⟩; first | rw [TX.out] | rw [TY.out])
      go_returns
      refine ⟨by rw [HV.out, begin_no HV.out]; rfl, ?_⟩
      go_grown; refine below_drewN ?_ _; go_grown
    · have x1 : ¬ 0 ≤ x := x0
      have HV := Lib.hid (show beginB k x y n = false by simp [beginB, *] <;> omega)
      unfold ov
      go_enter Tryd.func27, Tryd.ntmps27
      go_wp2_with (go_at_call 32; (with_reducible refine (there_any _ _ _).mono ?_); rintro e w' ⟨rfl, q', rfl⟩; first | rw [TX.out] | rw [TY.out])
      go_returns
      refine ⟨by rw [HV.out, begin_no HV.out]; rfl, ?_⟩
      go_grown; refine below_drewN ?_ _; go_grown
  have TX := Lib.hid tx
  have x0 : 0 ≤ x := by simp [thereB] at tx; omega
  have x1 : x < n := by simp [thereB] at tx; omega
  by_cases h3 : k = 1
  · subst h3
    have q2 : ((1 : Int) != 1) = false := by simp
    have HV := Lib.hid (show beginB 1 x y n = true by simp [beginB, *] <;> omega)
    unfold ov
    go_enter Tryd.func27, Tryd.ntmps27
    go_wp2_with (go_at_call 32; (with_reducible refine (there_any _ _ _).mono ?_); rintro e w' ⟨rfl, q', rfl⟩; first | rw [TX.out] | rw [TY.out])
    go_returns
    refine ⟨by rw [HV.out, begin_yes HV.out]; rfl, ?_⟩
    go_grown; refine below_drewN ?_ _; go_grown
  have q2 : (k != 1) = true := by simp [h3]
  cases ty : thereB n y
  · have TY := Lib.hid ty
    by_cases y0 : 0 ≤ y
    · have y1 : ¬ y < n := by intro h; simp [thereB, y0, h] at ty
      have HV := Lib.hid (show beginB k x y n = false by simp [beginB, *] <;> omega)
      unfold ov
      go_enter Tryd.func27, Tryd.ntmps27
      go_wp2_with (go_at_call 32; (with_reducible refine (there_any _ _ _).mono ?_); rintro e w' ⟨rfl, q', rfl⟩; first | rw [TX.out] | rw [TY.out])
      go_returns
      refine ⟨by rw [HV.out, begin_no HV.out]; rfl, ?_⟩
      go_grown; refine below_drewN ?_ _; go_grown
    · have y1 : ¬ 0 ≤ y := y0
      have HV := Lib.hid (show beginB k x y n = false by simp [beginB, *] <;> omega)
      unfold ov
      go_enter Tryd.func27, Tryd.ntmps27
      go_wp2_with (go_at_call 32; (with_reducible refine (there_any _ _ _).mono ?_); rintro e w' ⟨rfl, q', rfl⟩; first | rw [TX.out] | rw [TY.out])
      go_returns
      refine ⟨by rw [HV.out, begin_no HV.out]; rfl, ?_⟩
      go_grown; refine below_drewN ?_ _; go_grown
  have TY := Lib.hid ty
  have y0 : 0 ≤ y := by simp [thereB] at ty; omega
  have y1 : y < n := by simp [thereB] at ty; omega
  have HV := Lib.hid (show beginB k x y n = true by simp [beginB, *] <;> omega)
  unfold ov
  go_enter Tryd.func27, Tryd.ntmps27
  go_wp2_with (go_at_call 32; (with_reducible refine (there_any _ _ _).mono ?_); rintro e w' ⟨rfl, q', rfl⟩; first | rw [TX.out] | rw [TY.out])
  go_returns
  refine ⟨by rw [HV.out, begin_yes HV.out]; rfl, ?_⟩
  go_grown; refine below_drewN ?_ _; go_grown
end Go.Proofs.YtmaiicpaalbcfaaDoor
