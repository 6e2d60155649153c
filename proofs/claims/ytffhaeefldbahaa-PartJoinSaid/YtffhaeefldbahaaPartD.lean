/-
New partitions, by the program and by the reference: each element is alone; no condition.
-/
import Derived.Test.YtffhaeefldbahaaPartA
namespace Go.Proofs.Ytffhaeefldbahaa
open Go.RowKit
attribute [local go_sem ↓] Go.wp_at_zero Go.wp_at_succ
def iota (n : Nat) : List Int := (List.range n).map fun (i : Nat) => (i : Int)
theorem iota_length (n : Nat) : (iota n).length = n := by simp [iota]
theorem iota_snoc (n : Nat) : iota (n + 1) = iota n ++ [(n : Int)] := by simp [iota, List.range_succ]
def nn (n : Int) : Nat := (max 0 (min n 65536)).toNat
def RowsP (l : List Int) (w : World) (e : Ending) (w' : World) : Prop := ∃ B d, e = .returned (.slice B l.length d) ∧ l.length ≤ d ∧ RowI w' B l ∧ Below w.heap.size w w'
theorem info3 : (Try.prog.info? 3).map (fun i => (i.zero, i.size, i.bytes)) = some (some (.int .i64 0), 1, 8) := by kernel_rfl
theorem kmake (m : Nat) (hm : m ≤ 35184372088832) (W : World) : (Instr.makeSlice 28 (.int .i64 (m : Int)) (.int .i64 (m : Int))).run Try.prog W = .ok (.slice (some ⟨W.heap.size, 0, none⟩) m m) (W.alloc (.cells (madeCells #[.int .i64 0] m) 3)) :=
  run_make_row' 28 3 (.int .i64 0) 8 Try.underlying28 info3 rfl .i64 .i64 m (by omega) (by omega) W
def fill (m k : Nat) : List Int := iota k ++ List.replicate (m - k) 0
theorem fill_length (m k : Nat) (hk : k ≤ m) : (fill m k).length = m := by unfold fill; rw [List.length_append, iota_length, List.length_replicate]; omega
theorem fill_zero (m : Nat) : fill m 0 = List.replicate m 0 := by simp [fill, iota]
theorem fill_all (m : Nat) : fill m m = iota m := by simp [fill]
theorem fill_step (m k : Nat) (hk : k < m) : (fill m k).set k (k : Int) = fill m (k + 1) := by
  unfold fill
  rw [List.set_append_right _ _ (by rw [iota_length]; exact Nat.le_refl _), iota_length, Nat.sub_self, iota_snoc, List.append_assoc]
  congr 1
  rw [show m - k = (m - (k + 1)) + 1 by omega, List.replicate_succ]
  rfl
theorem rows_of_own {w w' : World} {base : Nat} {v : Value} {l : List Int} {n : Nat} (hn : l.length = n) (h : w'.ownsRow base 3 1 v n (ints l)) (hb : Below w.heap.size w w') : RowsP l w (.returned v) w' := by
  subst hn
  obtain ⟨B, d, rfl, hd, hr⟩ := row_of_own h
  exact ⟨B, d, rfl, hd, hr, hb⟩
theorem kmakeI (z : Int) (m : Nat) (h : z = (m : Int)) (hm : m ≤ 35184372088832) (W : World) : (Instr.makeSlice 28 (.int .i64 z) (.int .i64 z)).run Try.prog W = .ok (.slice (some ⟨W.heap.size, 0, none⟩) m m) (W.alloc (.cells (madeCells #[.int .i64 0] m) 3)) := by
  subst h
  exact kmake m hm W
set_option maxHeartbeats 2000000 in
theorem new_zero (n : Int) (h0 : n ≤ 0) (w : World) : Calls Try.prog 17 #[.int .i64 n] w (RowsP (iota 0) w) := by
  have kk := kmakeI (0 : Int) 0 (by first | rfl | omega) (by omega)
  go_enter Try.func17, Try.ntmps17
  go_wp2
  have o0 := own_made w w.heap.size 3 (.int .i64 0) 0 (Nat.le_refl _) (by omega)
  rw [ints_replicate] at o0
  have HW := Lib.hid o0
  clear o0
  go_loopw [4, 11] (fun _ v wr => ∃ (k : Nat), k ≤ 0 ∧ v = .int .i64 k ∧ wr.ownsRow w.heap.size 3 1 (.slice (some ⟨w.heap.size, 0, none⟩) 0 0) 0 (ints (fill 0 k)) ∧ Below w.heap.size w wr) (fun _ v _ => 0 - (intOf v).toNat)
  case atStart => exact ⟨0, by omega, rfl, by rw [fill_zero]; exact HW.out, below_alloc (Below.refl _ _) _⟩
  case round =>
    obtain ⟨k, hk, rfl, hown, hB⟩ := hrel
    have HB := Lib.hid hB
    by_cases hlt : k < 0
    · exact absurd hlt (by omega)
    · obtain rfl : k = 0 := by omega
      have HO := Lib.hid hown
      clear hown hB
      go_wp2
      go_ret
      exact rows_of_own (iota_length _) (by have := HO.out; rw [fill_all] at this; exact this) HB.out
set_option maxHeartbeats 2000000 in
theorem new_mid (m : Nat) (h0 : 0 < (m : Int)) (h1 : (m : Int) ≤ 65536) (w : World) : Calls Try.prog 17 #[.int .i64 (m : Int)] w (RowsP (iota m) w) := by
  have kk := kmakeI (m : Int) m (by first | rfl | omega) (by omega)
  go_enter Try.func17, Try.ntmps17
  go_wp2
  have o0 := own_made w w.heap.size 3 (.int .i64 0) m (Nat.le_refl _) (by omega)
  rw [ints_replicate] at o0
  have HW := Lib.hid o0
  clear o0
  go_loopw [4, 11] (fun _ v wr => ∃ (k : Nat), k ≤ m ∧ v = .int .i64 k ∧ wr.ownsRow w.heap.size 3 1 (.slice (some ⟨w.heap.size, 0, none⟩) m m) m (ints (fill m k)) ∧ Below w.heap.size w wr) (fun _ v _ => m - (intOf v).toNat)
  case atStart => exact ⟨0, by omega, rfl, by rw [fill_zero]; exact HW.out, below_alloc (Below.refl _ _) _⟩
  case round =>
    obtain ⟨k, hk, rfl, hown, hB⟩ := hrel
    have HB := Lib.hid hB
    by_cases hlt : k < m
    · have p1 : (0 : Int) ≤ (k : Int) := by omega
      have p2 : (k : Int) < (m : Int) := by omega
      have e0 := own_cell_int hown k hlt
      have e1 := hown.frozenAt k
      have hst := (hown.stored k (.int .i64 k)).1
      rw [ints_set, fill_step m k hlt] at hst
      have HS := Lib.hid hst
      clear hst hown hB
      go_wp2
      go_roundw
      case rel => exact ⟨k + 1, by omega, by go_num, HS.out, HB.out.setCell (Nat.le_refl _) _⟩
      case measure => simp [intOf]; omega
    · obtain rfl : k = m := by omega
      have HO := Lib.hid hown
      clear hown hB
      go_wp2
      go_ret
      exact rows_of_own (iota_length _) (by have := HO.out; rw [fill_all] at this; exact this) HB.out
set_option maxHeartbeats 2000000 in
theorem new_top (n : Int) (h0 : 65536 < n) (w : World) : Calls Try.prog 17 #[.int .i64 n] w (RowsP (iota 65536) w) := by
  have kk := kmakeI (65536 : Int) 65536 (by first | rfl | omega) (by omega)
  go_enter Try.func17, Try.ntmps17
  go_wp2
  have o0 := own_made w w.heap.size 3 (.int .i64 0) 65536 (Nat.le_refl _) (by omega)
  rw [ints_replicate] at o0
  have HW := Lib.hid o0
  clear o0
  go_loopw [4, 11] (fun _ v wr => ∃ (k : Nat), k ≤ 65536 ∧ v = .int .i64 k ∧ wr.ownsRow w.heap.size 3 1 (.slice (some ⟨w.heap.size, 0, none⟩) 65536 65536) 65536 (ints (fill 65536 k)) ∧ Below w.heap.size w wr) (fun _ v _ => 65536 - (intOf v).toNat)
  case atStart => exact ⟨0, by omega, rfl, by rw [fill_zero]; exact HW.out, below_alloc (Below.refl _ _) _⟩
  case round =>
    obtain ⟨k, hk, rfl, hown, hB⟩ := hrel
    have HB := Lib.hid hB
    by_cases hlt : k < 65536
    · have p1 : (0 : Int) ≤ (k : Int) := by omega
      have p2 : (k : Int) < (65536 : Int) := by omega
      have e0 := own_cell_int hown k hlt
      have e1 := hown.frozenAt k
      have hst := (hown.stored k (.int .i64 k)).1
      rw [ints_set, fill_step 65536 k hlt] at hst
      have HS := Lib.hid hst
      clear hst hown hB
      go_wp2
      go_roundw
      case rel => exact ⟨k + 1, by omega, by go_num, HS.out, HB.out.setCell (Nat.le_refl _) _⟩
      case measure => simp [intOf]; omega
    · obtain rfl : k = 65536 := by omega
      have HO := Lib.hid hown
      clear hown hB
      go_wp2
      go_ret
      exact rows_of_own (iota_length _) (by have := HO.out; rw [fill_all] at this; exact this) HB.out
theorem nn_eq (n : Int) (k : Nat) (h : k ≤ nn n) : k < nn n ↔ ((k : Int) < n ∧ (k : Int) < 65536) := by
  unfold nn at *
  omega
theorem nn_le (n : Int) : nn n ≤ 65536 := by unfold nn; omega
set_option maxHeartbeats 2000000 in
theorem rnew_any (n : Int) (w : World) : Calls Try.prog 20 #[.int .i64 n] w (RowsP (iota (nn n)) w) := by
  go_enter Try.func20, Try.ntmps20
  go_wp2
  go_loopw [3, 4] (fun v i wr => ∃ (k : Nat), k ≤ nn n ∧ i = .int .i64 k ∧ wr.ownsRow w.heap.size 3 1 v k (ints (iota k)) ∧ Below w.heap.size w wr) (fun _ i _ => nn n - (intOf i).toNat)
  case atStart => exact ⟨0, by omega, rfl, World.ownsRow_nil _ _ _ _, Below.refl _ _⟩
  case round =>
    obtain ⟨k, hk, rfl, hown, hB⟩ := hrel
    have HB := Lib.hid hB
    have HO := Lib.hid hown
    have hz := hB.size
    have hn := nn_eq n k hk
    have hn6 := nn_le n
    clear hown hB
    by_cases hlt : k < nn n
    · have p1 := (hn.1 hlt).1
      have p2 := (hn.1 hlt).2
      go_wp2_with (first
        | (at_builtin
           refine append1 w.heap.size rfl _ _ 28 3 (.int .i64 0) 8 rfl Try.underlying28 info3 rfl (by omega) u3 (ints (iota k)) (.int .i64 k) wr.heap.size rfl rfl (by go_simp) rfl (by rw [ints_length, iota_length]; exact HO.out.alloc _) (by simp; omega) (by rw [ints_length, iota_length]; omega) ?_
           intro v1 w2 hown hg hat
           have HB2 := Lib.hid ((HB.out.alloc (by omega) _).grown hg (by simp; omega) (fun j hj => by have := own_ge HO.out j hj; omega))
           have HO2 := Lib.hid hown
           clear hown hg hat))
      have h2 := HO2.out
      rw [show ints (iota k) ++ [Value.int .i64 (k : Int)] = ints (iota (k + 1)) by rw [iota_snoc, ints_append]; rfl, ints_length, iota_length] at h2
      go_roundw
      case rel => exact ⟨k + 1, by omega, by go_num, h2, HB2.out⟩
      case measure => simp [intOf]; omega
    · have HK := Lib.hid (show k = nn n by omega)
      by_cases p1 : (k : Int) < n
      · have p2 : ¬ (k : Int) < 65536 := fun h => hlt (hn.2 ⟨p1, h⟩)
        go_wp2
        go_ret
        exact rows_of_own (iota_length _) (by have := HO.out; rw [HK.out] at this; exact this) HB.out
      · go_wp2
        go_ret
        exact rows_of_own (iota_length _) (by have := HO.out; rw [HK.out] at this; exact this) HB.out
theorem new_any (n : Int) (w : World) : Calls Try.prog 17 #[.int .i64 n] w (RowsP (iota (nn n)) w) := by
  by_cases h0 : n ≤ 0
  · rw [show nn n = 0 by unfold nn; omega]
    exact new_zero n h0 w
  · by_cases h1 : 65536 < n
    · rw [show nn n = 65536 by unfold nn; omega]
      exact new_top n h1 w
    · obtain ⟨m, rfl⟩ := Int.eq_ofNat_of_zero_le (show 0 ≤ n by omega)
      rw [show nn (m : Int) = m by unfold nn; omega]
      exact new_mid m (by omega) (by omega) w
end Go.Proofs.Ytffhaeefldbahaa
