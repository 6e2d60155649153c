/-
A step of a find: what it hands back, and which cell it changes. Condition: the cells are a row of the call's own, the task's elements are there.
-/
import Derived.Test.YtmaiicpaalbcfaaDoorCufE
import Derived.StillTailTactics
namespace Go.Proofs.YtmaiicpaalbcfaaDoor
open Go.RowKit
attribute [local go_sem ↓] Go.wp_at_zero Go.wp_at_succ
def FindP (base g n cap : Nat) (up' : List Int) (t' : T) (w : World) (e : Ending) (w' : World) : Prop := e = .returned (tv t') ∧ w'.ownsRow base 3 1 (.slice (some ⟨g, 0, none⟩) n cap) n (ints up') ∧ w.grownBy w' (some g)
theorem cells10 {W : World} {b : Nat} {t : TypeId} {v0 v1 v2 v3 v4 v5 v6 v7 v8 v9 : Value} (h : W.heap[b]? = some (.cells #[v0, v1, v2, v3, v4, v5, v6, v7, v8, v9] t (0, 0))) :
    W.cell? ⟨b, 0, none⟩ = some v0 ∧ W.cell? ⟨b, 1, none⟩ = some v1 ∧ W.cell? ⟨b, 2, none⟩ = some v2 ∧ W.cell? ⟨b, 3, none⟩ = some v3 ∧ W.cell? ⟨b, 4, none⟩ = some v4 ∧ W.cell? ⟨b, 5, none⟩ = some v5 ∧ W.cell? ⟨b, 6, none⟩ = some v6 ∧ W.cell? ⟨b, 7, none⟩ = some v7 ∧ W.cell? ⟨b, 8, none⟩ = some v8 ∧ W.cell? ⟨b, 9, none⟩ = some v9 ∧ W.frozen? ⟨b, 0, none⟩ = false ∧ W.frozen? ⟨b, 1, none⟩ = false ∧ W.frozen? ⟨b, 2, none⟩ = false ∧ W.frozen? ⟨b, 3, none⟩ = false ∧ W.frozen? ⟨b, 4, none⟩ = false ∧ W.frozen? ⟨b, 5, none⟩ = false ∧ W.frozen? ⟨b, 6, none⟩ = false ∧ W.frozen? ⟨b, 7, none⟩ = false ∧ W.frozen? ⟨b, 8, none⟩ = false ∧ W.frozen? ⟨b, 9, none⟩ = false := by
  simp [World.cell?, World.frozen?, h]
theorem TP.find {base g n cap : Nat} {up : List Int} {t : T} {w w' : World} {e : Ending} (h : w.ownsRow base 3 1 (.slice (some ⟨g, 0, none⟩) n cap) n (ints up)) (ht : TP t w e w') : FindP base g n cap up t w e w' := ⟨ht.1, own_grown h ht.2, grown_below ht.2 g⟩
theorem grown_set {w w' : World} {r : Option Nat} (h : w.grownBy w' r) {p : Addr} (hp : w.heap.size ≤ p.block) (v : Value) : w.grownBy (w'.setCell p v) r :=
  ⟨h.os, h.tape, h.output, by rw [World.size_setCell]; exact h.size, fun k hk hne => (Below.heap_setCell _ _ _ _ (by omega)).trans (h.block k hk hne)⟩
theorem own_set {w : World} {base g n cap : Nat} {xs : List Value} (h : w.ownsRow base 3 1 (.slice (some ⟨g, 0, none⟩) n cap) n xs) {p : Addr} (hp : p.block ≠ g) (v : Value) : (w.setCell p v).ownsRow base 3 1 (.slice (some ⟨g, 0, none⟩) n cap) n xs :=
  h.kept (row := some p.block) ⟨rfl, rfl, rfl, by rw [World.size_setCell]; exact Nat.le_refl _, fun k _ hne => Below.heap_setCell _ _ _ _ (by simpa using hne)⟩ (.inr (by simpa [Value.ownBlock] using hp.symm))
set_option maxRecDepth 100000 in
set_option maxHeartbeats 4000000 in
theorem find1_0e (base g n cap : Nat) (up : List Int) (k x y v ww r res : Int) (is : Bool) (j : Nat) (hl : j < n) (ha : up.getD j 0 = (j : Int)) (w : World) (h : w.ownsRow base 3 1 (.slice (some ⟨g, 0, none⟩) n cap) n (ints up)) :
    Calls Tryd.prog 48 #[.slice (some ⟨g, 0, none⟩) n cap, tv ⟨k, x, y, 1, (j : Int), v, ww, r, is, res⟩, .int .i64 1] w (TP (foundT ⟨k, x, y, 1, (j : Int), v, (j : Int), r, is, res⟩) w) := by
  have hg := (own_lt h).2
  have c0 := own_cell_int h j hl
  rw [ha] at c0
  have p1 : (j : Int) < (n : Int) := by omega
  have p0 : (0 : Int) ≤ (j : Int) := by omega
  clear h ha
  by_cases h2 : k = 1
  · have HV := Lib.hid (show foundT ⟨k, x, y, 1, (j : Int), v, (j : Int), r, is, res⟩ = ⟨k, x, y, 1, (j : Int), v, (j : Int), r, true, (j : Int)⟩ by simp [foundT, firstT, finish, h2])
    have q2 : (k == 1) = true := by simp [h2]
    clear h2
    unfold tv
    go_enter Tryd.func48, Tryd.ntmps48
    go_wp2
    go_quiet (fail)
    go_wp2
    go_returns
    exact ⟨by rw [HV.out]; rfl, by go_grown; refine below_drewN ?_ _; go_grown⟩
  · have HV := Lib.hid (show foundT ⟨k, x, y, 1, (j : Int), v, (j : Int), r, is, res⟩ = ⟨k, x, y, 4, (j : Int), v, (j : Int), r, is, res⟩ by simp [foundT, firstT, h2])
    have q2 : (k == 1) = false := by simp [h2]
    clear h2
    unfold tv
    go_enter Tryd.func48, Tryd.ntmps48
    go_wp2
    go_quiet (fail)
    go_wp2
    go_returns
    exact ⟨by rw [HV.out]; rfl, by go_grown; refine below_drewN ?_ _; go_grown⟩
set_option maxRecDepth 100000 in
set_option maxHeartbeats 4000000 in
theorem find1_0n (base g n cap : Nat) (up : List Int) (k x y v ww r res : Int) (is : Bool) (j : Nat) (a : Int) (hl : j < n) (ha : up.getD j 0 = a) (h1 : ¬ a = (j : Int)) (w : World) (h : w.ownsRow base 3 1 (.slice (some ⟨g, 0, none⟩) n cap) n (ints up)) :
    Calls Tryd.prog 48 #[.slice (some ⟨g, 0, none⟩) n cap, tv ⟨k, x, y, 1, (j : Int), v, ww, r, is, res⟩, .int .i64 1] w (TP (⟨k, x, y, 2, (j : Int), v, a, r, is, res⟩) w) := by
  have hg := (own_lt h).2
  have c0 := own_cell_int h j hl
  rw [ha] at c0
  have p1 : (j : Int) < (n : Int) := by omega
  have p0 : (0 : Int) ≤ (j : Int) := by omega
  clear h ha
  have q0 : (a == (j : Int)) = false := by simp [h1]
  clear h1
  unfold tv
  go_enter Tryd.func48, Tryd.ntmps48
  go_wp2
  go_quiet (fail)
  go_wp2
  
  go_returns
  exact ⟨rfl, by go_grown; refine below_drewN ?_ _; go_grown⟩
set_option maxRecDepth 100000 in
set_option maxHeartbeats 4000000 in
theorem find1_1e (base g n cap : Nat) (up : List Int) (k x y u v r res : Int) (is : Bool) (j : Nat) (hl : j < n) (ha : up.getD j 0 = (j : Int)) (w : World) (h : w.ownsRow base 3 1 (.slice (some ⟨g, 0, none⟩) n cap) n (ints up)) :
    Calls Tryd.prog 48 #[.slice (some ⟨g, 0, none⟩) n cap, tv ⟨k, x, y, 2, u, v, (j : Int), r, is, res⟩, .int .i64 1] w (TP (foundT ⟨k, x, y, 2, (j : Int), v, (j : Int), (j : Int), is, res⟩) w) := by
  have hg := (own_lt h).2
  have c0 := own_cell_int h j hl
  rw [ha] at c0
  have p1 : (j : Int) < (n : Int) := by omega
  have p0 : (0 : Int) ≤ (j : Int) := by omega
  clear h ha
  by_cases h2 : k = 1
  · have HV := Lib.hid (show foundT ⟨k, x, y, 2, (j : Int), v, (j : Int), (j : Int), is, res⟩ = ⟨k, x, y, 2, (j : Int), v, (j : Int), (j : Int), true, (j : Int)⟩ by simp [foundT, firstT, finish, h2])
    have q2 : (k == 1) = true := by simp [h2]
    clear h2
    unfold tv
    go_enter Tryd.func48, Tryd.ntmps48
    go_wp2
    go_returns
    exact ⟨by rw [HV.out]; rfl, by go_grown⟩
  · have HV := Lib.hid (show foundT ⟨k, x, y, 2, (j : Int), v, (j : Int), (j : Int), is, res⟩ = ⟨k, x, y, 4, (j : Int), v, (j : Int), (j : Int), is, res⟩ by simp [foundT, firstT, h2])
    have q2 : (k == 1) = false := by simp [h2]
    clear h2
    unfold tv
    go_enter Tryd.func48, Tryd.ntmps48
    go_wp2
    go_returns
    exact ⟨by rw [HV.out]; rfl, by go_grown⟩
set_option maxRecDepth 100000 in
set_option maxHeartbeats 4000000 in
theorem find1_1n (base g n cap : Nat) (up : List Int) (k x y u v r res : Int) (is : Bool) (j : Nat) (a : Int) (hl : j < n) (ha : up.getD j 0 = a) (h1 : ¬ a = (j : Int)) (w : World) (h : w.ownsRow base 3 1 (.slice (some ⟨g, 0, none⟩) n cap) n (ints up)) :
    Calls Tryd.prog 48 #[.slice (some ⟨g, 0, none⟩) n cap, tv ⟨k, x, y, 2, u, v, (j : Int), r, is, res⟩, .int .i64 1] w (TP (⟨k, x, y, 3, u, v, (j : Int), a, is, res⟩) w) := by
  have hg := (own_lt h).2
  have c0 := own_cell_int h j hl
  rw [ha] at c0
  have p1 : (j : Int) < (n : Int) := by omega
  have p0 : (0 : Int) ≤ (j : Int) := by omega
  clear h ha
  have q0 : (a == (j : Int)) = false := by simp [h1]
  clear h1
  unfold tv
  go_enter Tryd.func48, Tryd.ntmps48
  go_wp2
  
  go_returns
  exact ⟨rfl, by go_grown⟩
set_option maxRecDepth 100000 in
set_option maxHeartbeats 8000000 in
theorem find1_2 (base g n cap : Nat) (up : List Int) (k x y v ww r res : Int) (is : Bool) (j : Nat) (hl : j < n) (w : World) (h : w.ownsRow base 3 1 (.slice (some ⟨g, 0, none⟩) n cap) n (ints up)) :
    Calls Tryd.prog 48 #[.slice (some ⟨g, 0, none⟩) n cap, tv ⟨k, x, y, 3, (j : Int), v, ww, r, is, res⟩, .int .i64 1] w (FindP base g n cap (swapL up j ww r) ⟨k, x, y, 1, ww, v, ww, r, is, res⟩ w) := by
  have hg := (own_lt h).2
  have HO := Lib.hid h
  have p1 : (j : Int) < (n : Int) := by omega
  have p0 : (0 : Int) ≤ (j : Int) := by omega
  clear h
  unfold tv
  go_enter Tryd.func48, Tryd.ntmps48
  go_wp2
  obtain ⟨W, hW⟩ : ∃ W, W = (w.alloc (.cells #[.int .i64 k, .int .i64 x, .int .i64 y, .int .i64 3, .int .i64 (j : Int), .int .i64 v, .int .i64 ww, .int .i64 r, .bool is, .int .i64 res] 63)).alloc (.cells #[.int .i64 0, .int .i64 0, .int .i64 0, .int .i64 0, .int .i64 0, .int .i64 0, .int .i64 0, .int .i64 0, .bool false, .int .i64 0] 63) := ⟨_, rfl⟩
  have B0 := heap_alloc2_old w (.cells #[.int .i64 k, .int .i64 x, .int .i64 y, .int .i64 3, .int .i64 (j : Int), .int .i64 v, .int .i64 ww, .int .i64 r, .bool is, .int .i64 res] 63) (.cells #[.int .i64 0, .int .i64 0, .int .i64 0, .int .i64 0, .int .i64 0, .int .i64 0, .int .i64 0, .int .i64 0, .bool false, .int .i64 0] 63)
  have B1 := heap_alloc2_new w (.cells #[.int .i64 k, .int .i64 x, .int .i64 y, .int .i64 3, .int .i64 (j : Int), .int .i64 v, .int .i64 ww, .int .i64 r, .bool is, .int .i64 res] 63) (.cells #[.int .i64 0, .int .i64 0, .int .i64 0, .int .i64 0, .int .i64 0, .int .i64 0, .int .i64 0, .int .i64 0, .bool false, .int .i64 0] 63)
  have HB : Hid (Below w.heap.size w W) := Lib.hid (by rw [hW]; go_grown)
  have hs2 : W.heap.size = w.heap.size + 2 := by rw [hW]; simp
  rw [← hW] at B0 B1 ⊢
  clear hW
  have HO := Lib.hid (own_grown HO.out HB.out)
  have HG := Lib.hid (grown_below HB.out g)
  have D0 := cells10 B0
  have HB0 := Lib.hid B0
  have HB1 := Lib.hid B1
  clear B0 B1
  obtain ⟨c0, c1, c2, c3, c4, c5, c6, c7, c8, c9, f0, f1, f2, f3, f4, f5, f6, f7, f8, f9⟩ := D0
  go_still_tail 9, (by kernel_rfl)
  change wpList _ _ _ _ _ W.drew
  have HO := Lib.hid (own_grown HO.out (below_drew (Below.refl _ _)))
  clear c0 c1 c2 c3 c4 c5 c6 c7 c8 c9 f0 f1 f2 f3 f4 f5 f6 f7 f8 f9
  have hne : g ≠ w.heap.size := by omega
  have hne1 : g ≠ w.heap.size + 1 := by omega
  go_wp2_with
    (go_at_call 51
     (with_reducible refine (set_any base g n cap up j ww r _ hl HO.out).mono ?_)
     rintro e w' ⟨rfl, hown, hgr⟩
     have HO := Lib.hid hown
     have hgr : W.grownBy w' (some g) := (grown_below (below_drew (Below.refl _ _)) g).trans hgr
     have D0 := cells10 ((hgr.block w.heap.size (by omega) (by simpa using hne.symm)).trans HB0.out)
     have D1 := cells10 ((hgr.block (w.heap.size + 1) (by omega) (by simpa using hne1.symm)).trans HB1.out)
     have HG := Lib.hid (HG.out.trans hgr)
     clear hown hgr
     obtain ⟨c0, c1, c2, c3, c4, c5, c6, c7, c8, c9, f0, f1, f2, f3, f4, f5, f6, f7, f8, f9⟩ := D0
     obtain ⟨d0, d1, d2, d3, d4, d5, d6, d7, d8, d9, e0, e1, e2, e3, e4, e5, e6, e7, e8, e9⟩ := D1)
  refine bodyPost_ret (v := tv ⟨k, x, y, 1, ww, v, ww, r, is, res⟩) (by simp [tv, results, Tryd.results48, go_sem, d0, d1, d2, d3, d4, d5, d6, d7, d8, d9]) rfl ?_
  refine ⟨rfl, ?_, ?_⟩
  · repeat (with_reducible refine own_set ?_ (by simp only; omega) _)
    exact HO.out
  · repeat (with_reducible refine grown_set ?_ (by simp only; omega) _)
    exact HG.out
set_option maxRecDepth 100000 in
set_option maxHeartbeats 4000000 in
theorem find4_0e (base g n cap : Nat) (up : List Int) (k x y u ww r res : Int) (is : Bool) (j : Nat) (hl : j < n) (ha : up.getD j 0 = (j : Int)) (w : World) (h : w.ownsRow base 3 1 (.slice (some ⟨g, 0, none⟩) n cap) n (ints up)) :
    Calls Tryd.prog 48 #[.slice (some ⟨g, 0, none⟩) n cap, tv ⟨k, x, y, 4, u, (j : Int), ww, r, is, res⟩, .int .i64 4] w (TP (foundT ⟨k, x, y, 4, u, (j : Int), (j : Int), r, is, res⟩) w) := by
  have hg := (own_lt h).2
  have c0 := own_cell_int h j hl
  rw [ha] at c0
  have p1 : (j : Int) < (n : Int) := by omega
  have p0 : (0 : Int) ≤ (j : Int) := by omega
  clear h ha
  by_cases h3 : u = (j : Int)
  · have q3 : (u == (j : Int)) = true := by simp [h3]
    by_cases h2 : k = 2
    · have HV := Lib.hid (show foundT ⟨k, x, y, 4, u, (j : Int), (j : Int), r, is, res⟩ = ⟨k, x, y, 4, u, (j : Int), (j : Int), r, true, 1⟩ by simp [foundT, secondT, finish, h2, h3])
      have q2 : (k == 2) = true := by simp [h2]
      clear h2 h3
      unfold tv
      go_enter Tryd.func48, Tryd.ntmps48
      go_wp2
      go_quiet (fail)
      go_wp2
      go_returns
      exact ⟨by rw [HV.out]; rfl, by go_grown; refine below_drewN ?_ _; go_grown⟩
    · have HV := Lib.hid (show foundT ⟨k, x, y, 4, u, (j : Int), (j : Int), r, is, res⟩ = ⟨k, x, y, 4, u, (j : Int), (j : Int), r, true, 0⟩ by simp [foundT, secondT, finish, h2, h3])
      have q2 : (k == 2) = false := by simp [h2]
      clear h2 h3
      unfold tv
      go_enter Tryd.func48, Tryd.ntmps48
      go_wp2
      go_quiet (fail)
      go_wp2
      go_returns
      exact ⟨by rw [HV.out]; rfl, by go_grown; refine below_drewN ?_ _; go_grown⟩
  · have q3 : (u == (j : Int)) = false := by simp [h3]
    by_cases h2 : k = 2
    · have HV := Lib.hid (show foundT ⟨k, x, y, 4, u, (j : Int), (j : Int), r, is, res⟩ = ⟨k, x, y, 7, u, (j : Int), (j : Int), r, is, res⟩ by simp [foundT, secondT, h2, h3])
      have q2 : (k == 2) = true := by simp [h2]
      clear h2 h3
      unfold tv
      go_enter Tryd.func48, Tryd.ntmps48
      go_wp2
      go_quiet (fail)
      go_wp2
      go_returns
      exact ⟨by rw [HV.out]; rfl, by go_grown; refine below_drewN ?_ _; go_grown⟩
    · have HV := Lib.hid (show foundT ⟨k, x, y, 4, u, (j : Int), (j : Int), r, is, res⟩ = ⟨k, x, y, 8, u, (j : Int), (j : Int), r, is, res⟩ by simp [foundT, secondT, h2, h3])
      have q2 : (k == 2) = false := by simp [h2]
      clear h2 h3
      unfold tv
      go_enter Tryd.func48, Tryd.ntmps48
      go_wp2
      go_quiet (fail)
      go_wp2
      go_returns
      exact ⟨by rw [HV.out]; rfl, by go_grown; refine below_drewN ?_ _; go_grown⟩
set_option maxRecDepth 100000 in
set_option maxHeartbeats 4000000 in
theorem find4_0n (base g n cap : Nat) (up : List Int) (k x y u ww r res : Int) (is : Bool) (j : Nat) (a : Int) (hl : j < n) (ha : up.getD j 0 = a) (h1 : ¬ a = (j : Int)) (w : World) (h : w.ownsRow base 3 1 (.slice (some ⟨g, 0, none⟩) n cap) n (ints up)) :
    Calls Tryd.prog 48 #[.slice (some ⟨g, 0, none⟩) n cap, tv ⟨k, x, y, 4, u, (j : Int), ww, r, is, res⟩, .int .i64 4] w (TP (⟨k, x, y, 5, u, (j : Int), a, r, is, res⟩) w) := by
  have hg := (own_lt h).2
  have c0 := own_cell_int h j hl
  rw [ha] at c0
  have p1 : (j : Int) < (n : Int) := by omega
  have p0 : (0 : Int) ≤ (j : Int) := by omega
  clear h ha
  have q0 : (a == (j : Int)) = false := by simp [h1]
  clear h1
  unfold tv
  go_enter Tryd.func48, Tryd.ntmps48
  go_wp2
  go_quiet (fail)
  go_wp2
  
  go_returns
  exact ⟨rfl, by go_grown; refine below_drewN ?_ _; go_grown⟩
set_option maxRecDepth 100000 in
set_option maxHeartbeats 4000000 in
theorem find4_1e (base g n cap : Nat) (up : List Int) (k x y u v r res : Int) (is : Bool) (j : Nat) (hl : j < n) (ha : up.getD j 0 = (j : Int)) (w : World) (h : w.ownsRow base 3 1 (.slice (some ⟨g, 0, none⟩) n cap) n (ints up)) :
    Calls Tryd.prog 48 #[.slice (some ⟨g, 0, none⟩) n cap, tv ⟨k, x, y, 5, u, v, (j : Int), r, is, res⟩, .int .i64 4] w (TP (foundT ⟨k, x, y, 5, u, (j : Int), (j : Int), (j : Int), is, res⟩) w) := by
  have hg := (own_lt h).2
  have c0 := own_cell_int h j hl
  rw [ha] at c0
  have p1 : (j : Int) < (n : Int) := by omega
  have p0 : (0 : Int) ≤ (j : Int) := by omega
  clear h ha
  by_cases h3 : u = (j : Int)
  · have q3 : (u == (j : Int)) = true := by simp [h3]
    by_cases h2 : k = 2
    · have HV := Lib.hid (show foundT ⟨k, x, y, 5, u, (j : Int), (j : Int), (j : Int), is, res⟩ = ⟨k, x, y, 5, u, (j : Int), (j : Int), (j : Int), true, 1⟩ by simp [foundT, secondT, finish, h2, h3])
      have q2 : (k == 2) = true := by simp [h2]
      clear h2 h3
      unfold tv
      go_enter Tryd.func48, Tryd.ntmps48
      go_wp2
      go_returns
      exact ⟨by rw [HV.out]; rfl, by go_grown⟩
    · have HV := Lib.hid (show foundT ⟨k, x, y, 5, u, (j : Int), (j : Int), (j : Int), is, res⟩ = ⟨k, x, y, 5, u, (j : Int), (j : Int), (j : Int), true, 0⟩ by simp [foundT, secondT, finish, h2, h3])
      have q2 : (k == 2) = false := by simp [h2]
      clear h2 h3
      unfold tv
      go_enter Tryd.func48, Tryd.ntmps48
      go_wp2
      go_returns
      exact ⟨by rw [HV.out]; rfl, by go_grown⟩
  · have q3 : (u == (j : Int)) = false := by simp [h3]
    by_cases h2 : k = 2
    · have HV := Lib.hid (show foundT ⟨k, x, y, 5, u, (j : Int), (j : Int), (j : Int), is, res⟩ = ⟨k, x, y, 7, u, (j : Int), (j : Int), (j : Int), is, res⟩ by simp [foundT, secondT, h2, h3])
      have q2 : (k == 2) = true := by simp [h2]
      clear h2 h3
      unfold tv
      go_enter Tryd.func48, Tryd.ntmps48
      go_wp2
      go_returns
      exact ⟨by rw [HV.out]; rfl, by go_grown⟩
    · have HV := Lib.hid (show foundT ⟨k, x, y, 5, u, (j : Int), (j : Int), (j : Int), is, res⟩ = ⟨k, x, y, 8, u, (j : Int), (j : Int), (j : Int), is, res⟩ by simp [foundT, secondT, h2, h3])
      have q2 : (k == 2) = false := by simp [h2]
      clear h2 h3
      unfold tv
      go_enter Tryd.func48, Tryd.ntmps48
      go_wp2
      go_returns
      exact ⟨by rw [HV.out]; rfl, by go_grown⟩
set_option maxRecDepth 100000 in
set_option maxHeartbeats 4000000 in
theorem find4_1n (base g n cap : Nat) (up : List Int) (k x y u v r res : Int) (is : Bool) (j : Nat) (a : Int) (hl : j < n) (ha : up.getD j 0 = a) (h1 : ¬ a = (j : Int)) (w : World) (h : w.ownsRow base 3 1 (.slice (some ⟨g, 0, none⟩) n cap) n (ints up)) :
    Calls Tryd.prog 48 #[.slice (some ⟨g, 0, none⟩) n cap, tv ⟨k, x, y, 5, u, v, (j : Int), r, is, res⟩, .int .i64 4] w (TP (⟨k, x, y, 6, u, v, (j : Int), a, is, res⟩) w) := by
  have hg := (own_lt h).2
  have c0 := own_cell_int h j hl
  rw [ha] at c0
  have p1 : (j : Int) < (n : Int) := by omega
  have p0 : (0 : Int) ≤ (j : Int) := by omega
  clear h ha
  have q0 : (a == (j : Int)) = false := by simp [h1]
  clear h1
  unfold tv
  go_enter Tryd.func48, Tryd.ntmps48
  go_wp2
  
  go_returns
  exact ⟨rfl, by go_grown⟩
set_option maxRecDepth 100000 in
set_option maxHeartbeats 8000000 in
theorem find4_2 (base g n cap : Nat) (up : List Int) (k x y u ww r res : Int) (is : Bool) (j : Nat) (hl : j < n) (w : World) (h : w.ownsRow base 3 1 (.slice (some ⟨g, 0, none⟩) n cap) n (ints up)) :
    Calls Tryd.prog 48 #[.slice (some ⟨g, 0, none⟩) n cap, tv ⟨k, x, y, 6, u, (j : Int), ww, r, is, res⟩, .int .i64 4] w (FindP base g n cap (swapL up j ww r) ⟨k, x, y, 4, u, ww, ww, r, is, res⟩ w) := by
  have hg := (own_lt h).2
  have HO := Lib.hid h
  have p1 : (j : Int) < (n : Int) := by omega
  have p0 : (0 : Int) ≤ (j : Int) := by omega
  clear h
  unfold tv
  go_enter Tryd.func48, Tryd.ntmps48
  go_wp2
  obtain ⟨W, hW⟩ : ∃ W, W = (w.alloc (.cells #[.int .i64 k, .int .i64 x, .int .i64 y, .int .i64 6, .int .i64 u, .int .i64 (j : Int), .int .i64 ww, .int .i64 r, .bool is, .int .i64 res] 63)).alloc (.cells #[.int .i64 0, .int .i64 0, .int .i64 0, .int .i64 0, .int .i64 0, .int .i64 0, .int .i64 0, .int .i64 0, .bool false, .int .i64 0] 63) := ⟨_, rfl⟩
  have B0 := heap_alloc2_old w (.cells #[.int .i64 k, .int .i64 x, .int .i64 y, .int .i64 6, .int .i64 u, .int .i64 (j : Int), .int .i64 ww, .int .i64 r, .bool is, .int .i64 res] 63) (.cells #[.int .i64 0, .int .i64 0, .int .i64 0, .int .i64 0, .int .i64 0, .int .i64 0, .int .i64 0, .int .i64 0, .bool false, .int .i64 0] 63)
  have B1 := heap_alloc2_new w (.cells #[.int .i64 k, .int .i64 x, .int .i64 y, .int .i64 6, .int .i64 u, .int .i64 (j : Int), .int .i64 ww, .int .i64 r, .bool is, .int .i64 res] 63) (.cells #[.int .i64 0, .int .i64 0, .int .i64 0, .int .i64 0, .int .i64 0, .int .i64 0, .int .i64 0, .int .i64 0, .bool false, .int .i64 0] 63)
  have HB : Hid (Below w.heap.size w W) := Lib.hid (by rw [hW]; go_grown)
  have hs2 : W.heap.size = w.heap.size + 2 := by rw [hW]; simp
  rw [← hW] at B0 B1 ⊢
  clear hW
  have HO := Lib.hid (own_grown HO.out HB.out)
  have HG := Lib.hid (grown_below HB.out g)
  have D0 := cells10 B0
  have HB0 := Lib.hid B0
  have HB1 := Lib.hid B1
  clear B0 B1
  obtain ⟨c0, c1, c2, c3, c4, c5, c6, c7, c8, c9, f0, f1, f2, f3, f4, f5, f6, f7, f8, f9⟩ := D0
  go_still_tail 9, (by kernel_rfl)
  change wpList _ _ _ _ _ W.drew
  have HO := Lib.hid (own_grown HO.out (below_drew (Below.refl _ _)))
  clear c0 c1 c2 c3 c4 c5 c6 c7 c8 c9 f0 f1 f2 f3 f4 f5 f6 f7 f8 f9
  have hne : g ≠ w.heap.size := by omega
  have hne1 : g ≠ w.heap.size + 1 := by omega
  go_wp2_with
    (go_at_call 51
     (with_reducible refine (set_any base g n cap up j ww r _ hl HO.out).mono ?_)
     rintro e w' ⟨rfl, hown, hgr⟩
     have HO := Lib.hid hown
     have hgr : W.grownBy w' (some g) := (grown_below (below_drew (Below.refl _ _)) g).trans hgr
     have D0 := cells10 ((hgr.block w.heap.size (by omega) (by simpa using hne.symm)).trans HB0.out)
     have D1 := cells10 ((hgr.block (w.heap.size + 1) (by omega) (by simpa using hne1.symm)).trans HB1.out)
     have HG := Lib.hid (HG.out.trans hgr)
     clear hown hgr
     obtain ⟨c0, c1, c2, c3, c4, c5, c6, c7, c8, c9, f0, f1, f2, f3, f4, f5, f6, f7, f8, f9⟩ := D0
     obtain ⟨d0, d1, d2, d3, d4, d5, d6, d7, d8, d9, e0, e1, e2, e3, e4, e5, e6, e7, e8, e9⟩ := D1)
  refine bodyPost_ret (v := tv ⟨k, x, y, 4, u, ww, ww, r, is, res⟩) (by simp [tv, results, Tryd.results48, go_sem, d0, d1, d2, d3, d4, d5, d6, d7, d8, d9]) rfl ?_
  refine ⟨rfl, ?_, ?_⟩
  · repeat (with_reducible refine own_set ?_ (by simp only; omega) _)
    exact HO.out
  · repeat (with_reducible refine grown_set ?_ (by simp only; omega) _)
    exact HG.out
theorem find_first (base g n cap : Nat) (up p : List Int) (t : T) (hf : Fit n t) (his : t.is = false) (hs : t.s ≤ 3) (w : World) (h : w.ownsRow base 3 1 (.slice (some ⟨g, 0, none⟩) n cap) n (ints up)) :
    Calls Tryd.prog 48 #[.slice (some ⟨g, 0, none⟩) n cap, tv t, .int .i64 1] w (FindP base g n cap (stepL up p t).1 (stepL up p t).2 w) := by
  obtain ⟨k, x, y, s, u, v, ww, r, is, res⟩ := t
  obtain ⟨hk0, hk1, hu, hv, hs0, hs1, hk2, hk7, hk8, hw, hr⟩ := hf
  simp only at his hs hu hv hs0 hw
  subst his
  obtain ⟨j, rfl⟩ := Int.eq_ofNat_of_zero_le hu.1
  have hj : j < n := by have := hu.2; omega
  rcases (show s = 1 ∨ s = 2 ∨ s = 3 by omega) with rfl | rfl | rfl
  · obtain ⟨a, ha⟩ : ∃ a, up.getD j 0 = a := ⟨_, rfl⟩
    by_cases h1 : a = (j : Int)
    · have := (find1_0e base g n cap up k x y v ww r res false j hj (ha.trans h1) w h).mono (fun e w' hh => TP.find h hh)
      simp only [stepL, at_, Int.toNat_natCast, ha]
      simpa [h1, foundT] using this
    · have := (find1_0n base g n cap up k x y v ww r res false j a hj ha h1 w h).mono (fun e w' hh => TP.find h hh)
      simp only [stepL, at_, Int.toNat_natCast, ha]
      simpa [h1] using this
  · have hww := hw (by omega)
    obtain ⟨i, rfl⟩ := Int.eq_ofNat_of_zero_le hww.1
    have hi : i < n := by have := hww.2; omega
    obtain ⟨a, ha⟩ : ∃ a, up.getD i 0 = a := ⟨_, rfl⟩
    by_cases h1 : a = (i : Int)
    · have := (find1_1e base g n cap up k x y (j : Int) v r res false i hi (ha.trans h1) w h).mono (fun e w' hh => TP.find h hh)
      simp only [stepL, at_, Int.toNat_natCast, ha]
      simpa [h1, foundT] using this
    · have := (find1_1n base g n cap up k x y (j : Int) v r res false i a hi ha h1 w h).mono (fun e w' hh => TP.find h hh)
      simp only [stepL, at_, Int.toNat_natCast, ha]
      simpa [h1] using this
  · have := find1_2 base g n cap up k x y v ww r res false j hj w h
    simpa [stepL] using this
theorem find_second (base g n cap : Nat) (up p : List Int) (t : T) (hf : Fit n t) (his : t.is = false) (hs : 4 ≤ t.s) (hs6 : t.s ≤ 6) (w : World) (h : w.ownsRow base 3 1 (.slice (some ⟨g, 0, none⟩) n cap) n (ints up)) :
    Calls Tryd.prog 48 #[.slice (some ⟨g, 0, none⟩) n cap, tv t, .int .i64 4] w (FindP base g n cap (stepL up p t).1 (stepL up p t).2 w) := by
  obtain ⟨k, x, y, s, u, v, ww, r, is, res⟩ := t
  obtain ⟨hk0, hk1, hu, hv, hs0, hs1, hk2, hk7, hk8, hw, hr⟩ := hf
  simp only at his hs hs6 hu hv hs0 hw
  subst his
  obtain ⟨j, rfl⟩ := Int.eq_ofNat_of_zero_le hv.1
  have hj : j < n := by have := hv.2; omega
  rcases (show s = 4 ∨ s = 5 ∨ s = 6 by omega) with rfl | rfl | rfl
  · obtain ⟨a, ha⟩ : ∃ a, up.getD j 0 = a := ⟨_, rfl⟩
    by_cases h1 : a = (j : Int)
    · have := (find4_0e base g n cap up k x y u ww r res false j hj (ha.trans h1) w h).mono (fun e w' hh => TP.find h hh)
      simp only [stepL, at_, Int.toNat_natCast, ha]
      simpa [h1, foundT] using this
    · have := (find4_0n base g n cap up k x y u ww r res false j a hj ha h1 w h).mono (fun e w' hh => TP.find h hh)
      simp only [stepL, at_, Int.toNat_natCast, ha]
      simpa [h1] using this
  · have hww := hw (by omega)
    obtain ⟨i, rfl⟩ := Int.eq_ofNat_of_zero_le hww.1
    have hi : i < n := by have := hww.2; omega
    obtain ⟨a, ha⟩ : ∃ a, up.getD i 0 = a := ⟨_, rfl⟩
    by_cases h1 : a = (i : Int)
    · have := (find4_1e base g n cap up k x y u (j : Int) r res false i hi (ha.trans h1) w h).mono (fun e w' hh => TP.find h hh)
      simp only [stepL, at_, Int.toNat_natCast, ha]
      simpa [h1, foundT] using this
    · have := (find4_1n base g n cap up k x y u (j : Int) r res false i a hi ha h1 w h).mono (fun e w' hh => TP.find h hh)
      simp only [stepL, at_, Int.toNat_natCast, ha]
      simpa [h1] using this
  · have := find4_2 base g n cap up k x y u ww r res false j hj w h
    simpa [stepL] using this
end Go.Proofs.YtmaiicpaalbcfaaDoor
