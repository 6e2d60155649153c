/-
One step of a task, by the reference: the cells and the task are the plain step's. Condition: the cells may be a list of so many, the task fits.
-/
import Derived.Test.YtcppmfmlafnmfaaCufG
namespace Go.Proofs.Ytcppmfmlafnmfaa
open Go.RowKit
attribute [local go_sem ↓] Go.wp_at_zero Go.wp_at_succ
def sv (v : Value) (t : T) : Value := .agg #[v, .int .i64 t.k, .int .i64 t.x, .int .i64 t.y, .int .i64 t.s, .int .i64 t.u, .int .i64 t.v, .int .i64 t.w, .int .i64 t.r, .bool t.is, .int .i64 t.res]
def RStepO (up' : List Int) (t' : T) (w : World) (e : Ending) (w' : World) : Prop := ∃ v, e = .returned (sv v t') ∧ w'.ownsRow w.heap.size 3 1 v up'.length (ints up') ∧ Below w.heap.size w w'
theorem RStepO.of {base g n cap : Nat} {up' : List Int} {t' : T} {w X : World} (hl : up'.length = n) (ho : X.ownsRow base 3 1 (.slice (some ⟨g, 0, none⟩) n cap) n (ints up')) (hb : Below w.heap.size w X) (hg : w.heap.size ≤ g) : RStepO up' t' w (.returned (sv (.slice (some ⟨g, 0, none⟩) n cap) t')) X :=
  ⟨_, rfl, by rw [hl]; exact own_base_to ho hg, hb⟩
theorem cells11 {W : World} {b : Nat} {t : TypeId} {v0 v1 v2 v3 v4 v5 v6 v7 v8 v9 v10 : Value} (h : W.heap[b]? = some (.cells #[v0, v1, v2, v3, v4, v5, v6, v7, v8, v9, v10] t (0, 0))) :
    W.cell? ⟨b, 0, none⟩ = some v0 ∧ W.cell? ⟨b, 1, none⟩ = some v1 ∧ W.cell? ⟨b, 2, none⟩ = some v2 ∧ W.cell? ⟨b, 3, none⟩ = some v3 ∧ W.cell? ⟨b, 4, none⟩ = some v4 ∧ W.cell? ⟨b, 5, none⟩ = some v5 ∧ W.cell? ⟨b, 6, none⟩ = some v6 ∧ W.cell? ⟨b, 7, none⟩ = some v7 ∧ W.cell? ⟨b, 8, none⟩ = some v8 ∧ W.cell? ⟨b, 9, none⟩ = some v9 ∧ W.cell? ⟨b, 10, none⟩ = some v10 ∧ W.frozen? ⟨b, 0, none⟩ = false ∧ W.frozen? ⟨b, 1, none⟩ = false ∧ W.frozen? ⟨b, 2, none⟩ = false ∧ W.frozen? ⟨b, 3, none⟩ = false ∧ W.frozen? ⟨b, 4, none⟩ = false ∧ W.frozen? ⟨b, 5, none⟩ = false ∧ W.frozen? ⟨b, 6, none⟩ = false ∧ W.frozen? ⟨b, 7, none⟩ = false ∧ W.frozen? ⟨b, 8, none⟩ = false ∧ W.frozen? ⟨b, 9, none⟩ = false ∧ W.frozen? ⟨b, 10, none⟩ = false := by
  simp [World.cell?, World.frozen?, h]
set_option maxRecDepth 100000 in
set_option maxHeartbeats 4000000 in
theorem rstep_t (A B : Option Addr) (c d : Nat) (up p : List Int) (k x y s u v ww r res : Int) (w : World) (hr : RowI w A up) (hs : RowI w B p) (hlong : up.length ≤ 65536) (hpos : 0 < up.length)  : Calls Try.prog 17 #[.slice A up.length c, .slice B p.length d, tv ⟨k, x, y, s, u, v, ww, r, true, res⟩] w (RStepO up ⟨k, x, y, s, u, v, ww, r, true, res⟩ w) := by
  have HR := Lib.hid hr
  have HP := Lib.hid hs
  clear hr hs
  have hsz : ((w.alloc (.cells #[.int .i64 k, .int .i64 x, .int .i64 y, .int .i64 s, .int .i64 u, .int .i64 v, .int .i64 ww, .int .i64 r, .bool true, .int .i64 res] 31)).alloc (.cells #[.slice none 0 0, .int .i64 0, .int .i64 0, .int .i64 0, .int .i64 0, .int .i64 0, .int .i64 0, .int .i64 0, .int .i64 0, .bool false, .int .i64 0] 45)).heap.size = w.heap.size + 1 + 1 := by simp
  have hw0 := World.ownsRow_lit (base := w.heap.size + 2) (e := 3) (size := 1) ((w.alloc (.cells #[.int .i64 k, .int .i64 x, .int .i64 y, .int .i64 s, .int .i64 u, .int .i64 v, .int .i64 ww, .int .i64 r, .bool true, .int .i64 res] 31)).alloc (.cells #[.slice none 0 0, .int .i64 0, .int .i64 0, .int .i64 0, .int .i64 0, .int .i64 0, .int .i64 0, .int .i64 0, .int .i64 0, .bool false, .int .i64 0] 45)) #[] 0 (by simp) (by simp [maxLen]) rfl
  rw [hsz] at hw0
  have HW0 := Lib.hid hw0
  have HB0 := Lib.hid ((heap_alloc_old ((w.alloc (.cells #[.int .i64 k, .int .i64 x, .int .i64 y, .int .i64 s, .int .i64 u, .int .i64 v, .int .i64 ww, .int .i64 r, .bool true, .int .i64 res] 31)).alloc (.cells #[.slice none 0 0, .int .i64 0, .int .i64 0, .int .i64 0, .int .i64 0, .int .i64 0, .int .i64 0, .int .i64 0, .int .i64 0, .bool false, .int .i64 0] 45)) (.cells #[] 3) (by simp; omega)).trans (heap_alloc2_old w (.cells #[.int .i64 k, .int .i64 x, .int .i64 y, .int .i64 s, .int .i64 u, .int .i64 v, .int .i64 ww, .int .i64 r, .bool true, .int .i64 res] 31) (.cells #[.slice none 0 0, .int .i64 0, .int .i64 0, .int .i64 0, .int .i64 0, .int .i64 0, .int .i64 0, .int .i64 0, .int .i64 0, .bool false, .int .i64 0] 45)))
  have HB1 := Lib.hid ((heap_alloc_old ((w.alloc (.cells #[.int .i64 k, .int .i64 x, .int .i64 y, .int .i64 s, .int .i64 u, .int .i64 v, .int .i64 ww, .int .i64 r, .bool true, .int .i64 res] 31)).alloc (.cells #[.slice none 0 0, .int .i64 0, .int .i64 0, .int .i64 0, .int .i64 0, .int .i64 0, .int .i64 0, .int .i64 0, .int .i64 0, .bool false, .int .i64 0] 45)) (.cells #[] 3) (by simp)).trans (heap_alloc2_new w (.cells #[.int .i64 k, .int .i64 x, .int .i64 y, .int .i64 s, .int .i64 u, .int .i64 v, .int .i64 ww, .int .i64 r, .bool true, .int .i64 res] 31) (.cells #[.slice none 0 0, .int .i64 0, .int .i64 0, .int .i64 0, .int .i64 0, .int .i64 0, .int .i64 0, .int .i64 0, .int .i64 0, .bool false, .int .i64 0] 45)))
  have HB := Lib.hid (show Below w.heap.size w (((w.alloc (.cells #[.int .i64 k, .int .i64 x, .int .i64 y, .int .i64 s, .int .i64 u, .int .i64 v, .int .i64 ww, .int .i64 r, .bool true, .int .i64 res] 31)).alloc (.cells #[.slice none 0 0, .int .i64 0, .int .i64 0, .int .i64 0, .int .i64 0, .int .i64 0, .int .i64 0, .int .i64 0, .int .i64 0, .bool false, .int .i64 0] 45)).alloc (.cells #[] 3)) by go_grown)
  have HRW := Lib.hid (HR.out.kept HB.out)
  have HZ := Lib.hid (show (((w.alloc (.cells #[.int .i64 k, .int .i64 x, .int .i64 y, .int .i64 s, .int .i64 u, .int .i64 v, .int .i64 ww, .int .i64 r, .bool true, .int .i64 res] 31)).alloc (.cells #[.slice none 0 0, .int .i64 0, .int .i64 0, .int .i64 0, .int .i64 0, .int .i64 0, .int .i64 0, .int .i64 0, .int .i64 0, .bool false, .int .i64 0] 45)).alloc (.cells #[] 3)).heap.size = w.heap.size + 3 by simp)
  clear hsz hw0
  unfold tv
  go_enter Try.func17, Try.ntmps17
  go_wp2_with first
   |(at_builtin
     refine append_row (w.heap.size + 2) rfl (.tmp 10) (.tmp 11) 24 3 (.int .i64 0) 1 8 rfl Try.underlying24 info3 rfl (by omega) (by omega) (.slice (some ⟨w.heap.size + 1 + 1, 0, none⟩) 0 0) 0 [] (ints up) A up.length c rfl rfl HW0.out (by rw [Nat.mul_one]; exact HRW.out) (ints_one _) (by rw [HZ.out]; omega) (by omega) ?_
     intro v1 w1 hown hg hat
     rw [Nat.zero_add, List.nil_append] at hown
     obtain ⟨g, cap, rfl, hgb⟩ := own_pos hown hpos
     have HO := Lib.hid hown
     have hgl := (own_lt hown).2
     have hz1 := hg.size
     rw [HZ.out] at hz1
     have HB0 := Lib.hid ((hg.block w.heap.size (by rw [HZ.out]; omega) (by simp [Value.ownBlock]; omega)).trans HB0.out)
     have HB1 := Lib.hid ((hg.block (w.heap.size + 1) (by rw [HZ.out]; omega) (by simp [Value.ownBlock])).trans HB1.out)
     have HB := Lib.hid (HB.out.grown hg HB.out.size (fun j hj => by simp [Value.ownBlock] at hj; omega))
     have D0 := cells10 HB0.out
     have D1 := cells11 HB1.out
     have hne0 : g ≠ w.heap.size := by omega
     have hne1 : g ≠ w.heap.size + 1 := by omega
     have HP := Lib.hid (HP.out.kept HB.out)
     clear hown hg hat HRW HW0
     obtain ⟨c0, c1, c2, c3, c4, c5, c6, c7, c8, c9, f0, f1, f2, f3, f4, f5, f6, f7, f8, f9⟩ := D0
     obtain ⟨d0, d1, d2, d3, d4, d5, d6, d7, d8, d9, d10, e0, e1, e2, e3, e4, e5, e6, e7, e8, e9, e10⟩ := D1)
  refine bodyPost_ret (v := sv (.slice (some ⟨g, 0, none⟩) up.length cap) ⟨k, x, y, s, u, v, ww, r, true, res⟩) (by simp [sv, results, Try.results17, go_sem, d0, d1, d2, d3, d4, d5, d6, d7, d8, d9, d10]) rfl ?_
  refine RStepO.of (base := w.heap.size + 2) rfl ?_ ?_ (by omega)
  · repeat (with_reducible refine own_set ?_ (by simp only; omega) _)
    exact HO.out
  · repeat (with_reducible refine Below.setCell ?_ (by simp only; omega) _)
    exact HB.out
set_option maxRecDepth 100000 in
set_option maxHeartbeats 4000000 in
theorem rstep_1n (A B : Option Addr) (c d : Nat) (up p : List Int) (k x y v ww r res a : Int) (j : Nat) (w : World) (hr : RowI w A up) (hs : RowI w B p) (hlong : up.length ≤ 65536) (hpos : 0 < up.length) (hj : j < up.length) (ha : up.getD j 0 = a) (h1 : ¬ a = (j : Int)) : Calls Try.prog 17 #[.slice A up.length c, .slice B p.length d, tv ⟨k, x, y, 1, (j : Int), v, ww, r, false, res⟩] w (RStepO up ⟨k, x, y, 2, (j : Int), v, a, r, false, res⟩ w) := by
  have HH := Lib.hid ha
  have q0 : (a == (j : Int)) = false := by simp [h1]
  clear ha h1
  have p0 : (0 : Int) ≤ (j : Int) := by omega
  have p1 : (j : Int) < (up.length : Int) := by omega
  have HR := Lib.hid hr
  have HP := Lib.hid hs
  clear hr hs
  have hsz : ((w.alloc (.cells #[.int .i64 k, .int .i64 x, .int .i64 y, .int .i64 1, .int .i64 (j : Int), .int .i64 v, .int .i64 ww, .int .i64 r, .bool false, .int .i64 res] 31)).alloc (.cells #[.slice none 0 0, .int .i64 0, .int .i64 0, .int .i64 0, .int .i64 0, .int .i64 0, .int .i64 0, .int .i64 0, .int .i64 0, .bool false, .int .i64 0] 45)).heap.size = w.heap.size + 1 + 1 := by simp
  have hw0 := World.ownsRow_lit (base := w.heap.size + 2) (e := 3) (size := 1) ((w.alloc (.cells #[.int .i64 k, .int .i64 x, .int .i64 y, .int .i64 1, .int .i64 (j : Int), .int .i64 v, .int .i64 ww, .int .i64 r, .bool false, .int .i64 res] 31)).alloc (.cells #[.slice none 0 0, .int .i64 0, .int .i64 0, .int .i64 0, .int .i64 0, .int .i64 0, .int .i64 0, .int .i64 0, .int .i64 0, .bool false, .int .i64 0] 45)) #[] 0 (by simp) (by simp [maxLen]) rfl
  rw [hsz] at hw0
  have HW0 := Lib.hid hw0
  have HB0 := Lib.hid ((heap_alloc_old ((w.alloc (.cells #[.int .i64 k, .int .i64 x, .int .i64 y, .int .i64 1, .int .i64 (j : Int), .int .i64 v, .int .i64 ww, .int .i64 r, .bool false, .int .i64 res] 31)).alloc (.cells #[.slice none 0 0, .int .i64 0, .int .i64 0, .int .i64 0, .int .i64 0, .int .i64 0, .int .i64 0, .int .i64 0, .int .i64 0, .bool false, .int .i64 0] 45)) (.cells #[] 3) (by simp; omega)).trans (heap_alloc2_old w (.cells #[.int .i64 k, .int .i64 x, .int .i64 y, .int .i64 1, .int .i64 (j : Int), .int .i64 v, .int .i64 ww, .int .i64 r, .bool false, .int .i64 res] 31) (.cells #[.slice none 0 0, .int .i64 0, .int .i64 0, .int .i64 0, .int .i64 0, .int .i64 0, .int .i64 0, .int .i64 0, .int .i64 0, .bool false, .int .i64 0] 45)))
  have HB1 := Lib.hid ((heap_alloc_old ((w.alloc (.cells #[.int .i64 k, .int .i64 x, .int .i64 y, .int .i64 1, .int .i64 (j : Int), .int .i64 v, .int .i64 ww, .int .i64 r, .bool false, .int .i64 res] 31)).alloc (.cells #[.slice none 0 0, .int .i64 0, .int .i64 0, .int .i64 0, .int .i64 0, .int .i64 0, .int .i64 0, .int .i64 0, .int .i64 0, .bool false, .int .i64 0] 45)) (.cells #[] 3) (by simp)).trans (heap_alloc2_new w (.cells #[.int .i64 k, .int .i64 x, .int .i64 y, .int .i64 1, .int .i64 (j : Int), .int .i64 v, .int .i64 ww, .int .i64 r, .bool false, .int .i64 res] 31) (.cells #[.slice none 0 0, .int .i64 0, .int .i64 0, .int .i64 0, .int .i64 0, .int .i64 0, .int .i64 0, .int .i64 0, .int .i64 0, .bool false, .int .i64 0] 45)))
  have HB := Lib.hid (show Below w.heap.size w (((w.alloc (.cells #[.int .i64 k, .int .i64 x, .int .i64 y, .int .i64 1, .int .i64 (j : Int), .int .i64 v, .int .i64 ww, .int .i64 r, .bool false, .int .i64 res] 31)).alloc (.cells #[.slice none 0 0, .int .i64 0, .int .i64 0, .int .i64 0, .int .i64 0, .int .i64 0, .int .i64 0, .int .i64 0, .int .i64 0, .bool false, .int .i64 0] 45)).alloc (.cells #[] 3)) by go_grown)
  have HRW := Lib.hid (HR.out.kept HB.out)
  have HZ := Lib.hid (show (((w.alloc (.cells #[.int .i64 k, .int .i64 x, .int .i64 y, .int .i64 1, .int .i64 (j : Int), .int .i64 v, .int .i64 ww, .int .i64 r, .bool false, .int .i64 res] 31)).alloc (.cells #[.slice none 0 0, .int .i64 0, .int .i64 0, .int .i64 0, .int .i64 0, .int .i64 0, .int .i64 0, .int .i64 0, .int .i64 0, .bool false, .int .i64 0] 45)).alloc (.cells #[] 3)).heap.size = w.heap.size + 3 by simp)
  clear hsz hw0
  unfold tv
  go_enter Try.func17, Try.ntmps17
  go_wp2_with first
   |(at_builtin
     refine append_row (w.heap.size + 2) rfl (.tmp 10) (.tmp 11) 24 3 (.int .i64 0) 1 8 rfl Try.underlying24 info3 rfl (by omega) (by omega) (.slice (some ⟨w.heap.size + 1 + 1, 0, none⟩) 0 0) 0 [] (ints up) A up.length c rfl rfl HW0.out (by rw [Nat.mul_one]; exact HRW.out) (ints_one _) (by rw [HZ.out]; omega) (by omega) ?_
     intro v1 w1 hown hg hat
     rw [Nat.zero_add, List.nil_append] at hown
     obtain ⟨g, cap, rfl, hgb⟩ := own_pos hown hpos
     have HO := Lib.hid hown
     have hgl := (own_lt hown).2
     have hz1 := hg.size
     rw [HZ.out] at hz1
     have HB0 := Lib.hid ((hg.block w.heap.size (by rw [HZ.out]; omega) (by simp [Value.ownBlock]; omega)).trans HB0.out)
     have HB1 := Lib.hid ((hg.block (w.heap.size + 1) (by rw [HZ.out]; omega) (by simp [Value.ownBlock])).trans HB1.out)
     have HB := Lib.hid (HB.out.grown hg HB.out.size (fun j hj => by simp [Value.ownBlock] at hj; omega))
     have D0 := cells10 HB0.out
     have D1 := cells11 HB1.out
     have hne0 : g ≠ w.heap.size := by omega
     have hne1 : g ≠ w.heap.size + 1 := by omega
     have HP := Lib.hid (HP.out.kept HB.out)
     clear hown hg hat HRW HW0
     obtain ⟨c0, c1, c2, c3, c4, c5, c6, c7, c8, c9, f0, f1, f2, f3, f4, f5, f6, f7, f8, f9⟩ := D0
     obtain ⟨d0, d1, d2, d3, d4, d5, d6, d7, d8, d9, d10, e0, e1, e2, e3, e4, e5, e6, e7, e8, e9, e10⟩ := D1
     have c00 := own_cell_int HO.out j hj
     rw [HH.out] at c00)
  refine bodyPost_ret (v := sv (.slice (some ⟨g, 0, none⟩) up.length cap) ⟨k, x, y, 2, (j : Int), v, a, r, false, res⟩) (by simp [sv, results, Try.results17, go_sem, d0, d1, d2, d3, d4, d5, d6, d7, d8, d9, d10]) rfl ?_
  refine RStepO.of (base := w.heap.size + 2) rfl ?_ ?_ (by omega)
  · repeat (with_reducible refine own_set ?_ (by simp only; omega) _)
    exact HO.out
  · repeat (with_reducible refine Below.setCell ?_ (by simp only; omega) _)
    exact HB.out
set_option maxRecDepth 100000 in
set_option maxHeartbeats 4000000 in
theorem rstep_2n (A B : Option Addr) (c d : Nat) (up p : List Int) (k x y u v r res a : Int) (j : Nat) (w : World) (hr : RowI w A up) (hs : RowI w B p) (hlong : up.length ≤ 65536) (hpos : 0 < up.length) (hj : j < up.length) (ha : up.getD j 0 = a) (h1 : ¬ a = (j : Int)) : Calls Try.prog 17 #[.slice A up.length c, .slice B p.length d, tv ⟨k, x, y, 2, u, v, (j : Int), r, false, res⟩] w (RStepO up ⟨k, x, y, 3, u, v, (j : Int), a, false, res⟩ w) := by
  have HH := Lib.hid ha
  have q0 : (a == (j : Int)) = false := by simp [h1]
  clear ha h1
  have p0 : (0 : Int) ≤ (j : Int) := by omega
  have p1 : (j : Int) < (up.length : Int) := by omega
  have HR := Lib.hid hr
  have HP := Lib.hid hs
  clear hr hs
  have hsz : ((w.alloc (.cells #[.int .i64 k, .int .i64 x, .int .i64 y, .int .i64 2, .int .i64 u, .int .i64 v, .int .i64 (j : Int), .int .i64 r, .bool false, .int .i64 res] 31)).alloc (.cells #[.slice none 0 0, .int .i64 0, .int .i64 0, .int .i64 0, .int .i64 0, .int .i64 0, .int .i64 0, .int .i64 0, .int .i64 0, .bool false, .int .i64 0] 45)).heap.size = w.heap.size + 1 + 1 := by simp
  have hw0 := World.ownsRow_lit (base := w.heap.size + 2) (e := 3) (size := 1) ((w.alloc (.cells #[.int .i64 k, .int .i64 x, .int .i64 y, .int .i64 2, .int .i64 u, .int .i64 v, .int .i64 (j : Int), .int .i64 r, .bool false, .int .i64 res] 31)).alloc (.cells #[.slice none 0 0, .int .i64 0, .int .i64 0, .int .i64 0, .int .i64 0, .int .i64 0, .int .i64 0, .int .i64 0, .int .i64 0, .bool false, .int .i64 0] 45)) #[] 0 (by simp) (by simp [maxLen]) rfl
  rw [hsz] at hw0
  have HW0 := Lib.hid hw0
  have HB0 := Lib.hid ((heap_alloc_old ((w.alloc (.cells #[.int .i64 k, .int .i64 x, .int .i64 y, .int .i64 2, .int .i64 u, .int .i64 v, .int .i64 (j : Int), .int .i64 r, .bool false, .int .i64 res] 31)).alloc (.cells #[.slice none 0 0, .int .i64 0, .int .i64 0, .int .i64 0, .int .i64 0, .int .i64 0, .int .i64 0, .int .i64 0, .int .i64 0, .bool false, .int .i64 0] 45)) (.cells #[] 3) (by simp; omega)).trans (heap_alloc2_old w (.cells #[.int .i64 k, .int .i64 x, .int .i64 y, .int .i64 2, .int .i64 u, .int .i64 v, .int .i64 (j : Int), .int .i64 r, .bool false, .int .i64 res] 31) (.cells #[.slice none 0 0, .int .i64 0, .int .i64 0, .int .i64 0, .int .i64 0, .int .i64 0, .int .i64 0, .int .i64 0, .int .i64 0, .bool false, .int .i64 0] 45)))
  have HB1 := Lib.hid ((heap_alloc_old ((w.alloc (.cells #[.int .i64 k, .int .i64 x, .int .i64 y, .int .i64 2, .int .i64 u, .int .i64 v, .int .i64 (j : Int), .int .i64 r, .bool false, .int .i64 res] 31)).alloc (.cells #[.slice none 0 0, .int .i64 0, .int .i64 0, .int .i64 0, .int .i64 0, .int .i64 0, .int .i64 0, .int .i64 0, .int .i64 0, .bool false, .int .i64 0] 45)) (.cells #[] 3) (by simp)).trans (heap_alloc2_new w (.cells #[.int .i64 k, .int .i64 x, .int .i64 y, .int .i64 2, .int .i64 u, .int .i64 v, .int .i64 (j : Int), .int .i64 r, .bool false, .int .i64 res] 31) (.cells #[.slice none 0 0, .int .i64 0, .int .i64 0, .int .i64 0, .int .i64 0, .int .i64 0, .int .i64 0, .int .i64 0, .int .i64 0, .bool false, .int .i64 0] 45)))
  have HB := Lib.hid (show Below w.heap.size w (((w.alloc (.cells #[.int .i64 k, .int .i64 x, .int .i64 y, .int .i64 2, .int .i64 u, .int .i64 v, .int .i64 (j : Int), .int .i64 r, .bool false, .int .i64 res] 31)).alloc (.cells #[.slice none 0 0, .int .i64 0, .int .i64 0, .int .i64 0, .int .i64 0, .int .i64 0, .int .i64 0, .int .i64 0, .int .i64 0, .bool false, .int .i64 0] 45)).alloc (.cells #[] 3)) by go_grown)
  have HRW := Lib.hid (HR.out.kept HB.out)
  have HZ := Lib.hid (show (((w.alloc (.cells #[.int .i64 k, .int .i64 x, .int .i64 y, .int .i64 2, .int .i64 u, .int .i64 v, .int .i64 (j : Int), .int .i64 r, .bool false, .int .i64 res] 31)).alloc (.cells #[.slice none 0 0, .int .i64 0, .int .i64 0, .int .i64 0, .int .i64 0, .int .i64 0, .int .i64 0, .int .i64 0, .int .i64 0, .bool false, .int .i64 0] 45)).alloc (.cells #[] 3)).heap.size = w.heap.size + 3 by simp)
  clear hsz hw0
  unfold tv
  go_enter Try.func17, Try.ntmps17
  go_wp2_with first
   |(at_builtin
     refine append_row (w.heap.size + 2) rfl (.tmp 10) (.tmp 11) 24 3 (.int .i64 0) 1 8 rfl Try.underlying24 info3 rfl (by omega) (by omega) (.slice (some ⟨w.heap.size + 1 + 1, 0, none⟩) 0 0) 0 [] (ints up) A up.length c rfl rfl HW0.out (by rw [Nat.mul_one]; exact HRW.out) (ints_one _) (by rw [HZ.out]; omega) (by omega) ?_
     intro v1 w1 hown hg hat
     rw [Nat.zero_add, List.nil_append] at hown
     obtain ⟨g, cap, rfl, hgb⟩ := own_pos hown hpos
     have HO := Lib.hid hown
     have hgl := (own_lt hown).2
     have hz1 := hg.size
     rw [HZ.out] at hz1
     have HB0 := Lib.hid ((hg.block w.heap.size (by rw [HZ.out]; omega) (by simp [Value.ownBlock]; omega)).trans HB0.out)
     have HB1 := Lib.hid ((hg.block (w.heap.size + 1) (by rw [HZ.out]; omega) (by simp [Value.ownBlock])).trans HB1.out)
     have HB := Lib.hid (HB.out.grown hg HB.out.size (fun j hj => by simp [Value.ownBlock] at hj; omega))
     have D0 := cells10 HB0.out
     have D1 := cells11 HB1.out
     have hne0 : g ≠ w.heap.size := by omega
     have hne1 : g ≠ w.heap.size + 1 := by omega
     have HP := Lib.hid (HP.out.kept HB.out)
     clear hown hg hat HRW HW0
     obtain ⟨c0, c1, c2, c3, c4, c5, c6, c7, c8, c9, f0, f1, f2, f3, f4, f5, f6, f7, f8, f9⟩ := D0
     obtain ⟨d0, d1, d2, d3, d4, d5, d6, d7, d8, d9, d10, e0, e1, e2, e3, e4, e5, e6, e7, e8, e9, e10⟩ := D1
     have c00 := own_cell_int HO.out j hj
     rw [HH.out] at c00)
  refine bodyPost_ret (v := sv (.slice (some ⟨g, 0, none⟩) up.length cap) ⟨k, x, y, 3, u, v, (j : Int), a, false, res⟩) (by simp [sv, results, Try.results17, go_sem, d0, d1, d2, d3, d4, d5, d6, d7, d8, d9, d10]) rfl ?_
  refine RStepO.of (base := w.heap.size + 2) rfl ?_ ?_ (by omega)
  · repeat (with_reducible refine own_set ?_ (by simp only; omega) _)
    exact HO.out
  · repeat (with_reducible refine Below.setCell ?_ (by simp only; omega) _)
    exact HB.out
set_option maxRecDepth 100000 in
set_option maxHeartbeats 4000000 in
theorem rstep_4n (A B : Option Addr) (c d : Nat) (up p : List Int) (k x y u ww r res a : Int) (j : Nat) (w : World) (hr : RowI w A up) (hs : RowI w B p) (hlong : up.length ≤ 65536) (hpos : 0 < up.length) (hj : j < up.length) (ha : up.getD j 0 = a) (h1 : ¬ a = (j : Int)) : Calls Try.prog 17 #[.slice A up.length c, .slice B p.length d, tv ⟨k, x, y, 4, u, (j : Int), ww, r, false, res⟩] w (RStepO up ⟨k, x, y, 5, u, (j : Int), a, r, false, res⟩ w) := by
  have HH := Lib.hid ha
  have q0 : (a == (j : Int)) = false := by simp [h1]
  clear ha h1
  have p0 : (0 : Int) ≤ (j : Int) := by omega
  have p1 : (j : Int) < (up.length : Int) := by omega
  have HR := Lib.hid hr
  have HP := Lib.hid hs
  clear hr hs
  have hsz : ((w.alloc (.cells #[.int .i64 k, .int .i64 x, .int .i64 y, .int .i64 4, .int .i64 u, .int .i64 (j : Int), .int .i64 ww, .int .i64 r, .bool false, .int .i64 res] 31)).alloc (.cells #[.slice none 0 0, .int .i64 0, .int .i64 0, .int .i64 0, .int .i64 0, .int .i64 0, .int .i64 0, .int .i64 0, .int .i64 0, .bool false, .int .i64 0] 45)).heap.size = w.heap.size + 1 + 1 := by simp
  have hw0 := World.ownsRow_lit (base := w.heap.size + 2) (e := 3) (size := 1) ((w.alloc (.cells #[.int .i64 k, .int .i64 x, .int .i64 y, .int .i64 4, .int .i64 u, .int .i64 (j : Int), .int .i64 ww, .int .i64 r, .bool false, .int .i64 res] 31)).alloc (.cells #[.slice none 0 0, .int .i64 0, .int .i64 0, .int .i64 0, .int .i64 0, .int .i64 0, .int .i64 0, .int .i64 0, .int .i64 0, .bool false, .int .i64 0] 45)) #[] 0 (by simp) (by simp [maxLen]) rfl
  rw [hsz] at hw0
  have HW0 := Lib.hid hw0
  have HB0 := Lib.hid ((heap_alloc_old ((w.alloc (.cells #[.int .i64 k, .int .i64 x, .int .i64 y, .int .i64 4, .int .i64 u, .int .i64 (j : Int), .int .i64 ww, .int .i64 r, .bool false, .int .i64 res] 31)).alloc (.cells #[.slice none 0 0, .int .i64 0, .int .i64 0, .int .i64 0, .int .i64 0, .int .i64 0, .int .i64 0, .int .i64 0, .int .i64 0, .bool false, .int .i64 0] 45)) (.cells #[] 3) (by simp; omega)).trans (heap_alloc2_old w (.cells #[.int .i64 k, .int .i64 x, .int .i64 y, .int .i64 4, .int .i64 u, .int .i64 (j : Int), .int .i64 ww, .int .i64 r, .bool false, .int .i64 res] 31) (.cells #[.slice none 0 0, .int .i64 0, .int .i64 0, .int .i64 0, .int .i64 0, .int .i64 0, .int .i64 0, .int .i64 0, .int .i64 0, .bool false, .int .i64 0] 45)))
  have HB1 := Lib.hid ((heap_alloc_old ((w.alloc (.cells #[.int .i64 k, .int .i64 x, .int .i64 y, .int .i64 4, .int .i64 u, .int .i64 (j : Int), .int .i64 ww, .int .i64 r, .bool false, .int .i64 res] 31)).alloc (.cells #[.slice none 0 0, .int .i64 0, .int .i64 0, .int .i64 0, .int .i64 0, .int .i64 0, .int .i64 0, .int .i64 0, .int .i64 0, .bool false, .int .i64 0] 45)) (.cells #[] 3) (by simp)).trans (heap_alloc2_new w (.cells #[.int .i64 k, .int .i64 x, .int .i64 y, .int .i64 4, .int .i64 u, .int .i64 (j : Int), .int .i64 ww, .int .i64 r, .bool false, .int .i64 res] 31) (.cells #[.slice none 0 0, .int .i64 0, .int .i64 0, .int .i64 0, .int .i64 0, .int .i64 0, .int .i64 0, .int .i64 0, .int .i64 0, .bool false, .int .i64 0] 45)))
  have HB := Lib.hid (show Below w.heap.size w (((w.alloc (.cells #[.int .i64 k, .int .i64 x, .int .i64 y, .int .i64 4, .int .i64 u, .int .i64 (j : Int), .int .i64 ww, .int .i64 r, .bool false, .int .i64 res] 31)).alloc (.cells #[.slice none 0 0, .int .i64 0, .int .i64 0, .int .i64 0, .int .i64 0, .int .i64 0, .int .i64 0, .int .i64 0, .int .i64 0, .bool false, .int .i64 0] 45)).alloc (.cells #[] 3)) by go_grown)
  have HRW := Lib.hid (HR.out.kept HB.out)
  have HZ := Lib.hid (show (((w.alloc (.cells #[.int .i64 k, .int .i64 x, .int .i64 y, .int .i64 4, .int .i64 u, .int .i64 (j : Int), .int .i64 ww, .int .i64 r, .bool false, .int .i64 res] 31)).alloc (.cells #[.slice none 0 0, .int .i64 0, .int .i64 0, .int .i64 0, .int .i64 0, .int .i64 0, .int .i64 0, .int .i64 0, .int .i64 0, .bool false, .int .i64 0] 45)).alloc (.cells #[] 3)).heap.size = w.heap.size + 3 by simp)
  clear hsz hw0
  unfold tv
  go_enter Try.func17, Try.ntmps17
  go_wp2_with first
   |(at_builtin
     refine append_row (w.heap.size + 2) rfl (.tmp 10) (.tmp 11) 24 3 (.int .i64 0) 1 8 rfl Try.underlying24 info3 rfl (by omega) (by omega) (.slice (some ⟨w.heap.size + 1 + 1, 0, none⟩) 0 0) 0 [] (ints up) A up.length c rfl rfl HW0.out (by rw [Nat.mul_one]; exact HRW.out) (ints_one _) (by rw [HZ.out]; omega) (by omega) ?_
     intro v1 w1 hown hg hat
     rw [Nat.zero_add, List.nil_append] at hown
     obtain ⟨g, cap, rfl, hgb⟩ := own_pos hown hpos
     have HO := Lib.hid hown
     have hgl := (own_lt hown).2
     have hz1 := hg.size
     rw [HZ.out] at hz1
     have HB0 := Lib.hid ((hg.block w.heap.size (by rw [HZ.out]; omega) (by simp [Value.ownBlock]; omega)).trans HB0.out)
     have HB1 := Lib.hid ((hg.block (w.heap.size + 1) (by rw [HZ.out]; omega) (by simp [Value.ownBlock])).trans HB1.out)
     have HB := Lib.hid (HB.out.grown hg HB.out.size (fun j hj => by simp [Value.ownBlock] at hj; omega))
     have D0 := cells10 HB0.out
     have D1 := cells11 HB1.out
     have hne0 : g ≠ w.heap.size := by omega
     have hne1 : g ≠ w.heap.size + 1 := by omega
     have HP := Lib.hid (HP.out.kept HB.out)
     clear hown hg hat HRW HW0
     obtain ⟨c0, c1, c2, c3, c4, c5, c6, c7, c8, c9, f0, f1, f2, f3, f4, f5, f6, f7, f8, f9⟩ := D0
     obtain ⟨d0, d1, d2, d3, d4, d5, d6, d7, d8, d9, d10, e0, e1, e2, e3, e4, e5, e6, e7, e8, e9, e10⟩ := D1
     have c00 := own_cell_int HO.out j hj
     rw [HH.out] at c00)
  refine bodyPost_ret (v := sv (.slice (some ⟨g, 0, none⟩) up.length cap) ⟨k, x, y, 5, u, (j : Int), a, r, false, res⟩) (by simp [sv, results, Try.results17, go_sem, d0, d1, d2, d3, d4, d5, d6, d7, d8, d9, d10]) rfl ?_
  refine RStepO.of (base := w.heap.size + 2) rfl ?_ ?_ (by omega)
  · repeat (with_reducible refine own_set ?_ (by simp only; omega) _)
    exact HO.out
  · repeat (with_reducible refine Below.setCell ?_ (by simp only; omega) _)
    exact HB.out
set_option maxRecDepth 100000 in
set_option maxHeartbeats 4000000 in
theorem rstep_5n (A B : Option Addr) (c d : Nat) (up p : List Int) (k x y u v r res a : Int) (j : Nat) (w : World) (hr : RowI w A up) (hs : RowI w B p) (hlong : up.length ≤ 65536) (hpos : 0 < up.length) (hj : j < up.length) (ha : up.getD j 0 = a) (h1 : ¬ a = (j : Int)) : Calls Try.prog 17 #[.slice A up.length c, .slice B p.length d, tv ⟨k, x, y, 5, u, v, (j : Int), r, false, res⟩] w (RStepO up ⟨k, x, y, 6, u, v, (j : Int), a, false, res⟩ w) := by
  have HH := Lib.hid ha
  have q0 : (a == (j : Int)) = false := by simp [h1]
  clear ha h1
  have p0 : (0 : Int) ≤ (j : Int) := by omega
  have p1 : (j : Int) < (up.length : Int) := by omega
  have HR := Lib.hid hr
  have HP := Lib.hid hs
  clear hr hs
  have hsz : ((w.alloc (.cells #[.int .i64 k, .int .i64 x, .int .i64 y, .int .i64 5, .int .i64 u, .int .i64 v, .int .i64 (j : Int), .int .i64 r, .bool false, .int .i64 res] 31)).alloc (.cells #[.slice none 0 0, .int .i64 0, .int .i64 0, .int .i64 0, .int .i64 0, .int .i64 0, .int .i64 0, .int .i64 0, .int .i64 0, .bool false, .int .i64 0] 45)).heap.size = w.heap.size + 1 + 1 := by simp
  have hw0 := World.ownsRow_lit (base := w.heap.size + 2) (e := 3) (size := 1) ((w.alloc (.cells #[.int .i64 k, .int .i64 x, .int .i64 y, .int .i64 5, .int .i64 u, .int .i64 v, .int .i64 (j : Int), .int .i64 r, .bool false, .int .i64 res] 31)).alloc (.cells #[.slice none 0 0, .int .i64 0, .int .i64 0, .int .i64 0, .int .i64 0, .int .i64 0, .int .i64 0, .int .i64 0, .int .i64 0, .bool false, .int .i64 0] 45)) #[] 0 (by simp) (by simp [maxLen]) rfl
  rw [hsz] at hw0
  have HW0 := Lib.hid hw0
  have HB0 := Lib.hid ((heap_alloc_old ((w.alloc (.cells #[.int .i64 k, .int .i64 x, .int .i64 y, .int .i64 5, .int .i64 u, .int .i64 v, .int .i64 (j : Int), .int .i64 r, .bool false, .int .i64 res] 31)).alloc (.cells #[.slice none 0 0, .int .i64 0, .int .i64 0, .int .i64 0, .int .i64 0, .int .i64 0, .int .i64 0, .int .i64 0, .int .i64 0, .bool false, .int .i64 0] 45)) (.cells #[] 3) (by simp; omega)).trans (heap_alloc2_old w (.cells #[.int .i64 k, .int .i64 x, .int .i64 y, .int .i64 5, .int .i64 u, .int .i64 v, .int .i64 (j : Int), .int .i64 r, .bool false, .int .i64 res] 31) (.cells #[.slice none 0 0, .int .i64 0, .int .i64 0, .int .i64 0, .int .i64 0, .int .i64 0, .int .i64 0, .int .i64 0, .int .i64 0, .bool false, .int .i64 0] 45)))
  have HB1 := Lib.hid ((heap_alloc_old ((w.alloc (.cells #[.int .i64 k, .int .i64 x, .int .i64 y, .int .i64 5, .int .i64 u, .int .i64 v, .int .i64 (j : Int), .int .i64 r, .bool false, .int .i64 res] 31)).alloc (.cells #[.slice none 0 0, .int .i64 0, .int .i64 0, .int .i64 0, .int .i64 0, .int .i64 0, .int .i64 0, .int .i64 0, .int .i64 0, .bool false, .int .i64 0] 45)) (.cells #[] 3) (by simp)).trans (heap_alloc2_new w (.cells #[.int .i64 k, .int .i64 x, .int .i64 y, .int .i64 5, .int .i64 u, .int .i64 v, .int .i64 (j : Int), .int .i64 r, .bool false, .int .i64 res] 31) (.cells #[.slice none 0 0, .int .i64 0, .int .i64 0, .int .i64 0, .int .i64 0, .int .i64 0, .int .i64 0, .int .i64 0, .int .i64 0, .bool false, .int .i64 0] 45)))
  have HB := Lib.hid (show Below w.heap.size w (((w.alloc (.cells #[.int .i64 k, .int .i64 x, .int .i64 y, .int .i64 5, .int .i64 u, .int .i64 v, .int .i64 (j : Int), .int .i64 r, .bool false, .int .i64 res] 31)).alloc (.cells #[.slice none 0 0, .int .i64 0, .int .i64 0, .int .i64 0, .int .i64 0, .int .i64 0, .int .i64 0, .int .i64 0, .int .i64 0, .bool false, .int .i64 0] 45)).alloc (.cells #[] 3)) by go_grown)
  have HRW := Lib.hid (HR.out.kept HB.out)
  have HZ := Lib.hid (show (((w.alloc (.cells #[.int .i64 k, .int .i64 x, .int .i64 y, .int .i64 5, .int .i64 u, .int .i64 v, .int .i64 (j : Int), .int .i64 r, .bool false, .int .i64 res] 31)).alloc (.cells #[.slice none 0 0, .int .i64 0, .int .i64 0, .int .i64 0, .int .i64 0, .int .i64 0, .int .i64 0, .int .i64 0, .int .i64 0, .bool false, .int .i64 0] 45)).alloc (.cells #[] 3)).heap.size = w.heap.size + 3 by simp)
  clear hsz hw0
  unfold tv
  go_enter Try.func17, Try.ntmps17
  go_wp2_with first
   |(at_builtin
     refine append_row (w.heap.size + 2) rfl (.tmp 10) (.tmp 11) 24 3 (.int .i64 0) 1 8 rfl Try.underlying24 info3 rfl (by omega) (by omega) (.slice (some ⟨w.heap.size + 1 + 1, 0, none⟩) 0 0) 0 [] (ints up) A up.length c rfl rfl HW0.out (by rw [Nat.mul_one]; exact HRW.out) (ints_one _) (by rw [HZ.out]; omega) (by omega) ?_
     intro v1 w1 hown hg hat
     rw [Nat.zero_add, List.nil_append] at hown
     obtain ⟨g, cap, rfl, hgb⟩ := own_pos hown hpos
     have HO := Lib.hid hown
     have hgl := (own_lt hown).2
     have hz1 := hg.size
     rw [HZ.out] at hz1
     have HB0 := Lib.hid ((hg.block w.heap.size (by rw [HZ.out]; omega) (by simp [Value.ownBlock]; omega)).trans HB0.out)
     have HB1 := Lib.hid ((hg.block (w.heap.size + 1) (by rw [HZ.out]; omega) (by simp [Value.ownBlock])).trans HB1.out)
     have HB := Lib.hid (HB.out.grown hg HB.out.size (fun j hj => by simp [Value.ownBlock] at hj; omega))
     have D0 := cells10 HB0.out
     have D1 := cells11 HB1.out
     have hne0 : g ≠ w.heap.size := by omega
     have hne1 : g ≠ w.heap.size + 1 := by omega
     have HP := Lib.hid (HP.out.kept HB.out)
     clear hown hg hat HRW HW0
     obtain ⟨c0, c1, c2, c3, c4, c5, c6, c7, c8, c9, f0, f1, f2, f3, f4, f5, f6, f7, f8, f9⟩ := D0
     obtain ⟨d0, d1, d2, d3, d4, d5, d6, d7, d8, d9, d10, e0, e1, e2, e3, e4, e5, e6, e7, e8, e9, e10⟩ := D1
     have c00 := own_cell_int HO.out j hj
     rw [HH.out] at c00)
  refine bodyPost_ret (v := sv (.slice (some ⟨g, 0, none⟩) up.length cap) ⟨k, x, y, 6, u, v, (j : Int), a, false, res⟩) (by simp [sv, results, Try.results17, go_sem, d0, d1, d2, d3, d4, d5, d6, d7, d8, d9, d10]) rfl ?_
  refine RStepO.of (base := w.heap.size + 2) rfl ?_ ?_ (by omega)
  · repeat (with_reducible refine own_set ?_ (by simp only; omega) _)
    exact HO.out
  · repeat (with_reducible refine Below.setCell ?_ (by simp only; omega) _)
    exact HB.out
set_option maxRecDepth 100000 in
set_option maxHeartbeats 4000000 in
theorem rstep_7n (A B : Option Addr) (c d : Nat) (up p : List Int) (k x y v ww r res a : Int) (j : Nat) (w : World) (hr : RowI w A up) (hs : RowI w B p) (hlong : up.length ≤ 65536) (hpos : 0 < up.length) (hj : j < up.length) (ha : up.getD j 0 = a) (h1 : ¬ a = (j : Int)) : Calls Try.prog 17 #[.slice A up.length c, .slice B p.length d, tv ⟨k, x, y, 7, (j : Int), v, ww, r, false, res⟩] w (RStepO up ⟨k, x, y, 1, (j : Int), v, a, r, false, res⟩ w) := by
  have HH := Lib.hid ha
  have q0 : (a == (j : Int)) = false := by simp [h1]
  clear ha h1
  have p0 : (0 : Int) ≤ (j : Int) := by omega
  have p1 : (j : Int) < (up.length : Int) := by omega
  have HR := Lib.hid hr
  have HP := Lib.hid hs
  clear hr hs
  have hsz : ((w.alloc (.cells #[.int .i64 k, .int .i64 x, .int .i64 y, .int .i64 7, .int .i64 (j : Int), .int .i64 v, .int .i64 ww, .int .i64 r, .bool false, .int .i64 res] 31)).alloc (.cells #[.slice none 0 0, .int .i64 0, .int .i64 0, .int .i64 0, .int .i64 0, .int .i64 0, .int .i64 0, .int .i64 0, .int .i64 0, .bool false, .int .i64 0] 45)).heap.size = w.heap.size + 1 + 1 := by simp
  have hw0 := World.ownsRow_lit (base := w.heap.size + 2) (e := 3) (size := 1) ((w.alloc (.cells #[.int .i64 k, .int .i64 x, .int .i64 y, .int .i64 7, .int .i64 (j : Int), .int .i64 v, .int .i64 ww, .int .i64 r, .bool false, .int .i64 res] 31)).alloc (.cells #[.slice none 0 0, .int .i64 0, .int .i64 0, .int .i64 0, .int .i64 0, .int .i64 0, .int .i64 0, .int .i64 0, .int .i64 0, .bool false, .int .i64 0] 45)) #[] 0 (by simp) (by simp [maxLen]) rfl
  rw [hsz] at hw0
  have HW0 := Lib.hid hw0
  have HB0 := Lib.hid ((heap_alloc_old ((w.alloc (.cells #[.int .i64 k, .int .i64 x, .int .i64 y, .int .i64 7, .int .i64 (j : Int), .int .i64 v, .int .i64 ww, .int .i64 r, .bool false, .int .i64 res] 31)).alloc (.cells #[.slice none 0 0, .int .i64 0, .int .i64 0, .int .i64 0, .int .i64 0, .int .i64 0, .int .i64 0, .int .i64 0, .int .i64 0, .bool false, .int .i64 0] 45)) (.cells #[] 3) (by simp; omega)).trans (heap_alloc2_old w (.cells #[.int .i64 k, .int .i64 x, .int .i64 y, .int .i64 7, .int .i64 (j : Int), .int .i64 v, .int .i64 ww, .int .i64 r, .bool false, .int .i64 res] 31) (.cells #[.slice none 0 0, .int .i64 0, .int .i64 0, .int .i64 0, .int .i64 0, .int .i64 0, .int .i64 0, .int .i64 0, .int .i64 0, .bool false, .int .i64 0] 45)))
  have HB1 := Lib.hid ((heap_alloc_old ((w.alloc (.cells #[.int .i64 k, .int .i64 x, .int .i64 y, .int .i64 7, .int .i64 (j : Int), .int .i64 v, .int .i64 ww, .int .i64 r, .bool false, .int .i64 res] 31)).alloc (.cells #[.slice none 0 0, .int .i64 0, .int .i64 0, .int .i64 0, .int .i64 0, .int .i64 0, .int .i64 0, .int .i64 0, .int .i64 0, .bool false, .int .i64 0] 45)) (.cells #[] 3) (by simp)).trans (heap_alloc2_new w (.cells #[.int .i64 k, .int .i64 x, .int .i64 y, .int .i64 7, .int .i64 (j : Int), .int .i64 v, .int .i64 ww, .int .i64 r, .bool false, .int .i64 res] 31) (.cells #[.slice none 0 0, .int .i64 0, .int .i64 0, .int .i64 0, .int .i64 0, .int .i64 0, .int .i64 0, .int .i64 0, .int .i64 0, .bool false, .int .i64 0] 45)))
  have HB := Lib.hid (show Below w.heap.size w (((w.alloc (.cells #[.int .i64 k, .int .i64 x, .int .i64 y, .int .i64 7, .int .i64 (j : Int), .int .i64 v, .int .i64 ww, .int .i64 r, .bool false, .int .i64 res] 31)).alloc (.cells #[.slice none 0 0, .int .i64 0, .int .i64 0, .int .i64 0, .int .i64 0, .int .i64 0, .int .i64 0, .int .i64 0, .int .i64 0, .bool false, .int .i64 0] 45)).alloc (.cells #[] 3)) by go_grown)
  have HRW := Lib.hid (HR.out.kept HB.out)
  have HZ := Lib.hid (show (((w.alloc (.cells #[.int .i64 k, .int .i64 x, .int .i64 y, .int .i64 7, .int .i64 (j : Int), .int .i64 v, .int .i64 ww, .int .i64 r, .bool false, .int .i64 res] 31)).alloc (.cells #[.slice none 0 0, .int .i64 0, .int .i64 0, .int .i64 0, .int .i64 0, .int .i64 0, .int .i64 0, .int .i64 0, .int .i64 0, .bool false, .int .i64 0] 45)).alloc (.cells #[] 3)).heap.size = w.heap.size + 3 by simp)
  clear hsz hw0
  unfold tv
  go_enter Try.func17, Try.ntmps17
  go_wp2_with first
   |(at_builtin
     refine append_row (w.heap.size + 2) rfl (.tmp 10) (.tmp 11) 24 3 (.int .i64 0) 1 8 rfl Try.underlying24 info3 rfl (by omega) (by omega) (.slice (some ⟨w.heap.size + 1 + 1, 0, none⟩) 0 0) 0 [] (ints up) A up.length c rfl rfl HW0.out (by rw [Nat.mul_one]; exact HRW.out) (ints_one _) (by rw [HZ.out]; omega) (by omega) ?_
     intro v1 w1 hown hg hat
     rw [Nat.zero_add, List.nil_append] at hown
     obtain ⟨g, cap, rfl, hgb⟩ := own_pos hown hpos
     have HO := Lib.hid hown
     have hgl := (own_lt hown).2
     have hz1 := hg.size
     rw [HZ.out] at hz1
     have HB0 := Lib.hid ((hg.block w.heap.size (by rw [HZ.out]; omega) (by simp [Value.ownBlock]; omega)).trans HB0.out)
     have HB1 := Lib.hid ((hg.block (w.heap.size + 1) (by rw [HZ.out]; omega) (by simp [Value.ownBlock])).trans HB1.out)
     have HB := Lib.hid (HB.out.grown hg HB.out.size (fun j hj => by simp [Value.ownBlock] at hj; omega))
     have D0 := cells10 HB0.out
     have D1 := cells11 HB1.out
     have hne0 : g ≠ w.heap.size := by omega
     have hne1 : g ≠ w.heap.size + 1 := by omega
     have HP := Lib.hid (HP.out.kept HB.out)
     clear hown hg hat HRW HW0
     obtain ⟨c0, c1, c2, c3, c4, c5, c6, c7, c8, c9, f0, f1, f2, f3, f4, f5, f6, f7, f8, f9⟩ := D0
     obtain ⟨d0, d1, d2, d3, d4, d5, d6, d7, d8, d9, d10, e0, e1, e2, e3, e4, e5, e6, e7, e8, e9, e10⟩ := D1
     have c00 := own_cell_int HO.out j hj
     rw [HH.out] at c00)
  refine bodyPost_ret (v := sv (.slice (some ⟨g, 0, none⟩) up.length cap) ⟨k, x, y, 1, (j : Int), v, a, r, false, res⟩) (by simp [sv, results, Try.results17, go_sem, d0, d1, d2, d3, d4, d5, d6, d7, d8, d9, d10]) rfl ?_
  refine RStepO.of (base := w.heap.size + 2) rfl ?_ ?_ (by omega)
  · repeat (with_reducible refine own_set ?_ (by simp only; omega) _)
    exact HO.out
  · repeat (with_reducible refine Below.setCell ?_ (by simp only; omega) _)
    exact HB.out
set_option maxRecDepth 100000 in
set_option maxHeartbeats 4000000 in
theorem rstep_1e (A B : Option Addr) (c d : Nat) (up p : List Int) (k x y v ww r res : Int) (j : Nat) (k2 x2 y2 s2 u2 v2 ww2 r2 res2 : Int) (is2 : Bool) (w : World) (hr : RowI w A up) (hs : RowI w B p) (hlong : up.length ≤ 65536) (hpos : 0 < up.length) (hj : j < up.length) (ha : up.getD j 0 = (j : Int)) (hT : firstT ⟨k, x, y, 1, (j : Int), v, (j : Int), r, false, res⟩ = ⟨k2, x2, y2, s2, u2, v2, ww2, r2, is2, res2⟩) : Calls Try.prog 17 #[.slice A up.length c, .slice B p.length d, tv ⟨k, x, y, 1, (j : Int), v, ww, r, false, res⟩] w (RStepO up ⟨k2, x2, y2, s2, u2, v2, ww2, r2, is2, res2⟩ w) := by
  have HH := Lib.hid ha
  have HT := Lib.hid hT
  clear ha hT
  have p0 : (0 : Int) ≤ (j : Int) := by omega
  have p1 : (j : Int) < (up.length : Int) := by omega
  have HR := Lib.hid hr
  have HP := Lib.hid hs
  clear hr hs
  have hsz : ((w.alloc (.cells #[.int .i64 k, .int .i64 x, .int .i64 y, .int .i64 1, .int .i64 (j : Int), .int .i64 v, .int .i64 ww, .int .i64 r, .bool false, .int .i64 res] 31)).alloc (.cells #[.slice none 0 0, .int .i64 0, .int .i64 0, .int .i64 0, .int .i64 0, .int .i64 0, .int .i64 0, .int .i64 0, .int .i64 0, .bool false, .int .i64 0] 45)).heap.size = w.heap.size + 1 + 1 := by simp
  have hw0 := World.ownsRow_lit (base := w.heap.size + 2) (e := 3) (size := 1) ((w.alloc (.cells #[.int .i64 k, .int .i64 x, .int .i64 y, .int .i64 1, .int .i64 (j : Int), .int .i64 v, .int .i64 ww, .int .i64 r, .bool false, .int .i64 res] 31)).alloc (.cells #[.slice none 0 0, .int .i64 0, .int .i64 0, .int .i64 0, .int .i64 0, .int .i64 0, .int .i64 0, .int .i64 0, .int .i64 0, .bool false, .int .i64 0] 45)) #[] 0 (by simp) (by simp [maxLen]) rfl
  rw [hsz] at hw0
  have HW0 := Lib.hid hw0
  have HB0 := Lib.hid ((heap_alloc_old ((w.alloc (.cells #[.int .i64 k, .int .i64 x, .int .i64 y, .int .i64 1, .int .i64 (j : Int), .int .i64 v, .int .i64 ww, .int .i64 r, .bool false, .int .i64 res] 31)).alloc (.cells #[.slice none 0 0, .int .i64 0, .int .i64 0, .int .i64 0, .int .i64 0, .int .i64 0, .int .i64 0, .int .i64 0, .int .i64 0, .bool false, .int .i64 0] 45)) (.cells #[] 3) (by simp; omega)).trans (heap_alloc2_old w (.cells #[.int .i64 k, .int .i64 x, .int .i64 y, .int .i64 1, .int .i64 (j : Int), .int .i64 v, .int .i64 ww, .int .i64 r, .bool false, .int .i64 res] 31) (.cells #[.slice none 0 0, .int .i64 0, .int .i64 0, .int .i64 0, .int .i64 0, .int .i64 0, .int .i64 0, .int .i64 0, .int .i64 0, .bool false, .int .i64 0] 45)))
  have HB1 := Lib.hid ((heap_alloc_old ((w.alloc (.cells #[.int .i64 k, .int .i64 x, .int .i64 y, .int .i64 1, .int .i64 (j : Int), .int .i64 v, .int .i64 ww, .int .i64 r, .bool false, .int .i64 res] 31)).alloc (.cells #[.slice none 0 0, .int .i64 0, .int .i64 0, .int .i64 0, .int .i64 0, .int .i64 0, .int .i64 0, .int .i64 0, .int .i64 0, .bool false, .int .i64 0] 45)) (.cells #[] 3) (by simp)).trans (heap_alloc2_new w (.cells #[.int .i64 k, .int .i64 x, .int .i64 y, .int .i64 1, .int .i64 (j : Int), .int .i64 v, .int .i64 ww, .int .i64 r, .bool false, .int .i64 res] 31) (.cells #[.slice none 0 0, .int .i64 0, .int .i64 0, .int .i64 0, .int .i64 0, .int .i64 0, .int .i64 0, .int .i64 0, .int .i64 0, .bool false, .int .i64 0] 45)))
  have HB := Lib.hid (show Below w.heap.size w (((w.alloc (.cells #[.int .i64 k, .int .i64 x, .int .i64 y, .int .i64 1, .int .i64 (j : Int), .int .i64 v, .int .i64 ww, .int .i64 r, .bool false, .int .i64 res] 31)).alloc (.cells #[.slice none 0 0, .int .i64 0, .int .i64 0, .int .i64 0, .int .i64 0, .int .i64 0, .int .i64 0, .int .i64 0, .int .i64 0, .bool false, .int .i64 0] 45)).alloc (.cells #[] 3)) by go_grown)
  have HRW := Lib.hid (HR.out.kept HB.out)
  have HZ := Lib.hid (show (((w.alloc (.cells #[.int .i64 k, .int .i64 x, .int .i64 y, .int .i64 1, .int .i64 (j : Int), .int .i64 v, .int .i64 ww, .int .i64 r, .bool false, .int .i64 res] 31)).alloc (.cells #[.slice none 0 0, .int .i64 0, .int .i64 0, .int .i64 0, .int .i64 0, .int .i64 0, .int .i64 0, .int .i64 0, .int .i64 0, .bool false, .int .i64 0] 45)).alloc (.cells #[] 3)).heap.size = w.heap.size + 3 by simp)
  clear hsz hw0
  unfold tv
  go_enter Try.func17, Try.ntmps17
  go_wp2_with first
   |(at_builtin
     refine append_row (w.heap.size + 2) rfl (.tmp 10) (.tmp 11) 24 3 (.int .i64 0) 1 8 rfl Try.underlying24 info3 rfl (by omega) (by omega) (.slice (some ⟨w.heap.size + 1 + 1, 0, none⟩) 0 0) 0 [] (ints up) A up.length c rfl rfl HW0.out (by rw [Nat.mul_one]; exact HRW.out) (ints_one _) (by rw [HZ.out]; omega) (by omega) ?_
     intro v1 w1 hown hg hat
     rw [Nat.zero_add, List.nil_append] at hown
     obtain ⟨g, cap, rfl, hgb⟩ := own_pos hown hpos
     have HO := Lib.hid hown
     have hgl := (own_lt hown).2
     have hz1 := hg.size
     rw [HZ.out] at hz1
     have HB0 := Lib.hid ((hg.block w.heap.size (by rw [HZ.out]; omega) (by simp [Value.ownBlock]; omega)).trans HB0.out)
     have HB1 := Lib.hid ((hg.block (w.heap.size + 1) (by rw [HZ.out]; omega) (by simp [Value.ownBlock])).trans HB1.out)
     have HB := Lib.hid (HB.out.grown hg HB.out.size (fun j hj => by simp [Value.ownBlock] at hj; omega))
     have D0 := cells10 HB0.out
     have D1 := cells11 HB1.out
     have hne0 : g ≠ w.heap.size := by omega
     have hne1 : g ≠ w.heap.size + 1 := by omega
     have HP := Lib.hid (HP.out.kept HB.out)
     clear hown hg hat HRW HW0
     obtain ⟨c0, c1, c2, c3, c4, c5, c6, c7, c8, c9, f0, f1, f2, f3, f4, f5, f6, f7, f8, f9⟩ := D0
     obtain ⟨d0, d1, d2, d3, d4, d5, d6, d7, d8, d9, d10, e0, e1, e2, e3, e4, e5, e6, e7, e8, e9, e10⟩ := D1
     have c00 := own_cell_int HO.out j hj
     rw [HH.out] at c00)
   |(go_at_call 31
     have hd := rfirst_any ⟨k, x, y, 1, (j : Int), v, (j : Int), r, false, res⟩ (w1.setCell ⟨w.heap.size, 6, none⟩ (.int .i64 (j : Int))) 
     rw [HT.out] at hd
     simp only [tv] at hd
     refine hd.mono ?_
     clear hd
     rintro e w2 ⟨he, hb⟩
     simp only [tv] at he
     subst he
     have hzz : (w1.setCell ⟨w.heap.size, 6, none⟩ (.int .i64 (j : Int))).heap.size = w1.heap.size := by simp only [World.size_setCell]
     have HO := Lib.hid (own_kept (own_set HO.out (p := ⟨w.heap.size, 6, none⟩) hne0.symm _) hb)
     have D1 := cells11 ((hb.block (w.heap.size + 1) (by omega)).trans ((Below.heap_setCell _ _ _ _ (by simp)).trans HB1.out))
     have HB := Lib.hid (below_next (HB.out.setCell (p := ⟨w.heap.size, 6, none⟩) (Nat.le_refl _) _) hb (by omega))
     clear hb hzz d0 d1 d2 d3 d4 d5 d6 d7 d8 d9 d10 e0 e1 e2 e3 e4 e5 e6 e7 e8 e9 e10
     obtain ⟨d0, d1, d2, d3, d4, d5, d6, d7, d8, d9, d10, e0, e1, e2, e3, e4, e5, e6, e7, e8, e9, e10⟩ := D1)
  refine bodyPost_ret (v := sv (.slice (some ⟨g, 0, none⟩) up.length cap) ⟨k2, x2, y2, s2, u2, v2, ww2, r2, is2, res2⟩) (by simp [sv, results, Try.results17, go_sem, d0, d1, d2, d3, d4, d5, d6, d7, d8, d9, d10]) rfl ?_
  refine RStepO.of (base := w.heap.size + 2) rfl ?_ ?_ (by omega)
  · repeat (with_reducible refine own_set ?_ (by simp only; omega) _)
    exact HO.out
  · repeat (with_reducible refine Below.setCell ?_ (by simp only; omega) _)
    exact HB.out
set_option maxRecDepth 100000 in
set_option maxHeartbeats 4000000 in
theorem rstep_2e (A B : Option Addr) (c d : Nat) (up p : List Int) (k x y u v r res : Int) (j : Nat) (k2 x2 y2 s2 u2 v2 ww2 r2 res2 : Int) (is2 : Bool) (w : World) (hr : RowI w A up) (hs : RowI w B p) (hlong : up.length ≤ 65536) (hpos : 0 < up.length) (hj : j < up.length) (ha : up.getD j 0 = (j : Int)) (hT : firstT ⟨k, x, y, 2, (j : Int), v, (j : Int), (j : Int), false, res⟩ = ⟨k2, x2, y2, s2, u2, v2, ww2, r2, is2, res2⟩) : Calls Try.prog 17 #[.slice A up.length c, .slice B p.length d, tv ⟨k, x, y, 2, u, v, (j : Int), r, false, res⟩] w (RStepO up ⟨k2, x2, y2, s2, u2, v2, ww2, r2, is2, res2⟩ w) := by
  have HH := Lib.hid ha
  have HT := Lib.hid hT
  clear ha hT
  have p0 : (0 : Int) ≤ (j : Int) := by omega
  have p1 : (j : Int) < (up.length : Int) := by omega
  have HR := Lib.hid hr
  have HP := Lib.hid hs
  clear hr hs
  have hsz : ((w.alloc (.cells #[.int .i64 k, .int .i64 x, .int .i64 y, .int .i64 2, .int .i64 u, .int .i64 v, .int .i64 (j : Int), .int .i64 r, .bool false, .int .i64 res] 31)).alloc (.cells #[.slice none 0 0, .int .i64 0, .int .i64 0, .int .i64 0, .int .i64 0, .int .i64 0, .int .i64 0, .int .i64 0, .int .i64 0, .bool false, .int .i64 0] 45)).heap.size = w.heap.size + 1 + 1 := by simp
  have hw0 := World.ownsRow_lit (base := w.heap.size + 2) (e := 3) (size := 1) ((w.alloc (.cells #[.int .i64 k, .int .i64 x, .int .i64 y, .int .i64 2, .int .i64 u, .int .i64 v, .int .i64 (j : Int), .int .i64 r, .bool false, .int .i64 res] 31)).alloc (.cells #[.slice none 0 0, .int .i64 0, .int .i64 0, .int .i64 0, .int .i64 0, .int .i64 0, .int .i64 0, .int .i64 0, .int .i64 0, .bool false, .int .i64 0] 45)) #[] 0 (by simp) (by simp [maxLen]) rfl
  rw [hsz] at hw0
  have HW0 := Lib.hid hw0
  have HB0 := Lib.hid ((heap_alloc_old ((w.alloc (.cells #[.int .i64 k, .int .i64 x, .int .i64 y, .int .i64 2, .int .i64 u, .int .i64 v, .int .i64 (j : Int), .int .i64 r, .bool false, .int .i64 res] 31)).alloc (.cells #[.slice none 0 0, .int .i64 0, .int .i64 0, .int .i64 0, .int .i64 0, .int .i64 0, .int .i64 0, .int .i64 0, .int .i64 0, .bool false, .int .i64 0] 45)) (.cells #[] 3) (by simp; omega)).trans (heap_alloc2_old w (.cells #[.int .i64 k, .int .i64 x, .int .i64 y, .int .i64 2, .int .i64 u, .int .i64 v, .int .i64 (j : Int), .int .i64 r, .bool false, .int .i64 res] 31) (.cells #[.slice none 0 0, .int .i64 0, .int .i64 0, .int .i64 0, .int .i64 0, .int .i64 0, .int .i64 0, .int .i64 0, .int .i64 0, .bool false, .int .i64 0] 45)))
  have HB1 := Lib.hid ((heap_alloc_old ((w.alloc (.cells #[.int .i64 k, .int .i64 x, .int .i64 y, .int .i64 2, .int .i64 u, .int .i64 v, .int .i64 (j : Int), .int .i64 r, .bool false, .int .i64 res] 31)).alloc (.cells #[.slice none 0 0, .int .i64 0, .int .i64 0, .int .i64 0, .int .i64 0, .int .i64 0, .int .i64 0, .int .i64 0, .int .i64 0, .bool false, .int .i64 0] 45)) (.cells #[] 3) (by simp)).trans (heap_alloc2_new w (.cells #[.int .i64 k, .int .i64 x, .int .i64 y, .int .i64 2, .int .i64 u, .int .i64 v, .int .i64 (j : Int), .int .i64 r, .bool false, .int .i64 res] 31) (.cells #[.slice none 0 0, .int .i64 0, .int .i64 0, .int .i64 0, .int .i64 0, .int .i64 0, .int .i64 0, .int .i64 0, .int .i64 0, .bool false, .int .i64 0] 45)))
  have HB := Lib.hid (show Below w.heap.size w (((w.alloc (.cells #[.int .i64 k, .int .i64 x, .int .i64 y, .int .i64 2, .int .i64 u, .int .i64 v, .int .i64 (j : Int), .int .i64 r, .bool false, .int .i64 res] 31)).alloc (.cells #[.slice none 0 0, .int .i64 0, .int .i64 0, .int .i64 0, .int .i64 0, .int .i64 0, .int .i64 0, .int .i64 0, .int .i64 0, .bool false, .int .i64 0] 45)).alloc (.cells #[] 3)) by go_grown)
  have HRW := Lib.hid (HR.out.kept HB.out)
  have HZ := Lib.hid (show (((w.alloc (.cells #[.int .i64 k, .int .i64 x, .int .i64 y, .int .i64 2, .int .i64 u, .int .i64 v, .int .i64 (j : Int), .int .i64 r, .bool false, .int .i64 res] 31)).alloc (.cells #[.slice none 0 0, .int .i64 0, .int .i64 0, .int .i64 0, .int .i64 0, .int .i64 0, .int .i64 0, .int .i64 0, .int .i64 0, .bool false, .int .i64 0] 45)).alloc (.cells #[] 3)).heap.size = w.heap.size + 3 by simp)
  clear hsz hw0
  unfold tv
  go_enter Try.func17, Try.ntmps17
  go_wp2_with first
   |(at_builtin
     refine append_row (w.heap.size + 2) rfl (.tmp 10) (.tmp 11) 24 3 (.int .i64 0) 1 8 rfl Try.underlying24 info3 rfl (by omega) (by omega) (.slice (some ⟨w.heap.size + 1 + 1, 0, none⟩) 0 0) 0 [] (ints up) A up.length c rfl rfl HW0.out (by rw [Nat.mul_one]; exact HRW.out) (ints_one _) (by rw [HZ.out]; omega) (by omega) ?_
     intro v1 w1 hown hg hat
     rw [Nat.zero_add, List.nil_append] at hown
     obtain ⟨g, cap, rfl, hgb⟩ := own_pos hown hpos
     have HO := Lib.hid hown
     have hgl := (own_lt hown).2
     have hz1 := hg.size
     rw [HZ.out] at hz1
     have HB0 := Lib.hid ((hg.block w.heap.size (by rw [HZ.out]; omega) (by simp [Value.ownBlock]; omega)).trans HB0.out)
     have HB1 := Lib.hid ((hg.block (w.heap.size + 1) (by rw [HZ.out]; omega) (by simp [Value.ownBlock])).trans HB1.out)
     have HB := Lib.hid (HB.out.grown hg HB.out.size (fun j hj => by simp [Value.ownBlock] at hj; omega))
     have D0 := cells10 HB0.out
     have D1 := cells11 HB1.out
     have hne0 : g ≠ w.heap.size := by omega
     have hne1 : g ≠ w.heap.size + 1 := by omega
     have HP := Lib.hid (HP.out.kept HB.out)
     clear hown hg hat HRW HW0
     obtain ⟨c0, c1, c2, c3, c4, c5, c6, c7, c8, c9, f0, f1, f2, f3, f4, f5, f6, f7, f8, f9⟩ := D0
     obtain ⟨d0, d1, d2, d3, d4, d5, d6, d7, d8, d9, d10, e0, e1, e2, e3, e4, e5, e6, e7, e8, e9, e10⟩ := D1
     have c00 := own_cell_int HO.out j hj
     rw [HH.out] at c00)
   |(go_at_call 31
     have hd := rfirst_any ⟨k, x, y, 2, (j : Int), v, (j : Int), (j : Int), false, res⟩ ((w1.setCell ⟨w.heap.size, 7, none⟩ (.int .i64 (j : Int))).setCell ⟨w.heap.size, 4, none⟩ (.int .i64 (j : Int))) 
     rw [HT.out] at hd
     simp only [tv] at hd
     refine hd.mono ?_
     clear hd
     rintro e w2 ⟨he, hb⟩
     simp only [tv] at he
     subst he
     have hzz : ((w1.setCell ⟨w.heap.size, 7, none⟩ (.int .i64 (j : Int))).setCell ⟨w.heap.size, 4, none⟩ (.int .i64 (j : Int))).heap.size = w1.heap.size := by simp only [World.size_setCell]
     have HO := Lib.hid (own_kept (own_set (own_set HO.out (p := ⟨w.heap.size, 7, none⟩) hne0.symm _) (p := ⟨w.heap.size, 4, none⟩) hne0.symm _) hb)
     have D1 := cells11 ((hb.block (w.heap.size + 1) (by omega)).trans ((Below.heap_setCell _ _ _ _ (by simp)).trans ((Below.heap_setCell _ _ _ _ (by simp)).trans HB1.out)))
     have HB := Lib.hid (below_next ((HB.out.setCell (p := ⟨w.heap.size, 7, none⟩) (Nat.le_refl _) _).setCell (p := ⟨w.heap.size, 4, none⟩) (Nat.le_refl _) _) hb (by omega))
     clear hb hzz d0 d1 d2 d3 d4 d5 d6 d7 d8 d9 d10 e0 e1 e2 e3 e4 e5 e6 e7 e8 e9 e10
     obtain ⟨d0, d1, d2, d3, d4, d5, d6, d7, d8, d9, d10, e0, e1, e2, e3, e4, e5, e6, e7, e8, e9, e10⟩ := D1)
  refine bodyPost_ret (v := sv (.slice (some ⟨g, 0, none⟩) up.length cap) ⟨k2, x2, y2, s2, u2, v2, ww2, r2, is2, res2⟩) (by simp [sv, results, Try.results17, go_sem, d0, d1, d2, d3, d4, d5, d6, d7, d8, d9, d10]) rfl ?_
  refine RStepO.of (base := w.heap.size + 2) rfl ?_ ?_ (by omega)
  · repeat (with_reducible refine own_set ?_ (by simp only; omega) _)
    exact HO.out
  · repeat (with_reducible refine Below.setCell ?_ (by simp only; omega) _)
    exact HB.out
set_option maxRecDepth 100000 in
set_option maxHeartbeats 4000000 in
theorem rstep_4e (A B : Option Addr) (c d : Nat) (up p : List Int) (k x y u ww r res : Int) (j : Nat) (k2 x2 y2 s2 u2 v2 ww2 r2 res2 : Int) (is2 : Bool) (w : World) (hr : RowI w A up) (hs : RowI w B p) (hlong : up.length ≤ 65536) (hpos : 0 < up.length) (hj : j < up.length) (ha : up.getD j 0 = (j : Int)) (hk : k = 2 ∨ k = 3) (hT : secondT ⟨k, x, y, 4, u, (j : Int), (j : Int), r, false, res⟩ = ⟨k2, x2, y2, s2, u2, v2, ww2, r2, is2, res2⟩) : Calls Try.prog 17 #[.slice A up.length c, .slice B p.length d, tv ⟨k, x, y, 4, u, (j : Int), ww, r, false, res⟩] w (RStepO up ⟨k2, x2, y2, s2, u2, v2, ww2, r2, is2, res2⟩ w) := by
  have HH := Lib.hid ha
  have HT := Lib.hid hT
  have HK := Lib.hid hk
  clear hk
  clear ha hT
  have p0 : (0 : Int) ≤ (j : Int) := by omega
  have p1 : (j : Int) < (up.length : Int) := by omega
  have HR := Lib.hid hr
  have HP := Lib.hid hs
  clear hr hs
  have hsz : ((w.alloc (.cells #[.int .i64 k, .int .i64 x, .int .i64 y, .int .i64 4, .int .i64 u, .int .i64 (j : Int), .int .i64 ww, .int .i64 r, .bool false, .int .i64 res] 31)).alloc (.cells #[.slice none 0 0, .int .i64 0, .int .i64 0, .int .i64 0, .int .i64 0, .int .i64 0, .int .i64 0, .int .i64 0, .int .i64 0, .bool false, .int .i64 0] 45)).heap.size = w.heap.size + 1 + 1 := by simp
  have hw0 := World.ownsRow_lit (base := w.heap.size + 2) (e := 3) (size := 1) ((w.alloc (.cells #[.int .i64 k, .int .i64 x, .int .i64 y, .int .i64 4, .int .i64 u, .int .i64 (j : Int), .int .i64 ww, .int .i64 r, .bool false, .int .i64 res] 31)).alloc (.cells #[.slice none 0 0, .int .i64 0, .int .i64 0, .int .i64 0, .int .i64 0, .int .i64 0, .int .i64 0, .int .i64 0, .int .i64 0, .bool false, .int .i64 0] 45)) #[] 0 (by simp) (by simp [maxLen]) rfl
  rw [hsz] at hw0
  have HW0 := Lib.hid hw0
  have HB0 := Lib.hid ((heap_alloc_old ((w.alloc (.cells #[.int .i64 k, .int .i64 x, .int .i64 y, .int .i64 4, .int .i64 u, .int .i64 (j : Int), .int .i64 ww, .int .i64 r, .bool false, .int .i64 res] 31)).alloc (.cells #[.slice none 0 0, .int .i64 0, .int .i64 0, .int .i64 0, .int .i64 0, .int .i64 0, .int .i64 0, .int .i64 0, .int .i64 0, .bool false, .int .i64 0] 45)) (.cells #[] 3) (by simp; omega)).trans (heap_alloc2_old w (.cells #[.int .i64 k, .int .i64 x, .int .i64 y, .int .i64 4, .int .i64 u, .int .i64 (j : Int), .int .i64 ww, .int .i64 r, .bool false, .int .i64 res] 31) (.cells #[.slice none 0 0, .int .i64 0, .int .i64 0, .int .i64 0, .int .i64 0, .int .i64 0, .int .i64 0, .int .i64 0, .int .i64 0, .bool false, .int .i64 0] 45)))
  have HB1 := Lib.hid ((heap_alloc_old ((w.alloc (.cells #[.int .i64 k, .int .i64 x, .int .i64 y, .int .i64 4, .int .i64 u, .int .i64 (j : Int), .int .i64 ww, .int .i64 r, .bool false, .int .i64 res] 31)).alloc (.cells #[.slice none 0 0, .int .i64 0, .int .i64 0, .int .i64 0, .int .i64 0, .int .i64 0, .int .i64 0, .int .i64 0, .int .i64 0, .bool false, .int .i64 0] 45)) (.cells #[] 3) (by simp)).trans (heap_alloc2_new w (.cells #[.int .i64 k, .int .i64 x, .int .i64 y, .int .i64 4, .int .i64 u, .int .i64 (j : Int), .int .i64 ww, .int .i64 r, .bool false, .int .i64 res] 31) (.cells #[.slice none 0 0, .int .i64 0, .int .i64 0, .int .i64 0, .int .i64 0, .int .i64 0, .int .i64 0, .int .i64 0, .int .i64 0, .bool false, .int .i64 0] 45)))
  have HB := Lib.hid (show Below w.heap.size w (((w.alloc (.cells #[.int .i64 k, .int .i64 x, .int .i64 y, .int .i64 4, .int .i64 u, .int .i64 (j : Int), .int .i64 ww, .int .i64 r, .bool false, .int .i64 res] 31)).alloc (.cells #[.slice none 0 0, .int .i64 0, .int .i64 0, .int .i64 0, .int .i64 0, .int .i64 0, .int .i64 0, .int .i64 0, .int .i64 0, .bool false, .int .i64 0] 45)).alloc (.cells #[] 3)) by go_grown)
  have HRW := Lib.hid (HR.out.kept HB.out)
  have HZ := Lib.hid (show (((w.alloc (.cells #[.int .i64 k, .int .i64 x, .int .i64 y, .int .i64 4, .int .i64 u, .int .i64 (j : Int), .int .i64 ww, .int .i64 r, .bool false, .int .i64 res] 31)).alloc (.cells #[.slice none 0 0, .int .i64 0, .int .i64 0, .int .i64 0, .int .i64 0, .int .i64 0, .int .i64 0, .int .i64 0, .int .i64 0, .bool false, .int .i64 0] 45)).alloc (.cells #[] 3)).heap.size = w.heap.size + 3 by simp)
  clear hsz hw0
  unfold tv
  go_enter Try.func17, Try.ntmps17
  go_wp2_with first
   |(at_builtin
     refine append_row (w.heap.size + 2) rfl (.tmp 10) (.tmp 11) 24 3 (.int .i64 0) 1 8 rfl Try.underlying24 info3 rfl (by omega) (by omega) (.slice (some ⟨w.heap.size + 1 + 1, 0, none⟩) 0 0) 0 [] (ints up) A up.length c rfl rfl HW0.out (by rw [Nat.mul_one]; exact HRW.out) (ints_one _) (by rw [HZ.out]; omega) (by omega) ?_
     intro v1 w1 hown hg hat
     rw [Nat.zero_add, List.nil_append] at hown
     obtain ⟨g, cap, rfl, hgb⟩ := own_pos hown hpos
     have HO := Lib.hid hown
     have hgl := (own_lt hown).2
     have hz1 := hg.size
     rw [HZ.out] at hz1
     have HB0 := Lib.hid ((hg.block w.heap.size (by rw [HZ.out]; omega) (by simp [Value.ownBlock]; omega)).trans HB0.out)
     have HB1 := Lib.hid ((hg.block (w.heap.size + 1) (by rw [HZ.out]; omega) (by simp [Value.ownBlock])).trans HB1.out)
     have HB := Lib.hid (HB.out.grown hg HB.out.size (fun j hj => by simp [Value.ownBlock] at hj; omega))
     have D0 := cells10 HB0.out
     have D1 := cells11 HB1.out
     have hne0 : g ≠ w.heap.size := by omega
     have hne1 : g ≠ w.heap.size + 1 := by omega
     have HP := Lib.hid (HP.out.kept HB.out)
     clear hown hg hat HRW HW0
     obtain ⟨c0, c1, c2, c3, c4, c5, c6, c7, c8, c9, f0, f1, f2, f3, f4, f5, f6, f7, f8, f9⟩ := D0
     obtain ⟨d0, d1, d2, d3, d4, d5, d6, d7, d8, d9, d10, e0, e1, e2, e3, e4, e5, e6, e7, e8, e9, e10⟩ := D1
     have c00 := own_cell_int HO.out j hj
     rw [HH.out] at c00)
   |(go_at_call 33
     have hd := rsecond_any ⟨k, x, y, 4, u, (j : Int), (j : Int), r, false, res⟩ (w1.setCell ⟨w.heap.size, 6, none⟩ (.int .i64 (j : Int))) HK.out
     rw [HT.out] at hd
     simp only [tv] at hd
     refine hd.mono ?_
     clear hd
     rintro e w2 ⟨he, hb⟩
     simp only [tv] at he
     subst he
     have hzz : (w1.setCell ⟨w.heap.size, 6, none⟩ (.int .i64 (j : Int))).heap.size = w1.heap.size := by simp only [World.size_setCell]
     have HO := Lib.hid (own_kept (own_set HO.out (p := ⟨w.heap.size, 6, none⟩) hne0.symm _) hb)
     have D1 := cells11 ((hb.block (w.heap.size + 1) (by omega)).trans ((Below.heap_setCell _ _ _ _ (by simp)).trans HB1.out))
     have HB := Lib.hid (below_next (HB.out.setCell (p := ⟨w.heap.size, 6, none⟩) (Nat.le_refl _) _) hb (by omega))
     clear hb hzz d0 d1 d2 d3 d4 d5 d6 d7 d8 d9 d10 e0 e1 e2 e3 e4 e5 e6 e7 e8 e9 e10
     obtain ⟨d0, d1, d2, d3, d4, d5, d6, d7, d8, d9, d10, e0, e1, e2, e3, e4, e5, e6, e7, e8, e9, e10⟩ := D1)
  refine bodyPost_ret (v := sv (.slice (some ⟨g, 0, none⟩) up.length cap) ⟨k2, x2, y2, s2, u2, v2, ww2, r2, is2, res2⟩) (by simp [sv, results, Try.results17, go_sem, d0, d1, d2, d3, d4, d5, d6, d7, d8, d9, d10]) rfl ?_
  refine RStepO.of (base := w.heap.size + 2) rfl ?_ ?_ (by omega)
  · repeat (with_reducible refine own_set ?_ (by simp only; omega) _)
    exact HO.out
  · repeat (with_reducible refine Below.setCell ?_ (by simp only; omega) _)
    exact HB.out
set_option maxRecDepth 100000 in
set_option maxHeartbeats 4000000 in
theorem rstep_5e (A B : Option Addr) (c d : Nat) (up p : List Int) (k x y u v r res : Int) (j : Nat) (k2 x2 y2 s2 u2 v2 ww2 r2 res2 : Int) (is2 : Bool) (w : World) (hr : RowI w A up) (hs : RowI w B p) (hlong : up.length ≤ 65536) (hpos : 0 < up.length) (hj : j < up.length) (ha : up.getD j 0 = (j : Int)) (hk : k = 2 ∨ k = 3) (hT : secondT ⟨k, x, y, 5, u, (j : Int), (j : Int), (j : Int), false, res⟩ = ⟨k2, x2, y2, s2, u2, v2, ww2, r2, is2, res2⟩) : Calls Try.prog 17 #[.slice A up.length c, .slice B p.length d, tv ⟨k, x, y, 5, u, v, (j : Int), r, false, res⟩] w (RStepO up ⟨k2, x2, y2, s2, u2, v2, ww2, r2, is2, res2⟩ w) := by
  have HH := Lib.hid ha
  have HT := Lib.hid hT
  have HK := Lib.hid hk
  clear hk
  clear ha hT
  have p0 : (0 : Int) ≤ (j : Int) := by omega
  have p1 : (j : Int) < (up.length : Int) := by omega
  have HR := Lib.hid hr
  have HP := Lib.hid hs
  clear hr hs
  have hsz : ((w.alloc (.cells #[.int .i64 k, .int .i64 x, .int .i64 y, .int .i64 5, .int .i64 u, .int .i64 v, .int .i64 (j : Int), .int .i64 r, .bool false, .int .i64 res] 31)).alloc (.cells #[.slice none 0 0, .int .i64 0, .int .i64 0, .int .i64 0, .int .i64 0, .int .i64 0, .int .i64 0, .int .i64 0, .int .i64 0, .bool false, .int .i64 0] 45)).heap.size = w.heap.size + 1 + 1 := by simp
  have hw0 := World.ownsRow_lit (base := w.heap.size + 2) (e := 3) (size := 1) ((w.alloc (.cells #[.int .i64 k, .int .i64 x, .int .i64 y, .int .i64 5, .int .i64 u, .int .i64 v, .int .i64 (j : Int), .int .i64 r, .bool false, .int .i64 res] 31)).alloc (.cells #[.slice none 0 0, .int .i64 0, .int .i64 0, .int .i64 0, .int .i64 0, .int .i64 0, .int .i64 0, .int .i64 0, .int .i64 0, .bool false, .int .i64 0] 45)) #[] 0 (by simp) (by simp [maxLen]) rfl
  rw [hsz] at hw0
  have HW0 := Lib.hid hw0
  have HB0 := Lib.hid ((heap_alloc_old ((w.alloc (.cells #[.int .i64 k, .int .i64 x, .int .i64 y, .int .i64 5, .int .i64 u, .int .i64 v, .int .i64 (j : Int), .int .i64 r, .bool false, .int .i64 res] 31)).alloc (.cells #[.slice none 0 0, .int .i64 0, .int .i64 0, .int .i64 0, .int .i64 0, .int .i64 0, .int .i64 0, .int .i64 0, .int .i64 0, .bool false, .int .i64 0] 45)) (.cells #[] 3) (by simp; omega)).trans (heap_alloc2_old w (.cells #[.int .i64 k, .int .i64 x, .int .i64 y, .int .i64 5, .int .i64 u, .int .i64 v, .int .i64 (j : Int), .int .i64 r, .bool false, .int .i64 res] 31) (.cells #[.slice none 0 0, .int .i64 0, .int .i64 0, .int .i64 0, .int .i64 0, .int .i64 0, .int .i64 0, .int .i64 0, .int .i64 0, .bool false, .int .i64 0] 45)))
  have HB1 := Lib.hid ((heap_alloc_old ((w.alloc (.cells #[.int .i64 k, .int .i64 x, .int .i64 y, .int .i64 5, .int .i64 u, .int .i64 v, .int .i64 (j : Int), .int .i64 r, .bool false, .int .i64 res] 31)).alloc (.cells #[.slice none 0 0, .int .i64 0, .int .i64 0, .int .i64 0, .int .i64 0, .int .i64 0, .int .i64 0, .int .i64 0, .int .i64 0, .bool false, .int .i64 0] 45)) (.cells #[] 3) (by simp)).trans (heap_alloc2_new w (.cells #[.int .i64 k, .int .i64 x, .int .i64 y, .int .i64 5, .int .i64 u, .int .i64 v, .int .i64 (j : Int), .int .i64 r, .bool false, .int .i64 res] 31) (.cells #[.slice none 0 0, .int .i64 0, .int .i64 0, .int .i64 0, .int .i64 0, .int .i64 0, .int .i64 0, .int .i64 0, .int .i64 0, .bool false, .int .i64 0] 45)))
  have HB := Lib.hid (show Below w.heap.size w (((w.alloc (.cells #[.int .i64 k, .int .i64 x, .int .i64 y, .int .i64 5, .int .i64 u, .int .i64 v, .int .i64 (j : Int), .int .i64 r, .bool false, .int .i64 res] 31)).alloc (.cells #[.slice none 0 0, .int .i64 0, .int .i64 0, .int .i64 0, .int .i64 0, .int .i64 0, .int .i64 0, .int .i64 0, .int .i64 0, .bool false, .int .i64 0] 45)).alloc (.cells #[] 3)) by go_grown)
  have HRW := Lib.hid (HR.out.kept HB.out)
  have HZ := Lib.hid (show (((w.alloc (.cells #[.int .i64 k, .int .i64 x, .int .i64 y, .int .i64 5, .int .i64 u, .int .i64 v, .int .i64 (j : Int), .int .i64 r, .bool false, .int .i64 res] 31)).alloc (.cells #[.slice none 0 0, .int .i64 0, .int .i64 0, .int .i64 0, .int .i64 0, .int .i64 0, .int .i64 0, .int .i64 0, .int .i64 0, .bool false, .int .i64 0] 45)).alloc (.cells #[] 3)).heap.size = w.heap.size + 3 by simp)
  clear hsz hw0
  unfold tv
  go_enter Try.func17, Try.ntmps17
  go_wp2_with first
   |(at_builtin
     refine append_row (w.heap.size + 2) rfl (.tmp 10) (.tmp 11) 24 3 (.int .i64 0) 1 8 rfl Try.underlying24 info3 rfl (by omega) (by omega) (.slice (some ⟨w.heap.size + 1 + 1, 0, none⟩) 0 0) 0 [] (ints up) A up.length c rfl rfl HW0.out (by rw [Nat.mul_one]; exact HRW.out) (ints_one _) (by rw [HZ.out]; omega) (by omega) ?_
     intro v1 w1 hown hg hat
     rw [Nat.zero_add, List.nil_append] at hown
     obtain ⟨g, cap, rfl, hgb⟩ := own_pos hown hpos
     have HO := Lib.hid hown
     have hgl := (own_lt hown).2
     have hz1 := hg.size
     rw [HZ.out] at hz1
     have HB0 := Lib.hid ((hg.block w.heap.size (by rw [HZ.out]; omega) (by simp [Value.ownBlock]; omega)).trans HB0.out)
     have HB1 := Lib.hid ((hg.block (w.heap.size + 1) (by rw [HZ.out]; omega) (by simp [Value.ownBlock])).trans HB1.out)
     have HB := Lib.hid (HB.out.grown hg HB.out.size (fun j hj => by simp [Value.ownBlock] at hj; omega))
     have D0 := cells10 HB0.out
     have D1 := cells11 HB1.out
     have hne0 : g ≠ w.heap.size := by omega
     have hne1 : g ≠ w.heap.size + 1 := by omega
     have HP := Lib.hid (HP.out.kept HB.out)
     clear hown hg hat HRW HW0
     obtain ⟨c0, c1, c2, c3, c4, c5, c6, c7, c8, c9, f0, f1, f2, f3, f4, f5, f6, f7, f8, f9⟩ := D0
     obtain ⟨d0, d1, d2, d3, d4, d5, d6, d7, d8, d9, d10, e0, e1, e2, e3, e4, e5, e6, e7, e8, e9, e10⟩ := D1
     have c00 := own_cell_int HO.out j hj
     rw [HH.out] at c00)
   |(go_at_call 33
     have hd := rsecond_any ⟨k, x, y, 5, u, (j : Int), (j : Int), (j : Int), false, res⟩ ((w1.setCell ⟨w.heap.size, 7, none⟩ (.int .i64 (j : Int))).setCell ⟨w.heap.size, 5, none⟩ (.int .i64 (j : Int))) HK.out
     rw [HT.out] at hd
     simp only [tv] at hd
     refine hd.mono ?_
     clear hd
     rintro e w2 ⟨he, hb⟩
     simp only [tv] at he
     subst he
     have hzz : ((w1.setCell ⟨w.heap.size, 7, none⟩ (.int .i64 (j : Int))).setCell ⟨w.heap.size, 5, none⟩ (.int .i64 (j : Int))).heap.size = w1.heap.size := by simp only [World.size_setCell]
     have HO := Lib.hid (own_kept (own_set (own_set HO.out (p := ⟨w.heap.size, 7, none⟩) hne0.symm _) (p := ⟨w.heap.size, 5, none⟩) hne0.symm _) hb)
     have D1 := cells11 ((hb.block (w.heap.size + 1) (by omega)).trans ((Below.heap_setCell _ _ _ _ (by simp)).trans ((Below.heap_setCell _ _ _ _ (by simp)).trans HB1.out)))
     have HB := Lib.hid (below_next ((HB.out.setCell (p := ⟨w.heap.size, 7, none⟩) (Nat.le_refl _) _).setCell (p := ⟨w.heap.size, 5, none⟩) (Nat.le_refl _) _) hb (by omega))
     clear hb hzz d0 d1 d2 d3 d4 d5 d6 d7 d8 d9 d10 e0 e1 e2 e3 e4 e5 e6 e7 e8 e9 e10
     obtain ⟨d0, d1, d2, d3, d4, d5, d6, d7, d8, d9, d10, e0, e1, e2, e3, e4, e5, e6, e7, e8, e9, e10⟩ := D1)
  refine bodyPost_ret (v := sv (.slice (some ⟨g, 0, none⟩) up.length cap) ⟨k2, x2, y2, s2, u2, v2, ww2, r2, is2, res2⟩) (by simp [sv, results, Try.results17, go_sem, d0, d1, d2, d3, d4, d5, d6, d7, d8, d9, d10]) rfl ?_
  refine RStepO.of (base := w.heap.size + 2) rfl ?_ ?_ (by omega)
  · repeat (with_reducible refine own_set ?_ (by simp only; omega) _)
    exact HO.out
  · repeat (with_reducible refine Below.setCell ?_ (by simp only; omega) _)
    exact HB.out
set_option maxRecDepth 100000 in
set_option maxHeartbeats 4000000 in
theorem rstep_7e (A B : Option Addr) (c d : Nat) (up p : List Int) (k x y v ww r res : Int) (j : Nat) (w : World) (hr : RowI w A up) (hs : RowI w B p) (hlong : up.length ≤ 65536) (hpos : 0 < up.length) (hj : j < up.length) (ha : up.getD j 0 = (j : Int)) : Calls Try.prog 17 #[.slice A up.length c, .slice B p.length d, tv ⟨k, x, y, 7, (j : Int), v, ww, r, false, res⟩] w (RStepO up ⟨k, x, y, 7, (j : Int), v, (j : Int), r, true, 0⟩ w) := by
  have HH := Lib.hid ha
  clear ha
  have p0 : (0 : Int) ≤ (j : Int) := by omega
  have p1 : (j : Int) < (up.length : Int) := by omega
  have HR := Lib.hid hr
  have HP := Lib.hid hs
  clear hr hs
  have hsz : ((w.alloc (.cells #[.int .i64 k, .int .i64 x, .int .i64 y, .int .i64 7, .int .i64 (j : Int), .int .i64 v, .int .i64 ww, .int .i64 r, .bool false, .int .i64 res] 31)).alloc (.cells #[.slice none 0 0, .int .i64 0, .int .i64 0, .int .i64 0, .int .i64 0, .int .i64 0, .int .i64 0, .int .i64 0, .int .i64 0, .bool false, .int .i64 0] 45)).heap.size = w.heap.size + 1 + 1 := by simp
  have hw0 := World.ownsRow_lit (base := w.heap.size + 2) (e := 3) (size := 1) ((w.alloc (.cells #[.int .i64 k, .int .i64 x, .int .i64 y, .int .i64 7, .int .i64 (j : Int), .int .i64 v, .int .i64 ww, .int .i64 r, .bool false, .int .i64 res] 31)).alloc (.cells #[.slice none 0 0, .int .i64 0, .int .i64 0, .int .i64 0, .int .i64 0, .int .i64 0, .int .i64 0, .int .i64 0, .int .i64 0, .bool false, .int .i64 0] 45)) #[] 0 (by simp) (by simp [maxLen]) rfl
  rw [hsz] at hw0
  have HW0 := Lib.hid hw0
  have HB0 := Lib.hid ((heap_alloc_old ((w.alloc (.cells #[.int .i64 k, .int .i64 x, .int .i64 y, .int .i64 7, .int .i64 (j : Int), .int .i64 v, .int .i64 ww, .int .i64 r, .bool false, .int .i64 res] 31)).alloc (.cells #[.slice none 0 0, .int .i64 0, .int .i64 0, .int .i64 0, .int .i64 0, .int .i64 0, .int .i64 0, .int .i64 0, .int .i64 0, .bool false, .int .i64 0] 45)) (.cells #[] 3) (by simp; omega)).trans (heap_alloc2_old w (.cells #[.int .i64 k, .int .i64 x, .int .i64 y, .int .i64 7, .int .i64 (j : Int), .int .i64 v, .int .i64 ww, .int .i64 r, .bool false, .int .i64 res] 31) (.cells #[.slice none 0 0, .int .i64 0, .int .i64 0, .int .i64 0, .int .i64 0, .int .i64 0, .int .i64 0, .int .i64 0, .int .i64 0, .bool false, .int .i64 0] 45)))
  have HB1 := Lib.hid ((heap_alloc_old ((w.alloc (.cells #[.int .i64 k, .int .i64 x, .int .i64 y, .int .i64 7, .int .i64 (j : Int), .int .i64 v, .int .i64 ww, .int .i64 r, .bool false, .int .i64 res] 31)).alloc (.cells #[.slice none 0 0, .int .i64 0, .int .i64 0, .int .i64 0, .int .i64 0, .int .i64 0, .int .i64 0, .int .i64 0, .int .i64 0, .bool false, .int .i64 0] 45)) (.cells #[] 3) (by simp)).trans (heap_alloc2_new w (.cells #[.int .i64 k, .int .i64 x, .int .i64 y, .int .i64 7, .int .i64 (j : Int), .int .i64 v, .int .i64 ww, .int .i64 r, .bool false, .int .i64 res] 31) (.cells #[.slice none 0 0, .int .i64 0, .int .i64 0, .int .i64 0, .int .i64 0, .int .i64 0, .int .i64 0, .int .i64 0, .int .i64 0, .bool false, .int .i64 0] 45)))
  have HB := Lib.hid (show Below w.heap.size w (((w.alloc (.cells #[.int .i64 k, .int .i64 x, .int .i64 y, .int .i64 7, .int .i64 (j : Int), .int .i64 v, .int .i64 ww, .int .i64 r, .bool false, .int .i64 res] 31)).alloc (.cells #[.slice none 0 0, .int .i64 0, .int .i64 0, .int .i64 0, .int .i64 0, .int .i64 0, .int .i64 0, .int .i64 0, .int .i64 0, .bool false, .int .i64 0] 45)).alloc (.cells #[] 3)) by go_grown)
  have HRW := Lib.hid (HR.out.kept HB.out)
  have HZ := Lib.hid (show (((w.alloc (.cells #[.int .i64 k, .int .i64 x, .int .i64 y, .int .i64 7, .int .i64 (j : Int), .int .i64 v, .int .i64 ww, .int .i64 r, .bool false, .int .i64 res] 31)).alloc (.cells #[.slice none 0 0, .int .i64 0, .int .i64 0, .int .i64 0, .int .i64 0, .int .i64 0, .int .i64 0, .int .i64 0, .int .i64 0, .bool false, .int .i64 0] 45)).alloc (.cells #[] 3)).heap.size = w.heap.size + 3 by simp)
  clear hsz hw0
  unfold tv
  go_enter Try.func17, Try.ntmps17
  go_wp2_with first
   |(at_builtin
     refine append_row (w.heap.size + 2) rfl (.tmp 10) (.tmp 11) 24 3 (.int .i64 0) 1 8 rfl Try.underlying24 info3 rfl (by omega) (by omega) (.slice (some ⟨w.heap.size + 1 + 1, 0, none⟩) 0 0) 0 [] (ints up) A up.length c rfl rfl HW0.out (by rw [Nat.mul_one]; exact HRW.out) (ints_one _) (by rw [HZ.out]; omega) (by omega) ?_
     intro v1 w1 hown hg hat
     rw [Nat.zero_add, List.nil_append] at hown
     obtain ⟨g, cap, rfl, hgb⟩ := own_pos hown hpos
     have HO := Lib.hid hown
     have hgl := (own_lt hown).2
     have hz1 := hg.size
     rw [HZ.out] at hz1
     have HB0 := Lib.hid ((hg.block w.heap.size (by rw [HZ.out]; omega) (by simp [Value.ownBlock]; omega)).trans HB0.out)
     have HB1 := Lib.hid ((hg.block (w.heap.size + 1) (by rw [HZ.out]; omega) (by simp [Value.ownBlock])).trans HB1.out)
     have HB := Lib.hid (HB.out.grown hg HB.out.size (fun j hj => by simp [Value.ownBlock] at hj; omega))
     have D0 := cells10 HB0.out
     have D1 := cells11 HB1.out
     have hne0 : g ≠ w.heap.size := by omega
     have hne1 : g ≠ w.heap.size + 1 := by omega
     have HP := Lib.hid (HP.out.kept HB.out)
     clear hown hg hat HRW HW0
     obtain ⟨c0, c1, c2, c3, c4, c5, c6, c7, c8, c9, f0, f1, f2, f3, f4, f5, f6, f7, f8, f9⟩ := D0
     obtain ⟨d0, d1, d2, d3, d4, d5, d6, d7, d8, d9, d10, e0, e1, e2, e3, e4, e5, e6, e7, e8, e9, e10⟩ := D1
     have c00 := own_cell_int HO.out j hj
     rw [HH.out] at c00)
   |(go_at_call 34
     have hd := rdone_any ⟨k, x, y, 7, (j : Int), v, (j : Int), r, false, res⟩ 0 (w1.setCell ⟨w.heap.size, 6, none⟩ (.int .i64 (j : Int))) 
     simp only [finish] at hd
     simp only [tv] at hd
     refine hd.mono ?_
     clear hd
     rintro e w2 ⟨he, hb⟩
     simp only [tv] at he
     subst he
     have hzz : (w1.setCell ⟨w.heap.size, 6, none⟩ (.int .i64 (j : Int))).heap.size = w1.heap.size := by simp only [World.size_setCell]
     have HO := Lib.hid (own_kept (own_set HO.out (p := ⟨w.heap.size, 6, none⟩) hne0.symm _) hb)
     have D1 := cells11 ((hb.block (w.heap.size + 1) (by omega)).trans ((Below.heap_setCell _ _ _ _ (by simp)).trans HB1.out))
     have HB := Lib.hid (below_next (HB.out.setCell (p := ⟨w.heap.size, 6, none⟩) (Nat.le_refl _) _) hb (by omega))
     clear hb hzz d0 d1 d2 d3 d4 d5 d6 d7 d8 d9 d10 e0 e1 e2 e3 e4 e5 e6 e7 e8 e9 e10
     obtain ⟨d0, d1, d2, d3, d4, d5, d6, d7, d8, d9, d10, e0, e1, e2, e3, e4, e5, e6, e7, e8, e9, e10⟩ := D1)
  refine bodyPost_ret (v := sv (.slice (some ⟨g, 0, none⟩) up.length cap) ⟨k, x, y, 7, (j : Int), v, (j : Int), r, true, 0⟩) (by simp [sv, results, Try.results17, go_sem, d0, d1, d2, d3, d4, d5, d6, d7, d8, d9, d10]) rfl ?_
  refine RStepO.of (base := w.heap.size + 2) rfl ?_ ?_ (by omega)
  · repeat (with_reducible refine own_set ?_ (by simp only; omega) _)
    exact HO.out
  · repeat (with_reducible refine Below.setCell ?_ (by simp only; omega) _)
    exact HB.out
set_option maxRecDepth 100000 in
set_option maxHeartbeats 4000000 in
theorem rstep_3 (A B : Option Addr) (c d : Nat) (up p : List Int) (k x y v ww r res : Int) (j : Nat) (w : World) (hr : RowI w A up) (hs : RowI w B p) (hlong : up.length ≤ 65536) (hpos : 0 < up.length) (hj : j < up.length) : Calls Try.prog 17 #[.slice A up.length c, .slice B p.length d, tv ⟨k, x, y, 3, (j : Int), v, ww, r, false, res⟩] w (RStepO (swapL up (j : Int) ww r) ⟨k, x, y, 1, ww, v, ww, r, false, res⟩ w) := by
  have Hj := Lib.hid hj
  have p0 : (0 : Int) ≤ (j : Int) := by omega
  have p1 : (j : Int) < (up.length : Int) := by omega
  have HR := Lib.hid hr
  have HP := Lib.hid hs
  clear hr hs
  have hsz : ((w.alloc (.cells #[.int .i64 k, .int .i64 x, .int .i64 y, .int .i64 3, .int .i64 (j : Int), .int .i64 v, .int .i64 ww, .int .i64 r, .bool false, .int .i64 res] 31)).alloc (.cells #[.slice none 0 0, .int .i64 0, .int .i64 0, .int .i64 0, .int .i64 0, .int .i64 0, .int .i64 0, .int .i64 0, .int .i64 0, .bool false, .int .i64 0] 45)).heap.size = w.heap.size + 1 + 1 := by simp
  have hw0 := World.ownsRow_lit (base := w.heap.size + 2) (e := 3) (size := 1) ((w.alloc (.cells #[.int .i64 k, .int .i64 x, .int .i64 y, .int .i64 3, .int .i64 (j : Int), .int .i64 v, .int .i64 ww, .int .i64 r, .bool false, .int .i64 res] 31)).alloc (.cells #[.slice none 0 0, .int .i64 0, .int .i64 0, .int .i64 0, .int .i64 0, .int .i64 0, .int .i64 0, .int .i64 0, .int .i64 0, .bool false, .int .i64 0] 45)) #[] 0 (by simp) (by simp [maxLen]) rfl
  rw [hsz] at hw0
  have HW0 := Lib.hid hw0
  have HB0 := Lib.hid ((heap_alloc_old ((w.alloc (.cells #[.int .i64 k, .int .i64 x, .int .i64 y, .int .i64 3, .int .i64 (j : Int), .int .i64 v, .int .i64 ww, .int .i64 r, .bool false, .int .i64 res] 31)).alloc (.cells #[.slice none 0 0, .int .i64 0, .int .i64 0, .int .i64 0, .int .i64 0, .int .i64 0, .int .i64 0, .int .i64 0, .int .i64 0, .bool false, .int .i64 0] 45)) (.cells #[] 3) (by simp; omega)).trans (heap_alloc2_old w (.cells #[.int .i64 k, .int .i64 x, .int .i64 y, .int .i64 3, .int .i64 (j : Int), .int .i64 v, .int .i64 ww, .int .i64 r, .bool false, .int .i64 res] 31) (.cells #[.slice none 0 0, .int .i64 0, .int .i64 0, .int .i64 0, .int .i64 0, .int .i64 0, .int .i64 0, .int .i64 0, .int .i64 0, .bool false, .int .i64 0] 45)))
  have HB1 := Lib.hid ((heap_alloc_old ((w.alloc (.cells #[.int .i64 k, .int .i64 x, .int .i64 y, .int .i64 3, .int .i64 (j : Int), .int .i64 v, .int .i64 ww, .int .i64 r, .bool false, .int .i64 res] 31)).alloc (.cells #[.slice none 0 0, .int .i64 0, .int .i64 0, .int .i64 0, .int .i64 0, .int .i64 0, .int .i64 0, .int .i64 0, .int .i64 0, .bool false, .int .i64 0] 45)) (.cells #[] 3) (by simp)).trans (heap_alloc2_new w (.cells #[.int .i64 k, .int .i64 x, .int .i64 y, .int .i64 3, .int .i64 (j : Int), .int .i64 v, .int .i64 ww, .int .i64 r, .bool false, .int .i64 res] 31) (.cells #[.slice none 0 0, .int .i64 0, .int .i64 0, .int .i64 0, .int .i64 0, .int .i64 0, .int .i64 0, .int .i64 0, .int .i64 0, .bool false, .int .i64 0] 45)))
  have HB := Lib.hid (show Below w.heap.size w (((w.alloc (.cells #[.int .i64 k, .int .i64 x, .int .i64 y, .int .i64 3, .int .i64 (j : Int), .int .i64 v, .int .i64 ww, .int .i64 r, .bool false, .int .i64 res] 31)).alloc (.cells #[.slice none 0 0, .int .i64 0, .int .i64 0, .int .i64 0, .int .i64 0, .int .i64 0, .int .i64 0, .int .i64 0, .int .i64 0, .bool false, .int .i64 0] 45)).alloc (.cells #[] 3)) by go_grown)
  have HRW := Lib.hid (HR.out.kept HB.out)
  have HZ := Lib.hid (show (((w.alloc (.cells #[.int .i64 k, .int .i64 x, .int .i64 y, .int .i64 3, .int .i64 (j : Int), .int .i64 v, .int .i64 ww, .int .i64 r, .bool false, .int .i64 res] 31)).alloc (.cells #[.slice none 0 0, .int .i64 0, .int .i64 0, .int .i64 0, .int .i64 0, .int .i64 0, .int .i64 0, .int .i64 0, .int .i64 0, .bool false, .int .i64 0] 45)).alloc (.cells #[] 3)).heap.size = w.heap.size + 3 by simp)
  clear hsz hw0
  unfold tv
  go_enter Try.func17, Try.ntmps17
  go_wp2_with first
   |(at_builtin
     refine append_row (w.heap.size + 2) rfl (.tmp 10) (.tmp 11) 24 3 (.int .i64 0) 1 8 rfl Try.underlying24 info3 rfl (by omega) (by omega) (.slice (some ⟨w.heap.size + 1 + 1, 0, none⟩) 0 0) 0 [] (ints up) A up.length c rfl rfl HW0.out (by rw [Nat.mul_one]; exact HRW.out) (ints_one _) (by rw [HZ.out]; omega) (by omega) ?_
     intro v1 w1 hown hg hat
     rw [Nat.zero_add, List.nil_append] at hown
     obtain ⟨g, cap, rfl, hgb⟩ := own_pos hown hpos
     have HO := Lib.hid hown
     have hgl := (own_lt hown).2
     have hz1 := hg.size
     rw [HZ.out] at hz1
     have HB0 := Lib.hid ((hg.block w.heap.size (by rw [HZ.out]; omega) (by simp [Value.ownBlock]; omega)).trans HB0.out)
     have HB1 := Lib.hid ((hg.block (w.heap.size + 1) (by rw [HZ.out]; omega) (by simp [Value.ownBlock])).trans HB1.out)
     have HB := Lib.hid (HB.out.grown hg HB.out.size (fun j hj => by simp [Value.ownBlock] at hj; omega))
     have D0 := cells10 HB0.out
     have D1 := cells11 HB1.out
     have hne0 : g ≠ w.heap.size := by omega
     have hne1 : g ≠ w.heap.size + 1 := by omega
     have HP := Lib.hid (HP.out.kept HB.out)
     clear hown hg hat HRW HW0
     obtain ⟨c0, c1, c2, c3, c4, c5, c6, c7, c8, c9, f0, f1, f2, f3, f4, f5, f6, f7, f8, f9⟩ := D0
     obtain ⟨d0, d1, d2, d3, d4, d5, d6, d7, d8, d9, d10, e0, e1, e2, e3, e4, e5, e6, e7, e8, e9, e10⟩ := D1)
   |(go_at_call 32
     refine (swap_any _ g _ cap up j ww r w1 Hj.out HO.out).mono ?_
     rintro e w2 ⟨rfl, hown, hgr⟩
     have HO := Lib.hid hown
     have hz2 : w1.heap.size ≤ w2.heap.size := hgr.size
     have HB0 := Lib.hid ((hgr.block w.heap.size (show w.heap.size < w1.heap.size by omega) (by simpa using hne0.symm)).trans HB0.out)
     have HB1 := Lib.hid ((hgr.block (w.heap.size + 1) (show w.heap.size + 1 < w1.heap.size by omega) (by simpa using hne1.symm)).trans HB1.out)
     have HB := Lib.hid (Below.grown HB.out hgr (show w.heap.size ≤ w1.heap.size by omega) (fun j hj => by injection hj with hj; omega))
     have D0 := cells10 HB0.out
     have D1 := cells11 HB1.out
     clear hown hgr c0 c1 c2 c3 c4 c5 c6 c7 c8 c9 f0 f1 f2 f3 f4 f5 f6 f7 f8 f9 d0 d1 d2 d3 d4 d5 d6 d7 d8 d9 d10 e0 e1 e2 e3 e4 e5 e6 e7 e8 e9 e10
     obtain ⟨c0, c1, c2, c3, c4, c5, c6, c7, c8, c9, f0, f1, f2, f3, f4, f5, f6, f7, f8, f9⟩ := D0
     obtain ⟨d0, d1, d2, d3, d4, d5, d6, d7, d8, d9, d10, e0, e1, e2, e3, e4, e5, e6, e7, e8, e9, e10⟩ := D1)
  refine bodyPost_ret (v := sv (.slice (some ⟨g, 0, none⟩) up.length cap) ⟨k, x, y, 1, ww, v, ww, r, false, res⟩) (by simp [sv, results, Try.results17, go_sem, d0, d1, d2, d3, d4, d5, d6, d7, d8, d9, d10]) rfl ?_
  refine RStepO.of (base := w.heap.size + 2) (swapL_length _ _ _ _) ?_ ?_ (by omega)
  · repeat (with_reducible refine own_set ?_ (by simp only; omega) _)
    exact HO.out
  · repeat (with_reducible refine Below.setCell ?_ (by simp only; omega) _)
    exact HB.out
set_option maxRecDepth 100000 in
set_option maxHeartbeats 4000000 in
theorem rstep_6 (A B : Option Addr) (c d : Nat) (up p : List Int) (k x y u ww r res : Int) (j : Nat) (w : World) (hr : RowI w A up) (hs : RowI w B p) (hlong : up.length ≤ 65536) (hpos : 0 < up.length) (hj : j < up.length) : Calls Try.prog 17 #[.slice A up.length c, .slice B p.length d, tv ⟨k, x, y, 6, u, (j : Int), ww, r, false, res⟩] w (RStepO (swapL up (j : Int) ww r) ⟨k, x, y, 4, u, ww, ww, r, false, res⟩ w) := by
  have Hj := Lib.hid hj
  have p0 : (0 : Int) ≤ (j : Int) := by omega
  have p1 : (j : Int) < (up.length : Int) := by omega
  have HR := Lib.hid hr
  have HP := Lib.hid hs
  clear hr hs
  have hsz : ((w.alloc (.cells #[.int .i64 k, .int .i64 x, .int .i64 y, .int .i64 6, .int .i64 u, .int .i64 (j : Int), .int .i64 ww, .int .i64 r, .bool false, .int .i64 res] 31)).alloc (.cells #[.slice none 0 0, .int .i64 0, .int .i64 0, .int .i64 0, .int .i64 0, .int .i64 0, .int .i64 0, .int .i64 0, .int .i64 0, .bool false, .int .i64 0] 45)).heap.size = w.heap.size + 1 + 1 := by simp
  have hw0 := World.ownsRow_lit (base := w.heap.size + 2) (e := 3) (size := 1) ((w.alloc (.cells #[.int .i64 k, .int .i64 x, .int .i64 y, .int .i64 6, .int .i64 u, .int .i64 (j : Int), .int .i64 ww, .int .i64 r, .bool false, .int .i64 res] 31)).alloc (.cells #[.slice none 0 0, .int .i64 0, .int .i64 0, .int .i64 0, .int .i64 0, .int .i64 0, .int .i64 0, .int .i64 0, .int .i64 0, .bool false, .int .i64 0] 45)) #[] 0 (by simp) (by simp [maxLen]) rfl
  rw [hsz] at hw0
  have HW0 := Lib.hid hw0
  have HB0 := Lib.hid ((heap_alloc_old ((w.alloc (.cells #[.int .i64 k, .int .i64 x, .int .i64 y, .int .i64 6, .int .i64 u, .int .i64 (j : Int), .int .i64 ww, .int .i64 r, .bool false, .int .i64 res] 31)).alloc (.cells #[.slice none 0 0, .int .i64 0, .int .i64 0, .int .i64 0, .int .i64 0, .int .i64 0, .int .i64 0, .int .i64 0, .int .i64 0, .bool false, .int .i64 0] 45)) (.cells #[] 3) (by simp; omega)).trans (heap_alloc2_old w (.cells #[.int .i64 k, .int .i64 x, .int .i64 y, .int .i64 6, .int .i64 u, .int .i64 (j : Int), .int .i64 ww, .int .i64 r, .bool false, .int .i64 res] 31) (.cells #[.slice none 0 0, .int .i64 0, .int .i64 0, .int .i64 0, .int .i64 0, .int .i64 0, .int .i64 0, .int .i64 0, .int .i64 0, .bool false, .int .i64 0] 45)))
  have HB1 := Lib.hid ((heap_alloc_old ((w.alloc (.cells #[.int .i64 k, .int .i64 x, .int .i64 y, .int .i64 6, .int .i64 u, .int .i64 (j : Int), .int .i64 ww, .int .i64 r, .bool false, .int .i64 res] 31)).alloc (.cells #[.slice none 0 0, .int .i64 0, .int .i64 0, .int .i64 0, .int .i64 0, .int .i64 0, .int .i64 0, .int .i64 0, .int .i64 0, .bool false, .int .i64 0] 45)) (.cells #[] 3) (by simp)).trans (heap_alloc2_new w (.cells #[.int .i64 k, .int .i64 x, .int .i64 y, .int .i64 6, .int .i64 u, .int .i64 (j : Int), .int .i64 ww, .int .i64 r, .bool false, .int .i64 res] 31) (.cells #[.slice none 0 0, .int .i64 0, .int .i64 0, .int .i64 0, .int .i64 0, .int .i64 0, .int .i64 0, .int .i64 0, .int .i64 0, .bool false, .int .i64 0] 45)))
  have HB := Lib.hid (show Below w.heap.size w (((w.alloc (.cells #[.int .i64 k, .int .i64 x, .int .i64 y, .int .i64 6, .int .i64 u, .int .i64 (j : Int), .int .i64 ww, .int .i64 r, .bool false, .int .i64 res] 31)).alloc (.cells #[.slice none 0 0, .int .i64 0, .int .i64 0, .int .i64 0, .int .i64 0, .int .i64 0, .int .i64 0, .int .i64 0, .int .i64 0, .bool false, .int .i64 0] 45)).alloc (.cells #[] 3)) by go_grown)
  have HRW := Lib.hid (HR.out.kept HB.out)
  have HZ := Lib.hid (show (((w.alloc (.cells #[.int .i64 k, .int .i64 x, .int .i64 y, .int .i64 6, .int .i64 u, .int .i64 (j : Int), .int .i64 ww, .int .i64 r, .bool false, .int .i64 res] 31)).alloc (.cells #[.slice none 0 0, .int .i64 0, .int .i64 0, .int .i64 0, .int .i64 0, .int .i64 0, .int .i64 0, .int .i64 0, .int .i64 0, .bool false, .int .i64 0] 45)).alloc (.cells #[] 3)).heap.size = w.heap.size + 3 by simp)
  clear hsz hw0
  unfold tv
  go_enter Try.func17, Try.ntmps17
  go_wp2_with first
   |(at_builtin
     refine append_row (w.heap.size + 2) rfl (.tmp 10) (.tmp 11) 24 3 (.int .i64 0) 1 8 rfl Try.underlying24 info3 rfl (by omega) (by omega) (.slice (some ⟨w.heap.size + 1 + 1, 0, none⟩) 0 0) 0 [] (ints up) A up.length c rfl rfl HW0.out (by rw [Nat.mul_one]; exact HRW.out) (ints_one _) (by rw [HZ.out]; omega) (by omega) ?_
     intro v1 w1 hown hg hat
     rw [Nat.zero_add, List.nil_append] at hown
     obtain ⟨g, cap, rfl, hgb⟩ := own_pos hown hpos
     have HO := Lib.hid hown
     have hgl := (own_lt hown).2
     have hz1 := hg.size
     rw [HZ.out] at hz1
     have HB0 := Lib.hid ((hg.block w.heap.size (by rw [HZ.out]; omega) (by simp [Value.ownBlock]; omega)).trans HB0.out)
     have HB1 := Lib.hid ((hg.block (w.heap.size + 1) (by rw [HZ.out]; omega) (by simp [Value.ownBlock])).trans HB1.out)
     have HB := Lib.hid (HB.out.grown hg HB.out.size (fun j hj => by simp [Value.ownBlock] at hj; omega))
     have D0 := cells10 HB0.out
     have D1 := cells11 HB1.out
     have hne0 : g ≠ w.heap.size := by omega
     have hne1 : g ≠ w.heap.size + 1 := by omega
     have HP := Lib.hid (HP.out.kept HB.out)
     clear hown hg hat HRW HW0
     obtain ⟨c0, c1, c2, c3, c4, c5, c6, c7, c8, c9, f0, f1, f2, f3, f4, f5, f6, f7, f8, f9⟩ := D0
     obtain ⟨d0, d1, d2, d3, d4, d5, d6, d7, d8, d9, d10, e0, e1, e2, e3, e4, e5, e6, e7, e8, e9, e10⟩ := D1)
   |(go_at_call 32
     refine (swap_any _ g _ cap up j ww r w1 Hj.out HO.out).mono ?_
     rintro e w2 ⟨rfl, hown, hgr⟩
     have HO := Lib.hid hown
     have hz2 : w1.heap.size ≤ w2.heap.size := hgr.size
     have HB0 := Lib.hid ((hgr.block w.heap.size (show w.heap.size < w1.heap.size by omega) (by simpa using hne0.symm)).trans HB0.out)
     have HB1 := Lib.hid ((hgr.block (w.heap.size + 1) (show w.heap.size + 1 < w1.heap.size by omega) (by simpa using hne1.symm)).trans HB1.out)
     have HB := Lib.hid (Below.grown HB.out hgr (show w.heap.size ≤ w1.heap.size by omega) (fun j hj => by injection hj with hj; omega))
     have D0 := cells10 HB0.out
     have D1 := cells11 HB1.out
     clear hown hgr c0 c1 c2 c3 c4 c5 c6 c7 c8 c9 f0 f1 f2 f3 f4 f5 f6 f7 f8 f9 d0 d1 d2 d3 d4 d5 d6 d7 d8 d9 d10 e0 e1 e2 e3 e4 e5 e6 e7 e8 e9 e10
     obtain ⟨c0, c1, c2, c3, c4, c5, c6, c7, c8, c9, f0, f1, f2, f3, f4, f5, f6, f7, f8, f9⟩ := D0
     obtain ⟨d0, d1, d2, d3, d4, d5, d6, d7, d8, d9, d10, e0, e1, e2, e3, e4, e5, e6, e7, e8, e9, e10⟩ := D1)
  refine bodyPost_ret (v := sv (.slice (some ⟨g, 0, none⟩) up.length cap) ⟨k, x, y, 4, u, ww, ww, r, false, res⟩) (by simp [sv, results, Try.results17, go_sem, d0, d1, d2, d3, d4, d5, d6, d7, d8, d9, d10]) rfl ?_
  refine RStepO.of (base := w.heap.size + 2) (swapL_length _ _ _ _) ?_ ?_ (by omega)
  · repeat (with_reducible refine own_set ?_ (by simp only; omega) _)
    exact HO.out
  · repeat (with_reducible refine Below.setCell ?_ (by simp only; omega) _)
    exact HB.out
set_option maxRecDepth 100000 in
set_option maxHeartbeats 4000000 in
theorem rstep_800 (A B : Option Addr) (c d : Nat) (up p : List Int) (k x y ww r res : Int) (j i : Nat) (w : World) (hr : RowI w A up) (hs : RowI w B p) (hlong : up.length ≤ 65536) (hpos : 0 < up.length) (hl : up.length = p.length) (hj : j < up.length) (hi : i < up.length) (hb : belowB p j i = false) (h1 : ¬ up.getD i 0 = (i : Int)) : Calls Try.prog 17 #[.slice A up.length c, .slice B p.length d, tv ⟨k, x, y, 8, (j : Int), (i : Int), ww, r, false, res⟩] w (RStepO up ⟨k, x, y, 1, (j : Int), (i : Int), ww, r, false, res⟩ w) := by
  have HBL := Lib.hid hb
  have he1 : ¬ at_ up (i : Int) = (i : Int) := by unfold at_; simpa using h1
  have HSW := Lib.hid (show swapL up (i : Int) (i : Int) (j : Int) = up by rw [swapL, if_neg he1])
  have HDE := Lib.hid (show decide (at_ up (i : Int) = (i : Int)) = false by exact decide_eq_false he1)
  have HJ := Lib.hid (show j < p.length by omega)
  have HI := Lib.hid (show i < p.length by omega)
  have Hj := Lib.hid hj
  have Hi := Lib.hid hi
  clear hb h1 he1 hl
  have HR := Lib.hid hr
  have HP := Lib.hid hs
  clear hr hs
  have hsz : ((w.alloc (.cells #[.int .i64 k, .int .i64 x, .int .i64 y, .int .i64 8, .int .i64 (j : Int), .int .i64 (i : Int), .int .i64 ww, .int .i64 r, .bool false, .int .i64 res] 31)).alloc (.cells #[.slice none 0 0, .int .i64 0, .int .i64 0, .int .i64 0, .int .i64 0, .int .i64 0, .int .i64 0, .int .i64 0, .int .i64 0, .bool false, .int .i64 0] 45)).heap.size = w.heap.size + 1 + 1 := by simp
  have hw0 := World.ownsRow_lit (base := w.heap.size + 2) (e := 3) (size := 1) ((w.alloc (.cells #[.int .i64 k, .int .i64 x, .int .i64 y, .int .i64 8, .int .i64 (j : Int), .int .i64 (i : Int), .int .i64 ww, .int .i64 r, .bool false, .int .i64 res] 31)).alloc (.cells #[.slice none 0 0, .int .i64 0, .int .i64 0, .int .i64 0, .int .i64 0, .int .i64 0, .int .i64 0, .int .i64 0, .int .i64 0, .bool false, .int .i64 0] 45)) #[] 0 (by simp) (by simp [maxLen]) rfl
  rw [hsz] at hw0
  have HW0 := Lib.hid hw0
  have HB0 := Lib.hid ((heap_alloc_old ((w.alloc (.cells #[.int .i64 k, .int .i64 x, .int .i64 y, .int .i64 8, .int .i64 (j : Int), .int .i64 (i : Int), .int .i64 ww, .int .i64 r, .bool false, .int .i64 res] 31)).alloc (.cells #[.slice none 0 0, .int .i64 0, .int .i64 0, .int .i64 0, .int .i64 0, .int .i64 0, .int .i64 0, .int .i64 0, .int .i64 0, .bool false, .int .i64 0] 45)) (.cells #[] 3) (by simp; omega)).trans (heap_alloc2_old w (.cells #[.int .i64 k, .int .i64 x, .int .i64 y, .int .i64 8, .int .i64 (j : Int), .int .i64 (i : Int), .int .i64 ww, .int .i64 r, .bool false, .int .i64 res] 31) (.cells #[.slice none 0 0, .int .i64 0, .int .i64 0, .int .i64 0, .int .i64 0, .int .i64 0, .int .i64 0, .int .i64 0, .int .i64 0, .bool false, .int .i64 0] 45)))
  have HB1 := Lib.hid ((heap_alloc_old ((w.alloc (.cells #[.int .i64 k, .int .i64 x, .int .i64 y, .int .i64 8, .int .i64 (j : Int), .int .i64 (i : Int), .int .i64 ww, .int .i64 r, .bool false, .int .i64 res] 31)).alloc (.cells #[.slice none 0 0, .int .i64 0, .int .i64 0, .int .i64 0, .int .i64 0, .int .i64 0, .int .i64 0, .int .i64 0, .int .i64 0, .bool false, .int .i64 0] 45)) (.cells #[] 3) (by simp)).trans (heap_alloc2_new w (.cells #[.int .i64 k, .int .i64 x, .int .i64 y, .int .i64 8, .int .i64 (j : Int), .int .i64 (i : Int), .int .i64 ww, .int .i64 r, .bool false, .int .i64 res] 31) (.cells #[.slice none 0 0, .int .i64 0, .int .i64 0, .int .i64 0, .int .i64 0, .int .i64 0, .int .i64 0, .int .i64 0, .int .i64 0, .bool false, .int .i64 0] 45)))
  have HB := Lib.hid (show Below w.heap.size w (((w.alloc (.cells #[.int .i64 k, .int .i64 x, .int .i64 y, .int .i64 8, .int .i64 (j : Int), .int .i64 (i : Int), .int .i64 ww, .int .i64 r, .bool false, .int .i64 res] 31)).alloc (.cells #[.slice none 0 0, .int .i64 0, .int .i64 0, .int .i64 0, .int .i64 0, .int .i64 0, .int .i64 0, .int .i64 0, .int .i64 0, .bool false, .int .i64 0] 45)).alloc (.cells #[] 3)) by go_grown)
  have HRW := Lib.hid (HR.out.kept HB.out)
  have HZ := Lib.hid (show (((w.alloc (.cells #[.int .i64 k, .int .i64 x, .int .i64 y, .int .i64 8, .int .i64 (j : Int), .int .i64 (i : Int), .int .i64 ww, .int .i64 r, .bool false, .int .i64 res] 31)).alloc (.cells #[.slice none 0 0, .int .i64 0, .int .i64 0, .int .i64 0, .int .i64 0, .int .i64 0, .int .i64 0, .int .i64 0, .int .i64 0, .bool false, .int .i64 0] 45)).alloc (.cells #[] 3)).heap.size = w.heap.size + 3 by simp)
  clear hsz hw0
  unfold tv
  go_enter Try.func17, Try.ntmps17
  go_wp2_with first
   |(at_builtin
     refine append_row (w.heap.size + 2) rfl (.tmp 10) (.tmp 11) 24 3 (.int .i64 0) 1 8 rfl Try.underlying24 info3 rfl (by omega) (by omega) (.slice (some ⟨w.heap.size + 1 + 1, 0, none⟩) 0 0) 0 [] (ints up) A up.length c rfl rfl HW0.out (by rw [Nat.mul_one]; exact HRW.out) (ints_one _) (by rw [HZ.out]; omega) (by omega) ?_
     intro v1 w1 hown hg hat
     rw [Nat.zero_add, List.nil_append] at hown
     obtain ⟨g, cap, rfl, hgb⟩ := own_pos hown hpos
     have HO := Lib.hid hown
     have hgl := (own_lt hown).2
     have hz1 := hg.size
     rw [HZ.out] at hz1
     have HB0 := Lib.hid ((hg.block w.heap.size (by rw [HZ.out]; omega) (by simp [Value.ownBlock]; omega)).trans HB0.out)
     have HB1 := Lib.hid ((hg.block (w.heap.size + 1) (by rw [HZ.out]; omega) (by simp [Value.ownBlock])).trans HB1.out)
     have HB := Lib.hid (HB.out.grown hg HB.out.size (fun j hj => by simp [Value.ownBlock] at hj; omega))
     have D0 := cells10 HB0.out
     have D1 := cells11 HB1.out
     have hne0 : g ≠ w.heap.size := by omega
     have hne1 : g ≠ w.heap.size + 1 := by omega
     have HP := Lib.hid (HP.out.kept HB.out)
     clear hown hg hat HRW HW0
     obtain ⟨c0, c1, c2, c3, c4, c5, c6, c7, c8, c9, f0, f1, f2, f3, f4, f5, f6, f7, f8, f9⟩ := D0
     obtain ⟨d0, d1, d2, d3, d4, d5, d6, d7, d8, d9, d10, e0, e1, e2, e3, e4, e5, e6, e7, e8, e9, e10⟩ := D1)
  go_quiet (fail)
  go_wp2_with first
   |(go_at_call 30
     have hbe := fun q => rbelow_any B d p j i (w1.drewN q) (HP.out.kept (below_drewN (Below.refl _ _) q)) HJ.out HI.out
     refine (hbe _).mono ?_
     rintro e w' ⟨rfl, q', rfl⟩
     rw [HBL.out]
     clear hbe)
   |(go_at_call 32
     have hsw := fun q => swap_any _ g _ cap up i (i : Int) (j : Int) (w1.drewN q) Hi.out (own_kept HO.out (below_drewN (Below.refl _ _) q))
     have HBd := Lib.hid (fun q => below_drewN HB.out q)
     refine (hsw _).mono ?_
     rintro e w2 ⟨rfl, hown, hgr⟩
     rw [HDE.out]
     rw [HSW.out] at hown
     have HO := Lib.hid hown
     have hz2 : w1.heap.size ≤ w2.heap.size := hgr.size
     have HB0 := Lib.hid ((hgr.block w.heap.size (show w.heap.size < w1.heap.size by omega) (by simpa using hne0.symm)).trans HB0.out)
     have HB1 := Lib.hid ((hgr.block (w.heap.size + 1) (show w.heap.size + 1 < w1.heap.size by omega) (by simpa using hne1.symm)).trans HB1.out)
     have HB := Lib.hid (Below.grown (HBd.out _) hgr (show w.heap.size ≤ w1.heap.size by omega) (fun j hj => by injection hj with hj; omega))
     have D0 := cells10 HB0.out
     have D1 := cells11 HB1.out
     clear hown hgr c0 c1 c2 c3 c4 c5 c6 c7 c8 c9 f0 f1 f2 f3 f4 f5 f6 f7 f8 f9 d0 d1 d2 d3 d4 d5 d6 d7 d8 d9 d10 e0 e1 e2 e3 e4 e5 e6 e7 e8 e9 e10 hsw HBd
     obtain ⟨c0, c1, c2, c3, c4, c5, c6, c7, c8, c9, f0, f1, f2, f3, f4, f5, f6, f7, f8, f9⟩ := D0
     obtain ⟨d0, d1, d2, d3, d4, d5, d6, d7, d8, d9, d10, e0, e1, e2, e3, e4, e5, e6, e7, e8, e9, e10⟩ := D1)
  refine bodyPost_ret (v := sv (.slice (some ⟨g, 0, none⟩) up.length cap) ⟨k, x, y, 1, (j : Int), (i : Int), ww, r, false, res⟩) (by simp [sv, results, Try.results17, go_sem, d0, d1, d2, d3, d4, d5, d6, d7, d8, d9, d10]) rfl ?_
  refine RStepO.of (base := w.heap.size + 2) rfl ?_ ?_ (by omega)
  · repeat (with_reducible refine own_set ?_ (by simp only; omega) _)
    exact HO.out
  · repeat (with_reducible refine Below.setCell ?_ (by simp only; omega) _)
    exact HB.out
set_option maxRecDepth 100000 in
set_option maxHeartbeats 4000000 in
theorem rstep_801 (A B : Option Addr) (c d : Nat) (up p : List Int) (k x y ww r res : Int) (j i : Nat) (w : World) (hr : RowI w A up) (hs : RowI w B p) (hlong : up.length ≤ 65536) (hpos : 0 < up.length) (hl : up.length = p.length) (hj : j < up.length) (hi : i < up.length) (hb : belowB p j i = false) (h1 : up.getD i 0 = (i : Int)) : Calls Try.prog 17 #[.slice A up.length c, .slice B p.length d, tv ⟨k, x, y, 8, (j : Int), (i : Int), ww, r, false, res⟩] w (RStepO (up.set i (j : Int)) ⟨k, x, y, 8, (j : Int), (i : Int), ww, r, true, 1⟩ w) := by
  have HBL := Lib.hid hb
  have he1 : at_ up (i : Int) = (i : Int) := by unfold at_; simpa using h1
  have HSW := Lib.hid (show swapL up (i : Int) (i : Int) (j : Int) = (up.set i (j : Int)) by rw [swapL, if_pos he1]; simp)
  have HDE := Lib.hid (show decide (at_ up (i : Int) = (i : Int)) = true by exact decide_eq_true he1)
  have HJ := Lib.hid (show j < p.length by omega)
  have HI := Lib.hid (show i < p.length by omega)
  have Hj := Lib.hid hj
  have Hi := Lib.hid hi
  clear hb h1 he1 hl
  have HR := Lib.hid hr
  have HP := Lib.hid hs
  clear hr hs
  have hsz : ((w.alloc (.cells #[.int .i64 k, .int .i64 x, .int .i64 y, .int .i64 8, .int .i64 (j : Int), .int .i64 (i : Int), .int .i64 ww, .int .i64 r, .bool false, .int .i64 res] 31)).alloc (.cells #[.slice none 0 0, .int .i64 0, .int .i64 0, .int .i64 0, .int .i64 0, .int .i64 0, .int .i64 0, .int .i64 0, .int .i64 0, .bool false, .int .i64 0] 45)).heap.size = w.heap.size + 1 + 1 := by simp
  have hw0 := World.ownsRow_lit (base := w.heap.size + 2) (e := 3) (size := 1) ((w.alloc (.cells #[.int .i64 k, .int .i64 x, .int .i64 y, .int .i64 8, .int .i64 (j : Int), .int .i64 (i : Int), .int .i64 ww, .int .i64 r, .bool false, .int .i64 res] 31)).alloc (.cells #[.slice none 0 0, .int .i64 0, .int .i64 0, .int .i64 0, .int .i64 0, .int .i64 0, .int .i64 0, .int .i64 0, .int .i64 0, .bool false, .int .i64 0] 45)) #[] 0 (by simp) (by simp [maxLen]) rfl
  rw [hsz] at hw0
  have HW0 := Lib.hid hw0
  have HB0 := Lib.hid ((heap_alloc_old ((w.alloc (.cells #[.int .i64 k, .int .i64 x, .int .i64 y, .int .i64 8, .int .i64 (j : Int), .int .i64 (i : Int), .int .i64 ww, .int .i64 r, .bool false, .int .i64 res] 31)).alloc (.cells #[.slice none 0 0, .int .i64 0, .int .i64 0, .int .i64 0, .int .i64 0, .int .i64 0, .int .i64 0, .int .i64 0, .int .i64 0, .bool false, .int .i64 0] 45)) (.cells #[] 3) (by simp; omega)).trans (heap_alloc2_old w (.cells #[.int .i64 k, .int .i64 x, .int .i64 y, .int .i64 8, .int .i64 (j : Int), .int .i64 (i : Int), .int .i64 ww, .int .i64 r, .bool false, .int .i64 res] 31) (.cells #[.slice none 0 0, .int .i64 0, .int .i64 0, .int .i64 0, .int .i64 0, .int .i64 0, .int .i64 0, .int .i64 0, .int .i64 0, .bool false, .int .i64 0] 45)))
  have HB1 := Lib.hid ((heap_alloc_old ((w.alloc (.cells #[.int .i64 k, .int .i64 x, .int .i64 y, .int .i64 8, .int .i64 (j : Int), .int .i64 (i : Int), .int .i64 ww, .int .i64 r, .bool false, .int .i64 res] 31)).alloc (.cells #[.slice none 0 0, .int .i64 0, .int .i64 0, .int .i64 0, .int .i64 0, .int .i64 0, .int .i64 0, .int .i64 0, .int .i64 0, .bool false, .int .i64 0] 45)) (.cells #[] 3) (by simp)).trans (heap_alloc2_new w (.cells #[.int .i64 k, .int .i64 x, .int .i64 y, .int .i64 8, .int .i64 (j : Int), .int .i64 (i : Int), .int .i64 ww, .int .i64 r, .bool false, .int .i64 res] 31) (.cells #[.slice none 0 0, .int .i64 0, .int .i64 0, .int .i64 0, .int .i64 0, .int .i64 0, .int .i64 0, .int .i64 0, .int .i64 0, .bool false, .int .i64 0] 45)))
  have HB := Lib.hid (show Below w.heap.size w (((w.alloc (.cells #[.int .i64 k, .int .i64 x, .int .i64 y, .int .i64 8, .int .i64 (j : Int), .int .i64 (i : Int), .int .i64 ww, .int .i64 r, .bool false, .int .i64 res] 31)).alloc (.cells #[.slice none 0 0, .int .i64 0, .int .i64 0, .int .i64 0, .int .i64 0, .int .i64 0, .int .i64 0, .int .i64 0, .int .i64 0, .bool false, .int .i64 0] 45)).alloc (.cells #[] 3)) by go_grown)
  have HRW := Lib.hid (HR.out.kept HB.out)
  have HZ := Lib.hid (show (((w.alloc (.cells #[.int .i64 k, .int .i64 x, .int .i64 y, .int .i64 8, .int .i64 (j : Int), .int .i64 (i : Int), .int .i64 ww, .int .i64 r, .bool false, .int .i64 res] 31)).alloc (.cells #[.slice none 0 0, .int .i64 0, .int .i64 0, .int .i64 0, .int .i64 0, .int .i64 0, .int .i64 0, .int .i64 0, .int .i64 0, .bool false, .int .i64 0] 45)).alloc (.cells #[] 3)).heap.size = w.heap.size + 3 by simp)
  clear hsz hw0
  unfold tv
  go_enter Try.func17, Try.ntmps17
  go_wp2_with first
   |(at_builtin
     refine append_row (w.heap.size + 2) rfl (.tmp 10) (.tmp 11) 24 3 (.int .i64 0) 1 8 rfl Try.underlying24 info3 rfl (by omega) (by omega) (.slice (some ⟨w.heap.size + 1 + 1, 0, none⟩) 0 0) 0 [] (ints up) A up.length c rfl rfl HW0.out (by rw [Nat.mul_one]; exact HRW.out) (ints_one _) (by rw [HZ.out]; omega) (by omega) ?_
     intro v1 w1 hown hg hat
     rw [Nat.zero_add, List.nil_append] at hown
     obtain ⟨g, cap, rfl, hgb⟩ := own_pos hown hpos
     have HO := Lib.hid hown
     have hgl := (own_lt hown).2
     have hz1 := hg.size
     rw [HZ.out] at hz1
     have HB0 := Lib.hid ((hg.block w.heap.size (by rw [HZ.out]; omega) (by simp [Value.ownBlock]; omega)).trans HB0.out)
     have HB1 := Lib.hid ((hg.block (w.heap.size + 1) (by rw [HZ.out]; omega) (by simp [Value.ownBlock])).trans HB1.out)
     have HB := Lib.hid (HB.out.grown hg HB.out.size (fun j hj => by simp [Value.ownBlock] at hj; omega))
     have D0 := cells10 HB0.out
     have D1 := cells11 HB1.out
     have hne0 : g ≠ w.heap.size := by omega
     have hne1 : g ≠ w.heap.size + 1 := by omega
     have HP := Lib.hid (HP.out.kept HB.out)
     clear hown hg hat HRW HW0
     obtain ⟨c0, c1, c2, c3, c4, c5, c6, c7, c8, c9, f0, f1, f2, f3, f4, f5, f6, f7, f8, f9⟩ := D0
     obtain ⟨d0, d1, d2, d3, d4, d5, d6, d7, d8, d9, d10, e0, e1, e2, e3, e4, e5, e6, e7, e8, e9, e10⟩ := D1)
  go_quiet (fail)
  go_wp2_with first
   |(go_at_call 30
     have hbe := fun q => rbelow_any B d p j i (w1.drewN q) (HP.out.kept (below_drewN (Below.refl _ _) q)) HJ.out HI.out
     refine (hbe _).mono ?_
     rintro e w' ⟨rfl, q', rfl⟩
     rw [HBL.out]
     clear hbe)
   |(go_at_call 32
     have hsw := fun q => swap_any _ g _ cap up i (i : Int) (j : Int) (w1.drewN q) Hi.out (own_kept HO.out (below_drewN (Below.refl _ _) q))
     have HBd := Lib.hid (fun q => below_drewN HB.out q)
     refine (hsw _).mono ?_
     rintro e w2 ⟨rfl, hown, hgr⟩
     rw [HDE.out]
     rw [HSW.out] at hown
     have HO := Lib.hid hown
     have hz2 : w1.heap.size ≤ w2.heap.size := hgr.size
     have HB0 := Lib.hid ((hgr.block w.heap.size (show w.heap.size < w1.heap.size by omega) (by simpa using hne0.symm)).trans HB0.out)
     have HB1 := Lib.hid ((hgr.block (w.heap.size + 1) (show w.heap.size + 1 < w1.heap.size by omega) (by simpa using hne1.symm)).trans HB1.out)
     have HB := Lib.hid (Below.grown (HBd.out _) hgr (show w.heap.size ≤ w1.heap.size by omega) (fun j hj => by injection hj with hj; omega))
     have D0 := cells10 HB0.out
     have D1 := cells11 HB1.out
     clear hown hgr c0 c1 c2 c3 c4 c5 c6 c7 c8 c9 f0 f1 f2 f3 f4 f5 f6 f7 f8 f9 d0 d1 d2 d3 d4 d5 d6 d7 d8 d9 d10 e0 e1 e2 e3 e4 e5 e6 e7 e8 e9 e10 hsw HBd
     obtain ⟨c0, c1, c2, c3, c4, c5, c6, c7, c8, c9, f0, f1, f2, f3, f4, f5, f6, f7, f8, f9⟩ := D0
     obtain ⟨d0, d1, d2, d3, d4, d5, d6, d7, d8, d9, d10, e0, e1, e2, e3, e4, e5, e6, e7, e8, e9, e10⟩ := D1)
   |(go_at_call 34
     have hd := rdone_any ⟨k, x, y, 8, (j : Int), (i : Int), ww, r, false, res⟩ 1 w2 
     simp only [finish] at hd
     simp only [tv] at hd
     refine hd.mono ?_
     clear hd
     rintro e w3 ⟨he, hb⟩
     simp only [tv] at he
     subst he
     have hzz : w2.heap.size = w2.heap.size := rfl
     have HO := Lib.hid (own_kept HO.out hb)
     have D1 := cells11 ((hb.block (w.heap.size + 1) (by omega)).trans HB1.out)
     have HB := Lib.hid (below_next HB.out hb (by omega))
     clear hb hzz d0 d1 d2 d3 d4 d5 d6 d7 d8 d9 d10 e0 e1 e2 e3 e4 e5 e6 e7 e8 e9 e10
     obtain ⟨d0, d1, d2, d3, d4, d5, d6, d7, d8, d9, d10, e0, e1, e2, e3, e4, e5, e6, e7, e8, e9, e10⟩ := D1)
  refine bodyPost_ret (v := sv (.slice (some ⟨g, 0, none⟩) up.length cap) ⟨k, x, y, 8, (j : Int), (i : Int), ww, r, true, 1⟩) (by simp [sv, results, Try.results17, go_sem, d0, d1, d2, d3, d4, d5, d6, d7, d8, d9, d10]) rfl ?_
  refine RStepO.of (base := w.heap.size + 2) (by simp) ?_ ?_ (by omega)
  · repeat (with_reducible refine own_set ?_ (by simp only; omega) _)
    exact HO.out
  · repeat (with_reducible refine Below.setCell ?_ (by simp only; omega) _)
    exact HB.out
set_option maxRecDepth 100000 in
set_option maxHeartbeats 4000000 in
theorem rstep_810 (A B : Option Addr) (c d : Nat) (up p : List Int) (k x y ww r res : Int) (j i : Nat) (w : World) (hr : RowI w A up) (hs : RowI w B p) (hlong : up.length ≤ 65536) (hpos : 0 < up.length) (hl : up.length = p.length) (hj : j < up.length) (hi : i < up.length) (hb : belowB p j i = true) (h1 : ¬ up.getD j 0 = (j : Int)) : Calls Try.prog 17 #[.slice A up.length c, .slice B p.length d, tv ⟨k, x, y, 8, (j : Int), (i : Int), ww, r, false, res⟩] w (RStepO up ⟨k, x, y, 1, (j : Int), (i : Int), ww, r, false, res⟩ w) := by
  have HBL := Lib.hid hb
  have he1 : ¬ at_ up (j : Int) = (j : Int) := by unfold at_; simpa using h1
  have HSW := Lib.hid (show swapL up (j : Int) (j : Int) (i : Int) = up by rw [swapL, if_neg he1])
  have HDE := Lib.hid (show decide (at_ up (j : Int) = (j : Int)) = false by exact decide_eq_false he1)
  have HJ := Lib.hid (show j < p.length by omega)
  have HI := Lib.hid (show i < p.length by omega)
  have Hj := Lib.hid hj
  have Hi := Lib.hid hi
  clear hb h1 he1 hl
  have HR := Lib.hid hr
  have HP := Lib.hid hs
  clear hr hs
  have hsz : ((w.alloc (.cells #[.int .i64 k, .int .i64 x, .int .i64 y, .int .i64 8, .int .i64 (j : Int), .int .i64 (i : Int), .int .i64 ww, .int .i64 r, .bool false, .int .i64 res] 31)).alloc (.cells #[.slice none 0 0, .int .i64 0, .int .i64 0, .int .i64 0, .int .i64 0, .int .i64 0, .int .i64 0, .int .i64 0, .int .i64 0, .bool false, .int .i64 0] 45)).heap.size = w.heap.size + 1 + 1 := by simp
  have hw0 := World.ownsRow_lit (base := w.heap.size + 2) (e := 3) (size := 1) ((w.alloc (.cells #[.int .i64 k, .int .i64 x, .int .i64 y, .int .i64 8, .int .i64 (j : Int), .int .i64 (i : Int), .int .i64 ww, .int .i64 r, .bool false, .int .i64 res] 31)).alloc (.cells #[.slice none 0 0, .int .i64 0, .int .i64 0, .int .i64 0, .int .i64 0, .int .i64 0, .int .i64 0, .int .i64 0, .int .i64 0, .bool false, .int .i64 0] 45)) #[] 0 (by simp) (by simp [maxLen]) rfl
  rw [hsz] at hw0
  have HW0 := Lib.hid hw0
  have HB0 := Lib.hid ((heap_alloc_old ((w.alloc (.cells #[.int .i64 k, .int .i64 x, .int .i64 y, .int .i64 8, .int .i64 (j : Int), .int .i64 (i : Int), .int .i64 ww, .int .i64 r, .bool false, .int .i64 res] 31)).alloc (.cells #[.slice none 0 0, .int .i64 0, .int .i64 0, .int .i64 0, .int .i64 0, .int .i64 0, .int .i64 0, .int .i64 0, .int .i64 0, .bool false, .int .i64 0] 45)) (.cells #[] 3) (by simp; omega)).trans (heap_alloc2_old w (.cells #[.int .i64 k, .int .i64 x, .int .i64 y, .int .i64 8, .int .i64 (j : Int), .int .i64 (i : Int), .int .i64 ww, .int .i64 r, .bool false, .int .i64 res] 31) (.cells #[.slice none 0 0, .int .i64 0, .int .i64 0, .int .i64 0, .int .i64 0, .int .i64 0, .int .i64 0, .int .i64 0, .int .i64 0, .bool false, .int .i64 0] 45)))
  have HB1 := Lib.hid ((heap_alloc_old ((w.alloc (.cells #[.int .i64 k, .int .i64 x, .int .i64 y, .int .i64 8, .int .i64 (j : Int), .int .i64 (i : Int), .int .i64 ww, .int .i64 r, .bool false, .int .i64 res] 31)).alloc (.cells #[.slice none 0 0, .int .i64 0, .int .i64 0, .int .i64 0, .int .i64 0, .int .i64 0, .int .i64 0, .int .i64 0, .int .i64 0, .bool false, .int .i64 0] 45)) (.cells #[] 3) (by simp)).trans (heap_alloc2_new w (.cells #[.int .i64 k, .int .i64 x, .int .i64 y, .int .i64 8, .int .i64 (j : Int), .int .i64 (i : Int), .int .i64 ww, .int .i64 r, .bool false, .int .i64 res] 31) (.cells #[.slice none 0 0, .int .i64 0, .int .i64 0, .int .i64 0, .int .i64 0, .int .i64 0, .int .i64 0, .int .i64 0, .int .i64 0, .bool false, .int .i64 0] 45)))
  have HB := Lib.hid (show Below w.heap.size w (((w.alloc (.cells #[.int .i64 k, .int .i64 x, .int .i64 y, .int .i64 8, .int .i64 (j : Int), .int .i64 (i : Int), .int .i64 ww, .int .i64 r, .bool false, .int .i64 res] 31)).alloc (.cells #[.slice none 0 0, .int .i64 0, .int .i64 0, .int .i64 0, .int .i64 0, .int .i64 0, .int .i64 0, .int .i64 0, .int .i64 0, .bool false, .int .i64 0] 45)).alloc (.cells #[] 3)) by go_grown)
  have HRW := Lib.hid (HR.out.kept HB.out)
  have HZ := Lib.hid (show (((w.alloc (.cells #[.int .i64 k, .int .i64 x, .int .i64 y, .int .i64 8, .int .i64 (j : Int), .int .i64 (i : Int), .int .i64 ww, .int .i64 r, .bool false, .int .i64 res] 31)).alloc (.cells #[.slice none 0 0, .int .i64 0, .int .i64 0, .int .i64 0, .int .i64 0, .int .i64 0, .int .i64 0, .int .i64 0, .int .i64 0, .bool false, .int .i64 0] 45)).alloc (.cells #[] 3)).heap.size = w.heap.size + 3 by simp)
  clear hsz hw0
  unfold tv
  go_enter Try.func17, Try.ntmps17
  go_wp2_with first
   |(at_builtin
     refine append_row (w.heap.size + 2) rfl (.tmp 10) (.tmp 11) 24 3 (.int .i64 0) 1 8 rfl Try.underlying24 info3 rfl (by omega) (by omega) (.slice (some ⟨w.heap.size + 1 + 1, 0, none⟩) 0 0) 0 [] (ints up) A up.length c rfl rfl HW0.out (by rw [Nat.mul_one]; exact HRW.out) (ints_one _) (by rw [HZ.out]; omega) (by omega) ?_
     intro v1 w1 hown hg hat
     rw [Nat.zero_add, List.nil_append] at hown
     obtain ⟨g, cap, rfl, hgb⟩ := own_pos hown hpos
     have HO := Lib.hid hown
     have hgl := (own_lt hown).2
     have hz1 := hg.size
     rw [HZ.out] at hz1
     have HB0 := Lib.hid ((hg.block w.heap.size (by rw [HZ.out]; omega) (by simp [Value.ownBlock]; omega)).trans HB0.out)
     have HB1 := Lib.hid ((hg.block (w.heap.size + 1) (by rw [HZ.out]; omega) (by simp [Value.ownBlock])).trans HB1.out)
     have HB := Lib.hid (HB.out.grown hg HB.out.size (fun j hj => by simp [Value.ownBlock] at hj; omega))
     have D0 := cells10 HB0.out
     have D1 := cells11 HB1.out
     have hne0 : g ≠ w.heap.size := by omega
     have hne1 : g ≠ w.heap.size + 1 := by omega
     have HP := Lib.hid (HP.out.kept HB.out)
     clear hown hg hat HRW HW0
     obtain ⟨c0, c1, c2, c3, c4, c5, c6, c7, c8, c9, f0, f1, f2, f3, f4, f5, f6, f7, f8, f9⟩ := D0
     obtain ⟨d0, d1, d2, d3, d4, d5, d6, d7, d8, d9, d10, e0, e1, e2, e3, e4, e5, e6, e7, e8, e9, e10⟩ := D1)
  go_quiet (fail)
  go_wp2_with first
   |(go_at_call 30
     have hbe := fun q => rbelow_any B d p j i (w1.drewN q) (HP.out.kept (below_drewN (Below.refl _ _) q)) HJ.out HI.out
     refine (hbe _).mono ?_
     rintro e w' ⟨rfl, q', rfl⟩
     rw [HBL.out]
     clear hbe)
   |(go_at_call 32
     have hsw := fun q => swap_any _ g _ cap up j (j : Int) (i : Int) (w1.drewN q) Hj.out (own_kept HO.out (below_drewN (Below.refl _ _) q))
     have HBd := Lib.hid (fun q => below_drewN HB.out q)
     refine (hsw _).mono ?_
     rintro e w2 ⟨rfl, hown, hgr⟩
     rw [HDE.out]
     rw [HSW.out] at hown
     have HO := Lib.hid hown
     have hz2 : w1.heap.size ≤ w2.heap.size := hgr.size
     have HB0 := Lib.hid ((hgr.block w.heap.size (show w.heap.size < w1.heap.size by omega) (by simpa using hne0.symm)).trans HB0.out)
     have HB1 := Lib.hid ((hgr.block (w.heap.size + 1) (show w.heap.size + 1 < w1.heap.size by omega) (by simpa using hne1.symm)).trans HB1.out)
     have HB := Lib.hid (Below.grown (HBd.out _) hgr (show w.heap.size ≤ w1.heap.size by omega) (fun j hj => by injection hj with hj; omega))
     have D0 := cells10 HB0.out
     have D1 := cells11 HB1.out
     clear hown hgr c0 c1 c2 c3 c4 c5 c6 c7 c8 c9 f0 f1 f2 f3 f4 f5 f6 f7 f8 f9 d0 d1 d2 d3 d4 d5 d6 d7 d8 d9 d10 e0 e1 e2 e3 e4 e5 e6 e7 e8 e9 e10 hsw HBd
     obtain ⟨c0, c1, c2, c3, c4, c5, c6, c7, c8, c9, f0, f1, f2, f3, f4, f5, f6, f7, f8, f9⟩ := D0
     obtain ⟨d0, d1, d2, d3, d4, d5, d6, d7, d8, d9, d10, e0, e1, e2, e3, e4, e5, e6, e7, e8, e9, e10⟩ := D1)
  refine bodyPost_ret (v := sv (.slice (some ⟨g, 0, none⟩) up.length cap) ⟨k, x, y, 1, (j : Int), (i : Int), ww, r, false, res⟩) (by simp [sv, results, Try.results17, go_sem, d0, d1, d2, d3, d4, d5, d6, d7, d8, d9, d10]) rfl ?_
  refine RStepO.of (base := w.heap.size + 2) rfl ?_ ?_ (by omega)
  · repeat (with_reducible refine own_set ?_ (by simp only; omega) _)
    exact HO.out
  · repeat (with_reducible refine Below.setCell ?_ (by simp only; omega) _)
    exact HB.out
set_option maxRecDepth 100000 in
set_option maxHeartbeats 4000000 in
theorem rstep_811 (A B : Option Addr) (c d : Nat) (up p : List Int) (k x y ww r res : Int) (j i : Nat) (w : World) (hr : RowI w A up) (hs : RowI w B p) (hlong : up.length ≤ 65536) (hpos : 0 < up.length) (hl : up.length = p.length) (hj : j < up.length) (hi : i < up.length) (hb : belowB p j i = true) (h1 : up.getD j 0 = (j : Int)) : Calls Try.prog 17 #[.slice A up.length c, .slice B p.length d, tv ⟨k, x, y, 8, (j : Int), (i : Int), ww, r, false, res⟩] w (RStepO (up.set j (i : Int)) ⟨k, x, y, 8, (j : Int), (i : Int), ww, r, true, 1⟩ w) := by
  have HBL := Lib.hid hb
  have he1 : at_ up (j : Int) = (j : Int) := by unfold at_; simpa using h1
  have HSW := Lib.hid (show swapL up (j : Int) (j : Int) (i : Int) = (up.set j (i : Int)) by rw [swapL, if_pos he1]; simp)
  have HDE := Lib.hid (show decide (at_ up (j : Int) = (j : Int)) = true by exact decide_eq_true he1)
  have HJ := Lib.hid (show j < p.length by omega)
  have HI := Lib.hid (show i < p.length by omega)
  have Hj := Lib.hid hj
  have Hi := Lib.hid hi
  clear hb h1 he1 hl
  have HR := Lib.hid hr
  have HP := Lib.hid hs
  clear hr hs
  have hsz : ((w.alloc (.cells #[.int .i64 k, .int .i64 x, .int .i64 y, .int .i64 8, .int .i64 (j : Int), .int .i64 (i : Int), .int .i64 ww, .int .i64 r, .bool false, .int .i64 res] 31)).alloc (.cells #[.slice none 0 0, .int .i64 0, .int .i64 0, .int .i64 0, .int .i64 0, .int .i64 0, .int .i64 0, .int .i64 0, .int .i64 0, .bool false, .int .i64 0] 45)).heap.size = w.heap.size + 1 + 1 := by simp
  have hw0 := World.ownsRow_lit (base := w.heap.size + 2) (e := 3) (size := 1) ((w.alloc (.cells #[.int .i64 k, .int .i64 x, .int .i64 y, .int .i64 8, .int .i64 (j : Int), .int .i64 (i : Int), .int .i64 ww, .int .i64 r, .bool false, .int .i64 res] 31)).alloc (.cells #[.slice none 0 0, .int .i64 0, .int .i64 0, .int .i64 0, .int .i64 0, .int .i64 0, .int .i64 0, .int .i64 0, .int .i64 0, .bool false, .int .i64 0] 45)) #[] 0 (by simp) (by simp [maxLen]) rfl
  rw [hsz] at hw0
  have HW0 := Lib.hid hw0
  have HB0 := Lib.hid ((heap_alloc_old ((w.alloc (.cells #[.int .i64 k, .int .i64 x, .int .i64 y, .int .i64 8, .int .i64 (j : Int), .int .i64 (i : Int), .int .i64 ww, .int .i64 r, .bool false, .int .i64 res] 31)).alloc (.cells #[.slice none 0 0, .int .i64 0, .int .i64 0, .int .i64 0, .int .i64 0, .int .i64 0, .int .i64 0, .int .i64 0, .int .i64 0, .bool false, .int .i64 0] 45)) (.cells #[] 3) (by simp; omega)).trans (heap_alloc2_old w (.cells #[.int .i64 k, .int .i64 x, .int .i64 y, .int .i64 8, .int .i64 (j : Int), .int .i64 (i : Int), .int .i64 ww, .int .i64 r, .bool false, .int .i64 res] 31) (.cells #[.slice none 0 0, .int .i64 0, .int .i64 0, .int .i64 0, .int .i64 0, .int .i64 0, .int .i64 0, .int .i64 0, .int .i64 0, .bool false, .int .i64 0] 45)))
  have HB1 := Lib.hid ((heap_alloc_old ((w.alloc (.cells #[.int .i64 k, .int .i64 x, .int .i64 y, .int .i64 8, .int .i64 (j : Int), .int .i64 (i : Int), .int .i64 ww, .int .i64 r, .bool false, .int .i64 res] 31)).alloc (.cells #[.slice none 0 0, .int .i64 0, .int .i64 0, .int .i64 0, .int .i64 0, .int .i64 0, .int .i64 0, .int .i64 0, .int .i64 0, .bool false, .int .i64 0] 45)) (.cells #[] 3) (by simp)).trans (heap_alloc2_new w (.cells #[.int .i64 k, .int .i64 x, .int .i64 y, .int .i64 8, .int .i64 (j : Int), .int .i64 (i : Int), .int .i64 ww, .int .i64 r, .bool false, .int .i64 res] 31) (.cells #[.slice none 0 0, .int .i64 0, .int .i64 0, .int .i64 0, .int .i64 0, .int .i64 0, .int .i64 0, .int .i64 0, .int .i64 0, .bool false, .int .i64 0] 45)))
  have HB := Lib.hid (show Below w.heap.size w (((w.alloc (.cells #[.int .i64 k, .int .i64 x, .int .i64 y, .int .i64 8, .int .i64 (j : Int), .int .i64 (i : Int), .int .i64 ww, .int .i64 r, .bool false, .int .i64 res] 31)).alloc (.cells #[.slice none 0 0, .int .i64 0, .int .i64 0, .int .i64 0, .int .i64 0, .int .i64 0, .int .i64 0, .int .i64 0, .int .i64 0, .bool false, .int .i64 0] 45)).alloc (.cells #[] 3)) by go_grown)
  have HRW := Lib.hid (HR.out.kept HB.out)
  have HZ := Lib.hid (show (((w.alloc (.cells #[.int .i64 k, .int .i64 x, .int .i64 y, .int .i64 8, .int .i64 (j : Int), .int .i64 (i : Int), .int .i64 ww, .int .i64 r, .bool false, .int .i64 res] 31)).alloc (.cells #[.slice none 0 0, .int .i64 0, .int .i64 0, .int .i64 0, .int .i64 0, .int .i64 0, .int .i64 0, .int .i64 0, .int .i64 0, .bool false, .int .i64 0] 45)).alloc (.cells #[] 3)).heap.size = w.heap.size + 3 by simp)
  clear hsz hw0
  unfold tv
  go_enter Try.func17, Try.ntmps17
  go_wp2_with first
   |(at_builtin
     refine append_row (w.heap.size + 2) rfl (.tmp 10) (.tmp 11) 24 3 (.int .i64 0) 1 8 rfl Try.underlying24 info3 rfl (by omega) (by omega) (.slice (some ⟨w.heap.size + 1 + 1, 0, none⟩) 0 0) 0 [] (ints up) A up.length c rfl rfl HW0.out (by rw [Nat.mul_one]; exact HRW.out) (ints_one _) (by rw [HZ.out]; omega) (by omega) ?_
     intro v1 w1 hown hg hat
     rw [Nat.zero_add, List.nil_append] at hown
     obtain ⟨g, cap, rfl, hgb⟩ := own_pos hown hpos
     have HO := Lib.hid hown
     have hgl := (own_lt hown).2
     have hz1 := hg.size
     rw [HZ.out] at hz1
     have HB0 := Lib.hid ((hg.block w.heap.size (by rw [HZ.out]; omega) (by simp [Value.ownBlock]; omega)).trans HB0.out)
     have HB1 := Lib.hid ((hg.block (w.heap.size + 1) (by rw [HZ.out]; omega) (by simp [Value.ownBlock])).trans HB1.out)
     have HB := Lib.hid (HB.out.grown hg HB.out.size (fun j hj => by simp [Value.ownBlock] at hj; omega))
     have D0 := cells10 HB0.out
     have D1 := cells11 HB1.out
     have hne0 : g ≠ w.heap.size := by omega
     have hne1 : g ≠ w.heap.size + 1 := by omega
     have HP := Lib.hid (HP.out.kept HB.out)
     clear hown hg hat HRW HW0
     obtain ⟨c0, c1, c2, c3, c4, c5, c6, c7, c8, c9, f0, f1, f2, f3, f4, f5, f6, f7, f8, f9⟩ := D0
     obtain ⟨d0, d1, d2, d3, d4, d5, d6, d7, d8, d9, d10, e0, e1, e2, e3, e4, e5, e6, e7, e8, e9, e10⟩ := D1)
  go_quiet (fail)
  go_wp2_with first
   |(go_at_call 30
     have hbe := fun q => rbelow_any B d p j i (w1.drewN q) (HP.out.kept (below_drewN (Below.refl _ _) q)) HJ.out HI.out
     refine (hbe _).mono ?_
     rintro e w' ⟨rfl, q', rfl⟩
     rw [HBL.out]
     clear hbe)
   |(go_at_call 32
     have hsw := fun q => swap_any _ g _ cap up j (j : Int) (i : Int) (w1.drewN q) Hj.out (own_kept HO.out (below_drewN (Below.refl _ _) q))
     have HBd := Lib.hid (fun q => below_drewN HB.out q)
     refine (hsw _).mono ?_
     rintro e w2 ⟨rfl, hown, hgr⟩
     rw [HDE.out]
     rw [HSW.out] at hown
     have HO := Lib.hid hown
     have hz2 : w1.heap.size ≤ w2.heap.size := hgr.size
     have HB0 := Lib.hid ((hgr.block w.heap.size (show w.heap.size < w1.heap.size by omega) (by simpa using hne0.symm)).trans HB0.out)
     have HB1 := Lib.hid ((hgr.block (w.heap.size + 1) (show w.heap.size + 1 < w1.heap.size by omega) (by simpa using hne1.symm)).trans HB1.out)
     have HB := Lib.hid (Below.grown (HBd.out _) hgr (show w.heap.size ≤ w1.heap.size by omega) (fun j hj => by injection hj with hj; omega))
     have D0 := cells10 HB0.out
     have D1 := cells11 HB1.out
     clear hown hgr c0 c1 c2 c3 c4 c5 c6 c7 c8 c9 f0 f1 f2 f3 f4 f5 f6 f7 f8 f9 d0 d1 d2 d3 d4 d5 d6 d7 d8 d9 d10 e0 e1 e2 e3 e4 e5 e6 e7 e8 e9 e10 hsw HBd
     obtain ⟨c0, c1, c2, c3, c4, c5, c6, c7, c8, c9, f0, f1, f2, f3, f4, f5, f6, f7, f8, f9⟩ := D0
     obtain ⟨d0, d1, d2, d3, d4, d5, d6, d7, d8, d9, d10, e0, e1, e2, e3, e4, e5, e6, e7, e8, e9, e10⟩ := D1)
   |(go_at_call 34
     have hd := rdone_any ⟨k, x, y, 8, (j : Int), (i : Int), ww, r, false, res⟩ 1 w2 
     simp only [finish] at hd
     simp only [tv] at hd
     refine hd.mono ?_
     clear hd
     rintro e w3 ⟨he, hb⟩
     simp only [tv] at he
     subst he
     have hzz : w2.heap.size = w2.heap.size := rfl
     have HO := Lib.hid (own_kept HO.out hb)
     have D1 := cells11 ((hb.block (w.heap.size + 1) (by omega)).trans HB1.out)
     have HB := Lib.hid (below_next HB.out hb (by omega))
     clear hb hzz d0 d1 d2 d3 d4 d5 d6 d7 d8 d9 d10 e0 e1 e2 e3 e4 e5 e6 e7 e8 e9 e10
     obtain ⟨d0, d1, d2, d3, d4, d5, d6, d7, d8, d9, d10, e0, e1, e2, e3, e4, e5, e6, e7, e8, e9, e10⟩ := D1)
  refine bodyPost_ret (v := sv (.slice (some ⟨g, 0, none⟩) up.length cap) ⟨k, x, y, 8, (j : Int), (i : Int), ww, r, true, 1⟩) (by simp [sv, results, Try.results17, go_sem, d0, d1, d2, d3, d4, d5, d6, d7, d8, d9, d10]) rfl ?_
  refine RStepO.of (base := w.heap.size + 2) (by simp) ?_ ?_ (by omega)
  · repeat (with_reducible refine own_set ?_ (by simp only; omega) _)
    exact HO.out
  · repeat (with_reducible refine Below.setCell ?_ (by simp only; omega) _)
    exact HB.out
theorem rstep_own (A B : Option Addr) (c d : Nat) (up p : List Int) (t : T) (w : World) (hr : RowI w A up) (hs : RowI w B p) (hl : up.length = p.length) (hlong : up.length ≤ 65536) (hpos : 0 < up.length) (hf : Fit up.length t) :
    Calls Try.prog 17 #[.slice A up.length c, .slice B p.length d, tv t] w (RStepO (stepL up p t).1 (stepL up p t).2 w) := by
  obtain ⟨k, x, y, s, u, v, ww, r, is, res⟩ := t
  obtain ⟨hk0, hk1, hu, hv, hs0, hs1, hk2, hk7, hk8, hw, hrr⟩ := hf
  simp only at hk0 hk1 hs0 hs1 hk2 hu hv hw
  rcases is with _ | _
  · obtain ⟨j, rfl⟩ := Int.eq_ofNat_of_zero_le hu.1
    obtain ⟨i, rfl⟩ := Int.eq_ofNat_of_zero_le hv.1
    have hj : j < up.length := by have := hu.2; omega
    have hi : i < up.length := by have := hv.2; omega
    have ej : at_ up (j : Int) = up.getD j 0 := by simp [at_]
    have ei : at_ up (i : Int) = up.getD i 0 := by simp [at_]
    rcases (show s = 1 ∨ s = 2 ∨ s = 3 ∨ s = 4 ∨ s = 5 ∨ s = 6 ∨ s = 7 ∨ s = 8 by omega) with rfl | rfl | rfl | rfl | rfl | rfl | rfl | rfl
    · by_cases h1 : up.getD j 0 = (j : Int)
      · rcases hp : firstT ⟨k, x, y, 1, (j : Int), (i : Int), (j : Int), r, false, res⟩ with ⟨k2, x2, y2, s2, u2, v2, ww2, r2, is2, res2⟩
        have := rstep_1e A B c d up p k x y (i : Int) ww r res j _ _ _ _ _ _ _ _ _ _ w hr hs hlong hpos hj h1 hp
        rw [← hp] at this
        simp only [stepL, ej, h1]
        simpa using this
      · have := rstep_1n A B c d up p k x y (i : Int) ww r res _ j w hr hs hlong hpos hj rfl h1
        simp only [stepL, ej, if_neg h1]
        simpa using this
    · obtain ⟨z, rfl⟩ := Int.eq_ofNat_of_zero_le (hw (by omega)).1
      have hz : z < up.length := by have := (hw (by omega)).2; omega
      have ez : at_ up (z : Int) = up.getD z 0 := by simp [at_]
      by_cases h1 : up.getD z 0 = (z : Int)
      · rcases hp : firstT ⟨k, x, y, 2, (z : Int), (i : Int), (z : Int), (z : Int), false, res⟩ with ⟨k2, x2, y2, s2, u2, v2, ww2, r2, is2, res2⟩
        have := rstep_2e A B c d up p k x y (j : Int) (i : Int) r res z _ _ _ _ _ _ _ _ _ _ w hr hs hlong hpos hz h1 hp
        rw [← hp] at this
        simp only [stepL, ez, h1]
        simpa using this
      · have := rstep_2n A B c d up p k x y (j : Int) (i : Int) r res _ z w hr hs hlong hpos hz rfl h1
        simp only [stepL, ez, if_neg h1]
        simpa using this
    · have := rstep_3 A B c d up p k x y (i : Int) ww r res j w hr hs hlong hpos hj
      simpa [stepL] using this
    · have hk : k = 2 ∨ k = 3 := by have := hk2 (by omega); omega
      by_cases h1 : up.getD i 0 = (i : Int)
      · rcases hp : secondT ⟨k, x, y, 4, (j : Int), (i : Int), (i : Int), r, false, res⟩ with ⟨k2, x2, y2, s2, u2, v2, ww2, r2, is2, res2⟩
        have := rstep_4e A B c d up p k x y (j : Int) ww r res i _ _ _ _ _ _ _ _ _ _ w hr hs hlong hpos hi h1 hk hp
        rw [← hp] at this
        simp only [stepL, ei, h1]
        simpa using this
      · have := rstep_4n A B c d up p k x y (j : Int) ww r res _ i w hr hs hlong hpos hi rfl h1
        simp only [stepL, ei, if_neg h1]
        simpa using this
    · have hk : k = 2 ∨ k = 3 := by have := hk2 (by omega); omega
      obtain ⟨z, rfl⟩ := Int.eq_ofNat_of_zero_le (hw (by omega)).1
      have hz : z < up.length := by have := (hw (by omega)).2; omega
      have ez : at_ up (z : Int) = up.getD z 0 := by simp [at_]
      by_cases h1 : up.getD z 0 = (z : Int)
      · rcases hp : secondT ⟨k, x, y, 5, (j : Int), (z : Int), (z : Int), (z : Int), false, res⟩ with ⟨k2, x2, y2, s2, u2, v2, ww2, r2, is2, res2⟩
        have := rstep_5e A B c d up p k x y (j : Int) (i : Int) r res z _ _ _ _ _ _ _ _ _ _ w hr hs hlong hpos hz h1 hk hp
        rw [← hp] at this
        simp only [stepL, ez, h1]
        simpa using this
      · have := rstep_5n A B c d up p k x y (j : Int) (i : Int) r res _ z w hr hs hlong hpos hz rfl h1
        simp only [stepL, ez, if_neg h1]
        simpa using this
    · have := rstep_6 A B c d up p k x y (j : Int) ww r res i w hr hs hlong hpos hi
      simpa [stepL] using this
    · by_cases h1 : up.getD j 0 = (j : Int)
      · have := rstep_7e A B c d up p k x y (i : Int) ww r res j w hr hs hlong hpos hj h1
        simp only [stepL, ej, h1]
        simpa [finish] using this
      · have := rstep_7n A B c d up p k x y (i : Int) ww r res _ j w hr hs hlong hpos hj rfl h1
        simp only [stepL, ej, if_neg h1]
        simpa using this
    · rcases hbl : belowB p j i with _ | _
      · by_cases h1 : up.getD i 0 = (i : Int)
        · have := rstep_801 A B c d up p k x y ww r res j i w hr hs hlong hpos hl hj hi hbl h1
          simp only [stepL, ei, hbl, h1]
          simpa [finish] using this
        · have := rstep_800 A B c d up p k x y ww r res j i w hr hs hlong hpos hl hj hi hbl h1
          simp only [stepL, ei, hbl, if_neg h1]
          simpa using this
      · by_cases h1 : up.getD j 0 = (j : Int)
        · have := rstep_811 A B c d up p k x y ww r res j i w hr hs hlong hpos hl hj hi hbl h1
          simp only [stepL, ej, hbl, h1]
          simpa [finish] using this
        · have := rstep_810 A B c d up p k x y ww r res j i w hr hs hlong hpos hl hj hi hbl h1
          simp only [stepL, ej, hbl, if_neg h1]
          simpa using this
  · have := rstep_t A B c d up p k x y s u v ww r res w hr hs hlong hpos
    simpa [stepL] using this
def RStepP (up' : List Int) (t' : T) (w : World) (e : Ending) (w' : World) : Prop := ∃ B d, e = .returned (sv (.slice B up'.length d) t') ∧ RowI w' B up' ∧ (∀ a, B = some a → w.heap.size ≤ a.block) ∧ Below w.heap.size w w'
theorem RStepO.rows {up' : List Int} {t' : T} {w : World} {e : Ending} {w' : World} (h : RStepO up' t' w e w') : RStepP up' t' w e w' := by
  obtain ⟨v, rfl, ho, hb⟩ := h
  obtain ⟨B, d, rfl, _, hr⟩ := row_of_own ho
  exact ⟨B, d, rfl, hr, fun a ha => own_ge ho a.block (by subst ha; simp [Value.ownBlock]), hb⟩
theorem rstep_any (A B : Option Addr) (c d : Nat) (up p : List Int) (t : T) (w : World) (hr : RowI w A up) (hs : RowI w B p) (hl : up.length = p.length) (hlong : up.length ≤ 65536) (hpos : 0 < up.length) (hf : Fit up.length t) :
    Calls Try.prog 17 #[.slice A up.length c, .slice B p.length d, tv t] w (RStepP (stepL up p t).1 (stepL up p t).2 w) :=
  (rstep_own A B c d up p t w hr hs hl hlong hpos hf).mono fun _ _ h => h.rows
end Go.Proofs.Ytcppmfmlafnmfaa
