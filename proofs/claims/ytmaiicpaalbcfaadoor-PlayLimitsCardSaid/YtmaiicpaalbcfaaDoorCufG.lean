/-
One step of a task, by the program: the cells and the task are the plain step's. Condition: the cells may be a list of so many, the task fits.
-/
import Derived.Test.YtmaiicpaalbcfaaDoorCufF
namespace Go.Proofs.YtmaiicpaalbcfaaDoor
open Go.RowKit
attribute [local go_sem ↓] Go.wp_at_zero Go.wp_at_succ
theorem own_pos {w : World} {base n : Nat} {v : Value} {xs : List Value} (h : w.ownsRow base 3 1 v n xs) (hn : 0 < n) : ∃ g cap, v = .slice (some ⟨g, 0, none⟩) n cap ∧ base ≤ g := by
  rcases h.2 with ⟨_, h1⟩ | ⟨g, cap, cur, rfl, hb, _⟩
  · omega
  · exact ⟨g, cap, rfl, hb⟩
theorem row_own {w : World} {base g n cap : Nat} {up : List Int} (hl : up.length = n) (h : w.ownsRow base 3 1 (.slice (some ⟨g, 0, none⟩) n cap) n (ints up)) : RowI w (some ⟨g, 0, none⟩) up := by
  obtain ⟨A, c, e, _, hr⟩ := row_of_own h
  injection e with e1 e2 e3
  subst e1
  subst hl
  exact hr
theorem swapL_length (up : List Int) (a b c : Int) : (swapL up a b c).length = up.length := by unfold swapL; split <;> simp
theorem stepL_length (up p : List Int) (t : T) : (stepL up p t).1.length = up.length := by
  unfold stepL
  simp only [apply_ite Prod.fst, apply_ite List.length, swapL_length, List.length_set, ite_self]
theorem own_base_to {w : World} {base base' g n cap : Nat} {xs : List Value} (h : w.ownsRow base 3 1 (.slice (some ⟨g, 0, none⟩) n cap) n xs) (hg : base' ≤ g) : w.ownsRow base' 3 1 (.slice (some ⟨g, 0, none⟩) n cap) n xs := by
  refine ⟨h.1, ?_⟩
  rcases h.2 with ⟨h1, _⟩ | ⟨g', cap', cur, h1, _, h3⟩
  · cases h1
  · injection h1 with h1 h2 h4
    injection h1 with h1
    injection h1 with h1
    subst h1
    subst h4
    exact .inr ⟨g, cap, cur, rfl, hg, h3⟩
/-- cells and a task; the cells' row is the call's own -/
def StepO (up' : List Int) (t' : T) (w : World) (e : Ending) (w' : World) : Prop := ∃ v, e = .returned (.tuple #[v, tv t']) ∧ w'.ownsRow w.heap.size 3 1 v up'.length (ints up') ∧ Below w.heap.size w w'
theorem StepO.of {base g n cap : Nat} {up' : List Int} {t' : T} {w X : World} (hl : up'.length = n) (ho : X.ownsRow base 3 1 (.slice (some ⟨g, 0, none⟩) n cap) n (ints up')) (hb : Below w.heap.size w X) (hg : w.heap.size ≤ g) : StepO up' t' w (.returned (.tuple #[.slice (some ⟨g, 0, none⟩) n cap, tv t'])) X :=
  ⟨_, rfl, by rw [hl]; exact own_base_to ho hg, hb⟩
theorem own_drew {w : World} {base g n cap : Nat} {xs : List Value} (h : w.ownsRow base 3 1 (.slice (some ⟨g, 0, none⟩) n cap) n xs) : w.drew.ownsRow base 3 1 (.slice (some ⟨g, 0, none⟩) n cap) n xs := own_kept h (below_drew (Below.refl _ _))
/-! ### ten cells stored -/
def put10 (W : World) (b : Nat) (v0 v1 v2 v3 v4 v5 v6 v7 v8 v9 : Value) : World := (((((((((W.setCell ⟨b, 0, none⟩ v0).setCell ⟨b, 1, none⟩ v1).setCell ⟨b, 2, none⟩ v2).setCell ⟨b, 3, none⟩ v3).setCell ⟨b, 4, none⟩ v4).setCell ⟨b, 5, none⟩ v5).setCell ⟨b, 6, none⟩ v6).setCell ⟨b, 7, none⟩ v7).setCell ⟨b, 8, none⟩ v8).setCell ⟨b, 9, none⟩ v9
theorem put10_block {W : World} {b : Nat} {t : TypeId} {a0 a1 a2 a3 a4 a5 a6 a7 a8 a9 : Value} (h : W.heap[b]? = some (.cells #[a0, a1, a2, a3, a4, a5, a6, a7, a8, a9] t (0, 0))) (v0 v1 v2 v3 v4 v5 v6 v7 v8 v9 : Value) : (put10 W b v0 v1 v2 v3 v4 v5 v6 v7 v8 v9).heap[b]? = some (.cells #[v0, v1, v2, v3, v4, v5, v6, v7, v8, v9] t (0, 0)) := by
  have h0 := heap_setCell_same _ b 0 _ _ v0 h
  have h1 := heap_setCell_same _ b 1 _ _ v1 h0
  have h2 := heap_setCell_same _ b 2 _ _ v2 h1
  have h3 := heap_setCell_same _ b 3 _ _ v3 h2
  have h4 := heap_setCell_same _ b 4 _ _ v4 h3
  have h5 := heap_setCell_same _ b 5 _ _ v5 h4
  have h6 := heap_setCell_same _ b 6 _ _ v6 h5
  have h7 := heap_setCell_same _ b 7 _ _ v7 h6
  have h8 := heap_setCell_same _ b 8 _ _ v8 h7
  have h9 := heap_setCell_same _ b 9 _ _ v9 h8
  simp only [List.setIfInBounds_toArray, List.set_cons_zero, List.set_cons_succ] at h9
  exact h9
theorem put10_other (W : World) {b k : Nat} (hk : k ≠ b) (v0 v1 v2 v3 v4 v5 v6 v7 v8 v9 : Value) : (put10 W b v0 v1 v2 v3 v4 v5 v6 v7 v8 v9).heap[k]? = W.heap[k]? := by
  unfold put10
  iterate 10 rw [Below.heap_setCell _ _ _ _ hk]
theorem put10_size (W : World) (b : Nat) (v0 v1 v2 v3 v4 v5 v6 v7 v8 v9 : Value) : (put10 W b v0 v1 v2 v3 v4 v5 v6 v7 v8 v9).heap.size = W.heap.size := by
  unfold put10
  simp only [World.size_setCell]
theorem put10_own {W : World} {base g n cap b : Nat} {xs : List Value} (h : W.ownsRow base 3 1 (.slice (some ⟨g, 0, none⟩) n cap) n xs) (hb : b ≠ g) (v0 v1 v2 v3 v4 v5 v6 v7 v8 v9 : Value) : (put10 W b v0 v1 v2 v3 v4 v5 v6 v7 v8 v9).ownsRow base 3 1 (.slice (some ⟨g, 0, none⟩) n cap) n xs := by
  unfold put10
  iterate 10 with_reducible refine own_set ?_ hb _
  exact h
theorem put10_below {B b : Nat} {w W : World} (h : Below B w W) (hb : B ≤ b) (v0 v1 v2 v3 v4 v5 v6 v7 v8 v9 : Value) : Below B w (put10 W b v0 v1 v2 v3 v4 v5 v6 v7 v8 v9) := by
  unfold put10
  iterate 10 with_reducible refine Below.setCell ?_ hb _
  exact h
set_option maxRecDepth 100000 in
set_option maxHeartbeats 8000000 in
theorem step_is (A B : Option Addr) (c d : Nat) (up p : List Int) (t : T) (w : World) (hr : RowI w A up) (hs : RowI w B p) (hl : up.length = p.length) (hlong : up.length ≤ 65536) (hpos : 0 < up.length) (hf : Fit up.length t) (his : t.is = true) : Calls Tryd.prog 38 #[.slice A up.length c, .slice B p.length d, tv t] w (StepO (stepL up p t).1 (stepL up p t).2 w) := by
  obtain ⟨k, x, y, s, u, v, ww, r, is, res⟩ := t
  have HF := Lib.hid hf
  have HL := Lib.hid hl
  have HR := Lib.hid hr
  have HP := Lib.hid hs
  clear hf hr hs hl
  simp only at his
  subst his
  rw [show stepL up p ⟨k, x, y, s, u, v, ww, r, true, res⟩ = (up, ⟨k, x, y, s, u, v, ww, r, true, res⟩) by simp [stepL]]
  unfold tv
  go_enter Tryd.func38, Tryd.ntmps38
  go_wp2_with fail
  have B0 := heap_alloc2_old w (.cells #[.int .i64 k, .int .i64 x, .int .i64 y, .int .i64 s, .int .i64 u, .int .i64 v, .int .i64 ww, .int .i64 r, .bool true, .int .i64 res] 63) (.cells #[.int .i64 0, .int .i64 0, .int .i64 0, .int .i64 0, .int .i64 0, .int .i64 0, .int .i64 0, .int .i64 0, .bool false, .int .i64 0] 63)
  have B1 := heap_alloc2_new w (.cells #[.int .i64 k, .int .i64 x, .int .i64 y, .int .i64 s, .int .i64 u, .int .i64 v, .int .i64 ww, .int .i64 r, .bool true, .int .i64 res] 63) (.cells #[.int .i64 0, .int .i64 0, .int .i64 0, .int .i64 0, .int .i64 0, .int .i64 0, .int .i64 0, .int .i64 0, .bool false, .int .i64 0] 63)
  obtain ⟨W, hW⟩ : ∃ W, W = (w.alloc (.cells #[.int .i64 k, .int .i64 x, .int .i64 y, .int .i64 s, .int .i64 u, .int .i64 v, .int .i64 ww, .int .i64 r, .bool true, .int .i64 res] 63)).alloc (.cells #[.int .i64 0, .int .i64 0, .int .i64 0, .int .i64 0, .int .i64 0, .int .i64 0, .int .i64 0, .int .i64 0, .bool false, .int .i64 0] 63) := ⟨_, rfl⟩
  have HB := Lib.hid (show Below w.heap.size w W by rw [hW]; go_grown)
  have hs2 : W.heap.size = w.heap.size + 2 := by rw [hW]; simp
  rw [← hW] at B0 B1 ⊢
  clear hW
  refine (clone_any A c up W (HR.out.kept HB.out) hlong).mono ?_
  rintro e w1 ⟨v1, rfl, hown, hb⟩
  obtain ⟨g, cap, rfl, hg⟩ := own_pos hown hpos
  have B0 := (hb.block w.heap.size (by omega)).trans B0
  have B1 := (hb.block (w.heap.size + 1) (by omega)).trans B1
  have HB := Lib.hid (below_next HB.out hb HB.out.size)
  have HR := Lib.hid (HR.out.kept HB.out)
  have HP := Lib.hid (HP.out.kept HB.out)
  have HO := Lib.hid hown
  have hgl := (own_lt hown).2
  have hg2 : w.heap.size + 2 ≤ g := by omega
  have hne0 : g ≠ w.heap.size := by omega
  have hne1 : g ≠ w.heap.size + 1 := by omega
  have hz1 := HB.out.size
  have HB0 := Lib.hid B0
  have HB1 := Lib.hid B1
  have D0 := cells10 B0
  have D1 := cells10 B1
  clear hown hb B0 B1 hs2
  obtain ⟨c0, c1, c2, c3, c4, c5, c6, c7, c8, c9, f0, f1, f2, f3, f4, f5, f6, f7, f8, f9⟩ := D0
  obtain ⟨d0, d1, d2, d3, d4, d5, d6, d7, d8, d9, e0, e1, e2, e3, e4, e5, e6, e7, e8, e9⟩ := D1
  go_wp2
  go_region
  go_wp2
  refine bodyPost_ret (v := .tuple #[.slice (some ⟨g, 0, none⟩) up.length cap, tv ⟨k, x, y, s, u, v, ww, r, true, res⟩]) (by simp [tv, results, Tryd.results38, go_sem, d0, d1, d2, d3, d4, d5, d6, d7, d8, d9]) rfl ?_
  refine StepO.of (base := W.heap.size) rfl ?_ ?_ (by omega)
  · (try with_reducible refine own_drew ?_)
    repeat (with_reducible refine own_set ?_ (by simp only; omega) _)
    exact HO.out
  · (try with_reducible refine below_drew ?_)
    repeat (with_reducible refine Below.setCell ?_ (by simp only; omega) _)
    exact HB.out
set_option maxRecDepth 100000 in
set_option maxHeartbeats 8000000 in
theorem step_a (A B : Option Addr) (c d : Nat) (up p : List Int) (t : T) (w : World) (hr : RowI w A up) (hs : RowI w B p) (hl : up.length = p.length) (hlong : up.length ≤ 65536) (hpos : 0 < up.length) (hf : Fit up.length t) (his : t.is = false) (h3 : t.s ≤ 3) : Calls Tryd.prog 38 #[.slice A up.length c, .slice B p.length d, tv t] w (StepO (stepL up p t).1 (stepL up p t).2 w) := by
  obtain ⟨k, x, y, s, u, v, ww, r, is, res⟩ := t
  have HF := Lib.hid hf
  have HL := Lib.hid hl
  have HR := Lib.hid hr
  have HP := Lib.hid hs
  clear hf hr hs hl
  simp only at his h3
  subst his
  have HLL := Lib.hid (stepL_length up p ⟨k, x, y, s, u, v, ww, r, false, res⟩)
  have HC := Lib.hid (fun base g cap w' h => find_first base g up.length cap up p ⟨k, x, y, s, u, v, ww, r, false, res⟩ HF.out rfl h3 w' h)
  obtain ⟨pr, hpr⟩ : ∃ pr, pr = stepL up p ⟨k, x, y, s, u, v, ww, r, false, res⟩ := ⟨_, rfl⟩
  rw [← hpr] at HC HLL ⊢
  clear hpr HF
  obtain ⟨up', ⟨k', x', y', s', u', v', ww', r', is', res'⟩⟩ := pr
  simp only at HLL HC ⊢
  unfold tv at HC
  unfold tv
  go_enter Tryd.func38, Tryd.ntmps38
  go_wp2_with fail
  have B0 := heap_alloc2_old w (.cells #[.int .i64 k, .int .i64 x, .int .i64 y, .int .i64 s, .int .i64 u, .int .i64 v, .int .i64 ww, .int .i64 r, .bool false, .int .i64 res] 63) (.cells #[.int .i64 0, .int .i64 0, .int .i64 0, .int .i64 0, .int .i64 0, .int .i64 0, .int .i64 0, .int .i64 0, .bool false, .int .i64 0] 63)
  have B1 := heap_alloc2_new w (.cells #[.int .i64 k, .int .i64 x, .int .i64 y, .int .i64 s, .int .i64 u, .int .i64 v, .int .i64 ww, .int .i64 r, .bool false, .int .i64 res] 63) (.cells #[.int .i64 0, .int .i64 0, .int .i64 0, .int .i64 0, .int .i64 0, .int .i64 0, .int .i64 0, .int .i64 0, .bool false, .int .i64 0] 63)
  obtain ⟨W, hW⟩ : ∃ W, W = (w.alloc (.cells #[.int .i64 k, .int .i64 x, .int .i64 y, .int .i64 s, .int .i64 u, .int .i64 v, .int .i64 ww, .int .i64 r, .bool false, .int .i64 res] 63)).alloc (.cells #[.int .i64 0, .int .i64 0, .int .i64 0, .int .i64 0, .int .i64 0, .int .i64 0, .int .i64 0, .int .i64 0, .bool false, .int .i64 0] 63) := ⟨_, rfl⟩
  have HB := Lib.hid (show Below w.heap.size w W by rw [hW]; go_grown)
  have hs2 : W.heap.size = w.heap.size + 2 := by rw [hW]; simp
  rw [← hW] at B0 B1 ⊢
  clear hW
  refine (clone_any A c up W (HR.out.kept HB.out) hlong).mono ?_
  rintro e w1 ⟨v1, rfl, hown, hb⟩
  obtain ⟨g, cap, rfl, hg⟩ := own_pos hown hpos
  have B0 := (hb.block w.heap.size (by omega)).trans B0
  have B1 := (hb.block (w.heap.size + 1) (by omega)).trans B1
  have HB := Lib.hid (below_next HB.out hb HB.out.size)
  have HR := Lib.hid (HR.out.kept HB.out)
  have HP := Lib.hid (HP.out.kept HB.out)
  have HO := Lib.hid hown
  have hgl := (own_lt hown).2
  have hg2 : w.heap.size + 2 ≤ g := by omega
  have hne0 : g ≠ w.heap.size := by omega
  have hne1 : g ≠ w.heap.size + 1 := by omega
  have hz1 := HB.out.size
  have HB0 := Lib.hid B0
  have HB1 := Lib.hid B1
  have D0 := cells10 B0
  have D1 := cells10 B1
  clear hown hb B0 B1 hs2
  obtain ⟨c0, c1, c2, c3, c4, c5, c6, c7, c8, c9, f0, f1, f2, f3, f4, f5, f6, f7, f8, f9⟩ := D0
  obtain ⟨d0, d1, d2, d3, d4, d5, d6, d7, d8, d9, e0, e1, e2, e3, e4, e5, e6, e7, e8, e9⟩ := D1
  have q1 : decide (s ≤ 3) = true := by simp [h3]
  have HC := Lib.hid (HC.out _ g cap w1 HO.out)
  clear h3
  go_wp2_with fail
  refine HC.out.mono ?_
  rintro e w2 ⟨he, hown, hgr⟩
  simp only [tv] at he
  subst he
  have HO := Lib.hid hown
  have hbb : w1.heap.size ≤ w2.heap.size := hgr.size
  have HB := Lib.hid (HB.out.grown hgr hz1 (fun j hj => by injection hj with hj; omega))
  have HB0 := Lib.hid ((hgr.block w.heap.size (by omega) (by simpa using hne0.symm)).trans HB0.out)
  have HB1 := Lib.hid ((hgr.block (w.heap.size + 1) (by omega) (by simpa using hne1.symm)).trans HB1.out)
  have D0 := cells10 HB0.out
  clear hown hgr c0 c1 c2 c3 c4 c5 c6 c7 c8 c9 f0 f1 f2 f3 f4 f5 f6 f7 f8 f9 d0 d1 d2 d3 d4 d5 d6 d7 d8 d9 e0 e1 e2 e3 e4 e5 e6 e7 e8 e9
  obtain ⟨c0, c1, c2, c3, c4, c5, c6, c7, c8, c9, f0, f1, f2, f3, f4, f5, f6, f7, f8, f9⟩ := D0
  go_wp2
  clear c0 c1 c2 c3 c4 c5 c6 c7 c8 c9 f0 f1 f2 f3 f4 f5 f6 f7 f8 f9
  obtain ⟨W3, hW3⟩ : ∃ W3, W3 = put10 w2 w.heap.size (.int .i64 k') (.int .i64 x') (.int .i64 y') (.int .i64 s') (.int .i64 u') (.int .i64 v') (.int .i64 ww') (.int .i64 r') (.bool is') (.int .i64 res') := ⟨_, rfl⟩
  have D0 := cells10 (put10_block HB0.out (.int .i64 k') (.int .i64 x') (.int .i64 y') (.int .i64 s') (.int .i64 u') (.int .i64 v') (.int .i64 ww') (.int .i64 r') (.bool is') (.int .i64 res'))
  have D1 := cells10 ((put10_other w2 (show w.heap.size + 1 ≠ w.heap.size by omega) (.int .i64 k') (.int .i64 x') (.int .i64 y') (.int .i64 s') (.int .i64 u') (.int .i64 v') (.int .i64 ww') (.int .i64 r') (.bool is') (.int .i64 res')).trans HB1.out)
  have HO := Lib.hid (put10_own HO.out hne0.symm (.int .i64 k') (.int .i64 x') (.int .i64 y') (.int .i64 s') (.int .i64 u') (.int .i64 v') (.int .i64 ww') (.int .i64 r') (.bool is') (.int .i64 res'))
  have HB := Lib.hid (put10_below HB.out (Nat.le_refl _) (.int .i64 k') (.int .i64 x') (.int .i64 y') (.int .i64 s') (.int .i64 u') (.int .i64 v') (.int .i64 ww') (.int .i64 r') (.bool is') (.int .i64 res'))
  rw [← hW3] at D0 D1 HO HB
  unfold put10 at hW3
  rw [← hW3]
  clear hW3
  obtain ⟨c0, c1, c2, c3, c4, c5, c6, c7, c8, c9, f0, f1, f2, f3, f4, f5, f6, f7, f8, f9⟩ := D0
  obtain ⟨d0, d1, d2, d3, d4, d5, d6, d7, d8, d9, e0, e1, e2, e3, e4, e5, e6, e7, e8, e9⟩ := D1
  go_region
  go_wp2
  refine bodyPost_ret (v := .tuple #[.slice (some ⟨g, 0, none⟩) up.length cap, tv ⟨k', x', y', s', u', v', ww', r', is', res'⟩]) (by simp [tv, results, Tryd.results38, go_sem, d0, d1, d2, d3, d4, d5, d6, d7, d8, d9]) rfl ?_
  refine StepO.of (base := W.heap.size) HLL.out ?_ ?_ (by omega)
  · (try with_reducible refine own_drew ?_)
    repeat (with_reducible refine own_set ?_ (by simp only; omega) _)
    exact HO.out
  · (try with_reducible refine below_drew ?_)
    repeat (with_reducible refine Below.setCell ?_ (by simp only; omega) _)
    exact HB.out
set_option maxRecDepth 100000 in
set_option maxHeartbeats 8000000 in
theorem step_b (A B : Option Addr) (c d : Nat) (up p : List Int) (t : T) (w : World) (hr : RowI w A up) (hs : RowI w B p) (hl : up.length = p.length) (hlong : up.length ≤ 65536) (hpos : 0 < up.length) (hf : Fit up.length t) (his : t.is = false) (h4 : 4 ≤ t.s) (h6 : t.s ≤ 6) : Calls Tryd.prog 38 #[.slice A up.length c, .slice B p.length d, tv t] w (StepO (stepL up p t).1 (stepL up p t).2 w) := by
  obtain ⟨k, x, y, s, u, v, ww, r, is, res⟩ := t
  have HF := Lib.hid hf
  have HL := Lib.hid hl
  have HR := Lib.hid hr
  have HP := Lib.hid hs
  clear hf hr hs hl
  simp only at his h4 h6
  subst his
  have HLL := Lib.hid (stepL_length up p ⟨k, x, y, s, u, v, ww, r, false, res⟩)
  have HC := Lib.hid (fun base g cap w' h => find_second base g up.length cap up p ⟨k, x, y, s, u, v, ww, r, false, res⟩ HF.out rfl h4 h6 w' h)
  obtain ⟨pr, hpr⟩ : ∃ pr, pr = stepL up p ⟨k, x, y, s, u, v, ww, r, false, res⟩ := ⟨_, rfl⟩
  rw [← hpr] at HC HLL ⊢
  clear hpr HF
  obtain ⟨up', ⟨k', x', y', s', u', v', ww', r', is', res'⟩⟩ := pr
  simp only at HLL HC ⊢
  unfold tv at HC
  unfold tv
  go_enter Tryd.func38, Tryd.ntmps38
  go_wp2_with fail
  have B0 := heap_alloc2_old w (.cells #[.int .i64 k, .int .i64 x, .int .i64 y, .int .i64 s, .int .i64 u, .int .i64 v, .int .i64 ww, .int .i64 r, .bool false, .int .i64 res] 63) (.cells #[.int .i64 0, .int .i64 0, .int .i64 0, .int .i64 0, .int .i64 0, .int .i64 0, .int .i64 0, .int .i64 0, .bool false, .int .i64 0] 63)
  have B1 := heap_alloc2_new w (.cells #[.int .i64 k, .int .i64 x, .int .i64 y, .int .i64 s, .int .i64 u, .int .i64 v, .int .i64 ww, .int .i64 r, .bool false, .int .i64 res] 63) (.cells #[.int .i64 0, .int .i64 0, .int .i64 0, .int .i64 0, .int .i64 0, .int .i64 0, .int .i64 0, .int .i64 0, .bool false, .int .i64 0] 63)
  obtain ⟨W, hW⟩ : ∃ W, W = (w.alloc (.cells #[.int .i64 k, .int .i64 x, .int .i64 y, .int .i64 s, .int .i64 u, .int .i64 v, .int .i64 ww, .int .i64 r, .bool false, .int .i64 res] 63)).alloc (.cells #[.int .i64 0, .int .i64 0, .int .i64 0, .int .i64 0, .int .i64 0, .int .i64 0, .int .i64 0, .int .i64 0, .bool false, .int .i64 0] 63) := ⟨_, rfl⟩
  have HB := Lib.hid (show Below w.heap.size w W by rw [hW]; go_grown)
  have hs2 : W.heap.size = w.heap.size + 2 := by rw [hW]; simp
  rw [← hW] at B0 B1 ⊢
  clear hW
  refine (clone_any A c up W (HR.out.kept HB.out) hlong).mono ?_
  rintro e w1 ⟨v1, rfl, hown, hb⟩
  obtain ⟨g, cap, rfl, hg⟩ := own_pos hown hpos
  have B0 := (hb.block w.heap.size (by omega)).trans B0
  have B1 := (hb.block (w.heap.size + 1) (by omega)).trans B1
  have HB := Lib.hid (below_next HB.out hb HB.out.size)
  have HR := Lib.hid (HR.out.kept HB.out)
  have HP := Lib.hid (HP.out.kept HB.out)
  have HO := Lib.hid hown
  have hgl := (own_lt hown).2
  have hg2 : w.heap.size + 2 ≤ g := by omega
  have hne0 : g ≠ w.heap.size := by omega
  have hne1 : g ≠ w.heap.size + 1 := by omega
  have hz1 := HB.out.size
  have HB0 := Lib.hid B0
  have HB1 := Lib.hid B1
  have D0 := cells10 B0
  have D1 := cells10 B1
  clear hown hb B0 B1 hs2
  obtain ⟨c0, c1, c2, c3, c4, c5, c6, c7, c8, c9, f0, f1, f2, f3, f4, f5, f6, f7, f8, f9⟩ := D0
  obtain ⟨d0, d1, d2, d3, d4, d5, d6, d7, d8, d9, e0, e1, e2, e3, e4, e5, e6, e7, e8, e9⟩ := D1
  have q1 : decide (s ≤ 3) = false := by simp; omega
  have q2 : decide (s ≤ 6) = true := by simp [h6]
  have HC := Lib.hid (HC.out _ g cap w1 HO.out)
  clear h4 h6
  go_wp2_with fail
  refine HC.out.mono ?_
  rintro e w2 ⟨he, hown, hgr⟩
  simp only [tv] at he
  subst he
  have HO := Lib.hid hown
  have hbb : w1.heap.size ≤ w2.heap.size := hgr.size
  have HB := Lib.hid (HB.out.grown hgr hz1 (fun j hj => by injection hj with hj; omega))
  have HB0 := Lib.hid ((hgr.block w.heap.size (by omega) (by simpa using hne0.symm)).trans HB0.out)
  have HB1 := Lib.hid ((hgr.block (w.heap.size + 1) (by omega) (by simpa using hne1.symm)).trans HB1.out)
  have D0 := cells10 HB0.out
  clear hown hgr c0 c1 c2 c3 c4 c5 c6 c7 c8 c9 f0 f1 f2 f3 f4 f5 f6 f7 f8 f9 d0 d1 d2 d3 d4 d5 d6 d7 d8 d9 e0 e1 e2 e3 e4 e5 e6 e7 e8 e9
  obtain ⟨c0, c1, c2, c3, c4, c5, c6, c7, c8, c9, f0, f1, f2, f3, f4, f5, f6, f7, f8, f9⟩ := D0
  go_wp2
  clear c0 c1 c2 c3 c4 c5 c6 c7 c8 c9 f0 f1 f2 f3 f4 f5 f6 f7 f8 f9
  obtain ⟨W3, hW3⟩ : ∃ W3, W3 = put10 w2 w.heap.size (.int .i64 k') (.int .i64 x') (.int .i64 y') (.int .i64 s') (.int .i64 u') (.int .i64 v') (.int .i64 ww') (.int .i64 r') (.bool is') (.int .i64 res') := ⟨_, rfl⟩
  have D0 := cells10 (put10_block HB0.out (.int .i64 k') (.int .i64 x') (.int .i64 y') (.int .i64 s') (.int .i64 u') (.int .i64 v') (.int .i64 ww') (.int .i64 r') (.bool is') (.int .i64 res'))
  have D1 := cells10 ((put10_other w2 (show w.heap.size + 1 ≠ w.heap.size by omega) (.int .i64 k') (.int .i64 x') (.int .i64 y') (.int .i64 s') (.int .i64 u') (.int .i64 v') (.int .i64 ww') (.int .i64 r') (.bool is') (.int .i64 res')).trans HB1.out)
  have HO := Lib.hid (put10_own HO.out hne0.symm (.int .i64 k') (.int .i64 x') (.int .i64 y') (.int .i64 s') (.int .i64 u') (.int .i64 v') (.int .i64 ww') (.int .i64 r') (.bool is') (.int .i64 res'))
  have HB := Lib.hid (put10_below HB.out (Nat.le_refl _) (.int .i64 k') (.int .i64 x') (.int .i64 y') (.int .i64 s') (.int .i64 u') (.int .i64 v') (.int .i64 ww') (.int .i64 r') (.bool is') (.int .i64 res'))
  rw [← hW3] at D0 D1 HO HB
  unfold put10 at hW3
  rw [← hW3]
  clear hW3
  obtain ⟨c0, c1, c2, c3, c4, c5, c6, c7, c8, c9, f0, f1, f2, f3, f4, f5, f6, f7, f8, f9⟩ := D0
  obtain ⟨d0, d1, d2, d3, d4, d5, d6, d7, d8, d9, e0, e1, e2, e3, e4, e5, e6, e7, e8, e9⟩ := D1
  go_region
  go_wp2
  refine bodyPost_ret (v := .tuple #[.slice (some ⟨g, 0, none⟩) up.length cap, tv ⟨k', x', y', s', u', v', ww', r', is', res'⟩]) (by simp [tv, results, Tryd.results38, go_sem, d0, d1, d2, d3, d4, d5, d6, d7, d8, d9]) rfl ?_
  refine StepO.of (base := W.heap.size) HLL.out ?_ ?_ (by omega)
  · (try with_reducible refine own_drew ?_)
    repeat (with_reducible refine own_set ?_ (by simp only; omega) _)
    exact HO.out
  · (try with_reducible refine below_drew ?_)
    repeat (with_reducible refine Below.setCell ?_ (by simp only; omega) _)
    exact HB.out
set_option maxRecDepth 100000 in
set_option maxHeartbeats 2000000 in
theorem step_c1 (A B : Option Addr) (c d : Nat) (up p : List Int) (k x y v ww r res : Int) (j : Nat) (w : World) (hr : RowI w A up) (hs : RowI w B p) (hl : up.length = p.length) (hlong : up.length ≤ 65536) (hpos : 0 < up.length) (hj : j < up.length) (h1 : up.getD j 0 = (j : Int)) : Calls Tryd.prog 38 #[.slice A up.length c, .slice B p.length d, tv ⟨k, x, y, 7, (j : Int), v, ww, r, false, res⟩] w (StepO up ⟨k, x, y, 7, (j : Int), v, (j : Int), r, true, 0⟩ w) := by
  have HH := Lib.hid h1
  clear h1
  have HL := Lib.hid hl
  have HR := Lib.hid hr
  have HP := Lib.hid hs
  clear hr hs hl
  unfold tv
  go_enter Tryd.func38, Tryd.ntmps38
  go_wp2_with fail
  have B0 := heap_alloc2_old w (.cells #[.int .i64 k, .int .i64 x, .int .i64 y, .int .i64 7, .int .i64 (j : Int), .int .i64 v, .int .i64 ww, .int .i64 r, .bool false, .int .i64 res] 63) (.cells #[.int .i64 0, .int .i64 0, .int .i64 0, .int .i64 0, .int .i64 0, .int .i64 0, .int .i64 0, .int .i64 0, .bool false, .int .i64 0] 63)
  have B1 := heap_alloc2_new w (.cells #[.int .i64 k, .int .i64 x, .int .i64 y, .int .i64 7, .int .i64 (j : Int), .int .i64 v, .int .i64 ww, .int .i64 r, .bool false, .int .i64 res] 63) (.cells #[.int .i64 0, .int .i64 0, .int .i64 0, .int .i64 0, .int .i64 0, .int .i64 0, .int .i64 0, .int .i64 0, .bool false, .int .i64 0] 63)
  obtain ⟨W, hW⟩ : ∃ W, W = (w.alloc (.cells #[.int .i64 k, .int .i64 x, .int .i64 y, .int .i64 7, .int .i64 (j : Int), .int .i64 v, .int .i64 ww, .int .i64 r, .bool false, .int .i64 res] 63)).alloc (.cells #[.int .i64 0, .int .i64 0, .int .i64 0, .int .i64 0, .int .i64 0, .int .i64 0, .int .i64 0, .int .i64 0, .bool false, .int .i64 0] 63) := ⟨_, rfl⟩
  have HB := Lib.hid (show Below w.heap.size w W by rw [hW]; go_grown)
  have hs2 : W.heap.size = w.heap.size + 2 := by rw [hW]; simp
  rw [← hW] at B0 B1 ⊢
  clear hW
  refine (clone_any A c up W (HR.out.kept HB.out) hlong).mono ?_
  rintro e w1 ⟨v1, rfl, hown, hb⟩
  obtain ⟨g, cap, rfl, hg⟩ := own_pos hown hpos
  have B0 := (hb.block w.heap.size (by omega)).trans B0
  have B1 := (hb.block (w.heap.size + 1) (by omega)).trans B1
  have HB := Lib.hid (below_next HB.out hb HB.out.size)
  have HR := Lib.hid (HR.out.kept HB.out)
  have HP := Lib.hid (HP.out.kept HB.out)
  have HO := Lib.hid hown
  have hgl := (own_lt hown).2
  have hg2 : w.heap.size + 2 ≤ g := by omega
  have hne0 : g ≠ w.heap.size := by omega
  have hne1 : g ≠ w.heap.size + 1 := by omega
  have hz1 := HB.out.size
  have HB0 := Lib.hid B0
  have HB1 := Lib.hid B1
  have D0 := cells10 B0
  have D1 := cells10 B1
  clear hown hb B0 B1 hs2
  obtain ⟨c0, c1, c2, c3, c4, c5, c6, c7, c8, c9, f0, f1, f2, f3, f4, f5, f6, f7, f8, f9⟩ := D0
  obtain ⟨d0, d1, d2, d3, d4, d5, d6, d7, d8, d9, e0, e1, e2, e3, e4, e5, e6, e7, e8, e9⟩ := D1
  have c00 := own_cell_int HO.out j hj
  rw [HH.out] at c00
  have p0 : (0 : Int) ≤ (j : Int) := by omega
  have p1 : (j : Int) < (up.length : Int) := by omega
  go_wp2_with fail
  have hd := (done_any ⟨k, x, y, 7, (j : Int), v, (j : Int), r, false, res⟩ 0 (w1.setCell ⟨w.heap.size, 6, none⟩ (.int .i64 (j : Int))))
  simp only [tv] at hd
  refine hd.mono ?_
  clear hd
  rintro e w2 ⟨he, hb⟩
  simp only [tv, finish] at he
  subst he
  have HO := Lib.hid (own_kept (own_set HO.out (p := ⟨w.heap.size, 6, none⟩) hne0.symm _) hb)
  have hz : (w1.setCell ⟨w.heap.size, 6, none⟩ (.int .i64 (j : Int))).heap.size = w1.heap.size := World.size_setCell ..
  have D1 := cells10 ((hb.block (w.heap.size + 1) (by omega)).trans ((Below.heap_setCell _ _ _ _ (by simp)).trans HB1.out))
  have HB := Lib.hid (below_next (HB.out.setCell (p := ⟨w.heap.size, 6, none⟩) (Nat.le_refl _) _) hb (by omega))
  clear hb c00 c0 c1 c2 c3 c4 c5 c6 c7 c8 c9 f0 f1 f2 f3 f4 f5 f6 f7 f8 f9 d0 d1 d2 d3 d4 d5 d6 d7 d8 d9 e0 e1 e2 e3 e4 e5 e6 e7 e8 e9
  obtain ⟨d0, d1, d2, d3, d4, d5, d6, d7, d8, d9, e0, e1, e2, e3, e4, e5, e6, e7, e8, e9⟩ := D1
  go_wp2
  refine bodyPost_ret (v := .tuple #[.slice (some ⟨g, 0, none⟩) up.length cap, tv ⟨k, x, y, 7, (j : Int), v, (j : Int), r, true, 0⟩]) (by simp [tv, results, Tryd.results38, go_sem, d0, d1, d2, d3, d4, d5, d6, d7, d8, d9]) rfl ?_
  refine StepO.of (base := W.heap.size) rfl ?_ ?_ (by omega)
  · skip
    repeat (with_reducible refine own_set ?_ (by simp only; omega) _)
    exact HO.out
  · skip
    repeat (with_reducible refine Below.setCell ?_ (by simp only; omega) _)
    exact HB.out
set_option maxRecDepth 100000 in
set_option maxHeartbeats 2000000 in
theorem step_c2 (A B : Option Addr) (c d : Nat) (up p : List Int) (k x y v ww r res : Int) (j : Nat) (w : World) (hr : RowI w A up) (hs : RowI w B p) (hl : up.length = p.length) (hlong : up.length ≤ 65536) (hpos : 0 < up.length) (hj : j < up.length) (a : Int) (ha : up.getD j 0 = a) (h1 : ¬ a = (j : Int)) : Calls Tryd.prog 38 #[.slice A up.length c, .slice B p.length d, tv ⟨k, x, y, 7, (j : Int), v, ww, r, false, res⟩] w (StepO up ⟨k, x, y, 1, (j : Int), v, a, r, false, res⟩ w) := by
  have HH := Lib.hid ha
  clear ha
  have HL := Lib.hid hl
  have HR := Lib.hid hr
  have HP := Lib.hid hs
  clear hr hs hl
  unfold tv
  go_enter Tryd.func38, Tryd.ntmps38
  go_wp2_with fail
  have B0 := heap_alloc2_old w (.cells #[.int .i64 k, .int .i64 x, .int .i64 y, .int .i64 7, .int .i64 (j : Int), .int .i64 v, .int .i64 ww, .int .i64 r, .bool false, .int .i64 res] 63) (.cells #[.int .i64 0, .int .i64 0, .int .i64 0, .int .i64 0, .int .i64 0, .int .i64 0, .int .i64 0, .int .i64 0, .bool false, .int .i64 0] 63)
  have B1 := heap_alloc2_new w (.cells #[.int .i64 k, .int .i64 x, .int .i64 y, .int .i64 7, .int .i64 (j : Int), .int .i64 v, .int .i64 ww, .int .i64 r, .bool false, .int .i64 res] 63) (.cells #[.int .i64 0, .int .i64 0, .int .i64 0, .int .i64 0, .int .i64 0, .int .i64 0, .int .i64 0, .int .i64 0, .bool false, .int .i64 0] 63)
  obtain ⟨W, hW⟩ : ∃ W, W = (w.alloc (.cells #[.int .i64 k, .int .i64 x, .int .i64 y, .int .i64 7, .int .i64 (j : Int), .int .i64 v, .int .i64 ww, .int .i64 r, .bool false, .int .i64 res] 63)).alloc (.cells #[.int .i64 0, .int .i64 0, .int .i64 0, .int .i64 0, .int .i64 0, .int .i64 0, .int .i64 0, .int .i64 0, .bool false, .int .i64 0] 63) := ⟨_, rfl⟩
  have HB := Lib.hid (show Below w.heap.size w W by rw [hW]; go_grown)
  have hs2 : W.heap.size = w.heap.size + 2 := by rw [hW]; simp
  rw [← hW] at B0 B1 ⊢
  clear hW
  refine (clone_any A c up W (HR.out.kept HB.out) hlong).mono ?_
  rintro e w1 ⟨v1, rfl, hown, hb⟩
  obtain ⟨g, cap, rfl, hg⟩ := own_pos hown hpos
  have B0 := (hb.block w.heap.size (by omega)).trans B0
  have B1 := (hb.block (w.heap.size + 1) (by omega)).trans B1
  have HB := Lib.hid (below_next HB.out hb HB.out.size)
  have HR := Lib.hid (HR.out.kept HB.out)
  have HP := Lib.hid (HP.out.kept HB.out)
  have HO := Lib.hid hown
  have hgl := (own_lt hown).2
  have hg2 : w.heap.size + 2 ≤ g := by omega
  have hne0 : g ≠ w.heap.size := by omega
  have hne1 : g ≠ w.heap.size + 1 := by omega
  have hz1 := HB.out.size
  have HB0 := Lib.hid B0
  have HB1 := Lib.hid B1
  have D0 := cells10 B0
  have D1 := cells10 B1
  clear hown hb B0 B1 hs2
  obtain ⟨c0, c1, c2, c3, c4, c5, c6, c7, c8, c9, f0, f1, f2, f3, f4, f5, f6, f7, f8, f9⟩ := D0
  obtain ⟨d0, d1, d2, d3, d4, d5, d6, d7, d8, d9, e0, e1, e2, e3, e4, e5, e6, e7, e8, e9⟩ := D1
  have c00 := own_cell_int HO.out j hj
  rw [HH.out] at c00
  have p0 : (0 : Int) ≤ (j : Int) := by omega
  have p1 : (j : Int) < (up.length : Int) := by omega
  have t0 : (a == (j : Int)) = false := by simp [h1]
  clear h1
  go_wp2
  go_region
  go_wp2
  refine bodyPost_ret (v := .tuple #[.slice (some ⟨g, 0, none⟩) up.length cap, tv ⟨k, x, y, 1, (j : Int), v, a, r, false, res⟩]) (by simp [tv, results, Tryd.results38, go_sem, d0, d1, d2, d3, d4, d5, d6, d7, d8, d9]) rfl ?_
  refine StepO.of (base := W.heap.size) rfl ?_ ?_ (by omega)
  · (try with_reducible refine own_drew ?_)
    repeat (with_reducible refine own_set ?_ (by simp only; omega) _)
    exact HO.out
  · (try with_reducible refine below_drew ?_)
    repeat (with_reducible refine Below.setCell ?_ (by simp only; omega) _)
    exact HB.out
set_option maxRecDepth 100000 in
set_option maxHeartbeats 2000000 in
theorem step_d00 (A B : Option Addr) (c d : Nat) (up p : List Int) (k x y ww r res : Int) (j i : Nat) (w : World) (hr : RowI w A up) (hs : RowI w B p) (hl : up.length = p.length) (hlong : up.length ≤ 65536) (hpos : 0 < up.length) (hj : j < up.length) (hi : i < up.length) (hb : belowB p j i = false) (h1 : ¬ up.getD i 0 = (i : Int)) : Calls Tryd.prog 38 #[.slice A up.length c, .slice B p.length d, tv ⟨k, x, y, 8, (j : Int), (i : Int), ww, r, false, res⟩] w (StepO up ⟨k, x, y, 1, (j : Int), (i : Int), ww, r, false, res⟩ w) := by
  have HBL := Lib.hid hb
  have he1 : ¬ at_ up (i : Int) = (i : Int) := by unfold at_; simpa using h1
  have HSW := Lib.hid (show swapL up (i : Int) (i : Int) (j : Int) = up by rw [swapL, if_neg he1])
  have HDE := Lib.hid (show decide (at_ up (i : Int) = (i : Int)) = false by exact decide_eq_false he1)
  have HJ := Lib.hid (show j < p.length by omega)
  have HI := Lib.hid (show i < p.length by omega)
  clear hb h1 he1
  have HL := Lib.hid hl
  have HR := Lib.hid hr
  have HP := Lib.hid hs
  clear hr hs hl
  unfold tv
  go_enter Tryd.func38, Tryd.ntmps38
  go_wp2_with fail
  have B0 := heap_alloc2_old w (.cells #[.int .i64 k, .int .i64 x, .int .i64 y, .int .i64 8, .int .i64 (j : Int), .int .i64 (i : Int), .int .i64 ww, .int .i64 r, .bool false, .int .i64 res] 63) (.cells #[.int .i64 0, .int .i64 0, .int .i64 0, .int .i64 0, .int .i64 0, .int .i64 0, .int .i64 0, .int .i64 0, .bool false, .int .i64 0] 63)
  have B1 := heap_alloc2_new w (.cells #[.int .i64 k, .int .i64 x, .int .i64 y, .int .i64 8, .int .i64 (j : Int), .int .i64 (i : Int), .int .i64 ww, .int .i64 r, .bool false, .int .i64 res] 63) (.cells #[.int .i64 0, .int .i64 0, .int .i64 0, .int .i64 0, .int .i64 0, .int .i64 0, .int .i64 0, .int .i64 0, .bool false, .int .i64 0] 63)
  obtain ⟨W, hW⟩ : ∃ W, W = (w.alloc (.cells #[.int .i64 k, .int .i64 x, .int .i64 y, .int .i64 8, .int .i64 (j : Int), .int .i64 (i : Int), .int .i64 ww, .int .i64 r, .bool false, .int .i64 res] 63)).alloc (.cells #[.int .i64 0, .int .i64 0, .int .i64 0, .int .i64 0, .int .i64 0, .int .i64 0, .int .i64 0, .int .i64 0, .bool false, .int .i64 0] 63) := ⟨_, rfl⟩
  have HB := Lib.hid (show Below w.heap.size w W by rw [hW]; go_grown)
  have hs2 : W.heap.size = w.heap.size + 2 := by rw [hW]; simp
  rw [← hW] at B0 B1 ⊢
  clear hW
  refine (clone_any A c up W (HR.out.kept HB.out) hlong).mono ?_
  rintro e w1 ⟨v1, rfl, hown, hb⟩
  obtain ⟨g, cap, rfl, hg⟩ := own_pos hown hpos
  have B0 := (hb.block w.heap.size (by omega)).trans B0
  have B1 := (hb.block (w.heap.size + 1) (by omega)).trans B1
  have HB := Lib.hid (below_next HB.out hb HB.out.size)
  have HR := Lib.hid (HR.out.kept HB.out)
  have HP := Lib.hid (HP.out.kept HB.out)
  have HO := Lib.hid hown
  have hgl := (own_lt hown).2
  have hg2 : w.heap.size + 2 ≤ g := by omega
  have hne0 : g ≠ w.heap.size := by omega
  have hne1 : g ≠ w.heap.size + 1 := by omega
  have hz1 := HB.out.size
  have HB0 := Lib.hid B0
  have HB1 := Lib.hid B1
  have D0 := cells10 B0
  have D1 := cells10 B1
  clear hown hb B0 B1 hs2
  obtain ⟨c0, c1, c2, c3, c4, c5, c6, c7, c8, c9, f0, f1, f2, f3, f4, f5, f6, f7, f8, f9⟩ := D0
  obtain ⟨d0, d1, d2, d3, d4, d5, d6, d7, d8, d9, e0, e1, e2, e3, e4, e5, e6, e7, e8, e9⟩ := D1
  have hlt0 : w.heap.size < w1.heap.size := by omega
  have hlt1 : w.heap.size + 1 < w1.heap.size := by omega
  have hz2 : w.heap.size + 2 ≤ w1.heap.size := by omega
  go_wp2_with fail
  refine (below_any B d p j i _ (HP.out.kept (below_alloc (Below.refl _ _) _)) HJ.out HI.out).mono ?_
  rintro e w2 ⟨rfl, q, hq⟩
  rw [HBL.out]
  subst hq
  go_wp2_with fail
  obtain ⟨X, hX⟩ : ∃ X, X = (w1.alloc (.cells #[.int .i64 (i : Int), .int .i64 (i : Int), .int .i64 (j : Int)] 103)).drewN q := ⟨_, rfl⟩
  have hBX : Below w1.heap.size w1 X := by
    rw [hX]
    exact below_drewN (below_alloc (Below.refl _ _) _) q
  rw [← hX]
  clear hX
  have hc := set_any _ g up.length cap up i (i : Int) (j : Int) X hi (own_kept HO.out hBX)
  rw [HSW.out, HDE.out] at hc
  refine hc.mono ?_
  clear hc
  rintro e w3 ⟨rfl, hown, hgr⟩
  have hgr := (grown_of_below hBX (some g)).trans hgr
  have HO := Lib.hid hown
  have hz3 : w1.heap.size ≤ w3.heap.size := hgr.size
  have HB := Lib.hid (HB.out.grown hgr hz1 (fun j hj => by injection hj with hj; omega))
  have HB0 := Lib.hid ((hgr.block w.heap.size (by omega) (by simpa using hne0.symm)).trans HB0.out)
  have HB1 := Lib.hid ((hgr.block (w.heap.size + 1) (by omega) (by simpa using hne1.symm)).trans HB1.out)
  have D0 := cells10 HB0.out
  have D1 := cells10 HB1.out
  clear hown hgr hBX c0 c1 c2 c3 c4 c5 c6 c7 c8 c9 f0 f1 f2 f3 f4 f5 f6 f7 f8 f9 d0 d1 d2 d3 d4 d5 d6 d7 d8 d9 e0 e1 e2 e3 e4 e5 e6 e7 e8 e9
  obtain ⟨c0, c1, c2, c3, c4, c5, c6, c7, c8, c9, f0, f1, f2, f3, f4, f5, f6, f7, f8, f9⟩ := D0
  obtain ⟨d0, d1, d2, d3, d4, d5, d6, d7, d8, d9, e0, e1, e2, e3, e4, e5, e6, e7, e8, e9⟩ := D1
  go_wp2
  go_region
  go_wp2
  refine bodyPost_ret (v := .tuple #[.slice (some ⟨g, 0, none⟩) up.length cap, tv ⟨k, x, y, 1, (j : Int), (i : Int), ww, r, false, res⟩]) (by simp [tv, results, Tryd.results38, go_sem, d0, d1, d2, d3, d4, d5, d6, d7, d8, d9]) rfl ?_
  refine StepO.of (base := W.heap.size) rfl ?_ ?_ (by omega)
  · (try with_reducible refine own_drew ?_)
    repeat (with_reducible refine own_set ?_ (by simp only; omega) _)
    exact HO.out
  · (try with_reducible refine below_drew ?_)
    repeat (with_reducible refine Below.setCell ?_ (by simp only; omega) _)
    exact HB.out
set_option maxRecDepth 100000 in
set_option maxHeartbeats 2000000 in
theorem step_d01 (A B : Option Addr) (c d : Nat) (up p : List Int) (k x y ww r res : Int) (j i : Nat) (w : World) (hr : RowI w A up) (hs : RowI w B p) (hl : up.length = p.length) (hlong : up.length ≤ 65536) (hpos : 0 < up.length) (hj : j < up.length) (hi : i < up.length) (hb : belowB p j i = false) (h1 : up.getD i 0 = (i : Int)) : Calls Tryd.prog 38 #[.slice A up.length c, .slice B p.length d, tv ⟨k, x, y, 8, (j : Int), (i : Int), ww, r, false, res⟩] w (StepO (up.set i (j : Int)) ⟨k, x, y, 8, (j : Int), (i : Int), ww, r, true, 1⟩ w) := by
  have HBL := Lib.hid hb
  have he1 : at_ up (i : Int) = (i : Int) := by unfold at_; simpa using h1
  have HSW := Lib.hid (show swapL up (i : Int) (i : Int) (j : Int) = (up.set i (j : Int)) by rw [swapL, if_pos he1]; simp)
  have HDE := Lib.hid (show decide (at_ up (i : Int) = (i : Int)) = true by exact decide_eq_true he1)
  have HJ := Lib.hid (show j < p.length by omega)
  have HI := Lib.hid (show i < p.length by omega)
  clear hb h1 he1
  have HL := Lib.hid hl
  have HR := Lib.hid hr
  have HP := Lib.hid hs
  clear hr hs hl
  unfold tv
  go_enter Tryd.func38, Tryd.ntmps38
  go_wp2_with fail
  have B0 := heap_alloc2_old w (.cells #[.int .i64 k, .int .i64 x, .int .i64 y, .int .i64 8, .int .i64 (j : Int), .int .i64 (i : Int), .int .i64 ww, .int .i64 r, .bool false, .int .i64 res] 63) (.cells #[.int .i64 0, .int .i64 0, .int .i64 0, .int .i64 0, .int .i64 0, .int .i64 0, .int .i64 0, .int .i64 0, .bool false, .int .i64 0] 63)
  have B1 := heap_alloc2_new w (.cells #[.int .i64 k, .int .i64 x, .int .i64 y, .int .i64 8, .int .i64 (j : Int), .int .i64 (i : Int), .int .i64 ww, .int .i64 r, .bool false, .int .i64 res] 63) (.cells #[.int .i64 0, .int .i64 0, .int .i64 0, .int .i64 0, .int .i64 0, .int .i64 0, .int .i64 0, .int .i64 0, .bool false, .int .i64 0] 63)
  obtain ⟨W, hW⟩ : ∃ W, W = (w.alloc (.cells #[.int .i64 k, .int .i64 x, .int .i64 y, .int .i64 8, .int .i64 (j : Int), .int .i64 (i : Int), .int .i64 ww, .int .i64 r, .bool false, .int .i64 res] 63)).alloc (.cells #[.int .i64 0, .int .i64 0, .int .i64 0, .int .i64 0, .int .i64 0, .int .i64 0, .int .i64 0, .int .i64 0, .bool false, .int .i64 0] 63) := ⟨_, rfl⟩
  have HB := Lib.hid (show Below w.heap.size w W by rw [hW]; go_grown)
  have hs2 : W.heap.size = w.heap.size + 2 := by rw [hW]; simp
  rw [← hW] at B0 B1 ⊢
  clear hW
  refine (clone_any A c up W (HR.out.kept HB.out) hlong).mono ?_
  rintro e w1 ⟨v1, rfl, hown, hb⟩
  obtain ⟨g, cap, rfl, hg⟩ := own_pos hown hpos
  have B0 := (hb.block w.heap.size (by omega)).trans B0
  have B1 := (hb.block (w.heap.size + 1) (by omega)).trans B1
  have HB := Lib.hid (below_next HB.out hb HB.out.size)
  have HR := Lib.hid (HR.out.kept HB.out)
  have HP := Lib.hid (HP.out.kept HB.out)
  have HO := Lib.hid hown
  have hgl := (own_lt hown).2
  have hg2 : w.heap.size + 2 ≤ g := by omega
  have hne0 : g ≠ w.heap.size := by omega
  have hne1 : g ≠ w.heap.size + 1 := by omega
  have hz1 := HB.out.size
  have HB0 := Lib.hid B0
  have HB1 := Lib.hid B1
  have D0 := cells10 B0
  have D1 := cells10 B1
  clear hown hb B0 B1 hs2
  obtain ⟨c0, c1, c2, c3, c4, c5, c6, c7, c8, c9, f0, f1, f2, f3, f4, f5, f6, f7, f8, f9⟩ := D0
  obtain ⟨d0, d1, d2, d3, d4, d5, d6, d7, d8, d9, e0, e1, e2, e3, e4, e5, e6, e7, e8, e9⟩ := D1
  have hlt0 : w.heap.size < w1.heap.size := by omega
  have hlt1 : w.heap.size + 1 < w1.heap.size := by omega
  have hz2 : w.heap.size + 2 ≤ w1.heap.size := by omega
  go_wp2_with fail
  refine (below_any B d p j i _ (HP.out.kept (below_alloc (Below.refl _ _) _)) HJ.out HI.out).mono ?_
  rintro e w2 ⟨rfl, q, hq⟩
  rw [HBL.out]
  subst hq
  go_wp2_with fail
  obtain ⟨X, hX⟩ : ∃ X, X = (w1.alloc (.cells #[.int .i64 (i : Int), .int .i64 (i : Int), .int .i64 (j : Int)] 103)).drewN q := ⟨_, rfl⟩
  have hBX : Below w1.heap.size w1 X := by
    rw [hX]
    exact below_drewN (below_alloc (Below.refl _ _) _) q
  rw [← hX]
  clear hX
  have hc := set_any _ g up.length cap up i (i : Int) (j : Int) X hi (own_kept HO.out hBX)
  rw [HSW.out, HDE.out] at hc
  refine hc.mono ?_
  clear hc
  rintro e w3 ⟨rfl, hown, hgr⟩
  have hgr := (grown_of_below hBX (some g)).trans hgr
  have HO := Lib.hid hown
  have hz3 : w1.heap.size ≤ w3.heap.size := hgr.size
  have HB := Lib.hid (HB.out.grown hgr hz1 (fun j hj => by injection hj with hj; omega))
  have HB0 := Lib.hid ((hgr.block w.heap.size (by omega) (by simpa using hne0.symm)).trans HB0.out)
  have HB1 := Lib.hid ((hgr.block (w.heap.size + 1) (by omega) (by simpa using hne1.symm)).trans HB1.out)
  have D0 := cells10 HB0.out
  have D1 := cells10 HB1.out
  clear hown hgr hBX c0 c1 c2 c3 c4 c5 c6 c7 c8 c9 f0 f1 f2 f3 f4 f5 f6 f7 f8 f9 d0 d1 d2 d3 d4 d5 d6 d7 d8 d9 e0 e1 e2 e3 e4 e5 e6 e7 e8 e9
  obtain ⟨c0, c1, c2, c3, c4, c5, c6, c7, c8, c9, f0, f1, f2, f3, f4, f5, f6, f7, f8, f9⟩ := D0
  clear D1
  go_wp2_with fail
  have hd := done_any ⟨k, x, y, 8, (j : Int), (i : Int), ww, r, false, res⟩ 1 w3
  simp only [tv] at hd
  refine hd.mono ?_
  clear hd
  rintro e w4 ⟨he, hb⟩
  simp only [tv, finish] at he
  subst he
  have HO := Lib.hid (own_kept HO.out hb)
  have HB := Lib.hid (below_next HB.out hb HB.out.size)
  have D1 := cells10 ((hb.block (w.heap.size + 1) (by omega)).trans HB1.out)
  clear hb c0 c1 c2 c3 c4 c5 c6 c7 c8 c9 f0 f1 f2 f3 f4 f5 f6 f7 f8 f9
  obtain ⟨d0, d1, d2, d3, d4, d5, d6, d7, d8, d9, e0, e1, e2, e3, e4, e5, e6, e7, e8, e9⟩ := D1
  go_wp2
  refine bodyPost_ret (v := .tuple #[.slice (some ⟨g, 0, none⟩) up.length cap, tv ⟨k, x, y, 8, (j : Int), (i : Int), ww, r, true, 1⟩]) (by simp [tv, results, Tryd.results38, go_sem, d0, d1, d2, d3, d4, d5, d6, d7, d8, d9]) rfl ?_
  refine StepO.of (base := W.heap.size) (by simp) ?_ ?_ (by omega)
  · skip
    repeat (with_reducible refine own_set ?_ (by simp only; omega) _)
    exact HO.out
  · skip
    repeat (with_reducible refine Below.setCell ?_ (by simp only; omega) _)
    exact HB.out
set_option maxRecDepth 100000 in
set_option maxHeartbeats 2000000 in
theorem step_d10 (A B : Option Addr) (c d : Nat) (up p : List Int) (k x y ww r res : Int) (j i : Nat) (w : World) (hr : RowI w A up) (hs : RowI w B p) (hl : up.length = p.length) (hlong : up.length ≤ 65536) (hpos : 0 < up.length) (hj : j < up.length) (hi : i < up.length) (hb : belowB p j i = true) (h1 : ¬ up.getD j 0 = (j : Int)) : Calls Tryd.prog 38 #[.slice A up.length c, .slice B p.length d, tv ⟨k, x, y, 8, (j : Int), (i : Int), ww, r, false, res⟩] w (StepO up ⟨k, x, y, 1, (j : Int), (i : Int), ww, r, false, res⟩ w) := by
  have HBL := Lib.hid hb
  have he1 : ¬ at_ up (j : Int) = (j : Int) := by unfold at_; simpa using h1
  have HSW := Lib.hid (show swapL up (j : Int) (j : Int) (i : Int) = up by rw [swapL, if_neg he1])
  have HDE := Lib.hid (show decide (at_ up (j : Int) = (j : Int)) = false by exact decide_eq_false he1)
  have HJ := Lib.hid (show j < p.length by omega)
  have HI := Lib.hid (show i < p.length by omega)
  clear hb h1 he1
  have HL := Lib.hid hl
  have HR := Lib.hid hr
  have HP := Lib.hid hs
  clear hr hs hl
  unfold tv
  go_enter Tryd.func38, Tryd.ntmps38
  go_wp2_with fail
  have B0 := heap_alloc2_old w (.cells #[.int .i64 k, .int .i64 x, .int .i64 y, .int .i64 8, .int .i64 (j : Int), .int .i64 (i : Int), .int .i64 ww, .int .i64 r, .bool false, .int .i64 res] 63) (.cells #[.int .i64 0, .int .i64 0, .int .i64 0, .int .i64 0, .int .i64 0, .int .i64 0, .int .i64 0, .int .i64 0, .bool false, .int .i64 0] 63)
  have B1 := heap_alloc2_new w (.cells #[.int .i64 k, .int .i64 x, .int .i64 y, .int .i64 8, .int .i64 (j : Int), .int .i64 (i : Int), .int .i64 ww, .int .i64 r, .bool false, .int .i64 res] 63) (.cells #[.int .i64 0, .int .i64 0, .int .i64 0, .int .i64 0, .int .i64 0, .int .i64 0, .int .i64 0, .int .i64 0, .bool false, .int .i64 0] 63)
  obtain ⟨W, hW⟩ : ∃ W, W = (w.alloc (.cells #[.int .i64 k, .int .i64 x, .int .i64 y, .int .i64 8, .int .i64 (j : Int), .int .i64 (i : Int), .int .i64 ww, .int .i64 r, .bool false, .int .i64 res] 63)).alloc (.cells #[.int .i64 0, .int .i64 0, .int .i64 0, .int .i64 0, .int .i64 0, .int .i64 0, .int .i64 0, .int .i64 0, .bool false, .int .i64 0] 63) := ⟨_, rfl⟩
  have HB := Lib.hid (show Below w.heap.size w W by rw [hW]; go_grown)
  have hs2 : W.heap.size = w.heap.size + 2 := by rw [hW]; simp
  rw [← hW] at B0 B1 ⊢
  clear hW
  refine (clone_any A c up W (HR.out.kept HB.out) hlong).mono ?_
  rintro e w1 ⟨v1, rfl, hown, hb⟩
  obtain ⟨g, cap, rfl, hg⟩ := own_pos hown hpos
  have B0 := (hb.block w.heap.size (by omega)).trans B0
  have B1 := (hb.block (w.heap.size + 1) (by omega)).trans B1
  have HB := Lib.hid (below_next HB.out hb HB.out.size)
  have HR := Lib.hid (HR.out.kept HB.out)
  have HP := Lib.hid (HP.out.kept HB.out)
  have HO := Lib.hid hown
  have hgl := (own_lt hown).2
  have hg2 : w.heap.size + 2 ≤ g := by omega
  have hne0 : g ≠ w.heap.size := by omega
  have hne1 : g ≠ w.heap.size + 1 := by omega
  have hz1 := HB.out.size
  have HB0 := Lib.hid B0
  have HB1 := Lib.hid B1
  have D0 := cells10 B0
  have D1 := cells10 B1
  clear hown hb B0 B1 hs2
  obtain ⟨c0, c1, c2, c3, c4, c5, c6, c7, c8, c9, f0, f1, f2, f3, f4, f5, f6, f7, f8, f9⟩ := D0
  obtain ⟨d0, d1, d2, d3, d4, d5, d6, d7, d8, d9, e0, e1, e2, e3, e4, e5, e6, e7, e8, e9⟩ := D1
  have hlt0 : w.heap.size < w1.heap.size := by omega
  have hlt1 : w.heap.size + 1 < w1.heap.size := by omega
  have hz2 : w.heap.size + 2 ≤ w1.heap.size := by omega
  go_wp2_with fail
  refine (below_any B d p j i _ (HP.out.kept (below_alloc (Below.refl _ _) _)) HJ.out HI.out).mono ?_
  rintro e w2 ⟨rfl, q, hq⟩
  rw [HBL.out]
  subst hq
  go_wp2_with fail
  obtain ⟨X, hX⟩ : ∃ X, X = ((((w1.alloc (.cells #[.int .i64 (i : Int), .int .i64 (i : Int), .int .i64 (j : Int)] 103)).drewN q).setCell ⟨w1.heap.size, 0, none⟩ (.int .i64 (j : Int))).setCell ⟨w1.heap.size, 1, none⟩ (.int .i64 (j : Int))).setCell ⟨w1.heap.size, 2, none⟩ (.int .i64 (i : Int)) := ⟨_, rfl⟩
  have hBX : Below w1.heap.size w1 X := by
    rw [hX]
    iterate 3 with_reducible refine Below.setCell ?_ (by exact Nat.le_refl _) _
    exact below_drewN (below_alloc (Below.refl _ _) _) q
  rw [← hX]
  clear hX
  have hc := set_any _ g up.length cap up j (j : Int) (i : Int) X hj (own_kept HO.out hBX)
  rw [HSW.out, HDE.out] at hc
  refine hc.mono ?_
  clear hc
  rintro e w3 ⟨rfl, hown, hgr⟩
  have hgr := (grown_of_below hBX (some g)).trans hgr
  have HO := Lib.hid hown
  have hz3 : w1.heap.size ≤ w3.heap.size := hgr.size
  have HB := Lib.hid (HB.out.grown hgr hz1 (fun j hj => by injection hj with hj; omega))
  have HB0 := Lib.hid ((hgr.block w.heap.size (by omega) (by simpa using hne0.symm)).trans HB0.out)
  have HB1 := Lib.hid ((hgr.block (w.heap.size + 1) (by omega) (by simpa using hne1.symm)).trans HB1.out)
  have D0 := cells10 HB0.out
  have D1 := cells10 HB1.out
  clear hown hgr hBX c0 c1 c2 c3 c4 c5 c6 c7 c8 c9 f0 f1 f2 f3 f4 f5 f6 f7 f8 f9 d0 d1 d2 d3 d4 d5 d6 d7 d8 d9 e0 e1 e2 e3 e4 e5 e6 e7 e8 e9
  obtain ⟨c0, c1, c2, c3, c4, c5, c6, c7, c8, c9, f0, f1, f2, f3, f4, f5, f6, f7, f8, f9⟩ := D0
  obtain ⟨d0, d1, d2, d3, d4, d5, d6, d7, d8, d9, e0, e1, e2, e3, e4, e5, e6, e7, e8, e9⟩ := D1
  go_wp2
  go_region
  go_wp2
  refine bodyPost_ret (v := .tuple #[.slice (some ⟨g, 0, none⟩) up.length cap, tv ⟨k, x, y, 1, (j : Int), (i : Int), ww, r, false, res⟩]) (by simp [tv, results, Tryd.results38, go_sem, d0, d1, d2, d3, d4, d5, d6, d7, d8, d9]) rfl ?_
  refine StepO.of (base := W.heap.size) rfl ?_ ?_ (by omega)
  · (try with_reducible refine own_drew ?_)
    repeat (with_reducible refine own_set ?_ (by simp only; omega) _)
    exact HO.out
  · (try with_reducible refine below_drew ?_)
    repeat (with_reducible refine Below.setCell ?_ (by simp only; omega) _)
    exact HB.out
set_option maxRecDepth 100000 in
set_option maxHeartbeats 2000000 in
theorem step_d11 (A B : Option Addr) (c d : Nat) (up p : List Int) (k x y ww r res : Int) (j i : Nat) (w : World) (hr : RowI w A up) (hs : RowI w B p) (hl : up.length = p.length) (hlong : up.length ≤ 65536) (hpos : 0 < up.length) (hj : j < up.length) (hi : i < up.length) (hb : belowB p j i = true) (h1 : up.getD j 0 = (j : Int)) : Calls Tryd.prog 38 #[.slice A up.length c, .slice B p.length d, tv ⟨k, x, y, 8, (j : Int), (i : Int), ww, r, false, res⟩] w (StepO (up.set j (i : Int)) ⟨k, x, y, 8, (j : Int), (i : Int), ww, r, true, 1⟩ w) := by
  have HBL := Lib.hid hb
  have he1 : at_ up (j : Int) = (j : Int) := by unfold at_; simpa using h1
  have HSW := Lib.hid (show swapL up (j : Int) (j : Int) (i : Int) = (up.set j (i : Int)) by rw [swapL, if_pos he1]; simp)
  have HDE := Lib.hid (show decide (at_ up (j : Int) = (j : Int)) = true by exact decide_eq_true he1)
  have HJ := Lib.hid (show j < p.length by omega)
  have HI := Lib.hid (show i < p.length by omega)
  clear hb h1 he1
  have HL := Lib.hid hl
  have HR := Lib.hid hr
  have HP := Lib.hid hs
  clear hr hs hl
  unfold tv
  go_enter Tryd.func38, Tryd.ntmps38
  go_wp2_with fail
  have B0 := heap_alloc2_old w (.cells #[.int .i64 k, .int .i64 x, .int .i64 y, .int .i64 8, .int .i64 (j : Int), .int .i64 (i : Int), .int .i64 ww, .int .i64 r, .bool false, .int .i64 res] 63) (.cells #[.int .i64 0, .int .i64 0, .int .i64 0, .int .i64 0, .int .i64 0, .int .i64 0, .int .i64 0, .int .i64 0, .bool false, .int .i64 0] 63)
  have B1 := heap_alloc2_new w (.cells #[.int .i64 k, .int .i64 x, .int .i64 y, .int .i64 8, .int .i64 (j : Int), .int .i64 (i : Int), .int .i64 ww, .int .i64 r, .bool false, .int .i64 res] 63) (.cells #[.int .i64 0, .int .i64 0, .int .i64 0, .int .i64 0, .int .i64 0, .int .i64 0, .int .i64 0, .int .i64 0, .bool false, .int .i64 0] 63)
  obtain ⟨W, hW⟩ : ∃ W, W = (w.alloc (.cells #[.int .i64 k, .int .i64 x, .int .i64 y, .int .i64 8, .int .i64 (j : Int), .int .i64 (i : Int), .int .i64 ww, .int .i64 r, .bool false, .int .i64 res] 63)).alloc (.cells #[.int .i64 0, .int .i64 0, .int .i64 0, .int .i64 0, .int .i64 0, .int .i64 0, .int .i64 0, .int .i64 0, .bool false, .int .i64 0] 63) := ⟨_, rfl⟩
  have HB := Lib.hid (show Below w.heap.size w W by rw [hW]; go_grown)
  have hs2 : W.heap.size = w.heap.size + 2 := by rw [hW]; simp
  rw [← hW] at B0 B1 ⊢
  clear hW
  refine (clone_any A c up W (HR.out.kept HB.out) hlong).mono ?_
  rintro e w1 ⟨v1, rfl, hown, hb⟩
  obtain ⟨g, cap, rfl, hg⟩ := own_pos hown hpos
  have B0 := (hb.block w.heap.size (by omega)).trans B0
  have B1 := (hb.block (w.heap.size + 1) (by omega)).trans B1
  have HB := Lib.hid (below_next HB.out hb HB.out.size)
  have HR := Lib.hid (HR.out.kept HB.out)
  have HP := Lib.hid (HP.out.kept HB.out)
  have HO := Lib.hid hown
  have hgl := (own_lt hown).2
  have hg2 : w.heap.size + 2 ≤ g := by omega
  have hne0 : g ≠ w.heap.size := by omega
  have hne1 : g ≠ w.heap.size + 1 := by omega
  have hz1 := HB.out.size
  have HB0 := Lib.hid B0
  have HB1 := Lib.hid B1
  have D0 := cells10 B0
  have D1 := cells10 B1
  clear hown hb B0 B1 hs2
  obtain ⟨c0, c1, c2, c3, c4, c5, c6, c7, c8, c9, f0, f1, f2, f3, f4, f5, f6, f7, f8, f9⟩ := D0
  obtain ⟨d0, d1, d2, d3, d4, d5, d6, d7, d8, d9, e0, e1, e2, e3, e4, e5, e6, e7, e8, e9⟩ := D1
  have hlt0 : w.heap.size < w1.heap.size := by omega
  have hlt1 : w.heap.size + 1 < w1.heap.size := by omega
  have hz2 : w.heap.size + 2 ≤ w1.heap.size := by omega
  go_wp2_with fail
  refine (below_any B d p j i _ (HP.out.kept (below_alloc (Below.refl _ _) _)) HJ.out HI.out).mono ?_
  rintro e w2 ⟨rfl, q, hq⟩
  rw [HBL.out]
  subst hq
  go_wp2_with fail
  obtain ⟨X, hX⟩ : ∃ X, X = ((((w1.alloc (.cells #[.int .i64 (i : Int), .int .i64 (i : Int), .int .i64 (j : Int)] 103)).drewN q).setCell ⟨w1.heap.size, 0, none⟩ (.int .i64 (j : Int))).setCell ⟨w1.heap.size, 1, none⟩ (.int .i64 (j : Int))).setCell ⟨w1.heap.size, 2, none⟩ (.int .i64 (i : Int)) := ⟨_, rfl⟩
  have hBX : Below w1.heap.size w1 X := by
    rw [hX]
    iterate 3 with_reducible refine Below.setCell ?_ (by exact Nat.le_refl _) _
    exact below_drewN (below_alloc (Below.refl _ _) _) q
  rw [← hX]
  clear hX
  have hc := set_any _ g up.length cap up j (j : Int) (i : Int) X hj (own_kept HO.out hBX)
  rw [HSW.out, HDE.out] at hc
  refine hc.mono ?_
  clear hc
  rintro e w3 ⟨rfl, hown, hgr⟩
  have hgr := (grown_of_below hBX (some g)).trans hgr
  have HO := Lib.hid hown
  have hz3 : w1.heap.size ≤ w3.heap.size := hgr.size
  have HB := Lib.hid (HB.out.grown hgr hz1 (fun j hj => by injection hj with hj; omega))
  have HB0 := Lib.hid ((hgr.block w.heap.size (by omega) (by simpa using hne0.symm)).trans HB0.out)
  have HB1 := Lib.hid ((hgr.block (w.heap.size + 1) (by omega) (by simpa using hne1.symm)).trans HB1.out)
  have D0 := cells10 HB0.out
  have D1 := cells10 HB1.out
  clear hown hgr hBX c0 c1 c2 c3 c4 c5 c6 c7 c8 c9 f0 f1 f2 f3 f4 f5 f6 f7 f8 f9 d0 d1 d2 d3 d4 d5 d6 d7 d8 d9 e0 e1 e2 e3 e4 e5 e6 e7 e8 e9
  obtain ⟨c0, c1, c2, c3, c4, c5, c6, c7, c8, c9, f0, f1, f2, f3, f4, f5, f6, f7, f8, f9⟩ := D0
  clear D1
  go_wp2_with fail
  have hd := done_any ⟨k, x, y, 8, (j : Int), (i : Int), ww, r, false, res⟩ 1 w3
  simp only [tv] at hd
  refine hd.mono ?_
  clear hd
  rintro e w4 ⟨he, hb⟩
  simp only [tv, finish] at he
  subst he
  have HO := Lib.hid (own_kept HO.out hb)
  have HB := Lib.hid (below_next HB.out hb HB.out.size)
  have D1 := cells10 ((hb.block (w.heap.size + 1) (by omega)).trans HB1.out)
  clear hb c0 c1 c2 c3 c4 c5 c6 c7 c8 c9 f0 f1 f2 f3 f4 f5 f6 f7 f8 f9
  obtain ⟨d0, d1, d2, d3, d4, d5, d6, d7, d8, d9, e0, e1, e2, e3, e4, e5, e6, e7, e8, e9⟩ := D1
  go_wp2
  refine bodyPost_ret (v := .tuple #[.slice (some ⟨g, 0, none⟩) up.length cap, tv ⟨k, x, y, 8, (j : Int), (i : Int), ww, r, true, 1⟩]) (by simp [tv, results, Tryd.results38, go_sem, d0, d1, d2, d3, d4, d5, d6, d7, d8, d9]) rfl ?_
  refine StepO.of (base := W.heap.size) (by simp) ?_ ?_ (by omega)
  · skip
    repeat (with_reducible refine own_set ?_ (by simp only; omega) _)
    exact HO.out
  · skip
    repeat (with_reducible refine Below.setCell ?_ (by simp only; omega) _)
    exact HB.out
theorem step_own (A B : Option Addr) (c d : Nat) (up p : List Int) (t : T) (w : World) (hr : RowI w A up) (hs : RowI w B p) (hl : up.length = p.length) (hlong : up.length ≤ 65536) (hpos : 0 < up.length) (hf : Fit up.length t) : Calls Tryd.prog 38 #[.slice A up.length c, .slice B p.length d, tv t] w (StepO (stepL up p t).1 (stepL up p t).2 w) := by
  rcases hb : t.is with _ | _
  · by_cases h3 : t.s ≤ 3
    · exact step_a A B c d up p t w hr hs hl hlong hpos hf hb h3
    · by_cases h6 : t.s ≤ 6
      · exact step_b A B c d up p t w hr hs hl hlong hpos hf hb (by omega) h6
      · obtain ⟨k, x, y, s, u, v, ww, r, is, res⟩ := t
        obtain ⟨hk0, hk1, hu, hv, hs0, hs1, hk2, hk7, hk8, hw, hrr⟩ := hf
        simp only at hb h3 h6 hs1 hu hv
        subst hb
        obtain ⟨j, rfl⟩ := Int.eq_ofNat_of_zero_le hu.1
        obtain ⟨i, rfl⟩ := Int.eq_ofNat_of_zero_le hv.1
        have hj : j < up.length := by have := hu.2; omega
        have hi : i < up.length := by have := hv.2; omega
        have ej : at_ up (j : Int) = up.getD j 0 := by simp [at_]
        have ei : at_ up (i : Int) = up.getD i 0 := by simp [at_]
        rcases (show s = 7 ∨ s = 8 by omega) with rfl | rfl
        · by_cases h1 : up.getD j 0 = (j : Int)
          · have := step_c1 A B c d up p k x y (i : Int) ww r res j w hr hs hl hlong hpos hj h1
            simp only [stepL, ej, h1]
            simpa [finish] using this
          · have := step_c2 A B c d up p k x y (i : Int) ww r res j w hr hs hl hlong hpos hj _ rfl h1
            simp only [stepL, ej, if_neg h1]
            simpa using this
        · rcases hbl : belowB p j i with _ | _
          · by_cases h1 : up.getD i 0 = (i : Int)
            · have := step_d01 A B c d up p k x y ww r res j i w hr hs hl hlong hpos hj hi hbl h1
              simp only [stepL, ei, hbl, h1]
              simpa [finish] using this
            · have := step_d00 A B c d up p k x y ww r res j i w hr hs hl hlong hpos hj hi hbl h1
              simp only [stepL, ei, hbl, if_neg h1]
              simpa using this
          · by_cases h1 : up.getD j 0 = (j : Int)
            · have := step_d11 A B c d up p k x y ww r res j i w hr hs hl hlong hpos hj hi hbl h1
              simp only [stepL, ej, hbl, h1]
              simpa [finish] using this
            · have := step_d10 A B c d up p k x y ww r res j i w hr hs hl hlong hpos hj hi hbl h1
              simp only [stepL, ej, hbl, if_neg h1]
              simpa using this
  · exact step_is A B c d up p t w hr hs hl hlong hpos hf hb
def StepP (up' : List Int) (t' : T) (w : World) (e : Ending) (w' : World) : Prop := ∃ B d, e = .returned (.tuple #[.slice B up'.length d, tv t']) ∧ RowI w' B up' ∧ (∀ a, B = some a → w.heap.size ≤ a.block) ∧ Below w.heap.size w w'
theorem StepO.rows {up' : List Int} {t' : T} {w : World} {e : Ending} {w' : World} (h : StepO up' t' w e w') : StepP up' t' w e w' := by
  obtain ⟨v, rfl, ho, hb⟩ := h
  obtain ⟨B, d, rfl, _, hr⟩ := row_of_own ho
  exact ⟨B, d, rfl, hr, fun a ha => own_ge ho a.block (by subst ha; simp [Value.ownBlock]), hb⟩
theorem step_any (A B : Option Addr) (c d : Nat) (up p : List Int) (t : T) (w : World) (hr : RowI w A up) (hs : RowI w B p) (hl : up.length = p.length) (hlong : up.length ≤ 65536) (hpos : 0 < up.length) (hf : Fit up.length t) : Calls Tryd.prog 38 #[.slice A up.length c, .slice B p.length d, tv t] w (StepP (stepL up p t).1 (stepL up p t).2 w) :=
  (step_own A B c d up p t w hr hs hl hlong hpos hf).mono fun _ _ h => h.rows
end Go.Proofs.YtmaiicpaalbcfaaDoor
