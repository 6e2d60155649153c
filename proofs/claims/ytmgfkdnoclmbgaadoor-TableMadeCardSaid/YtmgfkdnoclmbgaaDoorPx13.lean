/-
The plain Lean functions of Go functions of this seat, and proofs that the calls of the machine come to them; no condition beside those named in each theorem.
-/
import Derived.Test.YtmgfkdnoclmbgaaDoorPx0
namespace Go.Proofs.YtmgfkdnoclmbgaaDoor.P
open Go.RowKit Go.Proofs.YtmgfkdnoclmbgaaDoorW.PrintWords Go.Proofs.YtmgfkdnoclmbgaaDoorW.PrintLast Go.Proofs.YtmgfkdnoclmbgaaDoorW.PrintMore
attribute [local go_sem] max2_int min2_int max_two min_two max_three min_three max_four min_four   -- for this text's walks alone
set_option linter.unusedVariables false
set_option linter.unusedSimpArgs false

/-! ### warpref1_Pick: function 21 -/
mutual
def warpref1_Pick.l0 : Nat → List Bool → List Int → Int → List Int → Int → Int → Option (Int × List Int × Int × Int)
 | 0, _, _, _, _, _, _ => none
 | k + 1, x1, x5, x6, x317000, x317001, x317002 => if x6 < (x1.length : Int) then (if 0 ≤ x6 then (if rdOf false x1 x6 = true then (if x5.length < 17592186044416 then (warpref1_Pick.l0 k x1 (x5 ++ [x6]) (wrap64 (x6 + 1)) x317000 x317001 x317002) else (none)) else (warpref1_Pick.l0 k x1 x5 (wrap64 (x6 + 1)) x317000 x317001 x317002)) else (none)) else (if (x5.length : Int) = 0 then (some ((-1), x317000, x317001, x317002)) else (if x317001 ≥ 0 then (warpref1_Pick.j1 k x5 (x5.length : Int) (decide (x317001 < (x317000.length : Int))) x317000 x317001 x317002) else (warpref1_Pick.j1 k x5 (x5.length : Int) false x317000 x317001 x317002)))
def warpref1_Pick.j1 : Nat → List Int → Int → Bool → List Int → Int → Int → Option (Int × List Int × Int × Int)
 | 0, _, _, _, _, _, _ => none
 | k + 1, x5, x7, x39, x317000, x317001, x317002 => if x39 = true then (if 0 ≤ x317001 then (if x317001 < (x317000.length : Int) then (if x7 = 0 then (none) else (if 0 ≤ (Int.tmod (wrap64 ((Int.tmod (rd x317000 x317001) x7) + x7)) x7) then (if (Int.tmod (wrap64 ((Int.tmod (rd x317000 x317001) x7) + x7)) x7) < (x5.length : Int) then (some (rd x5 (Int.tmod (wrap64 ((Int.tmod (rd x317000 x317001) x7) + x7)) x7), x317000, wrap64 (x317001 + 1), rd x5 (Int.tmod (wrap64 ((Int.tmod (rd x317000 x317001) x7) + x7)) x7))) else (none)) else (none))) else (none)) else (none)) else (warpref1_Pick.l1 k x5 x7 0 x317000 x317001 x317002)
def warpref1_Pick.j3 : Nat → List Int → Int → Int → List Int → Int → Int → Option (Int × List Int × Int × Int)
 | 0, _, _, _, _, _, _ => none
 | k + 1, x5, x7, x8, x317000, x317001, x317002 => if x8 = x7 then (if 0 < (x5.length : Int) then (some (rd x5 0, x317000, x317001, rd x5 0)) else (none)) else (if 0 ≤ x8 then (if x8 < (x5.length : Int) then (some (rd x5 x8, x317000, x317001, rd x5 x8)) else (none)) else (none))
def warpref1_Pick.l1 : Nat → List Int → Int → Int → List Int → Int → Int → Option (Int × List Int × Int × Int)
 | 0, _, _, _, _, _, _ => none
 | k + 1, x5, x7, x8, x317000, x317001, x317002 => if x8 < x7 then (if 0 ≤ x8 then (if x8 < (x5.length : Int) then (if (rd x5 x8) ≤ x317002 then (warpref1_Pick.l1 k x5 x7 (wrap64 (x8 + 1)) x317000 x317001 x317002) else (warpref1_Pick.j3 k x5 x7 x8 x317000 x317001 x317002)) else (none)) else (none)) else (warpref1_Pick.j3 k x5 x7 x8 x317000 x317001 x317002)
end
def warpref1_Pick.f (k : Nat) (l0_0 : List Int) (a0_1 : Int) (a0_2 : Int) (l1 : List Bool) : Option (Int × List Int × Int × Int) := warpref1_Pick.l0 k l1 ([] : List Int) 0 l0_0 a0_1 a0_2
theorem warpref1_Pick.mono_l : ∀ k, (∀ y0 y1 y2 y3 y4 y5, LeO (warpref1_Pick.l0 k y0 y1 y2 y3 y4 y5) (warpref1_Pick.l0 (k + 1) y0 y1 y2 y3 y4 y5)) ∧ (∀ y0 y1 y2 y3 y4 y5, LeO (warpref1_Pick.j1 k y0 y1 y2 y3 y4 y5) (warpref1_Pick.j1 (k + 1) y0 y1 y2 y3 y4 y5)) ∧ (∀ y0 y1 y2 y3 y4 y5, LeO (warpref1_Pick.j3 k y0 y1 y2 y3 y4 y5) (warpref1_Pick.j3 (k + 1) y0 y1 y2 y3 y4 y5)) ∧ (∀ y0 y1 y2 y3 y4 y5, LeO (warpref1_Pick.l1 k y0 y1 y2 y3 y4 y5) (warpref1_Pick.l1 (k + 1) y0 y1 y2 y3 y4 y5))
 | 0 => ⟨fun _ _ _ _ _ _ r h => by simp [warpref1_Pick.l0] at h, fun _ _ _ _ _ _ r h => by simp [warpref1_Pick.j1] at h, fun _ _ _ _ _ _ r h => by simp [warpref1_Pick.j3] at h, fun _ _ _ _ _ _ r h => by simp [warpref1_Pick.l1] at h⟩
 | k + 1 => by
  obtain ⟨ih0, ih1, ih2, ih3⟩ := warpref1_Pick.mono_l k
  refine ⟨?_, ?_, ?_, ?_⟩
  ·
   intro y0 y1 y2 y3 y4 y5
   unfold warpref1_Pick.l0
   repeat' first
   | (with_reducible exact ih0 _ _ _ _ _ _)
   | (with_reducible exact ih1 _ _ _ _ _ _)
   | (with_reducible exact ih2 _ _ _ _ _ _)
   | (with_reducible exact ih3 _ _ _ _ _ _)
   | (with_reducible exact LeO.refl _)
   | (with_reducible exact LeO.none _)
   | (with_reducible refine LeO.ite ?_ ?_)
   | (with_reducible refine LeO.bind ?_ (fun _ => ?_))
   | exact ih0 _ _ _ _ _ _
   | exact ih1 _ _ _ _ _ _
   | exact ih2 _ _ _ _ _ _
   | exact ih3 _ _ _ _ _ _
   | exact LeO.none _
   | refine LeO.ite ?_ ?_
   | refine LeO.bind ?_ (fun _ => ?_)
  ·
   intro y0 y1 y2 y3 y4 y5
   unfold warpref1_Pick.j1
   repeat' first
   | (with_reducible exact ih0 _ _ _ _ _ _)
   | (with_reducible exact ih1 _ _ _ _ _ _)
   | (with_reducible exact ih2 _ _ _ _ _ _)
   | (with_reducible exact ih3 _ _ _ _ _ _)
   | (with_reducible exact LeO.refl _)
   | (with_reducible exact LeO.none _)
   | (with_reducible refine LeO.ite ?_ ?_)
   | (with_reducible refine LeO.bind ?_ (fun _ => ?_))
   | exact ih0 _ _ _ _ _ _
   | exact ih1 _ _ _ _ _ _
   | exact ih2 _ _ _ _ _ _
   | exact ih3 _ _ _ _ _ _
   | exact LeO.none _
   | refine LeO.ite ?_ ?_
   | refine LeO.bind ?_ (fun _ => ?_)
  ·
   intro y0 y1 y2 y3 y4 y5
   unfold warpref1_Pick.j3
   repeat' first
   | (with_reducible exact ih0 _ _ _ _ _ _)
   | (with_reducible exact ih1 _ _ _ _ _ _)
   | (with_reducible exact ih2 _ _ _ _ _ _)
   | (with_reducible exact ih3 _ _ _ _ _ _)
   | (with_reducible exact LeO.refl _)
   | (with_reducible exact LeO.none _)
   | (with_reducible refine LeO.ite ?_ ?_)
   | (with_reducible refine LeO.bind ?_ (fun _ => ?_))
   | exact ih0 _ _ _ _ _ _
   | exact ih1 _ _ _ _ _ _
   | exact ih2 _ _ _ _ _ _
   | exact ih3 _ _ _ _ _ _
   | exact LeO.none _
   | refine LeO.ite ?_ ?_
   | refine LeO.bind ?_ (fun _ => ?_)
  ·
   intro y0 y1 y2 y3 y4 y5
   unfold warpref1_Pick.l1
   repeat' first
   | (with_reducible exact ih0 _ _ _ _ _ _)
   | (with_reducible exact ih1 _ _ _ _ _ _)
   | (with_reducible exact ih2 _ _ _ _ _ _)
   | (with_reducible exact ih3 _ _ _ _ _ _)
   | (with_reducible exact LeO.refl _)
   | (with_reducible exact LeO.none _)
   | (with_reducible refine LeO.ite ?_ ?_)
   | (with_reducible refine LeO.bind ?_ (fun _ => ?_))
   | exact ih0 _ _ _ _ _ _
   | exact ih1 _ _ _ _ _ _
   | exact ih2 _ _ _ _ _ _
   | exact ih3 _ _ _ _ _ _
   | exact LeO.none _
   | refine LeO.ite ?_ ?_
   | refine LeO.bind ?_ (fun _ => ?_)
theorem warpref1_Pick.mono : ∀ a0 a1 a2 a3 k, LeO (warpref1_Pick.f k a0 a1 a2 a3) (warpref1_Pick.f (k + 1) a0 a1 a2 a3) := by
 intro a0 a1 a2 a3 k
 obtain ⟨ih0, ih1, ih2, ih3⟩ := warpref1_Pick.mono_l k
 unfold warpref1_Pick.f
 repeat' first
  | (with_reducible exact ih0 _ _ _ _ _ _)
  | (with_reducible exact ih1 _ _ _ _ _ _)
  | (with_reducible exact ih2 _ _ _ _ _ _)
  | (with_reducible exact ih3 _ _ _ _ _ _)
  | (with_reducible exact LeO.refl _)
  | (with_reducible exact LeO.none _)
  | (with_reducible refine LeO.ite ?_ ?_)
  | (with_reducible refine LeO.bind ?_ (fun _ => ?_))
  | exact ih0 _ _ _ _ _ _
  | exact ih1 _ _ _ _ _ _
  | exact ih2 _ _ _ _ _ _
  | exact ih3 _ _ _ _ _ _
  | exact LeO.none _
  | refine LeO.ite ?_ ?_
  | refine LeO.bind ?_ (fun _ => ?_)
set_option maxHeartbeats 8000000 in
set_option maxRecDepth 100000 in
theorem warpref1_Pick.calls (k : Nat) (P0_0_ : Nat → Prop) (A0_0 : Option Addr) (c0_0 : Nat) (l0_0 : List Int) (a0_1 : Int) (a0_2 : Int) (A1 : Option Addr) (c1 : Nat) (l1 : List Bool) (r1 : Int) (r2 : List Int) (r3 : Int) (r4 : Int) (w : World) (hs0_0 : Kd.V (Kd.int .i64) 3 w w.heap.size (fun k_ => P0_0_ k_) (.slice A0_0 l0_0.length c0_0) l0_0) (hr1 : Kd.C Kd.bool w A1 l1.length l1) (hc1 : l1.length ≤ c1) (h : warpref1_Pick.f k l0_0 a0_1 a0_2 l1 = some (r1, r2, r3, r4)) :
 Calls Tryd.prog 21 #[.agg #[.slice A0_0 l0_0.length c0_0, .int .i64 a0_1, .int .i64 a0_2], .slice A1 l1.length c1] w fun e w' => ∃ v1_ : Value, e = .returned (.agg #[.int .i64 r1, v1_, .int .i64 r3, .int .i64 r4]) ∧ Kd.V (Kd.int .i64) 3 w' w.heap.size (fun k_ => (P0_0_ k_ ∨ w.heap.size ≤ k_)) v1_ r2 ∧ Below w.heap.size w w' := by
 have hu53 := Tryd.underlying53
 have hu65 := Tryd.underlying65
 have HO0_0 := Aside0.mk (show Kd.V (Kd.int .i64) 3 w w.heap.size (fun k_ => (P0_0_ k_ ∨ w.heap.size ≤ k_)) (.slice A0_0 l0_0.length c0_0) l0_0 from Kd.V_mono hs0_0 (fun k_ hk => .inl hk))
 have HR1 := Aside0.mk hr1
 have HC1 := Aside0.mk hc1
 clear hr1 hc1
 have HB := Aside0.mk (Below.refl w.heap.size w)
 have H : (warpref1_Pick.l0 k l1 ([] : List Int) 0 l0_0 a0_1 a0_2) = some (r1, r2, r3, r4) := h
 clear h
 have H' := Aside0.mk H
 clear H
 go_enter Tryd.func21, Tryd.ntmps21
 go_wp2_with (first | ((with_reducible refine gate_dst (N := 2) rfl ?_); (try (refine gate_guard (by rfl) ?_; dsimp only)); refine box_event ?hg (N := 2) ?hd (cs := #[.slice A0_0 l0_0.length c0_0, .int .i64 a0_1, .int .i64 a0_2]) (t := 53) ?hr ?_; (case hd => rfl); (case hg => rfl); (case hr => first | (go_simp; done) | (go_simp; rfl)); intro gb316 hg w3 hbox hb; have n0_ := Aside0.mk (Kd.V_below (Kd.V_elderB (by (with_reducible repeat (first | apply Kd.V_alloc | apply Kd.V_drewN | apply Kd.V_drew)); exact HO0_0.out) gb316 (Nat.le_of_eq hg.symm)) hb); have n1_ := Aside0.mk (below_step (by repeat (first | (with_reducible first | exact HB.out | apply below_alloc | apply pw_below_drewN | apply below_drew1) | exact HB.out)) hb); have n2_ := Aside0.mk (hbox); have n3_ := Aside0.mk ((by rw [hg]; exact (below_size (by repeat (first | (with_reducible first | exact HB.out | apply below_alloc | apply pw_below_drewN | apply below_drew1) | exact HB.out))) : w.heap.size ≤ gb316)); have n4_ := Aside0.mk ((by rw [hg]; exact (below_size (by repeat (first | (with_reducible first | exact HB.out | apply below_alloc | apply pw_below_drewN | apply below_drew1) | exact HB.out))) : w.heap.size ≤ gb316)); clear HO0_0; clear HB; have HO0_0 := n0_; have HB := n1_; have BK316 := n2_; have GW316 := n3_; have GE316 := n4_; clear n0_ n1_ n2_ n3_ n4_; clear hb hbox hg) | ((with_reducible refine gate_dst (N := 4) rfl ?_); (try (refine gate_guard (by rfl) ?_; dsimp only)); refine box_event ?hg (N := 4) ?hd (cs := #[.int .i64 0, .slice none 0 0, .int .i64 0, .int .i64 0]) (t := 65) ?hr ?_; (case hd => rfl); (case hg => rfl); (case hr => first | (go_simp; done) | (go_simp; rfl)); intro gb317 hg w4 hbox hb; have n0_ := Aside0.mk (Kd.V_below (Kd.V_elderB (by (with_reducible repeat (first | apply Kd.V_alloc | apply Kd.V_drewN | apply Kd.V_drew)); exact HO0_0.out) gb317 (Nat.le_of_eq hg.symm)) hb); have n1_ := Aside0.mk (blk_below (g := gb316) (o := .cells #[.slice A0_0 l0_0.length c0_0, .int .i64 a0_1, .int .i64 a0_2] 53 (0, 0)) (by (with_reducible repeat (first | refine blk_drewN ?_ _ | refine blk_drew ?_ | refine blk_alloc ?_ _)); exact BK316.out) hb); have n2_ := Aside0.mk (below_step (by repeat (first | (with_reducible first | exact HB.out | apply below_alloc | apply pw_below_drewN | apply below_drew1 | refine below_set ?_ GE316.out) | exact HB.out)) hb); have n3_ := Aside0.mk (hbox); have n4_ := Aside0.mk ((by rw [hg]; exact (below_size (by repeat (first | (with_reducible first | exact HB.out | apply below_alloc | apply pw_below_drewN | apply below_drew1 | refine below_set ?_ GE316.out) | exact HB.out))) : w.heap.size ≤ gb317)); have n5_ := Aside0.mk ((by rw [hg]; exact (below_size (by repeat (first | (with_reducible first | exact HB.out | apply below_alloc | apply pw_below_drewN | apply below_drew1 | refine below_set ?_ GE316.out) | exact HB.out))) : w.heap.size ≤ gb317)); have n6_ := Aside0.mk ((by rw [hg]; exact Nat.ne_of_lt (blk_lt (g := gb316) (o := .cells #[.slice A0_0 l0_0.length c0_0, .int .i64 a0_1, .int .i64 a0_2] 53 (0, 0)) (by (with_reducible repeat (first | refine blk_drewN ?_ _ | refine blk_drew ?_ | refine blk_alloc ?_ _)); exact BK316.out)) : gb316 ≠ gb317)); have n7_ := Aside0.mk ((by rw [hg]; exact Nat.ne_of_gt (blk_lt (g := gb316) (o := .cells #[.slice A0_0 l0_0.length c0_0, .int .i64 a0_1, .int .i64 a0_2] 53 (0, 0)) (by (with_reducible repeat (first | refine blk_drewN ?_ _ | refine blk_drew ?_ | refine blk_alloc ?_ _)); exact BK316.out)) : gb317 ≠ gb316)); clear HO0_0; clear BK316; clear HB; have HO0_0 := n0_; have BK316 := n1_; have HB := n2_; have BK317 := n3_; have GW317 := n4_; have GE317 := n5_; have NB316_317 := n6_; have NB317_316 := n7_; clear n0_ n1_ n2_ n3_ n4_ n5_ n6_ n7_; clear hb hbox hg))
 repeat (go_quiet (first | ((with_reducible refine gate_dst (N := 2) rfl ?_); (try (refine gate_guard (by rfl) ?_; dsimp only)); refine box_event ?hg (N := 2) ?hd (cs := #[.slice A0_0 l0_0.length c0_0, .int .i64 a0_1, .int .i64 a0_2]) (t := 53) ?hr ?_; (case hd => rfl); (case hg => rfl); (case hr => first | (go_simp; done) | (go_simp; rfl)); intro gb316 hg w3 hbox hb; have n0_ := Aside0.mk (Kd.V_below (Kd.V_elderB (by (with_reducible repeat (first | apply Kd.V_alloc | apply Kd.V_drewN | apply Kd.V_drew)); exact HO0_0.out) gb316 (Nat.le_of_eq hg.symm)) hb); have n1_ := Aside0.mk (below_step (by repeat (first | (with_reducible first | exact HB.out | apply below_alloc | apply pw_below_drewN | apply below_drew1) | exact HB.out)) hb); have n2_ := Aside0.mk (hbox); have n3_ := Aside0.mk ((by rw [hg]; exact (below_size (by repeat (first | (with_reducible first | exact HB.out | apply below_alloc | apply pw_below_drewN | apply below_drew1) | exact HB.out))) : w.heap.size ≤ gb316)); have n4_ := Aside0.mk ((by rw [hg]; exact (below_size (by repeat (first | (with_reducible first | exact HB.out | apply below_alloc | apply pw_below_drewN | apply below_drew1) | exact HB.out))) : w.heap.size ≤ gb316)); clear HO0_0; clear HB; have HO0_0 := n0_; have HB := n1_; have BK316 := n2_; have GW316 := n3_; have GE316 := n4_; clear n0_ n1_ n2_ n3_ n4_; clear hb hbox hg) | ((with_reducible refine gate_dst (N := 4) rfl ?_); (try (refine gate_guard (by rfl) ?_; dsimp only)); refine box_event ?hg (N := 4) ?hd (cs := #[.int .i64 0, .slice none 0 0, .int .i64 0, .int .i64 0]) (t := 65) ?hr ?_; (case hd => rfl); (case hg => rfl); (case hr => first | (go_simp; done) | (go_simp; rfl)); intro gb317 hg w4 hbox hb; have n0_ := Aside0.mk (Kd.V_below (Kd.V_elderB (by (with_reducible repeat (first | apply Kd.V_alloc | apply Kd.V_drewN | apply Kd.V_drew)); exact HO0_0.out) gb317 (Nat.le_of_eq hg.symm)) hb); have n1_ := Aside0.mk (blk_below (g := gb316) (o := .cells #[.slice A0_0 l0_0.length c0_0, .int .i64 a0_1, .int .i64 a0_2] 53 (0, 0)) (by (with_reducible repeat (first | refine blk_drewN ?_ _ | refine blk_drew ?_ | refine blk_alloc ?_ _)); exact BK316.out) hb); have n2_ := Aside0.mk (below_step (by repeat (first | (with_reducible first | exact HB.out | apply below_alloc | apply pw_below_drewN | apply below_drew1 | refine below_set ?_ GE316.out) | exact HB.out)) hb); have n3_ := Aside0.mk (hbox); have n4_ := Aside0.mk ((by rw [hg]; exact (below_size (by repeat (first | (with_reducible first | exact HB.out | apply below_alloc | apply pw_below_drewN | apply below_drew1 | refine below_set ?_ GE316.out) | exact HB.out))) : w.heap.size ≤ gb317)); have n5_ := Aside0.mk ((by rw [hg]; exact (below_size (by repeat (first | (with_reducible first | exact HB.out | apply below_alloc | apply pw_below_drewN | apply below_drew1 | refine below_set ?_ GE316.out) | exact HB.out))) : w.heap.size ≤ gb317)); have n6_ := Aside0.mk ((by rw [hg]; exact Nat.ne_of_lt (blk_lt (g := gb316) (o := .cells #[.slice A0_0 l0_0.length c0_0, .int .i64 a0_1, .int .i64 a0_2] 53 (0, 0)) (by (with_reducible repeat (first | refine blk_drewN ?_ _ | refine blk_drew ?_ | refine blk_alloc ?_ _)); exact BK316.out)) : gb316 ≠ gb317)); have n7_ := Aside0.mk ((by rw [hg]; exact Nat.ne_of_gt (blk_lt (g := gb316) (o := .cells #[.slice A0_0 l0_0.length c0_0, .int .i64 a0_1, .int .i64 a0_2] 53 (0, 0)) (by (with_reducible repeat (first | refine blk_drewN ?_ _ | refine blk_drew ?_ | refine blk_alloc ?_ _)); exact BK316.out)) : gb317 ≠ gb316)); clear HO0_0; clear BK316; clear HB; have HO0_0 := n0_; have BK316 := n1_; have HB := n2_; have BK317 := n3_; have GW317 := n4_; have GE317 := n5_; have NB316_317 := n6_; have NB317_316 := n7_; clear n0_ n1_ n2_ n3_ n4_ n5_ n6_ n7_; clear hb hbox hg)); try go_wp2_with (first | ((with_reducible refine gate_dst (N := 2) rfl ?_); (try (refine gate_guard (by rfl) ?_; dsimp only)); refine box_event ?hg (N := 2) ?hd (cs := #[.slice A0_0 l0_0.length c0_0, .int .i64 a0_1, .int .i64 a0_2]) (t := 53) ?hr ?_; (case hd => rfl); (case hg => rfl); (case hr => first | (go_simp; done) | (go_simp; rfl)); intro gb316 hg w3 hbox hb; have n0_ := Aside0.mk (Kd.V_below (Kd.V_elderB (by (with_reducible repeat (first | apply Kd.V_alloc | apply Kd.V_drewN | apply Kd.V_drew)); exact HO0_0.out) gb316 (Nat.le_of_eq hg.symm)) hb); have n1_ := Aside0.mk (below_step (by repeat (first | (with_reducible first | exact HB.out | apply below_alloc | apply pw_below_drewN | apply below_drew1) | exact HB.out)) hb); have n2_ := Aside0.mk (hbox); have n3_ := Aside0.mk ((by rw [hg]; exact (below_size (by repeat (first | (with_reducible first | exact HB.out | apply below_alloc | apply pw_below_drewN | apply below_drew1) | exact HB.out))) : w.heap.size ≤ gb316)); have n4_ := Aside0.mk ((by rw [hg]; exact (below_size (by repeat (first | (with_reducible first | exact HB.out | apply below_alloc | apply pw_below_drewN | apply below_drew1) | exact HB.out))) : w.heap.size ≤ gb316)); clear HO0_0; clear HB; have HO0_0 := n0_; have HB := n1_; have BK316 := n2_; have GW316 := n3_; have GE316 := n4_; clear n0_ n1_ n2_ n3_ n4_; clear hb hbox hg) | ((with_reducible refine gate_dst (N := 4) rfl ?_); (try (refine gate_guard (by rfl) ?_; dsimp only)); refine box_event ?hg (N := 4) ?hd (cs := #[.int .i64 0, .slice none 0 0, .int .i64 0, .int .i64 0]) (t := 65) ?hr ?_; (case hd => rfl); (case hg => rfl); (case hr => first | (go_simp; done) | (go_simp; rfl)); intro gb317 hg w4 hbox hb; have n0_ := Aside0.mk (Kd.V_below (Kd.V_elderB (by (with_reducible repeat (first | apply Kd.V_alloc | apply Kd.V_drewN | apply Kd.V_drew)); exact HO0_0.out) gb317 (Nat.le_of_eq hg.symm)) hb); have n1_ := Aside0.mk (blk_below (g := gb316) (o := .cells #[.slice A0_0 l0_0.length c0_0, .int .i64 a0_1, .int .i64 a0_2] 53 (0, 0)) (by (with_reducible repeat (first | refine blk_drewN ?_ _ | refine blk_drew ?_ | refine blk_alloc ?_ _)); exact BK316.out) hb); have n2_ := Aside0.mk (below_step (by repeat (first | (with_reducible first | exact HB.out | apply below_alloc | apply pw_below_drewN | apply below_drew1 | refine below_set ?_ GE316.out) | exact HB.out)) hb); have n3_ := Aside0.mk (hbox); have n4_ := Aside0.mk ((by rw [hg]; exact (below_size (by repeat (first | (with_reducible first | exact HB.out | apply below_alloc | apply pw_below_drewN | apply below_drew1 | refine below_set ?_ GE316.out) | exact HB.out))) : w.heap.size ≤ gb317)); have n5_ := Aside0.mk ((by rw [hg]; exact (below_size (by repeat (first | (with_reducible first | exact HB.out | apply below_alloc | apply pw_below_drewN | apply below_drew1 | refine below_set ?_ GE316.out) | exact HB.out))) : w.heap.size ≤ gb317)); have n6_ := Aside0.mk ((by rw [hg]; exact Nat.ne_of_lt (blk_lt (g := gb316) (o := .cells #[.slice A0_0 l0_0.length c0_0, .int .i64 a0_1, .int .i64 a0_2] 53 (0, 0)) (by (with_reducible repeat (first | refine blk_drewN ?_ _ | refine blk_drew ?_ | refine blk_alloc ?_ _)); exact BK316.out)) : gb316 ≠ gb317)); have n7_ := Aside0.mk ((by rw [hg]; exact Nat.ne_of_gt (blk_lt (g := gb316) (o := .cells #[.slice A0_0 l0_0.length c0_0, .int .i64 a0_1, .int .i64 a0_2] 53 (0, 0)) (by (with_reducible repeat (first | refine blk_drewN ?_ _ | refine blk_drew ?_ | refine blk_alloc ?_ _)); exact BK316.out)) : gb317 ≠ gb316)); clear HO0_0; clear BK316; clear HB; have HO0_0 := n0_; have BK316 := n1_; have HB := n2_; have BK317 := n3_; have GW317 := n4_; have GE317 := n5_; have NB316_317 := n6_; have NB317_316 := n7_; clear n0_ n1_ n2_ n3_ n4_ n5_ n6_ n7_; clear hb hbox hg)))
 go_loopg [5, 6] k (fun kq v5 v6 w' => ∃ (x5_1 : List Int) (x6_1 : Int), v6 = .int .i64 x6_1 ∧ Aside0 (warpref1_Pick.l0 kq l1 x5_1 x6_1 l0_0 a0_1 a0_2 = some (r1, r2, r3, r4)) ∧ Aside0 (kq ≤ k) ∧ Aside0 (Kd.R (Kd.int .i64) 3 w' w.heap.size (fun k_ => (w.heap.size ≤ k_)) v5 x5_1) ∧ Aside0 (Kd.V (Kd.int .i64) 3 w' w.heap.size (fun k_ => (P0_0_ k_ ∨ w.heap.size ≤ k_) ∧ some k_ ≠ (v5 : Value).ownBlock ∧ k_ ≠ gb316 ∧ k_ ≠ gb317) (.slice A0_0 l0_0.length c0_0) l0_0) ∧ Aside0 (w'.heap[gb316]? = some (.cells #[(.slice A0_0 l0_0.length c0_0), .int .i64 a0_1, .int .i64 a0_2] 53 (0, 0))) ∧ Aside0 (w'.heap[gb317]? = some (.cells #[.int .i64 0, (.slice none 0 0), .int .i64 0, .int .i64 0] 65 (0, 0))) ∧ Aside0 (Below w.heap.size w w'))
 case atStart => exact ⟨(([] : List Int)), (0), (by first | rfl | (simp; done) | (simp [*]; done)), H', ⟨Nat.le_refl _⟩, ⟨by first | exact Kd.R_nil _ _ _ _ _ | exact Kd.N_nil _ _ _ _ _ | exact Kd.V_nil _ _ _ _ _ | exact Kd.Q_nil _ _ _ _ _ | exact Kd.S_nil _ _ _ _ _⟩, ⟨by (with_reducible repeat (first | apply Kd.V_alloc | apply Kd.V_drewN | apply Kd.V_drew)); exact Kd.V_mono HO0_0.out (fun _ hk => ⟨hk.1.1, ⟨(by simp [Value.ownBlock]), ⟨hk.1.2, hk.2⟩⟩⟩)⟩, ⟨by (with_reducible repeat (first | refine blk_drewN ?_ _ | refine blk_drew ?_ | refine blk_alloc ?_ _)); exact BK316.out⟩, ⟨by (with_reducible repeat (first | refine blk_drewN ?_ _ | refine blk_drew ?_ | refine blk_alloc ?_ _)); exact BK317.out⟩, ⟨by repeat (first | (with_reducible first | exact HB.out | apply below_alloc | apply pw_below_drewN | apply below_drew1 | refine below_set ?_ GE316.out | refine below_set ?_ GE317.out) | exact HB.out)⟩⟩
 case round =>
  clear H'
  (try clear c1); (try clear c2); (try clear p2)
  obtain ⟨x5_1, x6_1, rfl, HA, HK1, HO_5, HO_317000, BK316, BK317, HB⟩ := hrel
  cases gk with
  | zero => exact absurd HA.out (by simp [warpref1_Pick.l0])
  | succ k1 =>
   have H := HA.out
   clear HA
   simp only [warpref1_Pick.l0] at H
   by_cases c5 : x6_1 < (l1.length : Int)
   ·
    rw [if_pos c5] at H
    have c5b0 : decide (x6_1 < (l1.length : Int)) = true := decide_eq_true c5
    clear c5
    by_cases c6 : 0 ≤ x6_1
    ·
     rw [if_pos c6] at H
     have c6b0 : decide (0 ≤ x6_1) = true := decide_eq_true c6
     clear c6
     obtain ⟨bq7, hbq7⟩ : ∃ b_ : Bool, b_ = (rdOf false l1 x6_1) := ⟨_, rfl⟩
     replace H : (if bq7 = true then (if x5_1.length < 17592186044416 then (warpref1_Pick.l0 k1 l1 (x5_1 ++ [x6_1]) (wrap64 (x6_1 + 1)) l0_0 a0_1 a0_2) else (none)) else (warpref1_Pick.l0 k1 l1 x5_1 (wrap64 (x6_1 + 1)) l0_0 a0_1 a0_2)) = some (r1, r2, r3, r4) := by rw [← hbq7] at H; exact H
     have Nbq7 := Aside0.mk hbq7
     clear hbq7
     by_cases c8 : bq7 = true
     ·
      subst c8
      have H1 : (if x5_1.length < 17592186044416 then (warpref1_Pick.l0 k1 l1 (x5_1 ++ [x6_1]) (wrap64 (x6_1 + 1)) l0_0 a0_1 a0_2) else (none)) = some (r1, r2, r3, r4) := by rw [if_pos rfl] at H; exact H
      clear H
      have H := H1
      clear H1
      by_cases c9 : x5_1.length < 17592186044416
      ·
       rw [if_pos c9] at H
       have LMc9 := Aside0.mk c9
       clear c9
       obtain ⟨y319, hy319⟩ : ∃ y_ : List Int, y_ = (x5_1 ++ [x6_1]) := ⟨_, rfl⟩
       replace H : (warpref1_Pick.l0 k1 l1 y319 (wrap64 (x6_1 + 1)) l0_0 a0_1 a0_2) = some (r1, r2, r3, r4) := by first | (rw [hy319]; with_reducible exact H) | (have H2_ := (Option.bind_some _ _).symm.trans H; rw [hy319]; with_reducible exact H2_) | (have H2_ := (Option.bind_some _ _).symm.trans H; with_reducible exact H2_) | with_reducible exact H | (rw [hy319]; exact H) | exact H
       have Ny319 := Aside0.mk hy319
       clear hy319
       have H' := Aside0.mk H
       clear H
       have p318 : 0 ≤ (x6_1 : Int) := of_decide_eq_true (by first | (with_reducible assumption) | assumption)
       have q318 : x6_1 < (l1.length : Int) := of_decide_eq_true (by first | (with_reducible assumption) | assumption)
       obtain ⟨ad318, e318, hx318_0⟩ := Kd.at_bool HR1.out x6_1 p318 q318
       (try rw [← Nbq7.out] at hx318_0)
       cases e318
       replace hx318_0 := (HB.out.cell (World.block_lt_of_cell? w _ hx318_0)).trans hx318_0
       replace p318 := eq_true p318
       replace q318 := eq_true q318
       go_wp2_with (first | ((with_reducible refine gate_builtin (b := .append) (xs := #[.tmp 19, .tmp 21]) rfl ?_); (try (refine gate_guard (by rfl) ?_; dsimp only)); at_builtin; refine Kd.R_append (Kd.int .i64) (w0 := w) w.heap.size rfl (.tmp 19) (.tmp 21) 23 3 (.int .i64 0) 8 rfl Tryd.underlying23 info3 rfl (by decide) (by omega) u5 x5_1 x6_1 [.int .i64 x6_1] (fun k_ => (w.heap.size ≤ k_)) (fun _ => False) rfl rfl ?aP (fun _ hk => hk.elim) ?aF ?aO ?aB ?aS ?aL ?_; (case aP => exact rfl); (case aB => exact (by repeat (first | (with_reducible first | exact HB.out | apply below_alloc | apply pw_below_drewN | apply below_drew1 | refine below_set ?_ GE316.out | refine below_set ?_ GE317.out) | exact HB.out))); (case aF => exact (fun k_ hk => (Nat.le_trans (below_size (by repeat (first | (with_reducible first | exact HB.out | apply below_alloc | apply pw_below_drewN | apply below_drew1 | refine below_set ?_ GE316.out | refine below_set ?_ GE317.out) | exact HB.out))) hk))); (case aO => exact (by (with_reducible repeat (first | apply Kd.R_alloc | apply Kd.R_drewN | apply Kd.R_drew)); exact HO_5.out)); (case aS => exact (below_size (by repeat (first | (with_reducible first | exact HB.out | apply below_alloc | apply pw_below_drewN | apply below_drew1 | refine below_set ?_ GE316.out | refine below_set ?_ GE317.out) | exact HB.out)))); (case aL => have := LMc9.out; omega); intro v320 w10 ho hb hg hat; rw [← Ny319.out] at ho; have n0_ := Aside0.mk (Kd.V_afterv (ok := (fun k_ => (P0_0_ k_ ∨ w.heap.size ≤ k_) ∧ k_ ≠ gb316 ∧ k_ ≠ gb317)) (by (with_reducible repeat (first | apply Kd.V_alloc | apply Kd.V_drewN | apply Kd.V_drew)); exact Kd.V_mono HO_317000.out (fun _ hk => ⟨⟨hk.1, ⟨hk.2.2.1, hk.2.2.2⟩⟩, hk.2.1⟩)) hg hat); have n1_ := Aside0.mk (blk_grown (g := gb316) (o := .cells #[.slice A0_0 l0_0.length c0_0, .int .i64 a0_1, .int .i64 a0_2] 53 (0, 0)) (by (with_reducible repeat (first | refine blk_drewN ?_ _ | refine blk_drew ?_ | refine blk_alloc ?_ _)); exact BK316.out) hg (Kd.R_ne HO_5.out BK316.out (by decide))); have n2_ := Aside0.mk (blk_grown (g := gb317) (o := .cells #[.int .i64 0, .slice none 0 0, .int .i64 0, .int .i64 0] 65 (0, 0)) (by (with_reducible repeat (first | refine blk_drewN ?_ _ | refine blk_drew ?_ | refine blk_alloc ?_ _)); exact BK317.out) hg (Kd.R_ne HO_5.out BK317.out (by decide))); have n3_ := Aside0.mk (hb); have n4_ := Aside0.mk (ho); clear HO_317000; clear BK316; clear BK317; clear HB; clear HO_5; have HO_317000 := n0_; have BK316 := n1_; have BK317 := n2_; have HB := n3_; have HO321 := n4_; clear n0_ n1_ n2_ n3_ n4_; clear ho hb hg hat))
       repeat (go_quiet (first | ((with_reducible refine gate_builtin (b := .append) (xs := #[.tmp 19, .tmp 21]) rfl ?_); (try (refine gate_guard (by rfl) ?_; dsimp only)); at_builtin; refine Kd.R_append (Kd.int .i64) (w0 := w) w.heap.size rfl (.tmp 19) (.tmp 21) 23 3 (.int .i64 0) 8 rfl Tryd.underlying23 info3 rfl (by decide) (by omega) u5 x5_1 x6_1 [.int .i64 x6_1] (fun k_ => (w.heap.size ≤ k_)) (fun _ => False) rfl rfl ?aP (fun _ hk => hk.elim) ?aF ?aO ?aB ?aS ?aL ?_; (case aP => exact rfl); (case aB => exact (by repeat (first | (with_reducible first | exact HB.out | apply below_alloc | apply pw_below_drewN | apply below_drew1 | refine below_set ?_ GE316.out | refine below_set ?_ GE317.out) | exact HB.out))); (case aF => exact (fun k_ hk => (Nat.le_trans (below_size (by repeat (first | (with_reducible first | exact HB.out | apply below_alloc | apply pw_below_drewN | apply below_drew1 | refine below_set ?_ GE316.out | refine below_set ?_ GE317.out) | exact HB.out))) hk))); (case aO => exact (by (with_reducible repeat (first | apply Kd.R_alloc | apply Kd.R_drewN | apply Kd.R_drew)); exact HO_5.out)); (case aS => exact (below_size (by repeat (first | (with_reducible first | exact HB.out | apply below_alloc | apply pw_below_drewN | apply below_drew1 | refine below_set ?_ GE316.out | refine below_set ?_ GE317.out) | exact HB.out)))); (case aL => have := LMc9.out; omega); intro v320 w10 ho hb hg hat; rw [← Ny319.out] at ho; have n0_ := Aside0.mk (Kd.V_afterv (ok := (fun k_ => (P0_0_ k_ ∨ w.heap.size ≤ k_) ∧ k_ ≠ gb316 ∧ k_ ≠ gb317)) (by (with_reducible repeat (first | apply Kd.V_alloc | apply Kd.V_drewN | apply Kd.V_drew)); exact Kd.V_mono HO_317000.out (fun _ hk => ⟨⟨hk.1, ⟨hk.2.2.1, hk.2.2.2⟩⟩, hk.2.1⟩)) hg hat); have n1_ := Aside0.mk (blk_grown (g := gb316) (o := .cells #[.slice A0_0 l0_0.length c0_0, .int .i64 a0_1, .int .i64 a0_2] 53 (0, 0)) (by (with_reducible repeat (first | refine blk_drewN ?_ _ | refine blk_drew ?_ | refine blk_alloc ?_ _)); exact BK316.out) hg (Kd.R_ne HO_5.out BK316.out (by decide))); have n2_ := Aside0.mk (blk_grown (g := gb317) (o := .cells #[.int .i64 0, .slice none 0 0, .int .i64 0, .int .i64 0] 65 (0, 0)) (by (with_reducible repeat (first | refine blk_drewN ?_ _ | refine blk_drew ?_ | refine blk_alloc ?_ _)); exact BK317.out) hg (Kd.R_ne HO_5.out BK317.out (by decide))); have n3_ := Aside0.mk (hb); have n4_ := Aside0.mk (ho); clear HO_317000; clear BK316; clear BK317; clear HB; clear HO_5; have HO_317000 := n0_; have BK316 := n1_; have BK317 := n2_; have HB := n3_; have HO321 := n4_; clear n0_ n1_ n2_ n3_ n4_; clear ho hb hg hat)); try go_wp2_with (first | ((with_reducible refine gate_builtin (b := .append) (xs := #[.tmp 19, .tmp 21]) rfl ?_); (try (refine gate_guard (by rfl) ?_; dsimp only)); at_builtin; refine Kd.R_append (Kd.int .i64) (w0 := w) w.heap.size rfl (.tmp 19) (.tmp 21) 23 3 (.int .i64 0) 8 rfl Tryd.underlying23 info3 rfl (by decide) (by omega) u5 x5_1 x6_1 [.int .i64 x6_1] (fun k_ => (w.heap.size ≤ k_)) (fun _ => False) rfl rfl ?aP (fun _ hk => hk.elim) ?aF ?aO ?aB ?aS ?aL ?_; (case aP => exact rfl); (case aB => exact (by repeat (first | (with_reducible first | exact HB.out | apply below_alloc | apply pw_below_drewN | apply below_drew1 | refine below_set ?_ GE316.out | refine below_set ?_ GE317.out) | exact HB.out))); (case aF => exact (fun k_ hk => (Nat.le_trans (below_size (by repeat (first | (with_reducible first | exact HB.out | apply below_alloc | apply pw_below_drewN | apply below_drew1 | refine below_set ?_ GE316.out | refine below_set ?_ GE317.out) | exact HB.out))) hk))); (case aO => exact (by (with_reducible repeat (first | apply Kd.R_alloc | apply Kd.R_drewN | apply Kd.R_drew)); exact HO_5.out)); (case aS => exact (below_size (by repeat (first | (with_reducible first | exact HB.out | apply below_alloc | apply pw_below_drewN | apply below_drew1 | refine below_set ?_ GE316.out | refine below_set ?_ GE317.out) | exact HB.out)))); (case aL => have := LMc9.out; omega); intro v320 w10 ho hb hg hat; rw [← Ny319.out] at ho; have n0_ := Aside0.mk (Kd.V_afterv (ok := (fun k_ => (P0_0_ k_ ∨ w.heap.size ≤ k_) ∧ k_ ≠ gb316 ∧ k_ ≠ gb317)) (by (with_reducible repeat (first | apply Kd.V_alloc | apply Kd.V_drewN | apply Kd.V_drew)); exact Kd.V_mono HO_317000.out (fun _ hk => ⟨⟨hk.1, ⟨hk.2.2.1, hk.2.2.2⟩⟩, hk.2.1⟩)) hg hat); have n1_ := Aside0.mk (blk_grown (g := gb316) (o := .cells #[.slice A0_0 l0_0.length c0_0, .int .i64 a0_1, .int .i64 a0_2] 53 (0, 0)) (by (with_reducible repeat (first | refine blk_drewN ?_ _ | refine blk_drew ?_ | refine blk_alloc ?_ _)); exact BK316.out) hg (Kd.R_ne HO_5.out BK316.out (by decide))); have n2_ := Aside0.mk (blk_grown (g := gb317) (o := .cells #[.int .i64 0, .slice none 0 0, .int .i64 0, .int .i64 0] 65 (0, 0)) (by (with_reducible repeat (first | refine blk_drewN ?_ _ | refine blk_drew ?_ | refine blk_alloc ?_ _)); exact BK317.out) hg (Kd.R_ne HO_5.out BK317.out (by decide))); have n3_ := Aside0.mk (hb); have n4_ := Aside0.mk (ho); clear HO_317000; clear BK316; clear BK317; clear HB; clear HO_5; have HO_317000 := n0_; have BK316 := n1_; have BK317 := n2_; have HB := n3_; have HO321 := n4_; clear n0_ n1_ n2_ n3_ n4_; clear ho hb hg hat)))
       go_roundg k1
       case measure => have := HK1.out; omega
       case rel => exact ⟨(y319), (wrap64 (x6_1 + 1)), (by first | rfl | (simp; done) | (simp [*]; done)), H', ⟨by have := HK1.out; omega⟩, ⟨by (with_reducible repeat (first | apply Kd.R_alloc | apply Kd.R_drewN | apply Kd.R_drew)); exact HO321.out⟩, ⟨by (with_reducible repeat (first | apply Kd.V_alloc | apply Kd.V_drewN | apply Kd.V_drew)); exact Kd.V_mono HO_317000.out (fun _ hk => ⟨hk.1.1, ⟨hk.2, ⟨hk.1.2.1, hk.1.2.2⟩⟩⟩)⟩, ⟨by (with_reducible repeat (first | refine blk_drewN ?_ _ | refine blk_drew ?_ | refine blk_alloc ?_ _)); exact BK316.out⟩, ⟨by (with_reducible repeat (first | refine blk_drewN ?_ _ | refine blk_drew ?_ | refine blk_alloc ?_ _)); exact BK317.out⟩, ⟨by repeat (first | (with_reducible first | exact HB.out | apply below_alloc | apply pw_below_drewN | apply below_drew1 | refine below_set ?_ GE316.out | refine below_set ?_ GE317.out) | exact HB.out)⟩⟩
      ·
       rw [if_neg c9] at H
       exact absurd H (by simp)
     ·
      replace c8 := Bool.eq_false_iff.mpr c8
      subst c8
      have H1 : (warpref1_Pick.l0 k1 l1 x5_1 (wrap64 (x6_1 + 1)) l0_0 a0_1 a0_2) = some (r1, r2, r3, r4) := by rw [if_neg (show ¬ (false = true) by decide)] at H; exact H
      clear H
      have H := H1
      clear H1
      have H' := Aside0.mk H
      clear H
      have p318 : 0 ≤ (x6_1 : Int) := of_decide_eq_true (by first | (with_reducible assumption) | assumption)
      have q318 : x6_1 < (l1.length : Int) := of_decide_eq_true (by first | (with_reducible assumption) | assumption)
      obtain ⟨ad318, e318, hx318_0⟩ := Kd.at_bool HR1.out x6_1 p318 q318
      (try rw [← Nbq7.out] at hx318_0)
      cases e318
      replace hx318_0 := (HB.out.cell (World.block_lt_of_cell? w _ hx318_0)).trans hx318_0
      replace p318 := eq_true p318
      replace q318 := eq_true q318
      go_wp2
      repeat (go_quiet (fail); try go_wp2)
      go_roundg k1
      case measure => have := HK1.out; omega
      case rel => exact ⟨(x5_1), (wrap64 (x6_1 + 1)), (by first | rfl | (simp; done) | (simp [*]; done)), H', ⟨by have := HK1.out; omega⟩, ⟨by (with_reducible repeat (first | apply Kd.R_alloc | apply Kd.R_drewN | apply Kd.R_drew)); exact HO_5.out⟩, ⟨by (with_reducible repeat (first | apply Kd.V_alloc | apply Kd.V_drewN | apply Kd.V_drew)); exact HO_317000.out⟩, ⟨by (with_reducible repeat (first | refine blk_drewN ?_ _ | refine blk_drew ?_ | refine blk_alloc ?_ _)); exact BK316.out⟩, ⟨by (with_reducible repeat (first | refine blk_drewN ?_ _ | refine blk_drew ?_ | refine blk_alloc ?_ _)); exact BK317.out⟩, ⟨by repeat (first | (with_reducible first | exact HB.out | apply below_alloc | apply pw_below_drewN | apply below_drew1 | refine below_set ?_ GE316.out | refine below_set ?_ GE317.out) | exact HB.out)⟩⟩
    ·
     rw [if_neg c6] at H
     exact absurd H (by simp)
   ·
    rw [if_neg c5] at H
    have c5b0 : decide (x6_1 < (l1.length : Int)) = false := decide_eq_false c5
    clear c5
    by_cases c11 : (x5_1.length : Int) = 0
    ·
     rw [if_pos c11] at H
     have c11b0 : ((x5_1.length : Int) == 0) = true := beq_iff_eq.mpr c11
     have c11b1 : ((x5_1.length : Int) != 0) = false := bne_eq_false_iff_eq.mpr c11
     clear c11
     simp only [Option.some.injEq, Prod.mk.injEq] at H
     obtain ⟨rfl, rfl, rfl, rfl⟩ := H
     obtain ⟨Ao12, co12, eo12⟩ := Kd.R_slice HO_5.out
     subst eo12
     have hnb13 := NB316_317.out
     have hnc13 := NB317_316.out
     have hcz14_0 : wr.cell? ⟨gb316, 0, none⟩ = some (.slice A0_0 l0_0.length c0_0) := (blk_cell BK316.out 0).trans rfl
     have hcz14_1 : wr.cell? ⟨gb316, 1, none⟩ = some (.int .i64 a0_1) := (blk_cell BK316.out 1).trans rfl
     have hcz14_2 : wr.cell? ⟨gb316, 2, none⟩ = some (.int .i64 a0_2) := (blk_cell BK316.out 2).trans rfl
     have hfz14_0 := blk_frozen BK316.out 0
     have hfz14_1 := blk_frozen BK316.out 1
     have hfz14_2 := blk_frozen BK316.out 2
     have hcz15_0 : wr.cell? ⟨gb317, 0, none⟩ = some (.int .i64 0) := (blk_cell BK317.out 0).trans rfl
     have hcz15_1 : wr.cell? ⟨gb317, 1, none⟩ = some (.slice none 0 0) := (blk_cell BK317.out 1).trans rfl
     have hcz15_2 : wr.cell? ⟨gb317, 2, none⟩ = some (.int .i64 0) := (blk_cell BK317.out 2).trans rfl
     have hcz15_3 : wr.cell? ⟨gb317, 3, none⟩ = some (.int .i64 0) := (blk_cell BK317.out 3).trans rfl
     have hfz15_0 := blk_frozen BK317.out 0
     have hfz15_1 := blk_frozen BK317.out 1
     have hfz15_2 := blk_frozen BK317.out 2
     have hfz15_3 := blk_frozen BK317.out 3
     go_wp2
     repeat (go_quiet (fail); try go_wp2)
     refine bodyPost_ret (results_cell_row rfl _ _ gb317 65 #[.int .i64 (-1), .slice A0_0 l0_0.length c0_0, .int .i64 a0_1, .int .i64 a0_2] (0, 0) _ rfl (by (with_reducible repeat (first | refine blk_drewN ?_ _ | refine blk_drew ?_ | refine blk_alloc ?_ _)); refine blk_put (cs := #[.int .i64 (-1), .slice A0_0 l0_0.length c0_0, .int .i64 a0_1, .int .i64 0]) ?_ 3 _ rfl; (with_reducible repeat (first | refine blk_drewN ?_ _ | refine blk_drew ?_ | refine blk_alloc ?_ _)); refine blk_put (cs := #[.int .i64 (-1), .slice A0_0 l0_0.length c0_0, .int .i64 0, .int .i64 0]) ?_ 2 _ rfl; (with_reducible repeat (first | refine blk_drewN ?_ _ | refine blk_drew ?_ | refine blk_alloc ?_ _)); refine blk_put (cs := #[.int .i64 (-1), .slice none 0 0, .int .i64 0, .int .i64 0]) ?_ 1 _ rfl; (with_reducible repeat (first | refine blk_drewN ?_ _ | refine blk_drew ?_ | refine blk_alloc ?_ _)); refine blk_put (cs := #[.int .i64 0, .slice none 0 0, .int .i64 0, .int .i64 0]) ?_ 0 _ rfl; (with_reducible repeat (first | refine blk_drewN ?_ _ | refine blk_drew ?_ | refine blk_alloc ?_ _)); exact BK317.out) Tryd.underlying65 rfl (by kernel_rfl)) rfl ?_
     exact ⟨_, by first | rfl | (simp [errW_none, errW_some] <;> rfl) | (simp [*, errW_none, errW_some] <;> rfl), by (with_reducible repeat (first | apply Kd.V_alloc | apply Kd.V_drewN | apply Kd.V_drew)); exact Kd.V_mono (Kd.V_far (p := ⟨gb317, 3, none⟩) (Kd.V_far (p := ⟨gb317, 2, none⟩) (Kd.V_far (p := ⟨gb317, 1, none⟩) (Kd.V_far (p := ⟨gb317, 0, none⟩) (Kd.V_mono HO_317000.out (fun k_ hk => (⟨hk, hk.2.2.2⟩ : _ ∧ k_ ≠ gb317))) (fun _ hk => hk.2) (.int .i64 (-1))) (fun _ hk => hk.2) (.slice A0_0 l0_0.length c0_0)) (fun _ hk => hk.2) (.int .i64 a0_1)) (fun _ hk => hk.2) (.int .i64 a0_2)) (fun _ hk => hk.1.1), by repeat (first | (with_reducible first | exact HB.out | apply below_alloc | apply pw_below_drewN | apply below_drew1 | refine below_set ?_ GE316.out | refine below_set ?_ GE317.out) | exact HB.out)⟩
    ·
     rw [if_neg c11] at H
     have c11b0 : ((x5_1.length : Int) == 0) = false := beq_eq_false_iff_ne.mpr c11
     have c11b1 : ((x5_1.length : Int) != 0) = true := bne_iff_ne.mpr c11
     have c11b2 : ¬ (x5_1 = []) := fun h_ => c11 (by rw [h_]; rfl)
     have HC16 := Aside0.mk H
     clear H
     obtain ⟨Ao17, co17, eo17⟩ := Kd.R_slice HO_5.out
     subst eo17
     go_upto_region 10 with (fail)
     repeat (go_quiet (fail); go_upto_region 10 with (fail))
     go_cut [39] (fun v39 wc => ∃ (kq : Nat) (x39_15 : Bool), v39 = .bool x39_15 ∧ Aside0 (warpref1_Pick.j1 kq x5_1 (x5_1.length : Int) x39_15 l0_0 a0_1 a0_2 = some (r1, r2, r3, r4)) ∧ Aside0 (kq ≤ k1) ∧ Aside0 (Kd.R (Kd.int .i64) 3 wc w.heap.size (fun k_ => (w.heap.size ≤ k_)) (.slice Ao17 x5_1.length co17) x5_1) ∧ Aside0 (Kd.V (Kd.int .i64) 3 wc w.heap.size (fun k_ => (P0_0_ k_ ∨ w.heap.size ≤ k_) ∧ some k_ ≠ ((.slice Ao17 x5_1.length co17) : Value).ownBlock ∧ k_ ≠ gb316 ∧ k_ ≠ gb317) (.slice A0_0 l0_0.length c0_0) l0_0) ∧ Aside0 (wc.heap[gb316]? = some (.cells #[(.slice A0_0 l0_0.length c0_0), .int .i64 a0_1, .int .i64 a0_2] 53 (0, 0))) ∧ Aside0 (wc.heap[gb317]? = some (.cells #[.int .i64 0, (.slice none 0 0), .int .i64 0, .int .i64 0] 65 (0, 0))) ∧ Aside0 (Below w.heap.size w wc))
     case first =>
      have H := HC16.out
      clear HC16
      by_cases c18 : a0_1 ≥ 0
      ·
       rw [if_pos c18] at H
       have c18b0 : decide (0 ≤ a0_1) = true := decide_eq_true c18
       clear c18
       (first | rw [c18b0] | (simp only [i64_w, i32_w]; rw [c18b0]) | skip)
       have H' := Aside0.mk H
       clear H
       have hnb19 := NB316_317.out
       have hnc19 := NB317_316.out
       have hcz20_0 : wr.cell? ⟨gb316, 0, none⟩ = some (.slice A0_0 l0_0.length c0_0) := (blk_cell BK316.out 0).trans rfl
       have hcz20_1 : wr.cell? ⟨gb316, 1, none⟩ = some (.int .i64 a0_1) := (blk_cell BK316.out 1).trans rfl
       have hcz20_2 : wr.cell? ⟨gb316, 2, none⟩ = some (.int .i64 a0_2) := (blk_cell BK316.out 2).trans rfl
       have hfz20_0 := blk_frozen BK316.out 0
       have hfz20_1 := blk_frozen BK316.out 1
       have hfz20_2 := blk_frozen BK316.out 2
       go_wp2
       repeat (go_quiet (fail); try go_wp2)
       go_meet
       case rel => exact ⟨_, (decide (a0_1 < (l0_0.length : Int))), (by first | rfl | (simp; done) | (simp [*]; done)), H', ⟨by have := HK1.out; first | omega | exact Nat.le_refl _⟩, ⟨by (with_reducible repeat (first | apply Kd.R_alloc | apply Kd.R_drewN | apply Kd.R_drew)); exact HO_5.out⟩, ⟨by (with_reducible repeat (first | apply Kd.V_alloc | apply Kd.V_drewN | apply Kd.V_drew)); exact HO_317000.out⟩, ⟨by (with_reducible repeat (first | refine blk_drewN ?_ _ | refine blk_drew ?_ | refine blk_alloc ?_ _)); exact BK316.out⟩, ⟨by (with_reducible repeat (first | refine blk_drewN ?_ _ | refine blk_drew ?_ | refine blk_alloc ?_ _)); exact BK317.out⟩, ⟨by repeat (first | (with_reducible first | exact HB.out | apply below_alloc | apply pw_below_drewN | apply below_drew1 | refine below_set ?_ GE316.out | refine below_set ?_ GE317.out) | exact HB.out)⟩⟩
      ·
       rw [if_neg c18] at H
       have c18b0 : decide (0 ≤ a0_1) = false := decide_eq_false c18
       clear c18
       (first | rw [c18b0] | (simp only [i64_w, i32_w]; rw [c18b0]) | skip)
       have H' := Aside0.mk H
       clear H
       have hnb21 := NB316_317.out
       have hnc21 := NB317_316.out
       have hcz22_0 : wr.cell? ⟨gb316, 0, none⟩ = some (.slice A0_0 l0_0.length c0_0) := (blk_cell BK316.out 0).trans rfl
       have hcz22_1 : wr.cell? ⟨gb316, 1, none⟩ = some (.int .i64 a0_1) := (blk_cell BK316.out 1).trans rfl
       have hcz22_2 : wr.cell? ⟨gb316, 2, none⟩ = some (.int .i64 a0_2) := (blk_cell BK316.out 2).trans rfl
       have hfz22_0 := blk_frozen BK316.out 0
       have hfz22_1 := blk_frozen BK316.out 1
       have hfz22_2 := blk_frozen BK316.out 2
       go_wp2
       repeat (go_quiet (fail); try go_wp2)
       go_meet
       case rel => exact ⟨_, (false), (by first | rfl | (simp; done) | (simp [*]; done)), H', ⟨by have := HK1.out; first | omega | exact Nat.le_refl _⟩, ⟨by (with_reducible repeat (first | apply Kd.R_alloc | apply Kd.R_drewN | apply Kd.R_drew)); exact HO_5.out⟩, ⟨by (with_reducible repeat (first | apply Kd.V_alloc | apply Kd.V_drewN | apply Kd.V_drew)); exact HO_317000.out⟩, ⟨by (with_reducible repeat (first | refine blk_drewN ?_ _ | refine blk_drew ?_ | refine blk_alloc ?_ _)); exact BK316.out⟩, ⟨by (with_reducible repeat (first | refine blk_drewN ?_ _ | refine blk_drew ?_ | refine blk_alloc ?_ _)); exact BK317.out⟩, ⟨by repeat (first | (with_reducible first | exact HB.out | apply below_alloc | apply pw_below_drewN | apply below_drew1 | refine below_set ?_ GE316.out | refine below_set ?_ GE317.out) | exact HB.out)⟩⟩
     case rest =>
      clear HC16
      (try clear c1); (try clear c2); (try clear p2); (try clear p3); (try clear q3); (try clear hx3); (try clear c5); (try clear c5b0); (try clear c6); (try clear c6b0); (try clear p6); (try clear q7); (try clear c8); (try clear c9); (try clear c11); (try clear c11b0); (try clear c11b1); (try clear c11b2); (try clear c13); (try clear c18); (try clear c18b0); (try clear c19); (try clear c21); (try clear hcz14_0); (try clear hcz14_1); (try clear hcz14_2); (try clear hcz15_0); (try clear hcz15_1); (try clear hcz15_2); (try clear hcz15_3); (try clear hcz20_0); (try clear hcz20_1); (try clear hcz20_2); (try clear hcz22_0); (try clear hcz22_1); (try clear hcz22_2); (try clear hfz14_0); (try clear hfz14_1); (try clear hfz14_2); (try clear hfz15_0); (try clear hfz15_1); (try clear hfz15_2); (try clear hfz15_3); (try clear hfz20_0); (try clear hfz20_1); (try clear hfz20_2); (try clear hfz22_0); (try clear hfz22_1); (try clear hfz22_2); (try clear hx318_0); (try clear p2); (try clear p318); (try clear q318)
      obtain ⟨kq, x39_15, rfl, HA, HJ15, HO_5, HO_317000, BK316, BK317, HB⟩ := hcut
      cases kq with
      | zero => exact absurd HA.out (by simp [warpref1_Pick.j1])
      | succ kj15 =>
       have H := HA.out
       clear HA
       simp only [warpref1_Pick.j1] at H
       by_cases c23 : x39_15 = true
       ·
        subst c23
        have H1 : (if 0 ≤ a0_1 then (if a0_1 < (l0_0.length : Int) then (if (x5_1.length : Int) = 0 then (none) else (if 0 ≤ (Int.tmod (wrap64 ((Int.tmod (rd l0_0 a0_1) (x5_1.length : Int)) + (x5_1.length : Int))) (x5_1.length : Int)) then (if (Int.tmod (wrap64 ((Int.tmod (rd l0_0 a0_1) (x5_1.length : Int)) + (x5_1.length : Int))) (x5_1.length : Int)) < (x5_1.length : Int) then (some (rd x5_1 (Int.tmod (wrap64 ((Int.tmod (rd l0_0 a0_1) (x5_1.length : Int)) + (x5_1.length : Int))) (x5_1.length : Int)), l0_0, wrap64 (a0_1 + 1), rd x5_1 (Int.tmod (wrap64 ((Int.tmod (rd l0_0 a0_1) (x5_1.length : Int)) + (x5_1.length : Int))) (x5_1.length : Int)))) else (none)) else (none))) else (none)) else (none)) = some (r1, r2, r3, r4) := by rw [if_pos rfl] at H; exact H
        clear H
        have H := H1
        clear H1
        by_cases c24 : 0 ≤ a0_1
        ·
         rw [if_pos c24] at H
         have c24b0 : decide (0 ≤ a0_1) = true := decide_eq_true c24
         clear c24
         by_cases c25 : a0_1 < (l0_0.length : Int)
         ·
          rw [if_pos c25] at H
          have c25b0 : decide (a0_1 < (l0_0.length : Int)) = true := decide_eq_true c25
          clear c25
          by_cases c26 : (x5_1.length : Int) = 0
          ·
           rw [if_pos c26] at H
           exact absurd H (by simp)
          ·
           rw [if_neg c26] at H
           have c26b0 : ((x5_1.length : Int) == 0) = false := beq_eq_false_iff_ne.mpr c26
           have c26b1 : ((x5_1.length : Int) != 0) = true := bne_iff_ne.mpr c26
           have c26b2 : ¬ (x5_1 = []) := fun h_ => c26 (by rw [h_]; rfl)
           obtain ⟨ji27, hji27⟩ : ∃ j_ : Int, (Int.tmod (wrap64 ((Int.tmod (rd l0_0 a0_1) (x5_1.length : Int)) + (x5_1.length : Int))) (x5_1.length : Int)) = j_ := ⟨_, rfl⟩
           replace H : (if 0 ≤ (ji27) then (if (ji27) < (x5_1.length : Int) then (some (rd x5_1 (ji27), l0_0, wrap64 (a0_1 + 1), rd x5_1 (ji27))) else (none)) else (none)) = some (r1, r2, r3, r4) := by first | (rw [hji27] at H; exact H) | (simp only [hji27] at H ⊢; exact H)
           by_cases c28 : 0 ≤ (ji27)
           ·
            rw [if_pos c28] at H
            have c28b0 : decide (0 ≤ (ji27)) = true := decide_eq_true c28
            clear c28
            by_cases c29 : (ji27) < (x5_1.length : Int)
            ·
             rw [if_pos c29] at H
             have c29b0 : decide ((ji27) < (x5_1.length : Int)) = true := decide_eq_true c29
             clear c29
             simp only [Option.some.injEq, Prod.mk.injEq] at H
             obtain ⟨rfl, rfl, rfl, rfl⟩ := H
             have hnb30 := NB316_317.out
             have hnc30 := NB317_316.out
             have hcz31_0 : wc.cell? ⟨gb316, 0, none⟩ = some (.slice A0_0 l0_0.length c0_0) := (blk_cell BK316.out 0).trans rfl
             have hcz31_1 : wc.cell? ⟨gb316, 1, none⟩ = some (.int .i64 a0_1) := (blk_cell BK316.out 1).trans rfl
             have hcz31_2 : wc.cell? ⟨gb316, 2, none⟩ = some (.int .i64 a0_2) := (blk_cell BK316.out 2).trans rfl
             have hfz31_0 := blk_frozen BK316.out 0
             have hfz31_1 := blk_frozen BK316.out 1
             have hfz31_2 := blk_frozen BK316.out 2
             have p322 : 0 ≤ (a0_1 : Int) := of_decide_eq_true (by first | (with_reducible assumption) | assumption)
             have q322 : a0_1 < (l0_0.length : Int) := of_decide_eq_true (by first | (with_reducible assumption) | assumption)
             obtain ⟨ad322, e322, hx322_0⟩ := Kd.at_int (Kd.V_reads' HO_317000.out).2.2 a0_1 p322 q322
             cases e322
             replace p322 := eq_true p322
             replace q322 := eq_true q322
             have p323 : 0 ≤ ((ji27) : Int) := of_decide_eq_true (by first | (with_reducible assumption) | assumption)
             have q323 : (ji27) < (x5_1.length : Int) := of_decide_eq_true (by first | (with_reducible assumption) | assumption)
             obtain ⟨ad323, e323, hx323_0⟩ := Kd.at_int (Kd.R_reads' HO_5.out).2.2 (ji27) p323 q323
             cases e323
             replace p323 := eq_true p323
             replace q323 := eq_true q323
             have hcz32_0 : wc.cell? ⟨gb317, 0, none⟩ = some (.int .i64 0) := (blk_cell BK317.out 0).trans rfl
             have hcz32_1 : wc.cell? ⟨gb317, 1, none⟩ = some (.slice none 0 0) := (blk_cell BK317.out 1).trans rfl
             have hcz32_2 : wc.cell? ⟨gb317, 2, none⟩ = some (.int .i64 0) := (blk_cell BK317.out 2).trans rfl
             have hcz32_3 : wc.cell? ⟨gb317, 3, none⟩ = some (.int .i64 0) := (blk_cell BK317.out 3).trans rfl
             have hfz32_0 := blk_frozen BK317.out 0
             have hfz32_1 := blk_frozen BK317.out 1
             have hfz32_2 := blk_frozen BK317.out 2
             have hfz32_3 := blk_frozen BK317.out 3
             go_wp2
             repeat (go_quiet (fail); try go_wp2)
             refine bodyPost_ret (results_cell_row rfl _ _ gb317 65 #[.int .i64 (rd x5_1 (ji27)), .slice (some ad322) l0_0.length c0_0, .int .i64 (wrap64 (a0_1 + 1)), .int .i64 (rd x5_1 (ji27))] (0, 0) _ rfl (by (with_reducible repeat (first | refine blk_drewN ?_ _ | refine blk_drew ?_ | refine blk_alloc ?_ _)); refine blk_put (cs := #[.int .i64 (rd x5_1 (ji27)), .slice (some ad322) l0_0.length c0_0, .int .i64 (wrap64 (a0_1 + 1)), .int .i64 0]) ?_ 3 _ rfl; (with_reducible repeat (first | refine blk_drewN ?_ _ | refine blk_drew ?_ | refine blk_alloc ?_ _)); refine blk_put (cs := #[.int .i64 (rd x5_1 (ji27)), .slice (some ad322) l0_0.length c0_0, .int .i64 0, .int .i64 0]) ?_ 2 _ rfl; (with_reducible repeat (first | refine blk_drewN ?_ _ | refine blk_drew ?_ | refine blk_alloc ?_ _)); refine blk_put (cs := #[.int .i64 (rd x5_1 (ji27)), .slice none 0 0, .int .i64 0, .int .i64 0]) ?_ 1 _ rfl; (with_reducible repeat (first | refine blk_drewN ?_ _ | refine blk_drew ?_ | refine blk_alloc ?_ _)); refine blk_put (cs := #[.int .i64 0, .slice none 0 0, .int .i64 0, .int .i64 0]) ?_ 0 _ rfl; (with_reducible repeat (first | refine blk_drewN ?_ _ | refine blk_drew ?_ | refine blk_alloc ?_ _)); refine blk_far ?_ NB317_316.out _; (with_reducible repeat (first | refine blk_drewN ?_ _ | refine blk_drew ?_ | refine blk_alloc ?_ _)); refine blk_far ?_ NB317_316.out _; (with_reducible repeat (first | refine blk_drewN ?_ _ | refine blk_drew ?_ | refine blk_alloc ?_ _)); exact BK317.out) Tryd.underlying65 rfl (by kernel_rfl)) rfl ?_
             exact ⟨_, by first | rfl | (simp [errW_none, errW_some] <;> rfl) | (simp only [← hji27]; first | rfl | (simp [errW_none, errW_some] <;> rfl)) | (simp [*, errW_none, errW_some] <;> rfl), by (with_reducible repeat (first | apply Kd.V_alloc | apply Kd.V_drewN | apply Kd.V_drew)); exact Kd.V_mono (Kd.V_far (p := ⟨gb317, 3, none⟩) (Kd.V_far (p := ⟨gb317, 2, none⟩) (Kd.V_far (p := ⟨gb317, 1, none⟩) (Kd.V_far (p := ⟨gb317, 0, none⟩) (Kd.V_far (p := ⟨gb316, 1, none⟩) (Kd.V_far (p := ⟨gb316, 2, none⟩) (Kd.V_mono (Kd.V_mono HO_317000.out (fun k_ hk => (⟨hk, hk.2.2.1⟩ : _ ∧ k_ ≠ gb316))) (fun k_ hk => (⟨hk, hk.1.2.2.2⟩ : _ ∧ k_ ≠ gb317))) (fun _ hk => hk.1.2) (.int .i64 (rd x5_1 (ji27)))) (fun _ hk => hk.1.2) (.int .i64 (wrap64 (a0_1 + 1)))) (fun _ hk => hk.2) (.int .i64 (rd x5_1 (ji27)))) (fun _ hk => hk.2) (.slice (some ad322) l0_0.length c0_0)) (fun _ hk => hk.2) (.int .i64 (wrap64 (a0_1 + 1)))) (fun _ hk => hk.2) (.int .i64 (rd x5_1 (ji27)))) (fun _ hk => hk.1.1.1), by repeat (first | (with_reducible first | exact HB.out | apply below_alloc | apply pw_below_drewN | apply below_drew1 | refine below_set ?_ GE316.out | refine below_set ?_ GE317.out) | exact HB.out)⟩
            ·
             rw [if_neg c29] at H
             exact absurd H (by simp)
           ·
            rw [if_neg c28] at H
            exact absurd H (by simp)
         ·
          rw [if_neg c25] at H
          exact absurd H (by simp)
        ·
         rw [if_neg c24] at H
         exact absurd H (by simp)
       ·
        replace c23 := Bool.eq_false_iff.mpr c23
        subst c23
        have H1 : (warpref1_Pick.l1 kj15 x5_1 (x5_1.length : Int) 0 l0_0 a0_1 a0_2) = some (r1, r2, r3, r4) := by rw [if_neg (show ¬ (false = true) by decide)] at H; exact H
        clear H
        have H := H1
        clear H1
        have HC33 := Aside0.mk H
        clear H
        go_upto_block 2 with (fail)
        repeat (go_quiet (fail); go_upto_block 2 with (fail))
        go_cut [8] (fun v8 wc => ∃ (kq : Nat) (x8_32 : Int), v8 = .int .i64 x8_32 ∧ Aside0 (warpref1_Pick.j3 kq x5_1 (x5_1.length : Int) x8_32 l0_0 a0_1 a0_2 = some (r1, r2, r3, r4)) ∧ Aside0 (kq ≤ kj15) ∧ Aside0 (Kd.R (Kd.int .i64) 3 wc w.heap.size (fun k_ => (w.heap.size ≤ k_)) (.slice Ao17 x5_1.length co17) x5_1) ∧ Aside0 (Kd.V (Kd.int .i64) 3 wc w.heap.size (fun k_ => (P0_0_ k_ ∨ w.heap.size ≤ k_) ∧ some k_ ≠ ((.slice Ao17 x5_1.length co17) : Value).ownBlock ∧ k_ ≠ gb316 ∧ k_ ≠ gb317) (.slice A0_0 l0_0.length c0_0) l0_0) ∧ Aside0 (wc.heap[gb316]? = some (.cells #[(.slice A0_0 l0_0.length c0_0), .int .i64 a0_1, .int .i64 a0_2] 53 (0, 0))) ∧ Aside0 (wc.heap[gb317]? = some (.cells #[.int .i64 0, (.slice none 0 0), .int .i64 0, .int .i64 0] 65 (0, 0))) ∧ Aside0 (Below w.heap.size w wc))
        case first =>
         have H := HC33.out
         clear HC33
         have H' := Aside0.mk H
         clear H
         go_wp2
         repeat (go_quiet (fail); try go_wp2)
         go_loopg [8] kj15 (fun kq v8 w' => ∃ (x8_3 : Int), v8 = .int .i64 x8_3 ∧ Aside0 (warpref1_Pick.l1 kq x5_1 (x5_1.length : Int) x8_3 l0_0 a0_1 a0_2 = some (r1, r2, r3, r4)) ∧ Aside0 (kq ≤ kj15) ∧ Aside0 (Kd.R (Kd.int .i64) 3 w' w.heap.size (fun k_ => (w.heap.size ≤ k_)) (.slice Ao17 x5_1.length co17) x5_1) ∧ Aside0 (Kd.V (Kd.int .i64) 3 w' w.heap.size (fun k_ => (P0_0_ k_ ∨ w.heap.size ≤ k_) ∧ some k_ ≠ ((.slice Ao17 x5_1.length co17) : Value).ownBlock ∧ k_ ≠ gb316 ∧ k_ ≠ gb317) (.slice A0_0 l0_0.length c0_0) l0_0) ∧ Aside0 (w'.heap[gb316]? = some (.cells #[(.slice A0_0 l0_0.length c0_0), .int .i64 a0_1, .int .i64 a0_2] 53 (0, 0))) ∧ Aside0 (w'.heap[gb317]? = some (.cells #[.int .i64 0, (.slice none 0 0), .int .i64 0, .int .i64 0] 65 (0, 0))) ∧ Aside0 (Below w.heap.size w w'))
         case atStart => exact ⟨(0), (by first | rfl | (simp; done) | (simp [*]; done)), H', ⟨Nat.le_refl _⟩, ⟨by (with_reducible repeat (first | apply Kd.R_alloc | apply Kd.R_drewN | apply Kd.R_drew)); exact HO_5.out⟩, ⟨by (with_reducible repeat (first | apply Kd.V_alloc | apply Kd.V_drewN | apply Kd.V_drew)); exact HO_317000.out⟩, ⟨by (with_reducible repeat (first | refine blk_drewN ?_ _ | refine blk_drew ?_ | refine blk_alloc ?_ _)); exact BK316.out⟩, ⟨by (with_reducible repeat (first | refine blk_drewN ?_ _ | refine blk_drew ?_ | refine blk_alloc ?_ _)); exact BK317.out⟩, ⟨by repeat (first | (with_reducible first | exact HB.out | apply below_alloc | apply pw_below_drewN | apply below_drew1 | refine below_set ?_ GE316.out | refine below_set ?_ GE317.out) | exact HB.out)⟩⟩
         case round =>
          clear H'
          (try clear c1); (try clear c2); (try clear p2); (try clear c3); (try clear p3); (try clear q3); (try clear hx3); (try clear c5); (try clear c5b0); (try clear c6); (try clear c6b0); (try clear p6); (try clear q7); (try clear c8); (try clear c9); (try clear c11); (try clear c11b0); (try clear c11b1); (try clear c11b2); (try clear c13); (try clear c18); (try clear c18b0); (try clear c19); (try clear c21); (try clear c23); (try clear c24); (try clear c24b0); (try clear c25); (try clear c25b0); (try clear c26); (try clear c26b0); (try clear c26b1); (try clear c26b2); (try clear c28); (try clear c28b0); (try clear c29); (try clear c29b0); (try clear c30); (try clear p31); (try clear q31); (try clear hx31); (try clear p32); (try clear q32); (try clear hx32); (try clear hcz14_0); (try clear hcz14_1); (try clear hcz14_2); (try clear hcz15_0); (try clear hcz15_1); (try clear hcz15_2); (try clear hcz15_3); (try clear hcz20_0); (try clear hcz20_1); (try clear hcz20_2); (try clear hcz22_0); (try clear hcz22_1); (try clear hcz22_2); (try clear hcz31_0); (try clear hcz31_1); (try clear hcz31_2); (try clear hcz32_0); (try clear hcz32_1); (try clear hcz32_2); (try clear hcz32_3); (try clear hfz14_0); (try clear hfz14_1); (try clear hfz14_2); (try clear hfz15_0); (try clear hfz15_1); (try clear hfz15_2); (try clear hfz15_3); (try clear hfz20_0); (try clear hfz20_1); (try clear hfz20_2); (try clear hfz22_0); (try clear hfz22_1); (try clear hfz22_2); (try clear hfz31_0); (try clear hfz31_1); (try clear hfz31_2); (try clear hfz32_0); (try clear hfz32_1); (try clear hfz32_2); (try clear hfz32_3); (try clear hx318_0); (try clear hx322_0); (try clear hx323_0); (try clear p2); (try clear p3); (try clear p318); (try clear p322); (try clear p323); (try clear p6); (try clear q3); (try clear q318); (try clear q322); (try clear q323); (try clear q7)
          obtain ⟨x8_3, rfl, HA, HK3, HO_5, HO_317000, BK316, BK317, HB⟩ := hrel
          cases gk with
          | zero => exact absurd HA.out (by simp [warpref1_Pick.l1])
          | succ k3 =>
           have H := HA.out
           clear HA
           simp only [warpref1_Pick.l1] at H
           by_cases c34 : x8_3 < (x5_1.length : Int)
           ·
            rw [if_pos c34] at H
            have c34b0 : decide (x8_3 < (x5_1.length : Int)) = true := decide_eq_true c34
            clear c34
            (first | rw [c34b0] | (simp only [i64_w, i32_w]; rw [c34b0]) | skip)
            by_cases c35 : 0 ≤ x8_3
            ·
             rw [if_pos c35] at H
             have c35b0 : decide (0 ≤ x8_3) = true := decide_eq_true c35
             clear c35
             by_cases c36 : x8_3 < (x5_1.length : Int)
             ·
              rw [if_pos c36] at H
              have c36b0 : decide (x8_3 < (x5_1.length : Int)) = true := decide_eq_true c36
              clear c36
              by_cases c37 : (rd x5_1 x8_3) ≤ a0_2
              ·
               rw [if_pos c37] at H
               have c37b0 : decide ((rd x5_1 x8_3) ≤ a0_2) = true := decide_eq_true c37
               clear c37
               have H' := Aside0.mk H
               clear H
               have p324 : 0 ≤ (x8_3 : Int) := of_decide_eq_true (by first | (with_reducible assumption) | assumption)
               have q324 : x8_3 < (x5_1.length : Int) := of_decide_eq_true (by first | (with_reducible assumption) | assumption)
               obtain ⟨ad324, e324, hx324_0⟩ := Kd.at_int (Kd.R_reads' HO_5.out).2.2 x8_3 p324 q324
               cases e324
               replace p324 := eq_true p324
               replace q324 := eq_true q324
               have hnb38 := NB316_317.out
               have hnc38 := NB317_316.out
               have hcz39_0 : wr.cell? ⟨gb316, 0, none⟩ = some (.slice A0_0 l0_0.length c0_0) := (blk_cell BK316.out 0).trans rfl
               have hcz39_1 : wr.cell? ⟨gb316, 1, none⟩ = some (.int .i64 a0_1) := (blk_cell BK316.out 1).trans rfl
               have hcz39_2 : wr.cell? ⟨gb316, 2, none⟩ = some (.int .i64 a0_2) := (blk_cell BK316.out 2).trans rfl
               have hfz39_0 := blk_frozen BK316.out 0
               have hfz39_1 := blk_frozen BK316.out 1
               have hfz39_2 := blk_frozen BK316.out 2
               go_wp2
               repeat (go_quiet (fail); try go_wp2)
               go_roundg k3
               case measure => have := HK1.out; have := HJ15.out; have := HK3.out; omega
               case rel => exact ⟨(wrap64 (x8_3 + 1)), (by first | rfl | (simp; done) | (simp [*]; done)), H', ⟨by have := HK1.out; have := HJ15.out; have := HK3.out; omega⟩, ⟨by (with_reducible repeat (first | apply Kd.R_alloc | apply Kd.R_drewN | apply Kd.R_drew)); exact HO_5.out⟩, ⟨by (with_reducible repeat (first | apply Kd.V_alloc | apply Kd.V_drewN | apply Kd.V_drew)); exact HO_317000.out⟩, ⟨by (with_reducible repeat (first | refine blk_drewN ?_ _ | refine blk_drew ?_ | refine blk_alloc ?_ _)); exact BK316.out⟩, ⟨by (with_reducible repeat (first | refine blk_drewN ?_ _ | refine blk_drew ?_ | refine blk_alloc ?_ _)); exact BK317.out⟩, ⟨by repeat (first | (with_reducible first | exact HB.out | apply below_alloc | apply pw_below_drewN | apply below_drew1 | refine below_set ?_ GE316.out | refine below_set ?_ GE317.out) | exact HB.out)⟩⟩
              ·
               rw [if_neg c37] at H
               have c37b0 : decide ((rd x5_1 x8_3) ≤ a0_2) = false := decide_eq_false c37
               clear c37
               have H' := Aside0.mk H
               clear H
               have p324 : 0 ≤ (x8_3 : Int) := of_decide_eq_true (by first | (with_reducible assumption) | assumption)
               have q324 : x8_3 < (x5_1.length : Int) := of_decide_eq_true (by first | (with_reducible assumption) | assumption)
               obtain ⟨ad324, e324, hx324_0⟩ := Kd.at_int (Kd.R_reads' HO_5.out).2.2 x8_3 p324 q324
               cases e324
               replace p324 := eq_true p324
               replace q324 := eq_true q324
               have hnb40 := NB316_317.out
               have hnc40 := NB317_316.out
               have hcz41_0 : wr.cell? ⟨gb316, 0, none⟩ = some (.slice A0_0 l0_0.length c0_0) := (blk_cell BK316.out 0).trans rfl
               have hcz41_1 : wr.cell? ⟨gb316, 1, none⟩ = some (.int .i64 a0_1) := (blk_cell BK316.out 1).trans rfl
               have hcz41_2 : wr.cell? ⟨gb316, 2, none⟩ = some (.int .i64 a0_2) := (blk_cell BK316.out 2).trans rfl
               have hfz41_0 := blk_frozen BK316.out 0
               have hfz41_1 := blk_frozen BK316.out 1
               have hfz41_2 := blk_frozen BK316.out 2
               go_wp2
               repeat (go_quiet (fail); try go_wp2)
               go_meet
               case rel => exact ⟨_, (x8_3), (by first | rfl | (simp; done) | (simp [*]; done)), H', ⟨by have := HK1.out; have := HJ15.out; have := HK3.out; first | omega | exact Nat.le_refl _⟩, ⟨by (with_reducible repeat (first | apply Kd.R_alloc | apply Kd.R_drewN | apply Kd.R_drew)); exact HO_5.out⟩, ⟨by (with_reducible repeat (first | apply Kd.V_alloc | apply Kd.V_drewN | apply Kd.V_drew)); exact HO_317000.out⟩, ⟨by (with_reducible repeat (first | refine blk_drewN ?_ _ | refine blk_drew ?_ | refine blk_alloc ?_ _)); exact BK316.out⟩, ⟨by (with_reducible repeat (first | refine blk_drewN ?_ _ | refine blk_drew ?_ | refine blk_alloc ?_ _)); exact BK317.out⟩, ⟨by repeat (first | (with_reducible first | exact HB.out | apply below_alloc | apply pw_below_drewN | apply below_drew1 | refine below_set ?_ GE316.out | refine below_set ?_ GE317.out) | exact HB.out)⟩⟩
             ·
              rw [if_neg c36] at H
              exact absurd H (by simp)
            ·
             rw [if_neg c35] at H
             exact absurd H (by simp)
           ·
            rw [if_neg c34] at H
            have c34b0 : decide (x8_3 < (x5_1.length : Int)) = false := decide_eq_false c34
            clear c34
            (first | rw [c34b0] | (simp only [i64_w, i32_w]; rw [c34b0]) | skip)
            have H' := Aside0.mk H
            clear H
            go_wp2
            repeat (go_quiet (fail); try go_wp2)
            go_meet
            case rel => exact ⟨_, (x8_3), (by first | rfl | (simp; done) | (simp [*]; done)), H', ⟨by have := HK1.out; have := HJ15.out; have := HK3.out; first | omega | exact Nat.le_refl _⟩, ⟨by (with_reducible repeat (first | apply Kd.R_alloc | apply Kd.R_drewN | apply Kd.R_drew)); exact HO_5.out⟩, ⟨by (with_reducible repeat (first | apply Kd.V_alloc | apply Kd.V_drewN | apply Kd.V_drew)); exact HO_317000.out⟩, ⟨by (with_reducible repeat (first | refine blk_drewN ?_ _ | refine blk_drew ?_ | refine blk_alloc ?_ _)); exact BK316.out⟩, ⟨by (with_reducible repeat (first | refine blk_drewN ?_ _ | refine blk_drew ?_ | refine blk_alloc ?_ _)); exact BK317.out⟩, ⟨by repeat (first | (with_reducible first | exact HB.out | apply below_alloc | apply pw_below_drewN | apply below_drew1 | refine below_set ?_ GE316.out | refine below_set ?_ GE317.out) | exact HB.out)⟩⟩
        case rest =>
         clear HC33
         (try clear c1); (try clear c2); (try clear p2); (try clear c3); (try clear p3); (try clear q3); (try clear hx3); (try clear c4); (try clear c5); (try clear c5b0); (try clear c6); (try clear c6b0); (try clear p6); (try clear q7); (try clear c8); (try clear c9); (try clear c11); (try clear c11b0); (try clear c11b1); (try clear c11b2); (try clear c13); (try clear c18); (try clear c18b0); (try clear c19); (try clear c21); (try clear c23); (try clear c24); (try clear c24b0); (try clear c25); (try clear c25b0); (try clear c26); (try clear c26b0); (try clear c26b1); (try clear c26b2); (try clear c28); (try clear c28b0); (try clear c29); (try clear c29b0); (try clear c30); (try clear p31); (try clear q31); (try clear hx31); (try clear p32); (try clear q32); (try clear hx32); (try clear c34); (try clear c34b0); (try clear c35); (try clear c35b0); (try clear c36); (try clear c36b0); (try clear c37); (try clear c37b0); (try clear c38); (try clear c40); (try clear hcz14_0); (try clear hcz14_1); (try clear hcz14_2); (try clear hcz15_0); (try clear hcz15_1); (try clear hcz15_2); (try clear hcz15_3); (try clear hcz20_0); (try clear hcz20_1); (try clear hcz20_2); (try clear hcz22_0); (try clear hcz22_1); (try clear hcz22_2); (try clear hcz31_0); (try clear hcz31_1); (try clear hcz31_2); (try clear hcz32_0); (try clear hcz32_1); (try clear hcz32_2); (try clear hcz32_3); (try clear hcz39_0); (try clear hcz39_1); (try clear hcz39_2); (try clear hcz41_0); (try clear hcz41_1); (try clear hcz41_2); (try clear hfz14_0); (try clear hfz14_1); (try clear hfz14_2); (try clear hfz15_0); (try clear hfz15_1); (try clear hfz15_2); (try clear hfz15_3); (try clear hfz20_0); (try clear hfz20_1); (try clear hfz20_2); (try clear hfz22_0); (try clear hfz22_1); (try clear hfz22_2); (try clear hfz31_0); (try clear hfz31_1); (try clear hfz31_2); (try clear hfz32_0); (try clear hfz32_1); (try clear hfz32_2); (try clear hfz32_3); (try clear hfz39_0); (try clear hfz39_1); (try clear hfz39_2); (try clear hfz41_0); (try clear hfz41_1); (try clear hfz41_2); (try clear hx318_0); (try clear hx322_0); (try clear hx323_0); (try clear hx324_0); (try clear p2); (try clear p3); (try clear p31); (try clear p318); (try clear p32); (try clear p322); (try clear p323); (try clear p324); (try clear p6); (try clear q3); (try clear q31); (try clear q318); (try clear q32); (try clear q322); (try clear q323); (try clear q324); (try clear q7)
         obtain ⟨kq, x8_32, rfl, HA, HJ32, HO_5, HO_317000, BK316, BK317, HB⟩ := hcut
         cases kq with
         | zero => exact absurd HA.out (by simp [warpref1_Pick.j3])
         | succ kj32 =>
          have H := HA.out
          clear HA
          simp only [warpref1_Pick.j3] at H
          by_cases c42 : x8_32 = (x5_1.length : Int)
          ·
           rw [if_pos c42] at H
           have c42b0 : (x8_32 == (x5_1.length : Int)) = true := beq_iff_eq.mpr c42
           have c42b1 : (x8_32 != (x5_1.length : Int)) = false := bne_eq_false_iff_eq.mpr c42
           clear c42
           by_cases c43 : 0 < (x5_1.length : Int)
           ·
            rw [if_pos c43] at H
            have c43b0 : decide (0 < (x5_1.length : Int)) = true := decide_eq_true c43
            have c43b1 : decide (0 < x5_1.length) = true := decide_eq_true (by omega)
            clear c43
            simp only [Option.some.injEq, Prod.mk.injEq] at H
            obtain ⟨rfl, rfl, rfl, rfl⟩ := H
            have p325 : 0 ≤ (0 : Int) := (by omega)
            have q325 : 0 < (x5_1.length : Int) := of_decide_eq_true (by first | (with_reducible assumption) | assumption)
            obtain ⟨ad325, e325, hx325_0⟩ := Kd.at_int (Kd.R_reads' HO_5.out).2.2 0 p325 q325
            cases e325
            have qi325 : (0 < x5_1.length) = True := eq_true (by omega)
            (try rw [show ((0 : Int)).toNat = 0 from rfl] at hx325_0)
            (try rw [Addr.add_zero'] at hx325_0)
            replace p325 := eq_true p325
            replace q325 := eq_true q325
            have hnb44 := NB316_317.out
            have hnc44 := NB317_316.out
            have hcz45_0 : wc.cell? ⟨gb316, 0, none⟩ = some (.slice A0_0 l0_0.length c0_0) := (blk_cell BK316.out 0).trans rfl
            have hcz45_1 : wc.cell? ⟨gb316, 1, none⟩ = some (.int .i64 a0_1) := (blk_cell BK316.out 1).trans rfl
            have hcz45_2 : wc.cell? ⟨gb316, 2, none⟩ = some (.int .i64 a0_2) := (blk_cell BK316.out 2).trans rfl
            have hfz45_0 := blk_frozen BK316.out 0
            have hfz45_1 := blk_frozen BK316.out 1
            have hfz45_2 := blk_frozen BK316.out 2
            have hcz46_0 : wc.cell? ⟨gb317, 0, none⟩ = some (.int .i64 0) := (blk_cell BK317.out 0).trans rfl
            have hcz46_1 : wc.cell? ⟨gb317, 1, none⟩ = some (.slice none 0 0) := (blk_cell BK317.out 1).trans rfl
            have hcz46_2 : wc.cell? ⟨gb317, 2, none⟩ = some (.int .i64 0) := (blk_cell BK317.out 2).trans rfl
            have hcz46_3 : wc.cell? ⟨gb317, 3, none⟩ = some (.int .i64 0) := (blk_cell BK317.out 3).trans rfl
            have hfz46_0 := blk_frozen BK317.out 0
            have hfz46_1 := blk_frozen BK317.out 1
            have hfz46_2 := blk_frozen BK317.out 2
            have hfz46_3 := blk_frozen BK317.out 3
            go_wp2
            repeat (go_quiet (fail); try go_wp2)
            refine bodyPost_ret (results_cell_row rfl _ _ gb317 65 #[.int .i64 (rd x5_1 0), .slice A0_0 l0_0.length c0_0, .int .i64 a0_1, .int .i64 (rd x5_1 0)] (0, 0) _ rfl (by (with_reducible repeat (first | refine blk_drewN ?_ _ | refine blk_drew ?_ | refine blk_alloc ?_ _)); refine blk_put (cs := #[.int .i64 (rd x5_1 0), .slice A0_0 l0_0.length c0_0, .int .i64 a0_1, .int .i64 0]) ?_ 3 _ rfl; (with_reducible repeat (first | refine blk_drewN ?_ _ | refine blk_drew ?_ | refine blk_alloc ?_ _)); refine blk_put (cs := #[.int .i64 (rd x5_1 0), .slice A0_0 l0_0.length c0_0, .int .i64 0, .int .i64 0]) ?_ 2 _ rfl; (with_reducible repeat (first | refine blk_drewN ?_ _ | refine blk_drew ?_ | refine blk_alloc ?_ _)); refine blk_put (cs := #[.int .i64 (rd x5_1 0), .slice none 0 0, .int .i64 0, .int .i64 0]) ?_ 1 _ rfl; (with_reducible repeat (first | refine blk_drewN ?_ _ | refine blk_drew ?_ | refine blk_alloc ?_ _)); refine blk_put (cs := #[.int .i64 0, .slice none 0 0, .int .i64 0, .int .i64 0]) ?_ 0 _ rfl; (with_reducible repeat (first | refine blk_drewN ?_ _ | refine blk_drew ?_ | refine blk_alloc ?_ _)); refine blk_far ?_ NB317_316.out _; (with_reducible repeat (first | refine blk_drewN ?_ _ | refine blk_drew ?_ | refine blk_alloc ?_ _)); exact BK317.out) Tryd.underlying65 rfl (by kernel_rfl)) rfl ?_
            exact ⟨_, by first | rfl | (simp [errW_none, errW_some] <;> rfl) | (simp [*, errW_none, errW_some] <;> rfl), by (with_reducible repeat (first | apply Kd.V_alloc | apply Kd.V_drewN | apply Kd.V_drew)); exact Kd.V_mono (Kd.V_far (p := ⟨gb317, 3, none⟩) (Kd.V_far (p := ⟨gb317, 2, none⟩) (Kd.V_far (p := ⟨gb317, 1, none⟩) (Kd.V_far (p := ⟨gb317, 0, none⟩) (Kd.V_far (p := ⟨gb316, 2, none⟩) (Kd.V_mono (Kd.V_mono HO_317000.out (fun k_ hk => (⟨hk, hk.2.2.1⟩ : _ ∧ k_ ≠ gb316))) (fun k_ hk => (⟨hk, hk.1.2.2.2⟩ : _ ∧ k_ ≠ gb317))) (fun _ hk => hk.1.2) (.int .i64 (rd x5_1 0))) (fun _ hk => hk.2) (.int .i64 (rd x5_1 0))) (fun _ hk => hk.2) (.slice A0_0 l0_0.length c0_0)) (fun _ hk => hk.2) (.int .i64 a0_1)) (fun _ hk => hk.2) (.int .i64 (rd x5_1 0))) (fun _ hk => hk.1.1.1), by repeat (first | (with_reducible first | exact HB.out | apply below_alloc | apply pw_below_drewN | apply below_drew1 | refine below_set ?_ GE316.out | refine below_set ?_ GE317.out) | exact HB.out)⟩
           ·
            rw [if_neg c43] at H
            exact absurd H (by simp)
          ·
           rw [if_neg c42] at H
           have c42b0 : (x8_32 == (x5_1.length : Int)) = false := beq_eq_false_iff_ne.mpr c42
           have c42b1 : (x8_32 != (x5_1.length : Int)) = true := bne_iff_ne.mpr c42
           by_cases c47 : 0 ≤ x8_32
           ·
            rw [if_pos c47] at H
            have c47b0 : decide (0 ≤ x8_32) = true := decide_eq_true c47
            clear c47
            by_cases c48 : x8_32 < (x5_1.length : Int)
            ·
             rw [if_pos c48] at H
             have c48b0 : decide (x8_32 < (x5_1.length : Int)) = true := decide_eq_true c48
             clear c48
             simp only [Option.some.injEq, Prod.mk.injEq] at H
             obtain ⟨rfl, rfl, rfl, rfl⟩ := H
             have p326 : 0 ≤ (x8_32 : Int) := of_decide_eq_true (by first | (with_reducible assumption) | assumption)
             have q326 : x8_32 < (x5_1.length : Int) := of_decide_eq_true (by first | (with_reducible assumption) | assumption)
             obtain ⟨ad326, e326, hx326_0⟩ := Kd.at_int (Kd.R_reads' HO_5.out).2.2 x8_32 p326 q326
             cases e326
             replace p326 := eq_true p326
             replace q326 := eq_true q326
             have hnb49 := NB316_317.out
             have hnc49 := NB317_316.out
             have hcz50_0 : wc.cell? ⟨gb316, 0, none⟩ = some (.slice A0_0 l0_0.length c0_0) := (blk_cell BK316.out 0).trans rfl
             have hcz50_1 : wc.cell? ⟨gb316, 1, none⟩ = some (.int .i64 a0_1) := (blk_cell BK316.out 1).trans rfl
             have hcz50_2 : wc.cell? ⟨gb316, 2, none⟩ = some (.int .i64 a0_2) := (blk_cell BK316.out 2).trans rfl
             have hfz50_0 := blk_frozen BK316.out 0
             have hfz50_1 := blk_frozen BK316.out 1
             have hfz50_2 := blk_frozen BK316.out 2
             have hcz51_0 : wc.cell? ⟨gb317, 0, none⟩ = some (.int .i64 0) := (blk_cell BK317.out 0).trans rfl
             have hcz51_1 : wc.cell? ⟨gb317, 1, none⟩ = some (.slice none 0 0) := (blk_cell BK317.out 1).trans rfl
             have hcz51_2 : wc.cell? ⟨gb317, 2, none⟩ = some (.int .i64 0) := (blk_cell BK317.out 2).trans rfl
             have hcz51_3 : wc.cell? ⟨gb317, 3, none⟩ = some (.int .i64 0) := (blk_cell BK317.out 3).trans rfl
             have hfz51_0 := blk_frozen BK317.out 0
             have hfz51_1 := blk_frozen BK317.out 1
             have hfz51_2 := blk_frozen BK317.out 2
             have hfz51_3 := blk_frozen BK317.out 3
             go_wp2
             repeat (go_quiet (fail); try go_wp2)
             refine bodyPost_ret (results_cell_row rfl _ _ gb317 65 #[.int .i64 (rd x5_1 x8_32), .slice A0_0 l0_0.length c0_0, .int .i64 a0_1, .int .i64 (rd x5_1 x8_32)] (0, 0) _ rfl (by (with_reducible repeat (first | refine blk_drewN ?_ _ | refine blk_drew ?_ | refine blk_alloc ?_ _)); refine blk_put (cs := #[.int .i64 (rd x5_1 x8_32), .slice A0_0 l0_0.length c0_0, .int .i64 a0_1, .int .i64 0]) ?_ 3 _ rfl; (with_reducible repeat (first | refine blk_drewN ?_ _ | refine blk_drew ?_ | refine blk_alloc ?_ _)); refine blk_put (cs := #[.int .i64 (rd x5_1 x8_32), .slice A0_0 l0_0.length c0_0, .int .i64 0, .int .i64 0]) ?_ 2 _ rfl; (with_reducible repeat (first | refine blk_drewN ?_ _ | refine blk_drew ?_ | refine blk_alloc ?_ _)); refine blk_put (cs := #[.int .i64 (rd x5_1 x8_32), .slice none 0 0, .int .i64 0, .int .i64 0]) ?_ 1 _ rfl; (with_reducible repeat (first | refine blk_drewN ?_ _ | refine blk_drew ?_ | refine blk_alloc ?_ _)); refine blk_put (cs := #[.int .i64 0, .slice none 0 0, .int .i64 0, .int .i64 0]) ?_ 0 _ rfl; (with_reducible repeat (first | refine blk_drewN ?_ _ | refine blk_drew ?_ | refine blk_alloc ?_ _)); refine blk_far ?_ NB317_316.out _; (with_reducible repeat (first | refine blk_drewN ?_ _ | refine blk_drew ?_ | refine blk_alloc ?_ _)); exact BK317.out) Tryd.underlying65 rfl (by kernel_rfl)) rfl ?_
             exact ⟨_, by first | rfl | (simp [errW_none, errW_some] <;> rfl) | (simp [*, errW_none, errW_some] <;> rfl), by (with_reducible repeat (first | apply Kd.V_alloc | apply Kd.V_drewN | apply Kd.V_drew)); exact Kd.V_mono (Kd.V_far (p := ⟨gb317, 3, none⟩) (Kd.V_far (p := ⟨gb317, 2, none⟩) (Kd.V_far (p := ⟨gb317, 1, none⟩) (Kd.V_far (p := ⟨gb317, 0, none⟩) (Kd.V_far (p := ⟨gb316, 2, none⟩) (Kd.V_mono (Kd.V_mono HO_317000.out (fun k_ hk => (⟨hk, hk.2.2.1⟩ : _ ∧ k_ ≠ gb316))) (fun k_ hk => (⟨hk, hk.1.2.2.2⟩ : _ ∧ k_ ≠ gb317))) (fun _ hk => hk.1.2) (.int .i64 (rd x5_1 x8_32))) (fun _ hk => hk.2) (.int .i64 (rd x5_1 x8_32))) (fun _ hk => hk.2) (.slice A0_0 l0_0.length c0_0)) (fun _ hk => hk.2) (.int .i64 a0_1)) (fun _ hk => hk.2) (.int .i64 (rd x5_1 x8_32))) (fun _ hk => hk.1.1.1), by repeat (first | (with_reducible first | exact HB.out | apply below_alloc | apply pw_below_drewN | apply below_drew1 | refine below_set ?_ GE316.out | refine below_set ?_ GE317.out) | exact HB.out)⟩
            ·
             rw [if_neg c48] at H
             exact absurd H (by simp)
           ·
            rw [if_neg c47] at H
            exact absurd H (by simp)

/-! ### warpref1_Start: function 19 -/
def warpref1_Start.f (l0 : List Int) : Option (List Int × Int × Int) := some (l0, 0, (-1))
set_option maxHeartbeats 8000000 in
set_option maxRecDepth 100000 in
theorem warpref1_Start.calls (P0_ : Nat → Prop) (A0 : Option Addr) (c0 : Nat) (l0 : List Int) (r1 : List Int) (r2 : Int) (r3 : Int) (w : World) (hs0 : Kd.V (Kd.int .i64) 3 w w.heap.size (fun k_ => P0_ k_) (.slice A0 l0.length c0) l0) (h : warpref1_Start.f l0 = some (r1, r2, r3)) :
 Calls Tryd.prog 19 #[.slice A0 l0.length c0] w fun e w' => ∃ v0_ : Value, e = .returned (.agg #[v0_, .int .i64 r2, .int .i64 r3]) ∧ Kd.V (Kd.int .i64) 3 w' w.heap.size (fun k_ => (P0_ k_ ∨ w.heap.size ≤ k_)) v0_ r1 ∧ Below w.heap.size w w' := by
 have hu53 := Tryd.underlying53
 have HO0 := Aside0.mk (show Kd.V (Kd.int .i64) 3 w w.heap.size (fun k_ => (P0_ k_ ∨ w.heap.size ≤ k_)) (.slice A0 l0.length c0) l0 from Kd.V_mono hs0 (fun k_ hk => .inl hk))
 have HB := Aside0.mk (Below.refl w.heap.size w)
 have H : (some (l0, 0, (-1))) = some (r1, r2, r3) := h
 clear h
 simp only [Option.some.injEq, Prod.mk.injEq] at H
 obtain ⟨rfl, rfl, rfl⟩ := H
 go_enter Tryd.func19, Tryd.ntmps19
 go_wp2_with (first | ((with_reducible refine gate_dst (N := 2) rfl ?_); refine box_event ?hg (N := 2) ?hd (cs := #[.slice none 0 0, .int .i64 0, .int .i64 0]) (t := 53) ?hr ?_; (case hd => rfl); (case hg => rfl); (case hr => first | (go_simp; done) | (go_simp; rfl)); intro gb327 hg w2 hbox hb; have n0_ := Aside0.mk (Kd.V_below (Kd.V_elderB (by (with_reducible repeat (first | apply Kd.V_alloc | apply Kd.V_drewN | apply Kd.V_drew)); exact HO0.out) gb327 (Nat.le_of_eq hg.symm)) hb); have n1_ := Aside0.mk (below_step (by repeat (first | (with_reducible first | exact HB.out | apply below_alloc | apply pw_below_drewN | apply below_drew1) | exact HB.out)) hb); have n2_ := Aside0.mk (hbox); have n3_ := Aside0.mk ((by rw [hg]; exact (below_size (by repeat (first | (with_reducible first | exact HB.out | apply below_alloc | apply pw_below_drewN | apply below_drew1) | exact HB.out))) : w.heap.size ≤ gb327)); have n4_ := Aside0.mk ((by rw [hg]; exact (below_size (by repeat (first | (with_reducible first | exact HB.out | apply below_alloc | apply pw_below_drewN | apply below_drew1) | exact HB.out))) : w.heap.size ≤ gb327)); clear HO0; clear HB; have HO0 := n0_; have HB := n1_; have BK327 := n2_; have GW327 := n3_; have GE327 := n4_; clear n0_ n1_ n2_ n3_ n4_; clear hb hbox hg; have hcz3_0 : w2.cell? ⟨gb327, 0, none⟩ = some (.slice none 0 0) := (blk_cell BK327.out 0).trans rfl; have hcz3_1 : w2.cell? ⟨gb327, 1, none⟩ = some (.int .i64 0) := (blk_cell BK327.out 1).trans rfl; have hcz3_2 : w2.cell? ⟨gb327, 2, none⟩ = some (.int .i64 0) := (blk_cell BK327.out 2).trans rfl; have hfz3_0 := blk_frozen BK327.out 0; have hfz3_1 := blk_frozen BK327.out 1; have hfz3_2 := blk_frozen BK327.out 2))
 refine bodyPost_ret (results_cell_row rfl _ _ gb327 53 #[.slice A0 l0.length c0, .int .i64 0, .int .i64 (-1)] (0, 0) _ rfl (by (with_reducible repeat (first | refine blk_drewN ?_ _ | refine blk_drew ?_ | refine blk_alloc ?_ _)); refine blk_put (cs := #[.slice A0 l0.length c0, .int .i64 0, .int .i64 0]) ?_ 2 _ rfl; (with_reducible repeat (first | refine blk_drewN ?_ _ | refine blk_drew ?_ | refine blk_alloc ?_ _)); refine blk_put (cs := #[.slice A0 l0.length c0, .int .i64 0, .int .i64 0]) ?_ 1 _ rfl; (with_reducible repeat (first | refine blk_drewN ?_ _ | refine blk_drew ?_ | refine blk_alloc ?_ _)); refine blk_put (cs := #[.slice none 0 0, .int .i64 0, .int .i64 0]) ?_ 0 _ rfl; (with_reducible repeat (first | refine blk_drewN ?_ _ | refine blk_drew ?_ | refine blk_alloc ?_ _)); exact BK327.out) Tryd.underlying53 rfl (by kernel_rfl)) rfl ?_
 exact ⟨_, by first | rfl | (simp [errW_none, errW_some] <;> rfl) | (simp [*, errW_none, errW_some] <;> rfl), by (with_reducible repeat (first | apply Kd.V_alloc | apply Kd.V_drewN | apply Kd.V_drew)); exact Kd.V_mono (Kd.V_far (p := ⟨gb327, 2, none⟩) (Kd.V_far (p := ⟨gb327, 1, none⟩) (Kd.V_far (p := ⟨gb327, 0, none⟩) (Kd.V_mono HO0.out (fun k_ hk => (⟨hk, hk.2⟩ : _ ∧ k_ ≠ gb327))) (fun _ hk => hk.2) (.slice A0 l0.length c0)) (fun _ hk => hk.2) (.int .i64 0)) (fun _ hk => hk.2) (.int .i64 (-1))) (fun _ hk => hk.1.1), by repeat (first | (with_reducible first | exact HB.out | apply below_alloc | apply pw_below_drewN | apply below_drew1 | refine below_set ?_ GE327.out) | exact HB.out)⟩

end Go.Proofs.YtmgfkdnoclmbgaaDoor.P
