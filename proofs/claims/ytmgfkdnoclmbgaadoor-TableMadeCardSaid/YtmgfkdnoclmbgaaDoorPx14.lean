/-
The plain Lean functions of Go functions of this seat, and proofs that the calls of the machine come to them; no condition beside those named in each theorem.
-/
import Derived.Test.YtmgfkdnoclmbgaaDoorPx0
import Derived.Test.YtmgfkdnoclmbgaaDoorPx1
namespace Go.Proofs.YtmgfkdnoclmbgaaDoor.P
open Go.RowKit Go.Proofs.YtmgfkdnoclmbgaaDoorW.PrintWords Go.Proofs.YtmgfkdnoclmbgaaDoorW.PrintLast Go.Proofs.YtmgfkdnoclmbgaaDoorW.PrintMore
attribute [local go_sem] max2_int min2_int max_two min_two max_three min_three max_four min_four   -- for this text's walks alone
set_option linter.unusedVariables false
set_option linter.unusedSimpArgs false

attribute [local go_sem high] eqA26
/-! ### warpref1_find: function 22 -/
def warpref1_find.l0 : Nat → List (S26) → Int → ByteArray → Int → Int → Option (Int)
 | 0, _, _, _, _, _ => none
 | k + 1, x0, x5, x329000, x329001, x329002 => if x5 < (x0.length : Int) then (if 0 ≤ x5 then (if ((((rd_T26 x0 x5).f0).toList) == x329000.toList && (((rd_T26 x0 x5).f1) == x329001 && (((rd_T26 x0 x5).f2) == x329002))) = true then (some x5) else (warpref1_find.l0 k x0 (wrap64 (x5 + 1)) x329000 x329001 x329002)) else (none)) else (some (-1))
def warpref1_find.f (k : Nat) (l0 : List (S26)) (a1_0 : ByteArray) (a1_1 : Int) (a1_2 : Int) : Option (Int) := warpref1_find.l0 k l0 0 a1_0 a1_1 a1_2
theorem warpref1_find.mono_l : ∀ k, (∀ y0 y1 y2 y3 y4, LeO (warpref1_find.l0 k y0 y1 y2 y3 y4) (warpref1_find.l0 (k + 1) y0 y1 y2 y3 y4))
 | 0 => fun _ _ _ _ _ r h => by simp [warpref1_find.l0] at h
 | k + 1 => by
  have ih0 := warpref1_find.mono_l k
  ·
   intro y0 y1 y2 y3 y4
   unfold warpref1_find.l0
   repeat' first
   | (with_reducible exact ih0 _ _ _ _ _)
   | (with_reducible exact LeO.refl _)
   | (with_reducible exact LeO.none _)
   | (with_reducible refine LeO.ite ?_ ?_)
   | (with_reducible refine LeO.bind ?_ (fun _ => ?_))
   | exact ih0 _ _ _ _ _
   | exact LeO.none _
   | refine LeO.ite ?_ ?_
   | refine LeO.bind ?_ (fun _ => ?_)
theorem warpref1_find.mono : ∀ a0 a1 a2 a3 k, LeO (warpref1_find.f k a0 a1 a2 a3) (warpref1_find.f (k + 1) a0 a1 a2 a3) := by
 intro a0 a1 a2 a3 k
 have ih0 := warpref1_find.mono_l k
 unfold warpref1_find.f
 repeat' first
  | (with_reducible exact ih0 _ _ _ _ _)
  | (with_reducible exact LeO.refl _)
  | (with_reducible exact LeO.none _)
  | (with_reducible refine LeO.ite ?_ ?_)
  | (with_reducible refine LeO.bind ?_ (fun _ => ?_))
  | exact ih0 _ _ _ _ _
  | exact LeO.none _
  | refine LeO.ite ?_ ?_
  | refine LeO.bind ?_ (fun _ => ?_)
set_option maxHeartbeats 8000000 in
set_option maxRecDepth 100000 in
theorem warpref1_find.calls (k : Nat) (A0 : Option Addr) (c0 : Nat) (l0 : List (S26)) (a1_0 : ByteArray) (a1_1 : Int) (a1_2 : Int) (r : Int) (w : World) (hr0 : Kd.C k26 w A0 l0.length l0) (hc0 : l0.length ≤ c0) (h : warpref1_find.f k l0 a1_0 a1_1 a1_2 = some r) :
 Calls Tryd.prog 22 #[.slice A0 l0.length c0, .agg #[.string a1_0, .int .i64 a1_1, .int .i64 a1_2]] w fun e w' => e = .returned (.int .i64 r) ∧ Below w.heap.size w w' := by
 have hu26 := Tryd.underlying26
 have HR0 := Aside0.mk hr0
 have HC0 := Aside0.mk hc0
 clear hr0 hc0
 have HB := Aside0.mk (Below.refl w.heap.size w)
 have H : (warpref1_find.l0 k l0 0 a1_0 a1_1 a1_2) = some r := h
 clear h
 have H' := Aside0.mk H
 clear H
 go_enter Tryd.func22, Tryd.ntmps22
 go_wp2_with (first | ((with_reducible refine gate_dst (N := 3) rfl ?_); refine box_event ?hg (N := 3) ?hd (cs := #[.string a1_0, .int .i64 a1_1, .int .i64 a1_2]) (t := 26) ?hr ?_; (case hd => rfl); (case hg => rfl); (case hr => first | (go_simp; done) | (go_simp; rfl)); intro gb328 hg w3 hbox hb; have n0_ := Aside0.mk (below_step (by repeat (first | (with_reducible first | exact HB.out | apply below_alloc | apply pw_below_drewN | apply below_drew1) | exact HB.out)) hb); have n1_ := Aside0.mk (hbox); have n2_ := Aside0.mk ((by rw [hg]; exact (below_size (by repeat (first | (with_reducible first | exact HB.out | apply below_alloc | apply pw_below_drewN | apply below_drew1) | exact HB.out))) : w.heap.size ≤ gb328)); have n3_ := Aside0.mk ((by rw [hg]; exact (below_size (by repeat (first | (with_reducible first | exact HB.out | apply below_alloc | apply pw_below_drewN | apply below_drew1) | exact HB.out))) : w.heap.size ≤ gb328)); clear HB; have HB := n0_; have BK328 := n1_; have GW328 := n2_; have GE328 := n3_; clear n0_ n1_ n2_ n3_; clear hb hbox hg))
 repeat (go_quiet (first | ((with_reducible refine gate_dst (N := 3) rfl ?_); refine box_event ?hg (N := 3) ?hd (cs := #[.string a1_0, .int .i64 a1_1, .int .i64 a1_2]) (t := 26) ?hr ?_; (case hd => rfl); (case hg => rfl); (case hr => first | (go_simp; done) | (go_simp; rfl)); intro gb328 hg w3 hbox hb; have n0_ := Aside0.mk (below_step (by repeat (first | (with_reducible first | exact HB.out | apply below_alloc | apply pw_below_drewN | apply below_drew1) | exact HB.out)) hb); have n1_ := Aside0.mk (hbox); have n2_ := Aside0.mk ((by rw [hg]; exact (below_size (by repeat (first | (with_reducible first | exact HB.out | apply below_alloc | apply pw_below_drewN | apply below_drew1) | exact HB.out))) : w.heap.size ≤ gb328)); have n3_ := Aside0.mk ((by rw [hg]; exact (below_size (by repeat (first | (with_reducible first | exact HB.out | apply below_alloc | apply pw_below_drewN | apply below_drew1) | exact HB.out))) : w.heap.size ≤ gb328)); clear HB; have HB := n0_; have BK328 := n1_; have GW328 := n2_; have GE328 := n3_; clear n0_ n1_ n2_ n3_; clear hb hbox hg)); try go_wp2_with (first | ((with_reducible refine gate_dst (N := 3) rfl ?_); refine box_event ?hg (N := 3) ?hd (cs := #[.string a1_0, .int .i64 a1_1, .int .i64 a1_2]) (t := 26) ?hr ?_; (case hd => rfl); (case hg => rfl); (case hr => first | (go_simp; done) | (go_simp; rfl)); intro gb328 hg w3 hbox hb; have n0_ := Aside0.mk (below_step (by repeat (first | (with_reducible first | exact HB.out | apply below_alloc | apply pw_below_drewN | apply below_drew1) | exact HB.out)) hb); have n1_ := Aside0.mk (hbox); have n2_ := Aside0.mk ((by rw [hg]; exact (below_size (by repeat (first | (with_reducible first | exact HB.out | apply below_alloc | apply pw_below_drewN | apply below_drew1) | exact HB.out))) : w.heap.size ≤ gb328)); have n3_ := Aside0.mk ((by rw [hg]; exact (below_size (by repeat (first | (with_reducible first | exact HB.out | apply below_alloc | apply pw_below_drewN | apply below_drew1) | exact HB.out))) : w.heap.size ≤ gb328)); clear HB; have HB := n0_; have BK328 := n1_; have GW328 := n2_; have GE328 := n3_; clear n0_ n1_ n2_ n3_; clear hb hbox hg)))
 go_loopg [5] k (fun kq v5 w' => ∃ (x5_1 : Int), v5 = .int .i64 x5_1 ∧ Aside0 (warpref1_find.l0 kq l0 x5_1 a1_0 a1_1 a1_2 = some r) ∧ Aside0 (kq ≤ k) ∧ Aside0 (w'.heap[gb328]? = some (.cells #[.string a1_0, .int .i64 a1_1, .int .i64 a1_2] 26 (0, 0))) ∧ Aside0 (Below w.heap.size w w'))
 case atStart => exact ⟨(0), (by first | rfl | (simp; done) | (simp [*]; done)), H', ⟨Nat.le_refl _⟩, ⟨by (with_reducible repeat (first | refine blk_drewN ?_ _ | refine blk_drew ?_ | refine blk_alloc ?_ _)); exact BK328.out⟩, ⟨by repeat (first | (with_reducible first | exact HB.out | apply below_alloc | apply pw_below_drewN | apply below_drew1 | refine below_set ?_ GE328.out) | exact HB.out)⟩⟩
 case round =>
  clear H'
  (try clear c2); (try clear p2)
  obtain ⟨x5_1, rfl, HA, HK1, BK328, HB⟩ := hrel
  cases gk with
  | zero => exact absurd HA.out (by simp [warpref1_find.l0])
  | succ k1 =>
   have H := HA.out
   clear HA
   simp only [warpref1_find.l0] at H
   by_cases c4 : x5_1 < (l0.length : Int)
   ·
    rw [if_pos c4] at H
    have c4b0 : decide (x5_1 < (l0.length : Int)) = true := decide_eq_true c4
    clear c4
    by_cases c5 : 0 ≤ x5_1
    ·
     rw [if_pos c5] at H
     have c5b0 : decide (0 ≤ x5_1) = true := decide_eq_true c5
     clear c5
     by_cases c6 : ((((rd_T26 l0 x5_1).f0).toList) == a1_0.toList && (((rd_T26 l0 x5_1).f1) == a1_1 && (((rd_T26 l0 x5_1).f2) == a1_2))) = true
     ·
      rw [if_pos c6] at H
      have c6b0 : ((((rd_T26 l0 x5_1).f0).toList) == a1_0.toList && (((rd_T26 l0 x5_1).f1) == a1_1 && (((rd_T26 l0 x5_1).f2) == a1_2))) = true := c6
      (try (have c6b1 : decide ((((rd_T26 l0 x5_1).f0).toList) = a1_0.toList && (((rd_T26 l0 x5_1).f1) == a1_1 && (((rd_T26 l0 x5_1).f2) == a1_2))) = true := by simpa using c6))
      (try (have c6b2 : ((((rd_T26 l0 x5_1).f0).toList) == a1_0.toList && (((rd_T26 l0 x5_1).f1) == a1_1 && (((rd_T26 l0 x5_1).f2) == a1_2))) = true := by simpa using c6))
      clear c6
      obtain rfl := Option.some.inj H
      have p329 : 0 ≤ (x5_1 : Int) := of_decide_eq_true (by first | (with_reducible assumption) | assumption)
      have q329 : x5_1 < (l0.length : Int) := of_decide_eq_true (by first | (with_reducible assumption) | assumption)
      obtain ⟨ad329, e329, hx329_0, hx329_1, hx329_2⟩ := at_T26 HR0.out x5_1 p329 q329
      cases e329
      replace hx329_0 := (HB.out.cell (World.block_lt_of_cell? w _ hx329_0)).trans hx329_0
      replace hx329_1 := (HB.out.cell (World.block_lt_of_cell? w _ hx329_1)).trans hx329_1
      replace hx329_2 := (HB.out.cell (World.block_lt_of_cell? w _ hx329_2)).trans hx329_2
      replace p329 := eq_true p329
      replace q329 := eq_true q329
      have hcz7_0 : wr.cell? ⟨gb328, 0, none⟩ = some (.string a1_0) := (blk_cell BK328.out 0).trans rfl
      have hcz7_1 : wr.cell? ⟨gb328, 1, none⟩ = some (.int .i64 a1_1) := (blk_cell BK328.out 1).trans rfl
      have hcz7_2 : wr.cell? ⟨gb328, 2, none⟩ = some (.int .i64 a1_2) := (blk_cell BK328.out 2).trans rfl
      have hfz7_0 := blk_frozen BK328.out 0
      have hfz7_1 := blk_frozen BK328.out 1
      have hfz7_2 := blk_frozen BK328.out 2
      go_wp2
      repeat (go_quiet (fail); try go_wp2)
      go_ret
      exact ⟨by first | rfl | (simp [errW_none, errW_some] <;> rfl) | (simp [*, errW_none, errW_some] <;> rfl), by repeat (first | (with_reducible first | exact HB.out | apply below_alloc | apply pw_below_drewN | apply below_drew1 | refine below_set ?_ GE328.out) | exact HB.out)⟩
     ·
      rw [if_neg c6] at H
      have c6b0 : ((((rd_T26 l0 x5_1).f0).toList) == a1_0.toList && (((rd_T26 l0 x5_1).f1) == a1_1 && (((rd_T26 l0 x5_1).f2) == a1_2))) = false := by simpa using c6
      (try (have c6b1 : decide ((((rd_T26 l0 x5_1).f0).toList) = a1_0.toList && (((rd_T26 l0 x5_1).f1) == a1_1 && (((rd_T26 l0 x5_1).f2) == a1_2))) = false := by simpa using c6))
      (try (have c6b2 : ((((rd_T26 l0 x5_1).f0).toList) == a1_0.toList && (((rd_T26 l0 x5_1).f1) == a1_1 && (((rd_T26 l0 x5_1).f2) == a1_2))) = false := by simpa using c6))
      (try (have c6b3 : ¬ ((((rd_T26 l0 x5_1).f0).toList) = a1_0.toList && (((rd_T26 l0 x5_1).f1) == a1_1 && (((rd_T26 l0 x5_1).f2) == a1_2))) := by simpa using c6))
      clear c6
      have H' := Aside0.mk H
      clear H
      have p329 : 0 ≤ (x5_1 : Int) := of_decide_eq_true (by first | (with_reducible assumption) | assumption)
      have q329 : x5_1 < (l0.length : Int) := of_decide_eq_true (by first | (with_reducible assumption) | assumption)
      obtain ⟨ad329, e329, hx329_0, hx329_1, hx329_2⟩ := at_T26 HR0.out x5_1 p329 q329
      cases e329
      replace hx329_0 := (HB.out.cell (World.block_lt_of_cell? w _ hx329_0)).trans hx329_0
      replace hx329_1 := (HB.out.cell (World.block_lt_of_cell? w _ hx329_1)).trans hx329_1
      replace hx329_2 := (HB.out.cell (World.block_lt_of_cell? w _ hx329_2)).trans hx329_2
      replace p329 := eq_true p329
      replace q329 := eq_true q329
      have hcz8_0 : wr.cell? ⟨gb328, 0, none⟩ = some (.string a1_0) := (blk_cell BK328.out 0).trans rfl
      have hcz8_1 : wr.cell? ⟨gb328, 1, none⟩ = some (.int .i64 a1_1) := (blk_cell BK328.out 1).trans rfl
      have hcz8_2 : wr.cell? ⟨gb328, 2, none⟩ = some (.int .i64 a1_2) := (blk_cell BK328.out 2).trans rfl
      have hfz8_0 := blk_frozen BK328.out 0
      have hfz8_1 := blk_frozen BK328.out 1
      have hfz8_2 := blk_frozen BK328.out 2
      go_wp2
      repeat (go_quiet (fail); try go_wp2)
      go_roundg k1
      case measure => have := HK1.out; omega
      case rel => exact ⟨(wrap64 (x5_1 + 1)), (by first | rfl | (simp; done) | (simp [*]; done)), H', ⟨by have := HK1.out; omega⟩, ⟨by (with_reducible repeat (first | refine blk_drewN ?_ _ | refine blk_drew ?_ | refine blk_alloc ?_ _)); exact BK328.out⟩, ⟨by repeat (first | (with_reducible first | exact HB.out | apply below_alloc | apply pw_below_drewN | apply below_drew1 | refine below_set ?_ GE328.out) | exact HB.out)⟩⟩
    ·
     rw [if_neg c5] at H
     exact absurd H (by simp)
   ·
    rw [if_neg c4] at H
    have c4b0 : decide (x5_1 < (l0.length : Int)) = false := decide_eq_false c4
    clear c4
    obtain rfl := Option.some.inj H
    go_wp2
    repeat (go_quiet (fail); try go_wp2)
    go_ret
    exact ⟨by first | rfl | (simp [errW_none, errW_some] <;> rfl) | (simp [*, errW_none, errW_some] <;> rfl), by repeat (first | (with_reducible first | exact HB.out | apply below_alloc | apply pw_below_drewN | apply below_drew1 | refine below_set ?_ GE328.out) | exact HB.out)⟩

/-! ### warpref1_b: function 23 -/
def warpref1_b.f (a0 : Bool) : Option (Int) := if a0 = true then (some 1) else (some 0)
set_option maxHeartbeats 8000000 in
set_option maxRecDepth 100000 in
theorem warpref1_b.calls (a0 : Bool) (r : Int) (w : World) (h : warpref1_b.f a0 = some r) :
 Calls Tryd.prog 23 #[.bool a0] w fun e w' => e = .returned (.int .i64 r) ∧ Drawn0 w w' := by
 have H : (if a0 = true then (some 1) else (some 0)) = some r := h
 clear h
 by_cases c2 : a0 = true
 ·
  subst c2
  have H1 : (some 1) = some r := by rw [if_pos rfl] at H; exact H
  clear H
  have H := H1
  clear H1
  obtain rfl := Option.some.inj H
  go_enter Tryd.func23, Tryd.ntmps23
  go_wp2
  go_ret
  exact ⟨by first | rfl | (simp; done) | (simp [*]; done), by repeat (first | exact Drawn0.refl _ | apply Drawn0.step)⟩
 ·
  replace c2 := Bool.eq_false_iff.mpr c2
  subst c2
  have H1 : (some 0) = some r := by rw [if_neg (show ¬ (false = true) by decide)] at H; exact H
  clear H
  have H := H1
  clear H1
  obtain rfl := Option.some.inj H
  go_enter Tryd.func23, Tryd.ntmps23
  go_wp2
  go_ret
  exact ⟨by first | rfl | (simp; done) | (simp [*]; done), by repeat (first | exact Drawn0.refl _ | apply Drawn0.step)⟩

end Go.Proofs.YtmgfkdnoclmbgaaDoor.P
