/-
The plain Lean functions of Go functions of this seat, and proofs that the calls of the machine come to them; no condition beside those named in each theorem.
-/
import Derived.Test.YtbkdnenlffiaeaaDoorPx0
import Derived.Test.YtbkdnenlffiaeaaDoorPx10
import Derived.Test.YtbkdnenlffiaeaaDoorPx14
import Derived.Test.YtbkdnenlffiaeaaDoorStubB
namespace Go.Proofs.YtbkdnenlffiaeaaDoor.P
open Go.RowKit Go.Proofs.YtbkdnenlffiaeaaDoorW.PrintWords Go.Proofs.YtbkdnenlffiaeaaDoorW.PrintLast Go.Proofs.YtbkdnenlffiaeaaDoorW.PrintMore
attribute [local go_sem] max2_int min2_int max_two min_two max_three min_three max_four min_four   -- for this text's walks alone
set_option linter.unusedVariables false
set_option linter.unusedSimpArgs false

/-! ### warplaw24_PoolWaves: function 9 -/
mutual
def warplaw24_PoolWaves.l0 : Nat → List (List Int) → List (S54) → Int → Option (Bool)
 | 0, _, _, _ => none
 | k + 1, x7, x8, x10 => if x10 < (x8.length : Int) then (if 0 ≤ x10 then (if ((rd_T54 x8 x10).f3) < 1 then (warplaw24_PoolWaves.j1 k x7 x8 x10 true) else (if ((rd_T54 x8 x10).f5) ≤ ((rd_T54 x8 x10).f3) then (warplaw24_PoolWaves.j1 k x7 x8 x10 true) else (if ((rd_T54 x8 x10).f2) < 0 then (warplaw24_PoolWaves.j1 k x7 x8 x10 true) else (warplaw24_PoolWaves.j1 k x7 x8 x10 (decide (((rd_T54 x8 x10).f2) ≥ (x7.length : Int))))))) else (none)) else ((warplaw24_awake.f).bind fun t472 => (some t472))
def warplaw24_PoolWaves.j1 : Nat → List (List Int) → List (S54) → Int → Bool → Option (Bool)
 | 0, _, _, _, _ => none
 | k + 1, x7, x8, x10, x72 => if x72 = true then (some false) else (warplaw24_PoolWaves.l1 k x7 x8 x10 false 0)
def warplaw24_PoolWaves.l1 : Nat → List (List Int) → List (S54) → Int → Bool → Int → Option (Bool)
 | 0, _, _, _, _, _ => none
 | k + 1, x7, x8, x10, x11, x12 => if 0 ≤ x10 then (if x10 < (x8.length : Int) then (if 0 ≤ ((rd_T54 x8 x10).f2) then (if ((rd_T54 x8 x10).f2) < (x7.length : Int) then (if x12 < ((rd_L4 x7 ((rd_T54 x8 x10).f2)).length : Int) then (if x11 = true then (warplaw24_PoolWaves.l1 k x7 x8 x10 true (wrap64 (x12 + 1))) else (if 0 ≤ x12 then (warplaw24_PoolWaves.l1 k x7 x8 x10 ((rd (rd_L4 x7 ((rd_T54 x8 x10).f2)) x12) == ((rd_T54 x8 x10).f1.f1)) (wrap64 (x12 + 1))) else (none))) else (if x11 = true then (warplaw24_PoolWaves.l2 k x7 x8 x10 0) else (some false))) else (none)) else (none)) else (none)) else (none)
def warplaw24_PoolWaves.l2 : Nat → List (List Int) → List (S54) → Int → Int → Option (Bool)
 | 0, _, _, _, _ => none
 | k + 1, x7, x8, x10, x13 => if x13 < (x8.length : Int) then (if 0 ≤ x13 then (if 0 ≤ x10 then (if x10 < (x8.length : Int) then (if ((rd_T54 x8 x13).f2) < ((rd_T54 x8 x10).f2) then (if ((rd_T54 x8 x13).f5) ≥ ((rd_T54 x8 x10).f3) then (warplaw24_PoolWaves.j4 k x7 x8 x10 x13 true) else (if x13 = x10 then (warplaw24_PoolWaves.j4 k x7 x8 x10 x13 false) else (if ((rd_T54 x8 x13).f0) = ((rd_T54 x8 x10).f0) then (if ((rd_T54 x8 x13).f3) ≤ ((rd_T54 x8 x10).f5) then (warplaw24_PoolWaves.j4 k x7 x8 x10 x13 (decide (((rd_T54 x8 x10).f3) ≤ ((rd_T54 x8 x13).f5)))) else (warplaw24_PoolWaves.j4 k x7 x8 x10 x13 false)) else (warplaw24_PoolWaves.j4 k x7 x8 x10 x13 false)))) else (if x13 = x10 then (warplaw24_PoolWaves.j4 k x7 x8 x10 x13 false) else (if ((rd_T54 x8 x13).f0) = ((rd_T54 x8 x10).f0) then (if ((rd_T54 x8 x13).f3) ≤ ((rd_T54 x8 x10).f5) then (warplaw24_PoolWaves.j4 k x7 x8 x10 x13 (decide (((rd_T54 x8 x10).f3) ≤ ((rd_T54 x8 x13).f5)))) else (warplaw24_PoolWaves.j4 k x7 x8 x10 x13 false)) else (warplaw24_PoolWaves.j4 k x7 x8 x10 x13 false)))) else (none)) else (none)) else (none)) else (warplaw24_PoolWaves.l0 k x7 x8 (wrap64 (x10 + 1)))
def warplaw24_PoolWaves.j4 : Nat → List (List Int) → List (S54) → Int → Int → Bool → Option (Bool)
 | 0, _, _, _, _, _ => none
 | k + 1, x7, x8, x10, x13, x182 => if x182 = true then (some false) else (warplaw24_PoolWaves.l2 k x7 x8 x10 (wrap64 (x13 + 1)))
end
def warplaw24_PoolWaves.f (k : Nat) (l0 : List Int) (a1 : Int) (l2 : List Int) : Option (Bool) := if (l2.length : Int) > 400 then ((warplaw24_awake.f).bind fun t437 => (some t437)) else ((warplaw24_Make.f k l0).bind fun t438 => ((pool_Play.f t438 (wrap64 (1 + (Int.tmod (wrap64 (a1)) 64))) l2).bind fun bt441 => (warplaw24_PoolWaves.l0 k t438 bt441.1 0)))
theorem warplaw24_PoolWaves.mono_l : ∀ k, (∀ y0 y1 y2, LeO (warplaw24_PoolWaves.l0 k y0 y1 y2) (warplaw24_PoolWaves.l0 (k + 1) y0 y1 y2)) ∧ (∀ y0 y1 y2 y3, LeO (warplaw24_PoolWaves.j1 k y0 y1 y2 y3) (warplaw24_PoolWaves.j1 (k + 1) y0 y1 y2 y3)) ∧ (∀ y0 y1 y2 y3 y4, LeO (warplaw24_PoolWaves.l1 k y0 y1 y2 y3 y4) (warplaw24_PoolWaves.l1 (k + 1) y0 y1 y2 y3 y4)) ∧ (∀ y0 y1 y2 y3, LeO (warplaw24_PoolWaves.l2 k y0 y1 y2 y3) (warplaw24_PoolWaves.l2 (k + 1) y0 y1 y2 y3)) ∧ (∀ y0 y1 y2 y3 y4, LeO (warplaw24_PoolWaves.j4 k y0 y1 y2 y3 y4) (warplaw24_PoolWaves.j4 (k + 1) y0 y1 y2 y3 y4))
 | 0 => ⟨fun _ _ _ r h => by simp [warplaw24_PoolWaves.l0] at h, fun _ _ _ _ r h => by simp [warplaw24_PoolWaves.j1] at h, fun _ _ _ _ _ r h => by simp [warplaw24_PoolWaves.l1] at h, fun _ _ _ _ r h => by simp [warplaw24_PoolWaves.l2] at h, fun _ _ _ _ _ r h => by simp [warplaw24_PoolWaves.j4] at h⟩
 | k + 1 => by
  obtain ⟨ih0, ih1, ih2, ih3, ih4⟩ := warplaw24_PoolWaves.mono_l k
  refine ⟨?_, ?_, ?_, ?_, ?_⟩
  ·
   intro y0 y1 y2
   unfold warplaw24_PoolWaves.l0
   repeat' first
   | (with_reducible exact ih0 _ _ _)
   | (with_reducible exact ih1 _ _ _ _)
   | (with_reducible exact ih2 _ _ _ _ _)
   | (with_reducible exact ih3 _ _ _ _)
   | (with_reducible exact ih4 _ _ _ _ _)
   | (with_reducible exact warplaw24_Make.mono _ _)
   | (with_reducible exact LeO.refl _)
   | (with_reducible exact LeO.none _)
   | (with_reducible refine LeO.ite ?_ ?_)
   | (with_reducible refine LeO.bind ?_ (fun _ => ?_))
   | exact ih0 _ _ _
   | exact ih1 _ _ _ _
   | exact ih2 _ _ _ _ _
   | exact ih3 _ _ _ _
   | exact ih4 _ _ _ _ _
   | exact warplaw24_Make.mono _ _
   | exact LeO.none _
   | refine LeO.ite ?_ ?_
   | refine LeO.bind ?_ (fun _ => ?_)
  ·
   intro y0 y1 y2 y3
   unfold warplaw24_PoolWaves.j1
   repeat' first
   | (with_reducible exact ih0 _ _ _)
   | (with_reducible exact ih1 _ _ _ _)
   | (with_reducible exact ih2 _ _ _ _ _)
   | (with_reducible exact ih3 _ _ _ _)
   | (with_reducible exact ih4 _ _ _ _ _)
   | (with_reducible exact warplaw24_Make.mono _ _)
   | (with_reducible exact LeO.refl _)
   | (with_reducible exact LeO.none _)
   | (with_reducible refine LeO.ite ?_ ?_)
   | (with_reducible refine LeO.bind ?_ (fun _ => ?_))
   | exact ih0 _ _ _
   | exact ih1 _ _ _ _
   | exact ih2 _ _ _ _ _
   | exact ih3 _ _ _ _
   | exact ih4 _ _ _ _ _
   | exact warplaw24_Make.mono _ _
   | exact LeO.none _
   | refine LeO.ite ?_ ?_
   | refine LeO.bind ?_ (fun _ => ?_)
  ·
   intro y0 y1 y2 y3 y4
   unfold warplaw24_PoolWaves.l1
   repeat' first
   | (with_reducible exact ih0 _ _ _)
   | (with_reducible exact ih1 _ _ _ _)
   | (with_reducible exact ih2 _ _ _ _ _)
   | (with_reducible exact ih3 _ _ _ _)
   | (with_reducible exact ih4 _ _ _ _ _)
   | (with_reducible exact warplaw24_Make.mono _ _)
   | (with_reducible exact LeO.refl _)
   | (with_reducible exact LeO.none _)
   | (with_reducible refine LeO.ite ?_ ?_)
   | (with_reducible refine LeO.bind ?_ (fun _ => ?_))
   | exact ih0 _ _ _
   | exact ih1 _ _ _ _
   | exact ih2 _ _ _ _ _
   | exact ih3 _ _ _ _
   | exact ih4 _ _ _ _ _
   | exact warplaw24_Make.mono _ _
   | exact LeO.none _
   | refine LeO.ite ?_ ?_
   | refine LeO.bind ?_ (fun _ => ?_)
  ·
   intro y0 y1 y2 y3
   unfold warplaw24_PoolWaves.l2
   repeat' first
   | (with_reducible exact ih0 _ _ _)
   | (with_reducible exact ih1 _ _ _ _)
   | (with_reducible exact ih2 _ _ _ _ _)
   | (with_reducible exact ih3 _ _ _ _)
   | (with_reducible exact ih4 _ _ _ _ _)
   | (with_reducible exact warplaw24_Make.mono _ _)
   | (with_reducible exact LeO.refl _)
   | (with_reducible exact LeO.none _)
   | (with_reducible refine LeO.ite ?_ ?_)
   | (with_reducible refine LeO.bind ?_ (fun _ => ?_))
   | exact ih0 _ _ _
   | exact ih1 _ _ _ _
   | exact ih2 _ _ _ _ _
   | exact ih3 _ _ _ _
   | exact ih4 _ _ _ _ _
   | exact warplaw24_Make.mono _ _
   | exact LeO.none _
   | refine LeO.ite ?_ ?_
   | refine LeO.bind ?_ (fun _ => ?_)
  ·
   intro y0 y1 y2 y3 y4
   unfold warplaw24_PoolWaves.j4
   repeat' first
   | (with_reducible exact ih0 _ _ _)
   | (with_reducible exact ih1 _ _ _ _)
   | (with_reducible exact ih2 _ _ _ _ _)
   | (with_reducible exact ih3 _ _ _ _)
   | (with_reducible exact ih4 _ _ _ _ _)
   | (with_reducible exact warplaw24_Make.mono _ _)
   | (with_reducible exact LeO.refl _)
   | (with_reducible exact LeO.none _)
   | (with_reducible refine LeO.ite ?_ ?_)
   | (with_reducible refine LeO.bind ?_ (fun _ => ?_))
   | exact ih0 _ _ _
   | exact ih1 _ _ _ _
   | exact ih2 _ _ _ _ _
   | exact ih3 _ _ _ _
   | exact ih4 _ _ _ _ _
   | exact warplaw24_Make.mono _ _
   | exact LeO.none _
   | refine LeO.ite ?_ ?_
   | refine LeO.bind ?_ (fun _ => ?_)
theorem warplaw24_PoolWaves.mono : ∀ a0 a1 a2 k, LeO (warplaw24_PoolWaves.f k a0 a1 a2) (warplaw24_PoolWaves.f (k + 1) a0 a1 a2) := by
 intro a0 a1 a2 k
 obtain ⟨ih0, ih1, ih2, ih3, ih4⟩ := warplaw24_PoolWaves.mono_l k
 unfold warplaw24_PoolWaves.f
 repeat' first
  | (with_reducible exact ih0 _ _ _)
  | (with_reducible exact ih1 _ _ _ _)
  | (with_reducible exact ih2 _ _ _ _ _)
  | (with_reducible exact ih3 _ _ _ _)
  | (with_reducible exact ih4 _ _ _ _ _)
  | (with_reducible exact warplaw24_Make.mono _ _)
  | (with_reducible exact LeO.refl _)
  | (with_reducible exact LeO.none _)
  | (with_reducible refine LeO.ite ?_ ?_)
  | (with_reducible refine LeO.bind ?_ (fun _ => ?_))
  | exact ih0 _ _ _
  | exact ih1 _ _ _ _
  | exact ih2 _ _ _ _ _
  | exact ih3 _ _ _ _
  | exact ih4 _ _ _ _ _
  | exact warplaw24_Make.mono _ _
  | exact LeO.none _
  | refine LeO.ite ?_ ?_
  | refine LeO.bind ?_ (fun _ => ?_)
set_option maxHeartbeats 8000000 in
set_option maxRecDepth 100000 in
theorem warplaw24_PoolWaves.calls (k : Nat) (A0 : Option Addr) (c0 : Nat) (l0 : List Int) (a1 : Int) (A2 : Option Addr) (c2 : Nat) (l2 : List Int) (r : Bool) (w : World) (hr0 : Kd.C (Kd.int .u8) w A0 l0.length l0) (hc0 : l0.length ≤ c0) (hr2 : Kd.C (Kd.int .i64) w A2 l2.length l2) (hc2 : l2.length ≤ c2) (h : warplaw24_PoolWaves.f k l0 a1 l2 = some r) (hT_ : Tab w := by first | exact hT_ | exact Tab.drewN hT_ _ | (refine Tab.below hT_ ?_; repeat (first | (with_reducible first | exact HB.out | apply below_alloc | apply pw_below_drewN | apply below_drew1) | exact HB.out))) (hr_ : r = true := by rfl) :
 Calls Tryd.prog 9 #[.slice A0 l0.length c0, .int .u8 a1, .slice A2 l2.length c2] w fun e w' => e = .returned (.bool r) ∧ Below w.heap.size w w' := by
 have HR0 := Aside0.mk hr0
 have HC0 := Aside0.mk hc0
 clear hr0 hc0
 have HR2 := Aside0.mk hr2
 have HC2 := Aside0.mk hc2
 clear hr2 hc2
 have HB := Aside0.mk (Below.refl w.heap.size w)
 have H : (if (l2.length : Int) > 400 then ((warplaw24_awake.f).bind fun t437 => (some t437)) else ((warplaw24_Make.f k l0).bind fun t438 => ((pool_Play.f t438 (wrap64 (1 + (Int.tmod (wrap64 (a1)) 64))) l2).bind fun bt441 => (warplaw24_PoolWaves.l0 k t438 bt441.1 0)))) = some r := h
 clear h
 by_cases c4 : (l2.length : Int) > 400
 ·
  rw [if_pos c4] at H
  have c4b0 : decide (400 < (l2.length : Int)) = true := decide_eq_true c4
  have c4b1 : decide (400 < l2.length) = true := decide_eq_true (by omega)
  clear c4
  replace H := Option.bind_eq_some_iff.mp H
  obtain ⟨t437, A50, H⟩ := H
  replace H : (some t437) = some r := H
  have A5 := Aside0.mk A50
  clear A50
  obtain rfl := Option.some.inj H
  go_enter Tryd.func9, Tryd.ntmps9
  go_wp2_with (first | (go_at_call 19; (with_reducible refine (warplaw24_awake.calls  t437 _ A5.out).mono ?_); rintro e w6 ⟨rfl, hb⟩; have n0_ := Aside0.mk (below_step (by repeat (first | (with_reducible first | exact HB.out | apply below_alloc | apply pw_below_drewN | apply below_drew1) | exact HB.out)) hb); clear HB; have HB := n0_; clear n0_; (try clear hb); (try clear hb2); (try clear hk); (try clear hi)))
  repeat (go_quiet (first | (go_at_call 19; (with_reducible refine (warplaw24_awake.calls  t437 _ A5.out).mono ?_); rintro e w6 ⟨rfl, hb⟩; have n0_ := Aside0.mk (below_step (by repeat (first | (with_reducible first | exact HB.out | apply below_alloc | apply pw_below_drewN | apply below_drew1) | exact HB.out)) hb); clear HB; have HB := n0_; clear n0_; (try clear hb); (try clear hb2); (try clear hk); (try clear hi))); try go_wp2_with (first | (go_at_call 19; (with_reducible refine (warplaw24_awake.calls  t437 _ A5.out).mono ?_); rintro e w6 ⟨rfl, hb⟩; have n0_ := Aside0.mk (below_step (by repeat (first | (with_reducible first | exact HB.out | apply below_alloc | apply pw_below_drewN | apply below_drew1) | exact HB.out)) hb); clear HB; have HB := n0_; clear n0_; (try clear hb); (try clear hb2); (try clear hk); (try clear hi))))
  go_ret
  exact ⟨by first | rfl | (simp [errW_none, errW_some] <;> rfl) | (simp [*, errW_none, errW_some] <;> rfl), by repeat (first | (with_reducible first | exact HB.out | apply below_alloc | apply pw_below_drewN | apply below_drew1) | exact HB.out)⟩
 ·
  rw [if_neg c4] at H
  have c4b0 : decide (400 < (l2.length : Int)) = false := decide_eq_false c4
  have c4b1 : decide (400 < l2.length) = false := decide_eq_false (by omega)
  clear c4
  replace H := Option.bind_eq_some_iff.mp H
  obtain ⟨t438, A70, H⟩ := H
  replace H : ((pool_Play.f t438 (wrap64 (1 + (Int.tmod (wrap64 (a1)) 64))) l2).bind fun bt441 => (warplaw24_PoolWaves.l0 k t438 bt441.1 0)) = some r := H
  have A7 := Aside0.mk A70
  clear A70
  replace H := Option.bind_eq_some_iff.mp H
  obtain ⟨⟨t441, t442⟩, A80, H⟩ := H
  replace H : (warplaw24_PoolWaves.l0 k t438 t441 0) = some r := H
  have A8 := Aside0.mk A80
  clear A80
  have H' := Aside0.mk H
  clear H
  go_enter Tryd.func9, Tryd.ntmps9
  go_wp2_with (first | (go_at_call 23; (with_reducible refine (warplaw24_Make.calls k _ _ l0 t438 _ ?side1 ?side2 A7.out).mono ?_); (case side1 => repeat (first | exact HR0.out | (with_reducible refine Kd.C_alloc ?_ _) | (with_reducible refine Kd.C_drewN ?_ _) | (with_reducible refine Kd.C_drew ?_))); (case side2 => exact HC0.out); rintro e w9 ⟨v439, rfl, ho0, hb⟩; have n0_ := Aside0.mk (Kd.S_lower ho0 (below_size (by repeat (first | (with_reducible first | exact HB.out | apply below_alloc | apply pw_below_drewN | apply below_drew1) | exact HB.out)))); have n1_ := Aside0.mk (below_step (by repeat (first | (with_reducible first | exact HB.out | apply below_alloc | apply pw_below_drewN | apply below_drew1) | exact HB.out)) hb); clear HB; have HO440 := n0_; have HB := n1_; clear n0_ n1_; (try clear hb); (try clear hb2); (try clear hk); (try clear hi); (try clear ho0); obtain ⟨Ao10, co10, eo10⟩ := Kd.S_slice HO440.out; subst eo10) | (go_at_call 20; (with_reducible refine (pool_Play.calls _ _ t438 (wrap64 (1 + (Int.tmod (wrap64 (a1)) 64))) _ _ l2 t441 t442 _ ?side1 ?side2 ?side3 ?side4 A8.out).mono ?_); (case side1 => repeat (first | exact (Kd.S_reads' HO440.out).2.2 | (with_reducible refine Kd.C_alloc ?_ _) | (with_reducible refine Kd.C_drewN ?_ _) | (with_reducible refine Kd.C_drew ?_))); (case side2 => exact (Kd.S_reads' HO440.out).2.1); (case side3 => repeat (first | exact (Kd.C_below HR2.out HB.out) | (with_reducible refine Kd.C_alloc ?_ _) | (with_reducible refine Kd.C_drewN ?_ _) | (with_reducible refine Kd.C_drew ?_))); (case side4 => exact HC2.out); rintro e w11 ⟨v443, rfl, ho0, hb⟩; have n0_ := Aside0.mk (Kd.S_below (by (with_reducible repeat (first | apply Kd.S_alloc | apply Kd.S_drewN | apply Kd.S_drew)); exact HO440.out) hb); have n1_ := Aside0.mk (Kd.R_lower ho0 (below_size (by repeat (first | (with_reducible first | exact HB.out | apply below_alloc | apply pw_below_drewN | apply below_drew1) | exact HB.out)))); have n2_ := Aside0.mk (below_step (by repeat (first | (with_reducible first | exact HB.out | apply below_alloc | apply pw_below_drewN | apply below_drew1) | exact HB.out)) hb); clear HO440; clear HB; have HO440 := n0_; have HO444 := n1_; have HB := n2_; clear n0_ n1_ n2_; (try clear hb); (try clear hb2); (try clear hk); (try clear hi); (try clear ho0)))
  repeat (go_quiet (first | (go_at_call 23; (with_reducible refine (warplaw24_Make.calls k _ _ l0 t438 _ ?side1 ?side2 A7.out).mono ?_); (case side1 => repeat (first | exact HR0.out | (with_reducible refine Kd.C_alloc ?_ _) | (with_reducible refine Kd.C_drewN ?_ _) | (with_reducible refine Kd.C_drew ?_))); (case side2 => exact HC0.out); rintro e w9 ⟨v439, rfl, ho0, hb⟩; have n0_ := Aside0.mk (Kd.S_lower ho0 (below_size (by repeat (first | (with_reducible first | exact HB.out | apply below_alloc | apply pw_below_drewN | apply below_drew1) | exact HB.out)))); have n1_ := Aside0.mk (below_step (by repeat (first | (with_reducible first | exact HB.out | apply below_alloc | apply pw_below_drewN | apply below_drew1) | exact HB.out)) hb); clear HB; have HO440 := n0_; have HB := n1_; clear n0_ n1_; (try clear hb); (try clear hb2); (try clear hk); (try clear hi); (try clear ho0); obtain ⟨Ao10, co10, eo10⟩ := Kd.S_slice HO440.out; subst eo10) | (go_at_call 20; (with_reducible refine (pool_Play.calls _ _ t438 (wrap64 (1 + (Int.tmod (wrap64 (a1)) 64))) _ _ l2 t441 t442 _ ?side1 ?side2 ?side3 ?side4 A8.out).mono ?_); (case side1 => repeat (first | exact (Kd.S_reads' HO440.out).2.2 | (with_reducible refine Kd.C_alloc ?_ _) | (with_reducible refine Kd.C_drewN ?_ _) | (with_reducible refine Kd.C_drew ?_))); (case side2 => exact (Kd.S_reads' HO440.out).2.1); (case side3 => repeat (first | exact (Kd.C_below HR2.out HB.out) | (with_reducible refine Kd.C_alloc ?_ _) | (with_reducible refine Kd.C_drewN ?_ _) | (with_reducible refine Kd.C_drew ?_))); (case side4 => exact HC2.out); rintro e w11 ⟨v443, rfl, ho0, hb⟩; have n0_ := Aside0.mk (Kd.S_below (by (with_reducible repeat (first | apply Kd.S_alloc | apply Kd.S_drewN | apply Kd.S_drew)); exact HO440.out) hb); have n1_ := Aside0.mk (Kd.R_lower ho0 (below_size (by repeat (first | (with_reducible first | exact HB.out | apply below_alloc | apply pw_below_drewN | apply below_drew1) | exact HB.out)))); have n2_ := Aside0.mk (below_step (by repeat (first | (with_reducible first | exact HB.out | apply below_alloc | apply pw_below_drewN | apply below_drew1) | exact HB.out)) hb); clear HO440; clear HB; have HO440 := n0_; have HO444 := n1_; have HB := n2_; clear n0_ n1_ n2_; (try clear hb); (try clear hb2); (try clear hk); (try clear hi); (try clear ho0))); try go_wp2_with (first | (go_at_call 23; (with_reducible refine (warplaw24_Make.calls k _ _ l0 t438 _ ?side1 ?side2 A7.out).mono ?_); (case side1 => repeat (first | exact HR0.out | (with_reducible refine Kd.C_alloc ?_ _) | (with_reducible refine Kd.C_drewN ?_ _) | (with_reducible refine Kd.C_drew ?_))); (case side2 => exact HC0.out); rintro e w9 ⟨v439, rfl, ho0, hb⟩; have n0_ := Aside0.mk (Kd.S_lower ho0 (below_size (by repeat (first | (with_reducible first | exact HB.out | apply below_alloc | apply pw_below_drewN | apply below_drew1) | exact HB.out)))); have n1_ := Aside0.mk (below_step (by repeat (first | (with_reducible first | exact HB.out | apply below_alloc | apply pw_below_drewN | apply below_drew1) | exact HB.out)) hb); clear HB; have HO440 := n0_; have HB := n1_; clear n0_ n1_; (try clear hb); (try clear hb2); (try clear hk); (try clear hi); (try clear ho0); obtain ⟨Ao10, co10, eo10⟩ := Kd.S_slice HO440.out; subst eo10) | (go_at_call 20; (with_reducible refine (pool_Play.calls _ _ t438 (wrap64 (1 + (Int.tmod (wrap64 (a1)) 64))) _ _ l2 t441 t442 _ ?side1 ?side2 ?side3 ?side4 A8.out).mono ?_); (case side1 => repeat (first | exact (Kd.S_reads' HO440.out).2.2 | (with_reducible refine Kd.C_alloc ?_ _) | (with_reducible refine Kd.C_drewN ?_ _) | (with_reducible refine Kd.C_drew ?_))); (case side2 => exact (Kd.S_reads' HO440.out).2.1); (case side3 => repeat (first | exact (Kd.C_below HR2.out HB.out) | (with_reducible refine Kd.C_alloc ?_ _) | (with_reducible refine Kd.C_drewN ?_ _) | (with_reducible refine Kd.C_drew ?_))); (case side4 => exact HC2.out); rintro e w11 ⟨v443, rfl, ho0, hb⟩; have n0_ := Aside0.mk (Kd.S_below (by (with_reducible repeat (first | apply Kd.S_alloc | apply Kd.S_drewN | apply Kd.S_drew)); exact HO440.out) hb); have n1_ := Aside0.mk (Kd.R_lower ho0 (below_size (by repeat (first | (with_reducible first | exact HB.out | apply below_alloc | apply pw_below_drewN | apply below_drew1) | exact HB.out)))); have n2_ := Aside0.mk (below_step (by repeat (first | (with_reducible first | exact HB.out | apply below_alloc | apply pw_below_drewN | apply below_drew1) | exact HB.out)) hb); clear HO440; clear HB; have HO440 := n0_; have HO444 := n1_; have HB := n2_; clear n0_ n1_ n2_; (try clear hb); (try clear hb2); (try clear hk); (try clear hi); (try clear ho0))))
  go_loopg [10] k (fun kq v10 w' => ∃ (x10_1 : Int), v10 = .int .i64 x10_1 ∧ Aside0 (warplaw24_PoolWaves.l0 kq t438 t441 x10_1 = some r) ∧ Aside0 (kq ≤ k) ∧ Aside0 (Kd.S (Kd.slice 3 (Kd.int .i64)) 22 w' w.heap.size (fun _ => True) (.slice Ao10 t438.length co10) t438) ∧ Aside0 (Kd.R k54 54 w' w.heap.size (fun _ => True) v443 t441) ∧ Aside0 (Below w.heap.size w w'))
  case atStart => exact ⟨(0), (by first | rfl | (simp; done) | (simp [*]; done)), H', ⟨Nat.le_refl _⟩, ⟨by (with_reducible repeat (first | apply Kd.S_alloc | apply Kd.S_drewN | apply Kd.S_drew)); exact HO440.out⟩, ⟨by (with_reducible repeat (first | apply Kd.R_alloc | apply Kd.R_drewN | apply Kd.R_drew)); exact HO444.out⟩, ⟨by repeat (first | (with_reducible first | exact HB.out | apply below_alloc | apply pw_below_drewN | apply below_drew1) | exact HB.out)⟩⟩
  case round => as_aux_lemma =>
   clear H'
   (try clear c2); (try clear p2); (try clear c4); (try clear c4b0); (try clear c4b1); (try clear p6); (try clear c9)
   obtain ⟨x10_1, rfl, HA, HK1, HO_7, HO_8, HB⟩ := hrel
   cases gk with
   | zero => exact absurd HA.out (by simp [warplaw24_PoolWaves.l0])
   | succ k1 =>
    have H := HA.out
    clear HA
    simp only [warplaw24_PoolWaves.l0] at H
    by_cases c12 : x10_1 < (t441.length : Int)
    ·
     rw [if_pos c12] at H
     have c12b0 : decide (x10_1 < (t441.length : Int)) = true := decide_eq_true c12
     clear c12
     have HC13 := Aside0.mk H
     clear H
     obtain ⟨Ao14, co14, eo14⟩ := Kd.R_slice HO_8.out
     subst eo14
     go_upto_region 8 with (fail)
     repeat (go_quiet (fail); go_upto_region 8 with (fail))
     go_cut [72] (fun v72 wc => ∃ (kq : Nat) (x72_12 : Bool), v72 = .bool x72_12 ∧ Aside0 (warplaw24_PoolWaves.j1 kq t438 t441 x10_1 x72_12 = some r) ∧ Aside0 (kq ≤ k1) ∧ Aside0 (Kd.S (Kd.slice 3 (Kd.int .i64)) 22 wc w.heap.size (fun _ => True) (.slice Ao10 t438.length co10) t438) ∧ Aside0 (Kd.R k54 54 wc w.heap.size (fun _ => True) (.slice Ao14 t441.length co14) t441) ∧ Aside0 (Below w.heap.size w wc))
     case first =>
      have H := HC13.out
      clear HC13
      by_cases c15 : 0 ≤ x10_1
      ·
       rw [if_pos c15] at H
       have c15b0 : decide (0 ≤ x10_1) = true := decide_eq_true c15
       clear c15
       (first | rw [c15b0] | (simp only [i64_w, i32_w]; rw [c15b0]) | skip)
       by_cases c16 : ((rd_T54 t441 x10_1).f3) < 1
       ·
        rw [if_pos c16] at H
        have c16b0 : decide (((rd_T54 t441 x10_1).f3) < 1) = true := decide_eq_true c16
        clear c16
        have H' := Aside0.mk H
        clear H
        have p445 : 0 ≤ (x10_1 : Int) := of_decide_eq_true (by first | (with_reducible assumption) | assumption)
        have q445 : x10_1 < (t441.length : Int) := of_decide_eq_true (by first | (with_reducible assumption) | assumption)
        obtain ⟨ad445, e445, hx445_0, hx445_1, hx445_2, hx445_3, hx445_4, hx445_5, hx445_6, hx445_7⟩ := at_T54 (Kd.R_reads' HO_8.out).2.2 x10_1 p445 q445
        cases e445
        replace p445 := eq_true p445
        replace q445 := eq_true q445
        go_wp2
        repeat (go_quiet (fail); try go_wp2)
        go_meet
        case rel => exact ⟨_, (true), (by first | rfl | (simp; done) | (simp [*]; done)), H', ⟨by have := HK1.out; first | omega | exact Nat.le_refl _⟩, ⟨by (with_reducible repeat (first | apply Kd.S_alloc | apply Kd.S_drewN | apply Kd.S_drew)); exact HO_7.out⟩, ⟨by (with_reducible repeat (first | apply Kd.R_alloc | apply Kd.R_drewN | apply Kd.R_drew)); exact HO_8.out⟩, ⟨by repeat (first | (with_reducible first | exact HB.out | apply below_alloc | apply pw_below_drewN | apply below_drew1) | exact HB.out)⟩⟩
       ·
        rw [if_neg c16] at H
        have c16b0 : decide (((rd_T54 t441 x10_1).f3) < 1) = false := decide_eq_false c16
        clear c16
        by_cases c17 : ((rd_T54 t441 x10_1).f5) ≤ ((rd_T54 t441 x10_1).f3)
        ·
         rw [if_pos c17] at H
         have c17b0 : decide (((rd_T54 t441 x10_1).f5) ≤ ((rd_T54 t441 x10_1).f3)) = true := decide_eq_true c17
         clear c17
         have H' := Aside0.mk H
         clear H
         have p445 : 0 ≤ (x10_1 : Int) := of_decide_eq_true (by first | (with_reducible assumption) | assumption)
         have q445 : x10_1 < (t441.length : Int) := of_decide_eq_true (by first | (with_reducible assumption) | assumption)
         obtain ⟨ad445, e445, hx445_0, hx445_1, hx445_2, hx445_3, hx445_4, hx445_5, hx445_6, hx445_7⟩ := at_T54 (Kd.R_reads' HO_8.out).2.2 x10_1 p445 q445
         cases e445
         replace p445 := eq_true p445
         replace q445 := eq_true q445
         have p446 : 0 ≤ (x10_1 : Int) := of_decide_eq_true (by first | (with_reducible assumption) | assumption)
         have q446 : x10_1 < (t441.length : Int) := of_decide_eq_true (by first | (with_reducible assumption) | assumption)
         obtain ⟨ad446, e446, hx446_0, hx446_1, hx446_2, hx446_3, hx446_4, hx446_5, hx446_6, hx446_7⟩ := at_T54 (Kd.R_reads' HO_8.out).2.2 x10_1 p446 q446
         obtain rfl : ad445 = ad446 := (by injection e446)
         replace p446 := eq_true p446
         replace q446 := eq_true q446
         have p447 : 0 ≤ (x10_1 : Int) := of_decide_eq_true (by first | (with_reducible assumption) | assumption)
         have q447 : x10_1 < (t441.length : Int) := of_decide_eq_true (by first | (with_reducible assumption) | assumption)
         obtain ⟨ad447, e447, hx447_0, hx447_1, hx447_2, hx447_3, hx447_4, hx447_5, hx447_6, hx447_7⟩ := at_T54 (Kd.R_reads' HO_8.out).2.2 x10_1 p447 q447
         obtain rfl : ad445 = ad447 := (by injection e447)
         replace p447 := eq_true p447
         replace q447 := eq_true q447
         go_wp2
         repeat (go_quiet (fail); try go_wp2)
         go_meet
         case rel => exact ⟨_, (true), (by first | rfl | (simp; done) | (simp [*]; done)), H', ⟨by have := HK1.out; first | omega | exact Nat.le_refl _⟩, ⟨by (with_reducible repeat (first | apply Kd.S_alloc | apply Kd.S_drewN | apply Kd.S_drew)); exact HO_7.out⟩, ⟨by (with_reducible repeat (first | apply Kd.R_alloc | apply Kd.R_drewN | apply Kd.R_drew)); exact HO_8.out⟩, ⟨by repeat (first | (with_reducible first | exact HB.out | apply below_alloc | apply pw_below_drewN | apply below_drew1) | exact HB.out)⟩⟩
        ·
         rw [if_neg c17] at H
         have c17b0 : decide (((rd_T54 t441 x10_1).f5) ≤ ((rd_T54 t441 x10_1).f3)) = false := decide_eq_false c17
         clear c17
         by_cases c18 : ((rd_T54 t441 x10_1).f2) < 0
         ·
          rw [if_pos c18] at H
          have c18b0 : decide (((rd_T54 t441 x10_1).f2) < 0) = true := decide_eq_true c18
          clear c18
          have H' := Aside0.mk H
          clear H
          have p445 : 0 ≤ (x10_1 : Int) := of_decide_eq_true (by first | (with_reducible assumption) | assumption)
          have q445 : x10_1 < (t441.length : Int) := of_decide_eq_true (by first | (with_reducible assumption) | assumption)
          obtain ⟨ad445, e445, hx445_0, hx445_1, hx445_2, hx445_3, hx445_4, hx445_5, hx445_6, hx445_7⟩ := at_T54 (Kd.R_reads' HO_8.out).2.2 x10_1 p445 q445
          cases e445
          replace p445 := eq_true p445
          replace q445 := eq_true q445
          have p446 : 0 ≤ (x10_1 : Int) := of_decide_eq_true (by first | (with_reducible assumption) | assumption)
          have q446 : x10_1 < (t441.length : Int) := of_decide_eq_true (by first | (with_reducible assumption) | assumption)
          obtain ⟨ad446, e446, hx446_0, hx446_1, hx446_2, hx446_3, hx446_4, hx446_5, hx446_6, hx446_7⟩ := at_T54 (Kd.R_reads' HO_8.out).2.2 x10_1 p446 q446
          obtain rfl : ad445 = ad446 := (by injection e446)
          replace p446 := eq_true p446
          replace q446 := eq_true q446
          have p447 : 0 ≤ (x10_1 : Int) := of_decide_eq_true (by first | (with_reducible assumption) | assumption)
          have q447 : x10_1 < (t441.length : Int) := of_decide_eq_true (by first | (with_reducible assumption) | assumption)
          obtain ⟨ad447, e447, hx447_0, hx447_1, hx447_2, hx447_3, hx447_4, hx447_5, hx447_6, hx447_7⟩ := at_T54 (Kd.R_reads' HO_8.out).2.2 x10_1 p447 q447
          obtain rfl : ad445 = ad447 := (by injection e447)
          replace p447 := eq_true p447
          replace q447 := eq_true q447
          have p448 : 0 ≤ (x10_1 : Int) := of_decide_eq_true (by first | (with_reducible assumption) | assumption)
          have q448 : x10_1 < (t441.length : Int) := of_decide_eq_true (by first | (with_reducible assumption) | assumption)
          obtain ⟨ad448, e448, hx448_0, hx448_1, hx448_2, hx448_3, hx448_4, hx448_5, hx448_6, hx448_7⟩ := at_T54 (Kd.R_reads' HO_8.out).2.2 x10_1 p448 q448
          obtain rfl : ad445 = ad448 := (by injection e448)
          replace p448 := eq_true p448
          replace q448 := eq_true q448
          go_wp2
          repeat (go_quiet (fail); try go_wp2)
          go_meet
          case rel => exact ⟨_, (true), (by first | rfl | (simp; done) | (simp [*]; done)), H', ⟨by have := HK1.out; first | omega | exact Nat.le_refl _⟩, ⟨by (with_reducible repeat (first | apply Kd.S_alloc | apply Kd.S_drewN | apply Kd.S_drew)); exact HO_7.out⟩, ⟨by (with_reducible repeat (first | apply Kd.R_alloc | apply Kd.R_drewN | apply Kd.R_drew)); exact HO_8.out⟩, ⟨by repeat (first | (with_reducible first | exact HB.out | apply below_alloc | apply pw_below_drewN | apply below_drew1) | exact HB.out)⟩⟩
         ·
          rw [if_neg c18] at H
          have c18b0 : decide (((rd_T54 t441 x10_1).f2) < 0) = false := decide_eq_false c18
          clear c18
          have H' := Aside0.mk H
          clear H
          have p445 : 0 ≤ (x10_1 : Int) := of_decide_eq_true (by first | (with_reducible assumption) | assumption)
          have q445 : x10_1 < (t441.length : Int) := of_decide_eq_true (by first | (with_reducible assumption) | assumption)
          obtain ⟨ad445, e445, hx445_0, hx445_1, hx445_2, hx445_3, hx445_4, hx445_5, hx445_6, hx445_7⟩ := at_T54 (Kd.R_reads' HO_8.out).2.2 x10_1 p445 q445
          cases e445
          replace p445 := eq_true p445
          replace q445 := eq_true q445
          have p446 : 0 ≤ (x10_1 : Int) := of_decide_eq_true (by first | (with_reducible assumption) | assumption)
          have q446 : x10_1 < (t441.length : Int) := of_decide_eq_true (by first | (with_reducible assumption) | assumption)
          obtain ⟨ad446, e446, hx446_0, hx446_1, hx446_2, hx446_3, hx446_4, hx446_5, hx446_6, hx446_7⟩ := at_T54 (Kd.R_reads' HO_8.out).2.2 x10_1 p446 q446
          obtain rfl : ad445 = ad446 := (by injection e446)
          replace p446 := eq_true p446
          replace q446 := eq_true q446
          have p447 : 0 ≤ (x10_1 : Int) := of_decide_eq_true (by first | (with_reducible assumption) | assumption)
          have q447 : x10_1 < (t441.length : Int) := of_decide_eq_true (by first | (with_reducible assumption) | assumption)
          obtain ⟨ad447, e447, hx447_0, hx447_1, hx447_2, hx447_3, hx447_4, hx447_5, hx447_6, hx447_7⟩ := at_T54 (Kd.R_reads' HO_8.out).2.2 x10_1 p447 q447
          obtain rfl : ad445 = ad447 := (by injection e447)
          replace p447 := eq_true p447
          replace q447 := eq_true q447
          have p448 : 0 ≤ (x10_1 : Int) := of_decide_eq_true (by first | (with_reducible assumption) | assumption)
          have q448 : x10_1 < (t441.length : Int) := of_decide_eq_true (by first | (with_reducible assumption) | assumption)
          obtain ⟨ad448, e448, hx448_0, hx448_1, hx448_2, hx448_3, hx448_4, hx448_5, hx448_6, hx448_7⟩ := at_T54 (Kd.R_reads' HO_8.out).2.2 x10_1 p448 q448
          obtain rfl : ad445 = ad448 := (by injection e448)
          replace p448 := eq_true p448
          replace q448 := eq_true q448
          have p449 : 0 ≤ (x10_1 : Int) := of_decide_eq_true (by first | (with_reducible assumption) | assumption)
          have q449 : x10_1 < (t441.length : Int) := of_decide_eq_true (by first | (with_reducible assumption) | assumption)
          obtain ⟨ad449, e449, hx449_0, hx449_1, hx449_2, hx449_3, hx449_4, hx449_5, hx449_6, hx449_7⟩ := at_T54 (Kd.R_reads' HO_8.out).2.2 x10_1 p449 q449
          obtain rfl : ad445 = ad449 := (by injection e449)
          replace p449 := eq_true p449
          replace q449 := eq_true q449
          go_wp2
          repeat (go_quiet (fail); try go_wp2)
          go_meet
          case rel => exact ⟨_, (decide (((rd_T54 t441 x10_1).f2) ≥ (t438.length : Int))), (by first | rfl | (simp; done) | (simp [*]; done)), H', ⟨by have := HK1.out; first | omega | exact Nat.le_refl _⟩, ⟨by (with_reducible repeat (first | apply Kd.S_alloc | apply Kd.S_drewN | apply Kd.S_drew)); exact HO_7.out⟩, ⟨by (with_reducible repeat (first | apply Kd.R_alloc | apply Kd.R_drewN | apply Kd.R_drew)); exact HO_8.out⟩, ⟨by repeat (first | (with_reducible first | exact HB.out | apply below_alloc | apply pw_below_drewN | apply below_drew1) | exact HB.out)⟩⟩
      ·
       rw [if_neg c15] at H
       exact absurd H (by simp)
     case rest =>
      clear HC13
      (try clear c1); (try clear c2); (try clear p2); (try clear c4); (try clear c4b0); (try clear c4b1); (try clear p4); (try clear q4); (try clear hx4); (try clear p6); (try clear c9); (try clear c12); (try clear c12b0); (try clear c15); (try clear c15b0); (try clear c16); (try clear c16b0); (try clear c17); (try clear c17b0); (try clear c18); (try clear c18b0); (try clear hx445_0); (try clear hx445_1); (try clear hx445_2); (try clear hx445_3); (try clear hx445_4); (try clear hx445_5); (try clear hx445_6); (try clear hx445_7); (try clear hx446_0); (try clear hx446_1); (try clear hx446_2); (try clear hx446_3); (try clear hx446_4); (try clear hx446_5); (try clear hx446_6); (try clear hx446_7); (try clear hx447_0); (try clear hx447_1); (try clear hx447_2); (try clear hx447_3); (try clear hx447_4); (try clear hx447_5); (try clear hx447_6); (try clear hx447_7); (try clear hx448_0); (try clear hx448_1); (try clear hx448_2); (try clear hx448_3); (try clear hx448_4); (try clear hx448_5); (try clear hx448_6); (try clear hx448_7); (try clear hx449_0); (try clear hx449_1); (try clear hx449_2); (try clear hx449_3); (try clear hx449_4); (try clear hx449_5); (try clear hx449_6); (try clear hx449_7); (try clear p2); (try clear p445); (try clear p446); (try clear p447); (try clear p448); (try clear p449); (try clear p6); (try clear q445); (try clear q446); (try clear q447); (try clear q448); (try clear q449)
      obtain ⟨kq, x72_12, rfl, HA, HJ12, HO_7, HO_8, HB⟩ := hcut
      cases kq with
      | zero => exact absurd HA.out (by simp [warplaw24_PoolWaves.j1])
      | succ kj12 =>
       have H := HA.out
       clear HA
       simp only [warplaw24_PoolWaves.j1] at H
       by_cases c19 : x72_12 = true
       ·
        subst c19
        have H1 : (some false) = some r := by rw [if_pos rfl] at H; exact H
        clear H
        have H := H1
        clear H1
        exact absurd (hr_.symm.trans (Option.some.inj H).symm) (by decide)
       ·
        replace c19 := Bool.eq_false_iff.mpr c19
        subst c19
        have H1 : (warplaw24_PoolWaves.l1 kj12 t438 t441 x10_1 false 0) = some r := by rw [if_neg (show ¬ (false = true) by decide)] at H; exact H
        clear H
        have H := H1
        clear H1
        have H' := Aside0.mk H
        clear H
        go_wp2
        repeat (go_quiet (fail); try go_wp2)
        go_loopg [11, 12] kj12 (fun kq v11 v12 w' => ∃ (x11_3 : Bool) (x12_3 : Int), v11 = .bool x11_3 ∧ v12 = .int .i64 x12_3 ∧ Aside0 (warplaw24_PoolWaves.l1 kq t438 t441 x10_1 x11_3 x12_3 = some r) ∧ Aside0 (kq ≤ kj12) ∧ Aside0 (Kd.S (Kd.slice 3 (Kd.int .i64)) 22 w' w.heap.size (fun _ => True) (.slice Ao10 t438.length co10) t438) ∧ Aside0 (Kd.R k54 54 w' w.heap.size (fun _ => True) (.slice Ao14 t441.length co14) t441) ∧ Aside0 (Below w.heap.size w w'))
        case atStart => exact ⟨(false), (0), (by first | rfl | (simp; done) | (simp [*]; done)), (by first | rfl | (simp; done) | (simp [*]; done)), H', ⟨Nat.le_refl _⟩, ⟨by (with_reducible repeat (first | apply Kd.S_alloc | apply Kd.S_drewN | apply Kd.S_drew)); exact HO_7.out⟩, ⟨by (with_reducible repeat (first | apply Kd.R_alloc | apply Kd.R_drewN | apply Kd.R_drew)); exact HO_8.out⟩, ⟨by repeat (first | (with_reducible first | exact HB.out | apply below_alloc | apply pw_below_drewN | apply below_drew1) | exact HB.out)⟩⟩
        case round => as_aux_lemma =>
         clear H'
         (try clear c1); (try clear c2); (try clear p2); (try clear c4); (try clear c4b0); (try clear c4b1); (try clear p4); (try clear q4); (try clear hx4); (try clear p6); (try clear c9); (try clear c12); (try clear c12b0); (try clear c15); (try clear c15b0); (try clear c16); (try clear c16b0); (try clear c17); (try clear c17b0); (try clear c18); (try clear c18b0); (try clear c19); (try clear hx445_0); (try clear hx445_1); (try clear hx445_2); (try clear hx445_3); (try clear hx445_4); (try clear hx445_5); (try clear hx445_6); (try clear hx445_7); (try clear hx446_0); (try clear hx446_1); (try clear hx446_2); (try clear hx446_3); (try clear hx446_4); (try clear hx446_5); (try clear hx446_6); (try clear hx446_7); (try clear hx447_0); (try clear hx447_1); (try clear hx447_2); (try clear hx447_3); (try clear hx447_4); (try clear hx447_5); (try clear hx447_6); (try clear hx447_7); (try clear hx448_0); (try clear hx448_1); (try clear hx448_2); (try clear hx448_3); (try clear hx448_4); (try clear hx448_5); (try clear hx448_6); (try clear hx448_7); (try clear hx449_0); (try clear hx449_1); (try clear hx449_2); (try clear hx449_3); (try clear hx449_4); (try clear hx449_5); (try clear hx449_6); (try clear hx449_7); (try clear p2); (try clear p4); (try clear p445); (try clear p446); (try clear p447); (try clear p448); (try clear p449); (try clear p6); (try clear q4); (try clear q445); (try clear q446); (try clear q447); (try clear q448); (try clear q449)
         obtain ⟨x11_3, x12_3, rfl, rfl, HA, HK3, HO_7, HO_8, HB⟩ := hrel
         cases gk with
         | zero => exact absurd HA.out (by simp [warplaw24_PoolWaves.l1])
         | succ k3 =>
          have H := HA.out
          clear HA
          simp only [warplaw24_PoolWaves.l1] at H
          by_cases c20 : 0 ≤ x10_1
          ·
           rw [if_pos c20] at H
           have c20b0 : decide (0 ≤ x10_1) = true := decide_eq_true c20
           clear c20
           by_cases c21 : x10_1 < (t441.length : Int)
           ·
            rw [if_pos c21] at H
            have c21b0 : decide (x10_1 < (t441.length : Int)) = true := decide_eq_true c21
            clear c21
            by_cases c22 : 0 ≤ ((rd_T54 t441 x10_1).f2)
            ·
             rw [if_pos c22] at H
             have c22b0 : decide (0 ≤ ((rd_T54 t441 x10_1).f2)) = true := decide_eq_true c22
             clear c22
             by_cases c23 : ((rd_T54 t441 x10_1).f2) < (t438.length : Int)
             ·
              rw [if_pos c23] at H
              have c23b0 : decide (((rd_T54 t441 x10_1).f2) < (t438.length : Int)) = true := decide_eq_true c23
              clear c23
              by_cases c24 : x12_3 < ((rd_L4 t438 ((rd_T54 t441 x10_1).f2)).length : Int)
              ·
               rw [if_pos c24] at H
               have c24b0 : decide (x12_3 < ((rd_L4 t438 ((rd_T54 t441 x10_1).f2)).length : Int)) = true := decide_eq_true c24
               clear c24
               by_cases c25 : x11_3 = true
               ·
                subst c25
                have H1 : (warplaw24_PoolWaves.l1 k3 t438 t441 x10_1 true (wrap64 (x12_3 + 1))) = some r := by rw [if_pos rfl] at H; exact H
                clear H
                have H := H1
                clear H1
                have H' := Aside0.mk H
                clear H
                have p450 : 0 ≤ (x10_1 : Int) := of_decide_eq_true (by first | (with_reducible assumption) | assumption)
                have q450 : x10_1 < (t441.length : Int) := of_decide_eq_true (by first | (with_reducible assumption) | assumption)
                obtain ⟨ad450, e450, hx450_0, hx450_1, hx450_2, hx450_3, hx450_4, hx450_5, hx450_6, hx450_7⟩ := at_T54 (Kd.R_reads' HO_8.out).2.2 x10_1 p450 q450
                cases e450
                replace p450 := eq_true p450
                replace q450 := eq_true q450
                have p451 : 0 ≤ (((rd_T54 t441 x10_1).f2) : Int) := of_decide_eq_true (by first | (with_reducible assumption) | assumption)
                have q451 : ((rd_T54 t441 x10_1).f2) < (t438.length : Int) := of_decide_eq_true (by first | (with_reducible assumption) | assumption)
                obtain ⟨ad451, A451_0, c451_0, e451, hx451_0, hl451_0, hi451_0⟩ := at_L4 (Kd.S_reads' HO_7.out).2.2 ((rd_T54 t441 x10_1).f2) p451 q451
                cases e451
                obtain ⟨ce451, hce451, hMe451, hcc451⟩ := Kd.S_get HO_7.out [] ((rd_T54 t441 x10_1).f2) p451 (by first | exact q451 | exact of_decide_eq_true (by first | (with_reducible assumption) | assumption) | (have e_ := (Kd.S_reads' HO_7.out).1; omega))
                obtain ⟨ve451_0, rfl, ge451_0⟩ := hMe451
                have hv451_0 := hcc451 0 _ rfl
                rw [Nat.add_zero, show ((Kd.slice 3 (Kd.int .i64))).sz = 1 from rfl, Nat.mul_one] at hv451_0
                replace hv451_0 := Option.some.inj (hv451_0.symm.trans hx451_0)
                rw [hv451_0] at ge451_0
                have HL451_0 := Aside0.mk (show Kd.R (Kd.int .i64) 3 _ _ _ _ (rd_L4 t438 ((rd_T54 t441 x10_1).f2)) from ge451_0)
                clear hv451_0 ge451_0
                clear hcc451 hce451
                have HR451_0 := Aside0.mk hi451_0
                have HC451_0 := Aside0.mk hl451_0
                clear hi451_0 hl451_0
                replace p451 := eq_true p451
                replace q451 := eq_true q451
                go_wp2
                repeat (go_quiet (fail); try go_wp2)
                go_roundg k3
                case measure => have := HK1.out; have := HJ12.out; have := HK3.out; omega
                case rel => exact ⟨(true), (wrap64 (x12_3 + 1)), (by first | rfl | (simp; done) | (simp [*]; done)), (by first | rfl | (simp; done) | (simp [*]; done)), H', ⟨by have := HK1.out; have := HJ12.out; have := HK3.out; omega⟩, ⟨by (with_reducible repeat (first | apply Kd.S_alloc | apply Kd.S_drewN | apply Kd.S_drew)); exact HO_7.out⟩, ⟨by (with_reducible repeat (first | apply Kd.R_alloc | apply Kd.R_drewN | apply Kd.R_drew)); exact HO_8.out⟩, ⟨by repeat (first | (with_reducible first | exact HB.out | apply below_alloc | apply pw_below_drewN | apply below_drew1) | exact HB.out)⟩⟩
               ·
                replace c25 := Bool.eq_false_iff.mpr c25
                subst c25
                have H1 : (if 0 ≤ x12_3 then (warplaw24_PoolWaves.l1 k3 t438 t441 x10_1 ((rd (rd_L4 t438 ((rd_T54 t441 x10_1).f2)) x12_3) == ((rd_T54 t441 x10_1).f1.f1)) (wrap64 (x12_3 + 1))) else (none)) = some r := by rw [if_neg (show ¬ (false = true) by decide)] at H; exact H
                clear H
                have H := H1
                clear H1
                by_cases c26 : 0 ≤ x12_3
                ·
                 rw [if_pos c26] at H
                 have c26b0 : decide (0 ≤ x12_3) = true := decide_eq_true c26
                 clear c26
                 have H' := Aside0.mk H
                 clear H
                 have p450 : 0 ≤ (x10_1 : Int) := of_decide_eq_true (by first | (with_reducible assumption) | assumption)
                 have q450 : x10_1 < (t441.length : Int) := of_decide_eq_true (by first | (with_reducible assumption) | assumption)
                 obtain ⟨ad450, e450, hx450_0, hx450_1, hx450_2, hx450_3, hx450_4, hx450_5, hx450_6, hx450_7⟩ := at_T54 (Kd.R_reads' HO_8.out).2.2 x10_1 p450 q450
                 cases e450
                 replace p450 := eq_true p450
                 replace q450 := eq_true q450
                 have p451 : 0 ≤ (((rd_T54 t441 x10_1).f2) : Int) := of_decide_eq_true (by first | (with_reducible assumption) | assumption)
                 have q451 : ((rd_T54 t441 x10_1).f2) < (t438.length : Int) := of_decide_eq_true (by first | (with_reducible assumption) | assumption)
                 obtain ⟨ad451, A451_0, c451_0, e451, hx451_0, hl451_0, hi451_0⟩ := at_L4 (Kd.S_reads' HO_7.out).2.2 ((rd_T54 t441 x10_1).f2) p451 q451
                 cases e451
                 obtain ⟨ce451, hce451, hMe451, hcc451⟩ := Kd.S_get HO_7.out [] ((rd_T54 t441 x10_1).f2) p451 (by first | exact q451 | exact of_decide_eq_true (by first | (with_reducible assumption) | assumption) | (have e_ := (Kd.S_reads' HO_7.out).1; omega))
                 obtain ⟨ve451_0, rfl, ge451_0⟩ := hMe451
                 have hv451_0 := hcc451 0 _ rfl
                 rw [Nat.add_zero, show ((Kd.slice 3 (Kd.int .i64))).sz = 1 from rfl, Nat.mul_one] at hv451_0
                 replace hv451_0 := Option.some.inj (hv451_0.symm.trans hx451_0)
                 rw [hv451_0] at ge451_0
                 have HL451_0 := Aside0.mk (show Kd.R (Kd.int .i64) 3 _ _ _ _ (rd_L4 t438 ((rd_T54 t441 x10_1).f2)) from ge451_0)
                 clear hv451_0 ge451_0
                 clear hcc451 hce451
                 have HR451_0 := Aside0.mk hi451_0
                 have HC451_0 := Aside0.mk hl451_0
                 clear hi451_0 hl451_0
                 replace p451 := eq_true p451
                 replace q451 := eq_true q451
                 have p452 : 0 ≤ (x10_1 : Int) := of_decide_eq_true (by first | (with_reducible assumption) | assumption)
                 have q452 : x10_1 < (t441.length : Int) := of_decide_eq_true (by first | (with_reducible assumption) | assumption)
                 obtain ⟨ad452, e452, hx452_0, hx452_1, hx452_2, hx452_3, hx452_4, hx452_5, hx452_6, hx452_7⟩ := at_T54 (Kd.R_reads' HO_8.out).2.2 x10_1 p452 q452
                 obtain rfl : ad450 = ad452 := (by injection e452)
                 replace p452 := eq_true p452
                 replace q452 := eq_true q452
                 have p453 : 0 ≤ (((rd_T54 t441 x10_1).f2) : Int) := of_decide_eq_true (by first | (with_reducible assumption) | assumption)
                 have q453 : ((rd_T54 t441 x10_1).f2) < (t438.length : Int) := of_decide_eq_true (by first | (with_reducible assumption) | assumption)
                 obtain ⟨ad453, A453_0, c453_0, e453, hx453_0, hl453_0, hi453_0⟩ := at_L4 (Kd.S_reads' HO_7.out).2.2 ((rd_T54 t441 x10_1).f2) p453 q453
                 obtain rfl : ad451 = ad453 := (by injection e453)
                 obtain ⟨ce453, hce453, hMe453, hcc453⟩ := Kd.S_get HO_7.out [] ((rd_T54 t441 x10_1).f2) p453 (by first | exact q453 | exact of_decide_eq_true (by first | (with_reducible assumption) | assumption) | (have e_ := (Kd.S_reads' HO_7.out).1; omega))
                 obtain ⟨ve453_0, rfl, ge453_0⟩ := hMe453
                 have hv453_0 := hcc453 0 _ rfl
                 rw [Nat.add_zero, show ((Kd.slice 3 (Kd.int .i64))).sz = 1 from rfl, Nat.mul_one] at hv453_0
                 replace hv453_0 := Option.some.inj (hv453_0.symm.trans hx453_0)
                 rw [hv453_0] at ge453_0
                 have HL453_0 := Aside0.mk (show Kd.R (Kd.int .i64) 3 _ _ _ _ (rd_L4 t438 ((rd_T54 t441 x10_1).f2)) from ge453_0)
                 clear hv453_0 ge453_0
                 clear hcc453 hce453
                 have HR453_0 := Aside0.mk hi453_0
                 have HC453_0 := Aside0.mk hl453_0
                 clear hi453_0 hl453_0
                 replace p453 := eq_true p453
                 replace q453 := eq_true q453
                 have ea_ := Option.some.inj (hx451_0.symm.trans hx453_0)
                 injection ea_ with ea_ en_ ec_
                 subst ea_
                 subst ec_
                 clear en_
                 have p454 : 0 ≤ (x12_3 : Int) := of_decide_eq_true (by first | (with_reducible assumption) | assumption)
                 have q454 : x12_3 < ((rd_L4 t438 ((rd_T54 t441 x10_1).f2)).length : Int) := of_decide_eq_true (by first | (with_reducible assumption) | assumption)
                 obtain ⟨ad454, e454, hx454_0⟩ := Kd.at_int (by repeat (first | (with_reducible exact HR453_0.out) | (with_reducible refine Kd.C_alloc ?_ _) | (with_reducible refine Kd.C_drewN ?_ _) | (with_reducible refine Kd.C_drew ?_) | exact HR453_0.out)) x12_3 p454 q454
                 cases e454
                 replace p454 := eq_true p454
                 replace q454 := eq_true q454
                 have p455 : 0 ≤ (x10_1 : Int) := of_decide_eq_true (by first | (with_reducible assumption) | assumption)
                 have q455 : x10_1 < (t441.length : Int) := of_decide_eq_true (by first | (with_reducible assumption) | assumption)
                 obtain ⟨ad455, e455, hx455_0, hx455_1, hx455_2, hx455_3, hx455_4, hx455_5, hx455_6, hx455_7⟩ := at_T54 (Kd.R_reads' HO_8.out).2.2 x10_1 p455 q455
                 obtain rfl : ad450 = ad455 := (by injection e455)
                 replace p455 := eq_true p455
                 replace q455 := eq_true q455
                 go_wp2
                 repeat (go_quiet (fail); try go_wp2)
                 go_roundg k3
                 case measure => have := HK1.out; have := HJ12.out; have := HK3.out; omega
                 case rel => exact ⟨(((rd (rd_L4 t438 ((rd_T54 t441 x10_1).f2)) x12_3) == ((rd_T54 t441 x10_1).f1.f1))), (wrap64 (x12_3 + 1)), (by first | rfl | (simp; done) | (simp [*]; done)), (by first | rfl | (simp; done) | (simp [*]; done)), H', ⟨by have := HK1.out; have := HJ12.out; have := HK3.out; omega⟩, ⟨by (with_reducible repeat (first | apply Kd.S_alloc | apply Kd.S_drewN | apply Kd.S_drew)); exact HO_7.out⟩, ⟨by (with_reducible repeat (first | apply Kd.R_alloc | apply Kd.R_drewN | apply Kd.R_drew)); exact HO_8.out⟩, ⟨by repeat (first | (with_reducible first | exact HB.out | apply below_alloc | apply pw_below_drewN | apply below_drew1) | exact HB.out)⟩⟩
                ·
                 rw [if_neg c26] at H
                 exact absurd H (by simp)
              ·
               rw [if_neg c24] at H
               have c24b0 : decide (x12_3 < ((rd_L4 t438 ((rd_T54 t441 x10_1).f2)).length : Int)) = false := decide_eq_false c24
               clear c24
               by_cases c27 : x11_3 = true
               ·
                subst c27
                have H1 : (warplaw24_PoolWaves.l2 k3 t438 t441 x10_1 0) = some r := by rw [if_pos rfl] at H; exact H
                clear H
                have H := H1
                clear H1
                have H' := Aside0.mk H
                clear H
                have p450 : 0 ≤ (x10_1 : Int) := of_decide_eq_true (by first | (with_reducible assumption) | assumption)
                have q450 : x10_1 < (t441.length : Int) := of_decide_eq_true (by first | (with_reducible assumption) | assumption)
                obtain ⟨ad450, e450, hx450_0, hx450_1, hx450_2, hx450_3, hx450_4, hx450_5, hx450_6, hx450_7⟩ := at_T54 (Kd.R_reads' HO_8.out).2.2 x10_1 p450 q450
                cases e450
                replace p450 := eq_true p450
                replace q450 := eq_true q450
                have p451 : 0 ≤ (((rd_T54 t441 x10_1).f2) : Int) := of_decide_eq_true (by first | (with_reducible assumption) | assumption)
                have q451 : ((rd_T54 t441 x10_1).f2) < (t438.length : Int) := of_decide_eq_true (by first | (with_reducible assumption) | assumption)
                obtain ⟨ad451, A451_0, c451_0, e451, hx451_0, hl451_0, hi451_0⟩ := at_L4 (Kd.S_reads' HO_7.out).2.2 ((rd_T54 t441 x10_1).f2) p451 q451
                cases e451
                obtain ⟨ce451, hce451, hMe451, hcc451⟩ := Kd.S_get HO_7.out [] ((rd_T54 t441 x10_1).f2) p451 (by first | exact q451 | exact of_decide_eq_true (by first | (with_reducible assumption) | assumption) | (have e_ := (Kd.S_reads' HO_7.out).1; omega))
                obtain ⟨ve451_0, rfl, ge451_0⟩ := hMe451
                have hv451_0 := hcc451 0 _ rfl
                rw [Nat.add_zero, show ((Kd.slice 3 (Kd.int .i64))).sz = 1 from rfl, Nat.mul_one] at hv451_0
                replace hv451_0 := Option.some.inj (hv451_0.symm.trans hx451_0)
                rw [hv451_0] at ge451_0
                have HL451_0 := Aside0.mk (show Kd.R (Kd.int .i64) 3 _ _ _ _ (rd_L4 t438 ((rd_T54 t441 x10_1).f2)) from ge451_0)
                clear hv451_0 ge451_0
                clear hcc451 hce451
                have HR451_0 := Aside0.mk hi451_0
                have HC451_0 := Aside0.mk hl451_0
                clear hi451_0 hl451_0
                replace p451 := eq_true p451
                replace q451 := eq_true q451
                go_wp2
                repeat (go_quiet (fail); try go_wp2)
                go_loopg [13] k3 (fun kq v13 w' => ∃ (x13_4 : Int), v13 = .int .i64 x13_4 ∧ Aside0 (warplaw24_PoolWaves.l2 kq t438 t441 x10_1 x13_4 = some r) ∧ Aside0 (kq ≤ k3) ∧ Aside0 (Kd.S (Kd.slice 3 (Kd.int .i64)) 22 w' w.heap.size (fun _ => True) (.slice (some ad451) t438.length co10) t438) ∧ Aside0 (Kd.R k54 54 w' w.heap.size (fun _ => True) (.slice (some ad450) t441.length co14) t441) ∧ Aside0 (Kd.C (Kd.int .i64) w' A451_0 (rd_L4 t438 ((rd_T54 t441 x10_1).f2)).length (rd_L4 t438 ((rd_T54 t441 x10_1).f2))) ∧ Aside0 (Below w.heap.size w w'))
                case atStart => exact ⟨(0), (by first | rfl | (simp; done) | (simp [*]; done)), H', ⟨Nat.le_refl _⟩, ⟨by (with_reducible repeat (first | apply Kd.S_alloc | apply Kd.S_drewN | apply Kd.S_drew)); exact HO_7.out⟩, ⟨by (with_reducible repeat (first | apply Kd.R_alloc | apply Kd.R_drewN | apply Kd.R_drew)); exact HO_8.out⟩, ⟨by repeat (first | (with_reducible exact HR451_0.out) | (with_reducible refine Kd.C_alloc ?_ _) | (with_reducible refine Kd.C_drewN ?_ _) | (with_reducible refine Kd.C_drew ?_) | exact HR451_0.out)⟩, ⟨by repeat (first | (with_reducible first | exact HB.out | apply below_alloc | apply pw_below_drewN | apply below_drew1) | exact HB.out)⟩⟩
                case round => as_aux_lemma =>
                 clear H'
                 (try clear c1); (try clear c2); (try clear p2); (try clear c4); (try clear c4b0); (try clear c4b1); (try clear p4); (try clear q4); (try clear hx4); (try clear p6); (try clear c9); (try clear c12); (try clear c12b0); (try clear c15); (try clear c15b0); (try clear c16); (try clear c16b0); (try clear c17); (try clear c17b0); (try clear c18); (try clear c18b0); (try clear c19); (try clear c20); (try clear c20b0); (try clear c21); (try clear c21b0); (try clear c22); (try clear c22b0); (try clear c23); (try clear c23b0); (try clear c24); (try clear c24b0); (try clear c25); (try clear c26); (try clear c26b0); (try clear c27); (try clear hx445_0); (try clear hx445_1); (try clear hx445_2); (try clear hx445_3); (try clear hx445_4); (try clear hx445_5); (try clear hx445_6); (try clear hx445_7); (try clear hx446_0); (try clear hx446_1); (try clear hx446_2); (try clear hx446_3); (try clear hx446_4); (try clear hx446_5); (try clear hx446_6); (try clear hx446_7); (try clear hx447_0); (try clear hx447_1); (try clear hx447_2); (try clear hx447_3); (try clear hx447_4); (try clear hx447_5); (try clear hx447_6); (try clear hx447_7); (try clear hx448_0); (try clear hx448_1); (try clear hx448_2); (try clear hx448_3); (try clear hx448_4); (try clear hx448_5); (try clear hx448_6); (try clear hx448_7); (try clear hx449_0); (try clear hx449_1); (try clear hx449_2); (try clear hx449_3); (try clear hx449_4); (try clear hx449_5); (try clear hx449_6); (try clear hx449_7); (try clear hx450_0); (try clear hx450_1); (try clear hx450_2); (try clear hx450_3); (try clear hx450_4); (try clear hx450_5); (try clear hx450_6); (try clear hx450_7); (try clear hx451_0); (try clear hx452_0); (try clear hx452_1); (try clear hx452_2); (try clear hx452_3); (try clear hx452_4); (try clear hx452_5); (try clear hx452_6); (try clear hx452_7); (try clear hx453_0); (try clear hx454_0); (try clear hx455_0); (try clear hx455_1); (try clear hx455_2); (try clear hx455_3); (try clear hx455_4); (try clear hx455_5); (try clear hx455_6); (try clear hx455_7); (try clear p2); (try clear p4); (try clear p445); (try clear p446); (try clear p447); (try clear p448); (try clear p449); (try clear p450); (try clear p451); (try clear p452); (try clear p453); (try clear p454); (try clear p455); (try clear p6); (try clear q4); (try clear q445); (try clear q446); (try clear q447); (try clear q448); (try clear q449); (try clear q450); (try clear q451); (try clear q452); (try clear q453); (try clear q454); (try clear q455)
                 obtain ⟨x13_4, rfl, HA, HK4, HO_7, HO_8, HR451_0, HB⟩ := hrel
                 cases gk with
                 | zero => exact absurd HA.out (by simp [warplaw24_PoolWaves.l2])
                 | succ k4 =>
                  have H := HA.out
                  clear HA
                  simp only [warplaw24_PoolWaves.l2] at H
                  by_cases c28 : x13_4 < (t441.length : Int)
                  ·
                   rw [if_pos c28] at H
                   have c28b0 : decide (x13_4 < (t441.length : Int)) = true := decide_eq_true c28
                   clear c28
                   have HC29 := Aside0.mk H
                   clear H
                   go_upto_region 20 with (fail)
                   repeat (go_quiet (fail); go_upto_region 20 with (fail))
                   go_cut [182] (fun v182 wc => ∃ (kq : Nat) (x182_28 : Bool), v182 = .bool x182_28 ∧ Aside0 (warplaw24_PoolWaves.j4 kq t438 t441 x10_1 x13_4 x182_28 = some r) ∧ Aside0 (kq ≤ k4) ∧ Aside0 (Kd.S (Kd.slice 3 (Kd.int .i64)) 22 wc w.heap.size (fun _ => True) (.slice (some ad451) t438.length co10) t438) ∧ Aside0 (Kd.R k54 54 wc w.heap.size (fun _ => True) (.slice (some ad450) t441.length co14) t441) ∧ Aside0 (Kd.C (Kd.int .i64) wc A451_0 (rd_L4 t438 ((rd_T54 t441 x10_1).f2)).length (rd_L4 t438 ((rd_T54 t441 x10_1).f2))) ∧ Aside0 (Below w.heap.size w wc))
                   case first =>
                    have H := HC29.out
                    clear HC29
                    by_cases c30 : 0 ≤ x13_4
                    ·
                     rw [if_pos c30] at H
                     have c30b0 : decide (0 ≤ x13_4) = true := decide_eq_true c30
                     clear c30
                     (first | rw [c30b0] | (simp only [i64_w, i32_w]; rw [c30b0]) | skip)
                     by_cases c31 : 0 ≤ x10_1
                     ·
                      rw [if_pos c31] at H
                      have c31b0 : decide (0 ≤ x10_1) = true := decide_eq_true c31
                      clear c31
                      by_cases c32 : x10_1 < (t441.length : Int)
                      ·
                       rw [if_pos c32] at H
                       have c32b0 : decide (x10_1 < (t441.length : Int)) = true := decide_eq_true c32
                       clear c32
                       by_cases c33 : ((rd_T54 t441 x13_4).f2) < ((rd_T54 t441 x10_1).f2)
                       ·
                        rw [if_pos c33] at H
                        have c33b0 : decide (((rd_T54 t441 x13_4).f2) < ((rd_T54 t441 x10_1).f2)) = true := decide_eq_true c33
                        clear c33
                        by_cases c34 : ((rd_T54 t441 x13_4).f5) ≥ ((rd_T54 t441 x10_1).f3)
                        ·
                         rw [if_pos c34] at H
                         have c34b0 : decide (((rd_T54 t441 x10_1).f3) ≤ ((rd_T54 t441 x13_4).f5)) = true := decide_eq_true c34
                         clear c34
                         have H' := Aside0.mk H
                         clear H
                         have p456 : 0 ≤ (x13_4 : Int) := of_decide_eq_true (by first | (with_reducible assumption) | assumption)
                         have q456 : x13_4 < (t441.length : Int) := of_decide_eq_true (by first | (with_reducible assumption) | assumption)
                         obtain ⟨ad456, e456, hx456_0, hx456_1, hx456_2, hx456_3, hx456_4, hx456_5, hx456_6, hx456_7⟩ := at_T54 (Kd.R_reads' HO_8.out).2.2 x13_4 p456 q456
                         obtain rfl : ad450 = ad456 := (by injection e456)
                         replace p456 := eq_true p456
                         replace q456 := eq_true q456
                         have p457 : 0 ≤ (x10_1 : Int) := of_decide_eq_true (by first | (with_reducible assumption) | assumption)
                         have q457 : x10_1 < (t441.length : Int) := of_decide_eq_true (by first | (with_reducible assumption) | assumption)
                         obtain ⟨ad457, e457, hx457_0, hx457_1, hx457_2, hx457_3, hx457_4, hx457_5, hx457_6, hx457_7⟩ := at_T54 (Kd.R_reads' HO_8.out).2.2 x10_1 p457 q457
                         obtain rfl : ad450 = ad457 := (by injection e457)
                         replace p457 := eq_true p457
                         replace q457 := eq_true q457
                         have p458 : 0 ≤ (x13_4 : Int) := of_decide_eq_true (by first | (with_reducible assumption) | assumption)
                         have q458 : x13_4 < (t441.length : Int) := of_decide_eq_true (by first | (with_reducible assumption) | assumption)
                         obtain ⟨ad458, e458, hx458_0, hx458_1, hx458_2, hx458_3, hx458_4, hx458_5, hx458_6, hx458_7⟩ := at_T54 (Kd.R_reads' HO_8.out).2.2 x13_4 p458 q458
                         obtain rfl : ad450 = ad458 := (by injection e458)
                         replace p458 := eq_true p458
                         replace q458 := eq_true q458
                         have p459 : 0 ≤ (x10_1 : Int) := of_decide_eq_true (by first | (with_reducible assumption) | assumption)
                         have q459 : x10_1 < (t441.length : Int) := of_decide_eq_true (by first | (with_reducible assumption) | assumption)
                         obtain ⟨ad459, e459, hx459_0, hx459_1, hx459_2, hx459_3, hx459_4, hx459_5, hx459_6, hx459_7⟩ := at_T54 (Kd.R_reads' HO_8.out).2.2 x10_1 p459 q459
                         obtain rfl : ad450 = ad459 := (by injection e459)
                         replace p459 := eq_true p459
                         replace q459 := eq_true q459
                         go_wp2
                         repeat (go_quiet (fail); try go_wp2)
                         go_meet
                         case rel => exact ⟨_, (true), (by first | rfl | (simp; done) | (simp [*]; done)), H', ⟨by have := HK1.out; have := HJ12.out; have := HK3.out; have := HK4.out; first | omega | exact Nat.le_refl _⟩, ⟨by (with_reducible repeat (first | apply Kd.S_alloc | apply Kd.S_drewN | apply Kd.S_drew)); exact HO_7.out⟩, ⟨by (with_reducible repeat (first | apply Kd.R_alloc | apply Kd.R_drewN | apply Kd.R_drew)); exact HO_8.out⟩, ⟨by repeat (first | (with_reducible exact HR451_0.out) | (with_reducible refine Kd.C_alloc ?_ _) | (with_reducible refine Kd.C_drewN ?_ _) | (with_reducible refine Kd.C_drew ?_) | exact HR451_0.out)⟩, ⟨by repeat (first | (with_reducible first | exact HB.out | apply below_alloc | apply pw_below_drewN | apply below_drew1) | exact HB.out)⟩⟩
                        ·
                         rw [if_neg c34] at H
                         have c34b0 : decide (((rd_T54 t441 x10_1).f3) ≤ ((rd_T54 t441 x13_4).f5)) = false := decide_eq_false c34
                         clear c34
                         by_cases c35 : x13_4 = x10_1
                         ·
                          rw [if_pos c35] at H
                          have c35b0 : (x13_4 == x10_1) = true := beq_iff_eq.mpr c35
                          have c35b1 : (x13_4 != x10_1) = false := bne_eq_false_iff_eq.mpr c35
                          clear c35
                          have H' := Aside0.mk H
                          clear H
                          have p456 : 0 ≤ (x13_4 : Int) := of_decide_eq_true (by first | (with_reducible assumption) | assumption)
                          have q456 : x13_4 < (t441.length : Int) := of_decide_eq_true (by first | (with_reducible assumption) | assumption)
                          obtain ⟨ad456, e456, hx456_0, hx456_1, hx456_2, hx456_3, hx456_4, hx456_5, hx456_6, hx456_7⟩ := at_T54 (Kd.R_reads' HO_8.out).2.2 x13_4 p456 q456
                          obtain rfl : ad450 = ad456 := (by injection e456)
                          replace p456 := eq_true p456
                          replace q456 := eq_true q456
                          have p457 : 0 ≤ (x10_1 : Int) := of_decide_eq_true (by first | (with_reducible assumption) | assumption)
                          have q457 : x10_1 < (t441.length : Int) := of_decide_eq_true (by first | (with_reducible assumption) | assumption)
                          obtain ⟨ad457, e457, hx457_0, hx457_1, hx457_2, hx457_3, hx457_4, hx457_5, hx457_6, hx457_7⟩ := at_T54 (Kd.R_reads' HO_8.out).2.2 x10_1 p457 q457
                          obtain rfl : ad450 = ad457 := (by injection e457)
                          replace p457 := eq_true p457
                          replace q457 := eq_true q457
                          have p458 : 0 ≤ (x13_4 : Int) := of_decide_eq_true (by first | (with_reducible assumption) | assumption)
                          have q458 : x13_4 < (t441.length : Int) := of_decide_eq_true (by first | (with_reducible assumption) | assumption)
                          obtain ⟨ad458, e458, hx458_0, hx458_1, hx458_2, hx458_3, hx458_4, hx458_5, hx458_6, hx458_7⟩ := at_T54 (Kd.R_reads' HO_8.out).2.2 x13_4 p458 q458
                          obtain rfl : ad450 = ad458 := (by injection e458)
                          replace p458 := eq_true p458
                          replace q458 := eq_true q458
                          have p459 : 0 ≤ (x10_1 : Int) := of_decide_eq_true (by first | (with_reducible assumption) | assumption)
                          have q459 : x10_1 < (t441.length : Int) := of_decide_eq_true (by first | (with_reducible assumption) | assumption)
                          obtain ⟨ad459, e459, hx459_0, hx459_1, hx459_2, hx459_3, hx459_4, hx459_5, hx459_6, hx459_7⟩ := at_T54 (Kd.R_reads' HO_8.out).2.2 x10_1 p459 q459
                          obtain rfl : ad450 = ad459 := (by injection e459)
                          replace p459 := eq_true p459
                          replace q459 := eq_true q459
                          go_wp2
                          repeat (go_quiet (fail); try go_wp2)
                          go_meet
                          case rel => exact ⟨_, (false), (by first | rfl | (simp; done) | (simp [*]; done)), H', ⟨by have := HK1.out; have := HJ12.out; have := HK3.out; have := HK4.out; first | omega | exact Nat.le_refl _⟩, ⟨by (with_reducible repeat (first | apply Kd.S_alloc | apply Kd.S_drewN | apply Kd.S_drew)); exact HO_7.out⟩, ⟨by (with_reducible repeat (first | apply Kd.R_alloc | apply Kd.R_drewN | apply Kd.R_drew)); exact HO_8.out⟩, ⟨by repeat (first | (with_reducible exact HR451_0.out) | (with_reducible refine Kd.C_alloc ?_ _) | (with_reducible refine Kd.C_drewN ?_ _) | (with_reducible refine Kd.C_drew ?_) | exact HR451_0.out)⟩, ⟨by repeat (first | (with_reducible first | exact HB.out | apply below_alloc | apply pw_below_drewN | apply below_drew1) | exact HB.out)⟩⟩
                         ·
                          rw [if_neg c35] at H
                          have c35b0 : (x13_4 == x10_1) = false := beq_eq_false_iff_ne.mpr c35
                          have c35b1 : (x13_4 != x10_1) = true := bne_iff_ne.mpr c35
                          by_cases c36 : ((rd_T54 t441 x13_4).f0) = ((rd_T54 t441 x10_1).f0)
                          ·
                           rw [if_pos c36] at H
                           have c36b0 : (((rd_T54 t441 x13_4).f0) == ((rd_T54 t441 x10_1).f0)) = true := beq_iff_eq.mpr c36
                           have c36b1 : (((rd_T54 t441 x13_4).f0) != ((rd_T54 t441 x10_1).f0)) = false := bne_eq_false_iff_eq.mpr c36
                           clear c36
                           by_cases c37 : ((rd_T54 t441 x13_4).f3) ≤ ((rd_T54 t441 x10_1).f5)
                           ·
                            rw [if_pos c37] at H
                            have c37b0 : decide (((rd_T54 t441 x13_4).f3) ≤ ((rd_T54 t441 x10_1).f5)) = true := decide_eq_true c37
                            clear c37
                            have H' := Aside0.mk H
                            clear H
                            have p456 : 0 ≤ (x13_4 : Int) := of_decide_eq_true (by first | (with_reducible assumption) | assumption)
                            have q456 : x13_4 < (t441.length : Int) := of_decide_eq_true (by first | (with_reducible assumption) | assumption)
                            obtain ⟨ad456, e456, hx456_0, hx456_1, hx456_2, hx456_3, hx456_4, hx456_5, hx456_6, hx456_7⟩ := at_T54 (Kd.R_reads' HO_8.out).2.2 x13_4 p456 q456
                            obtain rfl : ad450 = ad456 := (by injection e456)
                            replace p456 := eq_true p456
                            replace q456 := eq_true q456
                            have p457 : 0 ≤ (x10_1 : Int) := of_decide_eq_true (by first | (with_reducible assumption) | assumption)
                            have q457 : x10_1 < (t441.length : Int) := of_decide_eq_true (by first | (with_reducible assumption) | assumption)
                            obtain ⟨ad457, e457, hx457_0, hx457_1, hx457_2, hx457_3, hx457_4, hx457_5, hx457_6, hx457_7⟩ := at_T54 (Kd.R_reads' HO_8.out).2.2 x10_1 p457 q457
                            obtain rfl : ad450 = ad457 := (by injection e457)
                            replace p457 := eq_true p457
                            replace q457 := eq_true q457
                            have p458 : 0 ≤ (x13_4 : Int) := of_decide_eq_true (by first | (with_reducible assumption) | assumption)
                            have q458 : x13_4 < (t441.length : Int) := of_decide_eq_true (by first | (with_reducible assumption) | assumption)
                            obtain ⟨ad458, e458, hx458_0, hx458_1, hx458_2, hx458_3, hx458_4, hx458_5, hx458_6, hx458_7⟩ := at_T54 (Kd.R_reads' HO_8.out).2.2 x13_4 p458 q458
                            obtain rfl : ad450 = ad458 := (by injection e458)
                            replace p458 := eq_true p458
                            replace q458 := eq_true q458
                            have p459 : 0 ≤ (x10_1 : Int) := of_decide_eq_true (by first | (with_reducible assumption) | assumption)
                            have q459 : x10_1 < (t441.length : Int) := of_decide_eq_true (by first | (with_reducible assumption) | assumption)
                            obtain ⟨ad459, e459, hx459_0, hx459_1, hx459_2, hx459_3, hx459_4, hx459_5, hx459_6, hx459_7⟩ := at_T54 (Kd.R_reads' HO_8.out).2.2 x10_1 p459 q459
                            obtain rfl : ad450 = ad459 := (by injection e459)
                            replace p459 := eq_true p459
                            replace q459 := eq_true q459
                            have p460 : 0 ≤ (x13_4 : Int) := of_decide_eq_true (by first | (with_reducible assumption) | assumption)
                            have q460 : x13_4 < (t441.length : Int) := of_decide_eq_true (by first | (with_reducible assumption) | assumption)
                            obtain ⟨ad460, e460, hx460_0, hx460_1, hx460_2, hx460_3, hx460_4, hx460_5, hx460_6, hx460_7⟩ := at_T54 (Kd.R_reads' HO_8.out).2.2 x13_4 p460 q460
                            obtain rfl : ad450 = ad460 := (by injection e460)
                            replace p460 := eq_true p460
                            replace q460 := eq_true q460
                            have p461 : 0 ≤ (x10_1 : Int) := of_decide_eq_true (by first | (with_reducible assumption) | assumption)
                            have q461 : x10_1 < (t441.length : Int) := of_decide_eq_true (by first | (with_reducible assumption) | assumption)
                            obtain ⟨ad461, e461, hx461_0, hx461_1, hx461_2, hx461_3, hx461_4, hx461_5, hx461_6, hx461_7⟩ := at_T54 (Kd.R_reads' HO_8.out).2.2 x10_1 p461 q461
                            obtain rfl : ad450 = ad461 := (by injection e461)
                            replace p461 := eq_true p461
                            replace q461 := eq_true q461
                            have p462 : 0 ≤ (x13_4 : Int) := of_decide_eq_true (by first | (with_reducible assumption) | assumption)
                            have q462 : x13_4 < (t441.length : Int) := of_decide_eq_true (by first | (with_reducible assumption) | assumption)
                            obtain ⟨ad462, e462, hx462_0, hx462_1, hx462_2, hx462_3, hx462_4, hx462_5, hx462_6, hx462_7⟩ := at_T54 (Kd.R_reads' HO_8.out).2.2 x13_4 p462 q462
                            obtain rfl : ad450 = ad462 := (by injection e462)
                            replace p462 := eq_true p462
                            replace q462 := eq_true q462
                            have p463 : 0 ≤ (x10_1 : Int) := of_decide_eq_true (by first | (with_reducible assumption) | assumption)
                            have q463 : x10_1 < (t441.length : Int) := of_decide_eq_true (by first | (with_reducible assumption) | assumption)
                            obtain ⟨ad463, e463, hx463_0, hx463_1, hx463_2, hx463_3, hx463_4, hx463_5, hx463_6, hx463_7⟩ := at_T54 (Kd.R_reads' HO_8.out).2.2 x10_1 p463 q463
                            obtain rfl : ad450 = ad463 := (by injection e463)
                            replace p463 := eq_true p463
                            replace q463 := eq_true q463
                            have p464 : 0 ≤ (x10_1 : Int) := of_decide_eq_true (by first | (with_reducible assumption) | assumption)
                            have q464 : x10_1 < (t441.length : Int) := of_decide_eq_true (by first | (with_reducible assumption) | assumption)
                            obtain ⟨ad464, e464, hx464_0, hx464_1, hx464_2, hx464_3, hx464_4, hx464_5, hx464_6, hx464_7⟩ := at_T54 (Kd.R_reads' HO_8.out).2.2 x10_1 p464 q464
                            obtain rfl : ad450 = ad464 := (by injection e464)
                            replace p464 := eq_true p464
                            replace q464 := eq_true q464
                            have p465 : 0 ≤ (x13_4 : Int) := of_decide_eq_true (by first | (with_reducible assumption) | assumption)
                            have q465 : x13_4 < (t441.length : Int) := of_decide_eq_true (by first | (with_reducible assumption) | assumption)
                            obtain ⟨ad465, e465, hx465_0, hx465_1, hx465_2, hx465_3, hx465_4, hx465_5, hx465_6, hx465_7⟩ := at_T54 (Kd.R_reads' HO_8.out).2.2 x13_4 p465 q465
                            obtain rfl : ad450 = ad465 := (by injection e465)
                            replace p465 := eq_true p465
                            replace q465 := eq_true q465
                            go_wp2
                            repeat (go_quiet (fail); try go_wp2)
                            go_meet
                            case rel => exact ⟨_, (decide (((rd_T54 t441 x10_1).f3) ≤ ((rd_T54 t441 x13_4).f5))), (by first | rfl | (simp; done) | (simp [*]; done)), H', ⟨by have := HK1.out; have := HJ12.out; have := HK3.out; have := HK4.out; first | omega | exact Nat.le_refl _⟩, ⟨by (with_reducible repeat (first | apply Kd.S_alloc | apply Kd.S_drewN | apply Kd.S_drew)); exact HO_7.out⟩, ⟨by (with_reducible repeat (first | apply Kd.R_alloc | apply Kd.R_drewN | apply Kd.R_drew)); exact HO_8.out⟩, ⟨by repeat (first | (with_reducible exact HR451_0.out) | (with_reducible refine Kd.C_alloc ?_ _) | (with_reducible refine Kd.C_drewN ?_ _) | (with_reducible refine Kd.C_drew ?_) | exact HR451_0.out)⟩, ⟨by repeat (first | (with_reducible first | exact HB.out | apply below_alloc | apply pw_below_drewN | apply below_drew1) | exact HB.out)⟩⟩
                           ·
                            rw [if_neg c37] at H
                            have c37b0 : decide (((rd_T54 t441 x13_4).f3) ≤ ((rd_T54 t441 x10_1).f5)) = false := decide_eq_false c37
                            clear c37
                            have H' := Aside0.mk H
                            clear H
                            have p456 : 0 ≤ (x13_4 : Int) := of_decide_eq_true (by first | (with_reducible assumption) | assumption)
                            have q456 : x13_4 < (t441.length : Int) := of_decide_eq_true (by first | (with_reducible assumption) | assumption)
                            obtain ⟨ad456, e456, hx456_0, hx456_1, hx456_2, hx456_3, hx456_4, hx456_5, hx456_6, hx456_7⟩ := at_T54 (Kd.R_reads' HO_8.out).2.2 x13_4 p456 q456
                            obtain rfl : ad450 = ad456 := (by injection e456)
                            replace p456 := eq_true p456
                            replace q456 := eq_true q456
                            have p457 : 0 ≤ (x10_1 : Int) := of_decide_eq_true (by first | (with_reducible assumption) | assumption)
                            have q457 : x10_1 < (t441.length : Int) := of_decide_eq_true (by first | (with_reducible assumption) | assumption)
                            obtain ⟨ad457, e457, hx457_0, hx457_1, hx457_2, hx457_3, hx457_4, hx457_5, hx457_6, hx457_7⟩ := at_T54 (Kd.R_reads' HO_8.out).2.2 x10_1 p457 q457
                            obtain rfl : ad450 = ad457 := (by injection e457)
                            replace p457 := eq_true p457
                            replace q457 := eq_true q457
                            have p458 : 0 ≤ (x13_4 : Int) := of_decide_eq_true (by first | (with_reducible assumption) | assumption)
                            have q458 : x13_4 < (t441.length : Int) := of_decide_eq_true (by first | (with_reducible assumption) | assumption)
                            obtain ⟨ad458, e458, hx458_0, hx458_1, hx458_2, hx458_3, hx458_4, hx458_5, hx458_6, hx458_7⟩ := at_T54 (Kd.R_reads' HO_8.out).2.2 x13_4 p458 q458
                            obtain rfl : ad450 = ad458 := (by injection e458)
                            replace p458 := eq_true p458
                            replace q458 := eq_true q458
                            have p459 : 0 ≤ (x10_1 : Int) := of_decide_eq_true (by first | (with_reducible assumption) | assumption)
                            have q459 : x10_1 < (t441.length : Int) := of_decide_eq_true (by first | (with_reducible assumption) | assumption)
                            obtain ⟨ad459, e459, hx459_0, hx459_1, hx459_2, hx459_3, hx459_4, hx459_5, hx459_6, hx459_7⟩ := at_T54 (Kd.R_reads' HO_8.out).2.2 x10_1 p459 q459
                            obtain rfl : ad450 = ad459 := (by injection e459)
                            replace p459 := eq_true p459
                            replace q459 := eq_true q459
                            have p460 : 0 ≤ (x13_4 : Int) := of_decide_eq_true (by first | (with_reducible assumption) | assumption)
                            have q460 : x13_4 < (t441.length : Int) := of_decide_eq_true (by first | (with_reducible assumption) | assumption)
                            obtain ⟨ad460, e460, hx460_0, hx460_1, hx460_2, hx460_3, hx460_4, hx460_5, hx460_6, hx460_7⟩ := at_T54 (Kd.R_reads' HO_8.out).2.2 x13_4 p460 q460
                            obtain rfl : ad450 = ad460 := (by injection e460)
                            replace p460 := eq_true p460
                            replace q460 := eq_true q460
                            have p461 : 0 ≤ (x10_1 : Int) := of_decide_eq_true (by first | (with_reducible assumption) | assumption)
                            have q461 : x10_1 < (t441.length : Int) := of_decide_eq_true (by first | (with_reducible assumption) | assumption)
                            obtain ⟨ad461, e461, hx461_0, hx461_1, hx461_2, hx461_3, hx461_4, hx461_5, hx461_6, hx461_7⟩ := at_T54 (Kd.R_reads' HO_8.out).2.2 x10_1 p461 q461
                            obtain rfl : ad450 = ad461 := (by injection e461)
                            replace p461 := eq_true p461
                            replace q461 := eq_true q461
                            have p462 : 0 ≤ (x13_4 : Int) := of_decide_eq_true (by first | (with_reducible assumption) | assumption)
                            have q462 : x13_4 < (t441.length : Int) := of_decide_eq_true (by first | (with_reducible assumption) | assumption)
                            obtain ⟨ad462, e462, hx462_0, hx462_1, hx462_2, hx462_3, hx462_4, hx462_5, hx462_6, hx462_7⟩ := at_T54 (Kd.R_reads' HO_8.out).2.2 x13_4 p462 q462
                            obtain rfl : ad450 = ad462 := (by injection e462)
                            replace p462 := eq_true p462
                            replace q462 := eq_true q462
                            have p463 : 0 ≤ (x10_1 : Int) := of_decide_eq_true (by first | (with_reducible assumption) | assumption)
                            have q463 : x10_1 < (t441.length : Int) := of_decide_eq_true (by first | (with_reducible assumption) | assumption)
                            obtain ⟨ad463, e463, hx463_0, hx463_1, hx463_2, hx463_3, hx463_4, hx463_5, hx463_6, hx463_7⟩ := at_T54 (Kd.R_reads' HO_8.out).2.2 x10_1 p463 q463
                            obtain rfl : ad450 = ad463 := (by injection e463)
                            replace p463 := eq_true p463
                            replace q463 := eq_true q463
                            go_wp2
                            repeat (go_quiet (fail); try go_wp2)
                            go_meet
                            case rel => exact ⟨_, (false), (by first | rfl | (simp; done) | (simp [*]; done)), H', ⟨by have := HK1.out; have := HJ12.out; have := HK3.out; have := HK4.out; first | omega | exact Nat.le_refl _⟩, ⟨by (with_reducible repeat (first | apply Kd.S_alloc | apply Kd.S_drewN | apply Kd.S_drew)); exact HO_7.out⟩, ⟨by (with_reducible repeat (first | apply Kd.R_alloc | apply Kd.R_drewN | apply Kd.R_drew)); exact HO_8.out⟩, ⟨by repeat (first | (with_reducible exact HR451_0.out) | (with_reducible refine Kd.C_alloc ?_ _) | (with_reducible refine Kd.C_drewN ?_ _) | (with_reducible refine Kd.C_drew ?_) | exact HR451_0.out)⟩, ⟨by repeat (first | (with_reducible first | exact HB.out | apply below_alloc | apply pw_below_drewN | apply below_drew1) | exact HB.out)⟩⟩
                          ·
                           rw [if_neg c36] at H
                           have c36b0 : (((rd_T54 t441 x13_4).f0) == ((rd_T54 t441 x10_1).f0)) = false := beq_eq_false_iff_ne.mpr c36
                           have c36b1 : (((rd_T54 t441 x13_4).f0) != ((rd_T54 t441 x10_1).f0)) = true := bne_iff_ne.mpr c36
                           have H' := Aside0.mk H
                           clear H
                           have p456 : 0 ≤ (x13_4 : Int) := of_decide_eq_true (by first | (with_reducible assumption) | assumption)
                           have q456 : x13_4 < (t441.length : Int) := of_decide_eq_true (by first | (with_reducible assumption) | assumption)
                           obtain ⟨ad456, e456, hx456_0, hx456_1, hx456_2, hx456_3, hx456_4, hx456_5, hx456_6, hx456_7⟩ := at_T54 (Kd.R_reads' HO_8.out).2.2 x13_4 p456 q456
                           obtain rfl : ad450 = ad456 := (by injection e456)
                           replace p456 := eq_true p456
                           replace q456 := eq_true q456
                           have p457 : 0 ≤ (x10_1 : Int) := of_decide_eq_true (by first | (with_reducible assumption) | assumption)
                           have q457 : x10_1 < (t441.length : Int) := of_decide_eq_true (by first | (with_reducible assumption) | assumption)
                           obtain ⟨ad457, e457, hx457_0, hx457_1, hx457_2, hx457_3, hx457_4, hx457_5, hx457_6, hx457_7⟩ := at_T54 (Kd.R_reads' HO_8.out).2.2 x10_1 p457 q457
                           obtain rfl : ad450 = ad457 := (by injection e457)
                           replace p457 := eq_true p457
                           replace q457 := eq_true q457
                           have p458 : 0 ≤ (x13_4 : Int) := of_decide_eq_true (by first | (with_reducible assumption) | assumption)
                           have q458 : x13_4 < (t441.length : Int) := of_decide_eq_true (by first | (with_reducible assumption) | assumption)
                           obtain ⟨ad458, e458, hx458_0, hx458_1, hx458_2, hx458_3, hx458_4, hx458_5, hx458_6, hx458_7⟩ := at_T54 (Kd.R_reads' HO_8.out).2.2 x13_4 p458 q458
                           obtain rfl : ad450 = ad458 := (by injection e458)
                           replace p458 := eq_true p458
                           replace q458 := eq_true q458
                           have p459 : 0 ≤ (x10_1 : Int) := of_decide_eq_true (by first | (with_reducible assumption) | assumption)
                           have q459 : x10_1 < (t441.length : Int) := of_decide_eq_true (by first | (with_reducible assumption) | assumption)
                           obtain ⟨ad459, e459, hx459_0, hx459_1, hx459_2, hx459_3, hx459_4, hx459_5, hx459_6, hx459_7⟩ := at_T54 (Kd.R_reads' HO_8.out).2.2 x10_1 p459 q459
                           obtain rfl : ad450 = ad459 := (by injection e459)
                           replace p459 := eq_true p459
                           replace q459 := eq_true q459
                           have p460 : 0 ≤ (x13_4 : Int) := of_decide_eq_true (by first | (with_reducible assumption) | assumption)
                           have q460 : x13_4 < (t441.length : Int) := of_decide_eq_true (by first | (with_reducible assumption) | assumption)
                           obtain ⟨ad460, e460, hx460_0, hx460_1, hx460_2, hx460_3, hx460_4, hx460_5, hx460_6, hx460_7⟩ := at_T54 (Kd.R_reads' HO_8.out).2.2 x13_4 p460 q460
                           obtain rfl : ad450 = ad460 := (by injection e460)
                           replace p460 := eq_true p460
                           replace q460 := eq_true q460
                           have p461 : 0 ≤ (x10_1 : Int) := of_decide_eq_true (by first | (with_reducible assumption) | assumption)
                           have q461 : x10_1 < (t441.length : Int) := of_decide_eq_true (by first | (with_reducible assumption) | assumption)
                           obtain ⟨ad461, e461, hx461_0, hx461_1, hx461_2, hx461_3, hx461_4, hx461_5, hx461_6, hx461_7⟩ := at_T54 (Kd.R_reads' HO_8.out).2.2 x10_1 p461 q461
                           obtain rfl : ad450 = ad461 := (by injection e461)
                           replace p461 := eq_true p461
                           replace q461 := eq_true q461
                           go_wp2
                           repeat (go_quiet (fail); try go_wp2)
                           go_meet
                           case rel => exact ⟨_, (false), (by first | rfl | (simp; done) | (simp [*]; done)), H', ⟨by have := HK1.out; have := HJ12.out; have := HK3.out; have := HK4.out; first | omega | exact Nat.le_refl _⟩, ⟨by (with_reducible repeat (first | apply Kd.S_alloc | apply Kd.S_drewN | apply Kd.S_drew)); exact HO_7.out⟩, ⟨by (with_reducible repeat (first | apply Kd.R_alloc | apply Kd.R_drewN | apply Kd.R_drew)); exact HO_8.out⟩, ⟨by repeat (first | (with_reducible exact HR451_0.out) | (with_reducible refine Kd.C_alloc ?_ _) | (with_reducible refine Kd.C_drewN ?_ _) | (with_reducible refine Kd.C_drew ?_) | exact HR451_0.out)⟩, ⟨by repeat (first | (with_reducible first | exact HB.out | apply below_alloc | apply pw_below_drewN | apply below_drew1) | exact HB.out)⟩⟩
                       ·
                        rw [if_neg c33] at H
                        have c33b0 : decide (((rd_T54 t441 x13_4).f2) < ((rd_T54 t441 x10_1).f2)) = false := decide_eq_false c33
                        clear c33
                        by_cases c38 : x13_4 = x10_1
                        ·
                         rw [if_pos c38] at H
                         have c38b0 : (x13_4 == x10_1) = true := beq_iff_eq.mpr c38
                         have c38b1 : (x13_4 != x10_1) = false := bne_eq_false_iff_eq.mpr c38
                         clear c38
                         have H' := Aside0.mk H
                         clear H
                         have p456 : 0 ≤ (x13_4 : Int) := of_decide_eq_true (by first | (with_reducible assumption) | assumption)
                         have q456 : x13_4 < (t441.length : Int) := of_decide_eq_true (by first | (with_reducible assumption) | assumption)
                         obtain ⟨ad456, e456, hx456_0, hx456_1, hx456_2, hx456_3, hx456_4, hx456_5, hx456_6, hx456_7⟩ := at_T54 (Kd.R_reads' HO_8.out).2.2 x13_4 p456 q456
                         obtain rfl : ad450 = ad456 := (by injection e456)
                         replace p456 := eq_true p456
                         replace q456 := eq_true q456
                         have p457 : 0 ≤ (x10_1 : Int) := of_decide_eq_true (by first | (with_reducible assumption) | assumption)
                         have q457 : x10_1 < (t441.length : Int) := of_decide_eq_true (by first | (with_reducible assumption) | assumption)
                         obtain ⟨ad457, e457, hx457_0, hx457_1, hx457_2, hx457_3, hx457_4, hx457_5, hx457_6, hx457_7⟩ := at_T54 (Kd.R_reads' HO_8.out).2.2 x10_1 p457 q457
                         obtain rfl : ad450 = ad457 := (by injection e457)
                         replace p457 := eq_true p457
                         replace q457 := eq_true q457
                         go_wp2
                         repeat (go_quiet (fail); try go_wp2)
                         go_meet
                         case rel => exact ⟨_, (false), (by first | rfl | (simp; done) | (simp [*]; done)), H', ⟨by have := HK1.out; have := HJ12.out; have := HK3.out; have := HK4.out; first | omega | exact Nat.le_refl _⟩, ⟨by (with_reducible repeat (first | apply Kd.S_alloc | apply Kd.S_drewN | apply Kd.S_drew)); exact HO_7.out⟩, ⟨by (with_reducible repeat (first | apply Kd.R_alloc | apply Kd.R_drewN | apply Kd.R_drew)); exact HO_8.out⟩, ⟨by repeat (first | (with_reducible exact HR451_0.out) | (with_reducible refine Kd.C_alloc ?_ _) | (with_reducible refine Kd.C_drewN ?_ _) | (with_reducible refine Kd.C_drew ?_) | exact HR451_0.out)⟩, ⟨by repeat (first | (with_reducible first | exact HB.out | apply below_alloc | apply pw_below_drewN | apply below_drew1) | exact HB.out)⟩⟩
                        ·
                         rw [if_neg c38] at H
                         have c38b0 : (x13_4 == x10_1) = false := beq_eq_false_iff_ne.mpr c38
                         have c38b1 : (x13_4 != x10_1) = true := bne_iff_ne.mpr c38
                         by_cases c39 : ((rd_T54 t441 x13_4).f0) = ((rd_T54 t441 x10_1).f0)
                         ·
                          rw [if_pos c39] at H
                          have c39b0 : (((rd_T54 t441 x13_4).f0) == ((rd_T54 t441 x10_1).f0)) = true := beq_iff_eq.mpr c39
                          have c39b1 : (((rd_T54 t441 x13_4).f0) != ((rd_T54 t441 x10_1).f0)) = false := bne_eq_false_iff_eq.mpr c39
                          clear c39
                          by_cases c40 : ((rd_T54 t441 x13_4).f3) ≤ ((rd_T54 t441 x10_1).f5)
                          ·
                           rw [if_pos c40] at H
                           have c40b0 : decide (((rd_T54 t441 x13_4).f3) ≤ ((rd_T54 t441 x10_1).f5)) = true := decide_eq_true c40
                           clear c40
                           have H' := Aside0.mk H
                           clear H
                           have p456 : 0 ≤ (x13_4 : Int) := of_decide_eq_true (by first | (with_reducible assumption) | assumption)
                           have q456 : x13_4 < (t441.length : Int) := of_decide_eq_true (by first | (with_reducible assumption) | assumption)
                           obtain ⟨ad456, e456, hx456_0, hx456_1, hx456_2, hx456_3, hx456_4, hx456_5, hx456_6, hx456_7⟩ := at_T54 (Kd.R_reads' HO_8.out).2.2 x13_4 p456 q456
                           obtain rfl : ad450 = ad456 := (by injection e456)
                           replace p456 := eq_true p456
                           replace q456 := eq_true q456
                           have p457 : 0 ≤ (x10_1 : Int) := of_decide_eq_true (by first | (with_reducible assumption) | assumption)
                           have q457 : x10_1 < (t441.length : Int) := of_decide_eq_true (by first | (with_reducible assumption) | assumption)
                           obtain ⟨ad457, e457, hx457_0, hx457_1, hx457_2, hx457_3, hx457_4, hx457_5, hx457_6, hx457_7⟩ := at_T54 (Kd.R_reads' HO_8.out).2.2 x10_1 p457 q457
                           obtain rfl : ad450 = ad457 := (by injection e457)
                           replace p457 := eq_true p457
                           replace q457 := eq_true q457
                           have p466 : 0 ≤ (x13_4 : Int) := of_decide_eq_true (by first | (with_reducible assumption) | assumption)
                           have q466 : x13_4 < (t441.length : Int) := of_decide_eq_true (by first | (with_reducible assumption) | assumption)
                           obtain ⟨ad466, e466, hx466_0, hx466_1, hx466_2, hx466_3, hx466_4, hx466_5, hx466_6, hx466_7⟩ := at_T54 (Kd.R_reads' HO_8.out).2.2 x13_4 p466 q466
                           obtain rfl : ad450 = ad466 := (by injection e466)
                           replace p466 := eq_true p466
                           replace q466 := eq_true q466
                           have p467 : 0 ≤ (x10_1 : Int) := of_decide_eq_true (by first | (with_reducible assumption) | assumption)
                           have q467 : x10_1 < (t441.length : Int) := of_decide_eq_true (by first | (with_reducible assumption) | assumption)
                           obtain ⟨ad467, e467, hx467_0, hx467_1, hx467_2, hx467_3, hx467_4, hx467_5, hx467_6, hx467_7⟩ := at_T54 (Kd.R_reads' HO_8.out).2.2 x10_1 p467 q467
                           obtain rfl : ad450 = ad467 := (by injection e467)
                           replace p467 := eq_true p467
                           replace q467 := eq_true q467
                           have p468 : 0 ≤ (x13_4 : Int) := of_decide_eq_true (by first | (with_reducible assumption) | assumption)
                           have q468 : x13_4 < (t441.length : Int) := of_decide_eq_true (by first | (with_reducible assumption) | assumption)
                           obtain ⟨ad468, e468, hx468_0, hx468_1, hx468_2, hx468_3, hx468_4, hx468_5, hx468_6, hx468_7⟩ := at_T54 (Kd.R_reads' HO_8.out).2.2 x13_4 p468 q468
                           obtain rfl : ad450 = ad468 := (by injection e468)
                           replace p468 := eq_true p468
                           replace q468 := eq_true q468
                           have p469 : 0 ≤ (x10_1 : Int) := of_decide_eq_true (by first | (with_reducible assumption) | assumption)
                           have q469 : x10_1 < (t441.length : Int) := of_decide_eq_true (by first | (with_reducible assumption) | assumption)
                           obtain ⟨ad469, e469, hx469_0, hx469_1, hx469_2, hx469_3, hx469_4, hx469_5, hx469_6, hx469_7⟩ := at_T54 (Kd.R_reads' HO_8.out).2.2 x10_1 p469 q469
                           obtain rfl : ad450 = ad469 := (by injection e469)
                           replace p469 := eq_true p469
                           replace q469 := eq_true q469
                           have p470 : 0 ≤ (x10_1 : Int) := of_decide_eq_true (by first | (with_reducible assumption) | assumption)
                           have q470 : x10_1 < (t441.length : Int) := of_decide_eq_true (by first | (with_reducible assumption) | assumption)
                           obtain ⟨ad470, e470, hx470_0, hx470_1, hx470_2, hx470_3, hx470_4, hx470_5, hx470_6, hx470_7⟩ := at_T54 (Kd.R_reads' HO_8.out).2.2 x10_1 p470 q470
                           obtain rfl : ad450 = ad470 := (by injection e470)
                           replace p470 := eq_true p470
                           replace q470 := eq_true q470
                           have p471 : 0 ≤ (x13_4 : Int) := of_decide_eq_true (by first | (with_reducible assumption) | assumption)
                           have q471 : x13_4 < (t441.length : Int) := of_decide_eq_true (by first | (with_reducible assumption) | assumption)
                           obtain ⟨ad471, e471, hx471_0, hx471_1, hx471_2, hx471_3, hx471_4, hx471_5, hx471_6, hx471_7⟩ := at_T54 (Kd.R_reads' HO_8.out).2.2 x13_4 p471 q471
                           obtain rfl : ad450 = ad471 := (by injection e471)
                           replace p471 := eq_true p471
                           replace q471 := eq_true q471
                           go_wp2
                           repeat (go_quiet (fail); try go_wp2)
                           go_meet
                           case rel => exact ⟨_, (decide (((rd_T54 t441 x10_1).f3) ≤ ((rd_T54 t441 x13_4).f5))), (by first | rfl | (simp; done) | (simp [*]; done)), H', ⟨by have := HK1.out; have := HJ12.out; have := HK3.out; have := HK4.out; first | omega | exact Nat.le_refl _⟩, ⟨by (with_reducible repeat (first | apply Kd.S_alloc | apply Kd.S_drewN | apply Kd.S_drew)); exact HO_7.out⟩, ⟨by (with_reducible repeat (first | apply Kd.R_alloc | apply Kd.R_drewN | apply Kd.R_drew)); exact HO_8.out⟩, ⟨by repeat (first | (with_reducible exact HR451_0.out) | (with_reducible refine Kd.C_alloc ?_ _) | (with_reducible refine Kd.C_drewN ?_ _) | (with_reducible refine Kd.C_drew ?_) | exact HR451_0.out)⟩, ⟨by repeat (first | (with_reducible first | exact HB.out | apply below_alloc | apply pw_below_drewN | apply below_drew1) | exact HB.out)⟩⟩
                          ·
                           rw [if_neg c40] at H
                           have c40b0 : decide (((rd_T54 t441 x13_4).f3) ≤ ((rd_T54 t441 x10_1).f5)) = false := decide_eq_false c40
                           clear c40
                           have H' := Aside0.mk H
                           clear H
                           have p456 : 0 ≤ (x13_4 : Int) := of_decide_eq_true (by first | (with_reducible assumption) | assumption)
                           have q456 : x13_4 < (t441.length : Int) := of_decide_eq_true (by first | (with_reducible assumption) | assumption)
                           obtain ⟨ad456, e456, hx456_0, hx456_1, hx456_2, hx456_3, hx456_4, hx456_5, hx456_6, hx456_7⟩ := at_T54 (Kd.R_reads' HO_8.out).2.2 x13_4 p456 q456
                           obtain rfl : ad450 = ad456 := (by injection e456)
                           replace p456 := eq_true p456
                           replace q456 := eq_true q456
                           have p457 : 0 ≤ (x10_1 : Int) := of_decide_eq_true (by first | (with_reducible assumption) | assumption)
                           have q457 : x10_1 < (t441.length : Int) := of_decide_eq_true (by first | (with_reducible assumption) | assumption)
                           obtain ⟨ad457, e457, hx457_0, hx457_1, hx457_2, hx457_3, hx457_4, hx457_5, hx457_6, hx457_7⟩ := at_T54 (Kd.R_reads' HO_8.out).2.2 x10_1 p457 q457
                           obtain rfl : ad450 = ad457 := (by injection e457)
                           replace p457 := eq_true p457
                           replace q457 := eq_true q457
                           have p466 : 0 ≤ (x13_4 : Int) := of_decide_eq_true (by first | (with_reducible assumption) | assumption)
                           have q466 : x13_4 < (t441.length : Int) := of_decide_eq_true (by first | (with_reducible assumption) | assumption)
                           obtain ⟨ad466, e466, hx466_0, hx466_1, hx466_2, hx466_3, hx466_4, hx466_5, hx466_6, hx466_7⟩ := at_T54 (Kd.R_reads' HO_8.out).2.2 x13_4 p466 q466
                           obtain rfl : ad450 = ad466 := (by injection e466)
                           replace p466 := eq_true p466
                           replace q466 := eq_true q466
                           have p467 : 0 ≤ (x10_1 : Int) := of_decide_eq_true (by first | (with_reducible assumption) | assumption)
                           have q467 : x10_1 < (t441.length : Int) := of_decide_eq_true (by first | (with_reducible assumption) | assumption)
                           obtain ⟨ad467, e467, hx467_0, hx467_1, hx467_2, hx467_3, hx467_4, hx467_5, hx467_6, hx467_7⟩ := at_T54 (Kd.R_reads' HO_8.out).2.2 x10_1 p467 q467
                           obtain rfl : ad450 = ad467 := (by injection e467)
                           replace p467 := eq_true p467
                           replace q467 := eq_true q467
                           have p468 : 0 ≤ (x13_4 : Int) := of_decide_eq_true (by first | (with_reducible assumption) | assumption)
                           have q468 : x13_4 < (t441.length : Int) := of_decide_eq_true (by first | (with_reducible assumption) | assumption)
                           obtain ⟨ad468, e468, hx468_0, hx468_1, hx468_2, hx468_3, hx468_4, hx468_5, hx468_6, hx468_7⟩ := at_T54 (Kd.R_reads' HO_8.out).2.2 x13_4 p468 q468
                           obtain rfl : ad450 = ad468 := (by injection e468)
                           replace p468 := eq_true p468
                           replace q468 := eq_true q468
                           have p469 : 0 ≤ (x10_1 : Int) := of_decide_eq_true (by first | (with_reducible assumption) | assumption)
                           have q469 : x10_1 < (t441.length : Int) := of_decide_eq_true (by first | (with_reducible assumption) | assumption)
                           obtain ⟨ad469, e469, hx469_0, hx469_1, hx469_2, hx469_3, hx469_4, hx469_5, hx469_6, hx469_7⟩ := at_T54 (Kd.R_reads' HO_8.out).2.2 x10_1 p469 q469
                           obtain rfl : ad450 = ad469 := (by injection e469)
                           replace p469 := eq_true p469
                           replace q469 := eq_true q469
                           go_wp2
                           repeat (go_quiet (fail); try go_wp2)
                           go_meet
                           case rel => exact ⟨_, (false), (by first | rfl | (simp; done) | (simp [*]; done)), H', ⟨by have := HK1.out; have := HJ12.out; have := HK3.out; have := HK4.out; first | omega | exact Nat.le_refl _⟩, ⟨by (with_reducible repeat (first | apply Kd.S_alloc | apply Kd.S_drewN | apply Kd.S_drew)); exact HO_7.out⟩, ⟨by (with_reducible repeat (first | apply Kd.R_alloc | apply Kd.R_drewN | apply Kd.R_drew)); exact HO_8.out⟩, ⟨by repeat (first | (with_reducible exact HR451_0.out) | (with_reducible refine Kd.C_alloc ?_ _) | (with_reducible refine Kd.C_drewN ?_ _) | (with_reducible refine Kd.C_drew ?_) | exact HR451_0.out)⟩, ⟨by repeat (first | (with_reducible first | exact HB.out | apply below_alloc | apply pw_below_drewN | apply below_drew1) | exact HB.out)⟩⟩
                         ·
                          rw [if_neg c39] at H
                          have c39b0 : (((rd_T54 t441 x13_4).f0) == ((rd_T54 t441 x10_1).f0)) = false := beq_eq_false_iff_ne.mpr c39
                          have c39b1 : (((rd_T54 t441 x13_4).f0) != ((rd_T54 t441 x10_1).f0)) = true := bne_iff_ne.mpr c39
                          have H' := Aside0.mk H
                          clear H
                          have p456 : 0 ≤ (x13_4 : Int) := of_decide_eq_true (by first | (with_reducible assumption) | assumption)
                          have q456 : x13_4 < (t441.length : Int) := of_decide_eq_true (by first | (with_reducible assumption) | assumption)
                          obtain ⟨ad456, e456, hx456_0, hx456_1, hx456_2, hx456_3, hx456_4, hx456_5, hx456_6, hx456_7⟩ := at_T54 (Kd.R_reads' HO_8.out).2.2 x13_4 p456 q456
                          obtain rfl : ad450 = ad456 := (by injection e456)
                          replace p456 := eq_true p456
                          replace q456 := eq_true q456
                          have p457 : 0 ≤ (x10_1 : Int) := of_decide_eq_true (by first | (with_reducible assumption) | assumption)
                          have q457 : x10_1 < (t441.length : Int) := of_decide_eq_true (by first | (with_reducible assumption) | assumption)
                          obtain ⟨ad457, e457, hx457_0, hx457_1, hx457_2, hx457_3, hx457_4, hx457_5, hx457_6, hx457_7⟩ := at_T54 (Kd.R_reads' HO_8.out).2.2 x10_1 p457 q457
                          obtain rfl : ad450 = ad457 := (by injection e457)
                          replace p457 := eq_true p457
                          replace q457 := eq_true q457
                          have p466 : 0 ≤ (x13_4 : Int) := of_decide_eq_true (by first | (with_reducible assumption) | assumption)
                          have q466 : x13_4 < (t441.length : Int) := of_decide_eq_true (by first | (with_reducible assumption) | assumption)
                          obtain ⟨ad466, e466, hx466_0, hx466_1, hx466_2, hx466_3, hx466_4, hx466_5, hx466_6, hx466_7⟩ := at_T54 (Kd.R_reads' HO_8.out).2.2 x13_4 p466 q466
                          obtain rfl : ad450 = ad466 := (by injection e466)
                          replace p466 := eq_true p466
                          replace q466 := eq_true q466
                          have p467 : 0 ≤ (x10_1 : Int) := of_decide_eq_true (by first | (with_reducible assumption) | assumption)
                          have q467 : x10_1 < (t441.length : Int) := of_decide_eq_true (by first | (with_reducible assumption) | assumption)
                          obtain ⟨ad467, e467, hx467_0, hx467_1, hx467_2, hx467_3, hx467_4, hx467_5, hx467_6, hx467_7⟩ := at_T54 (Kd.R_reads' HO_8.out).2.2 x10_1 p467 q467
                          obtain rfl : ad450 = ad467 := (by injection e467)
                          replace p467 := eq_true p467
                          replace q467 := eq_true q467
                          go_wp2
                          repeat (go_quiet (fail); try go_wp2)
                          go_meet
                          case rel => exact ⟨_, (false), (by first | rfl | (simp; done) | (simp [*]; done)), H', ⟨by have := HK1.out; have := HJ12.out; have := HK3.out; have := HK4.out; first | omega | exact Nat.le_refl _⟩, ⟨by (with_reducible repeat (first | apply Kd.S_alloc | apply Kd.S_drewN | apply Kd.S_drew)); exact HO_7.out⟩, ⟨by (with_reducible repeat (first | apply Kd.R_alloc | apply Kd.R_drewN | apply Kd.R_drew)); exact HO_8.out⟩, ⟨by repeat (first | (with_reducible exact HR451_0.out) | (with_reducible refine Kd.C_alloc ?_ _) | (with_reducible refine Kd.C_drewN ?_ _) | (with_reducible refine Kd.C_drew ?_) | exact HR451_0.out)⟩, ⟨by repeat (first | (with_reducible first | exact HB.out | apply below_alloc | apply pw_below_drewN | apply below_drew1) | exact HB.out)⟩⟩
                      ·
                       rw [if_neg c32] at H
                       exact absurd H (by simp)
                     ·
                      rw [if_neg c31] at H
                      exact absurd H (by simp)
                    ·
                     rw [if_neg c30] at H
                     exact absurd H (by simp)
                   case rest =>
                    clear HC29
                    (try clear c1); (try clear c2); (try clear p2); (try clear c3); (try clear c4); (try clear c4b0); (try clear c4b1); (try clear p4); (try clear q4); (try clear hx4); (try clear p6); (try clear c9); (try clear c12); (try clear c12b0); (try clear c15); (try clear c15b0); (try clear c16); (try clear c16b0); (try clear c17); (try clear c17b0); (try clear c18); (try clear c18b0); (try clear c19); (try clear c20); (try clear c20b0); (try clear c21); (try clear c21b0); (try clear c22); (try clear c22b0); (try clear c23); (try clear c23b0); (try clear c24); (try clear c24b0); (try clear c25); (try clear c26); (try clear c26b0); (try clear c27); (try clear c28); (try clear c28b0); (try clear c30); (try clear c30b0); (try clear c31); (try clear c31b0); (try clear c32); (try clear c32b0); (try clear c33); (try clear c33b0); (try clear c34); (try clear c34b0); (try clear c35); (try clear c35b0); (try clear c35b1); (try clear c36); (try clear c36b0); (try clear c36b1); (try clear c37); (try clear c37b0); (try clear c38); (try clear c38b0); (try clear c38b1); (try clear c39); (try clear c39b0); (try clear c39b1); (try clear c40); (try clear c40b0); (try clear hx445_0); (try clear hx445_1); (try clear hx445_2); (try clear hx445_3); (try clear hx445_4); (try clear hx445_5); (try clear hx445_6); (try clear hx445_7); (try clear hx446_0); (try clear hx446_1); (try clear hx446_2); (try clear hx446_3); (try clear hx446_4); (try clear hx446_5); (try clear hx446_6); (try clear hx446_7); (try clear hx447_0); (try clear hx447_1); (try clear hx447_2); (try clear hx447_3); (try clear hx447_4); (try clear hx447_5); (try clear hx447_6); (try clear hx447_7); (try clear hx448_0); (try clear hx448_1); (try clear hx448_2); (try clear hx448_3); (try clear hx448_4); (try clear hx448_5); (try clear hx448_6); (try clear hx448_7); (try clear hx449_0); (try clear hx449_1); (try clear hx449_2); (try clear hx449_3); (try clear hx449_4); (try clear hx449_5); (try clear hx449_6); (try clear hx449_7); (try clear hx450_0); (try clear hx450_1); (try clear hx450_2); (try clear hx450_3); (try clear hx450_4); (try clear hx450_5); (try clear hx450_6); (try clear hx450_7); (try clear hx451_0); (try clear hx452_0); (try clear hx452_1); (try clear hx452_2); (try clear hx452_3); (try clear hx452_4); (try clear hx452_5); (try clear hx452_6); (try clear hx452_7); (try clear hx453_0); (try clear hx454_0); (try clear hx455_0); (try clear hx455_1); (try clear hx455_2); (try clear hx455_3); (try clear hx455_4); (try clear hx455_5); (try clear hx455_6); (try clear hx455_7); (try clear hx456_0); (try clear hx456_1); (try clear hx456_2); (try clear hx456_3); (try clear hx456_4); (try clear hx456_5); (try clear hx456_6); (try clear hx456_7); (try clear hx457_0); (try clear hx457_1); (try clear hx457_2); (try clear hx457_3); (try clear hx457_4); (try clear hx457_5); (try clear hx457_6); (try clear hx457_7); (try clear hx458_0); (try clear hx458_1); (try clear hx458_2); (try clear hx458_3); (try clear hx458_4); (try clear hx458_5); (try clear hx458_6); (try clear hx458_7); (try clear hx459_0); (try clear hx459_1); (try clear hx459_2); (try clear hx459_3); (try clear hx459_4); (try clear hx459_5); (try clear hx459_6); (try clear hx459_7); (try clear hx460_0); (try clear hx460_1); (try clear hx460_2); (try clear hx460_3); (try clear hx460_4); (try clear hx460_5); (try clear hx460_6); (try clear hx460_7); (try clear hx461_0); (try clear hx461_1); (try clear hx461_2); (try clear hx461_3); (try clear hx461_4); (try clear hx461_5); (try clear hx461_6); (try clear hx461_7); (try clear hx462_0); (try clear hx462_1); (try clear hx462_2); (try clear hx462_3); (try clear hx462_4); (try clear hx462_5); (try clear hx462_6); (try clear hx462_7); (try clear hx463_0); (try clear hx463_1); (try clear hx463_2); (try clear hx463_3); (try clear hx463_4); (try clear hx463_5); (try clear hx463_6); (try clear hx463_7); (try clear hx464_0); (try clear hx464_1); (try clear hx464_2); (try clear hx464_3); (try clear hx464_4); (try clear hx464_5); (try clear hx464_6); (try clear hx464_7); (try clear hx465_0); (try clear hx465_1); (try clear hx465_2); (try clear hx465_3); (try clear hx465_4); (try clear hx465_5); (try clear hx465_6); (try clear hx465_7); (try clear hx466_0); (try clear hx466_1); (try clear hx466_2); (try clear hx466_3); (try clear hx466_4); (try clear hx466_5); (try clear hx466_6); (try clear hx466_7); (try clear hx467_0); (try clear hx467_1); (try clear hx467_2); (try clear hx467_3); (try clear hx467_4); (try clear hx467_5); (try clear hx467_6); (try clear hx467_7); (try clear hx468_0); (try clear hx468_1); (try clear hx468_2); (try clear hx468_3); (try clear hx468_4); (try clear hx468_5); (try clear hx468_6); (try clear hx468_7); (try clear hx469_0); (try clear hx469_1); (try clear hx469_2); (try clear hx469_3); (try clear hx469_4); (try clear hx469_5); (try clear hx469_6); (try clear hx469_7); (try clear hx470_0); (try clear hx470_1); (try clear hx470_2); (try clear hx470_3); (try clear hx470_4); (try clear hx470_5); (try clear hx470_6); (try clear hx470_7); (try clear hx471_0); (try clear hx471_1); (try clear hx471_2); (try clear hx471_3); (try clear hx471_4); (try clear hx471_5); (try clear hx471_6); (try clear hx471_7); (try clear p2); (try clear p4); (try clear p445); (try clear p446); (try clear p447); (try clear p448); (try clear p449); (try clear p450); (try clear p451); (try clear p452); (try clear p453); (try clear p454); (try clear p455); (try clear p456); (try clear p457); (try clear p458); (try clear p459); (try clear p460); (try clear p461); (try clear p462); (try clear p463); (try clear p464); (try clear p465); (try clear p466); (try clear p467); (try clear p468); (try clear p469); (try clear p470); (try clear p471); (try clear p6); (try clear q4); (try clear q445); (try clear q446); (try clear q447); (try clear q448); (try clear q449); (try clear q450); (try clear q451); (try clear q452); (try clear q453); (try clear q454); (try clear q455); (try clear q456); (try clear q457); (try clear q458); (try clear q459); (try clear q460); (try clear q461); (try clear q462); (try clear q463); (try clear q464); (try clear q465); (try clear q466); (try clear q467); (try clear q468); (try clear q469); (try clear q470); (try clear q471)
                    obtain ⟨kq, x182_28, rfl, HA, HJ28, HO_7, HO_8, HR451_0, HB⟩ := hcut
                    cases kq with
                    | zero => exact absurd HA.out (by simp [warplaw24_PoolWaves.j4])
                    | succ kj28 =>
                     have H := HA.out
                     clear HA
                     simp only [warplaw24_PoolWaves.j4] at H
                     by_cases c41 : x182_28 = true
                     ·
                      subst c41
                      have H1 : (some false) = some r := by rw [if_pos rfl] at H; exact H
                      clear H
                      have H := H1
                      clear H1
                      exact absurd (hr_.symm.trans (Option.some.inj H).symm) (by decide)
                     ·
                      replace c41 := Bool.eq_false_iff.mpr c41
                      subst c41
                      have H1 : (warplaw24_PoolWaves.l2 kj28 t438 t441 x10_1 (wrap64 (x13_4 + 1))) = some r := by rw [if_neg (show ¬ (false = true) by decide)] at H; exact H
                      clear H
                      have H := H1
                      clear H1
                      have H' := Aside0.mk H
                      clear H
                      go_wp2
                      repeat (go_quiet (fail); try go_wp2)
                      go_roundg kj28
                      case measure => have := HK1.out; have := HJ12.out; have := HK3.out; have := HK4.out; have := HJ28.out; omega
                      case rel => exact ⟨(wrap64 (x13_4 + 1)), (by first | rfl | (simp; done) | (simp [*]; done)), H', ⟨by have := HK1.out; have := HJ12.out; have := HK3.out; have := HK4.out; have := HJ28.out; omega⟩, ⟨by (with_reducible repeat (first | apply Kd.S_alloc | apply Kd.S_drewN | apply Kd.S_drew)); exact HO_7.out⟩, ⟨by (with_reducible repeat (first | apply Kd.R_alloc | apply Kd.R_drewN | apply Kd.R_drew)); exact HO_8.out⟩, ⟨by repeat (first | (with_reducible exact HR451_0.out) | (with_reducible refine Kd.C_alloc ?_ _) | (with_reducible refine Kd.C_drewN ?_ _) | (with_reducible refine Kd.C_drew ?_) | exact HR451_0.out)⟩, ⟨by repeat (first | (with_reducible first | exact HB.out | apply below_alloc | apply pw_below_drewN | apply below_drew1) | exact HB.out)⟩⟩
                  ·
                   rw [if_neg c28] at H
                   have c28b0 : decide (x13_4 < (t441.length : Int)) = false := decide_eq_false c28
                   clear c28
                   have H' := Aside0.mk H
                   clear H
                   go_wp2
                   repeat (go_quiet (fail); try go_wp2)
                   go_roundg k4
                   case measure => have := HK1.out; have := HJ12.out; have := HK3.out; have := HK4.out; omega
                   case rel => exact ⟨(wrap64 (x10_1 + 1)), (by first | rfl | (simp; done) | (simp [*]; done)), H', ⟨by have := HK1.out; have := HJ12.out; have := HK3.out; have := HK4.out; omega⟩, ⟨by (with_reducible repeat (first | apply Kd.S_alloc | apply Kd.S_drewN | apply Kd.S_drew)); exact HO_7.out⟩, ⟨by (with_reducible repeat (first | apply Kd.R_alloc | apply Kd.R_drewN | apply Kd.R_drew)); exact HO_8.out⟩, ⟨by repeat (first | (with_reducible first | exact HB.out | apply below_alloc | apply pw_below_drewN | apply below_drew1) | exact HB.out)⟩⟩
               ·
                replace c27 := Bool.eq_false_iff.mpr c27
                subst c27
                have H1 : (some false) = some r := by rw [if_neg (show ¬ (false = true) by decide)] at H; exact H
                clear H
                have H := H1
                clear H1
                exact absurd (hr_.symm.trans (Option.some.inj H).symm) (by decide)
             ·
              rw [if_neg c23] at H
              exact absurd H (by simp)
            ·
             rw [if_neg c22] at H
             exact absurd H (by simp)
           ·
            rw [if_neg c21] at H
            exact absurd H (by simp)
          ·
           rw [if_neg c20] at H
           exact absurd H (by simp)
    ·
     rw [if_neg c12] at H
     have c12b0 : decide (x10_1 < (t441.length : Int)) = false := decide_eq_false c12
     clear c12
     replace H := Option.bind_eq_some_iff.mp H
     obtain ⟨t472, A420, H⟩ := H
     replace H : (some t472) = some r := H
     have A42 := Aside0.mk A420
     clear A420
     obtain rfl := Option.some.inj H
     obtain ⟨Ao43, co43, eo43⟩ := Kd.R_slice HO_8.out
     subst eo43
     go_wp2_with (first | (go_at_call 19; (with_reducible refine (warplaw24_awake.calls  t472 _ A42.out).mono ?_); rintro e w44 ⟨rfl, hb⟩; have n0_ := Aside0.mk (Kd.S_below (by (with_reducible repeat (first | apply Kd.S_alloc | apply Kd.S_drewN | apply Kd.S_drew)); exact HO_7.out) hb); have n1_ := Aside0.mk (Kd.R_below (by (with_reducible repeat (first | apply Kd.R_alloc | apply Kd.R_drewN | apply Kd.R_drew)); exact HO_8.out) hb); have n2_ := Aside0.mk (below_step (by repeat (first | (with_reducible first | exact HB.out | apply below_alloc | apply pw_below_drewN | apply below_drew1) | exact HB.out)) hb); clear HO_7; clear HO_8; clear HB; have HO_7 := n0_; have HO_8 := n1_; have HB := n2_; clear n0_ n1_ n2_; (try clear hb); (try clear hb2); (try clear hk); (try clear hi)))
     repeat (go_quiet (first | (go_at_call 19; (with_reducible refine (warplaw24_awake.calls  t472 _ A42.out).mono ?_); rintro e w44 ⟨rfl, hb⟩; have n0_ := Aside0.mk (Kd.S_below (by (with_reducible repeat (first | apply Kd.S_alloc | apply Kd.S_drewN | apply Kd.S_drew)); exact HO_7.out) hb); have n1_ := Aside0.mk (Kd.R_below (by (with_reducible repeat (first | apply Kd.R_alloc | apply Kd.R_drewN | apply Kd.R_drew)); exact HO_8.out) hb); have n2_ := Aside0.mk (below_step (by repeat (first | (with_reducible first | exact HB.out | apply below_alloc | apply pw_below_drewN | apply below_drew1) | exact HB.out)) hb); clear HO_7; clear HO_8; clear HB; have HO_7 := n0_; have HO_8 := n1_; have HB := n2_; clear n0_ n1_ n2_; (try clear hb); (try clear hb2); (try clear hk); (try clear hi))); try go_wp2_with (first | (go_at_call 19; (with_reducible refine (warplaw24_awake.calls  t472 _ A42.out).mono ?_); rintro e w44 ⟨rfl, hb⟩; have n0_ := Aside0.mk (Kd.S_below (by (with_reducible repeat (first | apply Kd.S_alloc | apply Kd.S_drewN | apply Kd.S_drew)); exact HO_7.out) hb); have n1_ := Aside0.mk (Kd.R_below (by (with_reducible repeat (first | apply Kd.R_alloc | apply Kd.R_drewN | apply Kd.R_drew)); exact HO_8.out) hb); have n2_ := Aside0.mk (below_step (by repeat (first | (with_reducible first | exact HB.out | apply below_alloc | apply pw_below_drewN | apply below_drew1) | exact HB.out)) hb); clear HO_7; clear HO_8; clear HB; have HO_7 := n0_; have HO_8 := n1_; have HB := n2_; clear n0_ n1_ n2_; (try clear hb); (try clear hb2); (try clear hk); (try clear hi))))
     go_ret
     exact ⟨by first | rfl | (simp [errW_none, errW_some] <;> rfl) | (simp [*, errW_none, errW_some] <;> rfl), by repeat (first | (with_reducible first | exact HB.out | apply below_alloc | apply pw_below_drewN | apply below_drew1) | exact HB.out)⟩

/-- The one plain statement of warplaw24_PoolWaves. -/
def warplaw24_PoolWaves.Pure : Prop := ∀ (l0 : List Int) (a1 : Int) (l2 : List Int), ((fun l : List Int => l.length ≤ maxLen ∧ ∀ x ∈ l, (fun n : Int => (Lit.int .u8 n).wf = true) x) l0) → ((fun n : Int => (Lit.int .u8 n).wf = true) a1) → ((fun l : List Int => l.length ≤ maxLen ∧ ∀ x ∈ l, (fun n : Int => (Lit.int .i64 n).wf = true) x) l2) → ∃ k, warplaw24_PoolWaves.f k l0 a1 l2 = some true

end Go.Proofs.YtbkdnenlffiaeaaDoor.P
