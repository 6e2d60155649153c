/-
The plain Lean functions of Go functions of this seat, and proofs that the calls of the machine come to them; no condition beside those named in each theorem.
-/
import Derived.Test.YtbkdnenlffiaeaaDoorPx0
import Derived.Test.YtbkdnenlffiaeaaDoorPx10
import Derived.Test.YtbkdnenlffiaeaaDoorPx11
import Derived.Test.YtbkdnenlffiaeaaDoorPx12
import Derived.Test.YtbkdnenlffiaeaaDoorPx14
import Derived.Test.YtbkdnenlffiaeaaDoorStubB
namespace Go.Proofs.YtbkdnenlffiaeaaDoor.P
open Go.RowKit Go.Proofs.YtbkdnenlffiaeaaDoorW.PrintWords Go.Proofs.YtbkdnenlffiaeaaDoorW.PrintLast Go.Proofs.YtbkdnenlffiaeaaDoorW.PrintMore
attribute [local go_sem] max2_int min2_int max_two min_two max_three min_three max_four min_four   -- for this text's walks alone
set_option linter.unusedVariables false
set_option linter.unusedSimpArgs false

/-! ### warplaw24_PoolMade: function 8 -/
mutual
def warplaw24_PoolMade.l0 : Nat → List (List Int) → Int → List (S54) → Int → Int → Int → List (S54) → Int → Option (Bool)
 | 0, _, _, _, _, _, _, _, _ => none
 | k + 1, x7, x8, x9, x10, x12, x13, x423000, x423001 => if x13 < (x7.length : Int) then (if 0 ≤ x13 then (warplaw24_PoolMade.l0 k x7 x8 x9 x10 (wrap64 (x12 + ((rd_L4 x7 x13).length : Int))) (wrap64 (x13 + 1)) x423000 x423001) else (none)) else (if 0 ≤ x12 then (if (x12 : Int).toNat ≤ 35184372088832 then (warplaw24_PoolMade.l1 k x8 x9 x10 x12 (List.replicate (x12 : Int).toNat 0) 0 x423000 x423001) else (none)) else (none))
def warplaw24_PoolMade.l1 : Nat → Int → List (S54) → Int → Int → List Int → Int → List (S54) → Int → Option (Bool)
 | 0, _, _, _, _, _, _, _, _ => none
 | k + 1, x8, x9, x10, x12, x14, x15, x423000, x423001 => if x15 < (x9.length : Int) then (if 0 ≤ x15 then (if ((rd_T54 x9 x15).f1.f1) < 0 then (warplaw24_PoolMade.j2 k x8 x9 x10 x12 x14 x15 true x423000 x423001) else (if ((rd_T54 x9 x15).f1.f1) ≥ x12 then (warplaw24_PoolMade.j2 k x8 x9 x10 x12 x14 x15 true x423000 x423001) else (if ((rd_T54 x9 x15).f0) < 0 then (warplaw24_PoolMade.j2 k x8 x9 x10 x12 x14 x15 true x423000 x423001) else (warplaw24_PoolMade.j2 k x8 x9 x10 x12 x14 x15 (decide (((rd_T54 x9 x15).f0) ≥ x8)) x423000 x423001)))) else (none)) else (warplaw24_PoolMade.l2 k x9 x10 x12 x14 0 x423000 x423001)
def warplaw24_PoolMade.j2 : Nat → Int → List (S54) → Int → Int → List Int → Int → Bool → List (S54) → Int → Option (Bool)
 | 0, _, _, _, _, _, _, _, _, _ => none
 | k + 1, x8, x9, x10, x12, x14, x15, x92, x423000, x423001 => if x92 = true then (some false) else (if 0 ≤ x15 then (if x15 < (x9.length : Int) then (if 0 ≤ ((rd_T54 x9 x15).f1.f1) then (if ((rd_T54 x9 x15).f1.f1) < (x14.length : Int) then (warplaw24_PoolMade.l1 k x8 x9 x10 x12 (x14.set (((rd_T54 x9 x15).f1.f1) : Int).toNat (wrap64 ((rd x14 ((rd_T54 x9 x15).f1.f1)) + 1))) (wrap64 (x15 + 1)) x423000 x423001) else (none)) else (none)) else (none)) else (none))
def warplaw24_PoolMade.l2 : Nat → List (S54) → Int → Int → List Int → Int → List (S54) → Int → Option (Bool)
 | 0, _, _, _, _, _, _, _ => none
 | k + 1, x9, x10, x12, x14, x16, x423000, x423001 => if x16 < x12 then (if 0 ≤ x16 then (if x16 < (x14.length : Int) then (if (rd x14 x16) = 1 then (warplaw24_PoolMade.l2 k x9 x10 x12 x14 (wrap64 (x16 + 1)) x423000 x423001) else (some false)) else (none)) else (none)) else ((warpref1_SameEvents.f k x9 x423000).bind fun t435 => (if t435 = true then (if x10 = x423001 then (if x10 = (wrap64 (2 * x12)) then ((warplaw24_awake.f).bind fun t436 => (some t436)) else (some false)) else (some false)) else (some false)))
end
def warplaw24_PoolMade.f (k : Nat) (l0 : List Int) (a1 : Int) (l2 : List Int) : Option (Bool) := if (l2.length : Int) > 400 then ((warplaw24_awake.f).bind fun t410 => (some t410)) else ((warplaw24_Make.f k l0).bind fun t411 => ((pool_Play.f t411 (wrap64 (1 + (Int.tmod (wrap64 (a1)) 64))) l2).bind fun bt414 => ((warpref1_Pool.f k t411 (wrap64 (1 + (Int.tmod (wrap64 (a1)) 64))) l2).bind fun bt418 => (warplaw24_PoolMade.l0 k t411 (wrap64 (1 + (Int.tmod (wrap64 (a1)) 64))) bt414.1 bt414.2 0 0 bt418.1 bt418.2))))
theorem warplaw24_PoolMade.mono_l : ∀ k, (∀ y0 y1 y2 y3 y4 y5 y6 y7, LeO (warplaw24_PoolMade.l0 k y0 y1 y2 y3 y4 y5 y6 y7) (warplaw24_PoolMade.l0 (k + 1) y0 y1 y2 y3 y4 y5 y6 y7)) ∧ (∀ y0 y1 y2 y3 y4 y5 y6 y7, LeO (warplaw24_PoolMade.l1 k y0 y1 y2 y3 y4 y5 y6 y7) (warplaw24_PoolMade.l1 (k + 1) y0 y1 y2 y3 y4 y5 y6 y7)) ∧ (∀ y0 y1 y2 y3 y4 y5 y6 y7 y8, LeO (warplaw24_PoolMade.j2 k y0 y1 y2 y3 y4 y5 y6 y7 y8) (warplaw24_PoolMade.j2 (k + 1) y0 y1 y2 y3 y4 y5 y6 y7 y8)) ∧ (∀ y0 y1 y2 y3 y4 y5 y6, LeO (warplaw24_PoolMade.l2 k y0 y1 y2 y3 y4 y5 y6) (warplaw24_PoolMade.l2 (k + 1) y0 y1 y2 y3 y4 y5 y6))
 | 0 => ⟨fun _ _ _ _ _ _ _ _ r h => by simp [warplaw24_PoolMade.l0] at h, fun _ _ _ _ _ _ _ _ r h => by simp [warplaw24_PoolMade.l1] at h, fun _ _ _ _ _ _ _ _ _ r h => by simp [warplaw24_PoolMade.j2] at h, fun _ _ _ _ _ _ _ r h => by simp [warplaw24_PoolMade.l2] at h⟩
 | k + 1 => by
  obtain ⟨ih0, ih1, ih2, ih3⟩ := warplaw24_PoolMade.mono_l k
  refine ⟨?_, ?_, ?_, ?_⟩
  ·
   intro y0 y1 y2 y3 y4 y5 y6 y7
   unfold warplaw24_PoolMade.l0
   repeat' first
   | (with_reducible exact ih0 _ _ _ _ _ _ _ _)
   | (with_reducible exact ih1 _ _ _ _ _ _ _ _)
   | (with_reducible exact ih2 _ _ _ _ _ _ _ _ _)
   | (with_reducible exact ih3 _ _ _ _ _ _ _)
   | (with_reducible exact warplaw24_Make.mono _ _)
   | (with_reducible exact warpref1_Pool.mono _ _ _ _)
   | (with_reducible exact warpref1_SameEvents.mono _ _ _)
   | (with_reducible exact LeO.refl _)
   | (with_reducible exact LeO.none _)
   | (with_reducible refine LeO.ite ?_ ?_)
   | (with_reducible refine LeO.bind ?_ (fun _ => ?_))
   | exact ih0 _ _ _ _ _ _ _ _
   | exact ih1 _ _ _ _ _ _ _ _
   | exact ih2 _ _ _ _ _ _ _ _ _
   | exact ih3 _ _ _ _ _ _ _
   | exact warplaw24_Make.mono _ _
   | exact warpref1_Pool.mono _ _ _ _
   | exact warpref1_SameEvents.mono _ _ _
   | exact LeO.none _
   | refine LeO.ite ?_ ?_
   | refine LeO.bind ?_ (fun _ => ?_)
  ·
   intro y0 y1 y2 y3 y4 y5 y6 y7
   unfold warplaw24_PoolMade.l1
   repeat' first
   | (with_reducible exact ih0 _ _ _ _ _ _ _ _)
   | (with_reducible exact ih1 _ _ _ _ _ _ _ _)
   | (with_reducible exact ih2 _ _ _ _ _ _ _ _ _)
   | (with_reducible exact ih3 _ _ _ _ _ _ _)
   | (with_reducible exact warplaw24_Make.mono _ _)
   | (with_reducible exact warpref1_Pool.mono _ _ _ _)
   | (with_reducible exact warpref1_SameEvents.mono _ _ _)
   | (with_reducible exact LeO.refl _)
   | (with_reducible exact LeO.none _)
   | (with_reducible refine LeO.ite ?_ ?_)
   | (with_reducible refine LeO.bind ?_ (fun _ => ?_))
   | exact ih0 _ _ _ _ _ _ _ _
   | exact ih1 _ _ _ _ _ _ _ _
   | exact ih2 _ _ _ _ _ _ _ _ _
   | exact ih3 _ _ _ _ _ _ _
   | exact warplaw24_Make.mono _ _
   | exact warpref1_Pool.mono _ _ _ _
   | exact warpref1_SameEvents.mono _ _ _
   | exact LeO.none _
   | refine LeO.ite ?_ ?_
   | refine LeO.bind ?_ (fun _ => ?_)
  ·
   intro y0 y1 y2 y3 y4 y5 y6 y7 y8
   unfold warplaw24_PoolMade.j2
   repeat' first
   | (with_reducible exact ih0 _ _ _ _ _ _ _ _)
   | (with_reducible exact ih1 _ _ _ _ _ _ _ _)
   | (with_reducible exact ih2 _ _ _ _ _ _ _ _ _)
   | (with_reducible exact ih3 _ _ _ _ _ _ _)
   | (with_reducible exact warplaw24_Make.mono _ _)
   | (with_reducible exact warpref1_Pool.mono _ _ _ _)
   | (with_reducible exact warpref1_SameEvents.mono _ _ _)
   | (with_reducible exact LeO.refl _)
   | (with_reducible exact LeO.none _)
   | (with_reducible refine LeO.ite ?_ ?_)
   | (with_reducible refine LeO.bind ?_ (fun _ => ?_))
   | exact ih0 _ _ _ _ _ _ _ _
   | exact ih1 _ _ _ _ _ _ _ _
   | exact ih2 _ _ _ _ _ _ _ _ _
   | exact ih3 _ _ _ _ _ _ _
   | exact warplaw24_Make.mono _ _
   | exact warpref1_Pool.mono _ _ _ _
   | exact warpref1_SameEvents.mono _ _ _
   | exact LeO.none _
   | refine LeO.ite ?_ ?_
   | refine LeO.bind ?_ (fun _ => ?_)
  ·
   intro y0 y1 y2 y3 y4 y5 y6
   unfold warplaw24_PoolMade.l2
   repeat' first
   | (with_reducible exact ih0 _ _ _ _ _ _ _ _)
   | (with_reducible exact ih1 _ _ _ _ _ _ _ _)
   | (with_reducible exact ih2 _ _ _ _ _ _ _ _ _)
   | (with_reducible exact ih3 _ _ _ _ _ _ _)
   | (with_reducible exact warplaw24_Make.mono _ _)
   | (with_reducible exact warpref1_Pool.mono _ _ _ _)
   | (with_reducible exact warpref1_SameEvents.mono _ _ _)
   | (with_reducible exact LeO.refl _)
   | (with_reducible exact LeO.none _)
   | (with_reducible refine LeO.ite ?_ ?_)
   | (with_reducible refine LeO.bind ?_ (fun _ => ?_))
   | exact ih0 _ _ _ _ _ _ _ _
   | exact ih1 _ _ _ _ _ _ _ _
   | exact ih2 _ _ _ _ _ _ _ _ _
   | exact ih3 _ _ _ _ _ _ _
   | exact warplaw24_Make.mono _ _
   | exact warpref1_Pool.mono _ _ _ _
   | exact warpref1_SameEvents.mono _ _ _
   | exact LeO.none _
   | refine LeO.ite ?_ ?_
   | refine LeO.bind ?_ (fun _ => ?_)
theorem warplaw24_PoolMade.mono : ∀ a0 a1 a2 k, LeO (warplaw24_PoolMade.f k a0 a1 a2) (warplaw24_PoolMade.f (k + 1) a0 a1 a2) := by
 intro a0 a1 a2 k
 obtain ⟨ih0, ih1, ih2, ih3⟩ := warplaw24_PoolMade.mono_l k
 unfold warplaw24_PoolMade.f
 repeat' first
  | (with_reducible exact ih0 _ _ _ _ _ _ _ _)
  | (with_reducible exact ih1 _ _ _ _ _ _ _ _)
  | (with_reducible exact ih2 _ _ _ _ _ _ _ _ _)
  | (with_reducible exact ih3 _ _ _ _ _ _ _)
  | (with_reducible exact warplaw24_Make.mono _ _)
  | (with_reducible exact warpref1_Pool.mono _ _ _ _)
  | (with_reducible exact warpref1_SameEvents.mono _ _ _)
  | (with_reducible exact LeO.refl _)
  | (with_reducible exact LeO.none _)
  | (with_reducible refine LeO.ite ?_ ?_)
  | (with_reducible refine LeO.bind ?_ (fun _ => ?_))
  | exact ih0 _ _ _ _ _ _ _ _
  | exact ih1 _ _ _ _ _ _ _ _
  | exact ih2 _ _ _ _ _ _ _ _ _
  | exact ih3 _ _ _ _ _ _ _
  | exact warplaw24_Make.mono _ _
  | exact warpref1_Pool.mono _ _ _ _
  | exact warpref1_SameEvents.mono _ _ _
  | exact LeO.none _
  | refine LeO.ite ?_ ?_
  | refine LeO.bind ?_ (fun _ => ?_)
set_option maxHeartbeats 8000000 in
set_option maxRecDepth 100000 in
theorem warplaw24_PoolMade.calls (k : Nat) (A0 : Option Addr) (c0 : Nat) (l0 : List Int) (a1 : Int) (A2 : Option Addr) (c2 : Nat) (l2 : List Int) (r : Bool) (w : World) (hr0 : Kd.C (Kd.int .u8) w A0 l0.length l0) (hc0 : l0.length ≤ c0) (hr2 : Kd.C (Kd.int .i64) w A2 l2.length l2) (hc2 : l2.length ≤ c2) (h : warplaw24_PoolMade.f k l0 a1 l2 = some r) (hT_ : Tab w := by first | exact hT_ | exact Tab.drewN hT_ _ | (refine Tab.below hT_ ?_; repeat (first | (with_reducible first | exact HB.out | apply below_alloc | apply pw_below_drewN | apply below_drew1) | exact HB.out))) (hr_ : r = true := by rfl) :
 Calls Tryd.prog 8 #[.slice A0 l0.length c0, .int .u8 a1, .slice A2 l2.length c2] w fun e w' => e = .returned (.bool r) ∧ Below w.heap.size w w' := by
 have hu45 := Tryd.underlying45
 have HR0 := Aside0.mk hr0
 have HC0 := Aside0.mk hc0
 clear hr0 hc0
 have HR2 := Aside0.mk hr2
 have HC2 := Aside0.mk hc2
 clear hr2 hc2
 have HB := Aside0.mk (Below.refl w.heap.size w)
 have H : (if (l2.length : Int) > 400 then ((warplaw24_awake.f).bind fun t410 => (some t410)) else ((warplaw24_Make.f k l0).bind fun t411 => ((pool_Play.f t411 (wrap64 (1 + (Int.tmod (wrap64 (a1)) 64))) l2).bind fun bt414 => ((warpref1_Pool.f k t411 (wrap64 (1 + (Int.tmod (wrap64 (a1)) 64))) l2).bind fun bt418 => (warplaw24_PoolMade.l0 k t411 (wrap64 (1 + (Int.tmod (wrap64 (a1)) 64))) bt414.1 bt414.2 0 0 bt418.1 bt418.2))))) = some r := h
 clear h
 by_cases c4 : (l2.length : Int) > 400
 ·
  rw [if_pos c4] at H
  have c4b0 : decide (400 < (l2.length : Int)) = true := decide_eq_true c4
  have c4b1 : decide (400 < l2.length) = true := decide_eq_true (by omega)
  clear c4
  replace H := Option.bind_eq_some_iff.mp H
  obtain ⟨t410, A50, H⟩ := H
  replace H : (some t410) = some r := H
  have A5 := Aside0.mk A50
  clear A50
  obtain rfl := Option.some.inj H
  go_enter Tryd.func8, Tryd.ntmps8
  go_wp2_with (first | ((with_reducible refine gate_callee (f := 19) rfl ?_); refine goesL_ (some 20) rfl rfl Tryd.func19 (by kernel_rfl) rfl #[] rfl (by (try simp only [List.map_toArray, List.map_cons, List.map_nil]); first | done | rfl | (simp only [List.length_drop, List.length_take]; rfl)) ?_; (with_reducible refine (warplaw24_awake.calls  t410 _ A5.out).mono ?_); rintro e w6 ⟨rfl, hb⟩; refine ⟨_, rfl, ?_⟩; have n0_ := Aside0.mk (below_step (by repeat (first | (with_reducible first | exact HB.out | apply below_alloc | apply pw_below_drewN | apply below_drew1) | exact HB.out)) hb); clear HB; have HB := n0_; clear n0_; (try clear hb); (try clear hb2); (try clear hk); (try clear hi)))
  go_ret
  exact ⟨by first | rfl | (simp [errW_none, errW_some] <;> rfl) | (simp [*, errW_none, errW_some] <;> rfl), by repeat (first | (with_reducible first | exact HB.out | apply below_alloc | apply pw_below_drewN | apply below_drew1) | exact HB.out)⟩
 ·
  rw [if_neg c4] at H
  have c4b0 : decide (400 < (l2.length : Int)) = false := decide_eq_false c4
  have c4b1 : decide (400 < l2.length) = false := decide_eq_false (by omega)
  clear c4
  replace H := Option.bind_eq_some_iff.mp H
  obtain ⟨t411, A70, H⟩ := H
  replace H : ((pool_Play.f t411 (wrap64 (1 + (Int.tmod (wrap64 (a1)) 64))) l2).bind fun bt414 => ((warpref1_Pool.f k t411 (wrap64 (1 + (Int.tmod (wrap64 (a1)) 64))) l2).bind fun bt418 => (warplaw24_PoolMade.l0 k t411 (wrap64 (1 + (Int.tmod (wrap64 (a1)) 64))) bt414.1 bt414.2 0 0 bt418.1 bt418.2))) = some r := H
  have A7 := Aside0.mk A70
  clear A70
  replace H := Option.bind_eq_some_iff.mp H
  obtain ⟨⟨t414, t415⟩, A80, H⟩ := H
  replace H : ((warpref1_Pool.f k t411 (wrap64 (1 + (Int.tmod (wrap64 (a1)) 64))) l2).bind fun bt418 => (warplaw24_PoolMade.l0 k t411 (wrap64 (1 + (Int.tmod (wrap64 (a1)) 64))) t414 t415 0 0 bt418.1 bt418.2)) = some r := H
  have A8 := Aside0.mk A80
  clear A80
  replace H := Option.bind_eq_some_iff.mp H
  obtain ⟨⟨t418, t421⟩, A90, H⟩ := H
  replace H : (warplaw24_PoolMade.l0 k t411 (wrap64 (1 + (Int.tmod (wrap64 (a1)) 64))) t414 t415 0 0 t418 t421) = some r := H
  have A9 := Aside0.mk A90
  clear A90
  have H' := Aside0.mk H
  clear H
  go_enter Tryd.func8, Tryd.ntmps8
  go_wp2_with (first | ((with_reducible refine gate_callee (f := 23) rfl ?_); refine goesL_ (some 22) rfl rfl Tryd.func23 (by kernel_rfl) rfl #[.slice A0 l0.length c0] rfl (by (try simp only [List.map_toArray, List.map_cons, List.map_nil]); first | done | rfl | (simp only [List.length_drop, List.length_take]; rfl)) ?_; (with_reducible refine (warplaw24_Make.calls k _ _ l0 t411 _ ?side1 ?side2 A7.out).mono ?_); (case side1 => repeat (first | exact HR0.out | (with_reducible refine Kd.C_alloc ?_ _) | (with_reducible refine Kd.C_drewN ?_ _) | (with_reducible refine Kd.C_drew ?_))); (case side2 => exact HC0.out); rintro e w10 ⟨v412, rfl, ho0, hb⟩; refine ⟨_, rfl, ?_⟩; have n0_ := Aside0.mk (Kd.S_lower ho0 (below_size (by repeat (first | (with_reducible first | exact HB.out | apply below_alloc | apply pw_below_drewN | apply below_drew1) | exact HB.out)))); have n1_ := Aside0.mk (below_step (by repeat (first | (with_reducible first | exact HB.out | apply below_alloc | apply pw_below_drewN | apply below_drew1) | exact HB.out)) hb); clear HB; have HO413 := n0_; have HB := n1_; clear n0_ n1_; (try clear hb); (try clear hb2); (try clear hk); (try clear hi); (try clear ho0); obtain ⟨Ao11, co11, eo11⟩ := Kd.S_slice HO413.out; subst eo11) | ((with_reducible refine gate_callee (f := 20) rfl ?_); refine goesL_ (some 31) rfl rfl Tryd.func20 (by kernel_rfl) rfl #[.slice Ao11 t411.length co11, .int .i64 (wrap64 (1 + (Int.tmod (wrap64 (a1)) 64))), .slice A2 l2.length c2] rfl (by (try simp only [List.map_toArray, List.map_cons, List.map_nil]); first | done | rfl | (simp only [List.length_drop, List.length_take]; rfl)) ?_; (with_reducible refine (pool_Play.calls _ _ t411 (wrap64 (1 + (Int.tmod (wrap64 (a1)) 64))) _ _ l2 t414 t415 _ ?side1 ?side2 ?side3 ?side4 A8.out).mono ?_); (case side1 => repeat (first | exact (Kd.S_reads' HO413.out).2.2 | (with_reducible refine Kd.C_alloc ?_ _) | (with_reducible refine Kd.C_drewN ?_ _) | (with_reducible refine Kd.C_drew ?_))); (case side2 => exact (Kd.S_reads' HO413.out).2.1); (case side3 => repeat (first | exact (Kd.C_below HR2.out HB.out) | (with_reducible refine Kd.C_alloc ?_ _) | (with_reducible refine Kd.C_drewN ?_ _) | (with_reducible refine Kd.C_drew ?_))); (case side4 => exact HC2.out); rintro e w12 ⟨v416, rfl, ho0, hb⟩; refine ⟨_, rfl, ?_⟩; have n0_ := Aside0.mk (Kd.S_below (by (with_reducible repeat (first | apply Kd.S_alloc | apply Kd.S_drewN | apply Kd.S_drew)); exact HO413.out) hb); have n1_ := Aside0.mk (Kd.R_lower ho0 (below_size (by repeat (first | (with_reducible first | exact HB.out | apply below_alloc | apply pw_below_drewN | apply below_drew1) | exact HB.out)))); have n2_ := Aside0.mk (below_step (by repeat (first | (with_reducible first | exact HB.out | apply below_alloc | apply pw_below_drewN | apply below_drew1) | exact HB.out)) hb); clear HO413; clear HB; have HO413 := n0_; have HO417 := n1_; have HB := n2_; clear n0_ n1_ n2_; (try clear hb); (try clear hb2); (try clear hk); (try clear hi); (try clear ho0)) | ((with_reducible refine gate_callee (f := 21) rfl ?_); refine goesL_ (some 37) rfl rfl Tryd.func21 (by kernel_rfl) rfl #[.slice Ao11 t411.length co11, .int .i64 (wrap64 (1 + (Int.tmod (wrap64 (a1)) 64))), .slice A2 l2.length c2] rfl (by (try simp only [List.map_toArray, List.map_cons, List.map_nil]); first | done | rfl | (simp only [List.length_drop, List.length_take]; rfl)) ?_; (with_reducible refine (warpref1_Pool.calls k _ _ t411 (wrap64 (1 + (Int.tmod (wrap64 (a1)) 64))) _ _ l2 t418 t421 _ ?side1 ?side2 ?side3 ?side4 A9.out).mono ?_); (case side1 => repeat (first | exact (Kd.S_reads' HO413.out).2.2 | (with_reducible refine Kd.C_alloc ?_ _) | (with_reducible refine Kd.C_drewN ?_ _) | (with_reducible refine Kd.C_drew ?_))); (case side2 => exact (Kd.S_reads' HO413.out).2.1); (case side3 => repeat (first | exact (Kd.C_below HR2.out HB.out) | (with_reducible refine Kd.C_alloc ?_ _) | (with_reducible refine Kd.C_drewN ?_ _) | (with_reducible refine Kd.C_drew ?_))); (case side4 => exact HC2.out); rintro e w13 ⟨v419, rfl, ho0, hb⟩; refine ⟨_, rfl, ?_⟩; have n0_ := Aside0.mk (Kd.S_below (by (with_reducible repeat (first | apply Kd.S_alloc | apply Kd.S_drewN | apply Kd.S_drew)); exact HO413.out) hb); have n1_ := Aside0.mk (Kd.R_elder' (by (with_reducible repeat (first | apply Kd.R_alloc | apply Kd.R_drewN | apply Kd.R_drew)); exact HO417.out) (Kd.R_base ho0) hb); have n2_ := Aside0.mk (Kd.R_lower (Kd.R_new' ho0 (Kd.R_lt (by (with_reducible repeat (first | apply Kd.R_alloc | apply Kd.R_drewN | apply Kd.R_drew)); exact HO417.out))) (below_size (by repeat (first | (with_reducible first | exact HB.out | apply below_alloc | apply pw_below_drewN | apply below_drew1) | exact HB.out)))); have n3_ := Aside0.mk (below_step (by repeat (first | (with_reducible first | exact HB.out | apply below_alloc | apply pw_below_drewN | apply below_drew1) | exact HB.out)) hb); clear HO413; clear HO417; clear HB; have HO413 := n0_; have HO417 := n1_; have HO420 := n2_; have HB := n3_; clear n0_ n1_ n2_ n3_; (try clear hb); (try clear hb2); (try clear hk); (try clear hi); (try clear ho0)) | ((with_reducible refine gate_dst (N := 11) rfl ?_); refine box_event ?hg (N := 11) ?hd (cs := #[.slice none 0 0, .int .i64 0]) (t := 45) ?hr ?_; (case hd => rfl); (case hg => rfl); (case hr => first | (go_simp; done) | (go_simp; rfl)); intro gb422 hg w14 hbox hb; have n0_ := Aside0.mk (Kd.S_below (by (with_reducible repeat (first | apply Kd.S_alloc | apply Kd.S_drewN | apply Kd.S_drew)); exact HO413.out) hb); have n1_ := Aside0.mk (Kd.R_below (by (with_reducible repeat (first | apply Kd.R_alloc | apply Kd.R_drewN | apply Kd.R_drew)); exact HO417.out) hb); have n2_ := Aside0.mk (Kd.R_below (by (with_reducible repeat (first | apply Kd.R_alloc | apply Kd.R_drewN | apply Kd.R_drew)); exact HO420.out) hb); have n3_ := Aside0.mk (below_step (by repeat (first | (with_reducible first | exact HB.out | apply below_alloc | apply pw_below_drewN | apply below_drew1) | exact HB.out)) hb); have n4_ := Aside0.mk (hbox); have n5_ := Aside0.mk ((by rw [hg]; exact (below_size (by repeat (first | (with_reducible first | exact HB.out | apply below_alloc | apply pw_below_drewN | apply below_drew1) | exact HB.out))) : w.heap.size ≤ gb422)); have n6_ := Aside0.mk ((by rw [hg]; exact (below_size (by repeat (first | (with_reducible first | exact HB.out | apply below_alloc | apply pw_below_drewN | apply below_drew1) | exact HB.out))) : w.heap.size ≤ gb422)); clear HO413; clear HO417; clear HO420; clear HB; have HO413 := n0_; have HO417 := n1_; have HO420 := n2_; have HB := n3_; have BK422 := n4_; have GW422 := n5_; have GE422 := n6_; clear n0_ n1_ n2_ n3_ n4_ n5_ n6_; clear hb hbox hg; obtain ⟨Ao15, co15, eo15⟩ := Kd.R_slice HO420.out; subst eo15; have hcz16_0 : w14.cell? ⟨gb422, 0, none⟩ = some (.slice none 0 0) := (blk_cell BK422.out 0).trans rfl; have hcz16_1 : w14.cell? ⟨gb422, 1, none⟩ = some (.int .i64 0) := (blk_cell BK422.out 1).trans rfl; have hfz16_0 := blk_frozen BK422.out 0; have hfz16_1 := blk_frozen BK422.out 1))
  go_loopg [12, 13] k (fun kq v12 v13 w' => ∃ (x12_1 : Int) (x13_1 : Int), v12 = .int .i64 x12_1 ∧ v13 = .int .i64 x13_1 ∧ Aside0 (warplaw24_PoolMade.l0 kq t411 (wrap64 (1 + (Int.tmod (wrap64 (a1)) 64))) t414 t415 x12_1 x13_1 t418 t421 = some r) ∧ Aside0 (kq ≤ k) ∧ Aside0 (Kd.S (Kd.slice 3 (Kd.int .i64)) 22 w' w.heap.size (fun _ => True) (.slice Ao11 t411.length co11) t411) ∧ Aside0 (Kd.R k54 54 w' w.heap.size (fun k_ => some k_ ≠ ((.slice Ao15 t418.length co15) : Value).ownBlock) v416 t414) ∧ Aside0 (Kd.R k54 54 w' w.heap.size (fun k_ => some k_ ≠ (v416 : Value).ownBlock) (.slice Ao15 t418.length co15) t418) ∧ Aside0 (w'.heap[gb422]? = some (.cells #[(.slice Ao15 t418.length co15), .int .i64 t421] 45 (0, 0))) ∧ Aside0 (Below w.heap.size w w'))
  case atStart => exact ⟨(0), (0), (by first | rfl | (simp; done) | (simp [*]; done)), (by first | rfl | (simp; done) | (simp [*]; done)), H', ⟨Nat.le_refl _⟩, ⟨by (with_reducible repeat (first | apply Kd.S_alloc | apply Kd.S_drewN | apply Kd.S_drew)); exact Kd.S_mono (Kd.S_far (p := ⟨gb422, 1, none⟩) (Kd.S_far (p := ⟨gb422, 0, none⟩) (Kd.S_types HO413.out BK422.out (by decide)) (fun _ hk => hk.2) (.slice Ao15 t418.length co15)) (fun _ hk => hk.2) (.int .i64 t421)) (fun _ hk => trivial)⟩, ⟨by (with_reducible repeat (first | apply Kd.R_alloc | apply Kd.R_drewN | apply Kd.R_drew)); exact Kd.R_mono (Kd.R_far (p := ⟨gb422, 1, none⟩) (Kd.R_far (p := ⟨gb422, 0, none⟩) (Kd.R_types HO417.out BK422.out (by decide)) (fun _ hk => hk.2) (.slice Ao15 t418.length co15)) (fun _ hk => hk.2) (.int .i64 t421)) (fun _ hk => hk.1.2)⟩, ⟨by (with_reducible repeat (first | apply Kd.R_alloc | apply Kd.R_drewN | apply Kd.R_drew)); exact Kd.R_mono (Kd.R_far (p := ⟨gb422, 1, none⟩) (Kd.R_far (p := ⟨gb422, 0, none⟩) (Kd.R_types HO420.out BK422.out (by decide)) (fun _ hk => hk.2) (.slice Ao15 t418.length co15)) (fun _ hk => hk.2) (.int .i64 t421)) (fun _ hk => hk.1.2)⟩, ⟨by (with_reducible repeat (first | refine blk_drewN ?_ _ | refine blk_drew ?_ | refine blk_alloc ?_ _)); refine blk_put (cs := #[.slice Ao15 t418.length co15, .int .i64 0]) ?_ 1 _ rfl; (with_reducible repeat (first | refine blk_drewN ?_ _ | refine blk_drew ?_ | refine blk_alloc ?_ _)); refine blk_put (cs := #[.slice none 0 0, .int .i64 0]) ?_ 0 _ rfl; (with_reducible repeat (first | refine blk_drewN ?_ _ | refine blk_drew ?_ | refine blk_alloc ?_ _)); exact BK422.out⟩, ⟨by repeat (first | (with_reducible first | exact HB.out | apply below_alloc | apply pw_below_drewN | apply below_drew1 | refine below_set ?_ GE422.out) | exact HB.out)⟩⟩
  case round =>
   clear H'
   (try clear c1); (try clear c2); (try clear p2); (try clear c4); (try clear c4b0); (try clear c4b1); (try clear p6); (try clear c8); (try clear hcz16_0); (try clear hcz16_1); (try clear hfz16_0); (try clear hfz16_1)
   obtain ⟨x12_1, x13_1, rfl, rfl, HA, HK1, HO_7, HO_9, HO_423000, BK422, HB⟩ := hrel
   cases gk with
   | zero => exact absurd HA.out (by simp [warplaw24_PoolMade.l0])
   | succ k1 =>
    have H := HA.out
    clear HA
    simp only [warplaw24_PoolMade.l0] at H
    by_cases c17 : x13_1 < (t411.length : Int)
    ·
     rw [if_pos c17] at H
     have c17b0 : decide (x13_1 < (t411.length : Int)) = true := decide_eq_true c17
     clear c17
     by_cases c18 : 0 ≤ x13_1
     ·
      rw [if_pos c18] at H
      have c18b0 : decide (0 ≤ x13_1) = true := decide_eq_true c18
      clear c18
      have H' := Aside0.mk H
      clear H
      have p423 : 0 ≤ (x13_1 : Int) := of_decide_eq_true (by first | (with_reducible assumption) | assumption)
      have q423 : x13_1 < (t411.length : Int) := of_decide_eq_true (by first | (with_reducible assumption) | assumption)
      obtain ⟨ad423, A423_0, c423_0, e423, hx423_0, hl423_0, hi423_0⟩ := at_L4 (Kd.S_reads' HO_7.out).2.2 x13_1 p423 q423
      cases e423
      obtain ⟨ce423, hce423, hMe423, hcc423⟩ := Kd.S_get HO_7.out [] x13_1 p423 (by first | exact q423 | exact of_decide_eq_true (by first | (with_reducible assumption) | assumption) | (have e_ := (Kd.S_reads' HO_7.out).1; omega))
      obtain ⟨ve423_0, rfl, ge423_0⟩ := hMe423
      have hv423_0 := hcc423 0 _ rfl
      rw [Nat.add_zero, show ((Kd.slice 3 (Kd.int .i64))).sz = 1 from rfl, Nat.mul_one] at hv423_0
      replace hv423_0 := Option.some.inj (hv423_0.symm.trans hx423_0)
      rw [hv423_0] at ge423_0
      have HL423_0 := Aside0.mk (show Kd.R (Kd.int .i64) 3 _ _ _ _ (rd_L4 t411 x13_1) from ge423_0)
      clear hv423_0 ge423_0
      clear hcc423 hce423
      have HR423_0 := Aside0.mk hi423_0
      have HC423_0 := Aside0.mk hl423_0
      clear hi423_0 hl423_0
      replace p423 := eq_true p423
      replace q423 := eq_true q423
      go_wp2
      go_roundg k1
      case measure => have := HK1.out; omega
      case rel => exact ⟨(wrap64 (x12_1 + ((rd_L4 t411 x13_1).length : Int))), (wrap64 (x13_1 + 1)), (by first | rfl | (simp; done) | (simp [*]; done)), (by first | rfl | (simp; done) | (simp [*]; done)), H', ⟨by have := HK1.out; omega⟩, ⟨by (with_reducible repeat (first | apply Kd.S_alloc | apply Kd.S_drewN | apply Kd.S_drew)); exact HO_7.out⟩, ⟨by (with_reducible repeat (first | apply Kd.R_alloc | apply Kd.R_drewN | apply Kd.R_drew)); exact HO_9.out⟩, ⟨by (with_reducible repeat (first | apply Kd.R_alloc | apply Kd.R_drewN | apply Kd.R_drew)); exact HO_423000.out⟩, ⟨by (with_reducible repeat (first | refine blk_drewN ?_ _ | refine blk_drew ?_ | refine blk_alloc ?_ _)); exact BK422.out⟩, ⟨by repeat (first | (with_reducible first | exact HB.out | apply below_alloc | apply pw_below_drewN | apply below_drew1 | refine below_set ?_ GE422.out) | exact HB.out)⟩⟩
     ·
      rw [if_neg c18] at H
      exact absurd H (by simp)
    ·
     rw [if_neg c17] at H
     have c17b0 : decide (x13_1 < (t411.length : Int)) = false := decide_eq_false c17
     clear c17
     by_cases c19 : 0 ≤ x12_1
     ·
      rw [if_pos c19] at H
      have c19b0 := eq_true c19
      have c19b1 : decide (0 ≤ x12_1) = true := decide_eq_true c19
      clear c19
      by_cases c20 : (x12_1 : Int).toNat ≤ 35184372088832
      ·
       rw [if_pos c20] at H
       have c20b0 := eq_true c20
       have c20b1 : decide ((x12_1 : Int).toNat ≤ 35184372088832) = true := decide_eq_true c20
       clear c20
       obtain ⟨y424, hy424⟩ : ∃ y_ : List Int, y_ = (List.replicate (x12_1 : Int).toNat 0) := ⟨_, rfl⟩
       replace H : (warplaw24_PoolMade.l1 k1 (wrap64 (1 + (Int.tmod (wrap64 (a1)) 64))) t414 t415 x12_1 y424 0 t418 t421) = some r := by first | (rw [hy424]; with_reducible exact H) | (have H2_ := (Option.bind_some _ _).symm.trans H; rw [hy424]; with_reducible exact H2_) | (have H2_ := (Option.bind_some _ _).symm.trans H; with_reducible exact H2_) | with_reducible exact H | (rw [hy424]; exact H) | exact H
       have Ny424 := Aside0.mk hy424
       clear hy424
       have H' := Aside0.mk H
       clear H
       go_wp2_with (first | ((with_reducible refine gate_dst (N := 52) rfl ?_); refine Kd.R_make (Kd.int .i64) _ 3 rfl (N := 52) rfl 22 _ _ rfl x12_1 rfl rfl Tryd.underlying22 (.int .i64 0) 8 info3 rfl (by decide) (by omega) 0 (ok := fun _ => True) (okp := fun _ => True) rfl (fun _ hk => hk) trivial (of_decide_eq_true (by first | (with_reducible assumption) | assumption)) (Nat.le_trans (Nat.mul_le_mul_right _ (of_decide_eq_true (by first | (with_reducible assumption) | assumption) : x12_1.toNat ≤ 35184372088832)) (by omega)) (Below.refl _ _) (Nat.le_refl _) ?_; intro v425 w21 ho22 hb hg_ hnew_; clear hg_ hnew_; (first | rw [← Ny424.out] at ho22 | (simp only [Int.reduceToNat] at ho22; rw [← Ny424.out] at ho22)); have n0_ := Aside0.mk (Kd.S_elder' (by (with_reducible repeat (first | apply Kd.S_alloc | apply Kd.S_drewN | apply Kd.S_drew)); exact HO_7.out) (Kd.R_base ho22) hb); have n1_ := Aside0.mk (Kd.R_below (by (with_reducible repeat (first | apply Kd.R_alloc | apply Kd.R_drewN | apply Kd.R_drew)); exact HO_9.out) hb); have n2_ := Aside0.mk (Kd.R_below (by (with_reducible repeat (first | apply Kd.R_alloc | apply Kd.R_drewN | apply Kd.R_drew)); exact HO_423000.out) hb); have n3_ := Aside0.mk (Kd.R_lower ho22 (below_size (by repeat (first | (with_reducible first | exact HB.out | apply below_alloc | apply pw_below_drewN | apply below_drew1 | refine below_set ?_ GE422.out) | exact HB.out)))); have n4_ := Aside0.mk (blk_below (g := gb422) (o := .cells #[.slice Ao15 t418.length co15, .int .i64 t421] 45 (0, 0)) (by (with_reducible repeat (first | refine blk_drewN ?_ _ | refine blk_drew ?_ | refine blk_alloc ?_ _)); exact BK422.out) hb); have n5_ := Aside0.mk (below_step (by repeat (first | (with_reducible first | exact HB.out | apply below_alloc | apply pw_below_drewN | apply below_drew1 | refine below_set ?_ GE422.out) | exact HB.out)) hb); clear HO_7; clear HO_9; clear HO_423000; clear BK422; clear HB; have HO_7 := n0_; have HO_9 := n1_; have HO_423000 := n2_; have HO426 := n3_; have BK422 := n4_; have HB := n5_; clear n0_ n1_ n2_ n3_ n4_ n5_; clear hb ho22))
       go_loopg [15] k1 (fun kq v15 w' => ∃ (x14_2 : List Int) (x15_2 : Int), v15 = .int .i64 x15_2 ∧ Aside0 (warplaw24_PoolMade.l1 kq (wrap64 (1 + (Int.tmod (wrap64 (a1)) 64))) t414 t415 x12_1 x14_2 x15_2 t418 t421 = some r) ∧ Aside0 (kq ≤ k1) ∧ Aside0 (Kd.R k54 54 w' w.heap.size (fun k_ => some k_ ≠ ((.slice Ao15 t418.length co15) : Value).ownBlock) v416 t414) ∧ Aside0 (Kd.R (Kd.int .i64) 3 w' w.heap.size (fun _ => True) v425 x14_2) ∧ Aside0 (Kd.R k54 54 w' w.heap.size (fun k_ => some k_ ≠ (v416 : Value).ownBlock) (.slice Ao15 t418.length co15) t418) ∧ Aside0 (w'.heap[gb422]? = some (.cells #[(.slice Ao15 t418.length co15), .int .i64 t421] 45 (0, 0))) ∧ Aside0 (Below w.heap.size w w'))
       case atStart => exact ⟨(y424), (0), (by first | rfl | (simp; done) | (simp [*]; done)), H', ⟨Nat.le_refl _⟩, ⟨by (with_reducible repeat (first | apply Kd.R_alloc | apply Kd.R_drewN | apply Kd.R_drew)); exact HO_9.out⟩, ⟨by (with_reducible repeat (first | apply Kd.R_alloc | apply Kd.R_drewN | apply Kd.R_drew)); exact HO426.out⟩, ⟨by (with_reducible repeat (first | apply Kd.R_alloc | apply Kd.R_drewN | apply Kd.R_drew)); exact HO_423000.out⟩, ⟨by (with_reducible repeat (first | refine blk_drewN ?_ _ | refine blk_drew ?_ | refine blk_alloc ?_ _)); exact BK422.out⟩, ⟨by repeat (first | (with_reducible first | exact HB.out | apply below_alloc | apply pw_below_drewN | apply below_drew1 | refine below_set ?_ GE422.out) | exact HB.out)⟩⟩
       case round =>
        clear H'
        (try clear c1); (try clear c2); (try clear p2); (try clear c4); (try clear c4b0); (try clear c4b1); (try clear p4); (try clear q4); (try clear hx4); (try clear p6); (try clear c8); (try clear c17); (try clear c17b0); (try clear c18); (try clear c18b0); (try clear c19); (try clear c19b0); (try clear c19b1); (try clear c20); (try clear c20b0); (try clear c20b1); (try clear c21); (try clear hcz16_0); (try clear hcz16_1); (try clear hfz16_0); (try clear hfz16_1); (try clear hx423_0); (try clear p2); (try clear p423); (try clear p6); (try clear q423)
        obtain ⟨x14_2, x15_2, rfl, HA, HK2, HO_9, HO_14, HO_423000, BK422, HB⟩ := hrel
        cases gk with
        | zero => exact absurd HA.out (by simp [warplaw24_PoolMade.l1])
        | succ k2 =>
         have H := HA.out
         clear HA
         simp only [warplaw24_PoolMade.l1] at H
         by_cases c23 : x15_2 < (t414.length : Int)
         ·
          rw [if_pos c23] at H
          have c23b0 : decide (x15_2 < (t414.length : Int)) = true := decide_eq_true c23
          clear c23
          have HC24 := Aside0.mk H
          clear H
          obtain ⟨Ao25, co25, eo25⟩ := Kd.R_slice HO_9.out
          subst eo25
          go_upto_region 16 with (fail)
          go_cut [92] (fun v92 wc => ∃ (kq : Nat) (x92_23 : Bool), v92 = .bool x92_23 ∧ Aside0 (warplaw24_PoolMade.j2 kq (wrap64 (1 + (Int.tmod (wrap64 (a1)) 64))) t414 t415 x12_1 x14_2 x15_2 x92_23 t418 t421 = some r) ∧ Aside0 (kq ≤ k2) ∧ Aside0 (Kd.R k54 54 wc w.heap.size (fun k_ => some k_ ≠ ((.slice Ao15 t418.length co15) : Value).ownBlock) (.slice Ao25 t414.length co25) t414) ∧ Aside0 (Kd.R (Kd.int .i64) 3 wc w.heap.size (fun _ => True) v425 x14_2) ∧ Aside0 (Kd.R k54 54 wc w.heap.size (fun k_ => some k_ ≠ ((.slice Ao25 t414.length co25) : Value).ownBlock) (.slice Ao15 t418.length co15) t418) ∧ Aside0 (wc.heap[gb422]? = some (.cells #[(.slice Ao15 t418.length co15), .int .i64 t421] 45 (0, 0))) ∧ Aside0 (Below w.heap.size w wc))
          case first =>
           have H := HC24.out
           clear HC24
           by_cases c26 : 0 ≤ x15_2
           ·
            rw [if_pos c26] at H
            have c26b0 : decide (0 ≤ x15_2) = true := decide_eq_true c26
            clear c26
            (first | rw [c26b0] | (simp only [i64_w, i32_w]; rw [c26b0]) | skip)
            by_cases c27 : ((rd_T54 t414 x15_2).f1.f1) < 0
            ·
             rw [if_pos c27] at H
             have c27b0 : decide (((rd_T54 t414 x15_2).f1.f1) < 0) = true := decide_eq_true c27
             clear c27
             have H' := Aside0.mk H
             clear H
             have p427 : 0 ≤ (x15_2 : Int) := of_decide_eq_true (by first | (with_reducible assumption) | assumption)
             have q427 : x15_2 < (t414.length : Int) := of_decide_eq_true (by first | (with_reducible assumption) | assumption)
             obtain ⟨ad427, e427, hx427_0, hx427_1, hx427_2, hx427_3, hx427_4, hx427_5, hx427_6, hx427_7⟩ := at_T54 (Kd.R_reads' HO_9.out).2.2 x15_2 p427 q427
             cases e427
             replace p427 := eq_true p427
             replace q427 := eq_true q427
             go_wp2
             go_meet
             case rel => exact ⟨_, (true), (by first | rfl | (simp; done) | (simp [*]; done)), H', ⟨by have := HK1.out; have := HK2.out; first | omega | exact Nat.le_refl _⟩, ⟨by (with_reducible repeat (first | apply Kd.R_alloc | apply Kd.R_drewN | apply Kd.R_drew)); exact HO_9.out⟩, ⟨by (with_reducible repeat (first | apply Kd.R_alloc | apply Kd.R_drewN | apply Kd.R_drew)); exact HO_14.out⟩, ⟨by (with_reducible repeat (first | apply Kd.R_alloc | apply Kd.R_drewN | apply Kd.R_drew)); exact HO_423000.out⟩, ⟨by (with_reducible repeat (first | refine blk_drewN ?_ _ | refine blk_drew ?_ | refine blk_alloc ?_ _)); exact BK422.out⟩, ⟨by repeat (first | (with_reducible first | exact HB.out | apply below_alloc | apply pw_below_drewN | apply below_drew1 | refine below_set ?_ GE422.out) | exact HB.out)⟩⟩
            ·
             rw [if_neg c27] at H
             have c27b0 : decide (((rd_T54 t414 x15_2).f1.f1) < 0) = false := decide_eq_false c27
             clear c27
             by_cases c28 : ((rd_T54 t414 x15_2).f1.f1) ≥ x12_1
             ·
              rw [if_pos c28] at H
              have c28b0 : decide (x12_1 ≤ ((rd_T54 t414 x15_2).f1.f1)) = true := decide_eq_true c28
              clear c28
              have H' := Aside0.mk H
              clear H
              have p427 : 0 ≤ (x15_2 : Int) := of_decide_eq_true (by first | (with_reducible assumption) | assumption)
              have q427 : x15_2 < (t414.length : Int) := of_decide_eq_true (by first | (with_reducible assumption) | assumption)
              obtain ⟨ad427, e427, hx427_0, hx427_1, hx427_2, hx427_3, hx427_4, hx427_5, hx427_6, hx427_7⟩ := at_T54 (Kd.R_reads' HO_9.out).2.2 x15_2 p427 q427
              cases e427
              replace p427 := eq_true p427
              replace q427 := eq_true q427
              have p428 : 0 ≤ (x15_2 : Int) := of_decide_eq_true (by first | (with_reducible assumption) | assumption)
              have q428 : x15_2 < (t414.length : Int) := of_decide_eq_true (by first | (with_reducible assumption) | assumption)
              obtain ⟨ad428, e428, hx428_0, hx428_1, hx428_2, hx428_3, hx428_4, hx428_5, hx428_6, hx428_7⟩ := at_T54 (Kd.R_reads' HO_9.out).2.2 x15_2 p428 q428
              obtain rfl : ad427 = ad428 := (by injection e428)
              replace p428 := eq_true p428
              replace q428 := eq_true q428
              go_wp2
              go_meet
              case rel => exact ⟨_, (true), (by first | rfl | (simp; done) | (simp [*]; done)), H', ⟨by have := HK1.out; have := HK2.out; first | omega | exact Nat.le_refl _⟩, ⟨by (with_reducible repeat (first | apply Kd.R_alloc | apply Kd.R_drewN | apply Kd.R_drew)); exact HO_9.out⟩, ⟨by (with_reducible repeat (first | apply Kd.R_alloc | apply Kd.R_drewN | apply Kd.R_drew)); exact HO_14.out⟩, ⟨by (with_reducible repeat (first | apply Kd.R_alloc | apply Kd.R_drewN | apply Kd.R_drew)); exact HO_423000.out⟩, ⟨by (with_reducible repeat (first | refine blk_drewN ?_ _ | refine blk_drew ?_ | refine blk_alloc ?_ _)); exact BK422.out⟩, ⟨by repeat (first | (with_reducible first | exact HB.out | apply below_alloc | apply pw_below_drewN | apply below_drew1 | refine below_set ?_ GE422.out) | exact HB.out)⟩⟩
             ·
              rw [if_neg c28] at H
              have c28b0 : decide (x12_1 ≤ ((rd_T54 t414 x15_2).f1.f1)) = false := decide_eq_false c28
              clear c28
              by_cases c29 : ((rd_T54 t414 x15_2).f0) < 0
              ·
               rw [if_pos c29] at H
               have c29b0 : decide (((rd_T54 t414 x15_2).f0) < 0) = true := decide_eq_true c29
               clear c29
               have H' := Aside0.mk H
               clear H
               have p427 : 0 ≤ (x15_2 : Int) := of_decide_eq_true (by first | (with_reducible assumption) | assumption)
               have q427 : x15_2 < (t414.length : Int) := of_decide_eq_true (by first | (with_reducible assumption) | assumption)
               obtain ⟨ad427, e427, hx427_0, hx427_1, hx427_2, hx427_3, hx427_4, hx427_5, hx427_6, hx427_7⟩ := at_T54 (Kd.R_reads' HO_9.out).2.2 x15_2 p427 q427
               cases e427
               replace p427 := eq_true p427
               replace q427 := eq_true q427
               have p428 : 0 ≤ (x15_2 : Int) := of_decide_eq_true (by first | (with_reducible assumption) | assumption)
               have q428 : x15_2 < (t414.length : Int) := of_decide_eq_true (by first | (with_reducible assumption) | assumption)
               obtain ⟨ad428, e428, hx428_0, hx428_1, hx428_2, hx428_3, hx428_4, hx428_5, hx428_6, hx428_7⟩ := at_T54 (Kd.R_reads' HO_9.out).2.2 x15_2 p428 q428
               obtain rfl : ad427 = ad428 := (by injection e428)
               replace p428 := eq_true p428
               replace q428 := eq_true q428
               have p429 : 0 ≤ (x15_2 : Int) := of_decide_eq_true (by first | (with_reducible assumption) | assumption)
               have q429 : x15_2 < (t414.length : Int) := of_decide_eq_true (by first | (with_reducible assumption) | assumption)
               obtain ⟨ad429, e429, hx429_0, hx429_1, hx429_2, hx429_3, hx429_4, hx429_5, hx429_6, hx429_7⟩ := at_T54 (Kd.R_reads' HO_9.out).2.2 x15_2 p429 q429
               obtain rfl : ad427 = ad429 := (by injection e429)
               replace p429 := eq_true p429
               replace q429 := eq_true q429
               go_wp2
               go_meet
               case rel => exact ⟨_, (true), (by first | rfl | (simp; done) | (simp [*]; done)), H', ⟨by have := HK1.out; have := HK2.out; first | omega | exact Nat.le_refl _⟩, ⟨by (with_reducible repeat (first | apply Kd.R_alloc | apply Kd.R_drewN | apply Kd.R_drew)); exact HO_9.out⟩, ⟨by (with_reducible repeat (first | apply Kd.R_alloc | apply Kd.R_drewN | apply Kd.R_drew)); exact HO_14.out⟩, ⟨by (with_reducible repeat (first | apply Kd.R_alloc | apply Kd.R_drewN | apply Kd.R_drew)); exact HO_423000.out⟩, ⟨by (with_reducible repeat (first | refine blk_drewN ?_ _ | refine blk_drew ?_ | refine blk_alloc ?_ _)); exact BK422.out⟩, ⟨by repeat (first | (with_reducible first | exact HB.out | apply below_alloc | apply pw_below_drewN | apply below_drew1 | refine below_set ?_ GE422.out) | exact HB.out)⟩⟩
              ·
               rw [if_neg c29] at H
               have c29b0 : decide (((rd_T54 t414 x15_2).f0) < 0) = false := decide_eq_false c29
               clear c29
               have H' := Aside0.mk H
               clear H
               have p427 : 0 ≤ (x15_2 : Int) := of_decide_eq_true (by first | (with_reducible assumption) | assumption)
               have q427 : x15_2 < (t414.length : Int) := of_decide_eq_true (by first | (with_reducible assumption) | assumption)
               obtain ⟨ad427, e427, hx427_0, hx427_1, hx427_2, hx427_3, hx427_4, hx427_5, hx427_6, hx427_7⟩ := at_T54 (Kd.R_reads' HO_9.out).2.2 x15_2 p427 q427
               cases e427
               replace p427 := eq_true p427
               replace q427 := eq_true q427
               have p428 : 0 ≤ (x15_2 : Int) := of_decide_eq_true (by first | (with_reducible assumption) | assumption)
               have q428 : x15_2 < (t414.length : Int) := of_decide_eq_true (by first | (with_reducible assumption) | assumption)
               obtain ⟨ad428, e428, hx428_0, hx428_1, hx428_2, hx428_3, hx428_4, hx428_5, hx428_6, hx428_7⟩ := at_T54 (Kd.R_reads' HO_9.out).2.2 x15_2 p428 q428
               obtain rfl : ad427 = ad428 := (by injection e428)
               replace p428 := eq_true p428
               replace q428 := eq_true q428
               have p429 : 0 ≤ (x15_2 : Int) := of_decide_eq_true (by first | (with_reducible assumption) | assumption)
               have q429 : x15_2 < (t414.length : Int) := of_decide_eq_true (by first | (with_reducible assumption) | assumption)
               obtain ⟨ad429, e429, hx429_0, hx429_1, hx429_2, hx429_3, hx429_4, hx429_5, hx429_6, hx429_7⟩ := at_T54 (Kd.R_reads' HO_9.out).2.2 x15_2 p429 q429
               obtain rfl : ad427 = ad429 := (by injection e429)
               replace p429 := eq_true p429
               replace q429 := eq_true q429
               have p430 : 0 ≤ (x15_2 : Int) := of_decide_eq_true (by first | (with_reducible assumption) | assumption)
               have q430 : x15_2 < (t414.length : Int) := of_decide_eq_true (by first | (with_reducible assumption) | assumption)
               obtain ⟨ad430, e430, hx430_0, hx430_1, hx430_2, hx430_3, hx430_4, hx430_5, hx430_6, hx430_7⟩ := at_T54 (Kd.R_reads' HO_9.out).2.2 x15_2 p430 q430
               obtain rfl : ad427 = ad430 := (by injection e430)
               replace p430 := eq_true p430
               replace q430 := eq_true q430
               go_wp2
               go_meet
               case rel => exact ⟨_, (decide (((rd_T54 t414 x15_2).f0) ≥ (wrap64 (1 + (Int.tmod (wrap64 (a1)) 64))))), (by first | rfl | (simp; done) | (simp [*]; done)), H', ⟨by have := HK1.out; have := HK2.out; first | omega | exact Nat.le_refl _⟩, ⟨by (with_reducible repeat (first | apply Kd.R_alloc | apply Kd.R_drewN | apply Kd.R_drew)); exact HO_9.out⟩, ⟨by (with_reducible repeat (first | apply Kd.R_alloc | apply Kd.R_drewN | apply Kd.R_drew)); exact HO_14.out⟩, ⟨by (with_reducible repeat (first | apply Kd.R_alloc | apply Kd.R_drewN | apply Kd.R_drew)); exact HO_423000.out⟩, ⟨by (with_reducible repeat (first | refine blk_drewN ?_ _ | refine blk_drew ?_ | refine blk_alloc ?_ _)); exact BK422.out⟩, ⟨by repeat (first | (with_reducible first | exact HB.out | apply below_alloc | apply pw_below_drewN | apply below_drew1 | refine below_set ?_ GE422.out) | exact HB.out)⟩⟩
           ·
            rw [if_neg c26] at H
            exact absurd H (by simp)
          case rest =>
           clear HC24
           (try clear c1); (try clear c2); (try clear p2); (try clear c4); (try clear c4b0); (try clear c4b1); (try clear p4); (try clear q4); (try clear hx4); (try clear p6); (try clear c8); (try clear c17); (try clear c17b0); (try clear c18); (try clear c18b0); (try clear c19); (try clear c19b0); (try clear c19b1); (try clear c20); (try clear c20b0); (try clear c20b1); (try clear c21); (try clear c23); (try clear c23b0); (try clear c26); (try clear c26b0); (try clear c27); (try clear c27b0); (try clear c28); (try clear c28b0); (try clear c29); (try clear c29b0); (try clear hcz16_0); (try clear hcz16_1); (try clear hfz16_0); (try clear hfz16_1); (try clear hx423_0); (try clear hx427_0); (try clear hx427_1); (try clear hx427_2); (try clear hx427_3); (try clear hx427_4); (try clear hx427_5); (try clear hx427_6); (try clear hx427_7); (try clear hx428_0); (try clear hx428_1); (try clear hx428_2); (try clear hx428_3); (try clear hx428_4); (try clear hx428_5); (try clear hx428_6); (try clear hx428_7); (try clear hx429_0); (try clear hx429_1); (try clear hx429_2); (try clear hx429_3); (try clear hx429_4); (try clear hx429_5); (try clear hx429_6); (try clear hx429_7); (try clear hx430_0); (try clear hx430_1); (try clear hx430_2); (try clear hx430_3); (try clear hx430_4); (try clear hx430_5); (try clear hx430_6); (try clear hx430_7); (try clear p2); (try clear p4); (try clear p423); (try clear p427); (try clear p428); (try clear p429); (try clear p430); (try clear p6); (try clear q4); (try clear q423); (try clear q427); (try clear q428); (try clear q429); (try clear q430)
           obtain ⟨kq, x92_23, rfl, HA, HJ23, HO_9, HO_14, HO_423000, BK422, HB⟩ := hcut
           cases kq with
           | zero => exact absurd HA.out (by simp [warplaw24_PoolMade.j2])
           | succ kj23 =>
            have H := HA.out
            clear HA
            simp only [warplaw24_PoolMade.j2] at H
            by_cases c30 : x92_23 = true
            ·
             subst c30
             have H1 : (some false) = some r := by rw [if_pos rfl] at H; exact H
             clear H
             have H := H1
             clear H1
             exact absurd (hr_.symm.trans (Option.some.inj H).symm) (by decide)
            ·
             replace c30 := Bool.eq_false_iff.mpr c30
             subst c30
             have H1 : (if 0 ≤ x15_2 then (if x15_2 < (t414.length : Int) then (if 0 ≤ ((rd_T54 t414 x15_2).f1.f1) then (if ((rd_T54 t414 x15_2).f1.f1) < (x14_2.length : Int) then (warplaw24_PoolMade.l1 kj23 (wrap64 (1 + (Int.tmod (wrap64 (a1)) 64))) t414 t415 x12_1 (x14_2.set (((rd_T54 t414 x15_2).f1.f1) : Int).toNat (wrap64 ((rd x14_2 ((rd_T54 t414 x15_2).f1.f1)) + 1))) (wrap64 (x15_2 + 1)) t418 t421) else (none)) else (none)) else (none)) else (none)) = some r := by rw [if_neg (show ¬ (false = true) by decide)] at H; exact H
             clear H
             have H := H1
             clear H1
             by_cases c31 : 0 ≤ x15_2
             ·
              rw [if_pos c31] at H
              have c31b0 : decide (0 ≤ x15_2) = true := decide_eq_true c31
              clear c31
              by_cases c32 : x15_2 < (t414.length : Int)
              ·
               rw [if_pos c32] at H
               have c32b0 : decide (x15_2 < (t414.length : Int)) = true := decide_eq_true c32
               clear c32
               by_cases c33 : 0 ≤ ((rd_T54 t414 x15_2).f1.f1)
               ·
                rw [if_pos c33] at H
                have c33b0 : decide (0 ≤ ((rd_T54 t414 x15_2).f1.f1)) = true := decide_eq_true c33
                clear c33
                by_cases c34 : ((rd_T54 t414 x15_2).f1.f1) < (x14_2.length : Int)
                ·
                 rw [if_pos c34] at H
                 have c34b0 : decide (((rd_T54 t414 x15_2).f1.f1) < (x14_2.length : Int)) = true := decide_eq_true c34
                 clear c34
                 obtain ⟨y433, hy433⟩ : ∃ y_ : List Int, y_ = (x14_2.set (((rd_T54 t414 x15_2).f1.f1) : Int).toNat (wrap64 ((rd x14_2 ((rd_T54 t414 x15_2).f1.f1)) + 1))) := ⟨_, rfl⟩
                 replace H : (warplaw24_PoolMade.l1 kj23 (wrap64 (1 + (Int.tmod (wrap64 (a1)) 64))) t414 t415 x12_1 y433 (wrap64 (x15_2 + 1)) t418 t421) = some r := by first | (rw [hy433]; with_reducible exact H) | (have H2_ := (Option.bind_some _ _).symm.trans H; rw [hy433]; with_reducible exact H2_) | (have H2_ := (Option.bind_some _ _).symm.trans H; with_reducible exact H2_) | with_reducible exact H | (rw [hy433]; exact H) | exact H
                 have Ny433 := Aside0.mk hy433
                 clear hy433
                 have H' := Aside0.mk H
                 clear H
                 have p431 : 0 ≤ (x15_2 : Int) := of_decide_eq_true (by first | (with_reducible assumption) | assumption)
                 have q431 : x15_2 < (t414.length : Int) := of_decide_eq_true (by first | (with_reducible assumption) | assumption)
                 obtain ⟨ad431, e431, hx431_0, hx431_1, hx431_2, hx431_3, hx431_4, hx431_5, hx431_6, hx431_7⟩ := at_T54 (Kd.R_reads' HO_9.out).2.2 x15_2 p431 q431
                 cases e431
                 replace p431 := eq_true p431
                 replace q431 := eq_true q431
                 obtain ⟨Ao36, co36, eo36⟩ := Kd.R_slice HO_14.out
                 subst eo36
                 have p432 : 0 ≤ (((rd_T54 t414 x15_2).f1.f1) : Int) := of_decide_eq_true (by first | (with_reducible assumption) | assumption)
                 have q432 : ((rd_T54 t414 x15_2).f1.f1) < (x14_2.length : Int) := of_decide_eq_true (by first | (with_reducible assumption) | assumption)
                 obtain ⟨ad432, e432, hx432_0⟩ := Kd.at_int (Kd.R_reads' HO_14.out).2.2 ((rd_T54 t414 x15_2).f1.f1) p432 q432
                 cases e432
                 replace p432 := eq_true p432
                 replace q432 := eq_true q432
                 have p35 : 0 ≤ (((rd_T54 t414 x15_2).f1.f1) : Int) := of_decide_eq_true (by first | (with_reducible assumption) | assumption)
                 have q35 : (((rd_T54 t414 x15_2).f1.f1) : Int) < ((x14_2.length : Int) : Int) := of_decide_eq_true (by first | (with_reducible assumption) | assumption)
                 obtain ⟨go35, co35, eo35, gb35, gl35, cl35, HG35⟩ := Kd.R_form HO_14.out (by omega)
                 (first | cases eo35 | (injection eo35 with ea_ en_ ec_; (first | subst ea_ | (injection ea_ with ea_; subst ea_)); subst ec_; clear en_))
                 have GB35 := Aside0.mk gb35
                 have GG35 := Aside0.mk HG35
                 clear gb35 gl35 HG35
                 (first | simp only [add_plain] at hx432_0 | skip)
                 obtain ⟨hx35_0, hf35_0⟩ := Kd.R_celln 0 HO_14.out (((rd_T54 t414 x15_2).f1.f1) : Int) p35 q35
                 replace p35 := eq_true p35
                 replace q35 := eq_true q35
                 have HP37 := Kd.R_putg HO_14.out (((rd_T54 t414 x15_2).f1.f1) : Int) (wrap64 ((rd x14_2 ((rd_T54 t414 x15_2).f1.f1)) + 1))
                 go_wp2_with (first | ((with_reducible refine gate_store (t := 3) (p := 103) rfl ?_); refine store_event (t := 3) (p := 103) (v := ?vo_w38) (w1 := (wc.setCell ⟨go35, (((rd_T54 t414 x15_2).f1.f1) : Int).toNat, none⟩ (.int .i64 (wrap64 ((rd x14_2 ((rd_T54 t414 x15_2).f1.f1)) + 1))))) ?hg ?ho ?hn ?hr ?_; (case ho => rfl); (case hg => rfl); (case hn => rfl); (case hr => first | (go_simp; done) | (go_simp; rfl)); intro w38 hw; have hg : wc.grownBy w38 (some go35) := (by rw [hw]; exact HP37.2); have hp_ : Kd.R (Kd.int .i64) 3 w38 w.heap.size (fun _ => True) (.slice (some ⟨go35, 0, none⟩) x14_2.length co36) y433 := (by rw [hw, Ny433.out]; exact HP37.1); clear HP37; have n0_ := Aside0.mk (Kd.R_over' (v := (.slice (some ⟨go35, 0, none⟩) x14_2.length co36)) (by (with_reducible repeat (first | apply Kd.R_alloc | apply Kd.R_drewN | apply Kd.R_drew)); exact HO_9.out) (Kd.R_typed HO_14.out) (by decide) hg); have n1_ := Aside0.mk (hp_); have n2_ := Aside0.mk (Kd.R_over' (v := (.slice (some ⟨go35, 0, none⟩) x14_2.length co36)) (by (with_reducible repeat (first | apply Kd.R_alloc | apply Kd.R_drewN | apply Kd.R_drew)); exact HO_423000.out) (Kd.R_typed HO_14.out) (by decide) hg); have n3_ := Aside0.mk (blk_grown (g := gb422) (o := .cells #[.slice Ao15 t418.length co15, .int .i64 t421] 45 (0, 0)) (by (with_reducible repeat (first | refine blk_drewN ?_ _ | refine blk_drew ?_ | refine blk_alloc ?_ _)); exact BK422.out) hg (Kd.R_ne HO_14.out BK422.out (by decide))); have n4_ := Aside0.mk ((by rw [hw]; exact below_set (HB.out) GB35.out : Below w.heap.size w w38)); clear HO_9; clear HO_14; clear HO_423000; clear BK422; clear HB; have HO_9 := n0_; have HO_14 := n1_; have HO_423000 := n2_; have BK422 := n3_; have HB := n4_; clear n0_ n1_ n2_ n3_ n4_; clear hg hw hp_))
                 go_roundg kj23
                 case measure => have := HK1.out; have := HK2.out; have := HJ23.out; omega
                 case rel => exact ⟨(y433), (wrap64 (x15_2 + 1)), (by first | rfl | (simp; done) | (simp [*]; done)), H', ⟨by have := HK1.out; have := HK2.out; have := HJ23.out; omega⟩, ⟨by (with_reducible repeat (first | apply Kd.R_alloc | apply Kd.R_drewN | apply Kd.R_drew)); exact HO_9.out⟩, ⟨by (with_reducible repeat (first | apply Kd.R_alloc | apply Kd.R_drewN | apply Kd.R_drew)); exact HO_14.out⟩, ⟨by (with_reducible repeat (first | apply Kd.R_alloc | apply Kd.R_drewN | apply Kd.R_drew)); exact HO_423000.out⟩, ⟨by (with_reducible repeat (first | refine blk_drewN ?_ _ | refine blk_drew ?_ | refine blk_alloc ?_ _)); exact BK422.out⟩, ⟨by repeat (first | (with_reducible first | exact HB.out | apply below_alloc | apply pw_below_drewN | apply below_drew1 | refine below_set ?_ GE422.out) | exact HB.out)⟩⟩
                ·
                 rw [if_neg c34] at H
                 exact absurd H (by simp)
               ·
                rw [if_neg c33] at H
                exact absurd H (by simp)
              ·
               rw [if_neg c32] at H
               exact absurd H (by simp)
             ·
              rw [if_neg c31] at H
              exact absurd H (by simp)
         ·
          rw [if_neg c23] at H
          have c23b0 : decide (x15_2 < (t414.length : Int)) = false := decide_eq_false c23
          clear c23
          have H' := Aside0.mk H
          clear H
          obtain ⟨Ao39, co39, eo39⟩ := Kd.R_slice HO_9.out
          subst eo39
          go_wp2
          go_loopg [16] k2 (fun kq v16 w' => ∃ (x16_3 : Int), v16 = .int .i64 x16_3 ∧ Aside0 (warplaw24_PoolMade.l2 kq t414 t415 x12_1 x14_2 x16_3 t418 t421 = some r) ∧ Aside0 (kq ≤ k2) ∧ Aside0 (Kd.R k54 54 w' w.heap.size (fun k_ => some k_ ≠ ((.slice Ao15 t418.length co15) : Value).ownBlock) (.slice Ao39 t414.length co39) t414) ∧ Aside0 (Kd.R (Kd.int .i64) 3 w' w.heap.size (fun _ => True) v425 x14_2) ∧ Aside0 (Kd.R k54 54 w' w.heap.size (fun k_ => some k_ ≠ ((.slice Ao39 t414.length co39) : Value).ownBlock) (.slice Ao15 t418.length co15) t418) ∧ Aside0 (w'.heap[gb422]? = some (.cells #[(.slice Ao15 t418.length co15), .int .i64 t421] 45 (0, 0))) ∧ Aside0 (Below w.heap.size w w'))
          case atStart => exact ⟨(0), (by first | rfl | (simp; done) | (simp [*]; done)), H', ⟨Nat.le_refl _⟩, ⟨by (with_reducible repeat (first | apply Kd.R_alloc | apply Kd.R_drewN | apply Kd.R_drew)); exact HO_9.out⟩, ⟨by (with_reducible repeat (first | apply Kd.R_alloc | apply Kd.R_drewN | apply Kd.R_drew)); exact HO_14.out⟩, ⟨by (with_reducible repeat (first | apply Kd.R_alloc | apply Kd.R_drewN | apply Kd.R_drew)); exact HO_423000.out⟩, ⟨by (with_reducible repeat (first | refine blk_drewN ?_ _ | refine blk_drew ?_ | refine blk_alloc ?_ _)); exact BK422.out⟩, ⟨by repeat (first | (with_reducible first | exact HB.out | apply below_alloc | apply pw_below_drewN | apply below_drew1 | refine below_set ?_ GE422.out) | exact HB.out)⟩⟩
          case round =>
           clear H'
           (try clear c1); (try clear c2); (try clear p2); (try clear c3); (try clear p3); (try clear q3); (try clear hx3); (try clear hf3); (try clear c4); (try clear c4b0); (try clear c4b1); (try clear p4); (try clear q4); (try clear hx4); (try clear p6); (try clear c8); (try clear c17); (try clear c17b0); (try clear c18); (try clear c18b0); (try clear c19); (try clear c19b0); (try clear c19b1); (try clear c20); (try clear c20b0); (try clear c20b1); (try clear c21); (try clear c23); (try clear c23b0); (try clear c26); (try clear c26b0); (try clear c27); (try clear c27b0); (try clear c28); (try clear c28b0); (try clear c29); (try clear c29b0); (try clear c30); (try clear c31); (try clear c31b0); (try clear c32); (try clear c32b0); (try clear c33); (try clear c33b0); (try clear c34); (try clear c34b0); (try clear p35); (try clear q35); (try clear hx35); (try clear hf35); (try clear hcz16_0); (try clear hcz16_1); (try clear hfz16_0); (try clear hfz16_1); (try clear hx35_0); (try clear hx423_0); (try clear hx427_0); (try clear hx427_1); (try clear hx427_2); (try clear hx427_3); (try clear hx427_4); (try clear hx427_5); (try clear hx427_6); (try clear hx427_7); (try clear hx428_0); (try clear hx428_1); (try clear hx428_2); (try clear hx428_3); (try clear hx428_4); (try clear hx428_5); (try clear hx428_6); (try clear hx428_7); (try clear hx429_0); (try clear hx429_1); (try clear hx429_2); (try clear hx429_3); (try clear hx429_4); (try clear hx429_5); (try clear hx429_6); (try clear hx429_7); (try clear hx430_0); (try clear hx430_1); (try clear hx430_2); (try clear hx430_3); (try clear hx430_4); (try clear hx430_5); (try clear hx430_6); (try clear hx430_7); (try clear hx431_0); (try clear hx431_1); (try clear hx431_2); (try clear hx431_3); (try clear hx431_4); (try clear hx431_5); (try clear hx431_6); (try clear hx431_7); (try clear hx432_0); (try clear p2); (try clear p35); (try clear p4); (try clear p423); (try clear p427); (try clear p428); (try clear p429); (try clear p430); (try clear p431); (try clear p432); (try clear p6); (try clear q35); (try clear q4); (try clear q423); (try clear q427); (try clear q428); (try clear q429); (try clear q430); (try clear q431); (try clear q432)
           obtain ⟨x16_3, rfl, HA, HK3, HO_9, HO_14, HO_423000, BK422, HB⟩ := hrel
           cases gk with
           | zero => exact absurd HA.out (by simp [warplaw24_PoolMade.l2])
           | succ k3 =>
            have H := HA.out
            clear HA
            simp only [warplaw24_PoolMade.l2] at H
            by_cases c40 : x16_3 < x12_1
            ·
             rw [if_pos c40] at H
             have c40b0 : decide (x16_3 < x12_1) = true := decide_eq_true c40
             clear c40
             by_cases c41 : 0 ≤ x16_3
             ·
              rw [if_pos c41] at H
              have c41b0 : decide (0 ≤ x16_3) = true := decide_eq_true c41
              clear c41
              by_cases c42 : x16_3 < (x14_2.length : Int)
              ·
               rw [if_pos c42] at H
               have c42b0 : decide (x16_3 < (x14_2.length : Int)) = true := decide_eq_true c42
               clear c42
               by_cases c43 : (rd x14_2 x16_3) = 1
               ·
                rw [if_pos c43] at H
                have c43b0 : ((rd x14_2 x16_3) == 1) = true := beq_iff_eq.mpr c43
                have c43b1 : ((rd x14_2 x16_3) != 1) = false := bne_eq_false_iff_eq.mpr c43
                clear c43
                have H' := Aside0.mk H
                clear H
                obtain ⟨Ao44, co44, eo44⟩ := Kd.R_slice HO_14.out
                subst eo44
                have p434 : 0 ≤ (x16_3 : Int) := of_decide_eq_true (by first | (with_reducible assumption) | assumption)
                have q434 : x16_3 < (x14_2.length : Int) := of_decide_eq_true (by first | (with_reducible assumption) | assumption)
                obtain ⟨ad434, e434, hx434_0⟩ := Kd.at_int (Kd.R_reads' HO_14.out).2.2 x16_3 p434 q434
                cases e434
                replace p434 := eq_true p434
                replace q434 := eq_true q434
                go_wp2
                go_roundg k3
                case measure => have := HK1.out; have := HK2.out; have := HK3.out; omega
                case rel => exact ⟨(wrap64 (x16_3 + 1)), (by first | rfl | (simp; done) | (simp [*]; done)), H', ⟨by have := HK1.out; have := HK2.out; have := HK3.out; omega⟩, ⟨by (with_reducible repeat (first | apply Kd.R_alloc | apply Kd.R_drewN | apply Kd.R_drew)); exact HO_9.out⟩, ⟨by (with_reducible repeat (first | apply Kd.R_alloc | apply Kd.R_drewN | apply Kd.R_drew)); exact HO_14.out⟩, ⟨by (with_reducible repeat (first | apply Kd.R_alloc | apply Kd.R_drewN | apply Kd.R_drew)); exact HO_423000.out⟩, ⟨by (with_reducible repeat (first | refine blk_drewN ?_ _ | refine blk_drew ?_ | refine blk_alloc ?_ _)); exact BK422.out⟩, ⟨by repeat (first | (with_reducible first | exact HB.out | apply below_alloc | apply pw_below_drewN | apply below_drew1 | refine below_set ?_ GE422.out) | exact HB.out)⟩⟩
               ·
                rw [if_neg c43] at H
                have c43b0 : ((rd x14_2 x16_3) == 1) = false := beq_eq_false_iff_ne.mpr c43
                have c43b1 : ((rd x14_2 x16_3) != 1) = true := bne_iff_ne.mpr c43
                exact absurd (hr_.symm.trans (Option.some.inj H).symm) (by decide)
              ·
               rw [if_neg c42] at H
               exact absurd H (by simp)
             ·
              rw [if_neg c41] at H
              exact absurd H (by simp)
            ·
             rw [if_neg c40] at H
             have c40b0 : decide (x16_3 < x12_1) = false := decide_eq_false c40
             clear c40
             replace H := Option.bind_eq_some_iff.mp H
             obtain ⟨t435, A460, H⟩ := H
             replace H : (if t435 = true then (if t415 = t421 then (if t415 = (wrap64 (2 * x12_1)) then ((warplaw24_awake.f).bind fun t436 => (some t436)) else (some false)) else (some false)) else (some false)) = some r := H
             have A46 := Aside0.mk A460
             clear A460
             by_cases c47 : t435 = true
             ·
              subst c47
              have H1 : (if t415 = t421 then (if t415 = (wrap64 (2 * x12_1)) then ((warplaw24_awake.f).bind fun t436 => (some t436)) else (some false)) else (some false)) = some r := by rw [if_pos rfl] at H; exact H
              clear H
              have H := H1
              clear H1
              by_cases c48 : t415 = t421
              ·
               rw [if_pos c48] at H
               have c48b0 : (t415 == t421) = true := beq_iff_eq.mpr c48
               have c48b1 : (t415 != t421) = false := bne_eq_false_iff_eq.mpr c48
               clear c48
               by_cases c49 : t415 = (wrap64 (2 * x12_1))
               ·
                rw [if_pos c49] at H
                have c49b0 : (t415 == (wrap64 (2 * x12_1))) = true := beq_iff_eq.mpr c49
                have c49b1 : (t415 != (wrap64 (2 * x12_1))) = false := bne_eq_false_iff_eq.mpr c49
                clear c49
                replace H := Option.bind_eq_some_iff.mp H
                obtain ⟨t436, A500, H⟩ := H
                replace H : (some t436) = some r := H
                have A50 := Aside0.mk A500
                clear A500
                obtain rfl := Option.some.inj H
                have hcz51_0 : wr.cell? ⟨gb422, 0, none⟩ = some (.slice Ao15 t418.length co15) := (blk_cell BK422.out 0).trans rfl
                have hcz51_1 : wr.cell? ⟨gb422, 1, none⟩ = some (.int .i64 t421) := (blk_cell BK422.out 1).trans rfl
                have hfz51_0 := blk_frozen BK422.out 0
                have hfz51_1 := blk_frozen BK422.out 1
                go_wp2_with (first | ((with_reducible refine gate_callee (f := 22) rfl ?_); refine goesL_ (some 117) rfl rfl Tryd.func22 (by kernel_rfl) rfl #[.slice Ao39 t414.length co39, .slice Ao15 t418.length co15] rfl (by (try simp only [List.map_toArray, List.map_cons, List.map_nil]); first | done | rfl | (simp only [List.length_drop, List.length_take]; rfl)) ?_; (with_reducible refine (warpref1_SameEvents.calls k3 _ _ t414 _ _ t418 true _ ?side1 ?side2 ?side3 ?side4 A46.out).mono ?_); (case side1 => repeat (first | exact (Kd.R_reads' HO_9.out).2.2 | (with_reducible refine Kd.C_alloc ?_ _) | (with_reducible refine Kd.C_drewN ?_ _) | (with_reducible refine Kd.C_drew ?_))); (case side2 => exact (Kd.R_reads' HO_9.out).2.1); (case side3 => repeat (first | exact (Kd.R_reads' HO_423000.out).2.2 | (with_reducible refine Kd.C_alloc ?_ _) | (with_reducible refine Kd.C_drewN ?_ _) | (with_reducible refine Kd.C_drew ?_))); (case side4 => exact (Kd.R_reads' HO_423000.out).2.1); rintro e w' ⟨rfl, ⟨nd, rfl⟩⟩; refine ⟨_, rfl, ?_⟩) | (go_at_call 19; (with_reducible refine (warplaw24_awake.calls  t436 _ A50.out).mono ?_); rintro e w52 ⟨rfl, hb⟩; have n0_ := Aside0.mk (Kd.R_below (by (with_reducible repeat (first | apply Kd.R_alloc | apply Kd.R_drewN | apply Kd.R_drew)); exact HO_9.out) hb); have n1_ := Aside0.mk (Kd.R_below (by (with_reducible repeat (first | apply Kd.R_alloc | apply Kd.R_drewN | apply Kd.R_drew)); exact HO_14.out) hb); have n2_ := Aside0.mk (Kd.R_below (by (with_reducible repeat (first | apply Kd.R_alloc | apply Kd.R_drewN | apply Kd.R_drew)); exact HO_423000.out) hb); have n3_ := Aside0.mk (blk_below (g := gb422) (o := .cells #[.slice Ao15 t418.length co15, .int .i64 t421] 45 (0, 0)) (by (with_reducible repeat (first | refine blk_drewN ?_ _ | refine blk_drew ?_ | refine blk_alloc ?_ _)); exact BK422.out) hb); have n4_ := Aside0.mk (below_step (by repeat (first | (with_reducible first | exact HB.out | apply below_alloc | apply pw_below_drewN | apply below_drew1 | refine below_set ?_ GE422.out) | exact HB.out)) hb); clear HO_9; clear HO_14; clear HO_423000; clear BK422; clear HB; have HO_9 := n0_; have HO_14 := n1_; have HO_423000 := n2_; have BK422 := n3_; have HB := n4_; clear n0_ n1_ n2_ n3_ n4_; (try clear hb); (try clear hb2); (try clear hk); (try clear hi)))
                go_ret
                exact ⟨by first | rfl | (simp [errW_none, errW_some] <;> rfl) | (simp [*, errW_none, errW_some] <;> rfl), by repeat (first | (with_reducible first | exact HB.out | apply below_alloc | apply pw_below_drewN | apply below_drew1 | refine below_set ?_ GE422.out) | exact HB.out)⟩
               ·
                rw [if_neg c49] at H
                have c49b0 : (t415 == (wrap64 (2 * x12_1))) = false := beq_eq_false_iff_ne.mpr c49
                have c49b1 : (t415 != (wrap64 (2 * x12_1))) = true := bne_iff_ne.mpr c49
                exact absurd (hr_.symm.trans (Option.some.inj H).symm) (by decide)
              ·
               rw [if_neg c48] at H
               have c48b0 : (t415 == t421) = false := beq_eq_false_iff_ne.mpr c48
               have c48b1 : (t415 != t421) = true := bne_iff_ne.mpr c48
               exact absurd (hr_.symm.trans (Option.some.inj H).symm) (by decide)
             ·
              replace c47 := Bool.eq_false_iff.mpr c47
              subst c47
              have H1 : (some false) = some r := by rw [if_neg (show ¬ (false = true) by decide)] at H; exact H
              clear H
              have H := H1
              clear H1
              exact absurd (hr_.symm.trans (Option.some.inj H).symm) (by decide)
      ·
       rw [if_neg c20] at H
       exact absurd H (by simp)
     ·
      rw [if_neg c19] at H
      exact absurd H (by simp)

/-- The one plain statement of warplaw24_PoolMade. -/
def warplaw24_PoolMade.Pure : Prop := ∀ (l0 : List Int) (a1 : Int) (l2 : List Int), ((fun l : List Int => l.length ≤ maxLen ∧ ∀ x ∈ l, (fun n : Int => (Lit.int .u8 n).wf = true) x) l0) → ((fun n : Int => (Lit.int .u8 n).wf = true) a1) → ((fun l : List Int => l.length ≤ maxLen ∧ ∀ x ∈ l, (fun n : Int => (Lit.int .i64 n).wf = true) x) l2) → ∃ k, warplaw24_PoolMade.f k l0 a1 l2 = some true

end Go.Proofs.YtbkdnenlffiaeaaDoor.P
