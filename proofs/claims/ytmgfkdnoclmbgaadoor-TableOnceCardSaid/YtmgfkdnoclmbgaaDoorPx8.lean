/-
The plain Lean functions of Go functions of this seat, and proofs that the calls of the machine come to them; no condition beside those named in each theorem.
-/
import Derived.Test.YtmgfkdnoclmbgaaDoorPx0
import Derived.Test.YtmgfkdnoclmbgaaDoorPx1
import Derived.Test.YtmgfkdnoclmbgaaDoorPx3
import Derived.Test.YtmgfkdnoclmbgaaDoorPx6
import Derived.Test.YtmgfkdnoclmbgaaDoorStubB
namespace Go.Proofs.YtmgfkdnoclmbgaaDoor.P
open Go.RowKit Go.Proofs.YtmgfkdnoclmbgaaDoorW.PrintWords Go.Proofs.YtmgfkdnoclmbgaaDoorW.PrintLast Go.Proofs.YtmgfkdnoclmbgaaDoorW.PrintMore
attribute [local go_sem] max2_int min2_int max_two min_two max_three min_three max_four min_four   -- for this text's walks alone
set_option linter.unusedVariables false
set_option linter.unusedSimpArgs false

attribute [local go_sem high] eqA26
theorem key_of_ne {a b : S26} (h : (!((a.f0.toList) == (b.f0.toList)) || (!((a.f1) == (b.f1)) || (!((a.f2) == (b.f2))))) = false) : b = a := by
  simp only [Bool.or_eq_false_iff, Bool.not_eq_false', beq_iff_eq, ByteArray.toList_eq] at h
  have h0 := Go.WideShapes.bytes_inj h.1
  cases a; cases b; simp_all
/-! ### warplaw8_TableOnce: function 5 -/
mutual
def warplaw8_TableOnce.j0 : Nat → Int → List (List (S26)) → List (List Int) → List (S26) → Bool → Option (Bool)
 | 0, _, _, _, _, _ => none
 | k + 1, x1, x9, x10, x11, x51 => if x51 = true then (some false) else (warplaw8_TableOnce.l0 k x1 x9 x10 x11 0)
def warplaw8_TableOnce.l0 : Nat → Int → List (List (S26)) → List (List Int) → List (S26) → Int → Option (Bool)
 | 0, _, _, _, _, _ => none
 | k + 1, x1, x9, x10, x11, x14 => if x14 < (x11.length : Int) then (warplaw8_TableOnce.l1 k x1 x9 x10 x11 x14 0) else (warplaw8_TableOnce.l2 k x1 x9 x10 x11 0)
def warplaw8_TableOnce.l1 : Nat → Int → List (List (S26)) → List (List Int) → List (S26) → Int → Int → Option (Bool)
 | 0, _, _, _, _, _, _ => none
 | k + 1, x1, x9, x10, x11, x14, x15 => if x15 < x14 then (if 0 ≤ x14 then (if x14 < (x11.length : Int) then (if 0 ≤ x15 then (if x15 < (x11.length : Int) then (if ((((rd_T26 x11 x14).f0).toList) == (((rd_T26 x11 x15).f0).toList) && (((rd_T26 x11 x14).f1) == ((rd_T26 x11 x15).f1) && (((rd_T26 x11 x14).f2) == ((rd_T26 x11 x15).f2)))) = true then (some false) else (warplaw8_TableOnce.l1 k x1 x9 x10 x11 x14 (wrap64 (x15 + 1)))) else (none)) else (none)) else (none)) else (none)) else (warplaw8_TableOnce.l0 k x1 x9 x10 x11 (wrap64 (x14 + 1)))
def warplaw8_TableOnce.l2 : Nat → Int → List (List (S26)) → List (List Int) → List (S26) → Int → Option (Bool)
 | 0, _, _, _, _, _ => none
 | k + 1, x1, x9, x10, x11, x16 => if x16 < (x9.length : Int) then (if 0 ≤ x16 then (if x16 < (x10.length : Int) then (if ((rd_L4 x10 x16).length : Int) = ((rd_L3 x9 x16).length : Int) then (warplaw8_TableOnce.l3 k x1 x9 x10 x11 x16 0) else (some false)) else (none)) else (none)) else ((warplaw8_awake.f k).bind fun t220 => (some t220))
def warplaw8_TableOnce.l3 : Nat → Int → List (List (S26)) → List (List Int) → List (S26) → Int → Int → Option (Bool)
 | 0, _, _, _, _, _, _ => none
 | k + 1, x1, x9, x10, x11, x16, x17 => if 0 ≤ x16 then (if x16 < (x9.length : Int) then (if x17 < ((rd_L3 x9 x16).length : Int) then (if x16 < (x10.length : Int) then (if 0 ≤ x17 then (if x17 < ((rd_L4 x10 x16).length : Int) then (if (rd (rd_L4 x10 x16) x17) < (-1) then (warplaw8_TableOnce.j5 k x1 x9 x10 x11 x16 x17 true) else (if (rd (rd_L4 x10 x16) x17) ≥ (x11.length : Int) then (warplaw8_TableOnce.j5 k x1 x9 x10 x11 x16 x17 true) else (if (rd (rd_L4 x10 x16) x17) ≥ 0 then (if 0 ≤ (rd (rd_L4 x10 x16) x17) then (if (rd (rd_L4 x10 x16) x17) < (x11.length : Int) then (if (!((((rd_T26 x11 (rd (rd_L4 x10 x16) x17)).f0).toList) == (((rd_T26 (rd_L3 x9 x16) x17).f0).toList)) || (!(((rd_T26 x11 (rd (rd_L4 x10 x16) x17)).f1) == ((rd_T26 (rd_L3 x9 x16) x17).f1)) || (!(((rd_T26 x11 (rd (rd_L4 x10 x16) x17)).f2) == ((rd_T26 (rd_L3 x9 x16) x17).f2))))) = true then (warplaw8_TableOnce.j5 k x1 x9 x10 x11 x16 x17 true) else (if (rd (rd_L4 x10 x16) x17) < 0 then (warplaw8_TableOnce.j5 k x1 x9 x10 x11 x16 x17 (decide ((x11.length : Int) < (Int.tmod (wrap64 (x1)) 40)))) else (warplaw8_TableOnce.j5 k x1 x9 x10 x11 x16 x17 false))) else (none)) else (none)) else (if (rd (rd_L4 x10 x16) x17) < 0 then (warplaw8_TableOnce.j5 k x1 x9 x10 x11 x16 x17 (decide ((x11.length : Int) < (Int.tmod (wrap64 (x1)) 40)))) else (warplaw8_TableOnce.j5 k x1 x9 x10 x11 x16 x17 false))))) else (none)) else (none)) else (none)) else (warplaw8_TableOnce.l2 k x1 x9 x10 x11 (wrap64 (x16 + 1)))) else (none)) else (none)
def warplaw8_TableOnce.j5 : Nat → Int → List (List (S26)) → List (List Int) → List (S26) → Int → Int → Bool → Option (Bool)
 | 0, _, _, _, _, _, _, _ => none
 | k + 1, x1, x9, x10, x11, x16, x17, x142 => if x142 = true then (some false) else (warplaw8_TableOnce.l3 k x1 x9 x10 x11 x16 (wrap64 (x17 + 1)))
end
def warplaw8_TableOnce.f (k : Nat) (l0 : List (List Int)) (a1 : Int) (a2 : Int) (l3 : List Int) : Option (Bool) := if (l3.length : Int) > 500 then ((warplaw8_awake.f k).bind fun t198 => (some t198)) else ((warplaw8_Keys.f k l0).bind fun t199 => ((table_Play.f t199 (Int.tmod (wrap64 (a1)) 40) (Int.tmod (wrap64 (a2)) 70) l3).bind fun bt202 => (if (bt202.1.length : Int) = (t199.length : Int) then (warplaw8_TableOnce.j0 k a1 t199 bt202.1 bt202.2.1 (decide ((bt202.2.1.length : Int) > (Int.tmod (wrap64 (a1)) 40)))) else (warplaw8_TableOnce.j0 k a1 t199 bt202.1 bt202.2.1 true))))
theorem warplaw8_TableOnce.mono_l : ∀ k, (∀ y0 y1 y2 y3 y4, LeO (warplaw8_TableOnce.j0 k y0 y1 y2 y3 y4) (warplaw8_TableOnce.j0 (k + 1) y0 y1 y2 y3 y4)) ∧ (∀ y0 y1 y2 y3 y4, LeO (warplaw8_TableOnce.l0 k y0 y1 y2 y3 y4) (warplaw8_TableOnce.l0 (k + 1) y0 y1 y2 y3 y4)) ∧ (∀ y0 y1 y2 y3 y4 y5, LeO (warplaw8_TableOnce.l1 k y0 y1 y2 y3 y4 y5) (warplaw8_TableOnce.l1 (k + 1) y0 y1 y2 y3 y4 y5)) ∧ (∀ y0 y1 y2 y3 y4, LeO (warplaw8_TableOnce.l2 k y0 y1 y2 y3 y4) (warplaw8_TableOnce.l2 (k + 1) y0 y1 y2 y3 y4)) ∧ (∀ y0 y1 y2 y3 y4 y5, LeO (warplaw8_TableOnce.l3 k y0 y1 y2 y3 y4 y5) (warplaw8_TableOnce.l3 (k + 1) y0 y1 y2 y3 y4 y5)) ∧ (∀ y0 y1 y2 y3 y4 y5 y6, LeO (warplaw8_TableOnce.j5 k y0 y1 y2 y3 y4 y5 y6) (warplaw8_TableOnce.j5 (k + 1) y0 y1 y2 y3 y4 y5 y6))
 | 0 => ⟨fun _ _ _ _ _ r h => by simp [warplaw8_TableOnce.j0] at h, fun _ _ _ _ _ r h => by simp [warplaw8_TableOnce.l0] at h, fun _ _ _ _ _ _ r h => by simp [warplaw8_TableOnce.l1] at h, fun _ _ _ _ _ r h => by simp [warplaw8_TableOnce.l2] at h, fun _ _ _ _ _ _ r h => by simp [warplaw8_TableOnce.l3] at h, fun _ _ _ _ _ _ _ r h => by simp [warplaw8_TableOnce.j5] at h⟩
 | k + 1 => by
  obtain ⟨ih0, ih1, ih2, ih3, ih4, ih5⟩ := warplaw8_TableOnce.mono_l k
  refine ⟨?_, ?_, ?_, ?_, ?_, ?_⟩
  ·
   intro y0 y1 y2 y3 y4
   unfold warplaw8_TableOnce.j0
   repeat' first
   | (with_reducible exact ih0 _ _ _ _ _)
   | (with_reducible exact ih1 _ _ _ _ _)
   | (with_reducible exact ih2 _ _ _ _ _ _)
   | (with_reducible exact ih3 _ _ _ _ _)
   | (with_reducible exact ih4 _ _ _ _ _ _)
   | (with_reducible exact ih5 _ _ _ _ _ _ _)
   | (with_reducible exact warplaw8_Keys.mono _ _)
   | (with_reducible exact warplaw8_awake.mono _)
   | (with_reducible exact LeO.refl _)
   | (with_reducible exact LeO.none _)
   | (with_reducible refine LeO.ite ?_ ?_)
   | (with_reducible refine LeO.bind ?_ (fun _ => ?_))
   | exact ih0 _ _ _ _ _
   | exact ih1 _ _ _ _ _
   | exact ih2 _ _ _ _ _ _
   | exact ih3 _ _ _ _ _
   | exact ih4 _ _ _ _ _ _
   | exact ih5 _ _ _ _ _ _ _
   | exact warplaw8_Keys.mono _ _
   | exact warplaw8_awake.mono _
   | exact LeO.none _
   | refine LeO.ite ?_ ?_
   | refine LeO.bind ?_ (fun _ => ?_)
  ·
   intro y0 y1 y2 y3 y4
   unfold warplaw8_TableOnce.l0
   repeat' first
   | (with_reducible exact ih0 _ _ _ _ _)
   | (with_reducible exact ih1 _ _ _ _ _)
   | (with_reducible exact ih2 _ _ _ _ _ _)
   | (with_reducible exact ih3 _ _ _ _ _)
   | (with_reducible exact ih4 _ _ _ _ _ _)
   | (with_reducible exact ih5 _ _ _ _ _ _ _)
   | (with_reducible exact warplaw8_Keys.mono _ _)
   | (with_reducible exact warplaw8_awake.mono _)
   | (with_reducible exact LeO.refl _)
   | (with_reducible exact LeO.none _)
   | (with_reducible refine LeO.ite ?_ ?_)
   | (with_reducible refine LeO.bind ?_ (fun _ => ?_))
   | exact ih0 _ _ _ _ _
   | exact ih1 _ _ _ _ _
   | exact ih2 _ _ _ _ _ _
   | exact ih3 _ _ _ _ _
   | exact ih4 _ _ _ _ _ _
   | exact ih5 _ _ _ _ _ _ _
   | exact warplaw8_Keys.mono _ _
   | exact warplaw8_awake.mono _
   | exact LeO.none _
   | refine LeO.ite ?_ ?_
   | refine LeO.bind ?_ (fun _ => ?_)
  ·
   intro y0 y1 y2 y3 y4 y5
   unfold warplaw8_TableOnce.l1
   repeat' first
   | (with_reducible exact ih0 _ _ _ _ _)
   | (with_reducible exact ih1 _ _ _ _ _)
   | (with_reducible exact ih2 _ _ _ _ _ _)
   | (with_reducible exact ih3 _ _ _ _ _)
   | (with_reducible exact ih4 _ _ _ _ _ _)
   | (with_reducible exact ih5 _ _ _ _ _ _ _)
   | (with_reducible exact warplaw8_Keys.mono _ _)
   | (with_reducible exact warplaw8_awake.mono _)
   | (with_reducible exact LeO.refl _)
   | (with_reducible exact LeO.none _)
   | (with_reducible refine LeO.ite ?_ ?_)
   | (with_reducible refine LeO.bind ?_ (fun _ => ?_))
   | exact ih0 _ _ _ _ _
   | exact ih1 _ _ _ _ _
   | exact ih2 _ _ _ _ _ _
   | exact ih3 _ _ _ _ _
   | exact ih4 _ _ _ _ _ _
   | exact ih5 _ _ _ _ _ _ _
   | exact warplaw8_Keys.mono _ _
   | exact warplaw8_awake.mono _
   | exact LeO.none _
   | refine LeO.ite ?_ ?_
   | refine LeO.bind ?_ (fun _ => ?_)
  ·
   intro y0 y1 y2 y3 y4
   unfold warplaw8_TableOnce.l2
   repeat' first
   | (with_reducible exact ih0 _ _ _ _ _)
   | (with_reducible exact ih1 _ _ _ _ _)
   | (with_reducible exact ih2 _ _ _ _ _ _)
   | (with_reducible exact ih3 _ _ _ _ _)
   | (with_reducible exact ih4 _ _ _ _ _ _)
   | (with_reducible exact ih5 _ _ _ _ _ _ _)
   | (with_reducible exact warplaw8_Keys.mono _ _)
   | (with_reducible exact warplaw8_awake.mono _)
   | (with_reducible exact LeO.refl _)
   | (with_reducible exact LeO.none _)
   | (with_reducible refine LeO.ite ?_ ?_)
   | (with_reducible refine LeO.bind ?_ (fun _ => ?_))
   | exact ih0 _ _ _ _ _
   | exact ih1 _ _ _ _ _
   | exact ih2 _ _ _ _ _ _
   | exact ih3 _ _ _ _ _
   | exact ih4 _ _ _ _ _ _
   | exact ih5 _ _ _ _ _ _ _
   | exact warplaw8_Keys.mono _ _
   | exact warplaw8_awake.mono _
   | exact LeO.none _
   | refine LeO.ite ?_ ?_
   | refine LeO.bind ?_ (fun _ => ?_)
  ·
   intro y0 y1 y2 y3 y4 y5
   unfold warplaw8_TableOnce.l3
   repeat' first
   | (with_reducible exact ih0 _ _ _ _ _)
   | (with_reducible exact ih1 _ _ _ _ _)
   | (with_reducible exact ih2 _ _ _ _ _ _)
   | (with_reducible exact ih3 _ _ _ _ _)
   | (with_reducible exact ih4 _ _ _ _ _ _)
   | (with_reducible exact ih5 _ _ _ _ _ _ _)
   | (with_reducible exact warplaw8_Keys.mono _ _)
   | (with_reducible exact warplaw8_awake.mono _)
   | (with_reducible exact LeO.refl _)
   | (with_reducible exact LeO.none _)
   | (with_reducible refine LeO.ite ?_ ?_)
   | (with_reducible refine LeO.bind ?_ (fun _ => ?_))
   | exact ih0 _ _ _ _ _
   | exact ih1 _ _ _ _ _
   | exact ih2 _ _ _ _ _ _
   | exact ih3 _ _ _ _ _
   | exact ih4 _ _ _ _ _ _
   | exact ih5 _ _ _ _ _ _ _
   | exact warplaw8_Keys.mono _ _
   | exact warplaw8_awake.mono _
   | exact LeO.none _
   | refine LeO.ite ?_ ?_
   | refine LeO.bind ?_ (fun _ => ?_)
  ·
   intro y0 y1 y2 y3 y4 y5 y6
   unfold warplaw8_TableOnce.j5
   repeat' first
   | (with_reducible exact ih0 _ _ _ _ _)
   | (with_reducible exact ih1 _ _ _ _ _)
   | (with_reducible exact ih2 _ _ _ _ _ _)
   | (with_reducible exact ih3 _ _ _ _ _)
   | (with_reducible exact ih4 _ _ _ _ _ _)
   | (with_reducible exact ih5 _ _ _ _ _ _ _)
   | (with_reducible exact warplaw8_Keys.mono _ _)
   | (with_reducible exact warplaw8_awake.mono _)
   | (with_reducible exact LeO.refl _)
   | (with_reducible exact LeO.none _)
   | (with_reducible refine LeO.ite ?_ ?_)
   | (with_reducible refine LeO.bind ?_ (fun _ => ?_))
   | exact ih0 _ _ _ _ _
   | exact ih1 _ _ _ _ _
   | exact ih2 _ _ _ _ _ _
   | exact ih3 _ _ _ _ _
   | exact ih4 _ _ _ _ _ _
   | exact ih5 _ _ _ _ _ _ _
   | exact warplaw8_Keys.mono _ _
   | exact warplaw8_awake.mono _
   | exact LeO.none _
   | refine LeO.ite ?_ ?_
   | refine LeO.bind ?_ (fun _ => ?_)
theorem warplaw8_TableOnce.mono : ∀ a0 a1 a2 a3 k, LeO (warplaw8_TableOnce.f k a0 a1 a2 a3) (warplaw8_TableOnce.f (k + 1) a0 a1 a2 a3) := by
 intro a0 a1 a2 a3 k
 obtain ⟨ih0, ih1, ih2, ih3, ih4, ih5⟩ := warplaw8_TableOnce.mono_l k
 unfold warplaw8_TableOnce.f
 repeat' first
  | (with_reducible exact ih0 _ _ _ _ _)
  | (with_reducible exact ih1 _ _ _ _ _)
  | (with_reducible exact ih2 _ _ _ _ _ _)
  | (with_reducible exact ih3 _ _ _ _ _)
  | (with_reducible exact ih4 _ _ _ _ _ _)
  | (with_reducible exact ih5 _ _ _ _ _ _ _)
  | (with_reducible exact warplaw8_Keys.mono _ _)
  | (with_reducible exact warplaw8_awake.mono _)
  | (with_reducible exact LeO.refl _)
  | (with_reducible exact LeO.none _)
  | (with_reducible refine LeO.ite ?_ ?_)
  | (with_reducible refine LeO.bind ?_ (fun _ => ?_))
  | exact ih0 _ _ _ _ _
  | exact ih1 _ _ _ _ _
  | exact ih2 _ _ _ _ _ _
  | exact ih3 _ _ _ _ _
  | exact ih4 _ _ _ _ _ _
  | exact ih5 _ _ _ _ _ _ _
  | exact warplaw8_Keys.mono _ _
  | exact warplaw8_awake.mono _
  | exact LeO.none _
  | refine LeO.ite ?_ ?_
  | refine LeO.bind ?_ (fun _ => ?_)
theorem warplaw8_TableOnce.j0_true : ∀ (k : Nat) y0 y1 y2 y3, warplaw8_TableOnce.j0 k y0 y1 y2 y3 true ≠ some true := by
  intro k y0 y1 y2 y3 h
  cases k with
  | zero => simp [warplaw8_TableOnce.j0] at h
  | succ k => simp [warplaw8_TableOnce.j0] at h
theorem warplaw8_TableOnce.j5_true : ∀ (k : Nat) y0 y1 y2 y3 y4 y5, warplaw8_TableOnce.j5 k y0 y1 y2 y3 y4 y5 true ≠ some true := by
  intro k y0 y1 y2 y3 y4 y5 h
  cases k with
  | zero => simp [warplaw8_TableOnce.j5] at h
  | succ k => simp [warplaw8_TableOnce.j5] at h
set_option maxHeartbeats 8000000 in
set_option maxRecDepth 100000 in
theorem warplaw8_TableOnce.calls (k : Nat) (A0 : Option Addr) (c0 : Nat) (l0 : List (List Int)) (a1 : Int) (a2 : Int) (A3 : Option Addr) (c3 : Nat) (l3 : List Int) (r : Bool) (w : World) (hr0 : Kd.C (Kd.slice 5 (Kd.int .u8)) w A0 l0.length l0) (hc0 : l0.length ≤ c0) (hr3 : Kd.C (Kd.int .i64) w A3 l3.length l3) (hc3 : l3.length ≤ c3) (h : warplaw8_TableOnce.f k l0 a1 a2 l3 = some r) (hT_ : Tab w := by first | exact hT_ | exact Tab.drewN hT_ _ | (refine Tab.below hT_ ?_; repeat (first | (with_reducible first | exact HB.out | apply below_alloc | apply pw_below_drewN | apply below_drew1) | exact HB.out))) (hr_ : r = true := by rfl) :
 Calls Tryd.prog 5 #[.slice A0 l0.length c0, .int .u8 a1, .int .u8 a2, .slice A3 l3.length c3] w fun e w' => e = .returned (.bool r) ∧ Below w.heap.size w w' := by
 have hu26 := Tryd.underlying26
 have HR0 := Aside0.mk hr0
 have HC0 := Aside0.mk hc0
 clear hr0 hc0
 have HR3 := Aside0.mk hr3
 have HC3 := Aside0.mk hc3
 clear hr3 hc3
 have HB := Aside0.mk (Below.refl w.heap.size w)
 have H : (if (l3.length : Int) > 500 then ((warplaw8_awake.f k).bind fun t198 => (some t198)) else ((warplaw8_Keys.f k l0).bind fun t199 => ((table_Play.f t199 (Int.tmod (wrap64 (a1)) 40) (Int.tmod (wrap64 (a2)) 70) l3).bind fun bt202 => (if (bt202.1.length : Int) = (t199.length : Int) then (warplaw8_TableOnce.j0 k a1 t199 bt202.1 bt202.2.1 (decide ((bt202.2.1.length : Int) > (Int.tmod (wrap64 (a1)) 40)))) else (warplaw8_TableOnce.j0 k a1 t199 bt202.1 bt202.2.1 true))))) = some r := h
 clear h
 by_cases c5 : (l3.length : Int) > 500
 ·
  rw [if_pos c5] at H
  have c5b0 : decide (500 < (l3.length : Int)) = true := decide_eq_true c5
  have c5b1 : decide (500 < l3.length) = true := decide_eq_true (by omega)
  clear c5
  replace H := Option.bind_eq_some_iff.mp H
  obtain ⟨t198, A60, H⟩ := H
  replace H : (some t198) = some r := H
  have A6 := Aside0.mk A60
  clear A60
  obtain rfl := Option.some.inj H
  go_enter Tryd.func5, Tryd.ntmps5
  go_wp2_with (first | (go_at_call 8; (with_reducible refine (warplaw8_awake.calls k  t198 _ A6.out).mono ?_); rintro e w7 ⟨rfl, hb⟩; have n0_ := Aside0.mk (below_step (by repeat (first | (with_reducible first | exact HB.out | apply below_alloc | apply pw_below_drewN | apply below_drew1) | exact HB.out)) hb); clear HB; have HB := n0_; clear n0_; (try clear hb); (try clear hb2); (try clear hk); (try clear hi)))
  repeat (go_quiet (first | (go_at_call 8; (with_reducible refine (warplaw8_awake.calls k  t198 _ A6.out).mono ?_); rintro e w7 ⟨rfl, hb⟩; have n0_ := Aside0.mk (below_step (by repeat (first | (with_reducible first | exact HB.out | apply below_alloc | apply pw_below_drewN | apply below_drew1) | exact HB.out)) hb); clear HB; have HB := n0_; clear n0_; (try clear hb); (try clear hb2); (try clear hk); (try clear hi))); try go_wp2_with (first | (go_at_call 8; (with_reducible refine (warplaw8_awake.calls k  t198 _ A6.out).mono ?_); rintro e w7 ⟨rfl, hb⟩; have n0_ := Aside0.mk (below_step (by repeat (first | (with_reducible first | exact HB.out | apply below_alloc | apply pw_below_drewN | apply below_drew1) | exact HB.out)) hb); clear HB; have HB := n0_; clear n0_; (try clear hb); (try clear hb2); (try clear hk); (try clear hi))))
  go_ret
  exact ⟨by first | rfl | (simp [errW_none, errW_some] <;> rfl) | (simp [*, errW_none, errW_some] <;> rfl), by repeat (first | (with_reducible first | exact HB.out | apply below_alloc | apply pw_below_drewN | apply below_drew1) | exact HB.out)⟩
 ·
  rw [if_neg c5] at H
  have c5b0 : decide (500 < (l3.length : Int)) = false := decide_eq_false c5
  have c5b1 : decide (500 < l3.length) = false := decide_eq_false (by omega)
  clear c5
  replace H := Option.bind_eq_some_iff.mp H
  obtain ⟨t199, A80, H⟩ := H
  replace H : ((table_Play.f t199 (Int.tmod (wrap64 (a1)) 40) (Int.tmod (wrap64 (a2)) 70) l3).bind fun bt202 => (if (bt202.1.length : Int) = (t199.length : Int) then (warplaw8_TableOnce.j0 k a1 t199 bt202.1 bt202.2.1 (decide ((bt202.2.1.length : Int) > (Int.tmod (wrap64 (a1)) 40)))) else (warplaw8_TableOnce.j0 k a1 t199 bt202.1 bt202.2.1 true))) = some r := H
  have A8 := Aside0.mk A80
  clear A80
  replace H := Option.bind_eq_some_iff.mp H
  obtain ⟨⟨t202, t203, t204, t205⟩, A90, H⟩ := H
  replace H : (if (t202.length : Int) = (t199.length : Int) then (warplaw8_TableOnce.j0 k a1 t199 t202 t203 (decide ((t203.length : Int) > (Int.tmod (wrap64 (a1)) 40)))) else (warplaw8_TableOnce.j0 k a1 t199 t202 t203 true)) = some r := H
  have A9 := Aside0.mk A90
  clear A90
  have HC10 := Aside0.mk H
  clear H
  go_enter Tryd.func5, Tryd.ntmps5
  go_upto_region 5 with (first | (go_at_call 13; (with_reducible refine (warplaw8_Keys.calls k _ _ l0 t199 _ ?side1 ?side2 A8.out).mono ?_); (case side1 => repeat (first | exact HR0.out | (with_reducible refine Kd.C_alloc ?_ _) | (with_reducible refine Kd.C_drewN ?_ _) | (with_reducible refine Kd.C_drew ?_))); (case side2 => exact HC0.out); rintro e w11 ⟨v200, rfl, ho0, hb⟩; have n0_ := Aside0.mk (Kd.S_lower ho0 (below_size (by repeat (first | (with_reducible first | exact HB.out | apply below_alloc | apply pw_below_drewN | apply below_drew1) | exact HB.out)))); have n1_ := Aside0.mk (below_step (by repeat (first | (with_reducible first | exact HB.out | apply below_alloc | apply pw_below_drewN | apply below_drew1) | exact HB.out)) hb); clear HB; have HO201 := n0_; have HB := n1_; clear n0_ n1_; (try clear hb); (try clear hb2); (try clear hk); (try clear hi); (try clear ho0); obtain ⟨Ao12, co12, eo12⟩ := Kd.S_slice HO201.out; subst eo12) | (go_at_call 9; (with_reducible refine (table_Play.calls _ _ t199 (Int.tmod (wrap64 (a1)) 40) (Int.tmod (wrap64 (a2)) 70) _ _ l3 t202 t203 t204 t205 _ ?side1 ?side2 ?side3 ?side4 A9.out).mono ?_); (case side1 => repeat (first | exact (Kd.S_reads' HO201.out).2.2 | (with_reducible refine Kd.C_alloc ?_ _) | (with_reducible refine Kd.C_drewN ?_ _) | (with_reducible refine Kd.C_drew ?_))); (case side2 => exact (Kd.S_reads' HO201.out).2.1); (case side3 => repeat (first | exact (Kd.C_below HR3.out HB.out) | (with_reducible refine Kd.C_alloc ?_ _) | (with_reducible refine Kd.C_drewN ?_ _) | (with_reducible refine Kd.C_drew ?_))); (case side4 => exact HC3.out); rintro e w13 ⟨v206, v208, rfl, ho0, ho1, hb⟩; have n0_ := Aside0.mk (Kd.S_elder' (by (with_reducible repeat (first | apply Kd.S_alloc | apply Kd.S_drewN | apply Kd.S_drew)); exact HO201.out) (Kd.R_base ho1) hb); have n1_ := Aside0.mk (Kd.S_lower ho0 (below_size (by repeat (first | (with_reducible first | exact HB.out | apply below_alloc | apply pw_below_drewN | apply below_drew1) | exact HB.out)))); have n2_ := Aside0.mk (Kd.R_lower ho1 (below_size (by repeat (first | (with_reducible first | exact HB.out | apply below_alloc | apply pw_below_drewN | apply below_drew1) | exact HB.out)))); have n3_ := Aside0.mk (below_step (by repeat (first | (with_reducible first | exact HB.out | apply below_alloc | apply pw_below_drewN | apply below_drew1) | exact HB.out)) hb); clear HO201; clear HB; have HO201 := n0_; have HO207 := n1_; have HO209 := n2_; have HB := n3_; clear n0_ n1_ n2_ n3_; (try clear hb); (try clear hb2); (try clear hk); (try clear hi); (try clear ho0); (try clear ho1)))
  repeat (go_quiet (first | (go_at_call 13; (with_reducible refine (warplaw8_Keys.calls k _ _ l0 t199 _ ?side1 ?side2 A8.out).mono ?_); (case side1 => repeat (first | exact HR0.out | (with_reducible refine Kd.C_alloc ?_ _) | (with_reducible refine Kd.C_drewN ?_ _) | (with_reducible refine Kd.C_drew ?_))); (case side2 => exact HC0.out); rintro e w11 ⟨v200, rfl, ho0, hb⟩; have n0_ := Aside0.mk (Kd.S_lower ho0 (below_size (by repeat (first | (with_reducible first | exact HB.out | apply below_alloc | apply pw_below_drewN | apply below_drew1) | exact HB.out)))); have n1_ := Aside0.mk (below_step (by repeat (first | (with_reducible first | exact HB.out | apply below_alloc | apply pw_below_drewN | apply below_drew1) | exact HB.out)) hb); clear HB; have HO201 := n0_; have HB := n1_; clear n0_ n1_; (try clear hb); (try clear hb2); (try clear hk); (try clear hi); (try clear ho0); obtain ⟨Ao12, co12, eo12⟩ := Kd.S_slice HO201.out; subst eo12) | (go_at_call 9; (with_reducible refine (table_Play.calls _ _ t199 (Int.tmod (wrap64 (a1)) 40) (Int.tmod (wrap64 (a2)) 70) _ _ l3 t202 t203 t204 t205 _ ?side1 ?side2 ?side3 ?side4 A9.out).mono ?_); (case side1 => repeat (first | exact (Kd.S_reads' HO201.out).2.2 | (with_reducible refine Kd.C_alloc ?_ _) | (with_reducible refine Kd.C_drewN ?_ _) | (with_reducible refine Kd.C_drew ?_))); (case side2 => exact (Kd.S_reads' HO201.out).2.1); (case side3 => repeat (first | exact (Kd.C_below HR3.out HB.out) | (with_reducible refine Kd.C_alloc ?_ _) | (with_reducible refine Kd.C_drewN ?_ _) | (with_reducible refine Kd.C_drew ?_))); (case side4 => exact HC3.out); rintro e w13 ⟨v206, v208, rfl, ho0, ho1, hb⟩; have n0_ := Aside0.mk (Kd.S_elder' (by (with_reducible repeat (first | apply Kd.S_alloc | apply Kd.S_drewN | apply Kd.S_drew)); exact HO201.out) (Kd.R_base ho1) hb); have n1_ := Aside0.mk (Kd.S_lower ho0 (below_size (by repeat (first | (with_reducible first | exact HB.out | apply below_alloc | apply pw_below_drewN | apply below_drew1) | exact HB.out)))); have n2_ := Aside0.mk (Kd.R_lower ho1 (below_size (by repeat (first | (with_reducible first | exact HB.out | apply below_alloc | apply pw_below_drewN | apply below_drew1) | exact HB.out)))); have n3_ := Aside0.mk (below_step (by repeat (first | (with_reducible first | exact HB.out | apply below_alloc | apply pw_below_drewN | apply below_drew1) | exact HB.out)) hb); clear HO201; clear HB; have HO201 := n0_; have HO207 := n1_; have HO209 := n2_; have HB := n3_; clear n0_ n1_ n2_ n3_; (try clear hb); (try clear hb2); (try clear hk); (try clear hi); (try clear ho0); (try clear ho1))); go_upto_region 5 with (first | (go_at_call 13; (with_reducible refine (warplaw8_Keys.calls k _ _ l0 t199 _ ?side1 ?side2 A8.out).mono ?_); (case side1 => repeat (first | exact HR0.out | (with_reducible refine Kd.C_alloc ?_ _) | (with_reducible refine Kd.C_drewN ?_ _) | (with_reducible refine Kd.C_drew ?_))); (case side2 => exact HC0.out); rintro e w11 ⟨v200, rfl, ho0, hb⟩; have n0_ := Aside0.mk (Kd.S_lower ho0 (below_size (by repeat (first | (with_reducible first | exact HB.out | apply below_alloc | apply pw_below_drewN | apply below_drew1) | exact HB.out)))); have n1_ := Aside0.mk (below_step (by repeat (first | (with_reducible first | exact HB.out | apply below_alloc | apply pw_below_drewN | apply below_drew1) | exact HB.out)) hb); clear HB; have HO201 := n0_; have HB := n1_; clear n0_ n1_; (try clear hb); (try clear hb2); (try clear hk); (try clear hi); (try clear ho0); obtain ⟨Ao12, co12, eo12⟩ := Kd.S_slice HO201.out; subst eo12) | (go_at_call 9; (with_reducible refine (table_Play.calls _ _ t199 (Int.tmod (wrap64 (a1)) 40) (Int.tmod (wrap64 (a2)) 70) _ _ l3 t202 t203 t204 t205 _ ?side1 ?side2 ?side3 ?side4 A9.out).mono ?_); (case side1 => repeat (first | exact (Kd.S_reads' HO201.out).2.2 | (with_reducible refine Kd.C_alloc ?_ _) | (with_reducible refine Kd.C_drewN ?_ _) | (with_reducible refine Kd.C_drew ?_))); (case side2 => exact (Kd.S_reads' HO201.out).2.1); (case side3 => repeat (first | exact (Kd.C_below HR3.out HB.out) | (with_reducible refine Kd.C_alloc ?_ _) | (with_reducible refine Kd.C_drewN ?_ _) | (with_reducible refine Kd.C_drew ?_))); (case side4 => exact HC3.out); rintro e w13 ⟨v206, v208, rfl, ho0, ho1, hb⟩; have n0_ := Aside0.mk (Kd.S_elder' (by (with_reducible repeat (first | apply Kd.S_alloc | apply Kd.S_drewN | apply Kd.S_drew)); exact HO201.out) (Kd.R_base ho1) hb); have n1_ := Aside0.mk (Kd.S_lower ho0 (below_size (by repeat (first | (with_reducible first | exact HB.out | apply below_alloc | apply pw_below_drewN | apply below_drew1) | exact HB.out)))); have n2_ := Aside0.mk (Kd.R_lower ho1 (below_size (by repeat (first | (with_reducible first | exact HB.out | apply below_alloc | apply pw_below_drewN | apply below_drew1) | exact HB.out)))); have n3_ := Aside0.mk (below_step (by repeat (first | (with_reducible first | exact HB.out | apply below_alloc | apply pw_below_drewN | apply below_drew1) | exact HB.out)) hb); clear HO201; clear HB; have HO201 := n0_; have HO207 := n1_; have HO209 := n2_; have HB := n3_; clear n0_ n1_ n2_ n3_; (try clear hb); (try clear hb2); (try clear hk); (try clear hi); (try clear ho0); (try clear ho1))))
  (try simp only [Act.put, List.setIfInBounds_toArray, List.set_cons_zero, List.set_cons_succ])
  go_cut [51] (fun v51 wc => ∃ (kq : Nat) (x51_9 : Bool), v51 = .bool x51_9 ∧ Aside0 (warplaw8_TableOnce.j0 kq a1 t199 t202 t203 x51_9 = some r) ∧ Aside0 (kq ≤ k) ∧ Aside0 (Kd.S (Kd.slice 26 k26) 24 wc w.heap.size (fun k_ => some k_ ≠ (v208 : Value).ownBlock) (.slice Ao12 t199.length co12) t199) ∧ Aside0 (Kd.S (Kd.slice 3 (Kd.int .i64)) 23 wc w.heap.size (fun _ => True) v206 t202) ∧ Aside0 (Kd.R k26 26 wc w.heap.size (fun _ => True) v208 t203) ∧ Aside0 (Below w.heap.size w wc))
  case first =>
   have H := HC10.out
   clear HC10
   by_cases c14 : (t202.length : Int) = (t199.length : Int)
   ·
    rw [if_pos c14] at H
    have c14b0 : ((t202.length : Int) == (t199.length : Int)) = true := beq_iff_eq.mpr c14
    have c14b1 : ((t202.length : Int) != (t199.length : Int)) = false := bne_eq_false_iff_eq.mpr c14
    have c14b2 : (t202.length == t199.length) = true := by first | simpa using c14 | (simp at c14 ⊢; omega)
    clear c14
    (first | rw [c14b0] | (simp only [i64_w, i32_w]; rw [c14b0]) | skip)
    have H' := Aside0.mk H
    clear H
    obtain ⟨Ao15, co15, eo15⟩ := Kd.S_slice HO207.out
    subst eo15
    obtain ⟨Ao16, co16, eo16⟩ := Kd.R_slice HO209.out
    subst eo16
    go_wp2
    repeat (go_quiet (fail); try go_wp2)
    go_meet
    case rel => exact ⟨_, (decide ((t203.length : Int) > (Int.tmod (wrap64 (a1)) 40))), (by first | rfl | (simp; done) | (simp [*]; done)), H', ⟨by first | omega | exact Nat.le_refl _⟩, ⟨by (with_reducible repeat (first | apply Kd.S_alloc | apply Kd.S_drewN | apply Kd.S_drew)); exact Kd.S_mono HO201.out (fun _ hk => hk.2)⟩, ⟨by (with_reducible repeat (first | apply Kd.S_alloc | apply Kd.S_drewN | apply Kd.S_drew)); exact HO207.out⟩, ⟨by (with_reducible repeat (first | apply Kd.R_alloc | apply Kd.R_drewN | apply Kd.R_drew)); exact HO209.out⟩, ⟨by repeat (first | (with_reducible first | exact HB.out | apply below_alloc | apply pw_below_drewN | apply below_drew1) | exact HB.out)⟩⟩
   ·
    rw [if_neg c14] at H
    have c14b0 : ((t202.length : Int) == (t199.length : Int)) = false := beq_eq_false_iff_ne.mpr c14
    have c14b1 : ((t202.length : Int) != (t199.length : Int)) = true := bne_iff_ne.mpr c14
    have c14b2 : (t202.length == t199.length) = false := by first | simpa using c14 | (simp at c14 ⊢; omega)
    (first | rw [c14b0] | (simp only [i64_w, i32_w]; rw [c14b0]) | skip)
    exact absurd (H.trans (congrArg some hr_)) (warplaw8_TableOnce.j0_true _ _ _ _ _)
  case rest =>
   clear HC10
   (try clear c1); (try clear p2); (try clear c3); (try clear c5); (try clear c5b0); (try clear c5b1); (try clear p6); (try clear c14); (try clear c14b0); (try clear c14b1); (try clear c14b2)
   obtain ⟨kq, x51_9, rfl, HA, HJ9, HO_9, HO_10, HO_11, HB⟩ := hcut
   cases kq with
   | zero => exact absurd HA.out (by simp [warplaw8_TableOnce.j0])
   | succ kj9 =>
    have H := HA.out
    clear HA
    simp only [warplaw8_TableOnce.j0] at H
    by_cases c18 : x51_9 = true
    ·
     subst c18
     have H1 : (some false) = some r := by rw [if_pos rfl] at H; exact H
     clear H
     have H := H1
     clear H1
     exact absurd (hr_.symm.trans (Option.some.inj H).symm) (by decide)
    ·
     replace c18 := Bool.eq_false_iff.mpr c18
     subst c18
     have H1 : (warplaw8_TableOnce.l0 kj9 a1 t199 t202 t203 0) = some r := by rw [if_neg (show ¬ (false = true) by decide)] at H; exact H
     clear H
     have H := H1
     clear H1
     have H' := Aside0.mk H
     clear H
     go_wp2
     repeat (go_quiet (fail); try go_wp2)
     go_loopg [14] kj9 (fun kq v14 w' => ∃ (x14_2 : Int), v14 = .int .i64 x14_2 ∧ Aside0 (warplaw8_TableOnce.l0 kq a1 t199 t202 t203 x14_2 = some r) ∧ Aside0 (kq ≤ kj9) ∧ Aside0 (Kd.S (Kd.slice 26 k26) 24 w' w.heap.size (fun k_ => some k_ ≠ (v208 : Value).ownBlock) (.slice Ao12 t199.length co12) t199) ∧ Aside0 (Kd.S (Kd.slice 3 (Kd.int .i64)) 23 w' w.heap.size (fun _ => True) v206 t202) ∧ Aside0 (Kd.R k26 26 w' w.heap.size (fun _ => True) v208 t203) ∧ Aside0 (Below w.heap.size w w'))
     case atStart => exact ⟨(0), (by first | rfl | (simp; done) | (simp [*]; done)), H', ⟨Nat.le_refl _⟩, ⟨by (with_reducible repeat (first | apply Kd.S_alloc | apply Kd.S_drewN | apply Kd.S_drew)); exact HO_9.out⟩, ⟨by (with_reducible repeat (first | apply Kd.S_alloc | apply Kd.S_drewN | apply Kd.S_drew)); exact HO_10.out⟩, ⟨by (with_reducible repeat (first | apply Kd.R_alloc | apply Kd.R_drewN | apply Kd.R_drew)); exact HO_11.out⟩, ⟨by repeat (first | (with_reducible first | exact HB.out | apply below_alloc | apply pw_below_drewN | apply below_drew1) | exact HB.out)⟩⟩
     case round =>
      clear H'
      (try clear c1); (try clear p2); (try clear c3); (try clear c5); (try clear c5b0); (try clear c5b1); (try clear p6); (try clear c14); (try clear c14b0); (try clear c14b1); (try clear c14b2); (try clear c18); (try clear p2); (try clear p6)
      obtain ⟨x14_2, rfl, HA, HK2, HO_9, HO_10, HO_11, HB⟩ := hrel
      cases gk with
      | zero => exact absurd HA.out (by simp [warplaw8_TableOnce.l0])
      | succ k2 =>
       have H := HA.out
       clear HA
       simp only [warplaw8_TableOnce.l0] at H
       by_cases c19 : x14_2 < (t203.length : Int)
       ·
        rw [if_pos c19] at H
        have c19b0 : decide (x14_2 < (t203.length : Int)) = true := decide_eq_true c19
        clear c19
        have H' := Aside0.mk H
        clear H
        obtain ⟨Ao20, co20, eo20⟩ := Kd.R_slice HO_11.out
        subst eo20
        go_wp2
        repeat (go_quiet (fail); try go_wp2)
        go_loopg [15] k2 (fun kq v15 w' => ∃ (x15_3 : Int), v15 = .int .i64 x15_3 ∧ Aside0 (warplaw8_TableOnce.l1 kq a1 t199 t202 t203 x14_2 x15_3 = some r) ∧ Aside0 (kq ≤ k2) ∧ Aside0 (Kd.S (Kd.slice 26 k26) 24 w' w.heap.size (fun k_ => some k_ ≠ ((.slice Ao20 t203.length co20) : Value).ownBlock) (.slice Ao12 t199.length co12) t199) ∧ Aside0 (Kd.S (Kd.slice 3 (Kd.int .i64)) 23 w' w.heap.size (fun _ => True) v206 t202) ∧ Aside0 (Kd.R k26 26 w' w.heap.size (fun _ => True) (.slice Ao20 t203.length co20) t203) ∧ Aside0 (Below w.heap.size w w'))
        case atStart => exact ⟨(0), (by first | rfl | (simp; done) | (simp [*]; done)), H', ⟨Nat.le_refl _⟩, ⟨by (with_reducible repeat (first | apply Kd.S_alloc | apply Kd.S_drewN | apply Kd.S_drew)); exact HO_9.out⟩, ⟨by (with_reducible repeat (first | apply Kd.S_alloc | apply Kd.S_drewN | apply Kd.S_drew)); exact HO_10.out⟩, ⟨by (with_reducible repeat (first | apply Kd.R_alloc | apply Kd.R_drewN | apply Kd.R_drew)); exact HO_11.out⟩, ⟨by repeat (first | (with_reducible first | exact HB.out | apply below_alloc | apply pw_below_drewN | apply below_drew1) | exact HB.out)⟩⟩
        case round =>
         clear H'
         (try clear c1); (try clear p2); (try clear c3); (try clear c5); (try clear c5b0); (try clear c5b1); (try clear p6); (try clear c14); (try clear c14b0); (try clear c14b1); (try clear c14b2); (try clear c18); (try clear c19); (try clear c19b0); (try clear p2); (try clear p6)
         obtain ⟨x15_3, rfl, HA, HK3, HO_9, HO_10, HO_11, HB⟩ := hrel
         cases gk with
         | zero => exact absurd HA.out (by simp [warplaw8_TableOnce.l1])
         | succ k3 =>
          have H := HA.out
          clear HA
          simp only [warplaw8_TableOnce.l1] at H
          by_cases c21 : x15_3 < x14_2
          ·
           rw [if_pos c21] at H
           have c21b0 : decide (x15_3 < x14_2) = true := decide_eq_true c21
           clear c21
           by_cases c22 : 0 ≤ x14_2
           ·
            rw [if_pos c22] at H
            have c22b0 : decide (0 ≤ x14_2) = true := decide_eq_true c22
            clear c22
            by_cases c23 : x14_2 < (t203.length : Int)
            ·
             rw [if_pos c23] at H
             have c23b0 : decide (x14_2 < (t203.length : Int)) = true := decide_eq_true c23
             clear c23
             by_cases c24 : 0 ≤ x15_3
             ·
              rw [if_pos c24] at H
              have c24b0 : decide (0 ≤ x15_3) = true := decide_eq_true c24
              clear c24
              by_cases c25 : x15_3 < (t203.length : Int)
              ·
               rw [if_pos c25] at H
               have c25b0 : decide (x15_3 < (t203.length : Int)) = true := decide_eq_true c25
               clear c25
               by_cases c26 : ((((rd_T26 t203 x14_2).f0).toList) == (((rd_T26 t203 x15_3).f0).toList) && (((rd_T26 t203 x14_2).f1) == ((rd_T26 t203 x15_3).f1) && (((rd_T26 t203 x14_2).f2) == ((rd_T26 t203 x15_3).f2)))) = true
               ·
                rw [if_pos c26] at H
                have c26b0 : ((((rd_T26 t203 x14_2).f0).toList) == (((rd_T26 t203 x15_3).f0).toList) && (((rd_T26 t203 x14_2).f1) == ((rd_T26 t203 x15_3).f1) && (((rd_T26 t203 x14_2).f2) == ((rd_T26 t203 x15_3).f2)))) = true := c26
                (try (have c26b1 : decide ((((rd_T26 t203 x14_2).f0).toList) = (((rd_T26 t203 x15_3).f0).toList) && (((rd_T26 t203 x14_2).f1) == ((rd_T26 t203 x15_3).f1) && (((rd_T26 t203 x14_2).f2) == ((rd_T26 t203 x15_3).f2)))) = true := by simpa using c26))
                (try (have c26b2 : ((((rd_T26 t203 x14_2).f0).toList) == (((rd_T26 t203 x15_3).f0).toList) && (((rd_T26 t203 x14_2).f1) == ((rd_T26 t203 x15_3).f1) && (((rd_T26 t203 x14_2).f2) == ((rd_T26 t203 x15_3).f2)))) = true := by simpa using c26))
                clear c26
                exact absurd (hr_.symm.trans (Option.some.inj H).symm) (by decide)
               ·
                rw [if_neg c26] at H
                have c26b0 : ((((rd_T26 t203 x14_2).f0).toList) == (((rd_T26 t203 x15_3).f0).toList) && (((rd_T26 t203 x14_2).f1) == ((rd_T26 t203 x15_3).f1) && (((rd_T26 t203 x14_2).f2) == ((rd_T26 t203 x15_3).f2)))) = false := by simpa using c26
                (try (have c26b1 : decide ((((rd_T26 t203 x14_2).f0).toList) = (((rd_T26 t203 x15_3).f0).toList) && (((rd_T26 t203 x14_2).f1) == ((rd_T26 t203 x15_3).f1) && (((rd_T26 t203 x14_2).f2) == ((rd_T26 t203 x15_3).f2)))) = false := by simpa using c26))
                (try (have c26b2 : ((((rd_T26 t203 x14_2).f0).toList) == (((rd_T26 t203 x15_3).f0).toList) && (((rd_T26 t203 x14_2).f1) == ((rd_T26 t203 x15_3).f1) && (((rd_T26 t203 x14_2).f2) == ((rd_T26 t203 x15_3).f2)))) = false := by simpa using c26))
                (try (have c26b3 : ¬ ((((rd_T26 t203 x14_2).f0).toList) = (((rd_T26 t203 x15_3).f0).toList) && (((rd_T26 t203 x14_2).f1) == ((rd_T26 t203 x15_3).f1) && (((rd_T26 t203 x14_2).f2) == ((rd_T26 t203 x15_3).f2)))) := by simpa using c26))
                clear c26
                have H' := Aside0.mk H
                clear H
                have p210 : 0 ≤ (x14_2 : Int) := of_decide_eq_true (by first | (with_reducible assumption) | assumption)
                have q210 : x14_2 < (t203.length : Int) := of_decide_eq_true (by first | (with_reducible assumption) | assumption)
                obtain ⟨ad210, e210, hx210_0, hx210_1, hx210_2⟩ := at_T26 (Kd.R_reads' HO_11.out).2.2 x14_2 p210 q210
                cases e210
                replace p210 := eq_true p210
                replace q210 := eq_true q210
                have p211 : 0 ≤ (x15_3 : Int) := of_decide_eq_true (by first | (with_reducible assumption) | assumption)
                have q211 : x15_3 < (t203.length : Int) := of_decide_eq_true (by first | (with_reducible assumption) | assumption)
                obtain ⟨ad211, e211, hx211_0, hx211_1, hx211_2⟩ := at_T26 (Kd.R_reads' HO_11.out).2.2 x15_3 p211 q211
                obtain rfl : ad210 = ad211 := (by injection e211)
                replace p211 := eq_true p211
                replace q211 := eq_true q211
                go_wp2
                repeat (go_quiet (fail); try go_wp2)
                go_roundg k3
                case measure => have := HJ9.out; have := HK2.out; have := HK3.out; omega
                case rel => exact ⟨(wrap64 (x15_3 + 1)), (by first | rfl | (simp; done) | (simp [*]; done)), H', ⟨by have := HJ9.out; have := HK2.out; have := HK3.out; omega⟩, ⟨by (with_reducible repeat (first | apply Kd.S_alloc | apply Kd.S_drewN | apply Kd.S_drew)); exact HO_9.out⟩, ⟨by (with_reducible repeat (first | apply Kd.S_alloc | apply Kd.S_drewN | apply Kd.S_drew)); exact HO_10.out⟩, ⟨by (with_reducible repeat (first | apply Kd.R_alloc | apply Kd.R_drewN | apply Kd.R_drew)); exact HO_11.out⟩, ⟨by repeat (first | (with_reducible first | exact HB.out | apply below_alloc | apply pw_below_drewN | apply below_drew1) | exact HB.out)⟩⟩
              ·
               rw [if_neg c25] at H
               exact absurd H (by simp)
             ·
              rw [if_neg c24] at H
              exact absurd H (by simp)
            ·
             rw [if_neg c23] at H
             exact absurd H (by simp)
           ·
            rw [if_neg c22] at H
            exact absurd H (by simp)
          ·
           rw [if_neg c21] at H
           have c21b0 : decide (x15_3 < x14_2) = false := decide_eq_false c21
           clear c21
           have H' := Aside0.mk H
           clear H
           go_wp2
           repeat (go_quiet (fail); try go_wp2)
           go_roundg k3
           case measure => have := HJ9.out; have := HK2.out; have := HK3.out; omega
           case rel => exact ⟨(wrap64 (x14_2 + 1)), (by first | rfl | (simp; done) | (simp [*]; done)), H', ⟨by have := HJ9.out; have := HK2.out; have := HK3.out; omega⟩, ⟨by (with_reducible repeat (first | apply Kd.S_alloc | apply Kd.S_drewN | apply Kd.S_drew)); exact HO_9.out⟩, ⟨by (with_reducible repeat (first | apply Kd.S_alloc | apply Kd.S_drewN | apply Kd.S_drew)); exact HO_10.out⟩, ⟨by (with_reducible repeat (first | apply Kd.R_alloc | apply Kd.R_drewN | apply Kd.R_drew)); exact HO_11.out⟩, ⟨by repeat (first | (with_reducible first | exact HB.out | apply below_alloc | apply pw_below_drewN | apply below_drew1) | exact HB.out)⟩⟩
       ·
        rw [if_neg c19] at H
        have c19b0 : decide (x14_2 < (t203.length : Int)) = false := decide_eq_false c19
        clear c19
        have H' := Aside0.mk H
        clear H
        obtain ⟨Ao27, co27, eo27⟩ := Kd.R_slice HO_11.out
        subst eo27
        go_wp2
        repeat (go_quiet (fail); try go_wp2)
        go_loopg [16] k2 (fun kq v16 w' => ∃ (x16_3 : Int), v16 = .int .i64 x16_3 ∧ Aside0 (warplaw8_TableOnce.l2 kq a1 t199 t202 t203 x16_3 = some r) ∧ Aside0 (kq ≤ k2) ∧ Aside0 (Kd.S (Kd.slice 26 k26) 24 w' w.heap.size (fun k_ => some k_ ≠ ((.slice Ao27 t203.length co27) : Value).ownBlock) (.slice Ao12 t199.length co12) t199) ∧ Aside0 (Kd.S (Kd.slice 3 (Kd.int .i64)) 23 w' w.heap.size (fun _ => True) v206 t202) ∧ Aside0 (Kd.R k26 26 w' w.heap.size (fun _ => True) (.slice Ao27 t203.length co27) t203) ∧ Aside0 (Below w.heap.size w w'))
        case atStart => exact ⟨(0), (by first | rfl | (simp; done) | (simp [*]; done)), H', ⟨Nat.le_refl _⟩, ⟨by (with_reducible repeat (first | apply Kd.S_alloc | apply Kd.S_drewN | apply Kd.S_drew)); exact HO_9.out⟩, ⟨by (with_reducible repeat (first | apply Kd.S_alloc | apply Kd.S_drewN | apply Kd.S_drew)); exact HO_10.out⟩, ⟨by (with_reducible repeat (first | apply Kd.R_alloc | apply Kd.R_drewN | apply Kd.R_drew)); exact HO_11.out⟩, ⟨by repeat (first | (with_reducible first | exact HB.out | apply below_alloc | apply pw_below_drewN | apply below_drew1) | exact HB.out)⟩⟩
        case round =>
         clear H'
         (try clear c1); (try clear c2); (try clear p2); (try clear q2); (try clear hx2); (try clear c3); (try clear c5); (try clear c5b0); (try clear c5b1); (try clear p6); (try clear c14); (try clear c14b0); (try clear c14b1); (try clear c14b2); (try clear c18); (try clear c19); (try clear c19b0); (try clear c21); (try clear c21b0); (try clear p21); (try clear q21); (try clear hx21); (try clear c22); (try clear c22b0); (try clear c23); (try clear c23b0); (try clear c24); (try clear c24b0); (try clear c25); (try clear c25b0); (try clear c26); (try clear c26b0); (try clear c26b1); (try clear c26b2); (try clear hx210_0); (try clear hx210_1); (try clear hx210_2); (try clear hx211_0); (try clear hx211_1); (try clear hx211_2); (try clear p2); (try clear p210); (try clear p211); (try clear p6); (try clear q210); (try clear q211)
         obtain ⟨x16_3, rfl, HA, HK3, HO_9, HO_10, HO_11, HB⟩ := hrel
         cases gk with
         | zero => exact absurd HA.out (by simp [warplaw8_TableOnce.l2])
         | succ k3 =>
          have H := HA.out
          clear HA
          simp only [warplaw8_TableOnce.l2] at H
          by_cases c28 : x16_3 < (t199.length : Int)
          ·
           rw [if_pos c28] at H
           have c28b0 : decide (x16_3 < (t199.length : Int)) = true := decide_eq_true c28
           clear c28
           by_cases c29 : 0 ≤ x16_3
           ·
            rw [if_pos c29] at H
            have c29b0 : decide (0 ≤ x16_3) = true := decide_eq_true c29
            clear c29
            by_cases c30 : x16_3 < (t202.length : Int)
            ·
             rw [if_pos c30] at H
             have c30b0 : decide (x16_3 < (t202.length : Int)) = true := decide_eq_true c30
             clear c30
             by_cases c31 : ((rd_L4 t202 x16_3).length : Int) = ((rd_L3 t199 x16_3).length : Int)
             ·
              rw [if_pos c31] at H
              have c31b0 : (((rd_L4 t202 x16_3).length : Int) == ((rd_L3 t199 x16_3).length : Int)) = true := beq_iff_eq.mpr c31
              have c31b1 : (((rd_L4 t202 x16_3).length : Int) != ((rd_L3 t199 x16_3).length : Int)) = false := bne_eq_false_iff_eq.mpr c31
              have c31b2 : ((rd_L4 t202 x16_3).length == (rd_L3 t199 x16_3).length) = true := by first | simpa using c31 | (simp at c31 ⊢; omega)
              clear c31
              have H' := Aside0.mk H
              clear H
              obtain ⟨Ao32, co32, eo32⟩ := Kd.S_slice HO_10.out
              subst eo32
              have p212 : 0 ≤ (x16_3 : Int) := of_decide_eq_true (by first | (with_reducible assumption) | assumption)
              have q212 : x16_3 < (t202.length : Int) := of_decide_eq_true (by first | (with_reducible assumption) | assumption)
              obtain ⟨ad212, A212_0, c212_0, e212, hx212_0, hl212_0, hi212_0⟩ := at_L4 (Kd.S_reads' HO_10.out).2.2 x16_3 p212 q212
              cases e212
              obtain ⟨ce212, hce212, hMe212, hcc212⟩ := Kd.S_get HO_10.out [] x16_3 p212 (by first | exact q212 | exact of_decide_eq_true (by first | (with_reducible assumption) | assumption) | (have e_ := (Kd.S_reads' HO_10.out).1; omega))
              obtain ⟨ve212_0, rfl, ge212_0⟩ := hMe212
              have hv212_0 := hcc212 0 _ rfl
              rw [Nat.add_zero, show ((Kd.slice 3 (Kd.int .i64))).sz = 1 from rfl, Nat.mul_one] at hv212_0
              replace hv212_0 := Option.some.inj (hv212_0.symm.trans hx212_0)
              rw [hv212_0] at ge212_0
              have HL212_0 := Aside0.mk (show Kd.R (Kd.int .i64) 3 _ _ _ _ (rd_L4 t202 x16_3) from ge212_0)
              clear hv212_0 ge212_0
              clear hcc212 hce212
              have HR212_0 := Aside0.mk hi212_0
              have HC212_0 := Aside0.mk hl212_0
              clear hi212_0 hl212_0
              replace p212 := eq_true p212
              replace q212 := eq_true q212
              have p213 : 0 ≤ (x16_3 : Int) := of_decide_eq_true (by first | (with_reducible assumption) | assumption)
              have q213 : x16_3 < (t199.length : Int) := of_decide_eq_true (by first | (with_reducible assumption) | assumption)
              obtain ⟨ad213, A213_0, c213_0, e213, hx213_0, hl213_0, hi213_0⟩ := at_L3 (Kd.S_reads' HO_9.out).2.2 x16_3 p213 q213
              cases e213
              obtain ⟨ce213, hce213, hMe213, hcc213⟩ := Kd.S_get HO_9.out [] x16_3 p213 (by first | exact q213 | exact of_decide_eq_true (by first | (with_reducible assumption) | assumption) | (have e_ := (Kd.S_reads' HO_9.out).1; omega))
              obtain ⟨ve213_0, rfl, ge213_0⟩ := hMe213
              have hv213_0 := hcc213 0 _ rfl
              rw [Nat.add_zero, show ((Kd.slice 26 k26)).sz = 1 from rfl, Nat.mul_one] at hv213_0
              replace hv213_0 := Option.some.inj (hv213_0.symm.trans hx213_0)
              rw [hv213_0] at ge213_0
              have HL213_0 := Aside0.mk (show Kd.R k26 26 _ _ _ _ (rd_L3 t199 x16_3) from ge213_0)
              clear hv213_0 ge213_0
              clear hcc213 hce213
              have HR213_0 := Aside0.mk hi213_0
              have HC213_0 := Aside0.mk hl213_0
              clear hi213_0 hl213_0
              replace p213 := eq_true p213
              replace q213 := eq_true q213
              go_wp2
              repeat (go_quiet (fail); try go_wp2)
              go_loopg [17] k3 (fun kq v17 w' => ∃ (x17_4 : Int), v17 = .int .i64 x17_4 ∧ Aside0 (warplaw8_TableOnce.l3 kq a1 t199 t202 t203 x16_3 x17_4 = some r) ∧ Aside0 (kq ≤ k3) ∧ Aside0 (Kd.S (Kd.slice 26 k26) 24 w' w.heap.size (fun k_ => some k_ ≠ ((.slice Ao27 t203.length co27) : Value).ownBlock) (.slice (some ad213) t199.length co12) t199) ∧ Aside0 (Kd.S (Kd.slice 3 (Kd.int .i64)) 23 w' w.heap.size (fun _ => True) (.slice (some ad212) t202.length co32) t202) ∧ Aside0 (Kd.R k26 26 w' w.heap.size (fun _ => True) (.slice Ao27 t203.length co27) t203) ∧ Aside0 (Kd.C (Kd.int .i64) w' A212_0 (rd_L4 t202 x16_3).length (rd_L4 t202 x16_3)) ∧ Aside0 (Kd.C k26 w' A213_0 (rd_L3 t199 x16_3).length (rd_L3 t199 x16_3)) ∧ Aside0 (Below w.heap.size w w'))
              case atStart => exact ⟨(0), (by first | rfl | (simp; done) | (simp [*]; done)), H', ⟨Nat.le_refl _⟩, ⟨by (with_reducible repeat (first | apply Kd.S_alloc | apply Kd.S_drewN | apply Kd.S_drew)); exact HO_9.out⟩, ⟨by (with_reducible repeat (first | apply Kd.S_alloc | apply Kd.S_drewN | apply Kd.S_drew)); exact HO_10.out⟩, ⟨by (with_reducible repeat (first | apply Kd.R_alloc | apply Kd.R_drewN | apply Kd.R_drew)); exact HO_11.out⟩, ⟨by repeat (first | (with_reducible exact HR212_0.out) | (with_reducible refine Kd.C_alloc ?_ _) | (with_reducible refine Kd.C_drewN ?_ _) | (with_reducible refine Kd.C_drew ?_) | exact HR212_0.out)⟩, ⟨by repeat (first | (with_reducible exact HR213_0.out) | (with_reducible refine Kd.C_alloc ?_ _) | (with_reducible refine Kd.C_drewN ?_ _) | (with_reducible refine Kd.C_drew ?_) | exact HR213_0.out)⟩, ⟨by repeat (first | (with_reducible first | exact HB.out | apply below_alloc | apply pw_below_drewN | apply below_drew1) | exact HB.out)⟩⟩
              case round =>
               clear H'
               (try clear c1); (try clear c2); (try clear p2); (try clear q2); (try clear hx2); (try clear c3); (try clear c5); (try clear c5b0); (try clear c5b1); (try clear p6); (try clear c14); (try clear c14b0); (try clear c14b1); (try clear c14b2); (try clear c18); (try clear c19); (try clear c19b0); (try clear c21); (try clear c21b0); (try clear p21); (try clear q21); (try clear hx21); (try clear c22); (try clear c22b0); (try clear c23); (try clear c23b0); (try clear c24); (try clear c24b0); (try clear c25); (try clear c25b0); (try clear c26); (try clear c26b0); (try clear c26b1); (try clear c26b2); (try clear c28); (try clear c28b0); (try clear c29); (try clear c29b0); (try clear c30); (try clear c30b0); (try clear c31); (try clear c31b0); (try clear c31b1); (try clear c31b2); (try clear hx210_0); (try clear hx210_1); (try clear hx210_2); (try clear hx211_0); (try clear hx211_1); (try clear hx211_2); (try clear hx212_0); (try clear hx213_0); (try clear p2); (try clear p21); (try clear p210); (try clear p211); (try clear p212); (try clear p213); (try clear p6); (try clear q2); (try clear q21); (try clear q210); (try clear q211); (try clear q212); (try clear q213)
               obtain ⟨x17_4, rfl, HA, HK4, HO_9, HO_10, HO_11, HR212_0, HR213_0, HB⟩ := hrel
               cases gk with
               | zero => exact absurd HA.out (by simp [warplaw8_TableOnce.l3])
               | succ k4 =>
                have H := HA.out
                clear HA
                simp only [warplaw8_TableOnce.l3] at H
                by_cases c33 : 0 ≤ x16_3
                ·
                 rw [if_pos c33] at H
                 have c33b0 : decide (0 ≤ x16_3) = true := decide_eq_true c33
                 clear c33
                 by_cases c34 : x16_3 < (t199.length : Int)
                 ·
                  rw [if_pos c34] at H
                  have c34b0 : decide (x16_3 < (t199.length : Int)) = true := decide_eq_true c34
                  clear c34
                  by_cases c35 : x17_4 < ((rd_L3 t199 x16_3).length : Int)
                  ·
                   rw [if_pos c35] at H
                   have c35b0 : decide (x17_4 < ((rd_L3 t199 x16_3).length : Int)) = true := decide_eq_true c35
                   clear c35
                   by_cases c36 : x16_3 < (t202.length : Int)
                   ·
                    rw [if_pos c36] at H
                    have c36b0 : decide (x16_3 < (t202.length : Int)) = true := decide_eq_true c36
                    clear c36
                    by_cases c37 : 0 ≤ x17_4
                    ·
                     rw [if_pos c37] at H
                     have c37b0 : decide (0 ≤ x17_4) = true := decide_eq_true c37
                     clear c37
                     by_cases c38 : x17_4 < ((rd_L4 t202 x16_3).length : Int)
                     ·
                      rw [if_pos c38] at H
                      have c38b0 : decide (x17_4 < ((rd_L4 t202 x16_3).length : Int)) = true := decide_eq_true c38
                      clear c38
                      have HC39 := Aside0.mk H
                      clear H
                      have p214 : 0 ≤ (x16_3 : Int) := of_decide_eq_true (by first | (with_reducible assumption) | assumption)
                      have q214 : x16_3 < (t199.length : Int) := of_decide_eq_true (by first | (with_reducible assumption) | assumption)
                      obtain ⟨ad214, A214_0, c214_0, e214, hx214_0, hl214_0, hi214_0⟩ := at_L3 (Kd.S_reads' HO_9.out).2.2 x16_3 p214 q214
                      obtain rfl : ad213 = ad214 := (by injection e214)
                      obtain ⟨ce214, hce214, hMe214, hcc214⟩ := Kd.S_get HO_9.out [] x16_3 p214 (by first | exact q214 | exact of_decide_eq_true (by first | (with_reducible assumption) | assumption) | (have e_ := (Kd.S_reads' HO_9.out).1; omega))
                      obtain ⟨ve214_0, rfl, ge214_0⟩ := hMe214
                      have hv214_0 := hcc214 0 _ rfl
                      rw [Nat.add_zero, show ((Kd.slice 26 k26)).sz = 1 from rfl, Nat.mul_one] at hv214_0
                      replace hv214_0 := Option.some.inj (hv214_0.symm.trans hx214_0)
                      rw [hv214_0] at ge214_0
                      have HL214_0 := Aside0.mk (show Kd.R k26 26 _ _ _ _ (rd_L3 t199 x16_3) from ge214_0)
                      clear hv214_0 ge214_0
                      clear hcc214 hce214
                      have HR214_0 := Aside0.mk hi214_0
                      have HC214_0 := Aside0.mk hl214_0
                      clear hi214_0 hl214_0
                      replace p214 := eq_true p214
                      replace q214 := eq_true q214
                      have p215 : 0 ≤ (x16_3 : Int) := of_decide_eq_true (by first | (with_reducible assumption) | assumption)
                      have q215 : x16_3 < (t202.length : Int) := of_decide_eq_true (by first | (with_reducible assumption) | assumption)
                      obtain ⟨ad215, A215_0, c215_0, e215, hx215_0, hl215_0, hi215_0⟩ := at_L4 (Kd.S_reads' HO_10.out).2.2 x16_3 p215 q215
                      obtain rfl : ad212 = ad215 := (by injection e215)
                      obtain ⟨ce215, hce215, hMe215, hcc215⟩ := Kd.S_get HO_10.out [] x16_3 p215 (by first | exact q215 | exact of_decide_eq_true (by first | (with_reducible assumption) | assumption) | (have e_ := (Kd.S_reads' HO_10.out).1; omega))
                      obtain ⟨ve215_0, rfl, ge215_0⟩ := hMe215
                      have hv215_0 := hcc215 0 _ rfl
                      rw [Nat.add_zero, show ((Kd.slice 3 (Kd.int .i64))).sz = 1 from rfl, Nat.mul_one] at hv215_0
                      replace hv215_0 := Option.some.inj (hv215_0.symm.trans hx215_0)
                      rw [hv215_0] at ge215_0
                      have HL215_0 := Aside0.mk (show Kd.R (Kd.int .i64) 3 _ _ _ _ (rd_L4 t202 x16_3) from ge215_0)
                      clear hv215_0 ge215_0
                      clear hcc215 hce215
                      have HR215_0 := Aside0.mk hi215_0
                      have HC215_0 := Aside0.mk hl215_0
                      clear hi215_0 hl215_0
                      replace p215 := eq_true p215
                      replace q215 := eq_true q215
                      have p216 : 0 ≤ (x17_4 : Int) := of_decide_eq_true (by first | (with_reducible assumption) | assumption)
                      have q216 : x17_4 < ((rd_L4 t202 x16_3).length : Int) := of_decide_eq_true (by first | (with_reducible assumption) | assumption)
                      obtain ⟨ad216, e216, hx216_0⟩ := Kd.at_int (by repeat (first | (with_reducible exact HR215_0.out) | (with_reducible refine Kd.C_alloc ?_ _) | (with_reducible refine Kd.C_drewN ?_ _) | (with_reducible refine Kd.C_drew ?_) | exact HR215_0.out)) x17_4 p216 q216
                      cases e216
                      replace p216 := eq_true p216
                      replace q216 := eq_true q216
                      go_upto_region 24 with (fail)
                      repeat (go_quiet (fail); go_upto_region 24 with (fail))
                      go_cut [142] (fun v142 wc => ∃ (kq : Nat) (x142_38 : Bool), v142 = .bool x142_38 ∧ Aside0 (warplaw8_TableOnce.j5 kq a1 t199 t202 t203 x16_3 x17_4 x142_38 = some r) ∧ Aside0 (kq ≤ k4) ∧ Aside0 (Kd.S (Kd.slice 26 k26) 24 wc w.heap.size (fun k_ => some k_ ≠ ((.slice Ao27 t203.length co27) : Value).ownBlock) (.slice (some ad213) t199.length co12) t199) ∧ Aside0 (Kd.S (Kd.slice 3 (Kd.int .i64)) 23 wc w.heap.size (fun _ => True) (.slice (some ad212) t202.length co32) t202) ∧ Aside0 (Kd.R k26 26 wc w.heap.size (fun _ => True) (.slice Ao27 t203.length co27) t203) ∧ Aside0 (Kd.C (Kd.int .i64) wc A212_0 (rd_L4 t202 x16_3).length (rd_L4 t202 x16_3)) ∧ Aside0 (Kd.C k26 wc A213_0 (rd_L3 t199 x16_3).length (rd_L3 t199 x16_3)) ∧ Aside0 (Kd.C k26 wc A214_0 (rd_L3 t199 x16_3).length (rd_L3 t199 x16_3)) ∧ Aside0 (Kd.C (Kd.int .i64) wc (some ad216) (rd_L4 t202 x16_3).length (rd_L4 t202 x16_3)) ∧ Aside0 (Below w.heap.size w wc))
                      case first =>
                       have H := HC39.out
                       clear HC39
                       by_cases c40 : (rd (rd_L4 t202 x16_3) x17_4) < (-1)
                       ·
                        rw [if_pos c40] at H
                        have c40b0 : decide ((rd (rd_L4 t202 x16_3) x17_4) < (-1)) = true := decide_eq_true c40
                        clear c40
                        (first | rw [c40b0] | (simp only [i64_w, i32_w]; rw [c40b0]) | skip)
                        exact absurd (H.trans (congrArg some hr_)) (warplaw8_TableOnce.j5_true _ _ _ _ _ _ _)
                       ·
                        rw [if_neg c40] at H
                        have c40b0 : decide ((rd (rd_L4 t202 x16_3) x17_4) < (-1)) = false := decide_eq_false c40
                        clear c40
                        (first | rw [c40b0] | (simp only [i64_w, i32_w]; rw [c40b0]) | skip)
                        by_cases c41 : (rd (rd_L4 t202 x16_3) x17_4) ≥ (t203.length : Int)
                        ·
                         rw [if_pos c41] at H
                         have c41b0 : decide ((t203.length : Int) ≤ (rd (rd_L4 t202 x16_3) x17_4)) = true := decide_eq_true c41
                         clear c41
                         exact absurd (H.trans (congrArg some hr_)) (warplaw8_TableOnce.j5_true _ _ _ _ _ _ _)
                        ·
                         rw [if_neg c41] at H
                         have c41b0 : decide ((t203.length : Int) ≤ (rd (rd_L4 t202 x16_3) x17_4)) = false := decide_eq_false c41
                         clear c41
                         by_cases c42 : (rd (rd_L4 t202 x16_3) x17_4) ≥ 0
                         ·
                          rw [if_pos c42] at H
                          have c42b0 : decide (0 ≤ (rd (rd_L4 t202 x16_3) x17_4)) = true := decide_eq_true c42
                          clear c42
                          by_cases c43 : 0 ≤ (rd (rd_L4 t202 x16_3) x17_4)
                          ·
                           rw [if_pos c43] at H
                           have c43b0 : decide (0 ≤ (rd (rd_L4 t202 x16_3) x17_4)) = true := decide_eq_true c43
                           clear c43
                           by_cases c44 : (rd (rd_L4 t202 x16_3) x17_4) < (t203.length : Int)
                           ·
                            rw [if_pos c44] at H
                            have c44b0 : decide ((rd (rd_L4 t202 x16_3) x17_4) < (t203.length : Int)) = true := decide_eq_true c44
                            clear c44
                            by_cases c45 : (!((((rd_T26 t203 (rd (rd_L4 t202 x16_3) x17_4)).f0).toList) == (((rd_T26 (rd_L3 t199 x16_3) x17_4).f0).toList)) || (!(((rd_T26 t203 (rd (rd_L4 t202 x16_3) x17_4)).f1) == ((rd_T26 (rd_L3 t199 x16_3) x17_4).f1)) || (!(((rd_T26 t203 (rd (rd_L4 t202 x16_3) x17_4)).f2) == ((rd_T26 (rd_L3 t199 x16_3) x17_4).f2))))) = true
                            ·
                             rw [if_pos c45] at H
                             have c45b0 : (!((((rd_T26 t203 (rd (rd_L4 t202 x16_3) x17_4)).f0).toList) == (((rd_T26 (rd_L3 t199 x16_3) x17_4).f0).toList)) || (!(((rd_T26 t203 (rd (rd_L4 t202 x16_3) x17_4)).f1) == ((rd_T26 (rd_L3 t199 x16_3) x17_4).f1)) || (!(((rd_T26 t203 (rd (rd_L4 t202 x16_3) x17_4)).f2) == ((rd_T26 (rd_L3 t199 x16_3) x17_4).f2))))) = true := c45
                             clear c45
                             exact absurd (H.trans (congrArg some hr_)) (warplaw8_TableOnce.j5_true _ _ _ _ _ _ _)
                            ·
                             rw [if_neg c45] at H
                             have c45b0 : (!((((rd_T26 t203 (rd (rd_L4 t202 x16_3) x17_4)).f0).toList) == (((rd_T26 (rd_L3 t199 x16_3) x17_4).f0).toList)) || (!(((rd_T26 t203 (rd (rd_L4 t202 x16_3) x17_4)).f1) == ((rd_T26 (rd_L3 t199 x16_3) x17_4).f1)) || (!(((rd_T26 t203 (rd (rd_L4 t202 x16_3) x17_4)).f2) == ((rd_T26 (rd_L3 t199 x16_3) x17_4).f2))))) = false := by simpa using c45
                             clear c45
                             by_cases c46 : (rd (rd_L4 t202 x16_3) x17_4) < 0
                             ·
                              rw [if_pos c46] at H
                              have c46b0 : decide ((rd (rd_L4 t202 x16_3) x17_4) < 0) = true := decide_eq_true c46
                              exact absurd (of_decide_eq_true c46b0) (by have := of_decide_eq_true c43b0; omega)
                             ·
                              rw [if_neg c46] at H
                              have c46b0 : decide ((rd (rd_L4 t202 x16_3) x17_4) < 0) = false := decide_eq_false c46
                              clear c46
                              have H' := Aside0.mk H
                              clear H
                              have p217 : 0 ≤ ((rd (rd_L4 t202 x16_3) x17_4) : Int) := of_decide_eq_true (by first | (with_reducible assumption) | assumption)
                              have q217 : (rd (rd_L4 t202 x16_3) x17_4) < (t203.length : Int) := of_decide_eq_true (by first | (with_reducible assumption) | assumption)
                              obtain ⟨ad217, e217, hx217_0, hx217_1, hx217_2⟩ := at_T26 (Kd.R_reads' HO_11.out).2.2 (rd (rd_L4 t202 x16_3) x17_4) p217 q217
                              cases e217
                              replace p217 := eq_true p217
                              replace q217 := eq_true q217
                              have p218 : 0 ≤ (x16_3 : Int) := of_decide_eq_true (by first | (with_reducible assumption) | assumption)
                              have q218 : x16_3 < (t199.length : Int) := of_decide_eq_true (by first | (with_reducible assumption) | assumption)
                              obtain ⟨ad218, A218_0, c218_0, e218, hx218_0, hl218_0, hi218_0⟩ := at_L3 (Kd.S_reads' HO_9.out).2.2 x16_3 p218 q218
                              obtain rfl : ad213 = ad218 := (by injection e218)
                              obtain ⟨e218A, e218c⟩ : A218_0 = A214_0 ∧ c218_0 = c214_0 := by simpa using hx218_0.symm.trans hx214_0
                              subst e218A e218c
                              obtain ⟨ce218, hce218, hMe218, hcc218⟩ := Kd.S_get HO_9.out [] x16_3 p218 (by first | exact q218 | exact of_decide_eq_true (by first | (with_reducible assumption) | assumption) | (have e_ := (Kd.S_reads' HO_9.out).1; omega))
                              obtain ⟨ve218_0, rfl, ge218_0⟩ := hMe218
                              have hv218_0 := hcc218 0 _ rfl
                              rw [Nat.add_zero, show ((Kd.slice 26 k26)).sz = 1 from rfl, Nat.mul_one] at hv218_0
                              replace hv218_0 := Option.some.inj (hv218_0.symm.trans hx218_0)
                              rw [hv218_0] at ge218_0
                              have HL218_0 := Aside0.mk (show Kd.R k26 26 _ _ _ _ (rd_L3 t199 x16_3) from ge218_0)
                              clear hv218_0 ge218_0
                              clear hcc218 hce218
                              have HR218_0 := Aside0.mk hi218_0
                              have HC218_0 := Aside0.mk hl218_0
                              clear hi218_0 hl218_0
                              replace p218 := eq_true p218
                              replace q218 := eq_true q218
                              have p219 : 0 ≤ (x17_4 : Int) := of_decide_eq_true (by first | (with_reducible assumption) | assumption)
                              have q219 : x17_4 < ((rd_L3 t199 x16_3).length : Int) := of_decide_eq_true (by first | (with_reducible assumption) | assumption)
                              obtain ⟨ad219, e219, hx219_0, hx219_1, hx219_2⟩ := at_T26 (by repeat (first | (with_reducible exact HR218_0.out) | (with_reducible refine Kd.C_alloc ?_ _) | (with_reducible refine Kd.C_drewN ?_ _) | (with_reducible refine Kd.C_drew ?_) | exact HR218_0.out)) x17_4 p219 q219
                              cases e219
                              replace p219 := eq_true p219
                              replace q219 := eq_true q219
                              rw [key_of_ne c45b0] at hx219_0 hx219_1 hx219_2
                              go_wp2
                              repeat (go_quiet (fail); try go_wp2)
                              go_meet
                              case rel => exact ⟨_, (false), (by first | rfl | (simp; done) | (simp [*]; done)), H', ⟨by have := HJ9.out; have := HK2.out; have := HK3.out; have := HK4.out; first | omega | exact Nat.le_refl _⟩, ⟨by (with_reducible repeat (first | apply Kd.S_alloc | apply Kd.S_drewN | apply Kd.S_drew)); exact HO_9.out⟩, ⟨by (with_reducible repeat (first | apply Kd.S_alloc | apply Kd.S_drewN | apply Kd.S_drew)); exact HO_10.out⟩, ⟨by (with_reducible repeat (first | apply Kd.R_alloc | apply Kd.R_drewN | apply Kd.R_drew)); exact HO_11.out⟩, ⟨by repeat (first | (with_reducible exact HR212_0.out) | (with_reducible refine Kd.C_alloc ?_ _) | (with_reducible refine Kd.C_drewN ?_ _) | (with_reducible refine Kd.C_drew ?_) | exact HR212_0.out)⟩, ⟨by repeat (first | (with_reducible exact HR213_0.out) | (with_reducible refine Kd.C_alloc ?_ _) | (with_reducible refine Kd.C_drewN ?_ _) | (with_reducible refine Kd.C_drew ?_) | exact HR213_0.out)⟩, ⟨by repeat (first | (with_reducible exact HR214_0.out) | (with_reducible refine Kd.C_alloc ?_ _) | (with_reducible refine Kd.C_drewN ?_ _) | (with_reducible refine Kd.C_drew ?_) | exact HR214_0.out)⟩, ⟨by repeat (first | (with_reducible exact HR215_0.out) | (with_reducible refine Kd.C_alloc ?_ _) | (with_reducible refine Kd.C_drewN ?_ _) | (with_reducible refine Kd.C_drew ?_) | exact HR215_0.out)⟩, ⟨by repeat (first | (with_reducible first | exact HB.out | apply below_alloc | apply pw_below_drewN | apply below_drew1) | exact HB.out)⟩⟩
                           ·
                            rw [if_neg c44] at H
                            exact absurd H (by simp)
                          ·
                           rw [if_neg c43] at H
                           exact absurd H (by simp)
                         ·
                          rw [if_neg c42] at H
                          have c42b0 : decide (0 ≤ (rd (rd_L4 t202 x16_3) x17_4)) = false := decide_eq_false c42
                          clear c42
                          by_cases c47 : (rd (rd_L4 t202 x16_3) x17_4) < 0
                          ·
                           rw [if_pos c47] at H
                           have c47b0 : decide ((rd (rd_L4 t202 x16_3) x17_4) < 0) = true := decide_eq_true c47
                           clear c47
                           have H' := Aside0.mk H
                           clear H
                           go_wp2
                           repeat (go_quiet (fail); try go_wp2)
                           go_meet
                           case rel => exact ⟨_, (decide ((t203.length : Int) < (Int.tmod (wrap64 (a1)) 40))), (by first | rfl | (simp; done) | (simp [*]; done)), H', ⟨by have := HJ9.out; have := HK2.out; have := HK3.out; have := HK4.out; first | omega | exact Nat.le_refl _⟩, ⟨by (with_reducible repeat (first | apply Kd.S_alloc | apply Kd.S_drewN | apply Kd.S_drew)); exact HO_9.out⟩, ⟨by (with_reducible repeat (first | apply Kd.S_alloc | apply Kd.S_drewN | apply Kd.S_drew)); exact HO_10.out⟩, ⟨by (with_reducible repeat (first | apply Kd.R_alloc | apply Kd.R_drewN | apply Kd.R_drew)); exact HO_11.out⟩, ⟨by repeat (first | (with_reducible exact HR212_0.out) | (with_reducible refine Kd.C_alloc ?_ _) | (with_reducible refine Kd.C_drewN ?_ _) | (with_reducible refine Kd.C_drew ?_) | exact HR212_0.out)⟩, ⟨by repeat (first | (with_reducible exact HR213_0.out) | (with_reducible refine Kd.C_alloc ?_ _) | (with_reducible refine Kd.C_drewN ?_ _) | (with_reducible refine Kd.C_drew ?_) | exact HR213_0.out)⟩, ⟨by repeat (first | (with_reducible exact HR214_0.out) | (with_reducible refine Kd.C_alloc ?_ _) | (with_reducible refine Kd.C_drewN ?_ _) | (with_reducible refine Kd.C_drew ?_) | exact HR214_0.out)⟩, ⟨by repeat (first | (with_reducible exact HR215_0.out) | (with_reducible refine Kd.C_alloc ?_ _) | (with_reducible refine Kd.C_drewN ?_ _) | (with_reducible refine Kd.C_drew ?_) | exact HR215_0.out)⟩, ⟨by repeat (first | (with_reducible first | exact HB.out | apply below_alloc | apply pw_below_drewN | apply below_drew1) | exact HB.out)⟩⟩
                          ·
                           rw [if_neg c47] at H
                           have c47b0 : decide ((rd (rd_L4 t202 x16_3) x17_4) < 0) = false := decide_eq_false c47
                           clear c47
                           have H' := Aside0.mk H
                           clear H
                           go_wp2
                           repeat (go_quiet (fail); try go_wp2)
                           go_meet
                           case rel => exact ⟨_, (false), (by first | rfl | (simp; done) | (simp [*]; done)), H', ⟨by have := HJ9.out; have := HK2.out; have := HK3.out; have := HK4.out; first | omega | exact Nat.le_refl _⟩, ⟨by (with_reducible repeat (first | apply Kd.S_alloc | apply Kd.S_drewN | apply Kd.S_drew)); exact HO_9.out⟩, ⟨by (with_reducible repeat (first | apply Kd.S_alloc | apply Kd.S_drewN | apply Kd.S_drew)); exact HO_10.out⟩, ⟨by (with_reducible repeat (first | apply Kd.R_alloc | apply Kd.R_drewN | apply Kd.R_drew)); exact HO_11.out⟩, ⟨by repeat (first | (with_reducible exact HR212_0.out) | (with_reducible refine Kd.C_alloc ?_ _) | (with_reducible refine Kd.C_drewN ?_ _) | (with_reducible refine Kd.C_drew ?_) | exact HR212_0.out)⟩, ⟨by repeat (first | (with_reducible exact HR213_0.out) | (with_reducible refine Kd.C_alloc ?_ _) | (with_reducible refine Kd.C_drewN ?_ _) | (with_reducible refine Kd.C_drew ?_) | exact HR213_0.out)⟩, ⟨by repeat (first | (with_reducible exact HR214_0.out) | (with_reducible refine Kd.C_alloc ?_ _) | (with_reducible refine Kd.C_drewN ?_ _) | (with_reducible refine Kd.C_drew ?_) | exact HR214_0.out)⟩, ⟨by repeat (first | (with_reducible exact HR215_0.out) | (with_reducible refine Kd.C_alloc ?_ _) | (with_reducible refine Kd.C_drewN ?_ _) | (with_reducible refine Kd.C_drew ?_) | exact HR215_0.out)⟩, ⟨by repeat (first | (with_reducible first | exact HB.out | apply below_alloc | apply pw_below_drewN | apply below_drew1) | exact HB.out)⟩⟩
                      case rest =>
                       clear HC39
                       (try clear c1); (try clear c2); (try clear p2); (try clear q2); (try clear hx2); (try clear c3); (try clear c4); (try clear c5); (try clear c5b0); (try clear c5b1); (try clear p6); (try clear c14); (try clear c14b0); (try clear c14b1); (try clear c14b2); (try clear c18); (try clear c19); (try clear c19b0); (try clear c21); (try clear c21b0); (try clear p21); (try clear q21); (try clear hx21); (try clear c22); (try clear c22b0); (try clear c23); (try clear c23b0); (try clear c24); (try clear c24b0); (try clear c25); (try clear c25b0); (try clear c26); (try clear c26b0); (try clear c26b1); (try clear c26b2); (try clear c28); (try clear c28b0); (try clear c29); (try clear c29b0); (try clear c30); (try clear c30b0); (try clear c31); (try clear c31b0); (try clear c31b1); (try clear c31b2); (try clear c33); (try clear c33b0); (try clear c34); (try clear c34b0); (try clear c35); (try clear c35b0); (try clear c36); (try clear c36b0); (try clear c37); (try clear c37b0); (try clear c38); (try clear c38b0); (try clear c40); (try clear c40b0); (try clear c41); (try clear c41b0); (try clear c42); (try clear c42b0); (try clear c43); (try clear c43b0); (try clear c44); (try clear c44b0); (try clear c45); (try clear c45b0); (try clear c46); (try clear c46b0); (try clear c47); (try clear c47b0); (try clear hx210_0); (try clear hx210_1); (try clear hx210_2); (try clear hx211_0); (try clear hx211_1); (try clear hx211_2); (try clear hx212_0); (try clear hx213_0); (try clear hx214_0); (try clear hx215_0); (try clear hx216_0); (try clear hx217_0); (try clear hx217_1); (try clear hx217_2); (try clear hx218_0); (try clear hx219_0); (try clear hx219_1); (try clear hx219_2); (try clear p2); (try clear p21); (try clear p210); (try clear p211); (try clear p212); (try clear p213); (try clear p214); (try clear p215); (try clear p216); (try clear p217); (try clear p218); (try clear p219); (try clear p6); (try clear q2); (try clear q21); (try clear q210); (try clear q211); (try clear q212); (try clear q213); (try clear q214); (try clear q215); (try clear q216); (try clear q217); (try clear q218); (try clear q219)
                       obtain ⟨kq, x142_38, rfl, HA, HJ38, HO_9, HO_10, HO_11, HR212_0, HR213_0, HR214_0, HR215_0, HB⟩ := hcut
                       cases kq with
                       | zero => exact absurd HA.out (by simp [warplaw8_TableOnce.j5])
                       | succ kj38 =>
                        have H := HA.out
                        clear HA
                        simp only [warplaw8_TableOnce.j5] at H
                        by_cases c48 : x142_38 = true
                        ·
                         subst c48
                         have H1 : (some false) = some r := by rw [if_pos rfl] at H; exact H
                         clear H
                         have H := H1
                         clear H1
                         exact absurd (hr_.symm.trans (Option.some.inj H).symm) (by decide)
                        ·
                         replace c48 := Bool.eq_false_iff.mpr c48
                         subst c48
                         have H1 : (warplaw8_TableOnce.l3 kj38 a1 t199 t202 t203 x16_3 (wrap64 (x17_4 + 1))) = some r := by rw [if_neg (show ¬ (false = true) by decide)] at H; exact H
                         clear H
                         have H := H1
                         clear H1
                         have H' := Aside0.mk H
                         clear H
                         go_wp2
                         repeat (go_quiet (fail); try go_wp2)
                         go_roundg kj38
                         case measure => have := HJ9.out; have := HK2.out; have := HK3.out; have := HK4.out; have := HJ38.out; omega
                         case rel => exact ⟨(wrap64 (x17_4 + 1)), (by first | rfl | (simp; done) | (simp [*]; done)), H', ⟨by have := HJ9.out; have := HK2.out; have := HK3.out; have := HK4.out; have := HJ38.out; omega⟩, ⟨by (with_reducible repeat (first | apply Kd.S_alloc | apply Kd.S_drewN | apply Kd.S_drew)); exact HO_9.out⟩, ⟨by (with_reducible repeat (first | apply Kd.S_alloc | apply Kd.S_drewN | apply Kd.S_drew)); exact HO_10.out⟩, ⟨by (with_reducible repeat (first | apply Kd.R_alloc | apply Kd.R_drewN | apply Kd.R_drew)); exact HO_11.out⟩, ⟨by repeat (first | (with_reducible exact HR212_0.out) | (with_reducible refine Kd.C_alloc ?_ _) | (with_reducible refine Kd.C_drewN ?_ _) | (with_reducible refine Kd.C_drew ?_) | exact HR212_0.out)⟩, ⟨by repeat (first | (with_reducible exact HR213_0.out) | (with_reducible refine Kd.C_alloc ?_ _) | (with_reducible refine Kd.C_drewN ?_ _) | (with_reducible refine Kd.C_drew ?_) | exact HR213_0.out)⟩, ⟨by repeat (first | (with_reducible first | exact HB.out | apply below_alloc | apply pw_below_drewN | apply below_drew1) | exact HB.out)⟩⟩
                     ·
                      rw [if_neg c38] at H
                      exact absurd H (by simp)
                    ·
                     rw [if_neg c37] at H
                     exact absurd H (by simp)
                   ·
                    rw [if_neg c36] at H
                    exact absurd H (by simp)
                  ·
                   rw [if_neg c35] at H
                   have c35b0 : decide (x17_4 < ((rd_L3 t199 x16_3).length : Int)) = false := decide_eq_false c35
                   clear c35
                   have H' := Aside0.mk H
                   clear H
                   have p214 : 0 ≤ (x16_3 : Int) := of_decide_eq_true (by first | (with_reducible assumption) | assumption)
                   have q214 : x16_3 < (t199.length : Int) := of_decide_eq_true (by first | (with_reducible assumption) | assumption)
                   obtain ⟨ad214, A214_0, c214_0, e214, hx214_0, hl214_0, hi214_0⟩ := at_L3 (Kd.S_reads' HO_9.out).2.2 x16_3 p214 q214
                   obtain rfl : ad213 = ad214 := (by injection e214)
                   obtain ⟨ce214, hce214, hMe214, hcc214⟩ := Kd.S_get HO_9.out [] x16_3 p214 (by first | exact q214 | exact of_decide_eq_true (by first | (with_reducible assumption) | assumption) | (have e_ := (Kd.S_reads' HO_9.out).1; omega))
                   obtain ⟨ve214_0, rfl, ge214_0⟩ := hMe214
                   have hv214_0 := hcc214 0 _ rfl
                   rw [Nat.add_zero, show ((Kd.slice 26 k26)).sz = 1 from rfl, Nat.mul_one] at hv214_0
                   replace hv214_0 := Option.some.inj (hv214_0.symm.trans hx214_0)
                   rw [hv214_0] at ge214_0
                   have HL214_0 := Aside0.mk (show Kd.R k26 26 _ _ _ _ (rd_L3 t199 x16_3) from ge214_0)
                   clear hv214_0 ge214_0
                   clear hcc214 hce214
                   have HR214_0 := Aside0.mk hi214_0
                   have HC214_0 := Aside0.mk hl214_0
                   clear hi214_0 hl214_0
                   replace p214 := eq_true p214
                   replace q214 := eq_true q214
                   go_wp2
                   repeat (go_quiet (fail); try go_wp2)
                   go_roundg k4
                   case measure => have := HJ9.out; have := HK2.out; have := HK3.out; have := HK4.out; omega
                   case rel => exact ⟨(wrap64 (x16_3 + 1)), (by first | rfl | (simp; done) | (simp [*]; done)), H', ⟨by have := HJ9.out; have := HK2.out; have := HK3.out; have := HK4.out; omega⟩, ⟨by (with_reducible repeat (first | apply Kd.S_alloc | apply Kd.S_drewN | apply Kd.S_drew)); exact HO_9.out⟩, ⟨by (with_reducible repeat (first | apply Kd.S_alloc | apply Kd.S_drewN | apply Kd.S_drew)); exact HO_10.out⟩, ⟨by (with_reducible repeat (first | apply Kd.R_alloc | apply Kd.R_drewN | apply Kd.R_drew)); exact HO_11.out⟩, ⟨by repeat (first | (with_reducible first | exact HB.out | apply below_alloc | apply pw_below_drewN | apply below_drew1) | exact HB.out)⟩⟩
                 ·
                  rw [if_neg c34] at H
                  exact absurd H (by simp)
                ·
                 rw [if_neg c33] at H
                 exact absurd H (by simp)
             ·
              rw [if_neg c31] at H
              have c31b0 : (((rd_L4 t202 x16_3).length : Int) == ((rd_L3 t199 x16_3).length : Int)) = false := beq_eq_false_iff_ne.mpr c31
              have c31b1 : (((rd_L4 t202 x16_3).length : Int) != ((rd_L3 t199 x16_3).length : Int)) = true := bne_iff_ne.mpr c31
              have c31b2 : ((rd_L4 t202 x16_3).length == (rd_L3 t199 x16_3).length) = false := by first | simpa using c31 | (simp at c31 ⊢; omega)
              exact absurd (hr_.symm.trans (Option.some.inj H).symm) (by decide)
            ·
             rw [if_neg c30] at H
             exact absurd H (by simp)
           ·
            rw [if_neg c29] at H
            exact absurd H (by simp)
          ·
           rw [if_neg c28] at H
           have c28b0 : decide (x16_3 < (t199.length : Int)) = false := decide_eq_false c28
           clear c28
           replace H := Option.bind_eq_some_iff.mp H
           obtain ⟨t220, A500, H⟩ := H
           replace H : (some t220) = some r := H
           have A50 := Aside0.mk A500
           clear A500
           obtain rfl := Option.some.inj H
           go_wp2_with (first | (go_at_call 8; (with_reducible refine (warplaw8_awake.calls k3  t220 _ A50.out).mono ?_); rintro e w51 ⟨rfl, hb⟩; have n0_ := Aside0.mk (Kd.S_below (by (with_reducible repeat (first | apply Kd.S_alloc | apply Kd.S_drewN | apply Kd.S_drew)); exact HO_9.out) hb); have n1_ := Aside0.mk (Kd.S_below (by (with_reducible repeat (first | apply Kd.S_alloc | apply Kd.S_drewN | apply Kd.S_drew)); exact HO_10.out) hb); have n2_ := Aside0.mk (Kd.R_below (by (with_reducible repeat (first | apply Kd.R_alloc | apply Kd.R_drewN | apply Kd.R_drew)); exact HO_11.out) hb); have n3_ := Aside0.mk (below_step (by repeat (first | (with_reducible first | exact HB.out | apply below_alloc | apply pw_below_drewN | apply below_drew1) | exact HB.out)) hb); clear HO_9; clear HO_10; clear HO_11; clear HB; have HO_9 := n0_; have HO_10 := n1_; have HO_11 := n2_; have HB := n3_; clear n0_ n1_ n2_ n3_; (try clear hb); (try clear hb2); (try clear hk); (try clear hi)))
           repeat (go_quiet (first | (go_at_call 8; (with_reducible refine (warplaw8_awake.calls k3  t220 _ A50.out).mono ?_); rintro e w51 ⟨rfl, hb⟩; have n0_ := Aside0.mk (Kd.S_below (by (with_reducible repeat (first | apply Kd.S_alloc | apply Kd.S_drewN | apply Kd.S_drew)); exact HO_9.out) hb); have n1_ := Aside0.mk (Kd.S_below (by (with_reducible repeat (first | apply Kd.S_alloc | apply Kd.S_drewN | apply Kd.S_drew)); exact HO_10.out) hb); have n2_ := Aside0.mk (Kd.R_below (by (with_reducible repeat (first | apply Kd.R_alloc | apply Kd.R_drewN | apply Kd.R_drew)); exact HO_11.out) hb); have n3_ := Aside0.mk (below_step (by repeat (first | (with_reducible first | exact HB.out | apply below_alloc | apply pw_below_drewN | apply below_drew1) | exact HB.out)) hb); clear HO_9; clear HO_10; clear HO_11; clear HB; have HO_9 := n0_; have HO_10 := n1_; have HO_11 := n2_; have HB := n3_; clear n0_ n1_ n2_ n3_; (try clear hb); (try clear hb2); (try clear hk); (try clear hi))); try go_wp2_with (first | (go_at_call 8; (with_reducible refine (warplaw8_awake.calls k3  t220 _ A50.out).mono ?_); rintro e w51 ⟨rfl, hb⟩; have n0_ := Aside0.mk (Kd.S_below (by (with_reducible repeat (first | apply Kd.S_alloc | apply Kd.S_drewN | apply Kd.S_drew)); exact HO_9.out) hb); have n1_ := Aside0.mk (Kd.S_below (by (with_reducible repeat (first | apply Kd.S_alloc | apply Kd.S_drewN | apply Kd.S_drew)); exact HO_10.out) hb); have n2_ := Aside0.mk (Kd.R_below (by (with_reducible repeat (first | apply Kd.R_alloc | apply Kd.R_drewN | apply Kd.R_drew)); exact HO_11.out) hb); have n3_ := Aside0.mk (below_step (by repeat (first | (with_reducible first | exact HB.out | apply below_alloc | apply pw_below_drewN | apply below_drew1) | exact HB.out)) hb); clear HO_9; clear HO_10; clear HO_11; clear HB; have HO_9 := n0_; have HO_10 := n1_; have HO_11 := n2_; have HB := n3_; clear n0_ n1_ n2_ n3_; (try clear hb); (try clear hb2); (try clear hk); (try clear hi))))
           go_ret
           exact ⟨by first | rfl | (simp [errW_none, errW_some] <;> rfl) | (simp [*, errW_none, errW_some] <;> rfl), by repeat (first | (with_reducible first | exact HB.out | apply below_alloc | apply pw_below_drewN | apply below_drew1) | exact HB.out)⟩

/-- The one plain statement of warplaw8_TableOnce. -/
def warplaw8_TableOnce.Pure : Prop := ∀ (l0 : List (List Int)) (a1 : Int) (a2 : Int) (l3 : List Int), ((fun l : List (List Int) => l.length ≤ maxLen ∧ ∀ x ∈ l, (fun l : List Int => l.length ≤ maxLen ∧ ∀ x ∈ l, (fun n : Int => (Lit.int .u8 n).wf = true) x) x) l0) → ((fun n : Int => (Lit.int .u8 n).wf = true) a1) → ((fun n : Int => (Lit.int .u8 n).wf = true) a2) → ((fun l : List Int => l.length ≤ maxLen ∧ ∀ x ∈ l, (fun n : Int => (Lit.int .i64 n).wf = true) x) l3) → ∃ k, warplaw8_TableOnce.f k l0 a1 a2 l3 = some true

end Go.Proofs.YtmgfkdnoclmbgaaDoor.P
