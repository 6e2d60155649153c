/-
The plain Lean functions of Go functions of this seat, and proofs that the calls of the machine come to them; no condition beside those named in each theorem.
-/
import Derived.Test.YtmgfkdnoclmbgaaDoorPx0
import Derived.Test.YtmgfkdnoclmbgaaDoorPx2
import Derived.Test.YtmgfkdnoclmbgaaDoorPx3
import Derived.Test.YtmgfkdnoclmbgaaDoorStubB
namespace Go.Proofs.YtmgfkdnoclmbgaaDoor.P
open Go.RowKit Go.Proofs.YtmgfkdnoclmbgaaDoorW.PrintWords Go.Proofs.YtmgfkdnoclmbgaaDoorW.PrintLast Go.Proofs.YtmgfkdnoclmbgaaDoorW.PrintMore
attribute [local go_sem] max2_int min2_int max_two min_two max_three min_three max_four min_four   -- for this text's walks alone
set_option linter.unusedVariables false
set_option linter.unusedSimpArgs false

/-! ### warplaw8_TableOne: function 7 -/
mutual
def warplaw8_TableOne.j0 : Nat → List Int → Int → List Int → Bool → Option (Bool)
 | 0, _, _, _, _ => none
 | k + 1, x0, x1, x2, x23 => if x23 = true then ((warplaw8_awake.f k).bind fun t124 => (some t124)) else (warplaw8_TableOne.l0 k x0 x1 x2 ([] : List (S26)) 0)
def warplaw8_TableOne.l0 : Nat → List Int → Int → List Int → List (S26) → Int → Option (Bool)
 | 0, _, _, _, _, _ => none
 | k + 1, x0, x1, x2, x7, x8 => if x8 < (x0.length : Int) then (if 0 ≤ x8 then (if x7.length < 4398046511104 then (warplaw8_TableOne.l0 k x0 x1 x2 (x7 ++ [(⟨(⟨#[107]⟩ : ByteArray), Int.tmod (wrap64 (rd x0 x8)) 11, 0⟩ : S26)]) (wrap64 (x8 + 1))) else (none)) else (none)) else ((table_Play.f (([x7] : List (List (S26)))) 100 (wrap64 (x1)) x2).bind fun bt132 => (if (bt132.1.length : Int) = 1 then (if 0 < (bt132.1.length : Int) then (if ((rd_L4 bt132.1 0).length : Int) = (x7.length : Int) then (if bt132.2.2.1 = (wrap64 (3 * (x7.length : Int))) then (warplaw8_TableOne.j2 k x7 bt132.1 bt132.2.1 (bt132.2.2.2 != 0)) else (warplaw8_TableOne.j2 k x7 bt132.1 bt132.2.1 true)) else (warplaw8_TableOne.j2 k x7 bt132.1 bt132.2.1 true)) else (none)) else (warplaw8_TableOne.j2 k x7 bt132.1 bt132.2.1 true)))
def warplaw8_TableOne.j2 : Nat → List (S26) → List (List Int) → List (S26) → Bool → Option (Bool)
 | 0, _, _, _, _ => none
 | k + 1, x7, x9, x10, x74 => if x74 = true then (some false) else (warplaw8_TableOne.l1 k x7 x9 x10 ([] : List Int) 0)
def warplaw8_TableOne.l1 : Nat → List (S26) → List (List Int) → List (S26) → List Int → Int → Option (Bool)
 | 0, _, _, _, _, _ => none
 | k + 1, x7, x9, x10, x13, x14 => if x14 < (x7.length : Int) then (warplaw8_TableOne.l2 k x7 x9 x10 x13 x14 0) else (if (x10.length : Int) = (x13.length : Int) then (if 0 < (x9.length : Int) then ((warpref1_Ints.f k (rd_L4 x9 0) (rd_L4 x9 0)).bind fun t151 => (if t151 = true then ((warplaw8_awake.f k).bind fun t152 => (some t152)) else (some false))) else (none)) else (some false))
def warplaw8_TableOne.j5 : Nat → List (S26) → List (List Int) → List (S26) → List Int → Int → Int → Option (Bool)
 | 0, _, _, _, _, _, _ => none
 | k + 1, x7, x9, x10, x13, x14, x15 => if x15 = (x13.length : Int) then (if 0 ≤ x14 then (if x14 < (x7.length : Int) then (if x13.length < 17592186044416 then (warplaw8_TableOne.j6 k x7 x9 x10 (x13 ++ [(rd_T26 x7 x14).f1]) x14 x15) else (none)) else (none)) else (none)) else (warplaw8_TableOne.j6 k x7 x9 x10 x13 x14 x15)
def warplaw8_TableOne.j6 : Nat → List (S26) → List (List Int) → List (S26) → List Int → Int → Int → Option (Bool)
 | 0, _, _, _, _, _, _ => none
 | k + 1, x7, x9, x10, x13, x14, x15 => if 0 < (x9.length : Int) then (if 0 ≤ x14 then (if x14 < ((rd_L4 x9 0).length : Int) then (if (rd (rd_L4 x9 0) x14) = x15 then (warplaw8_TableOne.l1 k x7 x9 x10 x13 (wrap64 (x14 + 1))) else (some false)) else (none)) else (none)) else (none)
def warplaw8_TableOne.l2 : Nat → List (S26) → List (List Int) → List (S26) → List Int → Int → Int → Option (Bool)
 | 0, _, _, _, _, _, _ => none
 | k + 1, x7, x9, x10, x13, x14, x15 => if x15 < (x13.length : Int) then (if 0 ≤ x15 then (if 0 ≤ x14 then (if x14 < (x7.length : Int) then (if (rd x13 x15) = ((rd_T26 x7 x14).f1) then (warplaw8_TableOne.j5 k x7 x9 x10 x13 x14 x15) else (warplaw8_TableOne.l2 k x7 x9 x10 x13 x14 (wrap64 (x15 + 1)))) else (none)) else (none)) else (none)) else (warplaw8_TableOne.j5 k x7 x9 x10 x13 x14 x15)
end
def warplaw8_TableOne.f (k : Nat) (l0 : List Int) (a1 : Int) (l2 : List Int) : Option (Bool) := if (l0.length : Int) > 60 then (warplaw8_TableOne.j0 k l0 a1 l2 true) else (warplaw8_TableOne.j0 k l0 a1 l2 (decide ((l2.length : Int) > 200)))
theorem warplaw8_TableOne.mono_l : ∀ k, (∀ y0 y1 y2 y3, LeO (warplaw8_TableOne.j0 k y0 y1 y2 y3) (warplaw8_TableOne.j0 (k + 1) y0 y1 y2 y3)) ∧ (∀ y0 y1 y2 y3 y4, LeO (warplaw8_TableOne.l0 k y0 y1 y2 y3 y4) (warplaw8_TableOne.l0 (k + 1) y0 y1 y2 y3 y4)) ∧ (∀ y0 y1 y2 y3, LeO (warplaw8_TableOne.j2 k y0 y1 y2 y3) (warplaw8_TableOne.j2 (k + 1) y0 y1 y2 y3)) ∧ (∀ y0 y1 y2 y3 y4, LeO (warplaw8_TableOne.l1 k y0 y1 y2 y3 y4) (warplaw8_TableOne.l1 (k + 1) y0 y1 y2 y3 y4)) ∧ (∀ y0 y1 y2 y3 y4 y5, LeO (warplaw8_TableOne.j5 k y0 y1 y2 y3 y4 y5) (warplaw8_TableOne.j5 (k + 1) y0 y1 y2 y3 y4 y5)) ∧ (∀ y0 y1 y2 y3 y4 y5, LeO (warplaw8_TableOne.j6 k y0 y1 y2 y3 y4 y5) (warplaw8_TableOne.j6 (k + 1) y0 y1 y2 y3 y4 y5)) ∧ (∀ y0 y1 y2 y3 y4 y5, LeO (warplaw8_TableOne.l2 k y0 y1 y2 y3 y4 y5) (warplaw8_TableOne.l2 (k + 1) y0 y1 y2 y3 y4 y5))
 | 0 => ⟨fun _ _ _ _ r h => by simp [warplaw8_TableOne.j0] at h, fun _ _ _ _ _ r h => by simp [warplaw8_TableOne.l0] at h, fun _ _ _ _ r h => by simp [warplaw8_TableOne.j2] at h, fun _ _ _ _ _ r h => by simp [warplaw8_TableOne.l1] at h, fun _ _ _ _ _ _ r h => by simp [warplaw8_TableOne.j5] at h, fun _ _ _ _ _ _ r h => by simp [warplaw8_TableOne.j6] at h, fun _ _ _ _ _ _ r h => by simp [warplaw8_TableOne.l2] at h⟩
 | k + 1 => by
  obtain ⟨ih0, ih1, ih2, ih3, ih4, ih5, ih6⟩ := warplaw8_TableOne.mono_l k
  refine ⟨?_, ?_, ?_, ?_, ?_, ?_, ?_⟩
  ·
   intro y0 y1 y2 y3
   unfold warplaw8_TableOne.j0
   repeat' first
   | (with_reducible exact ih0 _ _ _ _)
   | (with_reducible exact ih1 _ _ _ _ _)
   | (with_reducible exact ih2 _ _ _ _)
   | (with_reducible exact ih3 _ _ _ _ _)
   | (with_reducible exact ih4 _ _ _ _ _ _)
   | (with_reducible exact ih5 _ _ _ _ _ _)
   | (with_reducible exact ih6 _ _ _ _ _ _)
   | (with_reducible exact warplaw8_awake.mono _)
   | (with_reducible exact warpref1_Ints.mono _ _ _)
   | (with_reducible exact LeO.refl _)
   | (with_reducible exact LeO.none _)
   | (with_reducible refine LeO.ite ?_ ?_)
   | (with_reducible refine LeO.bind ?_ (fun _ => ?_))
   | exact ih0 _ _ _ _
   | exact ih1 _ _ _ _ _
   | exact ih2 _ _ _ _
   | exact ih3 _ _ _ _ _
   | exact ih4 _ _ _ _ _ _
   | exact ih5 _ _ _ _ _ _
   | exact ih6 _ _ _ _ _ _
   | exact warplaw8_awake.mono _
   | exact warpref1_Ints.mono _ _ _
   | exact LeO.none _
   | refine LeO.ite ?_ ?_
   | refine LeO.bind ?_ (fun _ => ?_)
  ·
   intro y0 y1 y2 y3 y4
   unfold warplaw8_TableOne.l0
   repeat' first
   | (with_reducible exact ih0 _ _ _ _)
   | (with_reducible exact ih1 _ _ _ _ _)
   | (with_reducible exact ih2 _ _ _ _)
   | (with_reducible exact ih3 _ _ _ _ _)
   | (with_reducible exact ih4 _ _ _ _ _ _)
   | (with_reducible exact ih5 _ _ _ _ _ _)
   | (with_reducible exact ih6 _ _ _ _ _ _)
   | (with_reducible exact warplaw8_awake.mono _)
   | (with_reducible exact warpref1_Ints.mono _ _ _)
   | (with_reducible exact LeO.refl _)
   | (with_reducible exact LeO.none _)
   | (with_reducible refine LeO.ite ?_ ?_)
   | (with_reducible refine LeO.bind ?_ (fun _ => ?_))
   | exact ih0 _ _ _ _
   | exact ih1 _ _ _ _ _
   | exact ih2 _ _ _ _
   | exact ih3 _ _ _ _ _
   | exact ih4 _ _ _ _ _ _
   | exact ih5 _ _ _ _ _ _
   | exact ih6 _ _ _ _ _ _
   | exact warplaw8_awake.mono _
   | exact warpref1_Ints.mono _ _ _
   | exact LeO.none _
   | refine LeO.ite ?_ ?_
   | refine LeO.bind ?_ (fun _ => ?_)
  ·
   intro y0 y1 y2 y3
   unfold warplaw8_TableOne.j2
   repeat' first
   | (with_reducible exact ih0 _ _ _ _)
   | (with_reducible exact ih1 _ _ _ _ _)
   | (with_reducible exact ih2 _ _ _ _)
   | (with_reducible exact ih3 _ _ _ _ _)
   | (with_reducible exact ih4 _ _ _ _ _ _)
   | (with_reducible exact ih5 _ _ _ _ _ _)
   | (with_reducible exact ih6 _ _ _ _ _ _)
   | (with_reducible exact warplaw8_awake.mono _)
   | (with_reducible exact warpref1_Ints.mono _ _ _)
   | (with_reducible exact LeO.refl _)
   | (with_reducible exact LeO.none _)
   | (with_reducible refine LeO.ite ?_ ?_)
   | (with_reducible refine LeO.bind ?_ (fun _ => ?_))
   | exact ih0 _ _ _ _
   | exact ih1 _ _ _ _ _
   | exact ih2 _ _ _ _
   | exact ih3 _ _ _ _ _
   | exact ih4 _ _ _ _ _ _
   | exact ih5 _ _ _ _ _ _
   | exact ih6 _ _ _ _ _ _
   | exact warplaw8_awake.mono _
   | exact warpref1_Ints.mono _ _ _
   | exact LeO.none _
   | refine LeO.ite ?_ ?_
   | refine LeO.bind ?_ (fun _ => ?_)
  ·
   intro y0 y1 y2 y3 y4
   unfold warplaw8_TableOne.l1
   repeat' first
   | (with_reducible exact ih0 _ _ _ _)
   | (with_reducible exact ih1 _ _ _ _ _)
   | (with_reducible exact ih2 _ _ _ _)
   | (with_reducible exact ih3 _ _ _ _ _)
   | (with_reducible exact ih4 _ _ _ _ _ _)
   | (with_reducible exact ih5 _ _ _ _ _ _)
   | (with_reducible exact ih6 _ _ _ _ _ _)
   | (with_reducible exact warplaw8_awake.mono _)
   | (with_reducible exact warpref1_Ints.mono _ _ _)
   | (with_reducible exact LeO.refl _)
   | (with_reducible exact LeO.none _)
   | (with_reducible refine LeO.ite ?_ ?_)
   | (with_reducible refine LeO.bind ?_ (fun _ => ?_))
   | exact ih0 _ _ _ _
   | exact ih1 _ _ _ _ _
   | exact ih2 _ _ _ _
   | exact ih3 _ _ _ _ _
   | exact ih4 _ _ _ _ _ _
   | exact ih5 _ _ _ _ _ _
   | exact ih6 _ _ _ _ _ _
   | exact warplaw8_awake.mono _
   | exact warpref1_Ints.mono _ _ _
   | exact LeO.none _
   | refine LeO.ite ?_ ?_
   | refine LeO.bind ?_ (fun _ => ?_)
  ·
   intro y0 y1 y2 y3 y4 y5
   unfold warplaw8_TableOne.j5
   repeat' first
   | (with_reducible exact ih0 _ _ _ _)
   | (with_reducible exact ih1 _ _ _ _ _)
   | (with_reducible exact ih2 _ _ _ _)
   | (with_reducible exact ih3 _ _ _ _ _)
   | (with_reducible exact ih4 _ _ _ _ _ _)
   | (with_reducible exact ih5 _ _ _ _ _ _)
   | (with_reducible exact ih6 _ _ _ _ _ _)
   | (with_reducible exact warplaw8_awake.mono _)
   | (with_reducible exact warpref1_Ints.mono _ _ _)
   | (with_reducible exact LeO.refl _)
   | (with_reducible exact LeO.none _)
   | (with_reducible refine LeO.ite ?_ ?_)
   | (with_reducible refine LeO.bind ?_ (fun _ => ?_))
   | exact ih0 _ _ _ _
   | exact ih1 _ _ _ _ _
   | exact ih2 _ _ _ _
   | exact ih3 _ _ _ _ _
   | exact ih4 _ _ _ _ _ _
   | exact ih5 _ _ _ _ _ _
   | exact ih6 _ _ _ _ _ _
   | exact warplaw8_awake.mono _
   | exact warpref1_Ints.mono _ _ _
   | exact LeO.none _
   | refine LeO.ite ?_ ?_
   | refine LeO.bind ?_ (fun _ => ?_)
  ·
   intro y0 y1 y2 y3 y4 y5
   unfold warplaw8_TableOne.j6
   repeat' first
   | (with_reducible exact ih0 _ _ _ _)
   | (with_reducible exact ih1 _ _ _ _ _)
   | (with_reducible exact ih2 _ _ _ _)
   | (with_reducible exact ih3 _ _ _ _ _)
   | (with_reducible exact ih4 _ _ _ _ _ _)
   | (with_reducible exact ih5 _ _ _ _ _ _)
   | (with_reducible exact ih6 _ _ _ _ _ _)
   | (with_reducible exact warplaw8_awake.mono _)
   | (with_reducible exact warpref1_Ints.mono _ _ _)
   | (with_reducible exact LeO.refl _)
   | (with_reducible exact LeO.none _)
   | (with_reducible refine LeO.ite ?_ ?_)
   | (with_reducible refine LeO.bind ?_ (fun _ => ?_))
   | exact ih0 _ _ _ _
   | exact ih1 _ _ _ _ _
   | exact ih2 _ _ _ _
   | exact ih3 _ _ _ _ _
   | exact ih4 _ _ _ _ _ _
   | exact ih5 _ _ _ _ _ _
   | exact ih6 _ _ _ _ _ _
   | exact warplaw8_awake.mono _
   | exact warpref1_Ints.mono _ _ _
   | exact LeO.none _
   | refine LeO.ite ?_ ?_
   | refine LeO.bind ?_ (fun _ => ?_)
  ·
   intro y0 y1 y2 y3 y4 y5
   unfold warplaw8_TableOne.l2
   repeat' first
   | (with_reducible exact ih0 _ _ _ _)
   | (with_reducible exact ih1 _ _ _ _ _)
   | (with_reducible exact ih2 _ _ _ _)
   | (with_reducible exact ih3 _ _ _ _ _)
   | (with_reducible exact ih4 _ _ _ _ _ _)
   | (with_reducible exact ih5 _ _ _ _ _ _)
   | (with_reducible exact ih6 _ _ _ _ _ _)
   | (with_reducible exact warplaw8_awake.mono _)
   | (with_reducible exact warpref1_Ints.mono _ _ _)
   | (with_reducible exact LeO.refl _)
   | (with_reducible exact LeO.none _)
   | (with_reducible refine LeO.ite ?_ ?_)
   | (with_reducible refine LeO.bind ?_ (fun _ => ?_))
   | exact ih0 _ _ _ _
   | exact ih1 _ _ _ _ _
   | exact ih2 _ _ _ _
   | exact ih3 _ _ _ _ _
   | exact ih4 _ _ _ _ _ _
   | exact ih5 _ _ _ _ _ _
   | exact ih6 _ _ _ _ _ _
   | exact warplaw8_awake.mono _
   | exact warpref1_Ints.mono _ _ _
   | exact LeO.none _
   | refine LeO.ite ?_ ?_
   | refine LeO.bind ?_ (fun _ => ?_)
theorem warplaw8_TableOne.mono : ∀ a0 a1 a2 k, LeO (warplaw8_TableOne.f k a0 a1 a2) (warplaw8_TableOne.f (k + 1) a0 a1 a2) := by
 intro a0 a1 a2 k
 obtain ⟨ih0, ih1, ih2, ih3, ih4, ih5, ih6⟩ := warplaw8_TableOne.mono_l k
 unfold warplaw8_TableOne.f
 repeat' first
  | (with_reducible exact ih0 _ _ _ _)
  | (with_reducible exact ih1 _ _ _ _ _)
  | (with_reducible exact ih2 _ _ _ _)
  | (with_reducible exact ih3 _ _ _ _ _)
  | (with_reducible exact ih4 _ _ _ _ _ _)
  | (with_reducible exact ih5 _ _ _ _ _ _)
  | (with_reducible exact ih6 _ _ _ _ _ _)
  | (with_reducible exact warplaw8_awake.mono _)
  | (with_reducible exact warpref1_Ints.mono _ _ _)
  | (with_reducible exact LeO.refl _)
  | (with_reducible exact LeO.none _)
  | (with_reducible refine LeO.ite ?_ ?_)
  | (with_reducible refine LeO.bind ?_ (fun _ => ?_))
  | exact ih0 _ _ _ _
  | exact ih1 _ _ _ _ _
  | exact ih2 _ _ _ _
  | exact ih3 _ _ _ _ _
  | exact ih4 _ _ _ _ _ _
  | exact ih5 _ _ _ _ _ _
  | exact ih6 _ _ _ _ _ _
  | exact warplaw8_awake.mono _
  | exact warpref1_Ints.mono _ _ _
  | exact LeO.none _
  | refine LeO.ite ?_ ?_
  | refine LeO.bind ?_ (fun _ => ?_)
def warplaw8_TableOne.T16 : Bool × List (List Nat × List Nat) := (true, [([], []), ([], []), ([1], [1]), ([0, 2], [0, 2]), ([3], [3]), ([4], [4]), ([4], [4]), ([5, 6, 4], [4, 5, 6]), ([7, 4], [4, 7]), ([4], [4]), ([4], [4]), ([9, 10, 4], [4, 9, 10]), ([11, 4], [4, 11]), ([12, 4], [4, 12]), ([8, 13, 4], [4, 8, 13]), ([4, 14], [4, 14])])
def warplaw8_TableOne.B16 : List Nat := [0, 0, 2, 7, 15, 31, 31, 127, 255, 31, 31, 1567, 3615, 7711, 16383, 32767]
theorem warplaw8_TableOne.tab16 : rtab .any (opsOf Tryd.f7 16) = warplaw8_TableOne.T16 := by kernel_rfl
theorem warplaw8_TableOne.bits16 : waitsOk warplaw8_TableOne.T16.2 warplaw8_TableOne.B16 = true := by kernel_rfl
def warplaw8_TableOne.T22 : Bool × List (List Nat × List Nat) := (true, [([], []), ([0], [0]), ([], []), ([2], [2]), ([1, 3], [1, 3]), ([4], [4]), ([5], [5]), ([6, 5], [5, 6]), ([7, 5], [5, 7]), ([5], [5]), ([9, 5], [5, 9]), ([10, 5], [5, 10]), ([8, 11, 5, 5], [5, 8, 11]), ([5, 12], [5, 12]), ([13, 12], [13]), ([14, 14], [14]), ([14, 15], [14, 15]), ([16, 15, 0, 1, 2, 3, 4, 5, 6, 7, 8, 9, 10, 11, 12, 13, 14, 15, 16], [16])])
def warplaw8_TableOne.B22 : List Nat := [0, 1, 0, 4, 15, 31, 63, 127, 255, 63, 575, 1599, 4095, 8191, 16383, 32767, 65535, 131071]
theorem warplaw8_TableOne.tab22 : rtab .any (opsOf Tryd.f7 22) = warplaw8_TableOne.T22 := by kernel_rfl
theorem warplaw8_TableOne.bits22 : waitsOk warplaw8_TableOne.T22.2 warplaw8_TableOne.B22 = true := by kernel_rfl
theorem warplaw8_TableOne.j2_true : ∀ (k : Nat) y0 y1 y2, warplaw8_TableOne.j2 k y0 y1 y2 true ≠ some true := by
  intro k y0 y1 y2 h
  cases k with
  | zero => simp [warplaw8_TableOne.j2] at h
  | succ k => simp [warplaw8_TableOne.j2] at h
set_option maxHeartbeats 8000000 in
set_option maxRecDepth 100000 in
theorem warplaw8_TableOne.calls (k : Nat) (A0 : Option Addr) (c0 : Nat) (l0 : List Int) (a1 : Int) (A2 : Option Addr) (c2 : Nat) (l2 : List Int) (r : Bool) (w : World) (hr0 : Kd.C (Kd.int .u8) w A0 l0.length l0) (hc0 : l0.length ≤ c0) (hr2 : Kd.C (Kd.int .i64) w A2 l2.length l2) (hc2 : l2.length ≤ c2) (h : warplaw8_TableOne.f k l0 a1 l2 = some r) (hT_ : Tab w := by first | exact hT_ | exact Tab.drewN hT_ _ | (refine Tab.below hT_ ?_; repeat (first | (with_reducible first | exact HB.out | apply below_alloc | apply pw_below_drewN | apply below_drew1) | exact HB.out))) (hr_ : r = true := by rfl) :
 Calls Tryd.prog 7 #[.slice A0 l0.length c0, .int .u8 a1, .slice A2 l2.length c2] w fun e w' => e = .returned (.bool r) ∧ Below w.heap.size w w' := by
 have hu26 := Tryd.underlying26
 have HR0 := Aside0.mk hr0
 have HC0 := Aside0.mk hc0
 clear hr0 hc0
 have HR2 := Aside0.mk hr2
 have HC2 := Aside0.mk hc2
 clear hr2 hc2
 have HB := Aside0.mk (Below.refl w.heap.size w)
 have H : (if (l0.length : Int) > 60 then (warplaw8_TableOne.j0 k l0 a1 l2 true) else (warplaw8_TableOne.j0 k l0 a1 l2 (decide ((l2.length : Int) > 200)))) = some r := h
 clear h
 have HC4 := Aside0.mk H
 clear H
 go_enter Tryd.func7, Tryd.ntmps7
 go_upto_region 1 with (fail)
 go_cut [23] (fun v23 wc => ∃ (kq : Nat) (x23_3 : Bool), v23 = .bool x23_3 ∧ Aside0 (warplaw8_TableOne.j0 kq l0 a1 l2 x23_3 = some r) ∧ Aside0 (kq ≤ k) ∧ Aside0 (Below w.heap.size w wc))
 case first =>
  have H := HC4.out
  clear HC4
  by_cases c5 : (l0.length : Int) > 60
  ·
   rw [if_pos c5] at H
   have c5b0 : decide (60 < (l0.length : Int)) = true := decide_eq_true c5
   have c5b1 : decide (60 < l0.length) = true := decide_eq_true (by omega)
   clear c5
   (first | rw [c5b0] | (simp only [i64_w, i32_w]; rw [c5b0]) | skip)
   have H' := Aside0.mk H
   clear H
   go_wp2
   go_meet
   case rel => exact ⟨_, (true), (by first | rfl | (simp; done) | (simp [*]; done)), H', ⟨by first | omega | exact Nat.le_refl _⟩, ⟨by repeat (first | (with_reducible first | exact HB.out | apply below_alloc | apply pw_below_drewN | apply below_drew1) | exact HB.out)⟩⟩
  ·
   rw [if_neg c5] at H
   have c5b0 : decide (60 < (l0.length : Int)) = false := decide_eq_false c5
   have c5b1 : decide (60 < l0.length) = false := decide_eq_false (by omega)
   clear c5
   (first | rw [c5b0] | (simp only [i64_w, i32_w]; rw [c5b0]) | skip)
   have H' := Aside0.mk H
   clear H
   go_wp2
   go_meet
   case rel => exact ⟨_, (decide ((l2.length : Int) > 200)), (by first | rfl | (simp; done) | (simp [*]; done)), H', ⟨by first | omega | exact Nat.le_refl _⟩, ⟨by repeat (first | (with_reducible first | exact HB.out | apply below_alloc | apply pw_below_drewN | apply below_drew1) | exact HB.out)⟩⟩
 case rest =>
  clear HC4
  (try clear c2); (try clear p2); (try clear c5); (try clear c5b0); (try clear c5b1)
  obtain ⟨kq, x23_3, rfl, HA, HJ3, HB⟩ := hcut
  cases kq with
  | zero => exact absurd HA.out (by simp [warplaw8_TableOne.j0])
  | succ kj3 =>
   have H := HA.out
   clear HA
   simp only [warplaw8_TableOne.j0] at H
   by_cases c6 : x23_3 = true
   ·
    subst c6
    have H1 : ((warplaw8_awake.f kj3).bind fun t124 => (some t124)) = some r := by rw [if_pos rfl] at H; exact H
    clear H
    have H := H1
    clear H1
    replace H := Option.bind_eq_some_iff.mp H
    obtain ⟨t124, A70, H⟩ := H
    replace H : (some t124) = some r := H
    have A7 := Aside0.mk A70
    clear A70
    obtain rfl := Option.some.inj H
    go_wp2_with (first | ((with_reducible refine gate_callee (f := 8) rfl ?_); refine goesL_ (some 24) rfl rfl Tryd.func8 (by kernel_rfl) rfl #[] rfl (by (try simp only [List.map_toArray, List.map_cons, List.map_nil]); first | done | rfl | (simp only [List.length_drop, List.length_take]; rfl)) ?_; (with_reducible refine (warplaw8_awake.calls kj3  t124 _ A7.out).mono ?_); rintro e w8 ⟨rfl, hb⟩; refine ⟨_, rfl, ?_⟩; have n0_ := Aside0.mk (below_step (by repeat (first | (with_reducible first | exact HB.out | apply below_alloc | apply pw_below_drewN | apply below_drew1) | exact HB.out)) hb); clear HB; have HB := n0_; clear n0_; (try clear hb); (try clear hb2); (try clear hk); (try clear hi)))
    go_ret
    exact ⟨by first | rfl | (simp [errW_none, errW_some] <;> rfl) | (simp [*, errW_none, errW_some] <;> rfl), by repeat (first | (with_reducible first | exact HB.out | apply below_alloc | apply pw_below_drewN | apply below_drew1) | exact HB.out)⟩
   ·
    replace c6 := Bool.eq_false_iff.mpr c6
    subst c6
    have H1 : (warplaw8_TableOne.l0 kj3 l0 a1 l2 ([] : List (S26)) 0) = some r := by rw [if_neg (show ¬ (false = true) by decide)] at H; exact H
    clear H
    have H := H1
    clear H1
    have H' := Aside0.mk H
    clear H
    go_wp2
    go_loopg [7, 8] kj3 (fun kq v7 v8 w' => ∃ (x7_2 : List (S26)) (x8_2 : Int), v8 = .int .i64 x8_2 ∧ Aside0 (warplaw8_TableOne.l0 kq l0 a1 l2 x7_2 x8_2 = some r) ∧ Aside0 (kq ≤ kj3) ∧ Aside0 (Kd.R k26 26 w' w.heap.size (fun _ => True) v7 x7_2) ∧ Aside0 (Below w.heap.size w w'))
    case atStart => exact ⟨(([] : List (S26))), (0), (by first | rfl | (simp; done) | (simp [*]; done)), H', ⟨Nat.le_refl _⟩, ⟨by first | exact Kd.R_nil _ _ _ _ _ | exact Kd.N_nil _ _ _ _ _ | exact Kd.V_nil _ _ _ _ _ | exact Kd.Q_nil _ _ _ _ _ | exact Kd.S_nil _ _ _ _ _⟩, ⟨by repeat (first | (with_reducible first | exact HB.out | apply below_alloc | apply pw_below_drewN | apply below_drew1) | exact HB.out)⟩⟩
    case round =>
     clear H'
     (try clear c2); (try clear p2); (try clear c5); (try clear c5b0); (try clear c5b1); (try clear c6); (try clear c7); (try clear c8); (try clear p2)
     obtain ⟨x7_2, x8_2, rfl, HA, HK2, HO_7, HB⟩ := hrel
     cases gk with
     | zero => exact absurd HA.out (by simp [warplaw8_TableOne.l0])
     | succ k2 =>
      have H := HA.out
      clear HA
      simp only [warplaw8_TableOne.l0] at H
      by_cases c9 : x8_2 < (l0.length : Int)
      ·
       rw [if_pos c9] at H
       have c9b0 : decide (x8_2 < (l0.length : Int)) = true := decide_eq_true c9
       clear c9
       by_cases c10 : 0 ≤ x8_2
       ·
        rw [if_pos c10] at H
        have c10b0 : decide (0 ≤ x8_2) = true := decide_eq_true c10
        clear c10
        by_cases c11 : x7_2.length < 4398046511104
        ·
         rw [if_pos c11] at H
         have LMc11 := Aside0.mk c11
         clear c11
         obtain ⟨y126, hy126⟩ : ∃ y_ : List (S26), y_ = (x7_2 ++ [(⟨(⟨#[107]⟩ : ByteArray), Int.tmod (wrap64 (rd l0 x8_2)) 11, 0⟩ : S26)]) := ⟨_, rfl⟩
         replace H : (warplaw8_TableOne.l0 k2 l0 a1 l2 y126 (wrap64 (x8_2 + 1))) = some r := by first | (rw [hy126]; with_reducible exact H) | (have H2_ := (Option.bind_some _ _).symm.trans H; rw [hy126]; with_reducible exact H2_) | (have H2_ := (Option.bind_some _ _).symm.trans H; with_reducible exact H2_) | with_reducible exact H | (rw [hy126]; exact H) | exact H
         have Ny126 := Aside0.mk hy126
         clear hy126
         have H' := Aside0.mk H
         clear H
         have p125 : 0 ≤ (x8_2 : Int) := of_decide_eq_true (by first | (with_reducible assumption) | assumption)
         have q125 : x8_2 < (l0.length : Int) := of_decide_eq_true (by first | (with_reducible assumption) | assumption)
         obtain ⟨ad125, e125, hx125_0⟩ := Kd.at_int HR0.out x8_2 p125 q125
         cases e125
         replace hx125_0 := (HB.out.cell (World.block_lt_of_cell? w _ hx125_0)).trans hx125_0
         replace p125 := eq_true p125
         replace q125 := eq_true q125
         go_wp2_with (first | ((with_reducible refine gate_builtin (b := .append) (xs := #[.tmp 31, .tmp 39]) rfl ?_); (try (refine gate_guard (by rfl) ?_; dsimp only)); at_builtin; refine Kd.R_append k26 (w0 := w) w.heap.size rfl (.tmp 31) (.tmp 39) 24 26 (.agg #[(.string ⟨#[]⟩), (.int .i64 0), (.int .i64 0)]) 32 rfl Tryd.underlying24 info26 rfl (by decide) (by omega) u7 x7_2 (⟨(⟨#[107]⟩ : ByteArray), Int.tmod (wrap64 (rd l0 x8_2)) 11, 0⟩ : S26) [.string (⟨#[107]⟩ : ByteArray), .int .i64 (Int.tmod (wrap64 (rd l0 x8_2)) 11), .int .i64 0] (fun _ => True) (fun _ => False) rfl rfl ?aP (fun _ hk => hk.elim) ?aF ?aO ?aB ?aS ?aL ?_; (case aP => exact k26_mkM _ _ _ (⟨(⟨#[107]⟩ : ByteArray), Int.tmod (wrap64 (rd l0 x8_2)) 11, 0⟩ : S26)); (case aB => exact (by repeat (first | (with_reducible first | exact HB.out | apply below_alloc | apply pw_below_drewN | apply below_drew1) | exact HB.out))); (case aF => exact (fun _ _ => trivial)); (case aO => exact (by (with_reducible repeat (first | apply Kd.R_alloc | apply Kd.R_drewN | apply Kd.R_drew)); exact HO_7.out)); (case aS => exact (below_size (by repeat (first | (with_reducible first | exact HB.out | apply below_alloc | apply pw_below_drewN | apply below_drew1) | exact HB.out)))); (case aL => have := LMc11.out; omega); intro v127 w12 ho hb hg hat; rw [← Ny126.out] at ho; have n0_ := Aside0.mk (hb); have n1_ := Aside0.mk (ho); clear HB; clear HO_7; have HB := n0_; have HO128 := n1_; clear n0_ n1_; clear ho hb hg hat))
         go_roundg k2
         case measure => have := HJ3.out; have := HK2.out; omega
         case rel => exact ⟨(y126), (wrap64 (x8_2 + 1)), (by first | rfl | (simp; done) | (simp [*]; done)), H', ⟨by have := HJ3.out; have := HK2.out; omega⟩, ⟨by (with_reducible repeat (first | apply Kd.R_alloc | apply Kd.R_drewN | apply Kd.R_drew)); exact HO128.out⟩, ⟨by repeat (first | (with_reducible first | exact HB.out | apply below_alloc | apply pw_below_drewN | apply below_drew1) | exact HB.out)⟩⟩
        ·
         rw [if_neg c11] at H
         exact absurd H (by simp)
       ·
        rw [if_neg c10] at H
        exact absurd H (by simp)
      ·
       rw [if_neg c9] at H
       have c9b0 : decide (x8_2 < (l0.length : Int)) = false := decide_eq_false c9
       clear c9
       obtain ⟨y129, hy129⟩ : ∃ y_ : List (List (S26)), y_ = (([x7_2] : List (List (S26)))) := ⟨_, rfl⟩
       replace H : ((table_Play.f y129 100 (wrap64 (a1)) l2).bind fun bt132 => (if (bt132.1.length : Int) = 1 then (if 0 < (bt132.1.length : Int) then (if ((rd_L4 bt132.1 0).length : Int) = (x7_2.length : Int) then (if bt132.2.2.1 = (wrap64 (3 * (x7_2.length : Int))) then (warplaw8_TableOne.j2 k2 x7_2 bt132.1 bt132.2.1 (bt132.2.2.2 != 0)) else (warplaw8_TableOne.j2 k2 x7_2 bt132.1 bt132.2.1 true)) else (warplaw8_TableOne.j2 k2 x7_2 bt132.1 bt132.2.1 true)) else (none)) else (warplaw8_TableOne.j2 k2 x7_2 bt132.1 bt132.2.1 true))) = some r := by first | (rw [hy129]; with_reducible exact H) | (have H2_ := (Option.bind_some _ _).symm.trans H; rw [hy129]; with_reducible exact H2_) | (have H2_ := (Option.bind_some _ _).symm.trans H; with_reducible exact H2_) | with_reducible exact H | (rw [hy129]; exact H) | exact H
       have Ny129 := Aside0.mk hy129
       clear hy129
       replace H := Option.bind_eq_some_iff.mp H
       obtain ⟨⟨t132, t133, t134, t135⟩, A130, H⟩ := H
       replace H : (if (t132.length : Int) = 1 then (if 0 < (t132.length : Int) then (if ((rd_L4 t132 0).length : Int) = (x7_2.length : Int) then (if t134 = (wrap64 (3 * (x7_2.length : Int))) then (warplaw8_TableOne.j2 k2 x7_2 t132 t133 (t135 != 0)) else (warplaw8_TableOne.j2 k2 x7_2 t132 t133 true)) else (warplaw8_TableOne.j2 k2 x7_2 t132 t133 true)) else (none)) else (warplaw8_TableOne.j2 k2 x7_2 t132 t133 true)) = some r := H
       have A13 := Aside0.mk A130
       clear A130
       have HC14 := Aside0.mk H
       clear H
       obtain ⟨Ao15, co15, eo15⟩ := Kd.R_slice HO_7.out
       subst eo15
       go_upto_region 9 with (first | ((with_reducible refine gate_dst (N := 43) rfl ?_); (try (refine gate_guard (by rfl) ?_; dsimp only)); refine Kd.N_lit (Kd.slice 26 k26) _ 24 ?hg (N' := 43) ?hd (xs := ([x7_2] : List (List (S26)))) (inner := [.slice Ao15 x7_2.length co15]) (ok := (fun _ => True)) (okp := (fun _ => True)) ?hr ?hp (fun _ hk => hk) ((show ∀ k_, wr.heap.size ≤ k_ → (fun _ => True) k_ from fun k_ hk => trivial) _ (Nat.le_refl _)) (Below.refl _ _) (Nat.le_refl _) (by simp) ?_; (case hd => rfl); (case hg => rfl); (case hr => first | (go_simp; done) | (go_simp; rfl)); (case hp => exact (Reps.one (show Kd.FK (Kd.slice 26 k26) _ _ x7_2 [.slice Ao15 x7_2.length co15] from (Kd.FK_slice_mk (Kd.R_reads' (Kd.R_mono (ok' := (fun _ => True)) (HO_7.out) (fun k_ hk => trivial))).2.1 (Kd.R_F (Kd.R_mono (ok' := (fun _ => True)) (HO_7.out) (fun k_ hk => trivial))))) (Reps.none _ _))); intro v130 w16 ho17 hb hg_ hnew_; clear hg_ hnew_; (first | rw [← Ny129.out] at ho17 | (simp only [Int.reduceToNat] at ho17; rw [← Ny129.out] at ho17)); have n0_ := Aside0.mk (Kd.N_lower ho17 (below_size (by repeat (first | (with_reducible first | exact HB.out | apply below_alloc | apply pw_below_drewN | apply below_drew1) | exact HB.out)))); have n7_ := Aside0.mk (Kd.R_below (by (with_reducible repeat (first | apply Kd.R_alloc | apply Kd.R_drewN | apply Kd.R_drew)); exact HO_7.out) hb); have n1_ := Aside0.mk (below_step (by repeat (first | (with_reducible first | exact HB.out | apply below_alloc | apply pw_below_drewN | apply below_drew1) | exact HB.out)) hb); clear HB; clear HO_7; have HO131 := n0_; have HB := n1_; have HO_7 := n7_; clear n0_ n1_ n7_; clear hb ho17; obtain ⟨Ao18, co18, eo18⟩ := Kd.N_slice HO131.out; subst eo18) | ((with_reducible refine gate_callee (f := 9) rfl ?_); refine goesL_ (some 47) rfl rfl Tryd.func9 (by kernel_rfl) rfl #[.slice Ao18 y129.length co18, .int .i64 100, .int .i64 (wrap64 (a1)), .slice A2 l2.length c2] rfl (by (try simp only [List.map_toArray, List.map_cons, List.map_nil]); first | done | rfl | (simp only [List.length_drop, List.length_take]; rfl)) ?_; (with_reducible refine (table_Play.calls _ _ y129 100 (wrap64 (a1)) _ _ l2 t132 t133 t134 t135 _ ?side1 ?side2 ?side3 ?side4 A13.out).mono ?_); (case side1 => repeat (first | exact (Kd.N_reads' HO131.out).2.2 | (with_reducible refine Kd.C_alloc ?_ _) | (with_reducible refine Kd.C_drewN ?_ _) | (with_reducible refine Kd.C_drew ?_))); (case side2 => exact (Kd.N_reads' HO131.out).2.1); (case side3 => repeat (first | exact (Kd.C_below HR2.out HB.out) | (with_reducible refine Kd.C_alloc ?_ _) | (with_reducible refine Kd.C_drewN ?_ _) | (with_reducible refine Kd.C_drew ?_))); (case side4 => exact HC2.out); rintro e w19 ⟨v136, v138, rfl, ho0, ho1, hb⟩; refine ⟨_, rfl, ?_⟩; have n0_ := Aside0.mk (Kd.N_mono (Kd.N_told (Kd.N_told (Kd.N_old (by (with_reducible repeat (first | apply Kd.N_alloc | apply Kd.N_drewN | apply Kd.N_drew)); exact HO131.out) hb) (Kd.S_base ho0)) (Kd.R_base ho1)) (fun _ h_ => h_.1)); have n1_ := Aside0.mk (Kd.N_lower (Kd.N_mono (ok' := fun k_ => some k_ ≠ (v138 : Value).ownBlock ∧ some k_ ≠ (.slice Ao18 y129.length co18 : Value).ownBlock) (Kd.S_N (Kd.S_bound (Kd.S_apart' ho0 (Kd.R_typed ho1) (by decide)))) (fun k_ hk_ => ⟨hk_.1.2, (Kd.fresh' (Kd.N_lt (by (with_reducible repeat (first | apply Kd.N_alloc | apply Kd.N_drewN | apply Kd.N_drew)); exact HO131.out)) k_ hk_.2.1)⟩)) (below_size (by repeat (first | (with_reducible first | exact HB.out | apply below_alloc | apply pw_below_drewN | apply below_drew1) | exact HB.out)))); have n2_ := Aside0.mk (Kd.R_lower ho1 (below_size (by repeat (first | (with_reducible first | exact HB.out | apply below_alloc | apply pw_below_drewN | apply below_drew1) | exact HB.out)))); have n3_ := Aside0.mk (below_step (by repeat (first | (with_reducible first | exact HB.out | apply below_alloc | apply pw_below_drewN | apply below_drew1) | exact HB.out)) hb); have n7_ := Aside0.mk (Kd.R_below (by (with_reducible repeat (first | apply Kd.R_alloc | apply Kd.R_drewN | apply Kd.R_drew)); exact HO_7.out) hb); clear HO131; clear HB; clear HO_7; have HO_7 := n7_; have HO131 := n0_; have HO137 := n1_; have HO139 := n2_; have HB := n3_; clear n0_ n1_ n2_ n3_ n7_; (try clear hb); (try clear hb2); (try clear hk); (try clear hi); (try clear ho0); (try clear ho1)))
       (try simp only [Act.put, List.setIfInBounds_toArray, List.set_cons_zero, List.set_cons_succ])
       go_cut [74] (fun v74 wc => ∃ (kq : Nat) (x74_13 : Bool), v74 = .bool x74_13 ∧ Aside0 (warplaw8_TableOne.j2 kq x7_2 t132 t133 x74_13 = some r) ∧ Aside0 (kq ≤ k2) ∧ Aside0 (Kd.R k26 26 wc w.heap.size (fun _ => True) (.slice Ao15 x7_2.length co15) x7_2) ∧ Aside0 (Kd.N (Kd.slice 3 (Kd.int .i64)) 23 wc w.heap.size (fun k_ => some k_ ≠ (v138 : Value).ownBlock) v136 t132) ∧ Aside0 (Kd.R k26 26 wc w.heap.size (fun _ => True) v138 t133) ∧ Aside0 (Below w.heap.size w wc))
       case first =>
        have H := HC14.out
        clear HC14
        by_cases c20 : (t132.length : Int) = 1
        ·
         rw [if_pos c20] at H
         have c20b0 : ((t132.length : Int) == 1) = true := beq_iff_eq.mpr c20
         have c20b1 : ((t132.length : Int) != 1) = false := bne_eq_false_iff_eq.mpr c20
         clear c20
         (first | rw [c20b0] | (simp only [i64_w, i32_w]; rw [c20b0]) | skip)
         by_cases c21 : 0 < (t132.length : Int)
         ·
          rw [if_pos c21] at H
          have c21b0 : decide (0 < (t132.length : Int)) = true := decide_eq_true c21
          have c21b1 : decide (0 < t132.length) = true := decide_eq_true (by omega)
          clear c21
          by_cases c22 : ((rd_L4 t132 0).length : Int) = (x7_2.length : Int)
          ·
           rw [if_pos c22] at H
           have c22b0 : (((rd_L4 t132 0).length : Int) == (x7_2.length : Int)) = true := beq_iff_eq.mpr c22
           have c22b1 : (((rd_L4 t132 0).length : Int) != (x7_2.length : Int)) = false := bne_eq_false_iff_eq.mpr c22
           have c22b2 : ((rd_L4 t132 0).length == x7_2.length) = true := by first | simpa using c22 | (simp at c22 ⊢; omega)
           clear c22
           by_cases c23 : t134 = (wrap64 (3 * (x7_2.length : Int)))
           ·
            rw [if_pos c23] at H
            have c23b0 : (t134 == (wrap64 (3 * (x7_2.length : Int)))) = true := beq_iff_eq.mpr c23
            have c23b1 : (t134 != (wrap64 (3 * (x7_2.length : Int)))) = false := bne_eq_false_iff_eq.mpr c23
            clear c23
            have H' := Aside0.mk H
            clear H
            obtain ⟨Ao24, co24, eo24⟩ := Kd.N_slice HO137.out
            subst eo24
            have p140 : 0 ≤ (0 : Int) := (by omega)
            have q140 : 0 < (t132.length : Int) := of_decide_eq_true (by first | (with_reducible assumption) | assumption)
            obtain ⟨ad140, A140_0, c140_0, e140, hx140_0, hl140_0, hi140_0⟩ := at_L4 (Kd.N_reads' HO137.out).2.2 0 p140 q140
            cases e140
            obtain ⟨ce140, hce140, hMe140, hcc140⟩ := Kd.N_get HO137.out [] 0 p140 (by first | exact q140 | exact of_decide_eq_true (by first | (with_reducible assumption) | assumption) | (have e_ := (Kd.N_reads' HO137.out).1; omega))
            obtain ⟨ua140_0, uc140_0, rfl, ul140_0, ge140_0⟩ := Kd.FK_slice_open hMe140
            have hv140_0 := hcc140 0 _ rfl
            rw [Nat.add_zero, show ((Kd.slice 3 (Kd.int .i64))).sz = 1 from rfl, Nat.mul_one] at hv140_0
            replace hv140_0 := Option.some.inj (hv140_0.symm.trans hx140_0)
            injection hv140_0 with hva_ hvn_ hvc_
            rw [hva_] at ge140_0
            rw [hvc_] at ul140_0
            have HL140_0 := Aside0.mk (show Kd.V (Kd.int .i64) 3 _ w.heap.size _ _ (rd_L4 t132 0) from Kd.V_mk ul140_0 ge140_0)
            clear hva_ hvn_ hvc_ ge140_0 ul140_0
            clear hcc140 hce140
            have qi140 : (0 < t132.length) = True := eq_true (by omega)
            (try rw [show ((0 : Int)).toNat = 0 from rfl] at hx140_0)
            (try rw [Addr.add_zero'] at hx140_0)
            have HR140_0 := Aside0.mk hi140_0
            have HC140_0 := Aside0.mk hl140_0
            clear hi140_0 hl140_0
            replace p140 := eq_true p140
            replace q140 := eq_true q140
            go_wp2
            go_meet
            case rel => exact ⟨_, ((t135 != 0)), (by first | rfl | (simp; done) | (simp [*]; done)), H', ⟨by have := HJ3.out; have := HK2.out; first | omega | exact Nat.le_refl _⟩, ⟨by (with_reducible repeat (first | apply Kd.R_alloc | apply Kd.R_drewN | apply Kd.R_drew)); exact HO_7.out⟩, ⟨by (with_reducible repeat (first | apply Kd.N_alloc | apply Kd.N_drewN | apply Kd.N_drew)); exact Kd.N_mono HO137.out (fun _ hk => hk.1)⟩, ⟨by (with_reducible repeat (first | apply Kd.R_alloc | apply Kd.R_drewN | apply Kd.R_drew)); exact HO139.out⟩, ⟨by repeat (first | (with_reducible first | exact HB.out | apply below_alloc | apply pw_below_drewN | apply below_drew1) | exact HB.out)⟩⟩
           ·
            rw [if_neg c23] at H
            have c23b0 : (t134 == (wrap64 (3 * (x7_2.length : Int)))) = false := beq_eq_false_iff_ne.mpr c23
            have c23b1 : (t134 != (wrap64 (3 * (x7_2.length : Int)))) = true := bne_iff_ne.mpr c23
            exact absurd (H.trans (congrArg some hr_)) (warplaw8_TableOne.j2_true _ _ _ _)
          ·
           rw [if_neg c22] at H
           have c22b0 : (((rd_L4 t132 0).length : Int) == (x7_2.length : Int)) = false := beq_eq_false_iff_ne.mpr c22
           have c22b1 : (((rd_L4 t132 0).length : Int) != (x7_2.length : Int)) = true := bne_iff_ne.mpr c22
           have c22b2 : ((rd_L4 t132 0).length == x7_2.length) = false := by first | simpa using c22 | (simp at c22 ⊢; omega)
           exact absurd (H.trans (congrArg some hr_)) (warplaw8_TableOne.j2_true _ _ _ _)
         ·
          rw [if_neg c21] at H
          exact absurd H (by simp)
        ·
         rw [if_neg c20] at H
         have c20b0 : ((t132.length : Int) == 1) = false := beq_eq_false_iff_ne.mpr c20
         have c20b1 : ((t132.length : Int) != 1) = true := bne_iff_ne.mpr c20
         (first | rw [c20b0] | (simp only [i64_w, i32_w]; rw [c20b0]) | skip)
         exact absurd (H.trans (congrArg some hr_)) (warplaw8_TableOne.j2_true _ _ _ _)
       case rest =>
        clear HC14
        (try clear c1); (try clear p1); (try clear q1); (try clear hx1); (try clear qi1); (try clear c2); (try clear p2); (try clear c5); (try clear c5b0); (try clear c5b1); (try clear c6); (try clear p6); (try clear c7); (try clear c8); (try clear c9); (try clear c9b0); (try clear c10); (try clear c10b0); (try clear c11); (try clear p12); (try clear q12); (try clear hx12); (try clear c14); (try clear p14); (try clear q14); (try clear hx14); (try clear qi14); (try clear c20); (try clear c20b0); (try clear c20b1); (try clear c21); (try clear c21b0); (try clear c21b1); (try clear c22); (try clear c22b0); (try clear c22b1); (try clear c22b2); (try clear c23); (try clear c23b0); (try clear c23b1); (try clear hx125_0); (try clear hx140_0); (try clear p125); (try clear p140); (try clear p2); (try clear q125); (try clear q140)
        obtain ⟨kq, x74_13, rfl, HA, HJ13, HO_7, HO_9, HO_10, HB⟩ := hcut
        cases kq with
        | zero => exact absurd HA.out (by simp [warplaw8_TableOne.j2])
        | succ kj13 =>
         have H := HA.out
         clear HA
         simp only [warplaw8_TableOne.j2] at H
         by_cases c28 : x74_13 = true
         ·
          subst c28
          have H1 : (some false) = some r := by rw [if_pos rfl] at H; exact H
          clear H
          have H := H1
          clear H1
          exact absurd (hr_.symm.trans (Option.some.inj H).symm) (by decide)
         ·
          replace c28 := Bool.eq_false_iff.mpr c28
          subst c28
          have H1 : (warplaw8_TableOne.l1 kj13 x7_2 t132 t133 ([] : List Int) 0) = some r := by rw [if_neg (show ¬ (false = true) by decide)] at H; exact H
          clear H
          have H := H1
          clear H1
          have H' := Aside0.mk H
          clear H
          go_wp2
          go_loopg [13, 14] kj13 (fun kq v13 v14 w' => ∃ (x13_4 : List Int) (x14_4 : Int), v14 = .int .i64 x14_4 ∧ Aside0 (warplaw8_TableOne.l1 kq x7_2 t132 t133 x13_4 x14_4 = some r) ∧ Aside0 (kq ≤ kj13) ∧ Aside0 (Kd.R k26 26 w' w.heap.size (fun _ => True) (.slice Ao15 x7_2.length co15) x7_2) ∧ Aside0 (Kd.N (Kd.slice 3 (Kd.int .i64)) 23 w' w.heap.size (fun k_ => some k_ ≠ (v138 : Value).ownBlock ∧ some k_ ≠ (v13 : Value).ownBlock) v136 t132) ∧ Aside0 (Kd.R k26 26 w' w.heap.size (fun _ => True) v138 t133) ∧ Aside0 (Kd.R (Kd.int .i64) 3 w' w.heap.size (fun _ => True) v13 x13_4) ∧ Aside0 (Below w.heap.size w w'))
          case atStart => exact ⟨(([] : List Int)), (0), (by first | rfl | (simp; done) | (simp [*]; done)), H', ⟨Nat.le_refl _⟩, ⟨by (with_reducible repeat (first | apply Kd.R_alloc | apply Kd.R_drewN | apply Kd.R_drew)); exact HO_7.out⟩, ⟨by (with_reducible repeat (first | apply Kd.N_alloc | apply Kd.N_drewN | apply Kd.N_drew)); exact Kd.N_mono HO_9.out (fun _ hk => ⟨hk, (by simp [Value.ownBlock])⟩)⟩, ⟨by (with_reducible repeat (first | apply Kd.R_alloc | apply Kd.R_drewN | apply Kd.R_drew)); exact HO_10.out⟩, ⟨by first | exact Kd.R_nil _ _ _ _ _ | exact Kd.N_nil _ _ _ _ _ | exact Kd.V_nil _ _ _ _ _ | exact Kd.Q_nil _ _ _ _ _ | exact Kd.S_nil _ _ _ _ _⟩, ⟨by repeat (first | (with_reducible first | exact HB.out | apply below_alloc | apply pw_below_drewN | apply below_drew1) | exact HB.out)⟩⟩
          case round =>
           clear H'
           (try clear c1); (try clear p1); (try clear q1); (try clear hx1); (try clear qi1); (try clear c2); (try clear p2); (try clear c5); (try clear c5b0); (try clear c5b1); (try clear c6); (try clear p6); (try clear c7); (try clear c8); (try clear c9); (try clear c9b0); (try clear c10); (try clear c10b0); (try clear c11); (try clear p12); (try clear q12); (try clear hx12); (try clear c14); (try clear p14); (try clear q14); (try clear hx14); (try clear qi14); (try clear c20); (try clear c20b0); (try clear c20b1); (try clear c21); (try clear c21b0); (try clear c21b1); (try clear c22); (try clear c22b0); (try clear c22b1); (try clear c22b2); (try clear c23); (try clear c23b0); (try clear c23b1); (try clear c28); (try clear hx125_0); (try clear hx140_0); (try clear p1); (try clear p12); (try clear p125); (try clear p14); (try clear p140); (try clear p2); (try clear p6); (try clear q1); (try clear q12); (try clear q125); (try clear q14); (try clear q140)
           obtain ⟨x13_4, x14_4, rfl, HA, HK4, HO_7, HO_9, HO_10, HO_13, HB⟩ := hrel
           cases gk with
           | zero => exact absurd HA.out (by simp [warplaw8_TableOne.l1])
           | succ k4 =>
            have H := HA.out
            clear HA
            simp only [warplaw8_TableOne.l1] at H
            by_cases c29 : x14_4 < (x7_2.length : Int)
            ·
             rw [if_pos c29] at H
             have c29b0 : decide (x14_4 < (x7_2.length : Int)) = true := decide_eq_true c29
             clear c29
             have HC30 := Aside0.mk H
             clear H
             go_upto_block 4 with (fail)
             go_cut [15] (fun v15 wc => ∃ (kq : Nat) (x15_29 : Int), v15 = .int .i64 x15_29 ∧ Aside0 (warplaw8_TableOne.j5 kq x7_2 t132 t133 x13_4 x14_4 x15_29 = some r) ∧ Aside0 (kq ≤ k4) ∧ Aside0 (Kd.R k26 26 wc w.heap.size (fun _ => True) (.slice Ao15 x7_2.length co15) x7_2) ∧ Aside0 (Kd.N (Kd.slice 3 (Kd.int .i64)) 23 wc w.heap.size (fun k_ => some k_ ≠ (v138 : Value).ownBlock ∧ some k_ ≠ (u13 : Value).ownBlock) v136 t132) ∧ Aside0 (Kd.R k26 26 wc w.heap.size (fun _ => True) v138 t133) ∧ Aside0 (Kd.R (Kd.int .i64) 3 wc w.heap.size (fun _ => True) u13 x13_4) ∧ Aside0 (Below w.heap.size w wc))
             case first =>
              have H := HC30.out
              clear HC30
              have H' := Aside0.mk H
              clear H
              go_wp2
              go_loopg [15] k4 (fun kq v15 w' => ∃ (x15_5 : Int), v15 = .int .i64 x15_5 ∧ Aside0 (warplaw8_TableOne.l2 kq x7_2 t132 t133 x13_4 x14_4 x15_5 = some r) ∧ Aside0 (kq ≤ k4) ∧ Aside0 (Kd.R k26 26 w' w.heap.size (fun _ => True) (.slice Ao15 x7_2.length co15) x7_2) ∧ Aside0 (Kd.N (Kd.slice 3 (Kd.int .i64)) 23 w' w.heap.size (fun k_ => some k_ ≠ (v138 : Value).ownBlock ∧ some k_ ≠ (u13 : Value).ownBlock) v136 t132) ∧ Aside0 (Kd.R k26 26 w' w.heap.size (fun _ => True) v138 t133) ∧ Aside0 (Kd.R (Kd.int .i64) 3 w' w.heap.size (fun _ => True) u13 x13_4) ∧ Aside0 (Below w.heap.size w w'))
              case atStart => exact ⟨(0), (by first | rfl | (simp; done) | (simp [*]; done)), H', ⟨Nat.le_refl _⟩, ⟨by (with_reducible repeat (first | apply Kd.R_alloc | apply Kd.R_drewN | apply Kd.R_drew)); exact HO_7.out⟩, ⟨by (with_reducible repeat (first | apply Kd.N_alloc | apply Kd.N_drewN | apply Kd.N_drew)); exact HO_9.out⟩, ⟨by (with_reducible repeat (first | apply Kd.R_alloc | apply Kd.R_drewN | apply Kd.R_drew)); exact HO_10.out⟩, ⟨by (with_reducible repeat (first | apply Kd.R_alloc | apply Kd.R_drewN | apply Kd.R_drew)); exact HO_13.out⟩, ⟨by repeat (first | (with_reducible first | exact HB.out | apply below_alloc | apply pw_below_drewN | apply below_drew1) | exact HB.out)⟩⟩
              case round =>
               clear H'
               (try clear c1); (try clear p1); (try clear q1); (try clear hx1); (try clear qi1); (try clear c2); (try clear p2); (try clear c5); (try clear c5b0); (try clear c5b1); (try clear c6); (try clear p6); (try clear c7); (try clear c8); (try clear c9); (try clear c9b0); (try clear c10); (try clear c10b0); (try clear c11); (try clear p12); (try clear q12); (try clear hx12); (try clear c14); (try clear p14); (try clear q14); (try clear hx14); (try clear qi14); (try clear c20); (try clear c20b0); (try clear c20b1); (try clear c21); (try clear c21b0); (try clear c21b1); (try clear c22); (try clear c22b0); (try clear c22b1); (try clear c22b2); (try clear c23); (try clear c23b0); (try clear c23b1); (try clear c28); (try clear c29); (try clear c29b0); (try clear hx125_0); (try clear hx140_0); (try clear p1); (try clear p12); (try clear p125); (try clear p14); (try clear p140); (try clear p2); (try clear p6); (try clear q1); (try clear q12); (try clear q125); (try clear q14); (try clear q140)
               obtain ⟨x15_5, rfl, HA, HK5, HO_7, HO_9, HO_10, HO_13, HB⟩ := hrel
               cases gk with
               | zero => exact absurd HA.out (by simp [warplaw8_TableOne.l2])
               | succ k5 =>
                have H := HA.out
                clear HA
                simp only [warplaw8_TableOne.l2] at H
                by_cases c31 : x15_5 < (x13_4.length : Int)
                ·
                 rw [if_pos c31] at H
                 have c31b0 : decide (x15_5 < (x13_4.length : Int)) = true := decide_eq_true c31
                 clear c31
                 (first | rw [c31b0] | (simp only [i64_w, i32_w]; rw [c31b0]) | skip)
                 by_cases c32 : 0 ≤ x15_5
                 ·
                  rw [if_pos c32] at H
                  have c32b0 : decide (0 ≤ x15_5) = true := decide_eq_true c32
                  clear c32
                  by_cases c33 : 0 ≤ x14_4
                  ·
                   rw [if_pos c33] at H
                   have c33b0 : decide (0 ≤ x14_4) = true := decide_eq_true c33
                   clear c33
                   by_cases c34 : x14_4 < (x7_2.length : Int)
                   ·
                    rw [if_pos c34] at H
                    have c34b0 : decide (x14_4 < (x7_2.length : Int)) = true := decide_eq_true c34
                    clear c34
                    by_cases c35 : (rd x13_4 x15_5) = ((rd_T26 x7_2 x14_4).f1)
                    ·
                     rw [if_pos c35] at H
                     have c35b0 : ((rd x13_4 x15_5) == ((rd_T26 x7_2 x14_4).f1)) = true := beq_iff_eq.mpr c35
                     have c35b1 : ((rd x13_4 x15_5) != ((rd_T26 x7_2 x14_4).f1)) = false := bne_eq_false_iff_eq.mpr c35
                     clear c35
                     have H' := Aside0.mk H
                     clear H
                     try go_wp2
                     have n0_ := Aside0.mk (Kd.R_drew HO_7.out)
                     have n1_ := Aside0.mk (Kd.N_drew HO_9.out)
                     have n2_ := Aside0.mk (Kd.R_drew HO_10.out)
                     have n3_ := Aside0.mk (Kd.R_drew HO_13.out)
                     have n4_ := Aside0.mk (below_drew1 HB.out)
                     clear HO_7
                     clear HO_9
                     clear HO_10
                     clear HO_13
                     clear HB
                     have HO_7 := n0_
                     have HO_9 := n1_
                     have HO_10 := n2_
                     have HO_13 := n3_
                     have HB := n4_
                     clear n0_ n1_ n2_ n3_ n4_
                     obtain ⟨Ao37, co37, eo37⟩ := Kd.R_slice HO_13.out
                     (first | subst eo37 | (injection eo37 with f1_ f2_ f3_; have f4_ := f1_.symm; have f5_ := f3_.symm; clear f1_ f2_ f3_; subst f4_; subst f5_))
                     have p141 : 0 ≤ (x15_5 : Int) := of_decide_eq_true (by first | (with_reducible assumption) | assumption)
                     have q141 : x15_5 < (x13_4.length : Int) := of_decide_eq_true (by first | (with_reducible assumption) | assumption)
                     obtain ⟨ad141, e141, hx141_0⟩ := Kd.at_int (Kd.R_reads' HO_13.out).2.2 x15_5 p141 q141
                     cases e141
                     replace p141 := eq_true p141
                     replace q141 := eq_true q141
                     have p142 : 0 ≤ (x14_4 : Int) := of_decide_eq_true (by first | (with_reducible assumption) | assumption)
                     have q142 : x14_4 < (x7_2.length : Int) := of_decide_eq_true (by first | (with_reducible assumption) | assumption)
                     obtain ⟨ad142, e142, hx142_0, hx142_1, hx142_2⟩ := at_T26 (Kd.R_reads' HO_7.out).2.2 x14_4 p142 q142
                     cases e142
                     replace p142 := eq_true p142
                     replace q142 := eq_true q142
                     refine start_ (n := 16) (S := fun w' => w'.cell? (ad141.add (x15_5).toNat) = some (.int .i64 (rd x13_4 x15_5)) ∧ w'.cell? (ad142.add ((x14_4).toNat * 3)) = some (.string ((rd_T26 x7_2 x14_4).f0)) ∧ w'.cell? ⟨(ad142.add ((x14_4).toNat * 3)).block, (ad142.add ((x14_4).toNat * 3)).off + 1, none⟩ = some (.int .i64 ((rd_T26 x7_2 x14_4).f1)) ∧ w'.cell? ⟨(ad142.add ((x14_4).toNat * 3)).block, (ad142.add ((x14_4).toNat * 3)).off + 2, none⟩ = some (.int .i64 ((rd_T26 x7_2 x14_4).f2))) (ds := []) #[false, false, false, false, false, false, false, false, false, false, false, false, false, false, false, false] (by kernel_rfl) rfl rfl ⟨hx141_0, hx142_0, hx142_1, hx142_2⟩ (fun hHeld => ?_); refine with_tabW warplaw8_TableOne.tab16 warplaw8_TableOne.bits16 (fun HT_ HW_ => ?_)
                     generalize wr.drew = w36 at HO_7 HO_9 HO_10 HO_13 HB hx141_0 hx142_0 hx142_1 hx142_2 hHeld ⊢
                     refine pure_ (i := 0) (N := some 81) (v := ?_) (a' := ?_) #[true, false, false, false, false, false, false, false, false, false, false, false, false, false, false, false] rfl rfl (any_of HT_.out (by kernel_rfl)) (fun _ _ _ h => h) (Or.inl ⟨by rfl, ?_⟩) ?_ ?_
                     rotate_left
                     ·
                      intro w'
                      go_simp
                      with_reducible rfl
                     rotate_left
                     ·
                      simp only [Act.put, List.setIfInBounds_toArray, List.set_cons_zero, List.set_cons_succ, i64_w, i32_w]
                      rfl
                     refine pure_ (i := 1) (N := some 82) (v := ?_) (a' := ?_) #[true, true, false, false, false, false, false, false, false, false, false, false, false, false, false, false] rfl rfl (any_of HT_.out (by kernel_rfl)) (fun _ _ _ h => h) (Or.inl ⟨by rfl, ?_⟩) ?_ ?_
                     rotate_left
                     ·
                      intro w'
                      go_simp
                      with_reducible rfl
                     rotate_left
                     ·
                      simp only [Act.put, List.setIfInBounds_toArray, List.set_cons_zero, List.set_cons_succ, i64_w, i32_w]
                      rfl
                     refine pure_ (i := 2) (N := some 83) (v := ?_) (a' := ?_) #[true, true, true, false, false, false, false, false, false, false, false, false, false, false, false, false] rfl rfl (any_of HT_.out (by kernel_rfl)) (fun _ _ _ h => h) (Or.inl ⟨by rfl, ?_⟩) ?_ ?_
                     rotate_left
                     ·
                      intro w'
                      go_simp
                      with_reducible rfl
                     rotate_left
                     ·
                      simp only [Act.put, List.setIfInBounds_toArray, List.set_cons_zero, List.set_cons_succ, i64_w, i32_w]
                      rfl
                     refine pure_ (i := 3) (N := some 84) (v := ?_) (a' := ?_) #[true, true, true, true, false, false, false, false, false, false, false, false, false, false, false, false] rfl rfl (any_of HT_.out (by kernel_rfl)) (fun _ _ _ h => h) (Or.inl ⟨by rfl, ?_⟩) ?_ ?_
                     rotate_left
                     ·
                      intro w'
                      go_simp
                      with_reducible rfl
                     rotate_left
                     ·
                      simp only [Act.put, List.setIfInBounds_toArray, List.set_cons_zero, List.set_cons_succ, i64_w, i32_w]
                      rfl
                     refine pure_ (i := 4) (N := some 85) (v := ?_) (a' := ?_) #[true, true, true, true, true, false, false, false, false, false, false, false, false, false, false, false] rfl rfl (any_of HT_.out (by kernel_rfl)) (fun _ _ _ h => h) (Or.inl ⟨by rfl, ?_⟩) ?_ ?_
                     rotate_left
                     ·
                      intro w'
                      go_simp
                      with_reducible rfl
                     rotate_left
                     ·
                      simp only [Act.put, List.setIfInBounds_toArray, List.set_cons_zero, List.set_cons_succ, i64_w, i32_w]
                      rfl
                     refine pure_ (i := 5) (N := some 86) (v := ?_) (a' := ?_) #[true, true, true, true, true, true, false, false, false, false, false, false, false, false, false, false] rfl rfl (any_of HT_.out (by kernel_rfl)) (fun _ _ _ h => h) (Or.inl ⟨by rfl, ?_⟩) ?_ ?_
                     rotate_left
                     ·
                      intro w'
                      go_simp
                      with_reducible rfl
                     rotate_left
                     ·
                      simp only [Act.put, List.setIfInBounds_toArray, List.set_cons_zero, List.set_cons_succ, i64_w, i32_w]
                      rfl
                     refine pure_ (i := 6) (N := some 87) (v := ?_) (a' := ?_) #[true, true, true, true, true, true, true, false, false, false, false, false, false, false, false, false] rfl rfl (any_of HT_.out (by kernel_rfl)) (fun _ _ _ h => h) (Or.inl ⟨by rfl, ?_⟩) ?_ ?_
                     rotate_left
                     ·
                      intro w'
                      go_simp
                      with_reducible rfl
                     rotate_left
                     ·
                      simp only [Act.put, List.setIfInBounds_toArray, List.set_cons_zero, List.set_cons_succ, i64_w, i32_w]
                      rfl
                     refine pure_ (i := 7) (N := some 88) (v := ?_) (a' := ?_) #[true, true, true, true, true, true, true, true, false, false, false, false, false, false, false, false] rfl rfl (any_of HT_.out (by kernel_rfl)) (fun _ _ _ h => h) (Or.inl ⟨by rfl, ?_⟩) ?_ ?_
                     rotate_left
                     ·
                      intro w'
                      go_simp
                      with_reducible rfl
                     rotate_left
                     ·
                      simp only [Act.put, List.setIfInBounds_toArray, List.set_cons_zero, List.set_cons_succ, i64_w, i32_w]
                      rfl
                     refine pure_ (i := 9) (N := some 90) (v := ?_) (a' := ?_) #[true, true, true, true, true, true, true, true, false, true, false, false, false, false, false, false] rfl rfl (any_of HT_.out (by kernel_rfl)) (fun _ _ _ h => h) (Or.inl ⟨by rfl, ?_⟩) ?_ ?_
                     rotate_left
                     ·
                      intro w'
                      go_simp
                      with_reducible rfl
                     rotate_left
                     ·
                      simp only [Act.put, List.setIfInBounds_toArray, List.set_cons_zero, List.set_cons_succ, i64_w, i32_w]
                      rfl
                     refine pure_ (i := 10) (N := some 91) (v := ?_) (a' := ?_) #[true, true, true, true, true, true, true, true, false, true, true, false, false, false, false, false] rfl rfl (any_of HT_.out (by kernel_rfl)) (fun _ _ _ h => h) (Or.inl ⟨by rfl, ?_⟩) ?_ ?_
                     rotate_left
                     ·
                      intro w'
                      go_simp
                      with_reducible rfl
                     rotate_left
                     ·
                      simp only [Act.put, List.setIfInBounds_toArray, List.set_cons_zero, List.set_cons_succ, i64_w, i32_w]
                      rfl
                     refine pure_ (i := 11) (N := some 92) (v := ?_) (a' := ?_) #[true, true, true, true, true, true, true, true, false, true, true, true, false, false, false, false] rfl rfl (any_of HT_.out (by kernel_rfl)) (fun _ _ _ h => h) (Or.inl ⟨by rfl, ?_⟩) ?_ ?_
                     rotate_left
                     ·
                      intro w'
                      go_simp
                      with_reducible rfl
                     rotate_left
                     ·
                      simp only [Act.put, List.setIfInBounds_toArray, List.set_cons_zero, List.set_cons_succ, i64_w, i32_w]
                      rfl
                     refine pure_ (i := 12) (N := some 93) (v := ?_) (a' := ?_) #[true, true, true, true, true, true, true, true, false, true, true, true, true, false, false, false] rfl rfl (any_of HT_.out (by kernel_rfl)) (fun _ _ _ h => h) (Or.inl ⟨by rfl, ?_⟩) ?_ ?_
                     rotate_left
                     ·
                      intro w'
                      go_simp
                      with_reducible rfl
                     rotate_left
                     ·
                      simp only [Act.put, List.setIfInBounds_toArray, List.set_cons_zero, List.set_cons_succ, i64_w, i32_w]
                      rfl
                     refine take_ (i := 8) (N := some 89) (v := ?_) (a' := ?_) #[true, true, true, true, true, true, true, true, true, true, true, true, true, false, false, false] rfl rfl (take_ofW HT_.out HW_.out (by kernel_rfl)) (fun _ _ _ h => h) (Or.inl ⟨by rfl, ?_⟩) hHeld ?_ ?_
                     rotate_left
                     ·
                      rintro w' ⟨s0, s1, s2, s3⟩
                      go_simp
                      with_reducible rfl
                     rotate_left
                     ·
                      simp only [Act.put, List.setIfInBounds_toArray, List.set_cons_zero, List.set_cons_succ, i64_w, i32_w]
                      rfl
                     refine take_ (i := 13) (N := some 94) (v := ?_) (a' := ?_) #[true, true, true, true, true, true, true, true, true, true, true, true, true, true, false, false] rfl rfl (take_ofW HT_.out HW_.out (by kernel_rfl)) (fun _ _ _ h => h) (Or.inl ⟨by rfl, ?_⟩) hHeld ?_ ?_
                     rotate_left
                     ·
                      rintro w' ⟨s0, s1, s2, s3⟩
                      go_simp
                      with_reducible rfl
                     rotate_left
                     ·
                      simp only [Act.put, List.setIfInBounds_toArray, List.set_cons_zero, List.set_cons_succ, i64_w, i32_w]
                      rfl
                     refine pure_ (i := 14) (N := some 95) (v := ?_) (a' := ?_) #[true, true, true, true, true, true, true, true, true, true, true, true, true, true, true, false] rfl rfl (any_of HT_.out (by kernel_rfl)) (fun _ _ _ h => h) (Or.inl ⟨by rfl, ?_⟩) ?_ ?_
                     rotate_left
                     ·
                      intro w'
                      go_simp
                      with_reducible rfl
                     rotate_left
                     ·
                      simp only [Act.put, List.setIfInBounds_toArray, List.set_cons_zero, List.set_cons_succ, i64_w, i32_w]
                      rfl
                     refine pure_ (i := 15) (N := some 96) (v := ?_) (a' := ?_) #[true, true, true, true, true, true, true, true, true, true, true, true, true, true, true, true] rfl rfl (any_of HT_.out (by kernel_rfl)) (fun _ _ _ h => h) (Or.inl ⟨by rfl, ?_⟩) ?_ ?_
                     rotate_left
                     ·
                      intro w'
                      go_simp
                      with_reducible rfl
                     rotate_left
                     ·
                      simp only [Act.put, List.setIfInBounds_toArray, List.set_cons_zero, List.set_cons_succ, i64_w, i32_w]
                      rfl
                     refine done_ (done_of HT_.out (by kernel_rfl)) ?_
                     try go_wp2
                     go_meet
                     case rel => exact ⟨_, (x15_5), (by first | rfl | (simp; done) | (simp [*]; done)), H', ⟨by have := HJ3.out; have := HK2.out; have := HJ13.out; have := HK4.out; have := HK5.out; first | omega | exact Nat.le_refl _⟩, ⟨by (with_reducible repeat (first | apply Kd.R_alloc | apply Kd.R_drewN | apply Kd.R_drew)); exact HO_7.out⟩, ⟨by (with_reducible repeat (first | apply Kd.N_alloc | apply Kd.N_drewN | apply Kd.N_drew)); exact HO_9.out⟩, ⟨by (with_reducible repeat (first | apply Kd.R_alloc | apply Kd.R_drewN | apply Kd.R_drew)); exact HO_10.out⟩, ⟨by (with_reducible repeat (first | apply Kd.R_alloc | apply Kd.R_drewN | apply Kd.R_drew)); exact HO_13.out⟩, ⟨by repeat (first | (with_reducible first | exact HB.out | apply below_alloc | apply pw_below_drewN | apply below_drew1) | exact HB.out)⟩⟩
                    ·
                     rw [if_neg c35] at H
                     have c35b0 : ((rd x13_4 x15_5) == ((rd_T26 x7_2 x14_4).f1)) = false := beq_eq_false_iff_ne.mpr c35
                     have c35b1 : ((rd x13_4 x15_5) != ((rd_T26 x7_2 x14_4).f1)) = true := bne_iff_ne.mpr c35
                     have H' := Aside0.mk H
                     clear H
                     try go_wp2
                     have n0_ := Aside0.mk (Kd.R_drew HO_7.out)
                     have n1_ := Aside0.mk (Kd.N_drew HO_9.out)
                     have n2_ := Aside0.mk (Kd.R_drew HO_10.out)
                     have n3_ := Aside0.mk (Kd.R_drew HO_13.out)
                     have n4_ := Aside0.mk (below_drew1 HB.out)
                     clear HO_7
                     clear HO_9
                     clear HO_10
                     clear HO_13
                     clear HB
                     have HO_7 := n0_
                     have HO_9 := n1_
                     have HO_10 := n2_
                     have HO_13 := n3_
                     have HB := n4_
                     clear n0_ n1_ n2_ n3_ n4_
                     obtain ⟨Ao39, co39, eo39⟩ := Kd.R_slice HO_13.out
                     (first | subst eo39 | (injection eo39 with f1_ f2_ f3_; have f4_ := f1_.symm; have f5_ := f3_.symm; clear f1_ f2_ f3_; subst f4_; subst f5_))
                     have p141 : 0 ≤ (x15_5 : Int) := of_decide_eq_true (by first | (with_reducible assumption) | assumption)
                     have q141 : x15_5 < (x13_4.length : Int) := of_decide_eq_true (by first | (with_reducible assumption) | assumption)
                     obtain ⟨ad141, e141, hx141_0⟩ := Kd.at_int (Kd.R_reads' HO_13.out).2.2 x15_5 p141 q141
                     cases e141
                     replace p141 := eq_true p141
                     replace q141 := eq_true q141
                     have p142 : 0 ≤ (x14_4 : Int) := of_decide_eq_true (by first | (with_reducible assumption) | assumption)
                     have q142 : x14_4 < (x7_2.length : Int) := of_decide_eq_true (by first | (with_reducible assumption) | assumption)
                     obtain ⟨ad142, e142, hx142_0, hx142_1, hx142_2⟩ := at_T26 (Kd.R_reads' HO_7.out).2.2 x14_4 p142 q142
                     cases e142
                     replace p142 := eq_true p142
                     replace q142 := eq_true q142
                     refine start_ (n := 16) (S := fun w' => w'.cell? (ad141.add (x15_5).toNat) = some (.int .i64 (rd x13_4 x15_5)) ∧ w'.cell? (ad142.add ((x14_4).toNat * 3)) = some (.string ((rd_T26 x7_2 x14_4).f0)) ∧ w'.cell? ⟨(ad142.add ((x14_4).toNat * 3)).block, (ad142.add ((x14_4).toNat * 3)).off + 1, none⟩ = some (.int .i64 ((rd_T26 x7_2 x14_4).f1)) ∧ w'.cell? ⟨(ad142.add ((x14_4).toNat * 3)).block, (ad142.add ((x14_4).toNat * 3)).off + 2, none⟩ = some (.int .i64 ((rd_T26 x7_2 x14_4).f2))) (ds := []) #[false, false, false, false, false, false, false, false, false, false, false, false, false, false, false, false] (by kernel_rfl) rfl rfl ⟨hx141_0, hx142_0, hx142_1, hx142_2⟩ (fun hHeld => ?_); refine with_tabW warplaw8_TableOne.tab16 warplaw8_TableOne.bits16 (fun HT_ HW_ => ?_)
                     generalize wr.drew = w38 at HO_7 HO_9 HO_10 HO_13 HB hx141_0 hx142_0 hx142_1 hx142_2 hHeld ⊢
                     refine pure_ (i := 0) (N := some 81) (v := ?_) (a' := ?_) #[true, false, false, false, false, false, false, false, false, false, false, false, false, false, false, false] rfl rfl (any_of HT_.out (by kernel_rfl)) (fun _ _ _ h => h) (Or.inl ⟨by rfl, ?_⟩) ?_ ?_
                     rotate_left
                     ·
                      intro w'
                      go_simp
                      with_reducible rfl
                     rotate_left
                     ·
                      simp only [Act.put, List.setIfInBounds_toArray, List.set_cons_zero, List.set_cons_succ, i64_w, i32_w]
                      rfl
                     refine pure_ (i := 1) (N := some 82) (v := ?_) (a' := ?_) #[true, true, false, false, false, false, false, false, false, false, false, false, false, false, false, false] rfl rfl (any_of HT_.out (by kernel_rfl)) (fun _ _ _ h => h) (Or.inl ⟨by rfl, ?_⟩) ?_ ?_
                     rotate_left
                     ·
                      intro w'
                      go_simp
                      with_reducible rfl
                     rotate_left
                     ·
                      simp only [Act.put, List.setIfInBounds_toArray, List.set_cons_zero, List.set_cons_succ, i64_w, i32_w]
                      rfl
                     refine pure_ (i := 2) (N := some 83) (v := ?_) (a' := ?_) #[true, true, true, false, false, false, false, false, false, false, false, false, false, false, false, false] rfl rfl (any_of HT_.out (by kernel_rfl)) (fun _ _ _ h => h) (Or.inl ⟨by rfl, ?_⟩) ?_ ?_
                     rotate_left
                     ·
                      intro w'
                      go_simp
                      with_reducible rfl
                     rotate_left
                     ·
                      simp only [Act.put, List.setIfInBounds_toArray, List.set_cons_zero, List.set_cons_succ, i64_w, i32_w]
                      rfl
                     refine pure_ (i := 3) (N := some 84) (v := ?_) (a' := ?_) #[true, true, true, true, false, false, false, false, false, false, false, false, false, false, false, false] rfl rfl (any_of HT_.out (by kernel_rfl)) (fun _ _ _ h => h) (Or.inl ⟨by rfl, ?_⟩) ?_ ?_
                     rotate_left
                     ·
                      intro w'
                      go_simp
                      with_reducible rfl
                     rotate_left
                     ·
                      simp only [Act.put, List.setIfInBounds_toArray, List.set_cons_zero, List.set_cons_succ, i64_w, i32_w]
                      rfl
                     refine pure_ (i := 4) (N := some 85) (v := ?_) (a' := ?_) #[true, true, true, true, true, false, false, false, false, false, false, false, false, false, false, false] rfl rfl (any_of HT_.out (by kernel_rfl)) (fun _ _ _ h => h) (Or.inl ⟨by rfl, ?_⟩) ?_ ?_
                     rotate_left
                     ·
                      intro w'
                      go_simp
                      with_reducible rfl
                     rotate_left
                     ·
                      simp only [Act.put, List.setIfInBounds_toArray, List.set_cons_zero, List.set_cons_succ, i64_w, i32_w]
                      rfl
                     refine pure_ (i := 5) (N := some 86) (v := ?_) (a' := ?_) #[true, true, true, true, true, true, false, false, false, false, false, false, false, false, false, false] rfl rfl (any_of HT_.out (by kernel_rfl)) (fun _ _ _ h => h) (Or.inl ⟨by rfl, ?_⟩) ?_ ?_
                     rotate_left
                     ·
                      intro w'
                      go_simp
                      with_reducible rfl
                     rotate_left
                     ·
                      simp only [Act.put, List.setIfInBounds_toArray, List.set_cons_zero, List.set_cons_succ, i64_w, i32_w]
                      rfl
                     refine pure_ (i := 6) (N := some 87) (v := ?_) (a' := ?_) #[true, true, true, true, true, true, true, false, false, false, false, false, false, false, false, false] rfl rfl (any_of HT_.out (by kernel_rfl)) (fun _ _ _ h => h) (Or.inl ⟨by rfl, ?_⟩) ?_ ?_
                     rotate_left
                     ·
                      intro w'
                      go_simp
                      with_reducible rfl
                     rotate_left
                     ·
                      simp only [Act.put, List.setIfInBounds_toArray, List.set_cons_zero, List.set_cons_succ, i64_w, i32_w]
                      rfl
                     refine pure_ (i := 7) (N := some 88) (v := ?_) (a' := ?_) #[true, true, true, true, true, true, true, true, false, false, false, false, false, false, false, false] rfl rfl (any_of HT_.out (by kernel_rfl)) (fun _ _ _ h => h) (Or.inl ⟨by rfl, ?_⟩) ?_ ?_
                     rotate_left
                     ·
                      intro w'
                      go_simp
                      with_reducible rfl
                     rotate_left
                     ·
                      simp only [Act.put, List.setIfInBounds_toArray, List.set_cons_zero, List.set_cons_succ, i64_w, i32_w]
                      rfl
                     refine pure_ (i := 9) (N := some 90) (v := ?_) (a' := ?_) #[true, true, true, true, true, true, true, true, false, true, false, false, false, false, false, false] rfl rfl (any_of HT_.out (by kernel_rfl)) (fun _ _ _ h => h) (Or.inl ⟨by rfl, ?_⟩) ?_ ?_
                     rotate_left
                     ·
                      intro w'
                      go_simp
                      with_reducible rfl
                     rotate_left
                     ·
                      simp only [Act.put, List.setIfInBounds_toArray, List.set_cons_zero, List.set_cons_succ, i64_w, i32_w]
                      rfl
                     refine pure_ (i := 10) (N := some 91) (v := ?_) (a' := ?_) #[true, true, true, true, true, true, true, true, false, true, true, false, false, false, false, false] rfl rfl (any_of HT_.out (by kernel_rfl)) (fun _ _ _ h => h) (Or.inl ⟨by rfl, ?_⟩) ?_ ?_
                     rotate_left
                     ·
                      intro w'
                      go_simp
                      with_reducible rfl
                     rotate_left
                     ·
                      simp only [Act.put, List.setIfInBounds_toArray, List.set_cons_zero, List.set_cons_succ, i64_w, i32_w]
                      rfl
                     refine pure_ (i := 11) (N := some 92) (v := ?_) (a' := ?_) #[true, true, true, true, true, true, true, true, false, true, true, true, false, false, false, false] rfl rfl (any_of HT_.out (by kernel_rfl)) (fun _ _ _ h => h) (Or.inl ⟨by rfl, ?_⟩) ?_ ?_
                     rotate_left
                     ·
                      intro w'
                      go_simp
                      with_reducible rfl
                     rotate_left
                     ·
                      simp only [Act.put, List.setIfInBounds_toArray, List.set_cons_zero, List.set_cons_succ, i64_w, i32_w]
                      rfl
                     refine pure_ (i := 12) (N := some 93) (v := ?_) (a' := ?_) #[true, true, true, true, true, true, true, true, false, true, true, true, true, false, false, false] rfl rfl (any_of HT_.out (by kernel_rfl)) (fun _ _ _ h => h) (Or.inl ⟨by rfl, ?_⟩) ?_ ?_
                     rotate_left
                     ·
                      intro w'
                      go_simp
                      with_reducible rfl
                     rotate_left
                     ·
                      simp only [Act.put, List.setIfInBounds_toArray, List.set_cons_zero, List.set_cons_succ, i64_w, i32_w]
                      rfl
                     refine take_ (i := 8) (N := some 89) (v := ?_) (a' := ?_) #[true, true, true, true, true, true, true, true, true, true, true, true, true, false, false, false] rfl rfl (take_ofW HT_.out HW_.out (by kernel_rfl)) (fun _ _ _ h => h) (Or.inl ⟨by rfl, ?_⟩) hHeld ?_ ?_
                     rotate_left
                     ·
                      rintro w' ⟨s0, s1, s2, s3⟩
                      go_simp
                      with_reducible rfl
                     rotate_left
                     ·
                      simp only [Act.put, List.setIfInBounds_toArray, List.set_cons_zero, List.set_cons_succ, i64_w, i32_w]
                      rfl
                     refine take_ (i := 13) (N := some 94) (v := ?_) (a' := ?_) #[true, true, true, true, true, true, true, true, true, true, true, true, true, true, false, false] rfl rfl (take_ofW HT_.out HW_.out (by kernel_rfl)) (fun _ _ _ h => h) (Or.inl ⟨by rfl, ?_⟩) hHeld ?_ ?_
                     rotate_left
                     ·
                      rintro w' ⟨s0, s1, s2, s3⟩
                      go_simp
                      with_reducible rfl
                     rotate_left
                     ·
                      simp only [Act.put, List.setIfInBounds_toArray, List.set_cons_zero, List.set_cons_succ, i64_w, i32_w]
                      rfl
                     refine pure_ (i := 14) (N := some 95) (v := ?_) (a' := ?_) #[true, true, true, true, true, true, true, true, true, true, true, true, true, true, true, false] rfl rfl (any_of HT_.out (by kernel_rfl)) (fun _ _ _ h => h) (Or.inl ⟨by rfl, ?_⟩) ?_ ?_
                     rotate_left
                     ·
                      intro w'
                      go_simp
                      with_reducible rfl
                     rotate_left
                     ·
                      simp only [Act.put, List.setIfInBounds_toArray, List.set_cons_zero, List.set_cons_succ, i64_w, i32_w]
                      rfl
                     refine pure_ (i := 15) (N := some 96) (v := ?_) (a' := ?_) #[true, true, true, true, true, true, true, true, true, true, true, true, true, true, true, true] rfl rfl (any_of HT_.out (by kernel_rfl)) (fun _ _ _ h => h) (Or.inl ⟨by rfl, ?_⟩) ?_ ?_
                     rotate_left
                     ·
                      intro w'
                      go_simp
                      with_reducible rfl
                     rotate_left
                     ·
                      simp only [Act.put, List.setIfInBounds_toArray, List.set_cons_zero, List.set_cons_succ, i64_w, i32_w]
                      rfl
                     refine done_ (done_of HT_.out (by kernel_rfl)) ?_
                     try go_wp2
                     go_roundg k5
                     case measure => have := HJ3.out; have := HK2.out; have := HJ13.out; have := HK4.out; have := HK5.out; omega
                     case rel => exact ⟨(wrap64 (x15_5 + 1)), (by first | rfl | (simp; done) | (simp [*]; done)), H', ⟨by have := HJ3.out; have := HK2.out; have := HJ13.out; have := HK4.out; have := HK5.out; omega⟩, ⟨by (with_reducible repeat (first | apply Kd.R_alloc | apply Kd.R_drewN | apply Kd.R_drew)); exact HO_7.out⟩, ⟨by (with_reducible repeat (first | apply Kd.N_alloc | apply Kd.N_drewN | apply Kd.N_drew)); exact HO_9.out⟩, ⟨by (with_reducible repeat (first | apply Kd.R_alloc | apply Kd.R_drewN | apply Kd.R_drew)); exact HO_10.out⟩, ⟨by (with_reducible repeat (first | apply Kd.R_alloc | apply Kd.R_drewN | apply Kd.R_drew)); exact HO_13.out⟩, ⟨by repeat (first | (with_reducible first | exact HB.out | apply below_alloc | apply pw_below_drewN | apply below_drew1) | exact HB.out)⟩⟩
                   ·
                    rw [if_neg c34] at H
                    exact absurd H (by simp)
                  ·
                   rw [if_neg c33] at H
                   exact absurd H (by simp)
                 ·
                  rw [if_neg c32] at H
                  exact absurd H (by simp)
                ·
                 rw [if_neg c31] at H
                 have c31b0 : decide (x15_5 < (x13_4.length : Int)) = false := decide_eq_false c31
                 clear c31
                 (first | rw [c31b0] | (simp only [i64_w, i32_w]; rw [c31b0]) | skip)
                 have H' := Aside0.mk H
                 clear H
                 try go_wp2
                 have n0_ := Aside0.mk (Kd.R_drew HO_7.out)
                 have n1_ := Aside0.mk (Kd.N_drew HO_9.out)
                 have n2_ := Aside0.mk (Kd.R_drew HO_10.out)
                 have n3_ := Aside0.mk (Kd.R_drew HO_13.out)
                 have n4_ := Aside0.mk (below_drew1 HB.out)
                 clear HO_7
                 clear HO_9
                 clear HO_10
                 clear HO_13
                 clear HB
                 have HO_7 := n0_
                 have HO_9 := n1_
                 have HO_10 := n2_
                 have HO_13 := n3_
                 have HB := n4_
                 clear n0_ n1_ n2_ n3_ n4_
                 obtain ⟨Ao41, co41, eo41⟩ := Kd.R_slice HO_13.out
                 (first | subst eo41 | (injection eo41 with f1_ f2_ f3_; have f4_ := f1_.symm; have f5_ := f3_.symm; clear f1_ f2_ f3_; subst f4_; subst f5_))
                 refine start_ (n := 16) (S := fun w' => True) (ds := []) #[false, false, false, false, false, false, false, false, false, false, false, false, false, false, false, false] (by kernel_rfl) rfl rfl trivial (fun hHeld => ?_); refine with_tabW warplaw8_TableOne.tab16 warplaw8_TableOne.bits16 (fun HT_ HW_ => ?_)
                 generalize wr.drew = w40 at HO_7 HO_9 HO_10 HO_13 HB hHeld ⊢
                 refine pure_ (i := 0) (N := some 81) (v := ?_) (a' := ?_) #[true, false, false, false, false, false, false, false, false, false, false, false, false, false, false, false] rfl rfl (any_of HT_.out (by kernel_rfl)) (fun _ _ _ h => h) (Or.inl ⟨by rfl, ?_⟩) ?_ ?_
                 rotate_left
                 ·
                  intro w'
                  go_simp
                  with_reducible rfl
                 rotate_left
                 ·
                  simp only [Act.put, List.setIfInBounds_toArray, List.set_cons_zero, List.set_cons_succ, i64_w, i32_w]
                  rfl
                 refine pure_ (i := 1) (N := some 82) (v := ?_) (a' := ?_) #[true, true, false, false, false, false, false, false, false, false, false, false, false, false, false, false] rfl rfl (any_of HT_.out (by kernel_rfl)) (fun _ _ _ h => h) (Or.inl ⟨by rfl, ?_⟩) ?_ ?_
                 rotate_left
                 ·
                  intro w'
                  go_simp
                  with_reducible rfl
                 rotate_left
                 ·
                  simp only [Act.put, List.setIfInBounds_toArray, List.set_cons_zero, List.set_cons_succ, i64_w, i32_w]
                  rfl
                 refine pure_ (i := 2) (N := some 83) (v := ?_) (a' := ?_) #[true, true, true, false, false, false, false, false, false, false, false, false, false, false, false, false] rfl rfl (any_of HT_.out (by kernel_rfl)) (fun _ _ _ h => h) (Or.inl ⟨by rfl, ?_⟩) ?_ ?_
                 rotate_left
                 ·
                  intro w'
                  go_simp
                  with_reducible rfl
                 rotate_left
                 ·
                  simp only [Act.put, List.setIfInBounds_toArray, List.set_cons_zero, List.set_cons_succ, i64_w, i32_w]
                  rfl
                 refine pure_ (i := 3) (N := some 84) (v := ?_) (a' := ?_) #[true, true, true, true, false, false, false, false, false, false, false, false, false, false, false, false] rfl rfl (any_of HT_.out (by kernel_rfl)) (fun _ _ _ h => h) (Or.inl ⟨by rfl, ?_⟩) ?_ ?_
                 rotate_left
                 ·
                  intro w'
                  go_simp
                  with_reducible rfl
                 rotate_left
                 ·
                  simp only [Act.put, List.setIfInBounds_toArray, List.set_cons_zero, List.set_cons_succ, i64_w, i32_w]
                  rfl
                 refine pure_ (i := 4) (N := some 85) (v := ?_) (a' := ?_) #[true, true, true, true, true, false, false, false, false, false, false, false, false, false, false, false] rfl rfl (any_of HT_.out (by kernel_rfl)) (fun _ _ _ h => h) (Or.inl ⟨by rfl, ?_⟩) ?_ ?_
                 rotate_left
                 ·
                  intro w'
                  go_simp
                  with_reducible rfl
                 rotate_left
                 ·
                  simp only [Act.put, List.setIfInBounds_toArray, List.set_cons_zero, List.set_cons_succ, i64_w, i32_w]
                  rfl
                 refine pure_ (i := 5) (N := some 86) (v := undef) (a' := ?_) #[true, true, true, true, true, true, false, false, false, false, false, false, false, false, false, false] rfl rfl (any_of HT_.out (by kernel_rfl)) (fun _ _ _ h => h) (Or.inr ⟨by rfl, rfl⟩) ?_ ?_
                 rotate_left
                 ·
                  simp only [Act.put, List.setIfInBounds_toArray, List.set_cons_zero, List.set_cons_succ, i64_w, i32_w]
                  rfl
                 refine pure_ (i := 6) (N := some 87) (v := undef) (a' := ?_) #[true, true, true, true, true, true, true, false, false, false, false, false, false, false, false, false] rfl rfl (any_of HT_.out (by kernel_rfl)) (fun _ _ _ h => h) (Or.inr ⟨by rfl, rfl⟩) ?_ ?_
                 rotate_left
                 ·
                  simp only [Act.put, List.setIfInBounds_toArray, List.set_cons_zero, List.set_cons_succ, i64_w, i32_w]
                  rfl
                 refine pure_ (i := 7) (N := some 88) (v := undef) (a' := ?_) #[true, true, true, true, true, true, true, true, false, false, false, false, false, false, false, false] rfl rfl (any_of HT_.out (by kernel_rfl)) (fun _ _ _ h => h) (Or.inr ⟨by rfl, rfl⟩) ?_ ?_
                 rotate_left
                 ·
                  simp only [Act.put, List.setIfInBounds_toArray, List.set_cons_zero, List.set_cons_succ, i64_w, i32_w]
                  rfl
                 refine pure_ (i := 8) (N := some 89) (v := undef) (a' := ?_) #[true, true, true, true, true, true, true, true, true, false, false, false, false, false, false, false] rfl rfl (any_of HT_.out (by kernel_rfl)) (fun _ _ _ h => h) (Or.inr ⟨by rfl, rfl⟩) ?_ ?_
                 rotate_left
                 ·
                  simp only [Act.put, List.setIfInBounds_toArray, List.set_cons_zero, List.set_cons_succ, i64_w, i32_w]
                  rfl
                 refine pure_ (i := 9) (N := some 90) (v := undef) (a' := ?_) #[true, true, true, true, true, true, true, true, true, true, false, false, false, false, false, false] rfl rfl (any_of HT_.out (by kernel_rfl)) (fun _ _ _ h => h) (Or.inr ⟨by rfl, rfl⟩) ?_ ?_
                 rotate_left
                 ·
                  simp only [Act.put, List.setIfInBounds_toArray, List.set_cons_zero, List.set_cons_succ, i64_w, i32_w]
                  rfl
                 refine pure_ (i := 10) (N := some 91) (v := undef) (a' := ?_) #[true, true, true, true, true, true, true, true, true, true, true, false, false, false, false, false] rfl rfl (any_of HT_.out (by kernel_rfl)) (fun _ _ _ h => h) (Or.inr ⟨by rfl, rfl⟩) ?_ ?_
                 rotate_left
                 ·
                  simp only [Act.put, List.setIfInBounds_toArray, List.set_cons_zero, List.set_cons_succ, i64_w, i32_w]
                  rfl
                 refine pure_ (i := 11) (N := some 92) (v := undef) (a' := ?_) #[true, true, true, true, true, true, true, true, true, true, true, true, false, false, false, false] rfl rfl (any_of HT_.out (by kernel_rfl)) (fun _ _ _ h => h) (Or.inr ⟨by rfl, rfl⟩) ?_ ?_
                 rotate_left
                 ·
                  simp only [Act.put, List.setIfInBounds_toArray, List.set_cons_zero, List.set_cons_succ, i64_w, i32_w]
                  rfl
                 refine pure_ (i := 12) (N := some 93) (v := undef) (a' := ?_) #[true, true, true, true, true, true, true, true, true, true, true, true, true, false, false, false] rfl rfl (any_of HT_.out (by kernel_rfl)) (fun _ _ _ h => h) (Or.inr ⟨by rfl, rfl⟩) ?_ ?_
                 rotate_left
                 ·
                  simp only [Act.put, List.setIfInBounds_toArray, List.set_cons_zero, List.set_cons_succ, i64_w, i32_w]
                  rfl
                 refine pure_ (i := 13) (N := some 94) (v := undef) (a' := ?_) #[true, true, true, true, true, true, true, true, true, true, true, true, true, true, false, false] rfl rfl (any_of HT_.out (by kernel_rfl)) (fun _ _ _ h => h) (Or.inr ⟨by rfl, rfl⟩) ?_ ?_
                 rotate_left
                 ·
                  simp only [Act.put, List.setIfInBounds_toArray, List.set_cons_zero, List.set_cons_succ, i64_w, i32_w]
                  rfl
                 refine pure_ (i := 14) (N := some 95) (v := undef) (a' := ?_) #[true, true, true, true, true, true, true, true, true, true, true, true, true, true, true, false] rfl rfl (any_of HT_.out (by kernel_rfl)) (fun _ _ _ h => h) (Or.inr ⟨by rfl, rfl⟩) ?_ ?_
                 rotate_left
                 ·
                  simp only [Act.put, List.setIfInBounds_toArray, List.set_cons_zero, List.set_cons_succ, i64_w, i32_w]
                  rfl
                 refine pure_ (i := 15) (N := some 96) (v := ?_) (a' := ?_) #[true, true, true, true, true, true, true, true, true, true, true, true, true, true, true, true] rfl rfl (any_of HT_.out (by kernel_rfl)) (fun _ _ _ h => h) (Or.inl ⟨by rfl, ?_⟩) ?_ ?_
                 rotate_left
                 ·
                  intro w'
                  go_simp
                  with_reducible rfl
                 rotate_left
                 ·
                  simp only [Act.put, List.setIfInBounds_toArray, List.set_cons_zero, List.set_cons_succ, i64_w, i32_w]
                  rfl
                 refine done_ (done_of HT_.out (by kernel_rfl)) ?_
                 try go_wp2
                 go_meet
                 case rel => exact ⟨_, (x15_5), (by first | rfl | (simp; done) | (simp [*]; done)), H', ⟨by have := HJ3.out; have := HK2.out; have := HJ13.out; have := HK4.out; have := HK5.out; first | omega | exact Nat.le_refl _⟩, ⟨by (with_reducible repeat (first | apply Kd.R_alloc | apply Kd.R_drewN | apply Kd.R_drew)); exact HO_7.out⟩, ⟨by (with_reducible repeat (first | apply Kd.N_alloc | apply Kd.N_drewN | apply Kd.N_drew)); exact HO_9.out⟩, ⟨by (with_reducible repeat (first | apply Kd.R_alloc | apply Kd.R_drewN | apply Kd.R_drew)); exact HO_10.out⟩, ⟨by (with_reducible repeat (first | apply Kd.R_alloc | apply Kd.R_drewN | apply Kd.R_drew)); exact HO_13.out⟩, ⟨by repeat (first | (with_reducible first | exact HB.out | apply below_alloc | apply pw_below_drewN | apply below_drew1) | exact HB.out)⟩⟩
             case rest =>
              clear HC30
              (try clear c1); (try clear p1); (try clear q1); (try clear hx1); (try clear qi1); (try clear c2); (try clear p2); (try clear c3); (try clear c5); (try clear c5b0); (try clear c5b1); (try clear c6); (try clear p6); (try clear c7); (try clear c8); (try clear c9); (try clear c9b0); (try clear c10); (try clear c10b0); (try clear c11); (try clear p12); (try clear q12); (try clear hx12); (try clear c14); (try clear p14); (try clear q14); (try clear hx14); (try clear qi14); (try clear c20); (try clear c20b0); (try clear c20b1); (try clear c21); (try clear c21b0); (try clear c21b1); (try clear c22); (try clear c22b0); (try clear c22b1); (try clear c22b2); (try clear c23); (try clear c23b0); (try clear c23b1); (try clear c28); (try clear c29); (try clear c29b0); (try clear c31); (try clear c31b0); (try clear c32); (try clear c32b0); (try clear c33); (try clear c33b0); (try clear c34); (try clear c34b0); (try clear c35); (try clear c35b0); (try clear c35b1); (try clear hx125_0); (try clear hx140_0); (try clear hx141_0); (try clear hx142_0); (try clear hx142_1); (try clear hx142_2); (try clear p1); (try clear p12); (try clear p125); (try clear p14); (try clear p140); (try clear p141); (try clear p142); (try clear p2); (try clear p6); (try clear q1); (try clear q12); (try clear q125); (try clear q14); (try clear q140); (try clear q141); (try clear q142)
              obtain ⟨kq, x15_29, rfl, HA, HJ29, HO_7, HO_9, HO_10, HO_13, HB⟩ := hcut
              cases kq with
              | zero => exact absurd HA.out (by simp [warplaw8_TableOne.j5])
              | succ kj29 =>
               have H := HA.out
               clear HA
               simp only [warplaw8_TableOne.j5] at H
               have HC42 := Aside0.mk H
               clear H
               obtain ⟨Ao43, co43, eo43⟩ := Kd.R_slice HO_13.out
               subst eo43
               go_upto_if 102 with (fail)
               go_cut [13] (fun v13 wc => ∃ (kq : Nat) (x13_41 : List Int), Aside0 (warplaw8_TableOne.j6 kq x7_2 t132 t133 x13_41 x14_4 x15_29 = some r) ∧ Aside0 (kq ≤ kj29) ∧ Aside0 (Kd.R k26 26 wc w.heap.size (fun _ => True) (.slice Ao15 x7_2.length co15) x7_2) ∧ Aside0 (Kd.N (Kd.slice 3 (Kd.int .i64)) 23 wc w.heap.size (fun k_ => some k_ ≠ (v138 : Value).ownBlock ∧ some k_ ≠ (v13 : Value).ownBlock) v136 t132) ∧ Aside0 (Kd.R k26 26 wc w.heap.size (fun _ => True) v138 t133) ∧ Aside0 (Kd.R (Kd.int .i64) 3 wc w.heap.size (fun _ => True) v13 x13_41) ∧ Aside0 (Below w.heap.size w wc))
               case first =>
                have H := HC42.out
                clear HC42
                by_cases c44 : x15_29 = (x13_4.length : Int)
                ·
                 rw [if_pos c44] at H
                 have c44b0 : (x15_29 == (x13_4.length : Int)) = true := beq_iff_eq.mpr c44
                 have c44b1 : (x15_29 != (x13_4.length : Int)) = false := bne_eq_false_iff_eq.mpr c44
                 clear c44
                 (first | rw [c44b0] | (simp only [i64_w, i32_w]; rw [c44b0]) | skip)
                 by_cases c45 : 0 ≤ x14_4
                 ·
                  rw [if_pos c45] at H
                  have c45b0 : decide (0 ≤ x14_4) = true := decide_eq_true c45
                  clear c45
                  by_cases c46 : x14_4 < (x7_2.length : Int)
                  ·
                   rw [if_pos c46] at H
                   have c46b0 : decide (x14_4 < (x7_2.length : Int)) = true := decide_eq_true c46
                   clear c46
                   by_cases c47 : x13_4.length < 17592186044416
                   ·
                    rw [if_pos c47] at H
                    have LMc47 := Aside0.mk c47
                    clear c47
                    obtain ⟨y144, hy144⟩ : ∃ y_ : List Int, y_ = (x13_4 ++ [(rd_T26 x7_2 x14_4).f1]) := ⟨_, rfl⟩
                    replace H : (warplaw8_TableOne.j6 kj29 x7_2 t132 t133 y144 x14_4 x15_29) = some r := by first | (rw [hy144]; with_reducible exact H) | (have H2_ := (Option.bind_some _ _).symm.trans H; rw [hy144]; with_reducible exact H2_) | (have H2_ := (Option.bind_some _ _).symm.trans H; with_reducible exact H2_) | with_reducible exact H | (rw [hy144]; exact H) | exact H
                    have Ny144 := Aside0.mk hy144
                    clear hy144
                    have H' := Aside0.mk H
                    clear H
                    have p143 : 0 ≤ (x14_4 : Int) := of_decide_eq_true (by first | (with_reducible assumption) | assumption)
                    have q143 : x14_4 < (x7_2.length : Int) := of_decide_eq_true (by first | (with_reducible assumption) | assumption)
                    obtain ⟨ad143, e143, hx143_0, hx143_1, hx143_2⟩ := at_T26 (Kd.R_reads' HO_7.out).2.2 x14_4 p143 q143
                    cases e143
                    replace p143 := eq_true p143
                    replace q143 := eq_true q143
                    go_wp2_with (first | ((with_reducible refine gate_builtin (b := .append) (xs := #[.tmp 103, .tmp 109]) rfl ?_); (try (refine gate_guard (by rfl) ?_; dsimp only)); at_builtin; refine Kd.R_append (Kd.int .i64) (w0 := w) w.heap.size rfl (.tmp 103) (.tmp 109) 23 3 (.int .i64 0) 8 rfl Tryd.underlying23 info3 rfl (by decide) (by omega) (.slice Ao43 x13_4.length co43) x13_4 ((rd_T26 x7_2 x14_4).f1) [.int .i64 ((rd_T26 x7_2 x14_4).f1)] (fun _ => True) (fun _ => False) rfl rfl ?aP (fun _ hk => hk.elim) ?aF ?aO ?aB ?aS ?aL ?_; (case aP => exact rfl); (case aB => exact (by repeat (first | (with_reducible first | exact HB.out | apply below_alloc | apply pw_below_drewN | apply below_drew1) | exact HB.out))); (case aF => exact (fun _ _ => trivial)); (case aO => exact (by (with_reducible repeat (first | apply Kd.R_alloc | apply Kd.R_drewN | apply Kd.R_drew)); exact HO_13.out)); (case aS => exact (below_size (by repeat (first | (with_reducible first | exact HB.out | apply below_alloc | apply pw_below_drewN | apply below_drew1) | exact HB.out)))); (case aL => have := LMc47.out; omega); intro v145 w48 ho hb hg hat; rw [← Ny144.out] at ho; have n0_ := Aside0.mk (Kd.R_over' (by (with_reducible repeat (first | apply Kd.R_alloc | apply Kd.R_drewN | apply Kd.R_drew)); exact HO_7.out) (Kd.R_typed (by (with_reducible repeat (first | apply Kd.R_alloc | apply Kd.R_drewN | apply Kd.R_drew)); exact HO_13.out)) (by decide) hg); have n1_ := Aside0.mk (Kd.N_afterv (ok := (fun k_ => some k_ ≠ (v138 : Value).ownBlock)) (by (with_reducible repeat (first | apply Kd.N_alloc | apply Kd.N_drewN | apply Kd.N_drew)); exact HO_9.out) hg hat); have n2_ := Aside0.mk (Kd.R_over' (by (with_reducible repeat (first | apply Kd.R_alloc | apply Kd.R_drewN | apply Kd.R_drew)); exact HO_10.out) (Kd.R_typed (by (with_reducible repeat (first | apply Kd.R_alloc | apply Kd.R_drewN | apply Kd.R_drew)); exact HO_13.out)) (by decide) hg); have n3_ := Aside0.mk (hb); have n4_ := Aside0.mk (ho); clear HO_7; clear HO_9; clear HO_10; clear HB; clear HO_13; have HO_7 := n0_; have HO_9 := n1_; have HO_10 := n2_; have HB := n3_; have HO146 := n4_; clear n0_ n1_ n2_ n3_ n4_; clear ho hb hg hat))
                    go_meet
                    case rel => exact ⟨_, (y144), H', ⟨by have := HJ3.out; have := HK2.out; have := HJ13.out; have := HK4.out; have := HJ29.out; first | omega | exact Nat.le_refl _⟩, ⟨by (with_reducible repeat (first | apply Kd.R_alloc | apply Kd.R_drewN | apply Kd.R_drew)); exact HO_7.out⟩, ⟨by (with_reducible repeat (first | apply Kd.N_alloc | apply Kd.N_drewN | apply Kd.N_drew)); exact HO_9.out⟩, ⟨by (with_reducible repeat (first | apply Kd.R_alloc | apply Kd.R_drewN | apply Kd.R_drew)); exact HO_10.out⟩, ⟨by (with_reducible repeat (first | apply Kd.R_alloc | apply Kd.R_drewN | apply Kd.R_drew)); exact HO146.out⟩, ⟨by repeat (first | (with_reducible first | exact HB.out | apply below_alloc | apply pw_below_drewN | apply below_drew1) | exact HB.out)⟩⟩
                   ·
                    rw [if_neg c47] at H
                    exact absurd H (by simp)
                  ·
                   rw [if_neg c46] at H
                   exact absurd H (by simp)
                 ·
                  rw [if_neg c45] at H
                  exact absurd H (by simp)
                ·
                 rw [if_neg c44] at H
                 have c44b0 : (x15_29 == (x13_4.length : Int)) = false := beq_eq_false_iff_ne.mpr c44
                 have c44b1 : (x15_29 != (x13_4.length : Int)) = true := bne_iff_ne.mpr c44
                 (first | rw [c44b0] | (simp only [i64_w, i32_w]; rw [c44b0]) | skip)
                 have H' := Aside0.mk H
                 clear H
                 go_wp2
                 go_meet
                 case rel => exact ⟨_, (x13_4), H', ⟨by have := HJ3.out; have := HK2.out; have := HJ13.out; have := HK4.out; have := HJ29.out; first | omega | exact Nat.le_refl _⟩, ⟨by (with_reducible repeat (first | apply Kd.R_alloc | apply Kd.R_drewN | apply Kd.R_drew)); exact HO_7.out⟩, ⟨by (with_reducible repeat (first | apply Kd.N_alloc | apply Kd.N_drewN | apply Kd.N_drew)); exact HO_9.out⟩, ⟨by (with_reducible repeat (first | apply Kd.R_alloc | apply Kd.R_drewN | apply Kd.R_drew)); exact HO_10.out⟩, ⟨by (with_reducible repeat (first | apply Kd.R_alloc | apply Kd.R_drewN | apply Kd.R_drew)); exact HO_13.out⟩, ⟨by repeat (first | (with_reducible first | exact HB.out | apply below_alloc | apply pw_below_drewN | apply below_drew1) | exact HB.out)⟩⟩
               case rest =>
                clear HC42
                (try clear c1); (try clear p1); (try clear q1); (try clear hx1); (try clear qi1); (try clear c2); (try clear p2); (try clear c3); (try clear c4); (try clear c5); (try clear c5b0); (try clear c5b1); (try clear c6); (try clear p6); (try clear c7); (try clear c8); (try clear c9); (try clear c9b0); (try clear c10); (try clear c10b0); (try clear c11); (try clear p12); (try clear q12); (try clear hx12); (try clear c14); (try clear p14); (try clear q14); (try clear hx14); (try clear qi14); (try clear c20); (try clear c20b0); (try clear c20b1); (try clear c21); (try clear c21b0); (try clear c21b1); (try clear c22); (try clear c22b0); (try clear c22b1); (try clear c22b2); (try clear c23); (try clear c23b0); (try clear c23b1); (try clear c28); (try clear c29); (try clear c29b0); (try clear c31); (try clear c31b0); (try clear c32); (try clear c32b0); (try clear c33); (try clear c33b0); (try clear c34); (try clear c34b0); (try clear c35); (try clear c35b0); (try clear c35b1); (try clear c44); (try clear c44b0); (try clear c44b1); (try clear c45); (try clear c45b0); (try clear c46); (try clear c46b0); (try clear c47); (try clear hx125_0); (try clear hx140_0); (try clear hx141_0); (try clear hx142_0); (try clear hx142_1); (try clear hx142_2); (try clear hx143_0); (try clear hx143_1); (try clear hx143_2); (try clear p1); (try clear p12); (try clear p125); (try clear p14); (try clear p140); (try clear p141); (try clear p142); (try clear p143); (try clear p2); (try clear p6); (try clear q1); (try clear q12); (try clear q125); (try clear q14); (try clear q140); (try clear q141); (try clear q142); (try clear q143)
                obtain ⟨kq, x13_41, HA, HJ41, HO_7, HO_9, HO_10, HO_13, HB⟩ := hcut
                cases kq with
                | zero => exact absurd HA.out (by simp [warplaw8_TableOne.j6])
                | succ kj41 =>
                 have H := HA.out
                 clear HA
                 simp only [warplaw8_TableOne.j6] at H
                 by_cases c49 : 0 < (t132.length : Int)
                 ·
                  rw [if_pos c49] at H
                  have c49b0 : decide (0 < (t132.length : Int)) = true := decide_eq_true c49
                  have c49b1 : decide (0 < t132.length) = true := decide_eq_true (by omega)
                  clear c49
                  by_cases c50 : 0 ≤ x14_4
                  ·
                   rw [if_pos c50] at H
                   have c50b0 : decide (0 ≤ x14_4) = true := decide_eq_true c50
                   clear c50
                   by_cases c51 : x14_4 < ((rd_L4 t132 0).length : Int)
                   ·
                    rw [if_pos c51] at H
                    have c51b0 : decide (x14_4 < ((rd_L4 t132 0).length : Int)) = true := decide_eq_true c51
                    clear c51
                    by_cases c52 : (rd (rd_L4 t132 0) x14_4) = x15_29
                    ·
                     rw [if_pos c52] at H
                     have c52b0 : ((rd (rd_L4 t132 0) x14_4) == x15_29) = true := beq_iff_eq.mpr c52
                     have c52b1 : ((rd (rd_L4 t132 0) x14_4) != x15_29) = false := bne_eq_false_iff_eq.mpr c52
                     clear c52
                     have H' := Aside0.mk H
                     clear H
                     obtain ⟨Ao53, co53, eo53⟩ := Kd.N_slice HO_9.out
                     subst eo53
                     have p147 : 0 ≤ (0 : Int) := (by omega)
                     have q147 : 0 < (t132.length : Int) := of_decide_eq_true (by first | (with_reducible assumption) | assumption)
                     obtain ⟨ad147, A147_0, c147_0, e147, hx147_0, hl147_0, hi147_0⟩ := at_L4 (Kd.N_reads' HO_9.out).2.2 0 p147 q147
                     cases e147
                     obtain ⟨ce147, hce147, hMe147, hcc147⟩ := Kd.N_get HO_9.out [] 0 p147 (by first | exact q147 | exact of_decide_eq_true (by first | (with_reducible assumption) | assumption) | (have e_ := (Kd.N_reads' HO_9.out).1; omega))
                     obtain ⟨ua147_0, uc147_0, rfl, ul147_0, ge147_0⟩ := Kd.FK_slice_open hMe147
                     have hv147_0 := hcc147 0 _ rfl
                     rw [Nat.add_zero, show ((Kd.slice 3 (Kd.int .i64))).sz = 1 from rfl, Nat.mul_one] at hv147_0
                     replace hv147_0 := Option.some.inj (hv147_0.symm.trans hx147_0)
                     injection hv147_0 with hva_ hvn_ hvc_
                     rw [hva_] at ge147_0
                     rw [hvc_] at ul147_0
                     have HL147_0 := Aside0.mk (show Kd.V (Kd.int .i64) 3 _ w.heap.size _ _ (rd_L4 t132 0) from Kd.V_mk ul147_0 ge147_0)
                     clear hva_ hvn_ hvc_ ge147_0 ul147_0
                     clear hcc147 hce147
                     have qi147 : (0 < t132.length) = True := eq_true (by omega)
                     (try rw [show ((0 : Int)).toNat = 0 from rfl] at hx147_0)
                     (try rw [Addr.add_zero'] at hx147_0)
                     have HR147_0 := Aside0.mk hi147_0
                     have HC147_0 := Aside0.mk hl147_0
                     clear hi147_0 hl147_0
                     replace p147 := eq_true p147
                     replace q147 := eq_true q147
                     have p148 : 0 ≤ (x14_4 : Int) := of_decide_eq_true (by first | (with_reducible assumption) | assumption)
                     have q148 : x14_4 < ((rd_L4 t132 0).length : Int) := of_decide_eq_true (by first | (with_reducible assumption) | assumption)
                     obtain ⟨ad148, e148, hx148_0⟩ := Kd.at_int (by repeat (first | (with_reducible exact HR147_0.out) | (with_reducible refine Kd.C_alloc ?_ _) | (with_reducible refine Kd.C_drewN ?_ _) | (with_reducible refine Kd.C_drew ?_) | exact HR147_0.out)) x14_4 p148 q148
                     cases e148
                     replace p148 := eq_true p148
                     replace q148 := eq_true q148
                     go_wp2
                     go_roundg kj41
                     case measure => have := HJ3.out; have := HK2.out; have := HJ13.out; have := HK4.out; have := HJ29.out; have := HJ41.out; omega
                     case rel => exact ⟨(x13_41), (wrap64 (x14_4 + 1)), (by first | rfl | (simp; done) | (simp [*]; done)), H', ⟨by have := HJ3.out; have := HK2.out; have := HJ13.out; have := HK4.out; have := HJ29.out; have := HJ41.out; omega⟩, ⟨by (with_reducible repeat (first | apply Kd.R_alloc | apply Kd.R_drewN | apply Kd.R_drew)); exact HO_7.out⟩, ⟨by (with_reducible repeat (first | apply Kd.N_alloc | apply Kd.N_drewN | apply Kd.N_drew)); exact HO_9.out⟩, ⟨by (with_reducible repeat (first | apply Kd.R_alloc | apply Kd.R_drewN | apply Kd.R_drew)); exact HO_10.out⟩, ⟨by (with_reducible repeat (first | apply Kd.R_alloc | apply Kd.R_drewN | apply Kd.R_drew)); exact HO_13.out⟩, ⟨by repeat (first | (with_reducible first | exact HB.out | apply below_alloc | apply pw_below_drewN | apply below_drew1) | exact HB.out)⟩⟩
                    ·
                     rw [if_neg c52] at H
                     have c52b0 : ((rd (rd_L4 t132 0) x14_4) == x15_29) = false := beq_eq_false_iff_ne.mpr c52
                     have c52b1 : ((rd (rd_L4 t132 0) x14_4) != x15_29) = true := bne_iff_ne.mpr c52
                     exact absurd (hr_.symm.trans (Option.some.inj H).symm) (by decide)
                   ·
                    rw [if_neg c51] at H
                    exact absurd H (by simp)
                  ·
                   rw [if_neg c50] at H
                   exact absurd H (by simp)
                 ·
                  rw [if_neg c49] at H
                  exact absurd H (by simp)
            ·
             rw [if_neg c29] at H
             have c29b0 : decide (x14_4 < (x7_2.length : Int)) = false := decide_eq_false c29
             clear c29
             by_cases c55 : (t133.length : Int) = (x13_4.length : Int)
             ·
              rw [if_pos c55] at H
              have c55b0 : ((t133.length : Int) == (x13_4.length : Int)) = true := beq_iff_eq.mpr c55
              have c55b1 : ((t133.length : Int) != (x13_4.length : Int)) = false := bne_eq_false_iff_eq.mpr c55
              have c55b2 : (t133.length == x13_4.length) = true := by first | simpa using c55 | (simp at c55 ⊢; omega)
              clear c55
              by_cases c56 : 0 < (t132.length : Int)
              ·
               rw [if_pos c56] at H
               have c56b0 : decide (0 < (t132.length : Int)) = true := decide_eq_true c56
               have c56b1 : decide (0 < t132.length) = true := decide_eq_true (by omega)
               clear c56
               replace H := Option.bind_eq_some_iff.mp H
               obtain ⟨t151, A570, H⟩ := H
               replace H : (if t151 = true then ((warplaw8_awake.f k4).bind fun t152 => (some t152)) else (some false)) = some r := H
               have A57 := Aside0.mk A570
               clear A570
               by_cases c58 : t151 = true
               ·
                subst c58
                have H1 : ((warplaw8_awake.f k4).bind fun t152 => (some t152)) = some r := by rw [if_pos rfl] at H; exact H
                clear H
                have H := H1
                clear H1
                replace H := Option.bind_eq_some_iff.mp H
                obtain ⟨t152, A590, H⟩ := H
                replace H : (some t152) = some r := H
                have A59 := Aside0.mk A590
                clear A590
                obtain rfl := Option.some.inj H
                try go_wp2
                have n0_ := Aside0.mk (Kd.R_drew HO_7.out)
                have n1_ := Aside0.mk (Kd.N_drew HO_9.out)
                have n2_ := Aside0.mk (Kd.R_drew HO_10.out)
                have n3_ := Aside0.mk (Kd.R_drew HO_13.out)
                have n4_ := Aside0.mk (below_drew1 HB.out)
                clear HO_7
                clear HO_9
                clear HO_10
                clear HO_13
                clear HB
                have HO_7 := n0_
                have HO_9 := n1_
                have HO_10 := n2_
                have HO_13 := n3_
                have HB := n4_
                clear n0_ n1_ n2_ n3_ n4_
                obtain ⟨Ao61, co61, eo61⟩ := Kd.R_slice HO_10.out
                (first | subst eo61 | (injection eo61 with f1_ f2_ f3_; have f4_ := f1_.symm; have f5_ := f3_.symm; clear f1_ f2_ f3_; subst f4_; subst f5_))
                obtain ⟨Ao62, co62, eo62⟩ := Kd.R_slice HO_13.out
                (first | subst eo62 | (injection eo62 with f1_ f2_ f3_; have f4_ := f1_.symm; have f5_ := f3_.symm; clear f1_ f2_ f3_; subst f4_; subst f5_))
                obtain ⟨Ao63, co63, eo63⟩ := Kd.N_slice HO_9.out
                (first | subst eo63 | (injection eo63 with f1_ f2_ f3_; have f4_ := f1_.symm; have f5_ := f3_.symm; clear f1_ f2_ f3_; subst f4_; subst f5_))
                have p149 : 0 ≤ (0 : Int) := (by omega)
                have q149 : 0 < (t132.length : Int) := of_decide_eq_true (by first | (with_reducible assumption) | assumption)
                obtain ⟨ad149, A149_0, c149_0, e149, hx149_0, hl149_0, hi149_0⟩ := at_L4 (Kd.N_reads' HO_9.out).2.2 0 p149 q149
                cases e149
                obtain ⟨ce149, hce149, hMe149, hcc149⟩ := Kd.N_get HO_9.out [] 0 p149 (by first | exact q149 | exact of_decide_eq_true (by first | (with_reducible assumption) | assumption) | (have e_ := (Kd.N_reads' HO_9.out).1; omega))
                obtain ⟨ua149_0, uc149_0, rfl, ul149_0, ge149_0⟩ := Kd.FK_slice_open hMe149
                have hv149_0 := hcc149 0 _ rfl
                rw [Nat.add_zero, show ((Kd.slice 3 (Kd.int .i64))).sz = 1 from rfl, Nat.mul_one] at hv149_0
                replace hv149_0 := Option.some.inj (hv149_0.symm.trans hx149_0)
                injection hv149_0 with hva_ hvn_ hvc_
                rw [hva_] at ge149_0
                rw [hvc_] at ul149_0
                have HL149_0 := Aside0.mk (show Kd.V (Kd.int .i64) 3 _ w.heap.size _ _ (rd_L4 t132 0) from Kd.V_mk ul149_0 ge149_0)
                clear hva_ hvn_ hvc_ ge149_0 ul149_0
                clear hcc149 hce149
                have qi149 : (0 < t132.length) = True := eq_true (by omega)
                (try rw [show ((0 : Int)).toNat = 0 from rfl] at hx149_0)
                (try rw [Addr.add_zero'] at hx149_0)
                have HR149_0 := Aside0.mk hi149_0
                have HC149_0 := Aside0.mk hl149_0
                clear hi149_0 hl149_0
                replace p149 := eq_true p149
                replace q149 := eq_true q149
                have p150 : 0 ≤ (0 : Int) := (by omega)
                have q150 : 0 < (t132.length : Int) := of_decide_eq_true (by first | (with_reducible assumption) | assumption)
                obtain ⟨ad150, A150_0, c150_0, e150, hx150_0, hl150_0, hi150_0⟩ := at_L4 (Kd.N_reads' HO_9.out).2.2 0 p150 q150
                obtain rfl : ad149 = ad150 := (by injection e150)
                obtain ⟨ce150, hce150, hMe150, hcc150⟩ := Kd.N_get HO_9.out [] 0 p150 (by first | exact q150 | exact of_decide_eq_true (by first | (with_reducible assumption) | assumption) | (have e_ := (Kd.N_reads' HO_9.out).1; omega))
                obtain ⟨ua150_0, uc150_0, rfl, ul150_0, ge150_0⟩ := Kd.FK_slice_open hMe150
                have hv150_0 := hcc150 0 _ rfl
                rw [Nat.add_zero, show ((Kd.slice 3 (Kd.int .i64))).sz = 1 from rfl, Nat.mul_one] at hv150_0
                replace hv150_0 := Option.some.inj (hv150_0.symm.trans hx150_0)
                injection hv150_0 with hva_ hvn_ hvc_
                rw [hva_] at ge150_0
                rw [hvc_] at ul150_0
                have HL150_0 := Aside0.mk (show Kd.V (Kd.int .i64) 3 _ w.heap.size _ _ (rd_L4 t132 0) from Kd.V_mk ul150_0 ge150_0)
                clear hva_ hvn_ hvc_ ge150_0 ul150_0
                clear hcc150 hce150
                have qi150 : (0 < t132.length) = True := eq_true (by omega)
                (try rw [show ((0 : Int)).toNat = 0 from rfl] at hx150_0)
                (try rw [Addr.add_zero'] at hx150_0)
                have HR150_0 := Aside0.mk hi150_0
                have HC150_0 := Aside0.mk hl150_0
                clear hi150_0 hl150_0
                replace p150 := eq_true p150
                replace q150 := eq_true q150
                have ea_ := Option.some.inj (hx149_0.symm.trans hx150_0)
                injection ea_ with ea_ en_ ec_
                subst ea_
                subst ec_
                clear en_
                refine start_ (n := 18) (S := fun w' => w'.cell? ad149 = some (.slice A149_0 (rd_L4 t132 0).length c149_0) ∧ w'.cell? ad149 = some (.slice A149_0 (rd_L4 t132 0).length c149_0)) (ds := []) #[false, false, false, false, false, false, false, false, false, false, false, false, false, false, false, false, false, false] (by kernel_rfl) rfl rfl ⟨hx149_0, hx150_0⟩ (fun hHeld => ?_); refine with_tabW warplaw8_TableOne.tab22 warplaw8_TableOne.bits22 (fun HT_ HW_ => ?_)
                generalize wr.drew = w60 at HO_7 HO_9 HO_10 HO_13 HB HL149_0 HL150_0 HR149_0 HR150_0 hx149_0 hx150_0 hHeld ⊢
                refine pure_ (i := 0) (N := some 119) (v := ?_) (a' := ?_) #[true, false, false, false, false, false, false, false, false, false, false, false, false, false, false, false, false, false] rfl rfl (any_of HT_.out (by kernel_rfl)) (fun _ _ _ h => h) (Or.inl ⟨by rfl, ?_⟩) ?_ ?_
                rotate_left
                ·
                 intro w'
                 go_simp
                 with_reducible rfl
                rotate_left
                ·
                 simp only [Act.put, List.setIfInBounds_toArray, List.set_cons_zero, List.set_cons_succ, i64_w, i32_w]
                 rfl
                refine pure_ (i := 1) (N := some 120) (v := ?_) (a' := ?_) #[true, true, false, false, false, false, false, false, false, false, false, false, false, false, false, false, false, false] rfl rfl (any_of HT_.out (by kernel_rfl)) (fun _ _ _ h => h) (Or.inl ⟨by rfl, ?_⟩) ?_ ?_
                rotate_left
                ·
                 intro w'
                 go_simp
                 with_reducible rfl
                rotate_left
                ·
                 simp only [Act.put, List.setIfInBounds_toArray, List.set_cons_zero, List.set_cons_succ, i64_w, i32_w]
                 rfl
                refine pure_ (i := 2) (N := some 121) (v := ?_) (a' := ?_) #[true, true, true, false, false, false, false, false, false, false, false, false, false, false, false, false, false, false] rfl rfl (any_of HT_.out (by kernel_rfl)) (fun _ _ _ h => h) (Or.inl ⟨by rfl, ?_⟩) ?_ ?_
                rotate_left
                ·
                 intro w'
                 go_simp
                 with_reducible rfl
                rotate_left
                ·
                 simp only [Act.put, List.setIfInBounds_toArray, List.set_cons_zero, List.set_cons_succ, i64_w, i32_w]
                 rfl
                refine pure_ (i := 3) (N := some 122) (v := ?_) (a' := ?_) #[true, true, true, true, false, false, false, false, false, false, false, false, false, false, false, false, false, false] rfl rfl (any_of HT_.out (by kernel_rfl)) (fun _ _ _ h => h) (Or.inl ⟨by rfl, ?_⟩) ?_ ?_
                rotate_left
                ·
                 intro w'
                 go_simp
                 with_reducible rfl
                rotate_left
                ·
                 simp only [Act.put, List.setIfInBounds_toArray, List.set_cons_zero, List.set_cons_succ, i64_w, i32_w]
                 rfl
                refine pure_ (i := 4) (N := some 123) (v := ?_) (a' := ?_) #[true, true, true, true, true, false, false, false, false, false, false, false, false, false, false, false, false, false] rfl rfl (any_of HT_.out (by kernel_rfl)) (fun _ _ _ h => h) (Or.inl ⟨by rfl, ?_⟩) ?_ ?_
                rotate_left
                ·
                 intro w'
                 go_simp
                 with_reducible rfl
                rotate_left
                ·
                 simp only [Act.put, List.setIfInBounds_toArray, List.set_cons_zero, List.set_cons_succ, i64_w, i32_w]
                 rfl
                refine pure_ (i := 5) (N := some 124) (v := ?_) (a' := ?_) #[true, true, true, true, true, true, false, false, false, false, false, false, false, false, false, false, false, false] rfl rfl (any_of HT_.out (by kernel_rfl)) (fun _ _ _ h => h) (Or.inl ⟨by rfl, ?_⟩) ?_ ?_
                rotate_left
                ·
                 intro w'
                 go_simp
                 with_reducible rfl
                rotate_left
                ·
                 simp only [Act.put, List.setIfInBounds_toArray, List.set_cons_zero, List.set_cons_succ, i64_w, i32_w]
                 rfl
                refine pure_ (i := 6) (N := some 125) (v := ?_) (a' := ?_) #[true, true, true, true, true, true, true, false, false, false, false, false, false, false, false, false, false, false] rfl rfl (any_of HT_.out (by kernel_rfl)) (fun _ _ _ h => h) (Or.inl ⟨by rfl, ?_⟩) ?_ ?_
                rotate_left
                ·
                 intro w'
                 go_simp
                 with_reducible rfl
                rotate_left
                ·
                 simp only [Act.put, List.setIfInBounds_toArray, List.set_cons_zero, List.set_cons_succ, i64_w, i32_w]
                 rfl
                refine pure_ (i := 7) (N := some 126) (v := ?_) (a' := ?_) #[true, true, true, true, true, true, true, true, false, false, false, false, false, false, false, false, false, false] rfl rfl (any_of HT_.out (by kernel_rfl)) (fun _ _ _ h => h) (Or.inl ⟨by rfl, ?_⟩) ?_ ?_
                rotate_left
                ·
                 intro w'
                 go_simp
                 with_reducible rfl
                rotate_left
                ·
                 simp only [Act.put, List.setIfInBounds_toArray, List.set_cons_zero, List.set_cons_succ, i64_w, i32_w]
                 rfl
                refine pure_ (i := 9) (N := some 128) (v := ?_) (a' := ?_) #[true, true, true, true, true, true, true, true, false, true, false, false, false, false, false, false, false, false] rfl rfl (any_of HT_.out (by kernel_rfl)) (fun _ _ _ h => h) (Or.inl ⟨by rfl, ?_⟩) ?_ ?_
                rotate_left
                ·
                 intro w'
                 go_simp
                 with_reducible rfl
                rotate_left
                ·
                 simp only [Act.put, List.setIfInBounds_toArray, List.set_cons_zero, List.set_cons_succ, i64_w, i32_w]
                 rfl
                refine pure_ (i := 10) (N := some 129) (v := ?_) (a' := ?_) #[true, true, true, true, true, true, true, true, false, true, true, false, false, false, false, false, false, false] rfl rfl (any_of HT_.out (by kernel_rfl)) (fun _ _ _ h => h) (Or.inl ⟨by rfl, ?_⟩) ?_ ?_
                rotate_left
                ·
                 intro w'
                 go_simp
                 with_reducible rfl
                rotate_left
                ·
                 simp only [Act.put, List.setIfInBounds_toArray, List.set_cons_zero, List.set_cons_succ, i64_w, i32_w]
                 rfl
                refine take_ (i := 8) (N := some 127) (v := ?_) (a' := ?_) #[true, true, true, true, true, true, true, true, true, true, true, false, false, false, false, false, false, false] rfl rfl (take_ofW HT_.out HW_.out (by kernel_rfl)) (fun _ _ _ h => h) (Or.inl ⟨by rfl, ?_⟩) hHeld ?_ ?_
                rotate_left
                ·
                 rintro w' ⟨s0, s1⟩
                 go_simp
                 with_reducible rfl
                rotate_left
                ·
                 simp only [Act.put, List.setIfInBounds_toArray, List.set_cons_zero, List.set_cons_succ, i64_w, i32_w]
                 rfl
                refine take_ (i := 11) (N := some 130) (v := ?_) (a' := ?_) #[true, true, true, true, true, true, true, true, true, true, true, true, false, false, false, false, false, false] rfl rfl (take_ofW HT_.out HW_.out (by kernel_rfl)) (fun _ _ _ h => h) (Or.inl ⟨by rfl, ?_⟩) hHeld ?_ ?_
                rotate_left
                ·
                 rintro w' ⟨s0, s1⟩
                 go_simp
                 with_reducible rfl
                rotate_left
                ·
                 simp only [Act.put, List.setIfInBounds_toArray, List.set_cons_zero, List.set_cons_succ, i64_w, i32_w]
                 rfl
                refine one_ (i := 12) (N := some 131) #[true, true, true, true, true, true, true, true, true, true, true, true, true, false, false, false, false, false] rfl rfl (one_of HT_.out (by kernel_rfl)) (by decide) (fun K hK => ?_)
                refine goes_ Tryd.func14 (by kernel_rfl) rfl #[.slice A149_0 (rd_L4 t132 0).length c149_0, .slice A149_0 (rd_L4 t132 0).length c149_0] (by rfl) rfl rfl (by (try simp only [List.map_toArray, List.map_cons, List.map_nil]); first | done | rfl | (simp only [List.length_drop, List.length_take]; rfl)) ?_
                with_reducible refine (warpref1_Ints.calls k4 _ _ (rd_L4 t132 0) _ _ (rd_L4 t132 0) true _ ?side1 ?side2 ?side3 ?side4 A57.out).mono ?_
                (case side1 => repeat (first | exact (by repeat (first | (with_reducible exact HR149_0.out) | (with_reducible refine Kd.C_alloc ?_ _) | (with_reducible refine Kd.C_drewN ?_ _) | (with_reducible refine Kd.C_drew ?_) | exact HR149_0.out)) | (with_reducible refine Kd.C_alloc ?_ _) | (with_reducible refine Kd.C_drewN ?_ _) | (with_reducible refine Kd.C_drew ?_)))
                (case side2 => exact HC149_0.out)
                (case side3 => repeat (first | exact (by repeat (first | (with_reducible exact HR150_0.out) | (with_reducible refine Kd.C_alloc ?_ _) | (with_reducible refine Kd.C_drewN ?_ _) | (with_reducible refine Kd.C_drew ?_) | exact HR150_0.out)) | (with_reducible refine Kd.C_alloc ?_ _) | (with_reducible refine Kd.C_drewN ?_ _) | (with_reducible refine Kd.C_drew ?_)))
                (case side4 => exact HC150_0.out)
                rintro e w' ⟨rfl, ⟨nd, rfl⟩⟩
                refine ⟨_, rfl, ?_⟩
                refine hK.out _ _ ⟨hHeld.1, hHeld.2⟩ (fun hHeld => ?_)
                clear hK K
                refine norm_ (a' := ?_) ?_ ?_
                rotate_left
                ·
                 show Act.put _ (some 131) _ = _
                 simp only [Act.put, List.setIfInBounds_toArray, List.set_cons_zero, List.set_cons_succ, i64_w, i32_w]
                 rfl
                refine pure_ (i := 13) (N := some 132) (v := ?_) (a' := ?_) #[true, true, true, true, true, true, true, true, true, true, true, true, true, true, false, false, false, false] rfl rfl (any_of HT_.out (by kernel_rfl)) (fun _ _ _ h => h) (Or.inl ⟨by rfl, ?_⟩) ?_ ?_
                rotate_left
                ·
                 intro w'
                 go_simp
                 with_reducible rfl
                rotate_left
                ·
                 simp only [Act.put, List.setIfInBounds_toArray, List.set_cons_zero, List.set_cons_succ, i64_w, i32_w]
                 rfl
                refine pure_ (i := 14) (N := some 133) (v := ?_) (a' := ?_) #[true, true, true, true, true, true, true, true, true, true, true, true, true, true, true, false, false, false] rfl rfl (any_of HT_.out (by kernel_rfl)) (fun _ _ _ h => h) (Or.inl ⟨by rfl, ?_⟩) ?_ ?_
                rotate_left
                ·
                 intro w'
                 go_simp
                 with_reducible rfl
                rotate_left
                ·
                 simp only [Act.put, List.setIfInBounds_toArray, List.set_cons_zero, List.set_cons_succ, i64_w, i32_w]
                 rfl
                refine one_ (i := 15) (N := some 134) #[true, true, true, true, true, true, true, true, true, true, true, true, true, true, true, true, false, false] rfl rfl (one_of HT_.out (by kernel_rfl)) (by decide) (fun K hK => ?_)
                refine goes_ Tryd.func8 (by kernel_rfl) rfl #[] (by rfl) rfl rfl (by (try simp only [List.map_toArray, List.map_cons, List.map_nil]); first | done | rfl | (simp only [List.length_drop, List.length_take]; rfl)) ?_
                with_reducible refine (warplaw8_awake.calls k4  t152 _ A59.out).mono ?_
                rintro e w64 ⟨rfl, hb⟩
                have HS0_ := (hb.cell (World.block_lt_of_cell? _ _ (hHeld.1))).trans (hHeld.1)
                have HS1_ := (hb.cell (World.block_lt_of_cell? _ _ (hHeld.2))).trans (hHeld.2)
                refine ⟨_, rfl, ?_⟩
                have n0_ := Aside0.mk (Kd.R_below (by (with_reducible repeat (first | apply Kd.R_alloc | apply Kd.R_drewN | apply Kd.R_drew)); exact HO_7.out) hb)
                have n1_ := Aside0.mk (Kd.N_below (by (with_reducible repeat (first | apply Kd.N_alloc | apply Kd.N_drewN | apply Kd.N_drew)); exact HO_9.out) hb)
                have n2_ := Aside0.mk (Kd.R_below (by (with_reducible repeat (first | apply Kd.R_alloc | apply Kd.R_drewN | apply Kd.R_drew)); exact HO_10.out) hb)
                have n3_ := Aside0.mk (Kd.R_below (by (with_reducible repeat (first | apply Kd.R_alloc | apply Kd.R_drewN | apply Kd.R_drew)); exact HO_13.out) hb)
                have n4_ := Aside0.mk (Kd.V_below (by (with_reducible repeat (first | apply Kd.V_alloc | apply Kd.V_drewN | apply Kd.V_drew)); exact HL149_0.out) hb)
                have n5_ := Aside0.mk (Kd.V_below (by (with_reducible repeat (first | apply Kd.V_alloc | apply Kd.V_drewN | apply Kd.V_drew)); exact HL150_0.out) hb)
                have n6_ := Aside0.mk (Kd.C_below (by repeat (first | (with_reducible exact HR149_0.out) | (with_reducible refine Kd.C_alloc ?_ _) | (with_reducible refine Kd.C_drewN ?_ _) | (with_reducible refine Kd.C_drew ?_) | exact HR149_0.out)) hb)
                have n7_ := Aside0.mk (Kd.C_below (by repeat (first | (with_reducible exact HR150_0.out) | (with_reducible refine Kd.C_alloc ?_ _) | (with_reducible refine Kd.C_drewN ?_ _) | (with_reducible refine Kd.C_drew ?_) | exact HR150_0.out)) hb)
                have n8_ := Aside0.mk (below_step (by repeat (first | (with_reducible first | exact HB.out | apply below_alloc | apply pw_below_drewN | apply below_drew1) | exact HB.out)) hb)
                clear HO_7
                clear HO_9
                clear HO_10
                clear HO_13
                clear HL149_0
                clear HL150_0
                clear HR149_0
                clear HR150_0
                clear HB
                have HO_7 := n0_
                have HO_9 := n1_
                have HO_10 := n2_
                have HO_13 := n3_
                have HL149_0 := n4_
                have HL150_0 := n5_
                have HR149_0 := n6_
                have HR150_0 := n7_
                have HB := n8_
                clear n0_ n1_ n2_ n3_ n4_ n5_ n6_ n7_ n8_
                (try clear hb)
                (try clear hb2)
                (try clear hk)
                (try clear hi)
                refine hK.out _ _ ⟨HS0_, HS1_⟩ (fun hHeld => ?_)
                clear hK K
                refine norm_ (a' := ?_) ?_ ?_
                rotate_left
                ·
                 show Act.put _ (some 134) _ = _
                 simp only [Act.put, List.setIfInBounds_toArray, List.set_cons_zero, List.set_cons_succ, i64_w, i32_w]
                 rfl
                refine pure_ (i := 16) (N := some 135) (v := ?_) (a' := ?_) #[true, true, true, true, true, true, true, true, true, true, true, true, true, true, true, true, true, false] rfl rfl (any_of HT_.out (by kernel_rfl)) (fun _ _ _ h => h) (Or.inl ⟨by rfl, ?_⟩) ?_ ?_
                rotate_left
                ·
                 intro w'
                 go_simp
                 with_reducible rfl
                rotate_left
                ·
                 simp only [Act.put, List.setIfInBounds_toArray, List.set_cons_zero, List.set_cons_succ, i64_w, i32_w]
                 rfl
                refine pure_ (i := 17) (N := some 6) (v := ?_) (a' := ?_) #[true, true, true, true, true, true, true, true, true, true, true, true, true, true, true, true, true, true] rfl rfl (any_of HT_.out (by kernel_rfl)) (fun _ _ _ h => h) (Or.inl ⟨by rfl, ?_⟩) ?_ ?_
                rotate_left
                ·
                 intro w'
                 go_simp
                 with_reducible rfl
                rotate_left
                ·
                 simp only [Act.put, List.setIfInBounds_toArray, List.set_cons_zero, List.set_cons_succ, i64_w, i32_w]
                 rfl
                refine done_ (done_of HT_.out (by kernel_rfl)) ?_
                try go_wp2
                go_ret
                exact ⟨by first | rfl | (simp [errW_none, errW_some] <;> rfl) | (simp [*, errW_none, errW_some] <;> rfl), by repeat (first | (with_reducible first | exact HB.out | apply below_alloc | apply pw_below_drewN | apply below_drew1) | exact HB.out)⟩
               ·
                replace c58 := Bool.eq_false_iff.mpr c58
                subst c58
                have H1 : (some false) = some r := by rw [if_neg (show ¬ (false = true) by decide)] at H; exact H
                clear H
                have H := H1
                clear H1
                exact absurd (hr_.symm.trans (Option.some.inj H).symm) (by decide)
              ·
               rw [if_neg c56] at H
               exact absurd H (by simp)
             ·
              rw [if_neg c55] at H
              have c55b0 : ((t133.length : Int) == (x13_4.length : Int)) = false := beq_eq_false_iff_ne.mpr c55
              have c55b1 : ((t133.length : Int) != (x13_4.length : Int)) = true := bne_iff_ne.mpr c55
              have c55b2 : (t133.length == x13_4.length) = false := by first | simpa using c55 | (simp at c55 ⊢; omega)
              exact absurd (hr_.symm.trans (Option.some.inj H).symm) (by decide)

/-- The one plain statement of warplaw8_TableOne. -/
def warplaw8_TableOne.Pure : Prop := ∀ (l0 : List Int) (a1 : Int) (l2 : List Int), ((fun l : List Int => l.length ≤ maxLen ∧ ∀ x ∈ l, (fun n : Int => (Lit.int .u8 n).wf = true) x) l0) → ((fun n : Int => (Lit.int .u8 n).wf = true) a1) → ((fun l : List Int => l.length ≤ maxLen ∧ ∀ x ∈ l, (fun n : Int => (Lit.int .i64 n).wf = true) x) l2) → ∃ k, warplaw8_TableOne.f k l0 a1 l2 = some true

end Go.Proofs.YtmgfkdnoclmbgaaDoor.P
