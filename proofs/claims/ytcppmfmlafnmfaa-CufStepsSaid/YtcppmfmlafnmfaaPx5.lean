/-
The plain Lean functions of Go functions of this seat, and proofs that the calls of the machine come to them; no condition beside those named in each theorem.
-/
import Derived.Test.YtcppmfmlafnmfaaPx0
import Derived.Test.YtcppmfmlafnmfaaPx1
import Derived.Test.YtcppmfmlafnmfaaPx2
import Derived.Test.YtcppmfmlafnmfaaPx3
import Derived.Test.YtcppmfmlafnmfaaPx4
import Derived.Test.YtcppmfmlafnmfaaStubA
namespace Go.Proofs.Ytcppmfmlafnmfaa.P
open Go.RowKit Go.Proofs.YtcppmfmlafnmfaaW.PrintWords Go.Proofs.YtcppmfmlafnmfaaW.PrintLast Go.Proofs.YtcppmfmlafnmfaaW.PrintMore
attribute [local go_sem] max2_int min2_int max_two min_two max_three min_three max_four min_four   -- for this text's walks alone
set_option linter.unusedVariables false
set_option linter.unusedSimpArgs false

attribute [local go_sem high] eqA31
/-! ### warplaw4_CufSteps: function 5 -/
mutual
def warplaw4_CufSteps.j0 : Nat → List Int → List Int → List Int → List Int → List Int → List Int → Int → Bool → Option (Bool)
 | 0, _, _, _, _, _, _, _, _ => none
 | k + 1, x0, x1, x2, x3, x4, x5, x13, x49 => if x49 = true then ((warplaw4_awake.f).bind fun t164 => (some t164)) else ((warplaw4_Prio.f k x1 x13).bind fun t165 => ((warplaw4_Cells.f k x0 t165).bind fun t168 => (if 0 < (x2.length : Int) then (if 1 < (x2.length : Int) then (if 2 < (x2.length : Int) then ((warplaw4_op.f (rd x2 0) (rd x2 1) (rd x2 2) x13).bind fun bt174 => ((warpref1_Begin.f bt174.1 bt174.2.1 bt174.2.2 x13).bind fun bt177 => (if 0 < (x3.length : Int) then (if 1 < (x3.length : Int) then (if 2 < (x3.length : Int) then ((warplaw4_op.f (rd x3 0) (rd x3 1) (rd x3 2) x13).bind fun bt191 => ((warpref1_Begin.f bt191.1 bt191.2.1 bt191.2.2 x13).bind fun bt194 => (if 0 < (x4.length : Int) then (if 1 < (x4.length : Int) then (if 2 < (x4.length : Int) then ((warplaw4_op.f (rd x4 0) (rd x4 1) (rd x4 2) x13).bind fun bt208 => ((warpref1_Begin.f bt208.1 bt208.2.1 bt208.2.2 x13).bind fun bt211 => (warplaw4_CufSteps.l0 k x5 t165 t168 (([(⟨(⟨bt177.1, bt177.2.1, bt177.2.2.1⟩ : S28), bt177.2.2.2.1, bt177.2.2.2.2.1, bt177.2.2.2.2.2.1, bt177.2.2.2.2.2.2.1, bt177.2.2.2.2.2.2.2.1, bt177.2.2.2.2.2.2.2.2.1, bt177.2.2.2.2.2.2.2.2.2.1⟩ : S31), (⟨(⟨bt194.1, bt194.2.1, bt194.2.2.1⟩ : S28), bt194.2.2.2.1, bt194.2.2.2.2.1, bt194.2.2.2.2.2.1, bt194.2.2.2.2.2.2.1, bt194.2.2.2.2.2.2.2.1, bt194.2.2.2.2.2.2.2.2.1, bt194.2.2.2.2.2.2.2.2.2.1⟩ : S31), (⟨(⟨bt211.1, bt211.2.1, bt211.2.2.1⟩ : S28), bt211.2.2.2.1, bt211.2.2.2.2.1, bt211.2.2.2.2.2.1, bt211.2.2.2.2.2.2.1, bt211.2.2.2.2.2.2.2.1, bt211.2.2.2.2.2.2.2.2.1, bt211.2.2.2.2.2.2.2.2.2.1⟩ : S31)] : List (S31))) 0))) else (none)) else (none)) else (none)))) else (none)) else (none)) else (none)))) else (none)) else (none)) else (none))))
def warplaw4_CufSteps.l0 : Nat → List Int → List Int → List Int → List (S31) → Int → Option (Bool)
 | 0, _, _, _, _, _ => none
 | k + 1, x5, x14, x15, x16, x17 => if x17 < (x5.length : Int) then (if 0 ≤ x17 then ((some (([] : List Int) : List Int)).bind fun y226 => (if y226.length + x15.length < 17592186044416 then (if 0 ≤ (Int.tmod (wrap64 (rd x5 x17)) 3) then (if (Int.tmod (wrap64 (rd x5 x17)) 3) < (x16.length : Int) then ((cuf_Step.f x15 x14 ((rd_T31 x16 (Int.tmod (wrap64 (rd x5 x17)) 3)).f0.f0) ((rd_T31 x16 (Int.tmod (wrap64 (rd x5 x17)) 3)).f0.f1) ((rd_T31 x16 (Int.tmod (wrap64 (rd x5 x17)) 3)).f0.f2) ((rd_T31 x16 (Int.tmod (wrap64 (rd x5 x17)) 3)).f1) ((rd_T31 x16 (Int.tmod (wrap64 (rd x5 x17)) 3)).f2) ((rd_T31 x16 (Int.tmod (wrap64 (rd x5 x17)) 3)).f3) ((rd_T31 x16 (Int.tmod (wrap64 (rd x5 x17)) 3)).f4) ((rd_T31 x16 (Int.tmod (wrap64 (rd x5 x17)) 3)).f5) ((rd_T31 x16 (Int.tmod (wrap64 (rd x5 x17)) 3)).f6) ((rd_T31 x16 (Int.tmod (wrap64 (rd x5 x17)) 3)).f7)).bind fun bt233 => ((warpref1_Step.f x15 x14 ((rd_T31 x16 (Int.tmod (wrap64 (rd x5 x17)) 3)).f0.f0) ((rd_T31 x16 (Int.tmod (wrap64 (rd x5 x17)) 3)).f0.f1) ((rd_T31 x16 (Int.tmod (wrap64 (rd x5 x17)) 3)).f0.f2) ((rd_T31 x16 (Int.tmod (wrap64 (rd x5 x17)) 3)).f1) ((rd_T31 x16 (Int.tmod (wrap64 (rd x5 x17)) 3)).f2) ((rd_T31 x16 (Int.tmod (wrap64 (rd x5 x17)) 3)).f3) ((rd_T31 x16 (Int.tmod (wrap64 (rd x5 x17)) 3)).f4) ((rd_T31 x16 (Int.tmod (wrap64 (rd x5 x17)) 3)).f5) ((rd_T31 x16 (Int.tmod (wrap64 (rd x5 x17)) 3)).f6) ((rd_T31 x16 (Int.tmod (wrap64 (rd x5 x17)) 3)).f7)).bind fun bt248 => ((warpref1_Ints.f k bt233.1 bt248.1).bind fun t262 => (if t262 = true then (if ((!(bt233.2.1 == bt248.2.1) || (!(bt233.2.2.1 == bt248.2.2.1) || (!(bt233.2.2.2.1 == bt248.2.2.2.1)))) || (!(bt233.2.2.2.2.1 == bt248.2.2.2.2.1) || (!(bt233.2.2.2.2.2.1 == bt248.2.2.2.2.2.1) || (!(bt233.2.2.2.2.2.2.1 == bt248.2.2.2.2.2.2.1) || (!(bt233.2.2.2.2.2.2.2.1 == bt248.2.2.2.2.2.2.2.1) || (!(bt233.2.2.2.2.2.2.2.2.1 == bt248.2.2.2.2.2.2.2.2.1) || (!(bt233.2.2.2.2.2.2.2.2.2.1 == bt248.2.2.2.2.2.2.2.2.2.1) || (!(bt233.2.2.2.2.2.2.2.2.2.2 == bt248.2.2.2.2.2.2.2.2.2.2))))))))) = true then (warplaw4_CufSteps.j2 k x5 x14 x16 x17 (Int.tmod (wrap64 (rd x5 x17)) 3) true bt248.1 bt248.2.1 bt248.2.2.1 bt248.2.2.2.1 bt248.2.2.2.2.1 bt248.2.2.2.2.2.1 bt248.2.2.2.2.2.2.1 bt248.2.2.2.2.2.2.2.1 bt248.2.2.2.2.2.2.2.2.1 bt248.2.2.2.2.2.2.2.2.2.1 bt248.2.2.2.2.2.2.2.2.2.2) else ((warpref1_Ints.f k x15 (y226 ++ x15)).bind fun t263 => (if t263 = true then ((cuf_May.f k bt233.1 x14).bind fun t264 => (warplaw4_CufSteps.j2 k x5 x14 x16 x17 (Int.tmod (wrap64 (rd x5 x17)) 3) (!t264) bt248.1 bt248.2.1 bt248.2.2.1 bt248.2.2.2.1 bt248.2.2.2.2.1 bt248.2.2.2.2.2.1 bt248.2.2.2.2.2.2.1 bt248.2.2.2.2.2.2.2.1 bt248.2.2.2.2.2.2.2.2.1 bt248.2.2.2.2.2.2.2.2.2.1 bt248.2.2.2.2.2.2.2.2.2.2)) else (warplaw4_CufSteps.j2 k x5 x14 x16 x17 (Int.tmod (wrap64 (rd x5 x17)) 3) true bt248.1 bt248.2.1 bt248.2.2.1 bt248.2.2.2.1 bt248.2.2.2.2.1 bt248.2.2.2.2.2.1 bt248.2.2.2.2.2.2.1 bt248.2.2.2.2.2.2.2.1 bt248.2.2.2.2.2.2.2.2.1 bt248.2.2.2.2.2.2.2.2.2.1 bt248.2.2.2.2.2.2.2.2.2.2)))) else (warplaw4_CufSteps.j2 k x5 x14 x16 x17 (Int.tmod (wrap64 (rd x5 x17)) 3) true bt248.1 bt248.2.1 bt248.2.2.1 bt248.2.2.2.1 bt248.2.2.2.2.1 bt248.2.2.2.2.2.1 bt248.2.2.2.2.2.2.1 bt248.2.2.2.2.2.2.2.1 bt248.2.2.2.2.2.2.2.2.1 bt248.2.2.2.2.2.2.2.2.2.1 bt248.2.2.2.2.2.2.2.2.2.2))))) else (none)) else (none)) else (none))) else (none)) else ((warplaw4_awake.f).bind fun t266 => (some t266))
def warplaw4_CufSteps.j2 : Nat → List Int → List Int → List (S31) → Int → Int → Bool → List Int → Int → Int → Int → Int → Int → Int → Int → Int → Bool → Int → Option (Bool)
 | 0, _, _, _, _, _, _, _, _, _, _, _, _, _, _, _, _, _ => none
 | k + 1, x5, x14, x16, x17, x18, x154, x262000, x262001, x262002, x262003, x262004, x262005, x262006, x262007, x262008, x262009, x262010 => if x154 = true then (some false) else (if 0 ≤ x18 then (if x18 < (x16.length : Int) then (warplaw4_CufSteps.l0 k x5 x14 x262000 (x16.set (x18 : Int).toNat (⟨(⟨x262001, x262002, x262003⟩ : S28), x262004, x262005, x262006, x262007, x262008, x262009, x262010⟩ : S31)) (wrap64 (x17 + 1))) else (none)) else (none))
end
def warplaw4_CufSteps.f (k : Nat) (l0 : List Int) (l1 : List Int) (l2 : List Int) (l3 : List Int) (l4 : List Int) (l5 : List Int) : Option (Bool) := if (l0.length : Int) > 60 then (warplaw4_CufSteps.j0 k l0 l1 l2 l3 l4 l5 (1 + ((l1.length : Int) % 16)) true) else (if (l2.length : Int) < 3 then (warplaw4_CufSteps.j0 k l0 l1 l2 l3 l4 l5 (1 + ((l1.length : Int) % 16)) true) else (if (l3.length : Int) < 3 then (warplaw4_CufSteps.j0 k l0 l1 l2 l3 l4 l5 (1 + ((l1.length : Int) % 16)) true) else (if (l4.length : Int) < 3 then (warplaw4_CufSteps.j0 k l0 l1 l2 l3 l4 l5 (1 + ((l1.length : Int) % 16)) true) else (warplaw4_CufSteps.j0 k l0 l1 l2 l3 l4 l5 (1 + ((l1.length : Int) % 16)) (decide ((l5.length : Int) > 100))))))
theorem warplaw4_CufSteps.mono_l : ∀ k, (∀ y0 y1 y2 y3 y4 y5 y6 y7, LeO (warplaw4_CufSteps.j0 k y0 y1 y2 y3 y4 y5 y6 y7) (warplaw4_CufSteps.j0 (k + 1) y0 y1 y2 y3 y4 y5 y6 y7)) ∧ (∀ y0 y1 y2 y3 y4, LeO (warplaw4_CufSteps.l0 k y0 y1 y2 y3 y4) (warplaw4_CufSteps.l0 (k + 1) y0 y1 y2 y3 y4)) ∧ (∀ y0 y1 y2 y3 y4 y5 y6 y7 y8 y9 y10 y11 y12 y13 y14 y15 y16, LeO (warplaw4_CufSteps.j2 k y0 y1 y2 y3 y4 y5 y6 y7 y8 y9 y10 y11 y12 y13 y14 y15 y16) (warplaw4_CufSteps.j2 (k + 1) y0 y1 y2 y3 y4 y5 y6 y7 y8 y9 y10 y11 y12 y13 y14 y15 y16))
 | 0 => ⟨fun _ _ _ _ _ _ _ _ r h => by simp [warplaw4_CufSteps.j0] at h, fun _ _ _ _ _ r h => by simp [warplaw4_CufSteps.l0] at h, fun _ _ _ _ _ _ _ _ _ _ _ _ _ _ _ _ _ r h => by simp [warplaw4_CufSteps.j2] at h⟩
 | k + 1 => by
  obtain ⟨ih0, ih1, ih2⟩ := warplaw4_CufSteps.mono_l k
  refine ⟨?_, ?_, ?_⟩
  ·
   intro y0 y1 y2 y3 y4 y5 y6 y7
   unfold warplaw4_CufSteps.j0
   repeat' first
   | (with_reducible exact ih0 _ _ _ _ _ _ _ _)
   | (with_reducible exact ih1 _ _ _ _ _)
   | (with_reducible exact ih2 _ _ _ _ _ _ _ _ _ _ _ _ _ _ _ _ _)
   | (with_reducible exact cuf_May.mono _ _ _)
   | (with_reducible exact warplaw4_Cells.mono _ _ _)
   | (with_reducible exact warplaw4_Prio.mono _ _ _)
   | (with_reducible exact warpref1_Ints.mono _ _ _)
   | (with_reducible exact LeO.refl _)
   | (with_reducible exact LeO.none _)
   | (with_reducible refine LeO.ite ?_ ?_)
   | (with_reducible refine LeO.bind ?_ (fun _ => ?_))
   | exact ih0 _ _ _ _ _ _ _ _
   | exact ih1 _ _ _ _ _
   | exact ih2 _ _ _ _ _ _ _ _ _ _ _ _ _ _ _ _ _
   | exact cuf_May.mono _ _ _
   | exact warplaw4_Cells.mono _ _ _
   | exact warplaw4_Prio.mono _ _ _
   | exact warpref1_Ints.mono _ _ _
   | exact LeO.none _
   | refine LeO.ite ?_ ?_
   | refine LeO.bind ?_ (fun _ => ?_)
  ·
   intro y0 y1 y2 y3 y4
   unfold warplaw4_CufSteps.l0
   repeat' first
   | (with_reducible exact ih0 _ _ _ _ _ _ _ _)
   | (with_reducible exact ih1 _ _ _ _ _)
   | (with_reducible exact ih2 _ _ _ _ _ _ _ _ _ _ _ _ _ _ _ _ _)
   | (with_reducible exact cuf_May.mono _ _ _)
   | (with_reducible exact warplaw4_Cells.mono _ _ _)
   | (with_reducible exact warplaw4_Prio.mono _ _ _)
   | (with_reducible exact warpref1_Ints.mono _ _ _)
   | (with_reducible exact LeO.refl _)
   | (with_reducible exact LeO.none _)
   | (with_reducible refine LeO.ite ?_ ?_)
   | (with_reducible refine LeO.bind ?_ (fun _ => ?_))
   | exact ih0 _ _ _ _ _ _ _ _
   | exact ih1 _ _ _ _ _
   | exact ih2 _ _ _ _ _ _ _ _ _ _ _ _ _ _ _ _ _
   | exact cuf_May.mono _ _ _
   | exact warplaw4_Cells.mono _ _ _
   | exact warplaw4_Prio.mono _ _ _
   | exact warpref1_Ints.mono _ _ _
   | exact LeO.none _
   | refine LeO.ite ?_ ?_
   | refine LeO.bind ?_ (fun _ => ?_)
  ·
   intro y0 y1 y2 y3 y4 y5 y6 y7 y8 y9 y10 y11 y12 y13 y14 y15 y16
   unfold warplaw4_CufSteps.j2
   repeat' first
   | (with_reducible exact ih0 _ _ _ _ _ _ _ _)
   | (with_reducible exact ih1 _ _ _ _ _)
   | (with_reducible exact ih2 _ _ _ _ _ _ _ _ _ _ _ _ _ _ _ _ _)
   | (with_reducible exact cuf_May.mono _ _ _)
   | (with_reducible exact warplaw4_Cells.mono _ _ _)
   | (with_reducible exact warplaw4_Prio.mono _ _ _)
   | (with_reducible exact warpref1_Ints.mono _ _ _)
   | (with_reducible exact LeO.refl _)
   | (with_reducible exact LeO.none _)
   | (with_reducible refine LeO.ite ?_ ?_)
   | (with_reducible refine LeO.bind ?_ (fun _ => ?_))
   | exact ih0 _ _ _ _ _ _ _ _
   | exact ih1 _ _ _ _ _
   | exact ih2 _ _ _ _ _ _ _ _ _ _ _ _ _ _ _ _ _
   | exact cuf_May.mono _ _ _
   | exact warplaw4_Cells.mono _ _ _
   | exact warplaw4_Prio.mono _ _ _
   | exact warpref1_Ints.mono _ _ _
   | exact LeO.none _
   | refine LeO.ite ?_ ?_
   | refine LeO.bind ?_ (fun _ => ?_)
theorem warplaw4_CufSteps.mono : ∀ a0 a1 a2 a3 a4 a5 k, LeO (warplaw4_CufSteps.f k a0 a1 a2 a3 a4 a5) (warplaw4_CufSteps.f (k + 1) a0 a1 a2 a3 a4 a5) := by
 intro a0 a1 a2 a3 a4 a5 k
 obtain ⟨ih0, ih1, ih2⟩ := warplaw4_CufSteps.mono_l k
 unfold warplaw4_CufSteps.f
 repeat' first
  | (with_reducible exact ih0 _ _ _ _ _ _ _ _)
  | (with_reducible exact ih1 _ _ _ _ _)
  | (with_reducible exact ih2 _ _ _ _ _ _ _ _ _ _ _ _ _ _ _ _ _)
  | (with_reducible exact cuf_May.mono _ _ _)
  | (with_reducible exact warplaw4_Cells.mono _ _ _)
  | (with_reducible exact warplaw4_Prio.mono _ _ _)
  | (with_reducible exact warpref1_Ints.mono _ _ _)
  | (with_reducible exact LeO.refl _)
  | (with_reducible exact LeO.none _)
  | (with_reducible refine LeO.ite ?_ ?_)
  | (with_reducible refine LeO.bind ?_ (fun _ => ?_))
  | exact ih0 _ _ _ _ _ _ _ _
  | exact ih1 _ _ _ _ _
  | exact ih2 _ _ _ _ _ _ _ _ _ _ _ _ _ _ _ _ _
  | exact cuf_May.mono _ _ _
  | exact warplaw4_Cells.mono _ _ _
  | exact warplaw4_Prio.mono _ _ _
  | exact warpref1_Ints.mono _ _ _
  | exact LeO.none _
  | refine LeO.ite ?_ ?_
  | refine LeO.bind ?_ (fun _ => ?_)
def warplaw4_CufSteps.T6 : Bool × List (List Nat × List Nat) := (true, [([], []), ([0], [0]), ([1], [1]), ([], []), ([3], [3]), ([4], [4]), ([], []), ([6], [6]), ([7], [7]), ([], []), ([2, 5, 8, 9], [2, 5, 8, 9]), ([], []), ([10, 11, 10], [10, 11]), ([12], [12]), ([], []), ([14], [14]), ([15], [15]), ([], []), ([17], [17]), ([18], [18]), ([], []), ([20], [20]), ([21], [21]), ([], []), ([16, 19, 22, 23, 12], [16, 19, 22, 23]), ([], []), ([24, 25, 24], [24, 25]), ([26], [26]), ([], []), ([28], [28]), ([29], [29]), ([], []), ([31], [31]), ([32], [32]), ([], []), ([34], [34]), ([35], [35]), ([], []), ([30, 33, 36, 37, 26], [30, 33, 36, 37]), ([], []), ([38, 39, 38], [38, 39]), ([40], [40]), ([13, 27, 41], [13, 27, 41]), ([42, 40, 0, 1, 2, 3, 4, 5, 6, 7, 8, 9, 10, 11, 12, 13, 14, 15, 16, 17, 18, 19, 20, 21, 22, 23, 24, 25, 26, 27, 28, 29, 30, 31, 32, 33, 34, 35, 36, 37, 38, 39, 40, 41, 42], [42])])
def warplaw4_CufSteps.B6 : List Nat := [0, 1, 3, 0, 8, 24, 0, 64, 192, 0, 1023, 0, 4095, 8191, 0, 16384, 49152, 0, 131072, 393216, 0, 1048576, 3145728, 0, 16769023, 0, 67100671, 134209535, 0, 268435456, 805306368, 0, 2147483648, 6442450944, 0, 17179869184, 51539607552, 0, 274743681023, 0, 1099377401855, 2198889029631, 4398046511103, 8796093022207]
theorem warplaw4_CufSteps.tab6 : rtab .any (opsOf Try.f5 6) = warplaw4_CufSteps.T6 := by kernel_rfl
theorem warplaw4_CufSteps.bits6 : waitsOk warplaw4_CufSteps.T6.2 warplaw4_CufSteps.B6 = true := by kernel_rfl
set_option maxHeartbeats 8000000 in
set_option maxRecDepth 100000 in
theorem warplaw4_CufSteps.calls (k : Nat) (A0 : Option Addr) (c0 : Nat) (l0 : List Int) (A1 : Option Addr) (c1 : Nat) (l1 : List Int) (A2 : Option Addr) (c2 : Nat) (l2 : List Int) (A3 : Option Addr) (c3 : Nat) (l3 : List Int) (A4 : Option Addr) (c4 : Nat) (l4 : List Int) (A5 : Option Addr) (c5 : Nat) (l5 : List Int) (r : Bool) (w : World) (hr0 : Kd.C (Kd.int .u8) w A0 l0.length l0) (hc0 : l0.length ≤ c0) (hr1 : Kd.C (Kd.int .u8) w A1 l1.length l1) (hc1 : l1.length ≤ c1) (hr2 : Kd.C (Kd.int .u8) w A2 l2.length l2) (hc2 : l2.length ≤ c2) (hr3 : Kd.C (Kd.int .u8) w A3 l3.length l3) (hc3 : l3.length ≤ c3) (hr4 : Kd.C (Kd.int .u8) w A4 l4.length l4) (hc4 : l4.length ≤ c4) (hr5 : Kd.C (Kd.int .u8) w A5 l5.length l5) (hc5 : l5.length ≤ c5) (h : warplaw4_CufSteps.f k l0 l1 l2 l3 l4 l5 = some r) :
 Calls Try.prog 5 #[.slice A0 l0.length c0, .slice A1 l1.length c1, .slice A2 l2.length c2, .slice A3 l3.length c3, .slice A4 l4.length c4, .slice A5 l5.length c5] w fun e w' => e = .returned (.bool r) ∧ Below w.heap.size w w' := by
 have hu31 := Try.underlying31
 have hu45 := Try.underlying45
 have hfd42_0 : ∀ (v0_ v1_ v2_ v3_ v4_ v5_ v6_ v7_ v8_ v9_ v10_ : Value) (W : World), (Instr.field 42 (.agg #[v0_, v1_, v2_, v3_, v4_, v5_, v6_, v7_, v8_, v9_, v10_]) 0).run Try.prog W = .ok (.agg #[v0_, v1_, v2_, v3_, v4_, v5_, v6_, v7_, v8_, v9_]) W := fun _ _ _ _ _ _ _ _ _ _ _ _ => by kernel_rfl
 have HR0 := Aside0.mk hr0
 have HC0 := Aside0.mk hc0
 clear hr0 hc0
 have HR1 := Aside0.mk hr1
 have HC1 := Aside0.mk hc1
 clear hr1 hc1
 have HR2 := Aside0.mk hr2
 have HC2 := Aside0.mk hc2
 clear hr2 hc2
 have HR3 := Aside0.mk hr3
 have HC3 := Aside0.mk hc3
 clear hr3 hc3
 have HR4 := Aside0.mk hr4
 have HC4 := Aside0.mk hc4
 clear hr4 hc4
 have HR5 := Aside0.mk hr5
 have HC5 := Aside0.mk hc5
 clear hr5 hc5
 have HB := Aside0.mk (Below.refl w.heap.size w)
 have H : (if (l0.length : Int) > 60 then (warplaw4_CufSteps.j0 k l0 l1 l2 l3 l4 l5 (1 + ((l1.length : Int) % 16)) true) else (if (l2.length : Int) < 3 then (warplaw4_CufSteps.j0 k l0 l1 l2 l3 l4 l5 (1 + ((l1.length : Int) % 16)) true) else (if (l3.length : Int) < 3 then (warplaw4_CufSteps.j0 k l0 l1 l2 l3 l4 l5 (1 + ((l1.length : Int) % 16)) true) else (if (l4.length : Int) < 3 then (warplaw4_CufSteps.j0 k l0 l1 l2 l3 l4 l5 (1 + ((l1.length : Int) % 16)) true) else (warplaw4_CufSteps.j0 k l0 l1 l2 l3 l4 l5 (1 + ((l1.length : Int) % 16)) (decide ((l5.length : Int) > 100))))))) = some r := h
 clear h
 have HC7 := Aside0.mk H
 clear H
 go_enter Try.func5, Try.ntmps5
 go_upto_region 2 with (fail)
 go_cut [49] (fun v49 wc => ∃ (kq : Nat) (x49_6 : Bool), v49 = .bool x49_6 ∧ Aside0 (warplaw4_CufSteps.j0 kq l0 l1 l2 l3 l4 l5 (1 + ((l1.length : Int) % 16)) x49_6 = some r) ∧ Aside0 (kq ≤ k) ∧ Aside0 (Below w.heap.size w wc))
 case first =>
  have H := HC7.out
  clear HC7
  by_cases c8 : (l0.length : Int) > 60
  ·
   rw [if_pos c8] at H
   have c8b0 : decide (60 < (l0.length : Int)) = true := decide_eq_true c8
   have c8b1 : decide (60 < l0.length) = true := decide_eq_true (by omega)
   clear c8
   (first | rw [c8b0] | (simp only [i64_w, i32_w]; rw [c8b0]) | skip)
   have H' := Aside0.mk H
   clear H
   go_wp2
   go_meet
   case rel => exact ⟨_, (true), (by first | rfl | (simp; done) | (simp [*]; done)), H', ⟨by first | omega | exact Nat.le_refl _⟩, ⟨by repeat (first | (with_reducible first | exact HB.out | apply below_alloc | apply pw_below_drewN | apply below_drew1) | exact HB.out)⟩⟩
  ·
   rw [if_neg c8] at H
   have c8b0 : decide (60 < (l0.length : Int)) = false := decide_eq_false c8
   have c8b1 : decide (60 < l0.length) = false := decide_eq_false (by omega)
   clear c8
   (first | rw [c8b0] | (simp only [i64_w, i32_w]; rw [c8b0]) | skip)
   by_cases c9 : (l2.length : Int) < 3
   ·
    rw [if_pos c9] at H
    have c9b0 : decide ((l2.length : Int) < 3) = true := decide_eq_true c9
    have c9b1 : decide (l2.length < 3) = true := decide_eq_true (by omega)
    clear c9
    have H' := Aside0.mk H
    clear H
    go_wp2
    go_meet
    case rel => exact ⟨_, (true), (by first | rfl | (simp; done) | (simp [*]; done)), H', ⟨by first | omega | exact Nat.le_refl _⟩, ⟨by repeat (first | (with_reducible first | exact HB.out | apply below_alloc | apply pw_below_drewN | apply below_drew1) | exact HB.out)⟩⟩
   ·
    rw [if_neg c9] at H
    have c9b0 : decide ((l2.length : Int) < 3) = false := decide_eq_false c9
    have c9b1 : decide (l2.length < 3) = false := decide_eq_false (by omega)
    clear c9
    by_cases c10 : (l3.length : Int) < 3
    ·
     rw [if_pos c10] at H
     have c10b0 : decide ((l3.length : Int) < 3) = true := decide_eq_true c10
     have c10b1 : decide (l3.length < 3) = true := decide_eq_true (by omega)
     clear c10
     have H' := Aside0.mk H
     clear H
     go_wp2
     go_meet
     case rel => exact ⟨_, (true), (by first | rfl | (simp; done) | (simp [*]; done)), H', ⟨by first | omega | exact Nat.le_refl _⟩, ⟨by repeat (first | (with_reducible first | exact HB.out | apply below_alloc | apply pw_below_drewN | apply below_drew1) | exact HB.out)⟩⟩
    ·
     rw [if_neg c10] at H
     have c10b0 : decide ((l3.length : Int) < 3) = false := decide_eq_false c10
     have c10b1 : decide (l3.length < 3) = false := decide_eq_false (by omega)
     clear c10
     by_cases c11 : (l4.length : Int) < 3
     ·
      rw [if_pos c11] at H
      have c11b0 : decide ((l4.length : Int) < 3) = true := decide_eq_true c11
      have c11b1 : decide (l4.length < 3) = true := decide_eq_true (by omega)
      clear c11
      have H' := Aside0.mk H
      clear H
      go_wp2
      go_meet
      case rel => exact ⟨_, (true), (by first | rfl | (simp; done) | (simp [*]; done)), H', ⟨by first | omega | exact Nat.le_refl _⟩, ⟨by repeat (first | (with_reducible first | exact HB.out | apply below_alloc | apply pw_below_drewN | apply below_drew1) | exact HB.out)⟩⟩
     ·
      rw [if_neg c11] at H
      have c11b0 : decide ((l4.length : Int) < 3) = false := decide_eq_false c11
      have c11b1 : decide (l4.length < 3) = false := decide_eq_false (by omega)
      clear c11
      have H' := Aside0.mk H
      clear H
      go_wp2
      go_meet
      case rel => exact ⟨_, (decide ((l5.length : Int) > 100)), (by first | rfl | (simp; done) | (simp [*]; done)), H', ⟨by first | omega | exact Nat.le_refl _⟩, ⟨by repeat (first | (with_reducible first | exact HB.out | apply below_alloc | apply pw_below_drewN | apply below_drew1) | exact HB.out)⟩⟩
 case rest =>
  clear HC7
  (try clear c1); (try clear c2); (try clear p2); (try clear c3); (try clear c4); (try clear c5); (try clear c8); (try clear c8b0); (try clear c8b1); (try clear c9); (try clear c9b0); (try clear c9b1); (try clear c10); (try clear c10b0); (try clear c10b1); (try clear c11); (try clear c11b0); (try clear c11b1)
  obtain ⟨kq, x49_6, rfl, HA, HJ6, HB⟩ := hcut
  cases kq with
  | zero => exact absurd HA.out (by simp [warplaw4_CufSteps.j0])
  | succ kj6 =>
   have H := HA.out
   clear HA
   simp only [warplaw4_CufSteps.j0] at H
   by_cases c12 : x49_6 = true
   ·
    subst c12
    have H1 : ((warplaw4_awake.f).bind fun t164 => (some t164)) = some r := by rw [if_pos rfl] at H; exact H
    clear H
    have H := H1
    clear H1
    replace H := Option.bind_eq_some_iff.mp H
    obtain ⟨t164, A130, H⟩ := H
    replace H : (some t164) = some r := H
    have A13 := Aside0.mk A130
    clear A130
    obtain rfl := Option.some.inj H
    go_wp2_with (first | ((with_reducible refine gate_callee (f := 8) rfl ?_); refine goesL_ (some 50) rfl rfl Try.func8 (by kernel_rfl) rfl #[] rfl (by (try simp only [List.map_toArray, List.map_cons, List.map_nil]); first | done | rfl | (simp only [List.length_drop, List.length_take]; rfl)) ?_; (with_reducible refine (warplaw4_awake.calls  t164 _ A13.out).mono ?_); rintro e w14 ⟨rfl, hb⟩; refine ⟨_, rfl, ?_⟩; have n0_ := Aside0.mk (below_step (by repeat (first | (with_reducible first | exact HB.out | apply below_alloc | apply pw_below_drewN | apply below_drew1) | exact HB.out)) hb); clear HB; have HB := n0_; clear n0_; (try clear hb); (try clear hb2); (try clear hk); (try clear hi)))
    go_ret
    exact ⟨by first | rfl | (simp [errW_none, errW_some] <;> rfl) | (simp [*, errW_none, errW_some] <;> rfl), by repeat (first | (with_reducible first | exact HB.out | apply below_alloc | apply pw_below_drewN | apply below_drew1) | exact HB.out)⟩
   ·
    replace c12 := Bool.eq_false_iff.mpr c12
    subst c12
    have H1 : ((warplaw4_Prio.f kj6 l1 (1 + ((l1.length : Int) % 16))).bind fun t165 => ((warplaw4_Cells.f kj6 l0 t165).bind fun t168 => (if 0 < (l2.length : Int) then (if 1 < (l2.length : Int) then (if 2 < (l2.length : Int) then ((warplaw4_op.f (rd l2 0) (rd l2 1) (rd l2 2) (1 + ((l1.length : Int) % 16))).bind fun bt174 => ((warpref1_Begin.f bt174.1 bt174.2.1 bt174.2.2 (1 + ((l1.length : Int) % 16))).bind fun bt177 => (if 0 < (l3.length : Int) then (if 1 < (l3.length : Int) then (if 2 < (l3.length : Int) then ((warplaw4_op.f (rd l3 0) (rd l3 1) (rd l3 2) (1 + ((l1.length : Int) % 16))).bind fun bt191 => ((warpref1_Begin.f bt191.1 bt191.2.1 bt191.2.2 (1 + ((l1.length : Int) % 16))).bind fun bt194 => (if 0 < (l4.length : Int) then (if 1 < (l4.length : Int) then (if 2 < (l4.length : Int) then ((warplaw4_op.f (rd l4 0) (rd l4 1) (rd l4 2) (1 + ((l1.length : Int) % 16))).bind fun bt208 => ((warpref1_Begin.f bt208.1 bt208.2.1 bt208.2.2 (1 + ((l1.length : Int) % 16))).bind fun bt211 => (warplaw4_CufSteps.l0 kj6 l5 t165 t168 (([(⟨(⟨bt177.1, bt177.2.1, bt177.2.2.1⟩ : S28), bt177.2.2.2.1, bt177.2.2.2.2.1, bt177.2.2.2.2.2.1, bt177.2.2.2.2.2.2.1, bt177.2.2.2.2.2.2.2.1, bt177.2.2.2.2.2.2.2.2.1, bt177.2.2.2.2.2.2.2.2.2.1⟩ : S31), (⟨(⟨bt194.1, bt194.2.1, bt194.2.2.1⟩ : S28), bt194.2.2.2.1, bt194.2.2.2.2.1, bt194.2.2.2.2.2.1, bt194.2.2.2.2.2.2.1, bt194.2.2.2.2.2.2.2.1, bt194.2.2.2.2.2.2.2.2.1, bt194.2.2.2.2.2.2.2.2.2.1⟩ : S31), (⟨(⟨bt211.1, bt211.2.1, bt211.2.2.1⟩ : S28), bt211.2.2.2.1, bt211.2.2.2.2.1, bt211.2.2.2.2.2.1, bt211.2.2.2.2.2.2.1, bt211.2.2.2.2.2.2.2.1, bt211.2.2.2.2.2.2.2.2.1, bt211.2.2.2.2.2.2.2.2.2.1⟩ : S31)] : List (S31))) 0))) else (none)) else (none)) else (none)))) else (none)) else (none)) else (none)))) else (none)) else (none)) else (none)))) = some r := by rw [if_neg (show ¬ (false = true) by decide)] at H; exact H
    clear H
    have H := H1
    clear H1
    replace H := Option.bind_eq_some_iff.mp H
    obtain ⟨t165, A150, H⟩ := H
    replace H : ((warplaw4_Cells.f kj6 l0 t165).bind fun t168 => (if 0 < (l2.length : Int) then (if 1 < (l2.length : Int) then (if 2 < (l2.length : Int) then ((warplaw4_op.f (rd l2 0) (rd l2 1) (rd l2 2) (1 + ((l1.length : Int) % 16))).bind fun bt174 => ((warpref1_Begin.f bt174.1 bt174.2.1 bt174.2.2 (1 + ((l1.length : Int) % 16))).bind fun bt177 => (if 0 < (l3.length : Int) then (if 1 < (l3.length : Int) then (if 2 < (l3.length : Int) then ((warplaw4_op.f (rd l3 0) (rd l3 1) (rd l3 2) (1 + ((l1.length : Int) % 16))).bind fun bt191 => ((warpref1_Begin.f bt191.1 bt191.2.1 bt191.2.2 (1 + ((l1.length : Int) % 16))).bind fun bt194 => (if 0 < (l4.length : Int) then (if 1 < (l4.length : Int) then (if 2 < (l4.length : Int) then ((warplaw4_op.f (rd l4 0) (rd l4 1) (rd l4 2) (1 + ((l1.length : Int) % 16))).bind fun bt208 => ((warpref1_Begin.f bt208.1 bt208.2.1 bt208.2.2 (1 + ((l1.length : Int) % 16))).bind fun bt211 => (warplaw4_CufSteps.l0 kj6 l5 t165 t168 (([(⟨(⟨bt177.1, bt177.2.1, bt177.2.2.1⟩ : S28), bt177.2.2.2.1, bt177.2.2.2.2.1, bt177.2.2.2.2.2.1, bt177.2.2.2.2.2.2.1, bt177.2.2.2.2.2.2.2.1, bt177.2.2.2.2.2.2.2.2.1, bt177.2.2.2.2.2.2.2.2.2.1⟩ : S31), (⟨(⟨bt194.1, bt194.2.1, bt194.2.2.1⟩ : S28), bt194.2.2.2.1, bt194.2.2.2.2.1, bt194.2.2.2.2.2.1, bt194.2.2.2.2.2.2.1, bt194.2.2.2.2.2.2.2.1, bt194.2.2.2.2.2.2.2.2.1, bt194.2.2.2.2.2.2.2.2.2.1⟩ : S31), (⟨(⟨bt211.1, bt211.2.1, bt211.2.2.1⟩ : S28), bt211.2.2.2.1, bt211.2.2.2.2.1, bt211.2.2.2.2.2.1, bt211.2.2.2.2.2.2.1, bt211.2.2.2.2.2.2.2.1, bt211.2.2.2.2.2.2.2.2.1, bt211.2.2.2.2.2.2.2.2.2.1⟩ : S31)] : List (S31))) 0))) else (none)) else (none)) else (none)))) else (none)) else (none)) else (none)))) else (none)) else (none)) else (none))) = some r := H
    have A15 := Aside0.mk A150
    clear A150
    replace H := Option.bind_eq_some_iff.mp H
    obtain ⟨t168, A160, H⟩ := H
    replace H : (if 0 < (l2.length : Int) then (if 1 < (l2.length : Int) then (if 2 < (l2.length : Int) then ((warplaw4_op.f (rd l2 0) (rd l2 1) (rd l2 2) (1 + ((l1.length : Int) % 16))).bind fun bt174 => ((warpref1_Begin.f bt174.1 bt174.2.1 bt174.2.2 (1 + ((l1.length : Int) % 16))).bind fun bt177 => (if 0 < (l3.length : Int) then (if 1 < (l3.length : Int) then (if 2 < (l3.length : Int) then ((warplaw4_op.f (rd l3 0) (rd l3 1) (rd l3 2) (1 + ((l1.length : Int) % 16))).bind fun bt191 => ((warpref1_Begin.f bt191.1 bt191.2.1 bt191.2.2 (1 + ((l1.length : Int) % 16))).bind fun bt194 => (if 0 < (l4.length : Int) then (if 1 < (l4.length : Int) then (if 2 < (l4.length : Int) then ((warplaw4_op.f (rd l4 0) (rd l4 1) (rd l4 2) (1 + ((l1.length : Int) % 16))).bind fun bt208 => ((warpref1_Begin.f bt208.1 bt208.2.1 bt208.2.2 (1 + ((l1.length : Int) % 16))).bind fun bt211 => (warplaw4_CufSteps.l0 kj6 l5 t165 t168 (([(⟨(⟨bt177.1, bt177.2.1, bt177.2.2.1⟩ : S28), bt177.2.2.2.1, bt177.2.2.2.2.1, bt177.2.2.2.2.2.1, bt177.2.2.2.2.2.2.1, bt177.2.2.2.2.2.2.2.1, bt177.2.2.2.2.2.2.2.2.1, bt177.2.2.2.2.2.2.2.2.2.1⟩ : S31), (⟨(⟨bt194.1, bt194.2.1, bt194.2.2.1⟩ : S28), bt194.2.2.2.1, bt194.2.2.2.2.1, bt194.2.2.2.2.2.1, bt194.2.2.2.2.2.2.1, bt194.2.2.2.2.2.2.2.1, bt194.2.2.2.2.2.2.2.2.1, bt194.2.2.2.2.2.2.2.2.2.1⟩ : S31), (⟨(⟨bt211.1, bt211.2.1, bt211.2.2.1⟩ : S28), bt211.2.2.2.1, bt211.2.2.2.2.1, bt211.2.2.2.2.2.1, bt211.2.2.2.2.2.2.1, bt211.2.2.2.2.2.2.2.1, bt211.2.2.2.2.2.2.2.2.1, bt211.2.2.2.2.2.2.2.2.2.1⟩ : S31)] : List (S31))) 0))) else (none)) else (none)) else (none)))) else (none)) else (none)) else (none)))) else (none)) else (none)) else (none)) = some r := H
    have A16 := Aside0.mk A160
    clear A160
    by_cases c17 : 0 < (l2.length : Int)
    ·
     rw [if_pos c17] at H
     have c17b0 : decide (0 < (l2.length : Int)) = true := decide_eq_true c17
     have c17b1 : decide (0 < l2.length) = true := decide_eq_true (by omega)
     clear c17
     by_cases c18 : 1 < (l2.length : Int)
     ·
      rw [if_pos c18] at H
      have c18b0 : decide (1 < (l2.length : Int)) = true := decide_eq_true c18
      have c18b1 : decide (1 < l2.length) = true := decide_eq_true (by omega)
      clear c18
      by_cases c19 : 2 < (l2.length : Int)
      ·
       rw [if_pos c19] at H
       have c19b0 : decide (2 < (l2.length : Int)) = true := decide_eq_true c19
       have c19b1 : decide (2 < l2.length) = true := decide_eq_true (by omega)
       clear c19
       replace H := Option.bind_eq_some_iff.mp H
       obtain ⟨⟨t174, t175, t176⟩, A200, H⟩ := H
       replace H : ((warpref1_Begin.f t174 t175 t176 (1 + ((l1.length : Int) % 16))).bind fun bt177 => (if 0 < (l3.length : Int) then (if 1 < (l3.length : Int) then (if 2 < (l3.length : Int) then ((warplaw4_op.f (rd l3 0) (rd l3 1) (rd l3 2) (1 + ((l1.length : Int) % 16))).bind fun bt191 => ((warpref1_Begin.f bt191.1 bt191.2.1 bt191.2.2 (1 + ((l1.length : Int) % 16))).bind fun bt194 => (if 0 < (l4.length : Int) then (if 1 < (l4.length : Int) then (if 2 < (l4.length : Int) then ((warplaw4_op.f (rd l4 0) (rd l4 1) (rd l4 2) (1 + ((l1.length : Int) % 16))).bind fun bt208 => ((warpref1_Begin.f bt208.1 bt208.2.1 bt208.2.2 (1 + ((l1.length : Int) % 16))).bind fun bt211 => (warplaw4_CufSteps.l0 kj6 l5 t165 t168 (([(⟨(⟨bt177.1, bt177.2.1, bt177.2.2.1⟩ : S28), bt177.2.2.2.1, bt177.2.2.2.2.1, bt177.2.2.2.2.2.1, bt177.2.2.2.2.2.2.1, bt177.2.2.2.2.2.2.2.1, bt177.2.2.2.2.2.2.2.2.1, bt177.2.2.2.2.2.2.2.2.2.1⟩ : S31), (⟨(⟨bt194.1, bt194.2.1, bt194.2.2.1⟩ : S28), bt194.2.2.2.1, bt194.2.2.2.2.1, bt194.2.2.2.2.2.1, bt194.2.2.2.2.2.2.1, bt194.2.2.2.2.2.2.2.1, bt194.2.2.2.2.2.2.2.2.1, bt194.2.2.2.2.2.2.2.2.2.1⟩ : S31), (⟨(⟨bt211.1, bt211.2.1, bt211.2.2.1⟩ : S28), bt211.2.2.2.1, bt211.2.2.2.2.1, bt211.2.2.2.2.2.1, bt211.2.2.2.2.2.2.1, bt211.2.2.2.2.2.2.2.1, bt211.2.2.2.2.2.2.2.2.1, bt211.2.2.2.2.2.2.2.2.2.1⟩ : S31)] : List (S31))) 0))) else (none)) else (none)) else (none)))) else (none)) else (none)) else (none))) = some r := H
       have A20 := Aside0.mk A200
       clear A200
       replace H := Option.bind_eq_some_iff.mp H
       obtain ⟨⟨t177, t178, t179, t180, t181, t182, t183, t184, t185, t186, t187⟩, A210, H⟩ := H
       replace H : (if 0 < (l3.length : Int) then (if 1 < (l3.length : Int) then (if 2 < (l3.length : Int) then ((warplaw4_op.f (rd l3 0) (rd l3 1) (rd l3 2) (1 + ((l1.length : Int) % 16))).bind fun bt191 => ((warpref1_Begin.f bt191.1 bt191.2.1 bt191.2.2 (1 + ((l1.length : Int) % 16))).bind fun bt194 => (if 0 < (l4.length : Int) then (if 1 < (l4.length : Int) then (if 2 < (l4.length : Int) then ((warplaw4_op.f (rd l4 0) (rd l4 1) (rd l4 2) (1 + ((l1.length : Int) % 16))).bind fun bt208 => ((warpref1_Begin.f bt208.1 bt208.2.1 bt208.2.2 (1 + ((l1.length : Int) % 16))).bind fun bt211 => (warplaw4_CufSteps.l0 kj6 l5 t165 t168 (([(⟨(⟨t177, t178, t179⟩ : S28), t180, t181, t182, t183, t184, t185, t186⟩ : S31), (⟨(⟨bt194.1, bt194.2.1, bt194.2.2.1⟩ : S28), bt194.2.2.2.1, bt194.2.2.2.2.1, bt194.2.2.2.2.2.1, bt194.2.2.2.2.2.2.1, bt194.2.2.2.2.2.2.2.1, bt194.2.2.2.2.2.2.2.2.1, bt194.2.2.2.2.2.2.2.2.2.1⟩ : S31), (⟨(⟨bt211.1, bt211.2.1, bt211.2.2.1⟩ : S28), bt211.2.2.2.1, bt211.2.2.2.2.1, bt211.2.2.2.2.2.1, bt211.2.2.2.2.2.2.1, bt211.2.2.2.2.2.2.2.1, bt211.2.2.2.2.2.2.2.2.1, bt211.2.2.2.2.2.2.2.2.2.1⟩ : S31)] : List (S31))) 0))) else (none)) else (none)) else (none)))) else (none)) else (none)) else (none)) = some r := H
       have A21 := Aside0.mk A210
       clear A210
       by_cases c22 : 0 < (l3.length : Int)
       ·
        rw [if_pos c22] at H
        have c22b0 : decide (0 < (l3.length : Int)) = true := decide_eq_true c22
        have c22b1 : decide (0 < l3.length) = true := decide_eq_true (by omega)
        clear c22
        by_cases c23 : 1 < (l3.length : Int)
        ·
         rw [if_pos c23] at H
         have c23b0 : decide (1 < (l3.length : Int)) = true := decide_eq_true c23
         have c23b1 : decide (1 < l3.length) = true := decide_eq_true (by omega)
         clear c23
         by_cases c24 : 2 < (l3.length : Int)
         ·
          rw [if_pos c24] at H
          have c24b0 : decide (2 < (l3.length : Int)) = true := decide_eq_true c24
          have c24b1 : decide (2 < l3.length) = true := decide_eq_true (by omega)
          clear c24
          replace H := Option.bind_eq_some_iff.mp H
          obtain ⟨⟨t191, t192, t193⟩, A250, H⟩ := H
          replace H : ((warpref1_Begin.f t191 t192 t193 (1 + ((l1.length : Int) % 16))).bind fun bt194 => (if 0 < (l4.length : Int) then (if 1 < (l4.length : Int) then (if 2 < (l4.length : Int) then ((warplaw4_op.f (rd l4 0) (rd l4 1) (rd l4 2) (1 + ((l1.length : Int) % 16))).bind fun bt208 => ((warpref1_Begin.f bt208.1 bt208.2.1 bt208.2.2 (1 + ((l1.length : Int) % 16))).bind fun bt211 => (warplaw4_CufSteps.l0 kj6 l5 t165 t168 (([(⟨(⟨t177, t178, t179⟩ : S28), t180, t181, t182, t183, t184, t185, t186⟩ : S31), (⟨(⟨bt194.1, bt194.2.1, bt194.2.2.1⟩ : S28), bt194.2.2.2.1, bt194.2.2.2.2.1, bt194.2.2.2.2.2.1, bt194.2.2.2.2.2.2.1, bt194.2.2.2.2.2.2.2.1, bt194.2.2.2.2.2.2.2.2.1, bt194.2.2.2.2.2.2.2.2.2.1⟩ : S31), (⟨(⟨bt211.1, bt211.2.1, bt211.2.2.1⟩ : S28), bt211.2.2.2.1, bt211.2.2.2.2.1, bt211.2.2.2.2.2.1, bt211.2.2.2.2.2.2.1, bt211.2.2.2.2.2.2.2.1, bt211.2.2.2.2.2.2.2.2.1, bt211.2.2.2.2.2.2.2.2.2.1⟩ : S31)] : List (S31))) 0))) else (none)) else (none)) else (none))) = some r := H
          have A25 := Aside0.mk A250
          clear A250
          replace H := Option.bind_eq_some_iff.mp H
          obtain ⟨⟨t194, t195, t196, t197, t198, t199, t200, t201, t202, t203, t204⟩, A260, H⟩ := H
          replace H : (if 0 < (l4.length : Int) then (if 1 < (l4.length : Int) then (if 2 < (l4.length : Int) then ((warplaw4_op.f (rd l4 0) (rd l4 1) (rd l4 2) (1 + ((l1.length : Int) % 16))).bind fun bt208 => ((warpref1_Begin.f bt208.1 bt208.2.1 bt208.2.2 (1 + ((l1.length : Int) % 16))).bind fun bt211 => (warplaw4_CufSteps.l0 kj6 l5 t165 t168 (([(⟨(⟨t177, t178, t179⟩ : S28), t180, t181, t182, t183, t184, t185, t186⟩ : S31), (⟨(⟨t194, t195, t196⟩ : S28), t197, t198, t199, t200, t201, t202, t203⟩ : S31), (⟨(⟨bt211.1, bt211.2.1, bt211.2.2.1⟩ : S28), bt211.2.2.2.1, bt211.2.2.2.2.1, bt211.2.2.2.2.2.1, bt211.2.2.2.2.2.2.1, bt211.2.2.2.2.2.2.2.1, bt211.2.2.2.2.2.2.2.2.1, bt211.2.2.2.2.2.2.2.2.2.1⟩ : S31)] : List (S31))) 0))) else (none)) else (none)) else (none)) = some r := H
          have A26 := Aside0.mk A260
          clear A260
          by_cases c27 : 0 < (l4.length : Int)
          ·
           rw [if_pos c27] at H
           have c27b0 : decide (0 < (l4.length : Int)) = true := decide_eq_true c27
           have c27b1 : decide (0 < l4.length) = true := decide_eq_true (by omega)
           clear c27
           by_cases c28 : 1 < (l4.length : Int)
           ·
            rw [if_pos c28] at H
            have c28b0 : decide (1 < (l4.length : Int)) = true := decide_eq_true c28
            have c28b1 : decide (1 < l4.length) = true := decide_eq_true (by omega)
            clear c28
            by_cases c29 : 2 < (l4.length : Int)
            ·
             rw [if_pos c29] at H
             have c29b0 : decide (2 < (l4.length : Int)) = true := decide_eq_true c29
             have c29b1 : decide (2 < l4.length) = true := decide_eq_true (by omega)
             clear c29
             replace H := Option.bind_eq_some_iff.mp H
             obtain ⟨⟨t208, t209, t210⟩, A300, H⟩ := H
             replace H : ((warpref1_Begin.f t208 t209 t210 (1 + ((l1.length : Int) % 16))).bind fun bt211 => (warplaw4_CufSteps.l0 kj6 l5 t165 t168 (([(⟨(⟨t177, t178, t179⟩ : S28), t180, t181, t182, t183, t184, t185, t186⟩ : S31), (⟨(⟨t194, t195, t196⟩ : S28), t197, t198, t199, t200, t201, t202, t203⟩ : S31), (⟨(⟨bt211.1, bt211.2.1, bt211.2.2.1⟩ : S28), bt211.2.2.2.1, bt211.2.2.2.2.1, bt211.2.2.2.2.2.1, bt211.2.2.2.2.2.2.1, bt211.2.2.2.2.2.2.2.1, bt211.2.2.2.2.2.2.2.2.1, bt211.2.2.2.2.2.2.2.2.2.1⟩ : S31)] : List (S31))) 0)) = some r := H
             have A30 := Aside0.mk A300
             clear A300
             replace H := Option.bind_eq_some_iff.mp H
             obtain ⟨⟨t211, t212, t213, t214, t215, t216, t217, t218, t219, t220, t221⟩, A310, H⟩ := H
             replace H : (warplaw4_CufSteps.l0 kj6 l5 t165 t168 (([(⟨(⟨t177, t178, t179⟩ : S28), t180, t181, t182, t183, t184, t185, t186⟩ : S31), (⟨(⟨t194, t195, t196⟩ : S28), t197, t198, t199, t200, t201, t202, t203⟩ : S31), (⟨(⟨t211, t212, t213⟩ : S28), t214, t215, t216, t217, t218, t219, t220⟩ : S31)] : List (S31))) 0) = some r := H
             have A31 := Aside0.mk A310
             clear A310
             obtain ⟨y222, hy222⟩ : ∃ y_ : List (S31), y_ = (([(⟨(⟨t177, t178, t179⟩ : S28), t180, t181, t182, t183, t184, t185, t186⟩ : S31), (⟨(⟨t194, t195, t196⟩ : S28), t197, t198, t199, t200, t201, t202, t203⟩ : S31), (⟨(⟨t211, t212, t213⟩ : S28), t214, t215, t216, t217, t218, t219, t220⟩ : S31)] : List (S31))) := ⟨_, rfl⟩
             replace H : (warplaw4_CufSteps.l0 kj6 l5 t165 t168 y222 0) = some r := by first | (rw [hy222]; with_reducible exact H) | (have H2_ := (Option.bind_some _ _).symm.trans H; rw [hy222]; with_reducible exact H2_) | (have H2_ := (Option.bind_some _ _).symm.trans H; with_reducible exact H2_) | with_reducible exact H | (rw [hy222]; exact H) | exact H
             have Ny222 := Aside0.mk hy222
             clear hy222
             have H' := Aside0.mk H
             clear H
             try go_wp2_with (first | ((with_reducible refine gate_callee (f := 9) rfl ?_); refine goesL_ (some 53) rfl rfl Try.func9 (by kernel_rfl) rfl #[.slice A1 l1.length c1, .int .i64 (1 + ((l1.length : Int) % 16))] rfl (by (try simp only [List.map_toArray, List.map_cons, List.map_nil]); first | done | rfl | (simp only [List.length_drop, List.length_take]; rfl)) ?_; (with_reducible refine (warplaw4_Prio.calls kj6 _ _ l1 (1 + ((l1.length : Int) % 16)) t165 _ ?side1 ?side2 A15.out).mono ?_); (case side1 => repeat (first | exact (Kd.C_below HR1.out HB.out) | (with_reducible refine Kd.C_alloc ?_ _) | (with_reducible refine Kd.C_drewN ?_ _) | (with_reducible refine Kd.C_drew ?_))); (case side2 => exact HC1.out); rintro e w32 ⟨v166, rfl, ho0, hb⟩; refine ⟨_, rfl, ?_⟩; have n0_ := Aside0.mk (Kd.R_lower ho0 (below_size (by repeat (first | (with_reducible first | exact HB.out | apply below_alloc | apply pw_below_drewN | apply below_drew1) | exact HB.out)))); have n1_ := Aside0.mk (below_step (by repeat (first | (with_reducible first | exact HB.out | apply below_alloc | apply pw_below_drewN | apply below_drew1) | exact HB.out)) hb); clear HB; have HO167 := n0_; have HB := n1_; clear n0_ n1_; (try clear hb); (try clear hb2); (try clear hk); (try clear hi); (try clear ho0); obtain ⟨Ao33, co33, eo33⟩ := Kd.R_slice HO167.out; subst eo33) | ((with_reducible refine gate_callee (f := 10) rfl ?_); refine goesL_ (some 56) rfl rfl Try.func10 (by kernel_rfl) rfl #[.slice A0 l0.length c0, .slice Ao33 t165.length co33] rfl (by (try simp only [List.map_toArray, List.map_cons, List.map_nil]); first | done | rfl | (simp only [List.length_drop, List.length_take]; rfl)) ?_; (with_reducible refine (warplaw4_Cells.calls kj6 _ _ l0 _ _ t165 t168 _ ?side1 ?side2 ?side3 ?side4 A16.out).mono ?_); (case side1 => repeat (first | exact (Kd.C_below HR0.out HB.out) | (with_reducible refine Kd.C_alloc ?_ _) | (with_reducible refine Kd.C_drewN ?_ _) | (with_reducible refine Kd.C_drew ?_))); (case side2 => exact HC0.out); (case side3 => repeat (first | exact (Kd.R_reads' HO167.out).2.2 | (with_reducible refine Kd.C_alloc ?_ _) | (with_reducible refine Kd.C_drewN ?_ _) | (with_reducible refine Kd.C_drew ?_))); (case side4 => exact (Kd.R_reads' HO167.out).2.1); rintro e w34 ⟨v169, rfl, ho0, hb⟩; refine ⟨_, rfl, ?_⟩; have n0_ := Aside0.mk (Kd.R_elder' (by (with_reducible repeat (first | apply Kd.R_alloc | apply Kd.R_drewN | apply Kd.R_drew)); exact HO167.out) (Kd.R_base ho0) hb); have n1_ := Aside0.mk (Kd.R_lower (Kd.R_new' ho0 (Kd.R_lt (by (with_reducible repeat (first | apply Kd.R_alloc | apply Kd.R_drewN | apply Kd.R_drew)); exact HO167.out))) (below_size (by repeat (first | (with_reducible first | exact HB.out | apply below_alloc | apply pw_below_drewN | apply below_drew1) | exact HB.out)))); have n2_ := Aside0.mk (below_step (by repeat (first | (with_reducible first | exact HB.out | apply below_alloc | apply pw_below_drewN | apply below_drew1) | exact HB.out)) hb); clear HO167; clear HB; have HO167 := n0_; have HO170 := n1_; have HB := n2_; clear n0_ n1_ n2_; (try clear hb); (try clear hb2); (try clear hk); (try clear hi); (try clear ho0)))
             have n0_ := Aside0.mk (Kd.R_drew HO167.out)
             have n1_ := Aside0.mk (Kd.R_drew HO170.out)
             have n2_ := Aside0.mk (below_drew1 HB.out)
             clear HO167
             clear HO170
             clear HB
             have HO167 := n0_
             have HO170 := n1_
             have HB := n2_
             clear n0_ n1_ n2_
             have p171 : 0 ≤ (0 : Int) := (by omega)
             have q171 : 0 < (l2.length : Int) := of_decide_eq_true (by first | (with_reducible assumption) | assumption)
             obtain ⟨ad171, e171, hx171_0⟩ := Kd.at_int HR2.out 0 p171 q171
             have hw171_0 := hx171_0
             (try rw [show ((0 : Int)).toNat = 0 from rfl] at hw171_0)
             (try rw [show 0 * 1 = 0 from rfl] at hw171_0)
             (try rw [Addr.add_zero'] at hw171_0)
             cases e171
             have qi171 : (0 < l2.length) = True := eq_true (by omega)
             (try rw [show ((0 : Int)).toNat = 0 from rfl] at hx171_0)
             (try rw [Addr.add_zero'] at hx171_0)
             replace hx171_0 := (HB.out.cell (World.block_lt_of_cell? w _ hx171_0)).trans hx171_0
             replace p171 := eq_true p171
             replace q171 := eq_true q171
             have p172 : 0 ≤ (1 : Int) := (by omega)
             have q172 : 1 < (l2.length : Int) := of_decide_eq_true (by first | (with_reducible assumption) | assumption)
             obtain ⟨ad172, e172, hx172_0⟩ := Kd.at_int HR2.out 1 p172 q172
             have hw172_0 := hx172_0
             (try rw [show ((1 : Int)).toNat = 1 from rfl] at hw172_0)
             (try rw [show 1 * 1 = 1 from rfl] at hw172_0)
             (try simp only [Nat.reduceMul, Nat.reduceEqDiff, Go.Addr.add, ↓reduceIte] at hw172_0)
             obtain rfl : ad171 = ad172 := (by injection e172)
             (try simp only [show (1 : Int).toNat = 1 from rfl, Nat.reduceMul, Nat.reduceEqDiff, Go.Addr.add, ↓reduceIte] at hx172_0)
             have qi172 : (1 < l2.length) = True := eq_true (by omega)
             (try rw [show ((1 : Int)).toNat = 1 from rfl] at hx172_0)
             replace hx172_0 := (HB.out.cell (World.block_lt_of_cell? w _ hx172_0)).trans hx172_0
             replace p172 := eq_true p172
             replace q172 := eq_true q172
             have p173 : 0 ≤ (2 : Int) := (by omega)
             have q173 : 2 < (l2.length : Int) := of_decide_eq_true (by first | (with_reducible assumption) | assumption)
             obtain ⟨ad173, e173, hx173_0⟩ := Kd.at_int HR2.out 2 p173 q173
             have hw173_0 := hx173_0
             (try rw [show ((2 : Int)).toNat = 2 from rfl] at hw173_0)
             (try rw [show 2 * 1 = 2 from rfl] at hw173_0)
             (try simp only [Nat.reduceMul, Nat.reduceEqDiff, Go.Addr.add, ↓reduceIte] at hw173_0)
             obtain rfl : ad171 = ad173 := (by injection e173)
             (try simp only [show (2 : Int).toNat = 2 from rfl, Nat.reduceMul, Nat.reduceEqDiff, Go.Addr.add, ↓reduceIte] at hx173_0)
             have qi173 : (2 < l2.length) = True := eq_true (by omega)
             (try rw [show ((2 : Int)).toNat = 2 from rfl] at hx173_0)
             replace hx173_0 := (HB.out.cell (World.block_lt_of_cell? w _ hx173_0)).trans hx173_0
             replace p173 := eq_true p173
             replace q173 := eq_true q173
             have p188 : 0 ≤ (0 : Int) := (by omega)
             have q188 : 0 < (l3.length : Int) := of_decide_eq_true (by first | (with_reducible assumption) | assumption)
             obtain ⟨ad188, e188, hx188_0⟩ := Kd.at_int HR3.out 0 p188 q188
             have hw188_0 := hx188_0
             (try rw [show ((0 : Int)).toNat = 0 from rfl] at hw188_0)
             (try rw [show 0 * 1 = 0 from rfl] at hw188_0)
             (try rw [Addr.add_zero'] at hw188_0)
             cases e188
             have qi188 : (0 < l3.length) = True := eq_true (by omega)
             (try rw [show ((0 : Int)).toNat = 0 from rfl] at hx188_0)
             (try rw [Addr.add_zero'] at hx188_0)
             replace hx188_0 := (HB.out.cell (World.block_lt_of_cell? w _ hx188_0)).trans hx188_0
             replace p188 := eq_true p188
             replace q188 := eq_true q188
             have p189 : 0 ≤ (1 : Int) := (by omega)
             have q189 : 1 < (l3.length : Int) := of_decide_eq_true (by first | (with_reducible assumption) | assumption)
             obtain ⟨ad189, e189, hx189_0⟩ := Kd.at_int HR3.out 1 p189 q189
             have hw189_0 := hx189_0
             (try rw [show ((1 : Int)).toNat = 1 from rfl] at hw189_0)
             (try rw [show 1 * 1 = 1 from rfl] at hw189_0)
             (try simp only [Nat.reduceMul, Nat.reduceEqDiff, Go.Addr.add, ↓reduceIte] at hw189_0)
             obtain rfl : ad188 = ad189 := (by injection e189)
             (try simp only [show (1 : Int).toNat = 1 from rfl, Nat.reduceMul, Nat.reduceEqDiff, Go.Addr.add, ↓reduceIte] at hx189_0)
             have qi189 : (1 < l3.length) = True := eq_true (by omega)
             (try rw [show ((1 : Int)).toNat = 1 from rfl] at hx189_0)
             replace hx189_0 := (HB.out.cell (World.block_lt_of_cell? w _ hx189_0)).trans hx189_0
             replace p189 := eq_true p189
             replace q189 := eq_true q189
             have p190 : 0 ≤ (2 : Int) := (by omega)
             have q190 : 2 < (l3.length : Int) := of_decide_eq_true (by first | (with_reducible assumption) | assumption)
             obtain ⟨ad190, e190, hx190_0⟩ := Kd.at_int HR3.out 2 p190 q190
             have hw190_0 := hx190_0
             (try rw [show ((2 : Int)).toNat = 2 from rfl] at hw190_0)
             (try rw [show 2 * 1 = 2 from rfl] at hw190_0)
             (try simp only [Nat.reduceMul, Nat.reduceEqDiff, Go.Addr.add, ↓reduceIte] at hw190_0)
             obtain rfl : ad188 = ad190 := (by injection e190)
             (try simp only [show (2 : Int).toNat = 2 from rfl, Nat.reduceMul, Nat.reduceEqDiff, Go.Addr.add, ↓reduceIte] at hx190_0)
             have qi190 : (2 < l3.length) = True := eq_true (by omega)
             (try rw [show ((2 : Int)).toNat = 2 from rfl] at hx190_0)
             replace hx190_0 := (HB.out.cell (World.block_lt_of_cell? w _ hx190_0)).trans hx190_0
             replace p190 := eq_true p190
             replace q190 := eq_true q190
             have p205 : 0 ≤ (0 : Int) := (by omega)
             have q205 : 0 < (l4.length : Int) := of_decide_eq_true (by first | (with_reducible assumption) | assumption)
             obtain ⟨ad205, e205, hx205_0⟩ := Kd.at_int HR4.out 0 p205 q205
             have hw205_0 := hx205_0
             (try rw [show ((0 : Int)).toNat = 0 from rfl] at hw205_0)
             (try rw [show 0 * 1 = 0 from rfl] at hw205_0)
             (try rw [Addr.add_zero'] at hw205_0)
             cases e205
             have qi205 : (0 < l4.length) = True := eq_true (by omega)
             (try rw [show ((0 : Int)).toNat = 0 from rfl] at hx205_0)
             (try rw [Addr.add_zero'] at hx205_0)
             replace hx205_0 := (HB.out.cell (World.block_lt_of_cell? w _ hx205_0)).trans hx205_0
             replace p205 := eq_true p205
             replace q205 := eq_true q205
             have p206 : 0 ≤ (1 : Int) := (by omega)
             have q206 : 1 < (l4.length : Int) := of_decide_eq_true (by first | (with_reducible assumption) | assumption)
             obtain ⟨ad206, e206, hx206_0⟩ := Kd.at_int HR4.out 1 p206 q206
             have hw206_0 := hx206_0
             (try rw [show ((1 : Int)).toNat = 1 from rfl] at hw206_0)
             (try rw [show 1 * 1 = 1 from rfl] at hw206_0)
             (try simp only [Nat.reduceMul, Nat.reduceEqDiff, Go.Addr.add, ↓reduceIte] at hw206_0)
             obtain rfl : ad205 = ad206 := (by injection e206)
             (try simp only [show (1 : Int).toNat = 1 from rfl, Nat.reduceMul, Nat.reduceEqDiff, Go.Addr.add, ↓reduceIte] at hx206_0)
             have qi206 : (1 < l4.length) = True := eq_true (by omega)
             (try rw [show ((1 : Int)).toNat = 1 from rfl] at hx206_0)
             replace hx206_0 := (HB.out.cell (World.block_lt_of_cell? w _ hx206_0)).trans hx206_0
             replace p206 := eq_true p206
             replace q206 := eq_true q206
             have p207 : 0 ≤ (2 : Int) := (by omega)
             have q207 : 2 < (l4.length : Int) := of_decide_eq_true (by first | (with_reducible assumption) | assumption)
             obtain ⟨ad207, e207, hx207_0⟩ := Kd.at_int HR4.out 2 p207 q207
             have hw207_0 := hx207_0
             (try rw [show ((2 : Int)).toNat = 2 from rfl] at hw207_0)
             (try rw [show 2 * 1 = 2 from rfl] at hw207_0)
             (try simp only [Nat.reduceMul, Nat.reduceEqDiff, Go.Addr.add, ↓reduceIte] at hw207_0)
             obtain rfl : ad205 = ad207 := (by injection e207)
             (try simp only [show (2 : Int).toNat = 2 from rfl, Nat.reduceMul, Nat.reduceEqDiff, Go.Addr.add, ↓reduceIte] at hx207_0)
             have qi207 : (2 < l4.length) = True := eq_true (by omega)
             (try rw [show ((2 : Int)).toNat = 2 from rfl] at hx207_0)
             replace hx207_0 := (HB.out.cell (World.block_lt_of_cell? w _ hx207_0)).trans hx207_0
             replace p207 := eq_true p207
             replace q207 := eq_true q207
             refine start_ (n := 44) (S := fun w' => w'.cell? ad171 = some (.int .u8 (rd l2 0)) ∧ w'.cell? ⟨ad171.block, ad171.off + 1, none⟩ = some (.int .u8 (rd l2 1)) ∧ w'.cell? ⟨ad171.block, ad171.off + 2, none⟩ = some (.int .u8 (rd l2 2)) ∧ w'.cell? ad188 = some (.int .u8 (rd l3 0)) ∧ w'.cell? ⟨ad188.block, ad188.off + 1, none⟩ = some (.int .u8 (rd l3 1)) ∧ w'.cell? ⟨ad188.block, ad188.off + 2, none⟩ = some (.int .u8 (rd l3 2)) ∧ w'.cell? ad205 = some (.int .u8 (rd l4 0)) ∧ w'.cell? ⟨ad205.block, ad205.off + 1, none⟩ = some (.int .u8 (rd l4 1)) ∧ w'.cell? ⟨ad205.block, ad205.off + 2, none⟩ = some (.int .u8 (rd l4 2))) (ds := []) #[false, false, false, false, false, false, false, false, false, false, false, false, false, false, false, false, false, false, false, false, false, false, false, false, false, false, false, false, false, false, false, false, false, false, false, false, false, false, false, false, false, false, false, false] (by kernel_rfl) rfl rfl ⟨((HB.out.cell (World.block_lt_of_cell? w _ hw171_0)).trans hw171_0), ((HB.out.cell (World.block_lt_of_cell? w _ hw172_0)).trans hw172_0), ((HB.out.cell (World.block_lt_of_cell? w _ hw173_0)).trans hw173_0), ((HB.out.cell (World.block_lt_of_cell? w _ hw188_0)).trans hw188_0), ((HB.out.cell (World.block_lt_of_cell? w _ hw189_0)).trans hw189_0), ((HB.out.cell (World.block_lt_of_cell? w _ hw190_0)).trans hw190_0), ((HB.out.cell (World.block_lt_of_cell? w _ hw205_0)).trans hw205_0), ((HB.out.cell (World.block_lt_of_cell? w _ hw206_0)).trans hw206_0), ((HB.out.cell (World.block_lt_of_cell? w _ hw207_0)).trans hw207_0)⟩ (fun hHeld => ?_); refine with_tabW warplaw4_CufSteps.tab6 warplaw4_CufSteps.bits6 (fun HT_ HW_ => ?_)
             generalize w34.drew = w35 at HO167 HO170 HB hx171_0 hx172_0 hx173_0 hx188_0 hx189_0 hx190_0 hx205_0 hx206_0 hx207_0 hHeld ⊢
             refine pure_ (i := 0) (N := some 57) (v := ?_) (a' := ?_) #[true, false, false, false, false, false, false, false, false, false, false, false, false, false, false, false, false, false, false, false, false, false, false, false, false, false, false, false, false, false, false, false, false, false, false, false, false, false, false, false, false, false, false, false] rfl rfl (any_of HT_.out (by kernel_rfl)) (fun _ _ _ h => h) (Or.inl ⟨by rfl, ?_⟩) ?_ ?_
             rotate_left
             ·
              intro w'
              go_simp
              with_reducible rfl
             rotate_left
             ·
              simp only [Act.put, List.setIfInBounds_toArray, List.set_cons_zero, List.set_cons_succ, i64_w, i32_w]
              rfl
             refine pure_ (i := 1) (N := some 58) (v := ?_) (a' := ?_) #[true, true, false, false, false, false, false, false, false, false, false, false, false, false, false, false, false, false, false, false, false, false, false, false, false, false, false, false, false, false, false, false, false, false, false, false, false, false, false, false, false, false, false, false] rfl rfl (any_of HT_.out (by kernel_rfl)) (fun _ _ _ h => h) (Or.inl ⟨by rfl, ?_⟩) ?_ ?_
             rotate_left
             ·
              intro w'
              go_simp
              with_reducible rfl
             rotate_left
             ·
              simp only [Act.put, List.setIfInBounds_toArray, List.set_cons_zero, List.set_cons_succ, i64_w, i32_w]
              rfl
             refine pure_ (i := 3) (N := some 60) (v := ?_) (a' := ?_) #[true, true, false, true, false, false, false, false, false, false, false, false, false, false, false, false, false, false, false, false, false, false, false, false, false, false, false, false, false, false, false, false, false, false, false, false, false, false, false, false, false, false, false, false] rfl rfl (any_of HT_.out (by kernel_rfl)) (fun _ _ _ h => h) (Or.inl ⟨by rfl, ?_⟩) ?_ ?_
             rotate_left
             ·
              intro w'
              go_simp
              with_reducible rfl
             rotate_left
             ·
              simp only [Act.put, List.setIfInBounds_toArray, List.set_cons_zero, List.set_cons_succ, i64_w, i32_w]
              rfl
             refine pure_ (i := 4) (N := some 61) (v := ?_) (a' := ?_) #[true, true, false, true, true, false, false, false, false, false, false, false, false, false, false, false, false, false, false, false, false, false, false, false, false, false, false, false, false, false, false, false, false, false, false, false, false, false, false, false, false, false, false, false] rfl rfl (any_of HT_.out (by kernel_rfl)) (fun _ _ _ h => h) (Or.inl ⟨by rfl, ?_⟩) ?_ ?_
             rotate_left
             ·
              intro w'
              go_simp
              with_reducible rfl
             rotate_left
             ·
              simp only [Act.put, List.setIfInBounds_toArray, List.set_cons_zero, List.set_cons_succ, i64_w, i32_w]
              rfl
             refine pure_ (i := 6) (N := some 63) (v := ?_) (a' := ?_) #[true, true, false, true, true, false, true, false, false, false, false, false, false, false, false, false, false, false, false, false, false, false, false, false, false, false, false, false, false, false, false, false, false, false, false, false, false, false, false, false, false, false, false, false] rfl rfl (any_of HT_.out (by kernel_rfl)) (fun _ _ _ h => h) (Or.inl ⟨by rfl, ?_⟩) ?_ ?_
             rotate_left
             ·
              intro w'
              go_simp
              with_reducible rfl
             rotate_left
             ·
              simp only [Act.put, List.setIfInBounds_toArray, List.set_cons_zero, List.set_cons_succ, i64_w, i32_w]
              rfl
             refine pure_ (i := 7) (N := some 64) (v := ?_) (a' := ?_) #[true, true, false, true, true, false, true, true, false, false, false, false, false, false, false, false, false, false, false, false, false, false, false, false, false, false, false, false, false, false, false, false, false, false, false, false, false, false, false, false, false, false, false, false] rfl rfl (any_of HT_.out (by kernel_rfl)) (fun _ _ _ h => h) (Or.inl ⟨by rfl, ?_⟩) ?_ ?_
             rotate_left
             ·
              intro w'
              go_simp
              with_reducible rfl
             rotate_left
             ·
              simp only [Act.put, List.setIfInBounds_toArray, List.set_cons_zero, List.set_cons_succ, i64_w, i32_w]
              rfl
             refine pure_ (i := 9) (N := some 66) (v := ?_) (a' := ?_) #[true, true, false, true, true, false, true, true, false, true, false, false, false, false, false, false, false, false, false, false, false, false, false, false, false, false, false, false, false, false, false, false, false, false, false, false, false, false, false, false, false, false, false, false] rfl rfl (any_of HT_.out (by kernel_rfl)) (fun _ _ _ h => h) (Or.inl ⟨by rfl, ?_⟩) ?_ ?_
             rotate_left
             ·
              intro w'
              go_simp
              with_reducible rfl
             rotate_left
             ·
              simp only [Act.put, List.setIfInBounds_toArray, List.set_cons_zero, List.set_cons_succ, i64_w, i32_w]
              rfl
             refine pure_ (i := 11) (N := some 68) (v := ?_) (a' := ?_) #[true, true, false, true, true, false, true, true, false, true, false, true, false, false, false, false, false, false, false, false, false, false, false, false, false, false, false, false, false, false, false, false, false, false, false, false, false, false, false, false, false, false, false, false] rfl rfl (any_of HT_.out (by kernel_rfl)) (fun _ _ _ h => h) (Or.inl ⟨by rfl, ?_⟩) ?_ ?_
             rotate_left
             ·
              intro w'
              go_simp
              with_reducible rfl
             rotate_left
             ·
              simp only [Act.put, List.setIfInBounds_toArray, List.set_cons_zero, List.set_cons_succ, i64_w, i32_w]
              rfl
             refine pure_ (i := 14) (N := some 71) (v := ?_) (a' := ?_) #[true, true, false, true, true, false, true, true, false, true, false, true, false, false, true, false, false, false, false, false, false, false, false, false, false, false, false, false, false, false, false, false, false, false, false, false, false, false, false, false, false, false, false, false] rfl rfl (any_of HT_.out (by kernel_rfl)) (fun _ _ _ h => h) (Or.inl ⟨by rfl, ?_⟩) ?_ ?_
             rotate_left
             ·
              intro w'
              go_simp
              with_reducible rfl
             rotate_left
             ·
              simp only [Act.put, List.setIfInBounds_toArray, List.set_cons_zero, List.set_cons_succ, i64_w, i32_w]
              rfl
             refine pure_ (i := 15) (N := some 72) (v := ?_) (a' := ?_) #[true, true, false, true, true, false, true, true, false, true, false, true, false, false, true, true, false, false, false, false, false, false, false, false, false, false, false, false, false, false, false, false, false, false, false, false, false, false, false, false, false, false, false, false] rfl rfl (any_of HT_.out (by kernel_rfl)) (fun _ _ _ h => h) (Or.inl ⟨by rfl, ?_⟩) ?_ ?_
             rotate_left
             ·
              intro w'
              go_simp
              with_reducible rfl
             rotate_left
             ·
              simp only [Act.put, List.setIfInBounds_toArray, List.set_cons_zero, List.set_cons_succ, i64_w, i32_w]
              rfl
             refine pure_ (i := 17) (N := some 74) (v := ?_) (a' := ?_) #[true, true, false, true, true, false, true, true, false, true, false, true, false, false, true, true, false, true, false, false, false, false, false, false, false, false, false, false, false, false, false, false, false, false, false, false, false, false, false, false, false, false, false, false] rfl rfl (any_of HT_.out (by kernel_rfl)) (fun _ _ _ h => h) (Or.inl ⟨by rfl, ?_⟩) ?_ ?_
             rotate_left
             ·
              intro w'
              go_simp
              with_reducible rfl
             rotate_left
             ·
              simp only [Act.put, List.setIfInBounds_toArray, List.set_cons_zero, List.set_cons_succ, i64_w, i32_w]
              rfl
             refine pure_ (i := 18) (N := some 75) (v := ?_) (a' := ?_) #[true, true, false, true, true, false, true, true, false, true, false, true, false, false, true, true, false, true, true, false, false, false, false, false, false, false, false, false, false, false, false, false, false, false, false, false, false, false, false, false, false, false, false, false] rfl rfl (any_of HT_.out (by kernel_rfl)) (fun _ _ _ h => h) (Or.inl ⟨by rfl, ?_⟩) ?_ ?_
             rotate_left
             ·
              intro w'
              go_simp
              with_reducible rfl
             rotate_left
             ·
              simp only [Act.put, List.setIfInBounds_toArray, List.set_cons_zero, List.set_cons_succ, i64_w, i32_w]
              rfl
             refine pure_ (i := 20) (N := some 77) (v := ?_) (a' := ?_) #[true, true, false, true, true, false, true, true, false, true, false, true, false, false, true, true, false, true, true, false, true, false, false, false, false, false, false, false, false, false, false, false, false, false, false, false, false, false, false, false, false, false, false, false] rfl rfl (any_of HT_.out (by kernel_rfl)) (fun _ _ _ h => h) (Or.inl ⟨by rfl, ?_⟩) ?_ ?_
             rotate_left
             ·
              intro w'
              go_simp
              with_reducible rfl
             rotate_left
             ·
              simp only [Act.put, List.setIfInBounds_toArray, List.set_cons_zero, List.set_cons_succ, i64_w, i32_w]
              rfl
             refine pure_ (i := 21) (N := some 78) (v := ?_) (a' := ?_) #[true, true, false, true, true, false, true, true, false, true, false, true, false, false, true, true, false, true, true, false, true, true, false, false, false, false, false, false, false, false, false, false, false, false, false, false, false, false, false, false, false, false, false, false] rfl rfl (any_of HT_.out (by kernel_rfl)) (fun _ _ _ h => h) (Or.inl ⟨by rfl, ?_⟩) ?_ ?_
             rotate_left
             ·
              intro w'
              go_simp
              with_reducible rfl
             rotate_left
             ·
              simp only [Act.put, List.setIfInBounds_toArray, List.set_cons_zero, List.set_cons_succ, i64_w, i32_w]
              rfl
             refine pure_ (i := 23) (N := some 80) (v := ?_) (a' := ?_) #[true, true, false, true, true, false, true, true, false, true, false, true, false, false, true, true, false, true, true, false, true, true, false, true, false, false, false, false, false, false, false, false, false, false, false, false, false, false, false, false, false, false, false, false] rfl rfl (any_of HT_.out (by kernel_rfl)) (fun _ _ _ h => h) (Or.inl ⟨by rfl, ?_⟩) ?_ ?_
             rotate_left
             ·
              intro w'
              go_simp
              with_reducible rfl
             rotate_left
             ·
              simp only [Act.put, List.setIfInBounds_toArray, List.set_cons_zero, List.set_cons_succ, i64_w, i32_w]
              rfl
             refine pure_ (i := 25) (N := some 82) (v := ?_) (a' := ?_) #[true, true, false, true, true, false, true, true, false, true, false, true, false, false, true, true, false, true, true, false, true, true, false, true, false, true, false, false, false, false, false, false, false, false, false, false, false, false, false, false, false, false, false, false] rfl rfl (any_of HT_.out (by kernel_rfl)) (fun _ _ _ h => h) (Or.inl ⟨by rfl, ?_⟩) ?_ ?_
             rotate_left
             ·
              intro w'
              go_simp
              with_reducible rfl
             rotate_left
             ·
              simp only [Act.put, List.setIfInBounds_toArray, List.set_cons_zero, List.set_cons_succ, i64_w, i32_w]
              rfl
             refine pure_ (i := 28) (N := some 85) (v := ?_) (a' := ?_) #[true, true, false, true, true, false, true, true, false, true, false, true, false, false, true, true, false, true, true, false, true, true, false, true, false, true, false, false, true, false, false, false, false, false, false, false, false, false, false, false, false, false, false, false] rfl rfl (any_of HT_.out (by kernel_rfl)) (fun _ _ _ h => h) (Or.inl ⟨by rfl, ?_⟩) ?_ ?_
             rotate_left
             ·
              intro w'
              go_simp
              with_reducible rfl
             rotate_left
             ·
              simp only [Act.put, List.setIfInBounds_toArray, List.set_cons_zero, List.set_cons_succ, i64_w, i32_w]
              rfl
             refine pure_ (i := 29) (N := some 86) (v := ?_) (a' := ?_) #[true, true, false, true, true, false, true, true, false, true, false, true, false, false, true, true, false, true, true, false, true, true, false, true, false, true, false, false, true, true, false, false, false, false, false, false, false, false, false, false, false, false, false, false] rfl rfl (any_of HT_.out (by kernel_rfl)) (fun _ _ _ h => h) (Or.inl ⟨by rfl, ?_⟩) ?_ ?_
             rotate_left
             ·
              intro w'
              go_simp
              with_reducible rfl
             rotate_left
             ·
              simp only [Act.put, List.setIfInBounds_toArray, List.set_cons_zero, List.set_cons_succ, i64_w, i32_w]
              rfl
             refine pure_ (i := 31) (N := some 88) (v := ?_) (a' := ?_) #[true, true, false, true, true, false, true, true, false, true, false, true, false, false, true, true, false, true, true, false, true, true, false, true, false, true, false, false, true, true, false, true, false, false, false, false, false, false, false, false, false, false, false, false] rfl rfl (any_of HT_.out (by kernel_rfl)) (fun _ _ _ h => h) (Or.inl ⟨by rfl, ?_⟩) ?_ ?_
             rotate_left
             ·
              intro w'
              go_simp
              with_reducible rfl
             rotate_left
             ·
              simp only [Act.put, List.setIfInBounds_toArray, List.set_cons_zero, List.set_cons_succ, i64_w, i32_w]
              rfl
             refine pure_ (i := 32) (N := some 89) (v := ?_) (a' := ?_) #[true, true, false, true, true, false, true, true, false, true, false, true, false, false, true, true, false, true, true, false, true, true, false, true, false, true, false, false, true, true, false, true, true, false, false, false, false, false, false, false, false, false, false, false] rfl rfl (any_of HT_.out (by kernel_rfl)) (fun _ _ _ h => h) (Or.inl ⟨by rfl, ?_⟩) ?_ ?_
             rotate_left
             ·
              intro w'
              go_simp
              with_reducible rfl
             rotate_left
             ·
              simp only [Act.put, List.setIfInBounds_toArray, List.set_cons_zero, List.set_cons_succ, i64_w, i32_w]
              rfl
             refine pure_ (i := 34) (N := some 91) (v := ?_) (a' := ?_) #[true, true, false, true, true, false, true, true, false, true, false, true, false, false, true, true, false, true, true, false, true, true, false, true, false, true, false, false, true, true, false, true, true, false, true, false, false, false, false, false, false, false, false, false] rfl rfl (any_of HT_.out (by kernel_rfl)) (fun _ _ _ h => h) (Or.inl ⟨by rfl, ?_⟩) ?_ ?_
             rotate_left
             ·
              intro w'
              go_simp
              with_reducible rfl
             rotate_left
             ·
              simp only [Act.put, List.setIfInBounds_toArray, List.set_cons_zero, List.set_cons_succ, i64_w, i32_w]
              rfl
             refine pure_ (i := 35) (N := some 92) (v := ?_) (a' := ?_) #[true, true, false, true, true, false, true, true, false, true, false, true, false, false, true, true, false, true, true, false, true, true, false, true, false, true, false, false, true, true, false, true, true, false, true, true, false, false, false, false, false, false, false, false] rfl rfl (any_of HT_.out (by kernel_rfl)) (fun _ _ _ h => h) (Or.inl ⟨by rfl, ?_⟩) ?_ ?_
             rotate_left
             ·
              intro w'
              go_simp
              with_reducible rfl
             rotate_left
             ·
              simp only [Act.put, List.setIfInBounds_toArray, List.set_cons_zero, List.set_cons_succ, i64_w, i32_w]
              rfl
             refine pure_ (i := 37) (N := some 94) (v := ?_) (a' := ?_) #[true, true, false, true, true, false, true, true, false, true, false, true, false, false, true, true, false, true, true, false, true, true, false, true, false, true, false, false, true, true, false, true, true, false, true, true, false, true, false, false, false, false, false, false] rfl rfl (any_of HT_.out (by kernel_rfl)) (fun _ _ _ h => h) (Or.inl ⟨by rfl, ?_⟩) ?_ ?_
             rotate_left
             ·
              intro w'
              go_simp
              with_reducible rfl
             rotate_left
             ·
              simp only [Act.put, List.setIfInBounds_toArray, List.set_cons_zero, List.set_cons_succ, i64_w, i32_w]
              rfl
             refine pure_ (i := 39) (N := some 96) (v := ?_) (a' := ?_) #[true, true, false, true, true, false, true, true, false, true, false, true, false, false, true, true, false, true, true, false, true, true, false, true, false, true, false, false, true, true, false, true, true, false, true, true, false, true, false, true, false, false, false, false] rfl rfl (any_of HT_.out (by kernel_rfl)) (fun _ _ _ h => h) (Or.inl ⟨by rfl, ?_⟩) ?_ ?_
             rotate_left
             ·
              intro w'
              go_simp
              with_reducible rfl
             rotate_left
             ·
              simp only [Act.put, List.setIfInBounds_toArray, List.set_cons_zero, List.set_cons_succ, i64_w, i32_w]
              rfl
             refine take_ (i := 2) (N := some 59) (v := ?_) (a' := ?_) #[true, true, true, true, true, false, true, true, false, true, false, true, false, false, true, true, false, true, true, false, true, true, false, true, false, true, false, false, true, true, false, true, true, false, true, true, false, true, false, true, false, false, false, false] rfl rfl (take_ofW HT_.out HW_.out (by kernel_rfl)) (fun _ _ _ h => h) (Or.inl ⟨by rfl, ?_⟩) hHeld ?_ ?_
             rotate_left
             ·
              rintro w' ⟨s0, s1, s2, s3, s4, s5, s6, s7, s8⟩
              go_simp
              with_reducible rfl
             rotate_left
             ·
              simp only [Act.put, List.setIfInBounds_toArray, List.set_cons_zero, List.set_cons_succ, i64_w, i32_w]
              rfl
             refine take_ (i := 5) (N := some 62) (v := ?_) (a' := ?_) #[true, true, true, true, true, true, true, true, false, true, false, true, false, false, true, true, false, true, true, false, true, true, false, true, false, true, false, false, true, true, false, true, true, false, true, true, false, true, false, true, false, false, false, false] rfl rfl (take_ofW HT_.out HW_.out (by kernel_rfl)) (fun _ _ _ h => h) (Or.inl ⟨by rfl, ?_⟩) hHeld ?_ ?_
             rotate_left
             ·
              rintro w' ⟨s0, s1, s2, s3, s4, s5, s6, s7, s8⟩
              go_simp
              with_reducible rfl
             rotate_left
             ·
              simp only [Act.put, List.setIfInBounds_toArray, List.set_cons_zero, List.set_cons_succ, i64_w, i32_w]
              rfl
             refine take_ (i := 8) (N := some 65) (v := ?_) (a' := ?_) #[true, true, true, true, true, true, true, true, true, true, false, true, false, false, true, true, false, true, true, false, true, true, false, true, false, true, false, false, true, true, false, true, true, false, true, true, false, true, false, true, false, false, false, false] rfl rfl (take_ofW HT_.out HW_.out (by kernel_rfl)) (fun _ _ _ h => h) (Or.inl ⟨by rfl, ?_⟩) hHeld ?_ ?_
             rotate_left
             ·
              rintro w' ⟨s0, s1, s2, s3, s4, s5, s6, s7, s8⟩
              go_simp
              with_reducible rfl
             rotate_left
             ·
              simp only [Act.put, List.setIfInBounds_toArray, List.set_cons_zero, List.set_cons_succ, i64_w, i32_w]
              rfl
             refine take_ (i := 16) (N := some 73) (v := ?_) (a' := ?_) #[true, true, true, true, true, true, true, true, true, true, false, true, false, false, true, true, true, true, true, false, true, true, false, true, false, true, false, false, true, true, false, true, true, false, true, true, false, true, false, true, false, false, false, false] rfl rfl (take_ofW HT_.out HW_.out (by kernel_rfl)) (fun _ _ _ h => h) (Or.inl ⟨by rfl, ?_⟩) hHeld ?_ ?_
             rotate_left
             ·
              rintro w' ⟨s0, s1, s2, s3, s4, s5, s6, s7, s8⟩
              go_simp
              with_reducible rfl
             rotate_left
             ·
              simp only [Act.put, List.setIfInBounds_toArray, List.set_cons_zero, List.set_cons_succ, i64_w, i32_w]
              rfl
             refine take_ (i := 19) (N := some 76) (v := ?_) (a' := ?_) #[true, true, true, true, true, true, true, true, true, true, false, true, false, false, true, true, true, true, true, true, true, true, false, true, false, true, false, false, true, true, false, true, true, false, true, true, false, true, false, true, false, false, false, false] rfl rfl (take_ofW HT_.out HW_.out (by kernel_rfl)) (fun _ _ _ h => h) (Or.inl ⟨by rfl, ?_⟩) hHeld ?_ ?_
             rotate_left
             ·
              rintro w' ⟨s0, s1, s2, s3, s4, s5, s6, s7, s8⟩
              go_simp
              with_reducible rfl
             rotate_left
             ·
              simp only [Act.put, List.setIfInBounds_toArray, List.set_cons_zero, List.set_cons_succ, i64_w, i32_w]
              rfl
             refine take_ (i := 22) (N := some 79) (v := ?_) (a' := ?_) #[true, true, true, true, true, true, true, true, true, true, false, true, false, false, true, true, true, true, true, true, true, true, true, true, false, true, false, false, true, true, false, true, true, false, true, true, false, true, false, true, false, false, false, false] rfl rfl (take_ofW HT_.out HW_.out (by kernel_rfl)) (fun _ _ _ h => h) (Or.inl ⟨by rfl, ?_⟩) hHeld ?_ ?_
             rotate_left
             ·
              rintro w' ⟨s0, s1, s2, s3, s4, s5, s6, s7, s8⟩
              go_simp
              with_reducible rfl
             rotate_left
             ·
              simp only [Act.put, List.setIfInBounds_toArray, List.set_cons_zero, List.set_cons_succ, i64_w, i32_w]
              rfl
             refine take_ (i := 30) (N := some 87) (v := ?_) (a' := ?_) #[true, true, true, true, true, true, true, true, true, true, false, true, false, false, true, true, true, true, true, true, true, true, true, true, false, true, false, false, true, true, true, true, true, false, true, true, false, true, false, true, false, false, false, false] rfl rfl (take_ofW HT_.out HW_.out (by kernel_rfl)) (fun _ _ _ h => h) (Or.inl ⟨by rfl, ?_⟩) hHeld ?_ ?_
             rotate_left
             ·
              rintro w' ⟨s0, s1, s2, s3, s4, s5, s6, s7, s8⟩
              go_simp
              with_reducible rfl
             rotate_left
             ·
              simp only [Act.put, List.setIfInBounds_toArray, List.set_cons_zero, List.set_cons_succ, i64_w, i32_w]
              rfl
             refine take_ (i := 33) (N := some 90) (v := ?_) (a' := ?_) #[true, true, true, true, true, true, true, true, true, true, false, true, false, false, true, true, true, true, true, true, true, true, true, true, false, true, false, false, true, true, true, true, true, true, true, true, false, true, false, true, false, false, false, false] rfl rfl (take_ofW HT_.out HW_.out (by kernel_rfl)) (fun _ _ _ h => h) (Or.inl ⟨by rfl, ?_⟩) hHeld ?_ ?_
             rotate_left
             ·
              rintro w' ⟨s0, s1, s2, s3, s4, s5, s6, s7, s8⟩
              go_simp
              with_reducible rfl
             rotate_left
             ·
              simp only [Act.put, List.setIfInBounds_toArray, List.set_cons_zero, List.set_cons_succ, i64_w, i32_w]
              rfl
             refine take_ (i := 36) (N := some 93) (v := ?_) (a' := ?_) #[true, true, true, true, true, true, true, true, true, true, false, true, false, false, true, true, true, true, true, true, true, true, true, true, false, true, false, false, true, true, true, true, true, true, true, true, true, true, false, true, false, false, false, false] rfl rfl (take_ofW HT_.out HW_.out (by kernel_rfl)) (fun _ _ _ h => h) (Or.inl ⟨by rfl, ?_⟩) hHeld ?_ ?_
             rotate_left
             ·
              rintro w' ⟨s0, s1, s2, s3, s4, s5, s6, s7, s8⟩
              go_simp
              with_reducible rfl
             rotate_left
             ·
              simp only [Act.put, List.setIfInBounds_toArray, List.set_cons_zero, List.set_cons_succ, i64_w, i32_w]
              rfl
             refine one_ (i := 10) (N := some 67) #[true, true, true, true, true, true, true, true, true, true, true, true, false, false, true, true, true, true, true, true, true, true, true, true, false, true, false, false, true, true, true, true, true, true, true, true, true, true, false, true, false, false, false, false] rfl rfl (one_of HT_.out (by kernel_rfl)) (by decide) (fun K hK => ?_)
             refine goes_ Try.func11 (by kernel_rfl) rfl #[.int .u8 (rd l2 0), .int .u8 (rd l2 1), .int .u8 (rd l2 2), .int .i64 (1 + ((l1.length : Int) % 16))] (by rfl) rfl rfl (by (try simp only [List.map_toArray, List.map_cons, List.map_nil]); first | done | rfl | (simp only [List.length_drop, List.length_take]; rfl)) ?_
             with_reducible refine (warplaw4_op.calls (rd l2 0) (rd l2 1) (rd l2 2) (1 + ((l1.length : Int) % 16)) t174 t175 t176 _ A20.out).mono ?_
             rintro e w36 ⟨rfl, hb⟩
             refine ⟨_, rfl, ?_⟩
             have n0_ := Aside0.mk (Kd.R_below (by (with_reducible repeat (first | apply Kd.R_alloc | apply Kd.R_drewN | apply Kd.R_drew)); exact HO167.out) hb)
             have n1_ := Aside0.mk (Kd.R_below (by (with_reducible repeat (first | apply Kd.R_alloc | apply Kd.R_drewN | apply Kd.R_drew)); exact HO170.out) hb)
             have n2_ := Aside0.mk (below_step (by repeat (first | (with_reducible first | exact HB.out | apply below_alloc | apply pw_below_drewN | apply below_drew1) | exact HB.out)) hb)
             clear HO167
             clear HO170
             clear HB
             have HO167 := n0_
             have HO170 := n1_
             have HB := n2_
             clear n0_ n1_ n2_
             (try clear hb)
             (try clear hb2)
             (try clear hk)
             (try clear hi)
             refine hK.out _ _ ⟨((HB.out.cell (World.block_lt_of_cell? w _ hw171_0)).trans hw171_0), ((HB.out.cell (World.block_lt_of_cell? w _ hw172_0)).trans hw172_0), ((HB.out.cell (World.block_lt_of_cell? w _ hw173_0)).trans hw173_0), ((HB.out.cell (World.block_lt_of_cell? w _ hw188_0)).trans hw188_0), ((HB.out.cell (World.block_lt_of_cell? w _ hw189_0)).trans hw189_0), ((HB.out.cell (World.block_lt_of_cell? w _ hw190_0)).trans hw190_0), ((HB.out.cell (World.block_lt_of_cell? w _ hw205_0)).trans hw205_0), ((HB.out.cell (World.block_lt_of_cell? w _ hw206_0)).trans hw206_0), ((HB.out.cell (World.block_lt_of_cell? w _ hw207_0)).trans hw207_0)⟩ (fun hHeld => ?_)
             clear hK K
             refine norm_ (a' := ?_) ?_ ?_
             rotate_left
             ·
              show Act.put _ (some 67) _ = _
              simp only [Act.put, List.setIfInBounds_toArray, List.set_cons_zero, List.set_cons_succ, i64_w, i32_w]
              rfl
             refine one_ (i := 12) (N := some 69) #[true, true, true, true, true, true, true, true, true, true, true, true, true, false, true, true, true, true, true, true, true, true, true, true, false, true, false, false, true, true, true, true, true, true, true, true, true, true, false, true, false, false, false, false] rfl rfl (one_of HT_.out (by kernel_rfl)) (by decide) (fun K hK => ?_)
             refine goes_ Try.func16 (by kernel_rfl) rfl #[.agg #[.int .i64 t174, .int .i64 t175, .int .i64 t176], .int .i64 (1 + ((l1.length : Int) % 16))] (by rfl) rfl rfl (by (try simp only [List.map_toArray, List.map_cons, List.map_nil]); first | done | rfl | (simp only [List.length_drop, List.length_take]; rfl)) ?_
             with_reducible refine (warpref1_Begin.calls t174 t175 t176 (1 + ((l1.length : Int) % 16)) t177 t178 t179 t180 t181 t182 t183 t184 t185 t186 t187 _ A21.out).mono ?_
             rintro e w37 ⟨rfl, hb⟩
             refine ⟨_, rfl, ?_⟩
             have n0_ := Aside0.mk (Kd.R_below (by (with_reducible repeat (first | apply Kd.R_alloc | apply Kd.R_drewN | apply Kd.R_drew)); exact HO167.out) hb)
             have n1_ := Aside0.mk (Kd.R_below (by (with_reducible repeat (first | apply Kd.R_alloc | apply Kd.R_drewN | apply Kd.R_drew)); exact HO170.out) hb)
             have n2_ := Aside0.mk (below_step (by repeat (first | (with_reducible first | exact HB.out | apply below_alloc | apply pw_below_drewN | apply below_drew1) | exact HB.out)) hb)
             clear HO167
             clear HO170
             clear HB
             have HO167 := n0_
             have HO170 := n1_
             have HB := n2_
             clear n0_ n1_ n2_
             (try clear hb)
             (try clear hb2)
             (try clear hk)
             (try clear hi)
             refine hK.out _ _ ⟨((HB.out.cell (World.block_lt_of_cell? w _ hw171_0)).trans hw171_0), ((HB.out.cell (World.block_lt_of_cell? w _ hw172_0)).trans hw172_0), ((HB.out.cell (World.block_lt_of_cell? w _ hw173_0)).trans hw173_0), ((HB.out.cell (World.block_lt_of_cell? w _ hw188_0)).trans hw188_0), ((HB.out.cell (World.block_lt_of_cell? w _ hw189_0)).trans hw189_0), ((HB.out.cell (World.block_lt_of_cell? w _ hw190_0)).trans hw190_0), ((HB.out.cell (World.block_lt_of_cell? w _ hw205_0)).trans hw205_0), ((HB.out.cell (World.block_lt_of_cell? w _ hw206_0)).trans hw206_0), ((HB.out.cell (World.block_lt_of_cell? w _ hw207_0)).trans hw207_0)⟩ (fun hHeld => ?_)
             clear hK K
             refine norm_ (a' := ?_) ?_ ?_
             rotate_left
             ·
              show Act.put _ (some 69) _ = _
              simp only [Act.put, List.setIfInBounds_toArray, List.set_cons_zero, List.set_cons_succ, i64_w, i32_w]
              rfl
             refine pure_ (i := 13) (N := some 70) (v := ?_) (a' := ?_) #[true, true, true, true, true, true, true, true, true, true, true, true, true, true, true, true, true, true, true, true, true, true, true, true, false, true, false, false, true, true, true, true, true, true, true, true, true, true, false, true, false, false, false, false] rfl rfl (any_of HT_.out (by kernel_rfl)) (fun _ _ _ h => h) (Or.inl ⟨by rfl, ?_⟩) ?_ ?_
             rotate_left
             ·
              intro w'
              go_simp
              with_reducible rfl
             rotate_left
             ·
              simp only [Act.put, List.setIfInBounds_toArray, List.set_cons_zero, List.set_cons_succ, i64_w, i32_w]
              rfl
             refine one_ (i := 24) (N := some 81) #[true, true, true, true, true, true, true, true, true, true, true, true, true, true, true, true, true, true, true, true, true, true, true, true, true, true, false, false, true, true, true, true, true, true, true, true, true, true, false, true, false, false, false, false] rfl rfl (one_of HT_.out (by kernel_rfl)) (by decide) (fun K hK => ?_)
             refine goes_ Try.func11 (by kernel_rfl) rfl #[.int .u8 (rd l3 0), .int .u8 (rd l3 1), .int .u8 (rd l3 2), .int .i64 (1 + ((l1.length : Int) % 16))] (by rfl) rfl rfl (by (try simp only [List.map_toArray, List.map_cons, List.map_nil]); first | done | rfl | (simp only [List.length_drop, List.length_take]; rfl)) ?_
             with_reducible refine (warplaw4_op.calls (rd l3 0) (rd l3 1) (rd l3 2) (1 + ((l1.length : Int) % 16)) t191 t192 t193 _ A25.out).mono ?_
             rintro e w38 ⟨rfl, hb⟩
             refine ⟨_, rfl, ?_⟩
             have n0_ := Aside0.mk (Kd.R_below (by (with_reducible repeat (first | apply Kd.R_alloc | apply Kd.R_drewN | apply Kd.R_drew)); exact HO167.out) hb)
             have n1_ := Aside0.mk (Kd.R_below (by (with_reducible repeat (first | apply Kd.R_alloc | apply Kd.R_drewN | apply Kd.R_drew)); exact HO170.out) hb)
             have n2_ := Aside0.mk (below_step (by repeat (first | (with_reducible first | exact HB.out | apply below_alloc | apply pw_below_drewN | apply below_drew1) | exact HB.out)) hb)
             clear HO167
             clear HO170
             clear HB
             have HO167 := n0_
             have HO170 := n1_
             have HB := n2_
             clear n0_ n1_ n2_
             (try clear hb)
             (try clear hb2)
             (try clear hk)
             (try clear hi)
             refine hK.out _ _ ⟨((HB.out.cell (World.block_lt_of_cell? w _ hw171_0)).trans hw171_0), ((HB.out.cell (World.block_lt_of_cell? w _ hw172_0)).trans hw172_0), ((HB.out.cell (World.block_lt_of_cell? w _ hw173_0)).trans hw173_0), ((HB.out.cell (World.block_lt_of_cell? w _ hw188_0)).trans hw188_0), ((HB.out.cell (World.block_lt_of_cell? w _ hw189_0)).trans hw189_0), ((HB.out.cell (World.block_lt_of_cell? w _ hw190_0)).trans hw190_0), ((HB.out.cell (World.block_lt_of_cell? w _ hw205_0)).trans hw205_0), ((HB.out.cell (World.block_lt_of_cell? w _ hw206_0)).trans hw206_0), ((HB.out.cell (World.block_lt_of_cell? w _ hw207_0)).trans hw207_0)⟩ (fun hHeld => ?_)
             clear hK K
             refine norm_ (a' := ?_) ?_ ?_
             rotate_left
             ·
              show Act.put _ (some 81) _ = _
              simp only [Act.put, List.setIfInBounds_toArray, List.set_cons_zero, List.set_cons_succ, i64_w, i32_w]
              rfl
             refine one_ (i := 26) (N := some 83) #[true, true, true, true, true, true, true, true, true, true, true, true, true, true, true, true, true, true, true, true, true, true, true, true, true, true, true, false, true, true, true, true, true, true, true, true, true, true, false, true, false, false, false, false] rfl rfl (one_of HT_.out (by kernel_rfl)) (by decide) (fun K hK => ?_)
             refine goes_ Try.func16 (by kernel_rfl) rfl #[.agg #[.int .i64 t191, .int .i64 t192, .int .i64 t193], .int .i64 (1 + ((l1.length : Int) % 16))] (by rfl) rfl rfl (by (try simp only [List.map_toArray, List.map_cons, List.map_nil]); first | done | rfl | (simp only [List.length_drop, List.length_take]; rfl)) ?_
             with_reducible refine (warpref1_Begin.calls t191 t192 t193 (1 + ((l1.length : Int) % 16)) t194 t195 t196 t197 t198 t199 t200 t201 t202 t203 t204 _ A26.out).mono ?_
             rintro e w39 ⟨rfl, hb⟩
             refine ⟨_, rfl, ?_⟩
             have n0_ := Aside0.mk (Kd.R_below (by (with_reducible repeat (first | apply Kd.R_alloc | apply Kd.R_drewN | apply Kd.R_drew)); exact HO167.out) hb)
             have n1_ := Aside0.mk (Kd.R_below (by (with_reducible repeat (first | apply Kd.R_alloc | apply Kd.R_drewN | apply Kd.R_drew)); exact HO170.out) hb)
             have n2_ := Aside0.mk (below_step (by repeat (first | (with_reducible first | exact HB.out | apply below_alloc | apply pw_below_drewN | apply below_drew1) | exact HB.out)) hb)
             clear HO167
             clear HO170
             clear HB
             have HO167 := n0_
             have HO170 := n1_
             have HB := n2_
             clear n0_ n1_ n2_
             (try clear hb)
             (try clear hb2)
             (try clear hk)
             (try clear hi)
             refine hK.out _ _ ⟨((HB.out.cell (World.block_lt_of_cell? w _ hw171_0)).trans hw171_0), ((HB.out.cell (World.block_lt_of_cell? w _ hw172_0)).trans hw172_0), ((HB.out.cell (World.block_lt_of_cell? w _ hw173_0)).trans hw173_0), ((HB.out.cell (World.block_lt_of_cell? w _ hw188_0)).trans hw188_0), ((HB.out.cell (World.block_lt_of_cell? w _ hw189_0)).trans hw189_0), ((HB.out.cell (World.block_lt_of_cell? w _ hw190_0)).trans hw190_0), ((HB.out.cell (World.block_lt_of_cell? w _ hw205_0)).trans hw205_0), ((HB.out.cell (World.block_lt_of_cell? w _ hw206_0)).trans hw206_0), ((HB.out.cell (World.block_lt_of_cell? w _ hw207_0)).trans hw207_0)⟩ (fun hHeld => ?_)
             clear hK K
             refine norm_ (a' := ?_) ?_ ?_
             rotate_left
             ·
              show Act.put _ (some 83) _ = _
              simp only [Act.put, List.setIfInBounds_toArray, List.set_cons_zero, List.set_cons_succ, i64_w, i32_w]
              rfl
             refine pure_ (i := 27) (N := some 84) (v := ?_) (a' := ?_) #[true, true, true, true, true, true, true, true, true, true, true, true, true, true, true, true, true, true, true, true, true, true, true, true, true, true, true, true, true, true, true, true, true, true, true, true, true, true, false, true, false, false, false, false] rfl rfl (any_of HT_.out (by kernel_rfl)) (fun _ _ _ h => h) (Or.inl ⟨by rfl, ?_⟩) ?_ ?_
             rotate_left
             ·
              intro w'
              go_simp
              with_reducible rfl
             rotate_left
             ·
              simp only [Act.put, List.setIfInBounds_toArray, List.set_cons_zero, List.set_cons_succ, i64_w, i32_w]
              rfl
             refine one_ (i := 38) (N := some 95) #[true, true, true, true, true, true, true, true, true, true, true, true, true, true, true, true, true, true, true, true, true, true, true, true, true, true, true, true, true, true, true, true, true, true, true, true, true, true, true, true, false, false, false, false] rfl rfl (one_of HT_.out (by kernel_rfl)) (by decide) (fun K hK => ?_)
             refine goes_ Try.func11 (by kernel_rfl) rfl #[.int .u8 (rd l4 0), .int .u8 (rd l4 1), .int .u8 (rd l4 2), .int .i64 (1 + ((l1.length : Int) % 16))] (by rfl) rfl rfl (by (try simp only [List.map_toArray, List.map_cons, List.map_nil]); first | done | rfl | (simp only [List.length_drop, List.length_take]; rfl)) ?_
             with_reducible refine (warplaw4_op.calls (rd l4 0) (rd l4 1) (rd l4 2) (1 + ((l1.length : Int) % 16)) t208 t209 t210 _ A30.out).mono ?_
             rintro e w40 ⟨rfl, hb⟩
             refine ⟨_, rfl, ?_⟩
             have n0_ := Aside0.mk (Kd.R_below (by (with_reducible repeat (first | apply Kd.R_alloc | apply Kd.R_drewN | apply Kd.R_drew)); exact HO167.out) hb)
             have n1_ := Aside0.mk (Kd.R_below (by (with_reducible repeat (first | apply Kd.R_alloc | apply Kd.R_drewN | apply Kd.R_drew)); exact HO170.out) hb)
             have n2_ := Aside0.mk (below_step (by repeat (first | (with_reducible first | exact HB.out | apply below_alloc | apply pw_below_drewN | apply below_drew1) | exact HB.out)) hb)
             clear HO167
             clear HO170
             clear HB
             have HO167 := n0_
             have HO170 := n1_
             have HB := n2_
             clear n0_ n1_ n2_
             (try clear hb)
             (try clear hb2)
             (try clear hk)
             (try clear hi)
             refine hK.out _ _ ⟨((HB.out.cell (World.block_lt_of_cell? w _ hw171_0)).trans hw171_0), ((HB.out.cell (World.block_lt_of_cell? w _ hw172_0)).trans hw172_0), ((HB.out.cell (World.block_lt_of_cell? w _ hw173_0)).trans hw173_0), ((HB.out.cell (World.block_lt_of_cell? w _ hw188_0)).trans hw188_0), ((HB.out.cell (World.block_lt_of_cell? w _ hw189_0)).trans hw189_0), ((HB.out.cell (World.block_lt_of_cell? w _ hw190_0)).trans hw190_0), ((HB.out.cell (World.block_lt_of_cell? w _ hw205_0)).trans hw205_0), ((HB.out.cell (World.block_lt_of_cell? w _ hw206_0)).trans hw206_0), ((HB.out.cell (World.block_lt_of_cell? w _ hw207_0)).trans hw207_0)⟩ (fun hHeld => ?_)
             clear hK K
             refine norm_ (a' := ?_) ?_ ?_
             rotate_left
             ·
              show Act.put _ (some 95) _ = _
              simp only [Act.put, List.setIfInBounds_toArray, List.set_cons_zero, List.set_cons_succ, i64_w, i32_w]
              rfl
             refine one_ (i := 40) (N := some 97) #[true, true, true, true, true, true, true, true, true, true, true, true, true, true, true, true, true, true, true, true, true, true, true, true, true, true, true, true, true, true, true, true, true, true, true, true, true, true, true, true, true, false, false, false] rfl rfl (one_of HT_.out (by kernel_rfl)) (by decide) (fun K hK => ?_)
             refine goes_ Try.func16 (by kernel_rfl) rfl #[.agg #[.int .i64 t208, .int .i64 t209, .int .i64 t210], .int .i64 (1 + ((l1.length : Int) % 16))] (by rfl) rfl rfl (by (try simp only [List.map_toArray, List.map_cons, List.map_nil]); first | done | rfl | (simp only [List.length_drop, List.length_take]; rfl)) ?_
             with_reducible refine (warpref1_Begin.calls t208 t209 t210 (1 + ((l1.length : Int) % 16)) t211 t212 t213 t214 t215 t216 t217 t218 t219 t220 t221 _ A31.out).mono ?_
             rintro e w41 ⟨rfl, hb⟩
             refine ⟨_, rfl, ?_⟩
             have n0_ := Aside0.mk (Kd.R_below (by (with_reducible repeat (first | apply Kd.R_alloc | apply Kd.R_drewN | apply Kd.R_drew)); exact HO167.out) hb)
             have n1_ := Aside0.mk (Kd.R_below (by (with_reducible repeat (first | apply Kd.R_alloc | apply Kd.R_drewN | apply Kd.R_drew)); exact HO170.out) hb)
             have n2_ := Aside0.mk (below_step (by repeat (first | (with_reducible first | exact HB.out | apply below_alloc | apply pw_below_drewN | apply below_drew1) | exact HB.out)) hb)
             clear HO167
             clear HO170
             clear HB
             have HO167 := n0_
             have HO170 := n1_
             have HB := n2_
             clear n0_ n1_ n2_
             (try clear hb)
             (try clear hb2)
             (try clear hk)
             (try clear hi)
             refine hK.out _ _ ⟨((HB.out.cell (World.block_lt_of_cell? w _ hw171_0)).trans hw171_0), ((HB.out.cell (World.block_lt_of_cell? w _ hw172_0)).trans hw172_0), ((HB.out.cell (World.block_lt_of_cell? w _ hw173_0)).trans hw173_0), ((HB.out.cell (World.block_lt_of_cell? w _ hw188_0)).trans hw188_0), ((HB.out.cell (World.block_lt_of_cell? w _ hw189_0)).trans hw189_0), ((HB.out.cell (World.block_lt_of_cell? w _ hw190_0)).trans hw190_0), ((HB.out.cell (World.block_lt_of_cell? w _ hw205_0)).trans hw205_0), ((HB.out.cell (World.block_lt_of_cell? w _ hw206_0)).trans hw206_0), ((HB.out.cell (World.block_lt_of_cell? w _ hw207_0)).trans hw207_0)⟩ (fun hHeld => ?_)
             clear hK K
             refine norm_ (a' := ?_) ?_ ?_
             rotate_left
             ·
              show Act.put _ (some 97) _ = _
              simp only [Act.put, List.setIfInBounds_toArray, List.set_cons_zero, List.set_cons_succ, i64_w, i32_w]
              rfl
             refine pure_ (i := 41) (N := some 98) (v := ?_) (a' := ?_) #[true, true, true, true, true, true, true, true, true, true, true, true, true, true, true, true, true, true, true, true, true, true, true, true, true, true, true, true, true, true, true, true, true, true, true, true, true, true, true, true, true, true, false, false] rfl rfl (any_of HT_.out (by kernel_rfl)) (fun _ _ _ h => h) (Or.inl ⟨by rfl, ?_⟩) ?_ ?_
             rotate_left
             ·
              intro w'
              go_simp
              with_reducible rfl
             rotate_left
             ·
              simp only [Act.put, List.setIfInBounds_toArray, List.set_cons_zero, List.set_cons_succ, i64_w, i32_w]
              rfl
             refine one_ (i := 42) (N := some 99) #[true, true, true, true, true, true, true, true, true, true, true, true, true, true, true, true, true, true, true, true, true, true, true, true, true, true, true, true, true, true, true, true, true, true, true, true, true, true, true, true, true, true, true, false] rfl rfl (one_of HT_.out (by kernel_rfl)) (by decide) (fun K hK => ?_)
             refine Kd.R_lit_step k31 _ 31 ?hg (N := 99) ?hd (xs := ([(⟨(⟨t177, t178, t179⟩ : S28), t180, t181, t182, t183, t184, t185, t186⟩ : S31), (⟨(⟨t194, t195, t196⟩ : S28), t197, t198, t199, t200, t201, t202, t203⟩ : S31), (⟨(⟨t211, t212, t213⟩ : S28), t214, t215, t216, t217, t218, t219, t220⟩ : S31)] : List (S31))) (inner := [.int .i64 t177, .int .i64 t178, .int .i64 t179, .int .i64 t180, .int .i64 t181, .int .i64 t182, .int .i64 t183, .int .i64 t184, .bool t185, .int .i64 t186, .int .i64 t194, .int .i64 t195, .int .i64 t196, .int .i64 t197, .int .i64 t198, .int .i64 t199, .int .i64 t200, .int .i64 t201, .bool t202, .int .i64 t203, .int .i64 t211, .int .i64 t212, .int .i64 t213, .int .i64 t214, .int .i64 t215, .int .i64 t216, .int .i64 t217, .int .i64 t218, .bool t219, .int .i64 t220]) (ok := fun _ => True) (okp := fun _ => True) ?hr ?hp (fun _ hk => hk) trivial (Below.refl _ _) (Nat.le_refl _) (by simp) ?_; (case hd => rfl); (case hg => rfl); (case hr => first | (go_simp; done) | (go_simp; rfl)); (case hp => exact (Reps.c10 (show Kd.M k31 _ _ _ (⟨(⟨t177, t178, t179⟩ : S28), t180, t181, t182, t183, t184, t185, t186⟩ : S31) [.int .i64 t177, .int .i64 t178, .int .i64 t179, .int .i64 t180, .int .i64 t181, .int .i64 t182, .int .i64 t183, .int .i64 t184, .bool t185, .int .i64 t186] from (k31_mkM _ _ _ (⟨(⟨t177, t178, t179⟩ : S28), t180, t181, t182, t183, t184, t185, t186⟩ : S31) )) (Reps.c10 (show Kd.M k31 _ _ _ (⟨(⟨t194, t195, t196⟩ : S28), t197, t198, t199, t200, t201, t202, t203⟩ : S31) [.int .i64 t194, .int .i64 t195, .int .i64 t196, .int .i64 t197, .int .i64 t198, .int .i64 t199, .int .i64 t200, .int .i64 t201, .bool t202, .int .i64 t203] from (k31_mkM _ _ _ (⟨(⟨t194, t195, t196⟩ : S28), t197, t198, t199, t200, t201, t202, t203⟩ : S31) )) (Reps.c10 (show Kd.M k31 _ _ _ (⟨(⟨t211, t212, t213⟩ : S28), t214, t215, t216, t217, t218, t219, t220⟩ : S31) [.int .i64 t211, .int .i64 t212, .int .i64 t213, .int .i64 t214, .int .i64 t215, .int .i64 t216, .int .i64 t217, .int .i64 t218, .bool t219, .int .i64 t220] from (k31_mkM _ _ _ (⟨(⟨t211, t212, t213⟩ : S28), t214, t215, t216, t217, t218, t219, t220⟩ : S31) )) (Reps.none _ _)))))
             intro v223 w42 ho43 hb hg_ hnew_
             clear hg_ hnew_
             (first | rw [← Ny222.out] at ho43 | (simp only [Int.reduceToNat] at ho43; rw [← Ny222.out] at ho43))
             have n0_ := Aside0.mk (Kd.R_below (by (with_reducible repeat (first | apply Kd.R_alloc | apply Kd.R_drewN | apply Kd.R_drew)); exact HO167.out) hb)
             have n1_ := Aside0.mk (Kd.R_below (by (with_reducible repeat (first | apply Kd.R_alloc | apply Kd.R_drewN | apply Kd.R_drew)); exact HO170.out) hb)
             have n2_ := Aside0.mk (Kd.R_lower ho43 (below_size (by repeat (first | (with_reducible first | exact HB.out | apply below_alloc | apply pw_below_drewN | apply below_drew1) | exact HB.out))))
             have n3_ := Aside0.mk (below_step (by repeat (first | (with_reducible first | exact HB.out | apply below_alloc | apply pw_below_drewN | apply below_drew1) | exact HB.out)) hb)
             clear HO167
             clear HO170
             clear HB
             have HO167 := n0_
             have HO170 := n1_
             have HO224 := n2_
             have HB := n3_
             clear n0_ n1_ n2_ n3_
             clear hb ho43
             refine hK.out _ _ ⟨((HB.out.cell (World.block_lt_of_cell? w _ hw171_0)).trans hw171_0), ((HB.out.cell (World.block_lt_of_cell? w _ hw172_0)).trans hw172_0), ((HB.out.cell (World.block_lt_of_cell? w _ hw173_0)).trans hw173_0), ((HB.out.cell (World.block_lt_of_cell? w _ hw188_0)).trans hw188_0), ((HB.out.cell (World.block_lt_of_cell? w _ hw189_0)).trans hw189_0), ((HB.out.cell (World.block_lt_of_cell? w _ hw190_0)).trans hw190_0), ((HB.out.cell (World.block_lt_of_cell? w _ hw205_0)).trans hw205_0), ((HB.out.cell (World.block_lt_of_cell? w _ hw206_0)).trans hw206_0), ((HB.out.cell (World.block_lt_of_cell? w _ hw207_0)).trans hw207_0)⟩ (fun hHeld => ?_)
             clear hK K
             refine norm_ (a' := ?_) ?_ ?_
             rotate_left
             ·
              show Act.put _ (some 99) _ = _
              simp only [Act.put, List.setIfInBounds_toArray, List.set_cons_zero, List.set_cons_succ, i64_w, i32_w]
              rfl
             refine pure_ (i := 43) (N := some 16) (v := ?_) (a' := ?_) #[true, true, true, true, true, true, true, true, true, true, true, true, true, true, true, true, true, true, true, true, true, true, true, true, true, true, true, true, true, true, true, true, true, true, true, true, true, true, true, true, true, true, true, true] rfl rfl (any_of HT_.out (by kernel_rfl)) (fun _ _ _ h => h) (Or.inl ⟨by rfl, ?_⟩) ?_ ?_
             rotate_left
             ·
              intro w'
              go_simp
              with_reducible rfl
             rotate_left
             ·
              simp only [Act.put, List.setIfInBounds_toArray, List.set_cons_zero, List.set_cons_succ, i64_w, i32_w]
              rfl
             refine done_ (done_of HT_.out (by kernel_rfl)) ?_
             try go_wp2
             go_loopg [15, 17] kj6 (fun kq v15 v17 w' => ∃ (x15_2 : List Int) (x16_2 : List (S31)) (x17_2 : Int), v17 = .int .i64 x17_2 ∧ Aside0 (warplaw4_CufSteps.l0 kq l5 t165 x15_2 x16_2 x17_2 = some r) ∧ Aside0 (kq ≤ kj6) ∧ Aside0 (Kd.R (Kd.int .i64) 3 w' w.heap.size (fun k_ => some k_ ≠ (v15 : Value).ownBlock) (.slice Ao33 t165.length co33) t165) ∧ Aside0 (Kd.R (Kd.int .i64) 3 w' w.heap.size (fun k_ => some k_ ≠ ((.slice Ao33 t165.length co33) : Value).ownBlock) v15 x15_2) ∧ Aside0 (Kd.R k31 31 w' w.heap.size (fun _ => True) v223 x16_2) ∧ Aside0 (Below w.heap.size w w'))
             case atStart => exact ⟨(t168), (y222), (0), (by first | rfl | (simp; done) | (simp [*]; done)), H', ⟨Nat.le_refl _⟩, ⟨by (with_reducible repeat (first | apply Kd.R_alloc | apply Kd.R_drewN | apply Kd.R_drew)); exact Kd.R_mono HO167.out (fun _ hk => hk.2)⟩, ⟨by (with_reducible repeat (first | apply Kd.R_alloc | apply Kd.R_drewN | apply Kd.R_drew)); exact Kd.R_mono HO170.out (fun _ hk => hk.2)⟩, ⟨by (with_reducible repeat (first | apply Kd.R_alloc | apply Kd.R_drewN | apply Kd.R_drew)); exact HO224.out⟩, ⟨by repeat (first | (with_reducible first | exact HB.out | apply below_alloc | apply pw_below_drewN | apply below_drew1) | exact HB.out)⟩⟩
             case round =>
              clear H'
              (try clear c1); (try clear p1); (try clear q1); (try clear hx1); (try clear qi1); (try clear p2); (try clear q2); (try clear hx2); (try clear qi2); (try clear c10); (try clear c11); (try clear c16); (try clear p17); (try clear q17); (try clear hx17); (try clear qi17); (try clear p18); (try clear q18); (try clear hx18); (try clear qi18); (try clear p19); (try clear q19); (try clear hx19); (try clear qi19); (try clear p20); (try clear q20); (try clear hx20); (try clear qi20); (try clear hx171_0); (try clear hx172_0); (try clear hx173_0); (try clear hx188_0); (try clear hx189_0); (try clear hx190_0); (try clear hx205_0); (try clear hx206_0); (try clear hx207_0); (try clear p171); (try clear p172); (try clear p173); (try clear p188); (try clear p189); (try clear p190); (try clear p205); (try clear p206); (try clear p207); (try clear q171); (try clear q172); (try clear q173); (try clear q188); (try clear q189); (try clear q190); (try clear q205); (try clear q206); (try clear q207)
              obtain ⟨x15_2, x16_2, x17_2, rfl, HA, HK2, HO_14, HO_15, HO_16, HB⟩ := hrel
              cases gk with
              | zero => exact absurd HA.out (by simp [warplaw4_CufSteps.l0])
              | succ k2 =>
               have H := HA.out
               clear HA
               simp only [warplaw4_CufSteps.l0] at H
               by_cases c44 : x17_2 < (l5.length : Int)
               ·
                rw [if_pos c44] at H
                have c44b0 : decide (x17_2 < (l5.length : Int)) = true := decide_eq_true c44
                clear c44
                by_cases c45 : 0 ≤ x17_2
                ·
                 rw [if_pos c45] at H
                 have c45b0 : decide (0 ≤ x17_2) = true := decide_eq_true c45
                 clear c45
                 obtain ⟨y226, hy226⟩ : ∃ y_ : List Int, y_ = (([] : List Int)) := ⟨_, rfl⟩
                 replace H : (if y226.length + x15_2.length < 17592186044416 then (if 0 ≤ (Int.tmod (wrap64 (rd l5 x17_2)) 3) then (if (Int.tmod (wrap64 (rd l5 x17_2)) 3) < (x16_2.length : Int) then ((cuf_Step.f x15_2 t165 ((rd_T31 x16_2 (Int.tmod (wrap64 (rd l5 x17_2)) 3)).f0.f0) ((rd_T31 x16_2 (Int.tmod (wrap64 (rd l5 x17_2)) 3)).f0.f1) ((rd_T31 x16_2 (Int.tmod (wrap64 (rd l5 x17_2)) 3)).f0.f2) ((rd_T31 x16_2 (Int.tmod (wrap64 (rd l5 x17_2)) 3)).f1) ((rd_T31 x16_2 (Int.tmod (wrap64 (rd l5 x17_2)) 3)).f2) ((rd_T31 x16_2 (Int.tmod (wrap64 (rd l5 x17_2)) 3)).f3) ((rd_T31 x16_2 (Int.tmod (wrap64 (rd l5 x17_2)) 3)).f4) ((rd_T31 x16_2 (Int.tmod (wrap64 (rd l5 x17_2)) 3)).f5) ((rd_T31 x16_2 (Int.tmod (wrap64 (rd l5 x17_2)) 3)).f6) ((rd_T31 x16_2 (Int.tmod (wrap64 (rd l5 x17_2)) 3)).f7)).bind fun bt233 => ((warpref1_Step.f x15_2 t165 ((rd_T31 x16_2 (Int.tmod (wrap64 (rd l5 x17_2)) 3)).f0.f0) ((rd_T31 x16_2 (Int.tmod (wrap64 (rd l5 x17_2)) 3)).f0.f1) ((rd_T31 x16_2 (Int.tmod (wrap64 (rd l5 x17_2)) 3)).f0.f2) ((rd_T31 x16_2 (Int.tmod (wrap64 (rd l5 x17_2)) 3)).f1) ((rd_T31 x16_2 (Int.tmod (wrap64 (rd l5 x17_2)) 3)).f2) ((rd_T31 x16_2 (Int.tmod (wrap64 (rd l5 x17_2)) 3)).f3) ((rd_T31 x16_2 (Int.tmod (wrap64 (rd l5 x17_2)) 3)).f4) ((rd_T31 x16_2 (Int.tmod (wrap64 (rd l5 x17_2)) 3)).f5) ((rd_T31 x16_2 (Int.tmod (wrap64 (rd l5 x17_2)) 3)).f6) ((rd_T31 x16_2 (Int.tmod (wrap64 (rd l5 x17_2)) 3)).f7)).bind fun bt248 => ((warpref1_Ints.f k2 bt233.1 bt248.1).bind fun t262 => (if t262 = true then (if ((!(bt233.2.1 == bt248.2.1) || (!(bt233.2.2.1 == bt248.2.2.1) || (!(bt233.2.2.2.1 == bt248.2.2.2.1)))) || (!(bt233.2.2.2.2.1 == bt248.2.2.2.2.1) || (!(bt233.2.2.2.2.2.1 == bt248.2.2.2.2.2.1) || (!(bt233.2.2.2.2.2.2.1 == bt248.2.2.2.2.2.2.1) || (!(bt233.2.2.2.2.2.2.2.1 == bt248.2.2.2.2.2.2.2.1) || (!(bt233.2.2.2.2.2.2.2.2.1 == bt248.2.2.2.2.2.2.2.2.1) || (!(bt233.2.2.2.2.2.2.2.2.2.1 == bt248.2.2.2.2.2.2.2.2.2.1) || (!(bt233.2.2.2.2.2.2.2.2.2.2 == bt248.2.2.2.2.2.2.2.2.2.2))))))))) = true then (warplaw4_CufSteps.j2 k2 l5 t165 x16_2 x17_2 (Int.tmod (wrap64 (rd l5 x17_2)) 3) true bt248.1 bt248.2.1 bt248.2.2.1 bt248.2.2.2.1 bt248.2.2.2.2.1 bt248.2.2.2.2.2.1 bt248.2.2.2.2.2.2.1 bt248.2.2.2.2.2.2.2.1 bt248.2.2.2.2.2.2.2.2.1 bt248.2.2.2.2.2.2.2.2.2.1 bt248.2.2.2.2.2.2.2.2.2.2) else ((warpref1_Ints.f k2 x15_2 (y226 ++ x15_2)).bind fun t263 => (if t263 = true then ((cuf_May.f k2 bt233.1 t165).bind fun t264 => (warplaw4_CufSteps.j2 k2 l5 t165 x16_2 x17_2 (Int.tmod (wrap64 (rd l5 x17_2)) 3) (!t264) bt248.1 bt248.2.1 bt248.2.2.1 bt248.2.2.2.1 bt248.2.2.2.2.1 bt248.2.2.2.2.2.1 bt248.2.2.2.2.2.2.1 bt248.2.2.2.2.2.2.2.1 bt248.2.2.2.2.2.2.2.2.1 bt248.2.2.2.2.2.2.2.2.2.1 bt248.2.2.2.2.2.2.2.2.2.2)) else (warplaw4_CufSteps.j2 k2 l5 t165 x16_2 x17_2 (Int.tmod (wrap64 (rd l5 x17_2)) 3) true bt248.1 bt248.2.1 bt248.2.2.1 bt248.2.2.2.1 bt248.2.2.2.2.1 bt248.2.2.2.2.2.1 bt248.2.2.2.2.2.2.1 bt248.2.2.2.2.2.2.2.1 bt248.2.2.2.2.2.2.2.2.1 bt248.2.2.2.2.2.2.2.2.2.1 bt248.2.2.2.2.2.2.2.2.2.2)))) else (warplaw4_CufSteps.j2 k2 l5 t165 x16_2 x17_2 (Int.tmod (wrap64 (rd l5 x17_2)) 3) true bt248.1 bt248.2.1 bt248.2.2.1 bt248.2.2.2.1 bt248.2.2.2.2.1 bt248.2.2.2.2.2.1 bt248.2.2.2.2.2.2.1 bt248.2.2.2.2.2.2.2.1 bt248.2.2.2.2.2.2.2.2.1 bt248.2.2.2.2.2.2.2.2.2.1 bt248.2.2.2.2.2.2.2.2.2.2))))) else (none)) else (none)) else (none)) = some r := by first | (rw [hy226]; with_reducible exact H) | (have H2_ := (Option.bind_some _ _).symm.trans H; rw [hy226]; with_reducible exact H2_) | (have H2_ := (Option.bind_some _ _).symm.trans H; with_reducible exact H2_) | with_reducible exact H | (rw [hy226]; exact H) | exact H
                 have Ny226 := Aside0.mk hy226
                 clear hy226
                 by_cases c46 : y226.length + x15_2.length < 17592186044416
                 ·
                  rw [if_pos c46] at H
                  have LMc46 := Aside0.mk c46
                  clear c46
                  obtain ⟨y229, hy229⟩ : ∃ y_ : List Int, y_ = (y226 ++ x15_2) := ⟨_, rfl⟩
                  replace H : (if 0 ≤ (Int.tmod (wrap64 (rd l5 x17_2)) 3) then (if (Int.tmod (wrap64 (rd l5 x17_2)) 3) < (x16_2.length : Int) then ((cuf_Step.f x15_2 t165 ((rd_T31 x16_2 (Int.tmod (wrap64 (rd l5 x17_2)) 3)).f0.f0) ((rd_T31 x16_2 (Int.tmod (wrap64 (rd l5 x17_2)) 3)).f0.f1) ((rd_T31 x16_2 (Int.tmod (wrap64 (rd l5 x17_2)) 3)).f0.f2) ((rd_T31 x16_2 (Int.tmod (wrap64 (rd l5 x17_2)) 3)).f1) ((rd_T31 x16_2 (Int.tmod (wrap64 (rd l5 x17_2)) 3)).f2) ((rd_T31 x16_2 (Int.tmod (wrap64 (rd l5 x17_2)) 3)).f3) ((rd_T31 x16_2 (Int.tmod (wrap64 (rd l5 x17_2)) 3)).f4) ((rd_T31 x16_2 (Int.tmod (wrap64 (rd l5 x17_2)) 3)).f5) ((rd_T31 x16_2 (Int.tmod (wrap64 (rd l5 x17_2)) 3)).f6) ((rd_T31 x16_2 (Int.tmod (wrap64 (rd l5 x17_2)) 3)).f7)).bind fun bt233 => ((warpref1_Step.f x15_2 t165 ((rd_T31 x16_2 (Int.tmod (wrap64 (rd l5 x17_2)) 3)).f0.f0) ((rd_T31 x16_2 (Int.tmod (wrap64 (rd l5 x17_2)) 3)).f0.f1) ((rd_T31 x16_2 (Int.tmod (wrap64 (rd l5 x17_2)) 3)).f0.f2) ((rd_T31 x16_2 (Int.tmod (wrap64 (rd l5 x17_2)) 3)).f1) ((rd_T31 x16_2 (Int.tmod (wrap64 (rd l5 x17_2)) 3)).f2) ((rd_T31 x16_2 (Int.tmod (wrap64 (rd l5 x17_2)) 3)).f3) ((rd_T31 x16_2 (Int.tmod (wrap64 (rd l5 x17_2)) 3)).f4) ((rd_T31 x16_2 (Int.tmod (wrap64 (rd l5 x17_2)) 3)).f5) ((rd_T31 x16_2 (Int.tmod (wrap64 (rd l5 x17_2)) 3)).f6) ((rd_T31 x16_2 (Int.tmod (wrap64 (rd l5 x17_2)) 3)).f7)).bind fun bt248 => ((warpref1_Ints.f k2 bt233.1 bt248.1).bind fun t262 => (if t262 = true then (if ((!(bt233.2.1 == bt248.2.1) || (!(bt233.2.2.1 == bt248.2.2.1) || (!(bt233.2.2.2.1 == bt248.2.2.2.1)))) || (!(bt233.2.2.2.2.1 == bt248.2.2.2.2.1) || (!(bt233.2.2.2.2.2.1 == bt248.2.2.2.2.2.1) || (!(bt233.2.2.2.2.2.2.1 == bt248.2.2.2.2.2.2.1) || (!(bt233.2.2.2.2.2.2.2.1 == bt248.2.2.2.2.2.2.2.1) || (!(bt233.2.2.2.2.2.2.2.2.1 == bt248.2.2.2.2.2.2.2.2.1) || (!(bt233.2.2.2.2.2.2.2.2.2.1 == bt248.2.2.2.2.2.2.2.2.2.1) || (!(bt233.2.2.2.2.2.2.2.2.2.2 == bt248.2.2.2.2.2.2.2.2.2.2))))))))) = true then (warplaw4_CufSteps.j2 k2 l5 t165 x16_2 x17_2 (Int.tmod (wrap64 (rd l5 x17_2)) 3) true bt248.1 bt248.2.1 bt248.2.2.1 bt248.2.2.2.1 bt248.2.2.2.2.1 bt248.2.2.2.2.2.1 bt248.2.2.2.2.2.2.1 bt248.2.2.2.2.2.2.2.1 bt248.2.2.2.2.2.2.2.2.1 bt248.2.2.2.2.2.2.2.2.2.1 bt248.2.2.2.2.2.2.2.2.2.2) else ((warpref1_Ints.f k2 x15_2 y229).bind fun t263 => (if t263 = true then ((cuf_May.f k2 bt233.1 t165).bind fun t264 => (warplaw4_CufSteps.j2 k2 l5 t165 x16_2 x17_2 (Int.tmod (wrap64 (rd l5 x17_2)) 3) (!t264) bt248.1 bt248.2.1 bt248.2.2.1 bt248.2.2.2.1 bt248.2.2.2.2.1 bt248.2.2.2.2.2.1 bt248.2.2.2.2.2.2.1 bt248.2.2.2.2.2.2.2.1 bt248.2.2.2.2.2.2.2.2.1 bt248.2.2.2.2.2.2.2.2.2.1 bt248.2.2.2.2.2.2.2.2.2.2)) else (warplaw4_CufSteps.j2 k2 l5 t165 x16_2 x17_2 (Int.tmod (wrap64 (rd l5 x17_2)) 3) true bt248.1 bt248.2.1 bt248.2.2.1 bt248.2.2.2.1 bt248.2.2.2.2.1 bt248.2.2.2.2.2.1 bt248.2.2.2.2.2.2.1 bt248.2.2.2.2.2.2.2.1 bt248.2.2.2.2.2.2.2.2.1 bt248.2.2.2.2.2.2.2.2.2.1 bt248.2.2.2.2.2.2.2.2.2.2)))) else (warplaw4_CufSteps.j2 k2 l5 t165 x16_2 x17_2 (Int.tmod (wrap64 (rd l5 x17_2)) 3) true bt248.1 bt248.2.1 bt248.2.2.1 bt248.2.2.2.1 bt248.2.2.2.2.1 bt248.2.2.2.2.2.1 bt248.2.2.2.2.2.2.1 bt248.2.2.2.2.2.2.2.1 bt248.2.2.2.2.2.2.2.2.1 bt248.2.2.2.2.2.2.2.2.2.1 bt248.2.2.2.2.2.2.2.2.2.2))))) else (none)) else (none)) = some r := by first | (rw [hy229]; with_reducible exact H) | (have H2_ := (Option.bind_some _ _).symm.trans H; rw [hy229]; with_reducible exact H2_) | (have H2_ := (Option.bind_some _ _).symm.trans H; with_reducible exact H2_) | with_reducible exact H | (rw [hy229]; exact H) | exact H
                  have Ny229 := Aside0.mk hy229
                  clear hy229
                  obtain ⟨ji47, hji47⟩ : ∃ j_ : Int, (Int.tmod (wrap64 (rd l5 x17_2)) 3) = j_ := ⟨_, rfl⟩
                  replace H : (if 0 ≤ (ji47) then (if (ji47) < (x16_2.length : Int) then ((cuf_Step.f x15_2 t165 ((rd_T31 x16_2 (ji47)).f0.f0) ((rd_T31 x16_2 (ji47)).f0.f1) ((rd_T31 x16_2 (ji47)).f0.f2) ((rd_T31 x16_2 (ji47)).f1) ((rd_T31 x16_2 (ji47)).f2) ((rd_T31 x16_2 (ji47)).f3) ((rd_T31 x16_2 (ji47)).f4) ((rd_T31 x16_2 (ji47)).f5) ((rd_T31 x16_2 (ji47)).f6) ((rd_T31 x16_2 (ji47)).f7)).bind fun bt233 => ((warpref1_Step.f x15_2 t165 ((rd_T31 x16_2 (ji47)).f0.f0) ((rd_T31 x16_2 (ji47)).f0.f1) ((rd_T31 x16_2 (ji47)).f0.f2) ((rd_T31 x16_2 (ji47)).f1) ((rd_T31 x16_2 (ji47)).f2) ((rd_T31 x16_2 (ji47)).f3) ((rd_T31 x16_2 (ji47)).f4) ((rd_T31 x16_2 (ji47)).f5) ((rd_T31 x16_2 (ji47)).f6) ((rd_T31 x16_2 (ji47)).f7)).bind fun bt248 => ((warpref1_Ints.f k2 bt233.1 bt248.1).bind fun t262 => (if t262 = true then (if ((!(bt233.2.1 == bt248.2.1) || (!(bt233.2.2.1 == bt248.2.2.1) || (!(bt233.2.2.2.1 == bt248.2.2.2.1)))) || (!(bt233.2.2.2.2.1 == bt248.2.2.2.2.1) || (!(bt233.2.2.2.2.2.1 == bt248.2.2.2.2.2.1) || (!(bt233.2.2.2.2.2.2.1 == bt248.2.2.2.2.2.2.1) || (!(bt233.2.2.2.2.2.2.2.1 == bt248.2.2.2.2.2.2.2.1) || (!(bt233.2.2.2.2.2.2.2.2.1 == bt248.2.2.2.2.2.2.2.2.1) || (!(bt233.2.2.2.2.2.2.2.2.2.1 == bt248.2.2.2.2.2.2.2.2.2.1) || (!(bt233.2.2.2.2.2.2.2.2.2.2 == bt248.2.2.2.2.2.2.2.2.2.2))))))))) = true then (warplaw4_CufSteps.j2 k2 l5 t165 x16_2 x17_2 ji47 true bt248.1 bt248.2.1 bt248.2.2.1 bt248.2.2.2.1 bt248.2.2.2.2.1 bt248.2.2.2.2.2.1 bt248.2.2.2.2.2.2.1 bt248.2.2.2.2.2.2.2.1 bt248.2.2.2.2.2.2.2.2.1 bt248.2.2.2.2.2.2.2.2.2.1 bt248.2.2.2.2.2.2.2.2.2.2) else ((warpref1_Ints.f k2 x15_2 y229).bind fun t263 => (if t263 = true then ((cuf_May.f k2 bt233.1 t165).bind fun t264 => (warplaw4_CufSteps.j2 k2 l5 t165 x16_2 x17_2 ji47 (!t264) bt248.1 bt248.2.1 bt248.2.2.1 bt248.2.2.2.1 bt248.2.2.2.2.1 bt248.2.2.2.2.2.1 bt248.2.2.2.2.2.2.1 bt248.2.2.2.2.2.2.2.1 bt248.2.2.2.2.2.2.2.2.1 bt248.2.2.2.2.2.2.2.2.2.1 bt248.2.2.2.2.2.2.2.2.2.2)) else (warplaw4_CufSteps.j2 k2 l5 t165 x16_2 x17_2 ji47 true bt248.1 bt248.2.1 bt248.2.2.1 bt248.2.2.2.1 bt248.2.2.2.2.1 bt248.2.2.2.2.2.1 bt248.2.2.2.2.2.2.1 bt248.2.2.2.2.2.2.2.1 bt248.2.2.2.2.2.2.2.2.1 bt248.2.2.2.2.2.2.2.2.2.1 bt248.2.2.2.2.2.2.2.2.2.2)))) else (warplaw4_CufSteps.j2 k2 l5 t165 x16_2 x17_2 ji47 true bt248.1 bt248.2.1 bt248.2.2.1 bt248.2.2.2.1 bt248.2.2.2.2.1 bt248.2.2.2.2.2.1 bt248.2.2.2.2.2.2.1 bt248.2.2.2.2.2.2.2.1 bt248.2.2.2.2.2.2.2.2.1 bt248.2.2.2.2.2.2.2.2.2.1 bt248.2.2.2.2.2.2.2.2.2.2))))) else (none)) else (none)) = some r := by first | (rw [hji47] at H; exact H) | (simp only [hji47] at H ⊢; exact H)
                  by_cases c48 : 0 ≤ (ji47)
                  ·
                   rw [if_pos c48] at H
                   have c48b0 : decide (0 ≤ (ji47)) = true := decide_eq_true c48
                   clear c48
                   by_cases c49 : (ji47) < (x16_2.length : Int)
                   ·
                    rw [if_pos c49] at H
                    have c49b0 : decide ((ji47) < (x16_2.length : Int)) = true := decide_eq_true c49
                    clear c49
                    replace H := Option.bind_eq_some_iff.mp H
                    obtain ⟨⟨t233, t236, t237, t238, t239, t240, t241, t242, t243, t244, t245⟩, A500, H⟩ := H
                    replace H : ((warpref1_Step.f x15_2 t165 ((rd_T31 x16_2 (ji47)).f0.f0) ((rd_T31 x16_2 (ji47)).f0.f1) ((rd_T31 x16_2 (ji47)).f0.f2) ((rd_T31 x16_2 (ji47)).f1) ((rd_T31 x16_2 (ji47)).f2) ((rd_T31 x16_2 (ji47)).f3) ((rd_T31 x16_2 (ji47)).f4) ((rd_T31 x16_2 (ji47)).f5) ((rd_T31 x16_2 (ji47)).f6) ((rd_T31 x16_2 (ji47)).f7)).bind fun bt248 => ((warpref1_Ints.f k2 t233 bt248.1).bind fun t262 => (if t262 = true then (if ((!(t236 == bt248.2.1) || (!(t237 == bt248.2.2.1) || (!(t238 == bt248.2.2.2.1)))) || (!(t239 == bt248.2.2.2.2.1) || (!(t240 == bt248.2.2.2.2.2.1) || (!(t241 == bt248.2.2.2.2.2.2.1) || (!(t242 == bt248.2.2.2.2.2.2.2.1) || (!(t243 == bt248.2.2.2.2.2.2.2.2.1) || (!(t244 == bt248.2.2.2.2.2.2.2.2.2.1) || (!(t245 == bt248.2.2.2.2.2.2.2.2.2.2))))))))) = true then (warplaw4_CufSteps.j2 k2 l5 t165 x16_2 x17_2 ji47 true bt248.1 bt248.2.1 bt248.2.2.1 bt248.2.2.2.1 bt248.2.2.2.2.1 bt248.2.2.2.2.2.1 bt248.2.2.2.2.2.2.1 bt248.2.2.2.2.2.2.2.1 bt248.2.2.2.2.2.2.2.2.1 bt248.2.2.2.2.2.2.2.2.2.1 bt248.2.2.2.2.2.2.2.2.2.2) else ((warpref1_Ints.f k2 x15_2 y229).bind fun t263 => (if t263 = true then ((cuf_May.f k2 t233 t165).bind fun t264 => (warplaw4_CufSteps.j2 k2 l5 t165 x16_2 x17_2 ji47 (!t264) bt248.1 bt248.2.1 bt248.2.2.1 bt248.2.2.2.1 bt248.2.2.2.2.1 bt248.2.2.2.2.2.1 bt248.2.2.2.2.2.2.1 bt248.2.2.2.2.2.2.2.1 bt248.2.2.2.2.2.2.2.2.1 bt248.2.2.2.2.2.2.2.2.2.1 bt248.2.2.2.2.2.2.2.2.2.2)) else (warplaw4_CufSteps.j2 k2 l5 t165 x16_2 x17_2 ji47 true bt248.1 bt248.2.1 bt248.2.2.1 bt248.2.2.2.1 bt248.2.2.2.2.1 bt248.2.2.2.2.2.1 bt248.2.2.2.2.2.2.1 bt248.2.2.2.2.2.2.2.1 bt248.2.2.2.2.2.2.2.2.1 bt248.2.2.2.2.2.2.2.2.2.1 bt248.2.2.2.2.2.2.2.2.2.2)))) else (warplaw4_CufSteps.j2 k2 l5 t165 x16_2 x17_2 ji47 true bt248.1 bt248.2.1 bt248.2.2.1 bt248.2.2.2.1 bt248.2.2.2.2.1 bt248.2.2.2.2.2.1 bt248.2.2.2.2.2.2.1 bt248.2.2.2.2.2.2.2.1 bt248.2.2.2.2.2.2.2.2.1 bt248.2.2.2.2.2.2.2.2.2.1 bt248.2.2.2.2.2.2.2.2.2.2)))) = some r := H
                    have A50 := Aside0.mk A500
                    clear A500
                    replace H := Option.bind_eq_some_iff.mp H
                    obtain ⟨⟨t248, t251, t252, t253, t254, t255, t256, t257, t258, t259, t260⟩, A510, H⟩ := H
                    replace H : ((warpref1_Ints.f k2 t233 t248).bind fun t262 => (if t262 = true then (if ((!(t236 == t251) || (!(t237 == t252) || (!(t238 == t253)))) || (!(t239 == t254) || (!(t240 == t255) || (!(t241 == t256) || (!(t242 == t257) || (!(t243 == t258) || (!(t244 == t259) || (!(t245 == t260))))))))) = true then (warplaw4_CufSteps.j2 k2 l5 t165 x16_2 x17_2 ji47 true t248 t251 t252 t253 t254 t255 t256 t257 t258 t259 t260) else ((warpref1_Ints.f k2 x15_2 y229).bind fun t263 => (if t263 = true then ((cuf_May.f k2 t233 t165).bind fun t264 => (warplaw4_CufSteps.j2 k2 l5 t165 x16_2 x17_2 ji47 (!t264) t248 t251 t252 t253 t254 t255 t256 t257 t258 t259 t260)) else (warplaw4_CufSteps.j2 k2 l5 t165 x16_2 x17_2 ji47 true t248 t251 t252 t253 t254 t255 t256 t257 t258 t259 t260)))) else (warplaw4_CufSteps.j2 k2 l5 t165 x16_2 x17_2 ji47 true t248 t251 t252 t253 t254 t255 t256 t257 t258 t259 t260))) = some r := H
                    have A51 := Aside0.mk A510
                    clear A510
                    have HC52 := Aside0.mk H
                    clear H
                    have p225 : 0 ≤ (x17_2 : Int) := of_decide_eq_true (by first | (with_reducible assumption) | assumption)
                    have q225 : x17_2 < (l5.length : Int) := of_decide_eq_true (by first | (with_reducible assumption) | assumption)
                    obtain ⟨ad225, e225, hx225_0⟩ := Kd.at_int HR5.out x17_2 p225 q225
                    cases e225
                    replace hx225_0 := (HB.out.cell (World.block_lt_of_cell? w _ hx225_0)).trans hx225_0
                    replace p225 := eq_true p225
                    replace q225 := eq_true q225
                    go_upto_region 14 with (first | ((with_reducible refine gate_dst (N := 112) rfl ?_); (try (refine gate_guard (by rfl) ?_; dsimp only)); refine Kd.R_lit (Kd.int .i64) _ 3 ?hg (N := 112) ?hd (xs := ([] : List Int)) (inner := []) (ok := fun _ => True) (okp := fun _ => True) ?hr ?hp (fun _ hk => hk) trivial (Below.refl _ _) (Nat.le_refl _) (by simp) ?_; (case hd => rfl); (case hg => rfl); (case hr => first | (go_simp; done) | (go_simp; rfl)); (case hp => exact (Reps.none _ _)); intro v227 w53 ho54 hb hg_ hnew_; clear hg_ hnew_; (first | rw [← Ny226.out] at ho54 | (simp only [Int.reduceToNat] at ho54; rw [← Ny226.out] at ho54)); have n0_ := Aside0.mk (Kd.R_elder' (by (with_reducible repeat (first | apply Kd.R_alloc | apply Kd.R_drewN | apply Kd.R_drew)); exact HO_14.out) (Kd.R_base ho54) hb); have n1_ := Aside0.mk (Kd.R_elder' (by (with_reducible repeat (first | apply Kd.R_alloc | apply Kd.R_drewN | apply Kd.R_drew)); exact HO_15.out) (Kd.R_base ho54) hb); have n2_ := Aside0.mk (Kd.R_below (by (with_reducible repeat (first | apply Kd.R_alloc | apply Kd.R_drewN | apply Kd.R_drew)); exact HO_16.out) hb); have n3_ := Aside0.mk (Kd.R_lower (Kd.R_new' (Kd.R_new' ho54 (Kd.R_lt (by (with_reducible repeat (first | apply Kd.R_alloc | apply Kd.R_drewN | apply Kd.R_drew)); exact HO_14.out))) (Kd.R_lt (by (with_reducible repeat (first | apply Kd.R_alloc | apply Kd.R_drewN | apply Kd.R_drew)); exact HO_15.out))) (below_size (by repeat (first | (with_reducible first | exact HB.out | apply below_alloc | apply pw_below_drewN | apply below_drew1) | exact HB.out)))); have n4_ := Aside0.mk (below_step (by repeat (first | (with_reducible first | exact HB.out | apply below_alloc | apply pw_below_drewN | apply below_drew1) | exact HB.out)) hb); clear HO_14; clear HO_15; clear HO_16; clear HB; have HO_14 := n0_; have HO_15 := n1_; have HO_16 := n2_; have HO228 := n3_; have HB := n4_; clear n0_ n1_ n2_ n3_ n4_; clear hb ho54; obtain ⟨Ao56, co56, eo56⟩ := Kd.R_slice HO_15.out; subst eo56) | ((with_reducible refine gate_builtin (b := .append) (xs := #[.tmp 112, .tmp 113]) rfl ?_); (try (refine gate_guard (by rfl) ?_; dsimp only)); at_builtin; refine Kd.R_append_rows (Kd.int .i64) (w0 := w) w.heap.size rfl (.tmp 112) (.tmp 113) 24 3 (.int .i64 0) 8 rfl Try.underlying24 info3 rfl (by decide) (by omega) v227 y226 x15_2 _ _ _ (fun k_ => some k_ ≠ (.slice Ao33 t165.length co33 : Value).ownBlock ∧ some k_ ≠ (.slice Ao56 x15_2.length co56 : Value).ownBlock) (fun _ => False) rfl rfl ?aO ?aR (fun _ _ h => h) (fun _ h => h.elim) ?aF ?aB ?aS ?aL ?_; (case aR => repeat (first | exact (Kd.R_reads' HO_15.out).2.2 | (with_reducible refine Kd.C_alloc ?_ _) | (with_reducible refine Kd.C_drewN ?_ _) | (with_reducible refine Kd.C_drew ?_))); (case aB => exact (by repeat (first | (with_reducible first | exact HB.out | apply below_alloc | apply pw_below_drewN | apply below_drew1) | exact HB.out))); (case aF => exact (fun k_ hk => ⟨Kd.fresh' (Kd.R_lt (by (with_reducible repeat (first | apply Kd.R_alloc | apply Kd.R_drewN | apply Kd.R_drew)); exact HO_14.out)) k_ hk, Kd.fresh' (Kd.R_lt (by (with_reducible repeat (first | apply Kd.R_alloc | apply Kd.R_drewN | apply Kd.R_drew)); exact HO_15.out)) k_ hk⟩)); (case aO => exact (by (with_reducible repeat (first | apply Kd.R_alloc | apply Kd.R_drewN | apply Kd.R_drew)); exact Kd.R_mono HO228.out (fun _ hk => ⟨hk.1.2, hk.2⟩))); (case aS => exact (below_size (by repeat (first | (with_reducible first | exact HB.out | apply below_alloc | apply pw_below_drewN | apply below_drew1) | exact HB.out)))); (case aL => have := LMc46.out; omega); intro v230 w55 ho hb hg hat; rw [← Ny229.out] at ho; have n0_ := Aside0.mk (Kd.R_after (ok := (fun k_ => some k_ ≠ (.slice Ao56 x15_2.length co56 : Value).ownBlock)) (by (with_reducible repeat (first | apply Kd.R_alloc | apply Kd.R_drewN | apply Kd.R_drew)); exact HO_14.out) hg hat); have n1_ := Aside0.mk (Kd.R_after (ok := (fun k_ => some k_ ≠ (.slice Ao33 t165.length co33 : Value).ownBlock)) (by (with_reducible repeat (first | apply Kd.R_alloc | apply Kd.R_drewN | apply Kd.R_drew)); exact HO_15.out) hg hat); have n2_ := Aside0.mk (Kd.R_over' (by (with_reducible repeat (first | apply Kd.R_alloc | apply Kd.R_drewN | apply Kd.R_drew)); exact HO_16.out) (Kd.R_typed (by (with_reducible repeat (first | apply Kd.R_alloc | apply Kd.R_drewN | apply Kd.R_drew)); exact HO228.out)) (by decide) hg); have n3_ := Aside0.mk (hb); have n4_ := Aside0.mk (ho); clear HO_14; clear HO_15; clear HO_16; clear HB; clear HO228; have HO_14 := n0_; have HO_15 := n1_; have HO_16 := n2_; have HB := n3_; have HO231 := n4_; clear n0_ n1_ n2_ n3_ n4_; clear ho hb hg hat; obtain ⟨Ao57, co57, eo57⟩ := Kd.R_slice HO_16.out; subst eo57; have p232 : 0 ≤ ((ji47) : Int) := of_decide_eq_true (by first | (with_reducible assumption) | assumption); have q232 : (ji47) < (x16_2.length : Int) := of_decide_eq_true (by first | (with_reducible assumption) | assumption); obtain ⟨ad232, e232, hx232_0, hx232_1, hx232_2, hx232_3, hx232_4, hx232_5, hx232_6, hx232_7, hx232_8, hx232_9⟩ := at_T31 (Kd.R_reads' HO_16.out).2.2 (ji47) p232 q232; cases e232; replace p232 := eq_true p232; replace q232 := eq_true q232) | ((with_reducible refine gate_callee (f := 13) rfl ?_); refine goesL_ (some 122) rfl rfl Try.func13 (by kernel_rfl) rfl #[.slice Ao56 x15_2.length co56, .slice Ao33 t165.length co33, .agg #[.int .i64 ((rd_T31 x16_2 (ji47)).f0.f0), .int .i64 ((rd_T31 x16_2 (ji47)).f0.f1), .int .i64 ((rd_T31 x16_2 (ji47)).f0.f2), .int .i64 ((rd_T31 x16_2 (ji47)).f1), .int .i64 ((rd_T31 x16_2 (ji47)).f2), .int .i64 ((rd_T31 x16_2 (ji47)).f3), .int .i64 ((rd_T31 x16_2 (ji47)).f4), .int .i64 ((rd_T31 x16_2 (ji47)).f5), .bool ((rd_T31 x16_2 (ji47)).f6), .int .i64 ((rd_T31 x16_2 (ji47)).f7)]] rfl (by (try simp only [List.map_toArray, List.map_cons, List.map_nil]); first | done | (simp only [hji47]; rfl) | rfl | (simp only [List.length_drop, List.length_take]; rfl)) ?_; (with_reducible refine (cuf_Step.calls _ _ x15_2 _ _ t165 ((rd_T31 x16_2 (ji47)).f0.f0) ((rd_T31 x16_2 (ji47)).f0.f1) ((rd_T31 x16_2 (ji47)).f0.f2) ((rd_T31 x16_2 (ji47)).f1) ((rd_T31 x16_2 (ji47)).f2) ((rd_T31 x16_2 (ji47)).f3) ((rd_T31 x16_2 (ji47)).f4) ((rd_T31 x16_2 (ji47)).f5) ((rd_T31 x16_2 (ji47)).f6) ((rd_T31 x16_2 (ji47)).f7) t233 t236 t237 t238 t239 t240 t241 t242 t243 t244 t245 _ ?side1 ?side2 ?side3 ?side4 A50.out).mono ?_); (case side1 => repeat (first | exact (Kd.R_reads' HO_15.out).2.2 | (with_reducible refine Kd.C_alloc ?_ _) | (with_reducible refine Kd.C_drewN ?_ _) | (with_reducible refine Kd.C_drew ?_))); (case side2 => exact (Kd.R_reads' HO_15.out).2.1); (case side3 => repeat (first | exact (Kd.R_reads' HO_14.out).2.2 | (with_reducible refine Kd.C_alloc ?_ _) | (with_reducible refine Kd.C_drewN ?_ _) | (with_reducible refine Kd.C_drew ?_))); (case side4 => exact (Kd.R_reads' HO_14.out).2.1); rintro e w58 ⟨v234, rfl, ho0, hb⟩; refine ⟨_, rfl, ?_⟩; have n0_ := Aside0.mk (Kd.R_elder' (by (with_reducible repeat (first | apply Kd.R_alloc | apply Kd.R_drewN | apply Kd.R_drew)); exact HO_14.out) (Kd.R_base ho0) hb); have n1_ := Aside0.mk (Kd.R_elder' (by (with_reducible repeat (first | apply Kd.R_alloc | apply Kd.R_drewN | apply Kd.R_drew)); exact HO_15.out) (Kd.R_base ho0) hb); have n2_ := Aside0.mk (Kd.R_below (by (with_reducible repeat (first | apply Kd.R_alloc | apply Kd.R_drewN | apply Kd.R_drew)); exact HO_16.out) hb); have n3_ := Aside0.mk (Kd.R_elder' (by (with_reducible repeat (first | apply Kd.R_alloc | apply Kd.R_drewN | apply Kd.R_drew)); exact HO231.out) (Kd.R_base ho0) hb); have n4_ := Aside0.mk (Kd.R_lower (Kd.R_new' (Kd.R_new' (Kd.R_new' ho0 (Kd.R_lt (by (with_reducible repeat (first | apply Kd.R_alloc | apply Kd.R_drewN | apply Kd.R_drew)); exact HO_14.out))) (Kd.R_lt (by (with_reducible repeat (first | apply Kd.R_alloc | apply Kd.R_drewN | apply Kd.R_drew)); exact HO_15.out))) (Kd.R_lt (by (with_reducible repeat (first | apply Kd.R_alloc | apply Kd.R_drewN | apply Kd.R_drew)); exact HO231.out))) (below_size (by repeat (first | (with_reducible first | exact HB.out | apply below_alloc | apply pw_below_drewN | apply below_drew1) | exact HB.out)))); have n5_ := Aside0.mk (below_step (by repeat (first | (with_reducible first | exact HB.out | apply below_alloc | apply pw_below_drewN | apply below_drew1) | exact HB.out)) hb); clear HO_14; clear HO_15; clear HO_16; clear HO231; clear HB; have HO_14 := n0_; have HO_15 := n1_; have HO_16 := n2_; have HO231 := n3_; have HO235 := n4_; have HB := n5_; clear n0_ n1_ n2_ n3_ n4_ n5_; (try clear hb); (try clear hb2); (try clear hk); (try clear hi); (try clear ho0)) | ((with_reducible refine gate_dst (N := 21) rfl ?_); (try (refine gate_guard (by rfl) ?_; dsimp only)); refine box_event ?hg (N := 21) ?hd (cs := #[.int .i64 0, .int .i64 0, .int .i64 0, .int .i64 0, .int .i64 0, .int .i64 0, .int .i64 0, .int .i64 0, .bool false, .int .i64 0]) (t := 31) ?hr ?_; (case hd => rfl); (case hg => rfl); (case hr => first | (go_simp; done) | (go_simp; rfl)); intro gb246 hg w59 hbox hb; have n0_ := Aside0.mk (Kd.R_below (by (with_reducible repeat (first | apply Kd.R_alloc | apply Kd.R_drewN | apply Kd.R_drew)); exact HO_14.out) hb); have n1_ := Aside0.mk (Kd.R_below (by (with_reducible repeat (first | apply Kd.R_alloc | apply Kd.R_drewN | apply Kd.R_drew)); exact HO_15.out) hb); have n2_ := Aside0.mk (Kd.R_below (Kd.R_elderB (by (with_reducible repeat (first | apply Kd.R_alloc | apply Kd.R_drewN | apply Kd.R_drew)); exact HO_16.out) gb246 (Nat.le_of_eq hg.symm)) hb); have n3_ := Aside0.mk (Kd.R_below (by (with_reducible repeat (first | apply Kd.R_alloc | apply Kd.R_drewN | apply Kd.R_drew)); exact HO231.out) hb); have n4_ := Aside0.mk (Kd.R_below (by (with_reducible repeat (first | apply Kd.R_alloc | apply Kd.R_drewN | apply Kd.R_drew)); exact HO235.out) hb); have n5_ := Aside0.mk (below_step (by repeat (first | (with_reducible first | exact HB.out | apply below_alloc | apply pw_below_drewN | apply below_drew1) | exact HB.out)) hb); have n6_ := Aside0.mk (hbox); have n7_ := Aside0.mk ((by rw [hg]; exact (below_size (by repeat (first | (with_reducible first | exact HB.out | apply below_alloc | apply pw_below_drewN | apply below_drew1) | exact HB.out))) : w.heap.size ≤ gb246)); have n8_ := Aside0.mk ((by rw [hg]; exact (below_size (by repeat (first | (with_reducible first | exact HB.out | apply below_alloc | apply pw_below_drewN | apply below_drew1) | exact HB.out))) : w.heap.size ≤ gb246)); clear HO_14; clear HO_15; clear HO_16; clear HO231; clear HO235; clear HB; have HO_14 := n0_; have HO_15 := n1_; have HO_16 := n2_; have HO231 := n3_; have HO235 := n4_; have HB := n5_; have BK246 := n6_; have GW246 := n7_; have GE246 := n8_; clear n0_ n1_ n2_ n3_ n4_ n5_ n6_ n7_ n8_; clear hb hbox hg; have hcz60_0 : w59.cell? ⟨gb246, 0, none⟩ = some (.int .i64 0) := (blk_cell BK246.out 0).trans rfl; have hcz60_1 : w59.cell? ⟨gb246, 1, none⟩ = some (.int .i64 0) := (blk_cell BK246.out 1).trans rfl; have hcz60_2 : w59.cell? ⟨gb246, 2, none⟩ = some (.int .i64 0) := (blk_cell BK246.out 2).trans rfl; have hcz60_3 : w59.cell? ⟨gb246, 3, none⟩ = some (.int .i64 0) := (blk_cell BK246.out 3).trans rfl; have hcz60_4 : w59.cell? ⟨gb246, 4, none⟩ = some (.int .i64 0) := (blk_cell BK246.out 4).trans rfl; have hcz60_5 : w59.cell? ⟨gb246, 5, none⟩ = some (.int .i64 0) := (blk_cell BK246.out 5).trans rfl; have hcz60_6 : w59.cell? ⟨gb246, 6, none⟩ = some (.int .i64 0) := (blk_cell BK246.out 6).trans rfl; have hcz60_7 : w59.cell? ⟨gb246, 7, none⟩ = some (.int .i64 0) := (blk_cell BK246.out 7).trans rfl; have hcz60_8 : w59.cell? ⟨gb246, 8, none⟩ = some (.bool false) := (blk_cell BK246.out 8).trans rfl; have hcz60_9 : w59.cell? ⟨gb246, 9, none⟩ = some (.int .i64 0) := (blk_cell BK246.out 9).trans rfl; have hfz60_0 := blk_frozen BK246.out 0; have hfz60_1 := blk_frozen BK246.out 1; have hfz60_2 := blk_frozen BK246.out 2; have hfz60_3 := blk_frozen BK246.out 3; have hfz60_4 := blk_frozen BK246.out 4; have hfz60_5 := blk_frozen BK246.out 5; have hfz60_6 := blk_frozen BK246.out 6; have hfz60_7 := blk_frozen BK246.out 7; have hfz60_8 := blk_frozen BK246.out 8; have hfz60_9 := blk_frozen BK246.out 9; have p247 : 0 ≤ ((ji47) : Int) := of_decide_eq_true (by first | (with_reducible assumption) | assumption); have q247 : (ji47) < (x16_2.length : Int) := of_decide_eq_true (by first | (with_reducible assumption) | assumption); obtain ⟨ad247, e247, hx247_0, hx247_1, hx247_2, hx247_3, hx247_4, hx247_5, hx247_6, hx247_7, hx247_8, hx247_9⟩ := at_T31 (Kd.R_reads' HO_16.out).2.2 (ji47) p247 q247; obtain rfl : ad232 = ad247 := (by injection e247); have hn247_0 : ad232.block ≠ gb246 := Kd.own_blk (Kd.R_away HO_16.out (fun _ hk => hk.2)); have hn247_1 : ad232.block ≠ gb246 := Kd.own_blk (Kd.R_away HO_16.out (fun _ hk => hk.2)); have hn247_2 : ad232.block ≠ gb246 := Kd.own_blk (Kd.R_away HO_16.out (fun _ hk => hk.2)); have hn247_3 : ad232.block ≠ gb246 := Kd.own_blk (Kd.R_away HO_16.out (fun _ hk => hk.2)); have hn247_4 : ad232.block ≠ gb246 := Kd.own_blk (Kd.R_away HO_16.out (fun _ hk => hk.2)); have hn247_5 : ad232.block ≠ gb246 := Kd.own_blk (Kd.R_away HO_16.out (fun _ hk => hk.2)); have hn247_6 : ad232.block ≠ gb246 := Kd.own_blk (Kd.R_away HO_16.out (fun _ hk => hk.2)); have hn247_7 : ad232.block ≠ gb246 := Kd.own_blk (Kd.R_away HO_16.out (fun _ hk => hk.2)); have hn247_8 : ad232.block ≠ gb246 := Kd.own_blk (Kd.R_away HO_16.out (fun _ hk => hk.2)); have hn247_9 : ad232.block ≠ gb246 := Kd.own_blk (Kd.R_away HO_16.out (fun _ hk => hk.2)); replace hx247_0 := (cell_far (p := ⟨gb246, 0, none⟩) (by first | (rw [add_block]; exact hn247_0) | (show (Addr.add _ _).block ≠ _; rw [add_block]; exact hn247_0) | exact hn247_0) (.int .i64 t236)).trans hx247_0; replace hx247_1 := (cell_far (p := ⟨gb246, 0, none⟩) (by first | (rw [add_block]; exact hn247_0) | (show (Addr.add _ _).block ≠ _; rw [add_block]; exact hn247_0) | exact hn247_0) (.int .i64 t236)).trans hx247_1; replace hx247_2 := (cell_far (p := ⟨gb246, 0, none⟩) (by first | (rw [add_block]; exact hn247_0) | (show (Addr.add _ _).block ≠ _; rw [add_block]; exact hn247_0) | exact hn247_0) (.int .i64 t236)).trans hx247_2; replace hx247_3 := (cell_far (p := ⟨gb246, 0, none⟩) (by first | (rw [add_block]; exact hn247_0) | (show (Addr.add _ _).block ≠ _; rw [add_block]; exact hn247_0) | exact hn247_0) (.int .i64 t236)).trans hx247_3; replace hx247_4 := (cell_far (p := ⟨gb246, 0, none⟩) (by first | (rw [add_block]; exact hn247_0) | (show (Addr.add _ _).block ≠ _; rw [add_block]; exact hn247_0) | exact hn247_0) (.int .i64 t236)).trans hx247_4; replace hx247_5 := (cell_far (p := ⟨gb246, 0, none⟩) (by first | (rw [add_block]; exact hn247_0) | (show (Addr.add _ _).block ≠ _; rw [add_block]; exact hn247_0) | exact hn247_0) (.int .i64 t236)).trans hx247_5; replace hx247_6 := (cell_far (p := ⟨gb246, 0, none⟩) (by first | (rw [add_block]; exact hn247_0) | (show (Addr.add _ _).block ≠ _; rw [add_block]; exact hn247_0) | exact hn247_0) (.int .i64 t236)).trans hx247_6; replace hx247_7 := (cell_far (p := ⟨gb246, 0, none⟩) (by first | (rw [add_block]; exact hn247_0) | (show (Addr.add _ _).block ≠ _; rw [add_block]; exact hn247_0) | exact hn247_0) (.int .i64 t236)).trans hx247_7; replace hx247_8 := (cell_far (p := ⟨gb246, 0, none⟩) (by first | (rw [add_block]; exact hn247_0) | (show (Addr.add _ _).block ≠ _; rw [add_block]; exact hn247_0) | exact hn247_0) (.int .i64 t236)).trans hx247_8; replace hx247_9 := (cell_far (p := ⟨gb246, 0, none⟩) (by first | (rw [add_block]; exact hn247_0) | (show (Addr.add _ _).block ≠ _; rw [add_block]; exact hn247_0) | exact hn247_0) (.int .i64 t236)).trans hx247_9; replace hx247_0 := (cell_far (p := ⟨gb246, 1, none⟩) (by first | (rw [add_block]; exact hn247_1) | (show (Addr.add _ _).block ≠ _; rw [add_block]; exact hn247_1) | exact hn247_1) (.int .i64 t237)).trans hx247_0; replace hx247_1 := (cell_far (p := ⟨gb246, 1, none⟩) (by first | (rw [add_block]; exact hn247_1) | (show (Addr.add _ _).block ≠ _; rw [add_block]; exact hn247_1) | exact hn247_1) (.int .i64 t237)).trans hx247_1; replace hx247_2 := (cell_far (p := ⟨gb246, 1, none⟩) (by first | (rw [add_block]; exact hn247_1) | (show (Addr.add _ _).block ≠ _; rw [add_block]; exact hn247_1) | exact hn247_1) (.int .i64 t237)).trans hx247_2; replace hx247_3 := (cell_far (p := ⟨gb246, 1, none⟩) (by first | (rw [add_block]; exact hn247_1) | (show (Addr.add _ _).block ≠ _; rw [add_block]; exact hn247_1) | exact hn247_1) (.int .i64 t237)).trans hx247_3; replace hx247_4 := (cell_far (p := ⟨gb246, 1, none⟩) (by first | (rw [add_block]; exact hn247_1) | (show (Addr.add _ _).block ≠ _; rw [add_block]; exact hn247_1) | exact hn247_1) (.int .i64 t237)).trans hx247_4; replace hx247_5 := (cell_far (p := ⟨gb246, 1, none⟩) (by first | (rw [add_block]; exact hn247_1) | (show (Addr.add _ _).block ≠ _; rw [add_block]; exact hn247_1) | exact hn247_1) (.int .i64 t237)).trans hx247_5; replace hx247_6 := (cell_far (p := ⟨gb246, 1, none⟩) (by first | (rw [add_block]; exact hn247_1) | (show (Addr.add _ _).block ≠ _; rw [add_block]; exact hn247_1) | exact hn247_1) (.int .i64 t237)).trans hx247_6; replace hx247_7 := (cell_far (p := ⟨gb246, 1, none⟩) (by first | (rw [add_block]; exact hn247_1) | (show (Addr.add _ _).block ≠ _; rw [add_block]; exact hn247_1) | exact hn247_1) (.int .i64 t237)).trans hx247_7; replace hx247_8 := (cell_far (p := ⟨gb246, 1, none⟩) (by first | (rw [add_block]; exact hn247_1) | (show (Addr.add _ _).block ≠ _; rw [add_block]; exact hn247_1) | exact hn247_1) (.int .i64 t237)).trans hx247_8; replace hx247_9 := (cell_far (p := ⟨gb246, 1, none⟩) (by first | (rw [add_block]; exact hn247_1) | (show (Addr.add _ _).block ≠ _; rw [add_block]; exact hn247_1) | exact hn247_1) (.int .i64 t237)).trans hx247_9; replace hx247_0 := (cell_far (p := ⟨gb246, 2, none⟩) (by first | (rw [add_block]; exact hn247_2) | (show (Addr.add _ _).block ≠ _; rw [add_block]; exact hn247_2) | exact hn247_2) (.int .i64 t238)).trans hx247_0; replace hx247_1 := (cell_far (p := ⟨gb246, 2, none⟩) (by first | (rw [add_block]; exact hn247_2) | (show (Addr.add _ _).block ≠ _; rw [add_block]; exact hn247_2) | exact hn247_2) (.int .i64 t238)).trans hx247_1; replace hx247_2 := (cell_far (p := ⟨gb246, 2, none⟩) (by first | (rw [add_block]; exact hn247_2) | (show (Addr.add _ _).block ≠ _; rw [add_block]; exact hn247_2) | exact hn247_2) (.int .i64 t238)).trans hx247_2; replace hx247_3 := (cell_far (p := ⟨gb246, 2, none⟩) (by first | (rw [add_block]; exact hn247_2) | (show (Addr.add _ _).block ≠ _; rw [add_block]; exact hn247_2) | exact hn247_2) (.int .i64 t238)).trans hx247_3; replace hx247_4 := (cell_far (p := ⟨gb246, 2, none⟩) (by first | (rw [add_block]; exact hn247_2) | (show (Addr.add _ _).block ≠ _; rw [add_block]; exact hn247_2) | exact hn247_2) (.int .i64 t238)).trans hx247_4; replace hx247_5 := (cell_far (p := ⟨gb246, 2, none⟩) (by first | (rw [add_block]; exact hn247_2) | (show (Addr.add _ _).block ≠ _; rw [add_block]; exact hn247_2) | exact hn247_2) (.int .i64 t238)).trans hx247_5; replace hx247_6 := (cell_far (p := ⟨gb246, 2, none⟩) (by first | (rw [add_block]; exact hn247_2) | (show (Addr.add _ _).block ≠ _; rw [add_block]; exact hn247_2) | exact hn247_2) (.int .i64 t238)).trans hx247_6; replace hx247_7 := (cell_far (p := ⟨gb246, 2, none⟩) (by first | (rw [add_block]; exact hn247_2) | (show (Addr.add _ _).block ≠ _; rw [add_block]; exact hn247_2) | exact hn247_2) (.int .i64 t238)).trans hx247_7; replace hx247_8 := (cell_far (p := ⟨gb246, 2, none⟩) (by first | (rw [add_block]; exact hn247_2) | (show (Addr.add _ _).block ≠ _; rw [add_block]; exact hn247_2) | exact hn247_2) (.int .i64 t238)).trans hx247_8; replace hx247_9 := (cell_far (p := ⟨gb246, 2, none⟩) (by first | (rw [add_block]; exact hn247_2) | (show (Addr.add _ _).block ≠ _; rw [add_block]; exact hn247_2) | exact hn247_2) (.int .i64 t238)).trans hx247_9; replace hx247_0 := (cell_far (p := ⟨gb246, 3, none⟩) (by first | (rw [add_block]; exact hn247_3) | (show (Addr.add _ _).block ≠ _; rw [add_block]; exact hn247_3) | exact hn247_3) (.int .i64 t239)).trans hx247_0; replace hx247_1 := (cell_far (p := ⟨gb246, 3, none⟩) (by first | (rw [add_block]; exact hn247_3) | (show (Addr.add _ _).block ≠ _; rw [add_block]; exact hn247_3) | exact hn247_3) (.int .i64 t239)).trans hx247_1; replace hx247_2 := (cell_far (p := ⟨gb246, 3, none⟩) (by first | (rw [add_block]; exact hn247_3) | (show (Addr.add _ _).block ≠ _; rw [add_block]; exact hn247_3) | exact hn247_3) (.int .i64 t239)).trans hx247_2; replace hx247_3 := (cell_far (p := ⟨gb246, 3, none⟩) (by first | (rw [add_block]; exact hn247_3) | (show (Addr.add _ _).block ≠ _; rw [add_block]; exact hn247_3) | exact hn247_3) (.int .i64 t239)).trans hx247_3; replace hx247_4 := (cell_far (p := ⟨gb246, 3, none⟩) (by first | (rw [add_block]; exact hn247_3) | (show (Addr.add _ _).block ≠ _; rw [add_block]; exact hn247_3) | exact hn247_3) (.int .i64 t239)).trans hx247_4; replace hx247_5 := (cell_far (p := ⟨gb246, 3, none⟩) (by first | (rw [add_block]; exact hn247_3) | (show (Addr.add _ _).block ≠ _; rw [add_block]; exact hn247_3) | exact hn247_3) (.int .i64 t239)).trans hx247_5; replace hx247_6 := (cell_far (p := ⟨gb246, 3, none⟩) (by first | (rw [add_block]; exact hn247_3) | (show (Addr.add _ _).block ≠ _; rw [add_block]; exact hn247_3) | exact hn247_3) (.int .i64 t239)).trans hx247_6; replace hx247_7 := (cell_far (p := ⟨gb246, 3, none⟩) (by first | (rw [add_block]; exact hn247_3) | (show (Addr.add _ _).block ≠ _; rw [add_block]; exact hn247_3) | exact hn247_3) (.int .i64 t239)).trans hx247_7; replace hx247_8 := (cell_far (p := ⟨gb246, 3, none⟩) (by first | (rw [add_block]; exact hn247_3) | (show (Addr.add _ _).block ≠ _; rw [add_block]; exact hn247_3) | exact hn247_3) (.int .i64 t239)).trans hx247_8; replace hx247_9 := (cell_far (p := ⟨gb246, 3, none⟩) (by first | (rw [add_block]; exact hn247_3) | (show (Addr.add _ _).block ≠ _; rw [add_block]; exact hn247_3) | exact hn247_3) (.int .i64 t239)).trans hx247_9; replace hx247_0 := (cell_far (p := ⟨gb246, 4, none⟩) (by first | (rw [add_block]; exact hn247_4) | (show (Addr.add _ _).block ≠ _; rw [add_block]; exact hn247_4) | exact hn247_4) (.int .i64 t240)).trans hx247_0; replace hx247_1 := (cell_far (p := ⟨gb246, 4, none⟩) (by first | (rw [add_block]; exact hn247_4) | (show (Addr.add _ _).block ≠ _; rw [add_block]; exact hn247_4) | exact hn247_4) (.int .i64 t240)).trans hx247_1; replace hx247_2 := (cell_far (p := ⟨gb246, 4, none⟩) (by first | (rw [add_block]; exact hn247_4) | (show (Addr.add _ _).block ≠ _; rw [add_block]; exact hn247_4) | exact hn247_4) (.int .i64 t240)).trans hx247_2; replace hx247_3 := (cell_far (p := ⟨gb246, 4, none⟩) (by first | (rw [add_block]; exact hn247_4) | (show (Addr.add _ _).block ≠ _; rw [add_block]; exact hn247_4) | exact hn247_4) (.int .i64 t240)).trans hx247_3; replace hx247_4 := (cell_far (p := ⟨gb246, 4, none⟩) (by first | (rw [add_block]; exact hn247_4) | (show (Addr.add _ _).block ≠ _; rw [add_block]; exact hn247_4) | exact hn247_4) (.int .i64 t240)).trans hx247_4; replace hx247_5 := (cell_far (p := ⟨gb246, 4, none⟩) (by first | (rw [add_block]; exact hn247_4) | (show (Addr.add _ _).block ≠ _; rw [add_block]; exact hn247_4) | exact hn247_4) (.int .i64 t240)).trans hx247_5; replace hx247_6 := (cell_far (p := ⟨gb246, 4, none⟩) (by first | (rw [add_block]; exact hn247_4) | (show (Addr.add _ _).block ≠ _; rw [add_block]; exact hn247_4) | exact hn247_4) (.int .i64 t240)).trans hx247_6; replace hx247_7 := (cell_far (p := ⟨gb246, 4, none⟩) (by first | (rw [add_block]; exact hn247_4) | (show (Addr.add _ _).block ≠ _; rw [add_block]; exact hn247_4) | exact hn247_4) (.int .i64 t240)).trans hx247_7; replace hx247_8 := (cell_far (p := ⟨gb246, 4, none⟩) (by first | (rw [add_block]; exact hn247_4) | (show (Addr.add _ _).block ≠ _; rw [add_block]; exact hn247_4) | exact hn247_4) (.int .i64 t240)).trans hx247_8; replace hx247_9 := (cell_far (p := ⟨gb246, 4, none⟩) (by first | (rw [add_block]; exact hn247_4) | (show (Addr.add _ _).block ≠ _; rw [add_block]; exact hn247_4) | exact hn247_4) (.int .i64 t240)).trans hx247_9; replace hx247_0 := (cell_far (p := ⟨gb246, 5, none⟩) (by first | (rw [add_block]; exact hn247_5) | (show (Addr.add _ _).block ≠ _; rw [add_block]; exact hn247_5) | exact hn247_5) (.int .i64 t241)).trans hx247_0; replace hx247_1 := (cell_far (p := ⟨gb246, 5, none⟩) (by first | (rw [add_block]; exact hn247_5) | (show (Addr.add _ _).block ≠ _; rw [add_block]; exact hn247_5) | exact hn247_5) (.int .i64 t241)).trans hx247_1; replace hx247_2 := (cell_far (p := ⟨gb246, 5, none⟩) (by first | (rw [add_block]; exact hn247_5) | (show (Addr.add _ _).block ≠ _; rw [add_block]; exact hn247_5) | exact hn247_5) (.int .i64 t241)).trans hx247_2; replace hx247_3 := (cell_far (p := ⟨gb246, 5, none⟩) (by first | (rw [add_block]; exact hn247_5) | (show (Addr.add _ _).block ≠ _; rw [add_block]; exact hn247_5) | exact hn247_5) (.int .i64 t241)).trans hx247_3; replace hx247_4 := (cell_far (p := ⟨gb246, 5, none⟩) (by first | (rw [add_block]; exact hn247_5) | (show (Addr.add _ _).block ≠ _; rw [add_block]; exact hn247_5) | exact hn247_5) (.int .i64 t241)).trans hx247_4; replace hx247_5 := (cell_far (p := ⟨gb246, 5, none⟩) (by first | (rw [add_block]; exact hn247_5) | (show (Addr.add _ _).block ≠ _; rw [add_block]; exact hn247_5) | exact hn247_5) (.int .i64 t241)).trans hx247_5; replace hx247_6 := (cell_far (p := ⟨gb246, 5, none⟩) (by first | (rw [add_block]; exact hn247_5) | (show (Addr.add _ _).block ≠ _; rw [add_block]; exact hn247_5) | exact hn247_5) (.int .i64 t241)).trans hx247_6; replace hx247_7 := (cell_far (p := ⟨gb246, 5, none⟩) (by first | (rw [add_block]; exact hn247_5) | (show (Addr.add _ _).block ≠ _; rw [add_block]; exact hn247_5) | exact hn247_5) (.int .i64 t241)).trans hx247_7; replace hx247_8 := (cell_far (p := ⟨gb246, 5, none⟩) (by first | (rw [add_block]; exact hn247_5) | (show (Addr.add _ _).block ≠ _; rw [add_block]; exact hn247_5) | exact hn247_5) (.int .i64 t241)).trans hx247_8; replace hx247_9 := (cell_far (p := ⟨gb246, 5, none⟩) (by first | (rw [add_block]; exact hn247_5) | (show (Addr.add _ _).block ≠ _; rw [add_block]; exact hn247_5) | exact hn247_5) (.int .i64 t241)).trans hx247_9; replace hx247_0 := (cell_far (p := ⟨gb246, 6, none⟩) (by first | (rw [add_block]; exact hn247_6) | (show (Addr.add _ _).block ≠ _; rw [add_block]; exact hn247_6) | exact hn247_6) (.int .i64 t242)).trans hx247_0; replace hx247_1 := (cell_far (p := ⟨gb246, 6, none⟩) (by first | (rw [add_block]; exact hn247_6) | (show (Addr.add _ _).block ≠ _; rw [add_block]; exact hn247_6) | exact hn247_6) (.int .i64 t242)).trans hx247_1; replace hx247_2 := (cell_far (p := ⟨gb246, 6, none⟩) (by first | (rw [add_block]; exact hn247_6) | (show (Addr.add _ _).block ≠ _; rw [add_block]; exact hn247_6) | exact hn247_6) (.int .i64 t242)).trans hx247_2; replace hx247_3 := (cell_far (p := ⟨gb246, 6, none⟩) (by first | (rw [add_block]; exact hn247_6) | (show (Addr.add _ _).block ≠ _; rw [add_block]; exact hn247_6) | exact hn247_6) (.int .i64 t242)).trans hx247_3; replace hx247_4 := (cell_far (p := ⟨gb246, 6, none⟩) (by first | (rw [add_block]; exact hn247_6) | (show (Addr.add _ _).block ≠ _; rw [add_block]; exact hn247_6) | exact hn247_6) (.int .i64 t242)).trans hx247_4; replace hx247_5 := (cell_far (p := ⟨gb246, 6, none⟩) (by first | (rw [add_block]; exact hn247_6) | (show (Addr.add _ _).block ≠ _; rw [add_block]; exact hn247_6) | exact hn247_6) (.int .i64 t242)).trans hx247_5; replace hx247_6 := (cell_far (p := ⟨gb246, 6, none⟩) (by first | (rw [add_block]; exact hn247_6) | (show (Addr.add _ _).block ≠ _; rw [add_block]; exact hn247_6) | exact hn247_6) (.int .i64 t242)).trans hx247_6; replace hx247_7 := (cell_far (p := ⟨gb246, 6, none⟩) (by first | (rw [add_block]; exact hn247_6) | (show (Addr.add _ _).block ≠ _; rw [add_block]; exact hn247_6) | exact hn247_6) (.int .i64 t242)).trans hx247_7; replace hx247_8 := (cell_far (p := ⟨gb246, 6, none⟩) (by first | (rw [add_block]; exact hn247_6) | (show (Addr.add _ _).block ≠ _; rw [add_block]; exact hn247_6) | exact hn247_6) (.int .i64 t242)).trans hx247_8; replace hx247_9 := (cell_far (p := ⟨gb246, 6, none⟩) (by first | (rw [add_block]; exact hn247_6) | (show (Addr.add _ _).block ≠ _; rw [add_block]; exact hn247_6) | exact hn247_6) (.int .i64 t242)).trans hx247_9; replace hx247_0 := (cell_far (p := ⟨gb246, 7, none⟩) (by first | (rw [add_block]; exact hn247_7) | (show (Addr.add _ _).block ≠ _; rw [add_block]; exact hn247_7) | exact hn247_7) (.int .i64 t243)).trans hx247_0; replace hx247_1 := (cell_far (p := ⟨gb246, 7, none⟩) (by first | (rw [add_block]; exact hn247_7) | (show (Addr.add _ _).block ≠ _; rw [add_block]; exact hn247_7) | exact hn247_7) (.int .i64 t243)).trans hx247_1; replace hx247_2 := (cell_far (p := ⟨gb246, 7, none⟩) (by first | (rw [add_block]; exact hn247_7) | (show (Addr.add _ _).block ≠ _; rw [add_block]; exact hn247_7) | exact hn247_7) (.int .i64 t243)).trans hx247_2; replace hx247_3 := (cell_far (p := ⟨gb246, 7, none⟩) (by first | (rw [add_block]; exact hn247_7) | (show (Addr.add _ _).block ≠ _; rw [add_block]; exact hn247_7) | exact hn247_7) (.int .i64 t243)).trans hx247_3; replace hx247_4 := (cell_far (p := ⟨gb246, 7, none⟩) (by first | (rw [add_block]; exact hn247_7) | (show (Addr.add _ _).block ≠ _; rw [add_block]; exact hn247_7) | exact hn247_7) (.int .i64 t243)).trans hx247_4; replace hx247_5 := (cell_far (p := ⟨gb246, 7, none⟩) (by first | (rw [add_block]; exact hn247_7) | (show (Addr.add _ _).block ≠ _; rw [add_block]; exact hn247_7) | exact hn247_7) (.int .i64 t243)).trans hx247_5; replace hx247_6 := (cell_far (p := ⟨gb246, 7, none⟩) (by first | (rw [add_block]; exact hn247_7) | (show (Addr.add _ _).block ≠ _; rw [add_block]; exact hn247_7) | exact hn247_7) (.int .i64 t243)).trans hx247_6; replace hx247_7 := (cell_far (p := ⟨gb246, 7, none⟩) (by first | (rw [add_block]; exact hn247_7) | (show (Addr.add _ _).block ≠ _; rw [add_block]; exact hn247_7) | exact hn247_7) (.int .i64 t243)).trans hx247_7; replace hx247_8 := (cell_far (p := ⟨gb246, 7, none⟩) (by first | (rw [add_block]; exact hn247_7) | (show (Addr.add _ _).block ≠ _; rw [add_block]; exact hn247_7) | exact hn247_7) (.int .i64 t243)).trans hx247_8; replace hx247_9 := (cell_far (p := ⟨gb246, 7, none⟩) (by first | (rw [add_block]; exact hn247_7) | (show (Addr.add _ _).block ≠ _; rw [add_block]; exact hn247_7) | exact hn247_7) (.int .i64 t243)).trans hx247_9; replace hx247_0 := (cell_far (p := ⟨gb246, 8, none⟩) (by first | (rw [add_block]; exact hn247_8) | (show (Addr.add _ _).block ≠ _; rw [add_block]; exact hn247_8) | exact hn247_8) (.bool t244)).trans hx247_0; replace hx247_1 := (cell_far (p := ⟨gb246, 8, none⟩) (by first | (rw [add_block]; exact hn247_8) | (show (Addr.add _ _).block ≠ _; rw [add_block]; exact hn247_8) | exact hn247_8) (.bool t244)).trans hx247_1; replace hx247_2 := (cell_far (p := ⟨gb246, 8, none⟩) (by first | (rw [add_block]; exact hn247_8) | (show (Addr.add _ _).block ≠ _; rw [add_block]; exact hn247_8) | exact hn247_8) (.bool t244)).trans hx247_2; replace hx247_3 := (cell_far (p := ⟨gb246, 8, none⟩) (by first | (rw [add_block]; exact hn247_8) | (show (Addr.add _ _).block ≠ _; rw [add_block]; exact hn247_8) | exact hn247_8) (.bool t244)).trans hx247_3; replace hx247_4 := (cell_far (p := ⟨gb246, 8, none⟩) (by first | (rw [add_block]; exact hn247_8) | (show (Addr.add _ _).block ≠ _; rw [add_block]; exact hn247_8) | exact hn247_8) (.bool t244)).trans hx247_4; replace hx247_5 := (cell_far (p := ⟨gb246, 8, none⟩) (by first | (rw [add_block]; exact hn247_8) | (show (Addr.add _ _).block ≠ _; rw [add_block]; exact hn247_8) | exact hn247_8) (.bool t244)).trans hx247_5; replace hx247_6 := (cell_far (p := ⟨gb246, 8, none⟩) (by first | (rw [add_block]; exact hn247_8) | (show (Addr.add _ _).block ≠ _; rw [add_block]; exact hn247_8) | exact hn247_8) (.bool t244)).trans hx247_6; replace hx247_7 := (cell_far (p := ⟨gb246, 8, none⟩) (by first | (rw [add_block]; exact hn247_8) | (show (Addr.add _ _).block ≠ _; rw [add_block]; exact hn247_8) | exact hn247_8) (.bool t244)).trans hx247_7; replace hx247_8 := (cell_far (p := ⟨gb246, 8, none⟩) (by first | (rw [add_block]; exact hn247_8) | (show (Addr.add _ _).block ≠ _; rw [add_block]; exact hn247_8) | exact hn247_8) (.bool t244)).trans hx247_8; replace hx247_9 := (cell_far (p := ⟨gb246, 8, none⟩) (by first | (rw [add_block]; exact hn247_8) | (show (Addr.add _ _).block ≠ _; rw [add_block]; exact hn247_8) | exact hn247_8) (.bool t244)).trans hx247_9; replace hx247_0 := (cell_far (p := ⟨gb246, 9, none⟩) (by first | (rw [add_block]; exact hn247_9) | (show (Addr.add _ _).block ≠ _; rw [add_block]; exact hn247_9) | exact hn247_9) (.int .i64 t245)).trans hx247_0; replace hx247_1 := (cell_far (p := ⟨gb246, 9, none⟩) (by first | (rw [add_block]; exact hn247_9) | (show (Addr.add _ _).block ≠ _; rw [add_block]; exact hn247_9) | exact hn247_9) (.int .i64 t245)).trans hx247_1; replace hx247_2 := (cell_far (p := ⟨gb246, 9, none⟩) (by first | (rw [add_block]; exact hn247_9) | (show (Addr.add _ _).block ≠ _; rw [add_block]; exact hn247_9) | exact hn247_9) (.int .i64 t245)).trans hx247_2; replace hx247_3 := (cell_far (p := ⟨gb246, 9, none⟩) (by first | (rw [add_block]; exact hn247_9) | (show (Addr.add _ _).block ≠ _; rw [add_block]; exact hn247_9) | exact hn247_9) (.int .i64 t245)).trans hx247_3; replace hx247_4 := (cell_far (p := ⟨gb246, 9, none⟩) (by first | (rw [add_block]; exact hn247_9) | (show (Addr.add _ _).block ≠ _; rw [add_block]; exact hn247_9) | exact hn247_9) (.int .i64 t245)).trans hx247_4; replace hx247_5 := (cell_far (p := ⟨gb246, 9, none⟩) (by first | (rw [add_block]; exact hn247_9) | (show (Addr.add _ _).block ≠ _; rw [add_block]; exact hn247_9) | exact hn247_9) (.int .i64 t245)).trans hx247_5; replace hx247_6 := (cell_far (p := ⟨gb246, 9, none⟩) (by first | (rw [add_block]; exact hn247_9) | (show (Addr.add _ _).block ≠ _; rw [add_block]; exact hn247_9) | exact hn247_9) (.int .i64 t245)).trans hx247_6; replace hx247_7 := (cell_far (p := ⟨gb246, 9, none⟩) (by first | (rw [add_block]; exact hn247_9) | (show (Addr.add _ _).block ≠ _; rw [add_block]; exact hn247_9) | exact hn247_9) (.int .i64 t245)).trans hx247_7; replace hx247_8 := (cell_far (p := ⟨gb246, 9, none⟩) (by first | (rw [add_block]; exact hn247_9) | (show (Addr.add _ _).block ≠ _; rw [add_block]; exact hn247_9) | exact hn247_9) (.int .i64 t245)).trans hx247_8; replace hx247_9 := (cell_far (p := ⟨gb246, 9, none⟩) (by first | (rw [add_block]; exact hn247_9) | (show (Addr.add _ _).block ≠ _; rw [add_block]; exact hn247_9) | exact hn247_9) (.int .i64 t245)).trans hx247_9; clear hn247_0; clear hn247_1; clear hn247_2; clear hn247_3; clear hn247_4; clear hn247_5; clear hn247_6; clear hn247_7; clear hn247_8; clear hn247_9; replace p247 := eq_true p247; replace q247 := eq_true q247) | ((with_reducible refine gate_callee (f := 17) rfl ?_); refine goesL_ (some 131) rfl rfl Try.func17 (by kernel_rfl) rfl #[.slice Ao56 x15_2.length co56, .slice Ao33 t165.length co33, .agg #[.int .i64 ((rd_T31 x16_2 (ji47)).f0.f0), .int .i64 ((rd_T31 x16_2 (ji47)).f0.f1), .int .i64 ((rd_T31 x16_2 (ji47)).f0.f2), .int .i64 ((rd_T31 x16_2 (ji47)).f1), .int .i64 ((rd_T31 x16_2 (ji47)).f2), .int .i64 ((rd_T31 x16_2 (ji47)).f3), .int .i64 ((rd_T31 x16_2 (ji47)).f4), .int .i64 ((rd_T31 x16_2 (ji47)).f5), .bool ((rd_T31 x16_2 (ji47)).f6), .int .i64 ((rd_T31 x16_2 (ji47)).f7)]] rfl (by (try simp only [List.map_toArray, List.map_cons, List.map_nil]); first | done | (simp only [hji47]; rfl) | rfl | (simp only [List.length_drop, List.length_take]; rfl)) ?_; (with_reducible refine (warpref1_Step.calls _ _ x15_2 _ _ t165 ((rd_T31 x16_2 (ji47)).f0.f0) ((rd_T31 x16_2 (ji47)).f0.f1) ((rd_T31 x16_2 (ji47)).f0.f2) ((rd_T31 x16_2 (ji47)).f1) ((rd_T31 x16_2 (ji47)).f2) ((rd_T31 x16_2 (ji47)).f3) ((rd_T31 x16_2 (ji47)).f4) ((rd_T31 x16_2 (ji47)).f5) ((rd_T31 x16_2 (ji47)).f6) ((rd_T31 x16_2 (ji47)).f7) t248 t251 t252 t253 t254 t255 t256 t257 t258 t259 t260 _ ?side1 ?side2 ?side3 ?side4 A51.out).mono ?_); (case side1 => refine (Kd.R_reads' (e := 3) (base := w.heap.size) (ok := fun k_ => ((some k_ ≠ (.slice Ao33 t165.length co33 : Value).ownBlock ∧ some k_ ≠ (v230 : Value).ownBlock) ∧ some k_ ≠ (v234 : Value).ownBlock)) (n := x15_2.length) (c := co56) ?_).2.2; exact (by (with_reducible repeat (first | apply Kd.R_alloc | apply Kd.R_drewN | apply Kd.R_drew)); exact (Kd.R_mono (Kd.R_far (p := ⟨gb246, 9, none⟩) (Kd.R_far (p := ⟨gb246, 8, none⟩) (Kd.R_far (p := ⟨gb246, 7, none⟩) (Kd.R_far (p := ⟨gb246, 6, none⟩) (Kd.R_far (p := ⟨gb246, 5, none⟩) (Kd.R_far (p := ⟨gb246, 4, none⟩) (Kd.R_far (p := ⟨gb246, 3, none⟩) (Kd.R_far (p := ⟨gb246, 2, none⟩) (Kd.R_far (p := ⟨gb246, 1, none⟩) (Kd.R_far (p := ⟨gb246, 0, none⟩) (Kd.R_types HO_15.out BK246.out (by decide)) (fun _ hk => hk.2) (.int .i64 t236)) (fun _ hk => hk.2) (.int .i64 t237)) (fun _ hk => hk.2) (.int .i64 t238)) (fun _ hk => hk.2) (.int .i64 t239)) (fun _ hk => hk.2) (.int .i64 t240)) (fun _ hk => hk.2) (.int .i64 t241)) (fun _ hk => hk.2) (.int .i64 t242)) (fun _ hk => hk.2) (.int .i64 t243)) (fun _ hk => hk.2) (.bool t244)) (fun _ hk => hk.2) (.int .i64 t245)) (fun _ h_ => h_.1)))); (case side2 => exact (Kd.R_reads' HO_15.out).2.1); (case side3 => refine (Kd.R_reads' (e := 3) (base := w.heap.size) (ok := fun k_ => ((some k_ ≠ (.slice Ao56 x15_2.length co56 : Value).ownBlock ∧ some k_ ≠ (v230 : Value).ownBlock) ∧ some k_ ≠ (v234 : Value).ownBlock)) (n := t165.length) (c := co33) ?_).2.2; exact (by (with_reducible repeat (first | apply Kd.R_alloc | apply Kd.R_drewN | apply Kd.R_drew)); exact (Kd.R_mono (Kd.R_far (p := ⟨gb246, 9, none⟩) (Kd.R_far (p := ⟨gb246, 8, none⟩) (Kd.R_far (p := ⟨gb246, 7, none⟩) (Kd.R_far (p := ⟨gb246, 6, none⟩) (Kd.R_far (p := ⟨gb246, 5, none⟩) (Kd.R_far (p := ⟨gb246, 4, none⟩) (Kd.R_far (p := ⟨gb246, 3, none⟩) (Kd.R_far (p := ⟨gb246, 2, none⟩) (Kd.R_far (p := ⟨gb246, 1, none⟩) (Kd.R_far (p := ⟨gb246, 0, none⟩) (Kd.R_types HO_14.out BK246.out (by decide)) (fun _ hk => hk.2) (.int .i64 t236)) (fun _ hk => hk.2) (.int .i64 t237)) (fun _ hk => hk.2) (.int .i64 t238)) (fun _ hk => hk.2) (.int .i64 t239)) (fun _ hk => hk.2) (.int .i64 t240)) (fun _ hk => hk.2) (.int .i64 t241)) (fun _ hk => hk.2) (.int .i64 t242)) (fun _ hk => hk.2) (.int .i64 t243)) (fun _ hk => hk.2) (.bool t244)) (fun _ hk => hk.2) (.int .i64 t245)) (fun _ h_ => h_.1)))); (case side4 => exact (Kd.R_reads' HO_14.out).2.1); rintro e w61 ⟨v249, rfl, ho0, hb⟩; refine ⟨_, rfl, ?_⟩; have n0_ := Aside0.mk (Kd.R_elder' (by (with_reducible repeat (first | apply Kd.R_alloc | apply Kd.R_drewN | apply Kd.R_drew)); exact (Kd.R_mono (Kd.R_far (p := ⟨gb246, 9, none⟩) (Kd.R_far (p := ⟨gb246, 8, none⟩) (Kd.R_far (p := ⟨gb246, 7, none⟩) (Kd.R_far (p := ⟨gb246, 6, none⟩) (Kd.R_far (p := ⟨gb246, 5, none⟩) (Kd.R_far (p := ⟨gb246, 4, none⟩) (Kd.R_far (p := ⟨gb246, 3, none⟩) (Kd.R_far (p := ⟨gb246, 2, none⟩) (Kd.R_far (p := ⟨gb246, 1, none⟩) (Kd.R_far (p := ⟨gb246, 0, none⟩) (Kd.R_types HO_14.out BK246.out (by decide)) (fun _ hk => hk.2) (.int .i64 t236)) (fun _ hk => hk.2) (.int .i64 t237)) (fun _ hk => hk.2) (.int .i64 t238)) (fun _ hk => hk.2) (.int .i64 t239)) (fun _ hk => hk.2) (.int .i64 t240)) (fun _ hk => hk.2) (.int .i64 t241)) (fun _ hk => hk.2) (.int .i64 t242)) (fun _ hk => hk.2) (.int .i64 t243)) (fun _ hk => hk.2) (.bool t244)) (fun _ hk => hk.2) (.int .i64 t245)) (fun _ h_ => h_.1))) (Kd.R_base ho0) hb); have n1_ := Aside0.mk (Kd.R_elder' (by (with_reducible repeat (first | apply Kd.R_alloc | apply Kd.R_drewN | apply Kd.R_drew)); exact (Kd.R_mono (Kd.R_far (p := ⟨gb246, 9, none⟩) (Kd.R_far (p := ⟨gb246, 8, none⟩) (Kd.R_far (p := ⟨gb246, 7, none⟩) (Kd.R_far (p := ⟨gb246, 6, none⟩) (Kd.R_far (p := ⟨gb246, 5, none⟩) (Kd.R_far (p := ⟨gb246, 4, none⟩) (Kd.R_far (p := ⟨gb246, 3, none⟩) (Kd.R_far (p := ⟨gb246, 2, none⟩) (Kd.R_far (p := ⟨gb246, 1, none⟩) (Kd.R_far (p := ⟨gb246, 0, none⟩) (Kd.R_types HO_15.out BK246.out (by decide)) (fun _ hk => hk.2) (.int .i64 t236)) (fun _ hk => hk.2) (.int .i64 t237)) (fun _ hk => hk.2) (.int .i64 t238)) (fun _ hk => hk.2) (.int .i64 t239)) (fun _ hk => hk.2) (.int .i64 t240)) (fun _ hk => hk.2) (.int .i64 t241)) (fun _ hk => hk.2) (.int .i64 t242)) (fun _ hk => hk.2) (.int .i64 t243)) (fun _ hk => hk.2) (.bool t244)) (fun _ hk => hk.2) (.int .i64 t245)) (fun _ h_ => h_.1))) (Kd.R_base ho0) hb); have n2_ := Aside0.mk (Kd.R_below (by (with_reducible repeat (first | apply Kd.R_alloc | apply Kd.R_drewN | apply Kd.R_drew)); exact (Kd.R_mono (Kd.R_far (p := ⟨gb246, 9, none⟩) (Kd.R_far (p := ⟨gb246, 8, none⟩) (Kd.R_far (p := ⟨gb246, 7, none⟩) (Kd.R_far (p := ⟨gb246, 6, none⟩) (Kd.R_far (p := ⟨gb246, 5, none⟩) (Kd.R_far (p := ⟨gb246, 4, none⟩) (Kd.R_far (p := ⟨gb246, 3, none⟩) (Kd.R_far (p := ⟨gb246, 2, none⟩) (Kd.R_far (p := ⟨gb246, 1, none⟩) (Kd.R_far (p := ⟨gb246, 0, none⟩) (Kd.R_mono HO_16.out (fun k_ hk => (⟨hk, hk.2⟩ : _ ∧ k_ ≠ gb246))) (fun _ hk => hk.2) (.int .i64 t236)) (fun _ hk => hk.2) (.int .i64 t237)) (fun _ hk => hk.2) (.int .i64 t238)) (fun _ hk => hk.2) (.int .i64 t239)) (fun _ hk => hk.2) (.int .i64 t240)) (fun _ hk => hk.2) (.int .i64 t241)) (fun _ hk => hk.2) (.int .i64 t242)) (fun _ hk => hk.2) (.int .i64 t243)) (fun _ hk => hk.2) (.bool t244)) (fun _ hk => hk.2) (.int .i64 t245)) (fun _ h_ => h_.1))) hb); have n3_ := Aside0.mk (Kd.R_elder' (by (with_reducible repeat (first | apply Kd.R_alloc | apply Kd.R_drewN | apply Kd.R_drew)); exact (Kd.R_mono (Kd.R_far (p := ⟨gb246, 9, none⟩) (Kd.R_far (p := ⟨gb246, 8, none⟩) (Kd.R_far (p := ⟨gb246, 7, none⟩) (Kd.R_far (p := ⟨gb246, 6, none⟩) (Kd.R_far (p := ⟨gb246, 5, none⟩) (Kd.R_far (p := ⟨gb246, 4, none⟩) (Kd.R_far (p := ⟨gb246, 3, none⟩) (Kd.R_far (p := ⟨gb246, 2, none⟩) (Kd.R_far (p := ⟨gb246, 1, none⟩) (Kd.R_far (p := ⟨gb246, 0, none⟩) (Kd.R_types HO231.out BK246.out (by decide)) (fun _ hk => hk.2) (.int .i64 t236)) (fun _ hk => hk.2) (.int .i64 t237)) (fun _ hk => hk.2) (.int .i64 t238)) (fun _ hk => hk.2) (.int .i64 t239)) (fun _ hk => hk.2) (.int .i64 t240)) (fun _ hk => hk.2) (.int .i64 t241)) (fun _ hk => hk.2) (.int .i64 t242)) (fun _ hk => hk.2) (.int .i64 t243)) (fun _ hk => hk.2) (.bool t244)) (fun _ hk => hk.2) (.int .i64 t245)) (fun _ h_ => h_.1))) (Kd.R_base ho0) hb); have n4_ := Aside0.mk (Kd.R_elder' (by (with_reducible repeat (first | apply Kd.R_alloc | apply Kd.R_drewN | apply Kd.R_drew)); exact (Kd.R_mono (Kd.R_far (p := ⟨gb246, 9, none⟩) (Kd.R_far (p := ⟨gb246, 8, none⟩) (Kd.R_far (p := ⟨gb246, 7, none⟩) (Kd.R_far (p := ⟨gb246, 6, none⟩) (Kd.R_far (p := ⟨gb246, 5, none⟩) (Kd.R_far (p := ⟨gb246, 4, none⟩) (Kd.R_far (p := ⟨gb246, 3, none⟩) (Kd.R_far (p := ⟨gb246, 2, none⟩) (Kd.R_far (p := ⟨gb246, 1, none⟩) (Kd.R_far (p := ⟨gb246, 0, none⟩) (Kd.R_types HO235.out BK246.out (by decide)) (fun _ hk => hk.2) (.int .i64 t236)) (fun _ hk => hk.2) (.int .i64 t237)) (fun _ hk => hk.2) (.int .i64 t238)) (fun _ hk => hk.2) (.int .i64 t239)) (fun _ hk => hk.2) (.int .i64 t240)) (fun _ hk => hk.2) (.int .i64 t241)) (fun _ hk => hk.2) (.int .i64 t242)) (fun _ hk => hk.2) (.int .i64 t243)) (fun _ hk => hk.2) (.bool t244)) (fun _ hk => hk.2) (.int .i64 t245)) (fun _ h_ => h_.1))) (Kd.R_base ho0) hb); have n5_ := Aside0.mk (Kd.R_lower (Kd.R_new' (Kd.R_new' (Kd.R_new' (Kd.R_new' ho0 (Kd.R_lt (by (with_reducible repeat (first | apply Kd.R_alloc | apply Kd.R_drewN | apply Kd.R_drew)); exact (Kd.R_mono (Kd.R_far (p := ⟨gb246, 9, none⟩) (Kd.R_far (p := ⟨gb246, 8, none⟩) (Kd.R_far (p := ⟨gb246, 7, none⟩) (Kd.R_far (p := ⟨gb246, 6, none⟩) (Kd.R_far (p := ⟨gb246, 5, none⟩) (Kd.R_far (p := ⟨gb246, 4, none⟩) (Kd.R_far (p := ⟨gb246, 3, none⟩) (Kd.R_far (p := ⟨gb246, 2, none⟩) (Kd.R_far (p := ⟨gb246, 1, none⟩) (Kd.R_far (p := ⟨gb246, 0, none⟩) (Kd.R_types HO_14.out BK246.out (by decide)) (fun _ hk => hk.2) (.int .i64 t236)) (fun _ hk => hk.2) (.int .i64 t237)) (fun _ hk => hk.2) (.int .i64 t238)) (fun _ hk => hk.2) (.int .i64 t239)) (fun _ hk => hk.2) (.int .i64 t240)) (fun _ hk => hk.2) (.int .i64 t241)) (fun _ hk => hk.2) (.int .i64 t242)) (fun _ hk => hk.2) (.int .i64 t243)) (fun _ hk => hk.2) (.bool t244)) (fun _ hk => hk.2) (.int .i64 t245)) (fun _ h_ => h_.1))))) (Kd.R_lt (by (with_reducible repeat (first | apply Kd.R_alloc | apply Kd.R_drewN | apply Kd.R_drew)); exact (Kd.R_mono (Kd.R_far (p := ⟨gb246, 9, none⟩) (Kd.R_far (p := ⟨gb246, 8, none⟩) (Kd.R_far (p := ⟨gb246, 7, none⟩) (Kd.R_far (p := ⟨gb246, 6, none⟩) (Kd.R_far (p := ⟨gb246, 5, none⟩) (Kd.R_far (p := ⟨gb246, 4, none⟩) (Kd.R_far (p := ⟨gb246, 3, none⟩) (Kd.R_far (p := ⟨gb246, 2, none⟩) (Kd.R_far (p := ⟨gb246, 1, none⟩) (Kd.R_far (p := ⟨gb246, 0, none⟩) (Kd.R_types HO_15.out BK246.out (by decide)) (fun _ hk => hk.2) (.int .i64 t236)) (fun _ hk => hk.2) (.int .i64 t237)) (fun _ hk => hk.2) (.int .i64 t238)) (fun _ hk => hk.2) (.int .i64 t239)) (fun _ hk => hk.2) (.int .i64 t240)) (fun _ hk => hk.2) (.int .i64 t241)) (fun _ hk => hk.2) (.int .i64 t242)) (fun _ hk => hk.2) (.int .i64 t243)) (fun _ hk => hk.2) (.bool t244)) (fun _ hk => hk.2) (.int .i64 t245)) (fun _ h_ => h_.1))))) (Kd.R_lt (by (with_reducible repeat (first | apply Kd.R_alloc | apply Kd.R_drewN | apply Kd.R_drew)); exact (Kd.R_mono (Kd.R_far (p := ⟨gb246, 9, none⟩) (Kd.R_far (p := ⟨gb246, 8, none⟩) (Kd.R_far (p := ⟨gb246, 7, none⟩) (Kd.R_far (p := ⟨gb246, 6, none⟩) (Kd.R_far (p := ⟨gb246, 5, none⟩) (Kd.R_far (p := ⟨gb246, 4, none⟩) (Kd.R_far (p := ⟨gb246, 3, none⟩) (Kd.R_far (p := ⟨gb246, 2, none⟩) (Kd.R_far (p := ⟨gb246, 1, none⟩) (Kd.R_far (p := ⟨gb246, 0, none⟩) (Kd.R_types HO231.out BK246.out (by decide)) (fun _ hk => hk.2) (.int .i64 t236)) (fun _ hk => hk.2) (.int .i64 t237)) (fun _ hk => hk.2) (.int .i64 t238)) (fun _ hk => hk.2) (.int .i64 t239)) (fun _ hk => hk.2) (.int .i64 t240)) (fun _ hk => hk.2) (.int .i64 t241)) (fun _ hk => hk.2) (.int .i64 t242)) (fun _ hk => hk.2) (.int .i64 t243)) (fun _ hk => hk.2) (.bool t244)) (fun _ hk => hk.2) (.int .i64 t245)) (fun _ h_ => h_.1))))) (Kd.R_lt (by (with_reducible repeat (first | apply Kd.R_alloc | apply Kd.R_drewN | apply Kd.R_drew)); exact (Kd.R_mono (Kd.R_far (p := ⟨gb246, 9, none⟩) (Kd.R_far (p := ⟨gb246, 8, none⟩) (Kd.R_far (p := ⟨gb246, 7, none⟩) (Kd.R_far (p := ⟨gb246, 6, none⟩) (Kd.R_far (p := ⟨gb246, 5, none⟩) (Kd.R_far (p := ⟨gb246, 4, none⟩) (Kd.R_far (p := ⟨gb246, 3, none⟩) (Kd.R_far (p := ⟨gb246, 2, none⟩) (Kd.R_far (p := ⟨gb246, 1, none⟩) (Kd.R_far (p := ⟨gb246, 0, none⟩) (Kd.R_types HO235.out BK246.out (by decide)) (fun _ hk => hk.2) (.int .i64 t236)) (fun _ hk => hk.2) (.int .i64 t237)) (fun _ hk => hk.2) (.int .i64 t238)) (fun _ hk => hk.2) (.int .i64 t239)) (fun _ hk => hk.2) (.int .i64 t240)) (fun _ hk => hk.2) (.int .i64 t241)) (fun _ hk => hk.2) (.int .i64 t242)) (fun _ hk => hk.2) (.int .i64 t243)) (fun _ hk => hk.2) (.bool t244)) (fun _ hk => hk.2) (.int .i64 t245)) (fun _ h_ => h_.1))))) (below_size (by repeat (first | (with_reducible first | exact HB.out | apply below_alloc | apply pw_below_drewN | apply below_drew1 | refine below_set ?_ GE246.out) | exact HB.out)))); have n6_ := Aside0.mk (blk_below (g := gb246) (o := .cells #[.int .i64 t236, .int .i64 t237, .int .i64 t238, .int .i64 t239, .int .i64 t240, .int .i64 t241, .int .i64 t242, .int .i64 t243, .bool t244, .int .i64 t245] 31 (0, 0)) (by (with_reducible repeat (first | refine blk_drewN ?_ _ | refine blk_drew ?_ | refine blk_alloc ?_ _)); refine blk_put (cs := #[.int .i64 t236, .int .i64 t237, .int .i64 t238, .int .i64 t239, .int .i64 t240, .int .i64 t241, .int .i64 t242, .int .i64 t243, .bool t244, .int .i64 0]) ?_ 9 _ rfl; (with_reducible repeat (first | refine blk_drewN ?_ _ | refine blk_drew ?_ | refine blk_alloc ?_ _)); refine blk_put (cs := #[.int .i64 t236, .int .i64 t237, .int .i64 t238, .int .i64 t239, .int .i64 t240, .int .i64 t241, .int .i64 t242, .int .i64 t243, .bool false, .int .i64 0]) ?_ 8 _ rfl; (with_reducible repeat (first | refine blk_drewN ?_ _ | refine blk_drew ?_ | refine blk_alloc ?_ _)); refine blk_put (cs := #[.int .i64 t236, .int .i64 t237, .int .i64 t238, .int .i64 t239, .int .i64 t240, .int .i64 t241, .int .i64 t242, .int .i64 0, .bool false, .int .i64 0]) ?_ 7 _ rfl; (with_reducible repeat (first | refine blk_drewN ?_ _ | refine blk_drew ?_ | refine blk_alloc ?_ _)); refine blk_put (cs := #[.int .i64 t236, .int .i64 t237, .int .i64 t238, .int .i64 t239, .int .i64 t240, .int .i64 t241, .int .i64 0, .int .i64 0, .bool false, .int .i64 0]) ?_ 6 _ rfl; (with_reducible repeat (first | refine blk_drewN ?_ _ | refine blk_drew ?_ | refine blk_alloc ?_ _)); refine blk_put (cs := #[.int .i64 t236, .int .i64 t237, .int .i64 t238, .int .i64 t239, .int .i64 t240, .int .i64 0, .int .i64 0, .int .i64 0, .bool false, .int .i64 0]) ?_ 5 _ rfl; (with_reducible repeat (first | refine blk_drewN ?_ _ | refine blk_drew ?_ | refine blk_alloc ?_ _)); refine blk_put (cs := #[.int .i64 t236, .int .i64 t237, .int .i64 t238, .int .i64 t239, .int .i64 0, .int .i64 0, .int .i64 0, .int .i64 0, .bool false, .int .i64 0]) ?_ 4 _ rfl; (with_reducible repeat (first | refine blk_drewN ?_ _ | refine blk_drew ?_ | refine blk_alloc ?_ _)); refine blk_put (cs := #[.int .i64 t236, .int .i64 t237, .int .i64 t238, .int .i64 0, .int .i64 0, .int .i64 0, .int .i64 0, .int .i64 0, .bool false, .int .i64 0]) ?_ 3 _ rfl; (with_reducible repeat (first | refine blk_drewN ?_ _ | refine blk_drew ?_ | refine blk_alloc ?_ _)); refine blk_put (cs := #[.int .i64 t236, .int .i64 t237, .int .i64 0, .int .i64 0, .int .i64 0, .int .i64 0, .int .i64 0, .int .i64 0, .bool false, .int .i64 0]) ?_ 2 _ rfl; (with_reducible repeat (first | refine blk_drewN ?_ _ | refine blk_drew ?_ | refine blk_alloc ?_ _)); refine blk_put (cs := #[.int .i64 t236, .int .i64 0, .int .i64 0, .int .i64 0, .int .i64 0, .int .i64 0, .int .i64 0, .int .i64 0, .bool false, .int .i64 0]) ?_ 1 _ rfl; (with_reducible repeat (first | refine blk_drewN ?_ _ | refine blk_drew ?_ | refine blk_alloc ?_ _)); refine blk_put (cs := #[.int .i64 0, .int .i64 0, .int .i64 0, .int .i64 0, .int .i64 0, .int .i64 0, .int .i64 0, .int .i64 0, .bool false, .int .i64 0]) ?_ 0 _ rfl; (with_reducible repeat (first | refine blk_drewN ?_ _ | refine blk_drew ?_ | refine blk_alloc ?_ _)); exact BK246.out) hb); have n7_ := Aside0.mk (below_step (by repeat (first | (with_reducible first | exact HB.out | apply below_alloc | apply pw_below_drewN | apply below_drew1 | refine below_set ?_ GE246.out) | exact HB.out)) hb); clear HO_14; clear HO_15; clear HO_16; clear HO231; clear HO235; clear BK246; clear HB; have HO_14 := n0_; have HO_15 := n1_; have HO_16 := n2_; have HO231 := n3_; have HO235 := n4_; have HO250 := n5_; have BK246 := n6_; have HB := n7_; clear n0_ n1_ n2_ n3_ n4_ n5_ n6_ n7_; (try clear hb); (try clear hb2); (try clear hk); (try clear hi); (try clear ho0)) | ((with_reducible refine gate_dst (N := 22) rfl ?_); (try (refine gate_guard (by rfl) ?_; dsimp only)); refine box_event ?hg (N := 22) ?hd (cs := #[.slice none 0 0, .int .i64 0, .int .i64 0, .int .i64 0, .int .i64 0, .int .i64 0, .int .i64 0, .int .i64 0, .int .i64 0, .bool false, .int .i64 0]) (t := 45) ?hr ?_; (case hd => rfl); (case hg => rfl); (case hr => first | (go_simp; done) | (go_simp; rfl)); intro gb261 hg w62 hbox hb; have n0_ := Aside0.mk (Kd.R_below (by (with_reducible repeat (first | apply Kd.R_alloc | apply Kd.R_drewN | apply Kd.R_drew)); exact HO_14.out) hb); have n1_ := Aside0.mk (Kd.R_below (by (with_reducible repeat (first | apply Kd.R_alloc | apply Kd.R_drewN | apply Kd.R_drew)); exact HO_15.out) hb); have n2_ := Aside0.mk (Kd.R_below (by (with_reducible repeat (first | apply Kd.R_alloc | apply Kd.R_drewN | apply Kd.R_drew)); exact HO_16.out) hb); have n3_ := Aside0.mk (Kd.R_below (by (with_reducible repeat (first | apply Kd.R_alloc | apply Kd.R_drewN | apply Kd.R_drew)); exact HO231.out) hb); have n4_ := Aside0.mk (Kd.R_below (by (with_reducible repeat (first | apply Kd.R_alloc | apply Kd.R_drewN | apply Kd.R_drew)); exact HO235.out) hb); have n5_ := Aside0.mk (Kd.R_below (by (with_reducible repeat (first | apply Kd.R_alloc | apply Kd.R_drewN | apply Kd.R_drew)); exact HO250.out) hb); have n6_ := Aside0.mk (blk_below (g := gb246) (o := .cells #[.int .i64 t236, .int .i64 t237, .int .i64 t238, .int .i64 t239, .int .i64 t240, .int .i64 t241, .int .i64 t242, .int .i64 t243, .bool t244, .int .i64 t245] 31 (0, 0)) (by (with_reducible repeat (first | refine blk_drewN ?_ _ | refine blk_drew ?_ | refine blk_alloc ?_ _)); exact BK246.out) hb); have n7_ := Aside0.mk (below_step (by repeat (first | (with_reducible first | exact HB.out | apply below_alloc | apply pw_below_drewN | apply below_drew1 | refine below_set ?_ GE246.out) | exact HB.out)) hb); have n8_ := Aside0.mk (hbox); have n9_ := Aside0.mk ((by rw [hg]; exact (below_size (by repeat (first | (with_reducible first | exact HB.out | apply below_alloc | apply pw_below_drewN | apply below_drew1 | refine below_set ?_ GE246.out) | exact HB.out))) : w.heap.size ≤ gb261)); have n10_ := Aside0.mk ((by rw [hg]; exact (below_size (by repeat (first | (with_reducible first | exact HB.out | apply below_alloc | apply pw_below_drewN | apply below_drew1 | refine below_set ?_ GE246.out) | exact HB.out))) : w.heap.size ≤ gb261)); have n11_ := Aside0.mk ((by rw [hg]; exact Nat.ne_of_lt (blk_lt (g := gb246) (o := .cells #[.int .i64 t236, .int .i64 t237, .int .i64 t238, .int .i64 t239, .int .i64 t240, .int .i64 t241, .int .i64 t242, .int .i64 t243, .bool t244, .int .i64 t245] 31 (0, 0)) (by (with_reducible repeat (first | refine blk_drewN ?_ _ | refine blk_drew ?_ | refine blk_alloc ?_ _)); exact BK246.out)) : gb246 ≠ gb261)); have n12_ := Aside0.mk ((by rw [hg]; exact Nat.ne_of_gt (blk_lt (g := gb246) (o := .cells #[.int .i64 t236, .int .i64 t237, .int .i64 t238, .int .i64 t239, .int .i64 t240, .int .i64 t241, .int .i64 t242, .int .i64 t243, .bool t244, .int .i64 t245] 31 (0, 0)) (by (with_reducible repeat (first | refine blk_drewN ?_ _ | refine blk_drew ?_ | refine blk_alloc ?_ _)); exact BK246.out)) : gb261 ≠ gb246)); clear HO_14; clear HO_15; clear HO_16; clear HO231; clear HO235; clear HO250; clear BK246; clear HB; have HO_14 := n0_; have HO_15 := n1_; have HO_16 := n2_; have HO231 := n3_; have HO235 := n4_; have HO250 := n5_; have BK246 := n6_; have HB := n7_; have BK261 := n8_; have GW261 := n9_; have GE261 := n10_; have NB246_261 := n11_; have NB261_246 := n12_; clear n0_ n1_ n2_ n3_ n4_ n5_ n6_ n7_ n8_ n9_ n10_ n11_ n12_; clear hb hbox hg; obtain ⟨Ao63, co63, eo63⟩ := Kd.R_slice HO250.out; subst eo63; have hnb64 := NB261_246.out; have hnc64 := NB246_261.out; have hcz65_0 : w62.cell? ⟨gb261, 0, none⟩ = some (.slice none 0 0) := (blk_cell BK261.out 0).trans rfl; have hcz65_1 : w62.cell? ⟨gb261, 1, none⟩ = some (.int .i64 0) := (blk_cell BK261.out 1).trans rfl; have hcz65_2 : w62.cell? ⟨gb261, 2, none⟩ = some (.int .i64 0) := (blk_cell BK261.out 2).trans rfl; have hcz65_3 : w62.cell? ⟨gb261, 3, none⟩ = some (.int .i64 0) := (blk_cell BK261.out 3).trans rfl; have hcz65_4 : w62.cell? ⟨gb261, 4, none⟩ = some (.int .i64 0) := (blk_cell BK261.out 4).trans rfl; have hcz65_5 : w62.cell? ⟨gb261, 5, none⟩ = some (.int .i64 0) := (blk_cell BK261.out 5).trans rfl; have hcz65_6 : w62.cell? ⟨gb261, 6, none⟩ = some (.int .i64 0) := (blk_cell BK261.out 6).trans rfl; have hcz65_7 : w62.cell? ⟨gb261, 7, none⟩ = some (.int .i64 0) := (blk_cell BK261.out 7).trans rfl; have hcz65_8 : w62.cell? ⟨gb261, 8, none⟩ = some (.int .i64 0) := (blk_cell BK261.out 8).trans rfl; have hcz65_9 : w62.cell? ⟨gb261, 9, none⟩ = some (.bool false) := (blk_cell BK261.out 9).trans rfl; have hcz65_10 : w62.cell? ⟨gb261, 10, none⟩ = some (.int .i64 0) := (blk_cell BK261.out 10).trans rfl; have hfz65_0 := blk_frozen BK261.out 0; have hfz65_1 := blk_frozen BK261.out 1; have hfz65_2 := blk_frozen BK261.out 2; have hfz65_3 := blk_frozen BK261.out 3; have hfz65_4 := blk_frozen BK261.out 4; have hfz65_5 := blk_frozen BK261.out 5; have hfz65_6 := blk_frozen BK261.out 6; have hfz65_7 := blk_frozen BK261.out 7; have hfz65_8 := blk_frozen BK261.out 8; have hfz65_9 := blk_frozen BK261.out 9; have hfz65_10 := blk_frozen BK261.out 10))
                    (try simp only [Act.put, List.setIfInBounds_toArray, List.set_cons_zero, List.set_cons_succ])
                    go_cut [154] (fun v154 wc => ∃ (kq : Nat) (x154_51 : Bool), v154 = .bool x154_51 ∧ Aside0 (warplaw4_CufSteps.j2 kq l5 t165 x16_2 x17_2 ji47 x154_51 t248 t251 t252 t253 t254 t255 t256 t257 t258 t259 t260 = some r) ∧ Aside0 (kq ≤ k2) ∧ Aside0 (Kd.R (Kd.int .i64) 3 wc w.heap.size (fun k_ => some k_ ≠ ((.slice Ao63 t248.length co63) : Value).ownBlock) (.slice Ao33 t165.length co33) t165) ∧ Aside0 (Kd.R k31 31 wc w.heap.size (fun k_ => k_ ≠ gb246) (.slice (some ad232) x16_2.length co57) x16_2) ∧ Aside0 (Kd.R (Kd.int .i64) 3 wc w.heap.size (fun k_ => some k_ ≠ ((.slice Ao33 t165.length co33) : Value).ownBlock) (.slice Ao63 t248.length co63) t248) ∧ Aside0 (wc.heap[gb246]? = some (.cells #[.int .i64 t236, .int .i64 t237, .int .i64 t238, .int .i64 t239, .int .i64 t240, .int .i64 t241, .int .i64 t242, .int .i64 t243, .bool t244, .int .i64 t245] 31 (0, 0))) ∧ Aside0 (wc.heap[gb261]? = some (.cells #[(.slice Ao63 t248.length co63), .int .i64 t251, .int .i64 t252, .int .i64 t253, .int .i64 t254, .int .i64 t255, .int .i64 t256, .int .i64 t257, .int .i64 t258, .bool t259, .int .i64 t260] 45 (0, 0))) ∧ Aside0 (Below w.heap.size w wc))
                    case first =>
                     have H := HC52.out
                     clear HC52
                     replace H := Option.bind_eq_some_iff.mp H
                     obtain ⟨t262, A660, H⟩ := H
                     replace H : (if t262 = true then (if ((!(t236 == t251) || (!(t237 == t252) || (!(t238 == t253)))) || (!(t239 == t254) || (!(t240 == t255) || (!(t241 == t256) || (!(t242 == t257) || (!(t243 == t258) || (!(t244 == t259) || (!(t245 == t260))))))))) = true then (warplaw4_CufSteps.j2 k2 l5 t165 x16_2 x17_2 ji47 true t248 t251 t252 t253 t254 t255 t256 t257 t258 t259 t260) else ((warpref1_Ints.f k2 x15_2 y229).bind fun t263 => (if t263 = true then ((cuf_May.f k2 t233 t165).bind fun t264 => (warplaw4_CufSteps.j2 k2 l5 t165 x16_2 x17_2 ji47 (!t264) t248 t251 t252 t253 t254 t255 t256 t257 t258 t259 t260)) else (warplaw4_CufSteps.j2 k2 l5 t165 x16_2 x17_2 ji47 true t248 t251 t252 t253 t254 t255 t256 t257 t258 t259 t260)))) else (warplaw4_CufSteps.j2 k2 l5 t165 x16_2 x17_2 ji47 true t248 t251 t252 t253 t254 t255 t256 t257 t258 t259 t260)) = some r := H
                     have A66 := Aside0.mk A660
                     clear A660
                     by_cases c67 : t262 = true
                     ·
                      subst c67
                      have H1 : (if ((!(t236 == t251) || (!(t237 == t252) || (!(t238 == t253)))) || (!(t239 == t254) || (!(t240 == t255) || (!(t241 == t256) || (!(t242 == t257) || (!(t243 == t258) || (!(t244 == t259) || (!(t245 == t260))))))))) = true then (warplaw4_CufSteps.j2 k2 l5 t165 x16_2 x17_2 ji47 true t248 t251 t252 t253 t254 t255 t256 t257 t258 t259 t260) else ((warpref1_Ints.f k2 x15_2 y229).bind fun t263 => (if t263 = true then ((cuf_May.f k2 t233 t165).bind fun t264 => (warplaw4_CufSteps.j2 k2 l5 t165 x16_2 x17_2 ji47 (!t264) t248 t251 t252 t253 t254 t255 t256 t257 t258 t259 t260)) else (warplaw4_CufSteps.j2 k2 l5 t165 x16_2 x17_2 ji47 true t248 t251 t252 t253 t254 t255 t256 t257 t258 t259 t260)))) = some r := by rw [if_pos rfl] at H; exact H
                      clear H
                      have H := H1
                      clear H1
                      by_cases c68 : ((!(t236 == t251) || (!(t237 == t252) || (!(t238 == t253)))) || (!(t239 == t254) || (!(t240 == t255) || (!(t241 == t256) || (!(t242 == t257) || (!(t243 == t258) || (!(t244 == t259) || (!(t245 == t260))))))))) = true
                      ·
                       rw [if_pos c68] at H
                       have c68b0 : ((!(t236 == t251) || (!(t237 == t252) || (!(t238 == t253)))) || (!(t239 == t254) || (!(t240 == t255) || (!(t241 == t256) || (!(t242 == t257) || (!(t243 == t258) || (!(t244 == t259) || (!(t245 == t260))))))))) = true := c68
                       clear c68
                       (first | rw [c68b0] | (simp only [i64_w, i32_w]; rw [c68b0]) | skip)
                       have H' := Aside0.mk H
                       clear H
                       have hnb69 := NB261_246.out
                       have hnc69 := NB246_261.out
                       have hcz70_0 : w62.cell? ⟨gb261, 0, none⟩ = some (.slice none 0 0) := (blk_cell BK261.out 0).trans rfl
                       have hcz70_1 : w62.cell? ⟨gb261, 1, none⟩ = some (.int .i64 0) := (blk_cell BK261.out 1).trans rfl
                       have hcz70_2 : w62.cell? ⟨gb261, 2, none⟩ = some (.int .i64 0) := (blk_cell BK261.out 2).trans rfl
                       have hcz70_3 : w62.cell? ⟨gb261, 3, none⟩ = some (.int .i64 0) := (blk_cell BK261.out 3).trans rfl
                       have hcz70_4 : w62.cell? ⟨gb261, 4, none⟩ = some (.int .i64 0) := (blk_cell BK261.out 4).trans rfl
                       have hcz70_5 : w62.cell? ⟨gb261, 5, none⟩ = some (.int .i64 0) := (blk_cell BK261.out 5).trans rfl
                       have hcz70_6 : w62.cell? ⟨gb261, 6, none⟩ = some (.int .i64 0) := (blk_cell BK261.out 6).trans rfl
                       have hcz70_7 : w62.cell? ⟨gb261, 7, none⟩ = some (.int .i64 0) := (blk_cell BK261.out 7).trans rfl
                       have hcz70_8 : w62.cell? ⟨gb261, 8, none⟩ = some (.int .i64 0) := (blk_cell BK261.out 8).trans rfl
                       have hcz70_9 : w62.cell? ⟨gb261, 9, none⟩ = some (.bool false) := (blk_cell BK261.out 9).trans rfl
                       have hcz70_10 : w62.cell? ⟨gb261, 10, none⟩ = some (.int .i64 0) := (blk_cell BK261.out 10).trans rfl
                       have hfz70_0 := blk_frozen BK261.out 0
                       have hfz70_1 := blk_frozen BK261.out 1
                       have hfz70_2 := blk_frozen BK261.out 2
                       have hfz70_3 := blk_frozen BK261.out 3
                       have hfz70_4 := blk_frozen BK261.out 4
                       have hfz70_5 := blk_frozen BK261.out 5
                       have hfz70_6 := blk_frozen BK261.out 6
                       have hfz70_7 := blk_frozen BK261.out 7
                       have hfz70_8 := blk_frozen BK261.out 8
                       have hfz70_9 := blk_frozen BK261.out 9
                       have hfz70_10 := blk_frozen BK261.out 10
                       obtain ⟨Ao71, co71, eo71⟩ := Kd.R_slice HO235.out
                       subst eo71
                       go_wp2_with (first | ((with_reducible refine gate_callee (f := 18) rfl ?_); refine goesL_ (some 135) rfl rfl Try.func18 (by kernel_rfl) rfl #[.slice Ao71 t233.length co71, .slice Ao63 t248.length co63] rfl (by (try simp only [List.map_toArray, List.map_cons, List.map_nil]); first | done | rfl | (simp only [List.length_drop, List.length_take]; rfl)) ?_; (with_reducible refine (warpref1_Ints.calls k2 _ _ t233 _ _ t248 true _ ?side1 ?side2 ?side3 ?side4 A66.out).mono ?_); (case side1 => refine (Kd.R_reads' (e := 3) (base := w.heap.size) (ok := fun k_ => ((((True ∧ some k_ ≠ (.slice Ao33 t165.length co33 : Value).ownBlock) ∧ some k_ ≠ (.slice Ao56 x15_2.length co56 : Value).ownBlock) ∧ some k_ ≠ (v230 : Value).ownBlock) ∧ some k_ ≠ (.slice Ao63 t248.length co63 : Value).ownBlock)) (n := t233.length) (c := co71) ?_).2.2; exact (by (with_reducible repeat (first | apply Kd.R_alloc | apply Kd.R_drewN | apply Kd.R_drew)); exact (Kd.R_mono (Kd.R_far (p := ⟨gb261, 10, none⟩) (Kd.R_far (p := ⟨gb261, 9, none⟩) (Kd.R_far (p := ⟨gb261, 8, none⟩) (Kd.R_far (p := ⟨gb261, 7, none⟩) (Kd.R_far (p := ⟨gb261, 6, none⟩) (Kd.R_far (p := ⟨gb261, 5, none⟩) (Kd.R_far (p := ⟨gb261, 4, none⟩) (Kd.R_far (p := ⟨gb261, 3, none⟩) (Kd.R_far (p := ⟨gb261, 2, none⟩) (Kd.R_far (p := ⟨gb261, 1, none⟩) (Kd.R_far (p := ⟨gb261, 0, none⟩) (Kd.R_types HO235.out BK261.out (by decide)) (fun _ hk => hk.2) (.slice Ao63 t248.length co63)) (fun _ hk => hk.2) (.int .i64 t251)) (fun _ hk => hk.2) (.int .i64 t252)) (fun _ hk => hk.2) (.int .i64 t253)) (fun _ hk => hk.2) (.int .i64 t254)) (fun _ hk => hk.2) (.int .i64 t255)) (fun _ hk => hk.2) (.int .i64 t256)) (fun _ hk => hk.2) (.int .i64 t257)) (fun _ hk => hk.2) (.int .i64 t258)) (fun _ hk => hk.2) (.bool t259)) (fun _ hk => hk.2) (.int .i64 t260)) (fun _ h_ => h_.1)))); (case side2 => exact (Kd.R_reads' HO235.out).2.1); (case side3 => refine (Kd.R_reads' (e := 3) (base := w.heap.size) (ok := fun k_ => ((((True ∧ some k_ ≠ (.slice Ao33 t165.length co33 : Value).ownBlock) ∧ some k_ ≠ (.slice Ao56 x15_2.length co56 : Value).ownBlock) ∧ some k_ ≠ (v230 : Value).ownBlock) ∧ some k_ ≠ (.slice Ao71 t233.length co71 : Value).ownBlock)) (n := t248.length) (c := co63) ?_).2.2; exact (by (with_reducible repeat (first | apply Kd.R_alloc | apply Kd.R_drewN | apply Kd.R_drew)); exact (Kd.R_mono (Kd.R_far (p := ⟨gb261, 10, none⟩) (Kd.R_far (p := ⟨gb261, 9, none⟩) (Kd.R_far (p := ⟨gb261, 8, none⟩) (Kd.R_far (p := ⟨gb261, 7, none⟩) (Kd.R_far (p := ⟨gb261, 6, none⟩) (Kd.R_far (p := ⟨gb261, 5, none⟩) (Kd.R_far (p := ⟨gb261, 4, none⟩) (Kd.R_far (p := ⟨gb261, 3, none⟩) (Kd.R_far (p := ⟨gb261, 2, none⟩) (Kd.R_far (p := ⟨gb261, 1, none⟩) (Kd.R_far (p := ⟨gb261, 0, none⟩) (Kd.R_types HO250.out BK261.out (by decide)) (fun _ hk => hk.2) (.slice Ao63 t248.length co63)) (fun _ hk => hk.2) (.int .i64 t251)) (fun _ hk => hk.2) (.int .i64 t252)) (fun _ hk => hk.2) (.int .i64 t253)) (fun _ hk => hk.2) (.int .i64 t254)) (fun _ hk => hk.2) (.int .i64 t255)) (fun _ hk => hk.2) (.int .i64 t256)) (fun _ hk => hk.2) (.int .i64 t257)) (fun _ hk => hk.2) (.int .i64 t258)) (fun _ hk => hk.2) (.bool t259)) (fun _ hk => hk.2) (.int .i64 t260)) (fun _ h_ => h_.1)))); (case side4 => exact (Kd.R_reads' HO250.out).2.1); rintro e w' ⟨rfl, ⟨nd, rfl⟩⟩; refine ⟨_, rfl, ?_⟩; have hcz72_0 : w62.cell? ⟨gb246, 0, none⟩ = some (.int .i64 t236) := (blk_cell BK246.out 0).trans rfl; have hcz72_1 : w62.cell? ⟨gb246, 1, none⟩ = some (.int .i64 t237) := (blk_cell BK246.out 1).trans rfl; have hcz72_2 : w62.cell? ⟨gb246, 2, none⟩ = some (.int .i64 t238) := (blk_cell BK246.out 2).trans rfl; have hcz72_3 : w62.cell? ⟨gb246, 3, none⟩ = some (.int .i64 t239) := (blk_cell BK246.out 3).trans rfl; have hcz72_4 : w62.cell? ⟨gb246, 4, none⟩ = some (.int .i64 t240) := (blk_cell BK246.out 4).trans rfl; have hcz72_5 : w62.cell? ⟨gb246, 5, none⟩ = some (.int .i64 t241) := (blk_cell BK246.out 5).trans rfl; have hcz72_6 : w62.cell? ⟨gb246, 6, none⟩ = some (.int .i64 t242) := (blk_cell BK246.out 6).trans rfl; have hcz72_7 : w62.cell? ⟨gb246, 7, none⟩ = some (.int .i64 t243) := (blk_cell BK246.out 7).trans rfl; have hcz72_8 : w62.cell? ⟨gb246, 8, none⟩ = some (.bool t244) := (blk_cell BK246.out 8).trans rfl; have hcz72_9 : w62.cell? ⟨gb246, 9, none⟩ = some (.int .i64 t245) := (blk_cell BK246.out 9).trans rfl; have hfz72_0 := blk_frozen BK246.out 0; have hfz72_1 := blk_frozen BK246.out 1; have hfz72_2 := blk_frozen BK246.out 2; have hfz72_3 := blk_frozen BK246.out 3; have hfz72_4 := blk_frozen BK246.out 4; have hfz72_5 := blk_frozen BK246.out 5; have hfz72_6 := blk_frozen BK246.out 6; have hfz72_7 := blk_frozen BK246.out 7; have hfz72_8 := blk_frozen BK246.out 8; have hfz72_9 := blk_frozen BK246.out 9))
                       go_meet
                       case rel => exact ⟨_, (true), (by first | rfl | (simp; done) | (simp [*]; done)), H', ⟨by have := HJ6.out; have := HK2.out; first | omega | exact Nat.le_refl _⟩, ⟨by (with_reducible repeat (first | apply Kd.R_alloc | apply Kd.R_drewN | apply Kd.R_drew)); exact Kd.R_mono (Kd.R_far (p := ⟨gb261, 10, none⟩) (Kd.R_far (p := ⟨gb261, 9, none⟩) (Kd.R_far (p := ⟨gb261, 8, none⟩) (Kd.R_far (p := ⟨gb261, 7, none⟩) (Kd.R_far (p := ⟨gb261, 6, none⟩) (Kd.R_far (p := ⟨gb261, 5, none⟩) (Kd.R_far (p := ⟨gb261, 4, none⟩) (Kd.R_far (p := ⟨gb261, 3, none⟩) (Kd.R_far (p := ⟨gb261, 2, none⟩) (Kd.R_far (p := ⟨gb261, 1, none⟩) (Kd.R_far (p := ⟨gb261, 0, none⟩) (Kd.R_types HO_14.out BK261.out (by decide)) (fun _ hk => hk.2) (.slice Ao63 t248.length co63)) (fun _ hk => hk.2) (.int .i64 t251)) (fun _ hk => hk.2) (.int .i64 t252)) (fun _ hk => hk.2) (.int .i64 t253)) (fun _ hk => hk.2) (.int .i64 t254)) (fun _ hk => hk.2) (.int .i64 t255)) (fun _ hk => hk.2) (.int .i64 t256)) (fun _ hk => hk.2) (.int .i64 t257)) (fun _ hk => hk.2) (.int .i64 t258)) (fun _ hk => hk.2) (.bool t259)) (fun _ hk => hk.2) (.int .i64 t260)) (fun _ hk => hk.1.2)⟩, ⟨by (with_reducible repeat (first | apply Kd.R_alloc | apply Kd.R_drewN | apply Kd.R_drew)); exact Kd.R_mono (Kd.R_far (p := ⟨gb261, 10, none⟩) (Kd.R_far (p := ⟨gb261, 9, none⟩) (Kd.R_far (p := ⟨gb261, 8, none⟩) (Kd.R_far (p := ⟨gb261, 7, none⟩) (Kd.R_far (p := ⟨gb261, 6, none⟩) (Kd.R_far (p := ⟨gb261, 5, none⟩) (Kd.R_far (p := ⟨gb261, 4, none⟩) (Kd.R_far (p := ⟨gb261, 3, none⟩) (Kd.R_far (p := ⟨gb261, 2, none⟩) (Kd.R_far (p := ⟨gb261, 1, none⟩) (Kd.R_far (p := ⟨gb261, 0, none⟩) (Kd.R_types HO_16.out BK261.out (by decide)) (fun _ hk => hk.2) (.slice Ao63 t248.length co63)) (fun _ hk => hk.2) (.int .i64 t251)) (fun _ hk => hk.2) (.int .i64 t252)) (fun _ hk => hk.2) (.int .i64 t253)) (fun _ hk => hk.2) (.int .i64 t254)) (fun _ hk => hk.2) (.int .i64 t255)) (fun _ hk => hk.2) (.int .i64 t256)) (fun _ hk => hk.2) (.int .i64 t257)) (fun _ hk => hk.2) (.int .i64 t258)) (fun _ hk => hk.2) (.bool t259)) (fun _ hk => hk.2) (.int .i64 t260)) (fun _ hk => hk.1.2)⟩, ⟨by (with_reducible repeat (first | apply Kd.R_alloc | apply Kd.R_drewN | apply Kd.R_drew)); exact Kd.R_mono (Kd.R_far (p := ⟨gb261, 10, none⟩) (Kd.R_far (p := ⟨gb261, 9, none⟩) (Kd.R_far (p := ⟨gb261, 8, none⟩) (Kd.R_far (p := ⟨gb261, 7, none⟩) (Kd.R_far (p := ⟨gb261, 6, none⟩) (Kd.R_far (p := ⟨gb261, 5, none⟩) (Kd.R_far (p := ⟨gb261, 4, none⟩) (Kd.R_far (p := ⟨gb261, 3, none⟩) (Kd.R_far (p := ⟨gb261, 2, none⟩) (Kd.R_far (p := ⟨gb261, 1, none⟩) (Kd.R_far (p := ⟨gb261, 0, none⟩) (Kd.R_types HO250.out BK261.out (by decide)) (fun _ hk => hk.2) (.slice Ao63 t248.length co63)) (fun _ hk => hk.2) (.int .i64 t251)) (fun _ hk => hk.2) (.int .i64 t252)) (fun _ hk => hk.2) (.int .i64 t253)) (fun _ hk => hk.2) (.int .i64 t254)) (fun _ hk => hk.2) (.int .i64 t255)) (fun _ hk => hk.2) (.int .i64 t256)) (fun _ hk => hk.2) (.int .i64 t257)) (fun _ hk => hk.2) (.int .i64 t258)) (fun _ hk => hk.2) (.bool t259)) (fun _ hk => hk.2) (.int .i64 t260)) (fun _ hk => hk.1.1.1.1.2)⟩, ⟨by (with_reducible repeat (first | refine blk_drewN ?_ _ | refine blk_drew ?_ | refine blk_alloc ?_ _)); refine blk_far ?_ NB246_261.out _; (with_reducible repeat (first | refine blk_drewN ?_ _ | refine blk_drew ?_ | refine blk_alloc ?_ _)); refine blk_far ?_ NB246_261.out _; (with_reducible repeat (first | refine blk_drewN ?_ _ | refine blk_drew ?_ | refine blk_alloc ?_ _)); refine blk_far ?_ NB246_261.out _; (with_reducible repeat (first | refine blk_drewN ?_ _ | refine blk_drew ?_ | refine blk_alloc ?_ _)); refine blk_far ?_ NB246_261.out _; (with_reducible repeat (first | refine blk_drewN ?_ _ | refine blk_drew ?_ | refine blk_alloc ?_ _)); refine blk_far ?_ NB246_261.out _; (with_reducible repeat (first | refine blk_drewN ?_ _ | refine blk_drew ?_ | refine blk_alloc ?_ _)); refine blk_far ?_ NB246_261.out _; (with_reducible repeat (first | refine blk_drewN ?_ _ | refine blk_drew ?_ | refine blk_alloc ?_ _)); refine blk_far ?_ NB246_261.out _; (with_reducible repeat (first | refine blk_drewN ?_ _ | refine blk_drew ?_ | refine blk_alloc ?_ _)); refine blk_far ?_ NB246_261.out _; (with_reducible repeat (first | refine blk_drewN ?_ _ | refine blk_drew ?_ | refine blk_alloc ?_ _)); refine blk_far ?_ NB246_261.out _; (with_reducible repeat (first | refine blk_drewN ?_ _ | refine blk_drew ?_ | refine blk_alloc ?_ _)); refine blk_far ?_ NB246_261.out _; (with_reducible repeat (first | refine blk_drewN ?_ _ | refine blk_drew ?_ | refine blk_alloc ?_ _)); refine blk_far ?_ NB246_261.out _; (with_reducible repeat (first | refine blk_drewN ?_ _ | refine blk_drew ?_ | refine blk_alloc ?_ _)); exact BK246.out⟩, ⟨by (with_reducible repeat (first | refine blk_drewN ?_ _ | refine blk_drew ?_ | refine blk_alloc ?_ _)); refine blk_put (cs := #[.slice Ao63 t248.length co63, .int .i64 t251, .int .i64 t252, .int .i64 t253, .int .i64 t254, .int .i64 t255, .int .i64 t256, .int .i64 t257, .int .i64 t258, .bool t259, .int .i64 0]) ?_ 10 _ rfl; (with_reducible repeat (first | refine blk_drewN ?_ _ | refine blk_drew ?_ | refine blk_alloc ?_ _)); refine blk_put (cs := #[.slice Ao63 t248.length co63, .int .i64 t251, .int .i64 t252, .int .i64 t253, .int .i64 t254, .int .i64 t255, .int .i64 t256, .int .i64 t257, .int .i64 t258, .bool false, .int .i64 0]) ?_ 9 _ rfl; (with_reducible repeat (first | refine blk_drewN ?_ _ | refine blk_drew ?_ | refine blk_alloc ?_ _)); refine blk_put (cs := #[.slice Ao63 t248.length co63, .int .i64 t251, .int .i64 t252, .int .i64 t253, .int .i64 t254, .int .i64 t255, .int .i64 t256, .int .i64 t257, .int .i64 0, .bool false, .int .i64 0]) ?_ 8 _ rfl; (with_reducible repeat (first | refine blk_drewN ?_ _ | refine blk_drew ?_ | refine blk_alloc ?_ _)); refine blk_put (cs := #[.slice Ao63 t248.length co63, .int .i64 t251, .int .i64 t252, .int .i64 t253, .int .i64 t254, .int .i64 t255, .int .i64 t256, .int .i64 0, .int .i64 0, .bool false, .int .i64 0]) ?_ 7 _ rfl; (with_reducible repeat (first | refine blk_drewN ?_ _ | refine blk_drew ?_ | refine blk_alloc ?_ _)); refine blk_put (cs := #[.slice Ao63 t248.length co63, .int .i64 t251, .int .i64 t252, .int .i64 t253, .int .i64 t254, .int .i64 t255, .int .i64 0, .int .i64 0, .int .i64 0, .bool false, .int .i64 0]) ?_ 6 _ rfl; (with_reducible repeat (first | refine blk_drewN ?_ _ | refine blk_drew ?_ | refine blk_alloc ?_ _)); refine blk_put (cs := #[.slice Ao63 t248.length co63, .int .i64 t251, .int .i64 t252, .int .i64 t253, .int .i64 t254, .int .i64 0, .int .i64 0, .int .i64 0, .int .i64 0, .bool false, .int .i64 0]) ?_ 5 _ rfl; (with_reducible repeat (first | refine blk_drewN ?_ _ | refine blk_drew ?_ | refine blk_alloc ?_ _)); refine blk_put (cs := #[.slice Ao63 t248.length co63, .int .i64 t251, .int .i64 t252, .int .i64 t253, .int .i64 0, .int .i64 0, .int .i64 0, .int .i64 0, .int .i64 0, .bool false, .int .i64 0]) ?_ 4 _ rfl; (with_reducible repeat (first | refine blk_drewN ?_ _ | refine blk_drew ?_ | refine blk_alloc ?_ _)); refine blk_put (cs := #[.slice Ao63 t248.length co63, .int .i64 t251, .int .i64 t252, .int .i64 0, .int .i64 0, .int .i64 0, .int .i64 0, .int .i64 0, .int .i64 0, .bool false, .int .i64 0]) ?_ 3 _ rfl; (with_reducible repeat (first | refine blk_drewN ?_ _ | refine blk_drew ?_ | refine blk_alloc ?_ _)); refine blk_put (cs := #[.slice Ao63 t248.length co63, .int .i64 t251, .int .i64 0, .int .i64 0, .int .i64 0, .int .i64 0, .int .i64 0, .int .i64 0, .int .i64 0, .bool false, .int .i64 0]) ?_ 2 _ rfl; (with_reducible repeat (first | refine blk_drewN ?_ _ | refine blk_drew ?_ | refine blk_alloc ?_ _)); refine blk_put (cs := #[.slice Ao63 t248.length co63, .int .i64 0, .int .i64 0, .int .i64 0, .int .i64 0, .int .i64 0, .int .i64 0, .int .i64 0, .int .i64 0, .bool false, .int .i64 0]) ?_ 1 _ rfl; (with_reducible repeat (first | refine blk_drewN ?_ _ | refine blk_drew ?_ | refine blk_alloc ?_ _)); refine blk_put (cs := #[.slice none 0 0, .int .i64 0, .int .i64 0, .int .i64 0, .int .i64 0, .int .i64 0, .int .i64 0, .int .i64 0, .int .i64 0, .bool false, .int .i64 0]) ?_ 0 _ rfl; (with_reducible repeat (first | refine blk_drewN ?_ _ | refine blk_drew ?_ | refine blk_alloc ?_ _)); exact BK261.out⟩, ⟨by repeat (first | (with_reducible first | exact HB.out | apply below_alloc | apply pw_below_drewN | apply below_drew1 | refine below_set ?_ GE246.out | refine below_set ?_ GE261.out) | exact HB.out)⟩⟩
                      ·
                       rw [if_neg c68] at H
                       have c68b0 : ((!(t236 == t251) || (!(t237 == t252) || (!(t238 == t253)))) || (!(t239 == t254) || (!(t240 == t255) || (!(t241 == t256) || (!(t242 == t257) || (!(t243 == t258) || (!(t244 == t259) || (!(t245 == t260))))))))) = false := by simpa using c68
                       clear c68
                       (first | rw [c68b0] | (simp only [i64_w, i32_w]; rw [c68b0]) | skip)
                       replace H := Option.bind_eq_some_iff.mp H
                       obtain ⟨t263, A730, H⟩ := H
                       replace H : (if t263 = true then ((cuf_May.f k2 t233 t165).bind fun t264 => (warplaw4_CufSteps.j2 k2 l5 t165 x16_2 x17_2 ji47 (!t264) t248 t251 t252 t253 t254 t255 t256 t257 t258 t259 t260)) else (warplaw4_CufSteps.j2 k2 l5 t165 x16_2 x17_2 ji47 true t248 t251 t252 t253 t254 t255 t256 t257 t258 t259 t260)) = some r := H
                       have A73 := Aside0.mk A730
                       clear A730
                       by_cases c74 : t263 = true
                       ·
                        subst c74
                        have H1 : ((cuf_May.f k2 t233 t165).bind fun t264 => (warplaw4_CufSteps.j2 k2 l5 t165 x16_2 x17_2 ji47 (!t264) t248 t251 t252 t253 t254 t255 t256 t257 t258 t259 t260)) = some r := by rw [if_pos rfl] at H; exact H
                        clear H
                        have H := H1
                        clear H1
                        replace H := Option.bind_eq_some_iff.mp H
                        obtain ⟨t264, A750, H⟩ := H
                        replace H : (warplaw4_CufSteps.j2 k2 l5 t165 x16_2 x17_2 ji47 (!t264) t248 t251 t252 t253 t254 t255 t256 t257 t258 t259 t260) = some r := H
                        have A75 := Aside0.mk A750
                        clear A750
                        have H' := Aside0.mk H
                        clear H
                        have hnb76 := NB261_246.out
                        have hnc76 := NB246_261.out
                        have hcz77_0 : w62.cell? ⟨gb261, 0, none⟩ = some (.slice none 0 0) := (blk_cell BK261.out 0).trans rfl
                        have hcz77_1 : w62.cell? ⟨gb261, 1, none⟩ = some (.int .i64 0) := (blk_cell BK261.out 1).trans rfl
                        have hcz77_2 : w62.cell? ⟨gb261, 2, none⟩ = some (.int .i64 0) := (blk_cell BK261.out 2).trans rfl
                        have hcz77_3 : w62.cell? ⟨gb261, 3, none⟩ = some (.int .i64 0) := (blk_cell BK261.out 3).trans rfl
                        have hcz77_4 : w62.cell? ⟨gb261, 4, none⟩ = some (.int .i64 0) := (blk_cell BK261.out 4).trans rfl
                        have hcz77_5 : w62.cell? ⟨gb261, 5, none⟩ = some (.int .i64 0) := (blk_cell BK261.out 5).trans rfl
                        have hcz77_6 : w62.cell? ⟨gb261, 6, none⟩ = some (.int .i64 0) := (blk_cell BK261.out 6).trans rfl
                        have hcz77_7 : w62.cell? ⟨gb261, 7, none⟩ = some (.int .i64 0) := (blk_cell BK261.out 7).trans rfl
                        have hcz77_8 : w62.cell? ⟨gb261, 8, none⟩ = some (.int .i64 0) := (blk_cell BK261.out 8).trans rfl
                        have hcz77_9 : w62.cell? ⟨gb261, 9, none⟩ = some (.bool false) := (blk_cell BK261.out 9).trans rfl
                        have hcz77_10 : w62.cell? ⟨gb261, 10, none⟩ = some (.int .i64 0) := (blk_cell BK261.out 10).trans rfl
                        have hfz77_0 := blk_frozen BK261.out 0
                        have hfz77_1 := blk_frozen BK261.out 1
                        have hfz77_2 := blk_frozen BK261.out 2
                        have hfz77_3 := blk_frozen BK261.out 3
                        have hfz77_4 := blk_frozen BK261.out 4
                        have hfz77_5 := blk_frozen BK261.out 5
                        have hfz77_6 := blk_frozen BK261.out 6
                        have hfz77_7 := blk_frozen BK261.out 7
                        have hfz77_8 := blk_frozen BK261.out 8
                        have hfz77_9 := blk_frozen BK261.out 9
                        have hfz77_10 := blk_frozen BK261.out 10
                        obtain ⟨Ao78, co78, eo78⟩ := Kd.R_slice HO235.out
                        subst eo78
                        go_wp2_with (first | ((with_reducible refine gate_callee (f := 18) rfl ?_); refine goesL_ (some 135) rfl rfl Try.func18 (by kernel_rfl) rfl #[.slice Ao78 t233.length co78, .slice Ao63 t248.length co63] rfl (by (try simp only [List.map_toArray, List.map_cons, List.map_nil]); first | done | rfl | (simp only [List.length_drop, List.length_take]; rfl)) ?_; (with_reducible refine (warpref1_Ints.calls k2 _ _ t233 _ _ t248 true _ ?side1 ?side2 ?side3 ?side4 A66.out).mono ?_); (case side1 => refine (Kd.R_reads' (e := 3) (base := w.heap.size) (ok := fun k_ => ((((True ∧ some k_ ≠ (.slice Ao33 t165.length co33 : Value).ownBlock) ∧ some k_ ≠ (.slice Ao56 x15_2.length co56 : Value).ownBlock) ∧ some k_ ≠ (v230 : Value).ownBlock) ∧ some k_ ≠ (.slice Ao63 t248.length co63 : Value).ownBlock)) (n := t233.length) (c := co78) ?_).2.2; exact (by (with_reducible repeat (first | apply Kd.R_alloc | apply Kd.R_drewN | apply Kd.R_drew)); exact (Kd.R_mono (Kd.R_far (p := ⟨gb261, 10, none⟩) (Kd.R_far (p := ⟨gb261, 9, none⟩) (Kd.R_far (p := ⟨gb261, 8, none⟩) (Kd.R_far (p := ⟨gb261, 7, none⟩) (Kd.R_far (p := ⟨gb261, 6, none⟩) (Kd.R_far (p := ⟨gb261, 5, none⟩) (Kd.R_far (p := ⟨gb261, 4, none⟩) (Kd.R_far (p := ⟨gb261, 3, none⟩) (Kd.R_far (p := ⟨gb261, 2, none⟩) (Kd.R_far (p := ⟨gb261, 1, none⟩) (Kd.R_far (p := ⟨gb261, 0, none⟩) (Kd.R_types HO235.out BK261.out (by decide)) (fun _ hk => hk.2) (.slice Ao63 t248.length co63)) (fun _ hk => hk.2) (.int .i64 t251)) (fun _ hk => hk.2) (.int .i64 t252)) (fun _ hk => hk.2) (.int .i64 t253)) (fun _ hk => hk.2) (.int .i64 t254)) (fun _ hk => hk.2) (.int .i64 t255)) (fun _ hk => hk.2) (.int .i64 t256)) (fun _ hk => hk.2) (.int .i64 t257)) (fun _ hk => hk.2) (.int .i64 t258)) (fun _ hk => hk.2) (.bool t259)) (fun _ hk => hk.2) (.int .i64 t260)) (fun _ h_ => h_.1)))); (case side2 => exact (Kd.R_reads' HO235.out).2.1); (case side3 => refine (Kd.R_reads' (e := 3) (base := w.heap.size) (ok := fun k_ => ((((True ∧ some k_ ≠ (.slice Ao33 t165.length co33 : Value).ownBlock) ∧ some k_ ≠ (.slice Ao56 x15_2.length co56 : Value).ownBlock) ∧ some k_ ≠ (v230 : Value).ownBlock) ∧ some k_ ≠ (.slice Ao78 t233.length co78 : Value).ownBlock)) (n := t248.length) (c := co63) ?_).2.2; exact (by (with_reducible repeat (first | apply Kd.R_alloc | apply Kd.R_drewN | apply Kd.R_drew)); exact (Kd.R_mono (Kd.R_far (p := ⟨gb261, 10, none⟩) (Kd.R_far (p := ⟨gb261, 9, none⟩) (Kd.R_far (p := ⟨gb261, 8, none⟩) (Kd.R_far (p := ⟨gb261, 7, none⟩) (Kd.R_far (p := ⟨gb261, 6, none⟩) (Kd.R_far (p := ⟨gb261, 5, none⟩) (Kd.R_far (p := ⟨gb261, 4, none⟩) (Kd.R_far (p := ⟨gb261, 3, none⟩) (Kd.R_far (p := ⟨gb261, 2, none⟩) (Kd.R_far (p := ⟨gb261, 1, none⟩) (Kd.R_far (p := ⟨gb261, 0, none⟩) (Kd.R_types HO250.out BK261.out (by decide)) (fun _ hk => hk.2) (.slice Ao63 t248.length co63)) (fun _ hk => hk.2) (.int .i64 t251)) (fun _ hk => hk.2) (.int .i64 t252)) (fun _ hk => hk.2) (.int .i64 t253)) (fun _ hk => hk.2) (.int .i64 t254)) (fun _ hk => hk.2) (.int .i64 t255)) (fun _ hk => hk.2) (.int .i64 t256)) (fun _ hk => hk.2) (.int .i64 t257)) (fun _ hk => hk.2) (.int .i64 t258)) (fun _ hk => hk.2) (.bool t259)) (fun _ hk => hk.2) (.int .i64 t260)) (fun _ h_ => h_.1)))); (case side4 => exact (Kd.R_reads' HO250.out).2.1); rintro e w' ⟨rfl, ⟨nd, rfl⟩⟩; refine ⟨_, rfl, ?_⟩; have hcz79_0 : w62.cell? ⟨gb246, 0, none⟩ = some (.int .i64 t236) := (blk_cell BK246.out 0).trans rfl; have hcz79_1 : w62.cell? ⟨gb246, 1, none⟩ = some (.int .i64 t237) := (blk_cell BK246.out 1).trans rfl; have hcz79_2 : w62.cell? ⟨gb246, 2, none⟩ = some (.int .i64 t238) := (blk_cell BK246.out 2).trans rfl; have hcz79_3 : w62.cell? ⟨gb246, 3, none⟩ = some (.int .i64 t239) := (blk_cell BK246.out 3).trans rfl; have hcz79_4 : w62.cell? ⟨gb246, 4, none⟩ = some (.int .i64 t240) := (blk_cell BK246.out 4).trans rfl; have hcz79_5 : w62.cell? ⟨gb246, 5, none⟩ = some (.int .i64 t241) := (blk_cell BK246.out 5).trans rfl; have hcz79_6 : w62.cell? ⟨gb246, 6, none⟩ = some (.int .i64 t242) := (blk_cell BK246.out 6).trans rfl; have hcz79_7 : w62.cell? ⟨gb246, 7, none⟩ = some (.int .i64 t243) := (blk_cell BK246.out 7).trans rfl; have hcz79_8 : w62.cell? ⟨gb246, 8, none⟩ = some (.bool t244) := (blk_cell BK246.out 8).trans rfl; have hcz79_9 : w62.cell? ⟨gb246, 9, none⟩ = some (.int .i64 t245) := (blk_cell BK246.out 9).trans rfl; have hfz79_0 := blk_frozen BK246.out 0; have hfz79_1 := blk_frozen BK246.out 1; have hfz79_2 := blk_frozen BK246.out 2; have hfz79_3 := blk_frozen BK246.out 3; have hfz79_4 := blk_frozen BK246.out 4; have hfz79_5 := blk_frozen BK246.out 5; have hfz79_6 := blk_frozen BK246.out 6; have hfz79_7 := blk_frozen BK246.out 7; have hfz79_8 := blk_frozen BK246.out 8; have hfz79_9 := blk_frozen BK246.out 9; obtain ⟨Ao80, co80, eo80⟩ := Kd.R_slice HO231.out; subst eo80) | (go_at_call 18; (with_reducible refine (warpref1_Ints.calls k2 _ _ x15_2 _ _ y229 true _ ?side1 ?side2 ?side3 ?side4 A73.out).mono ?_); (case side1 => refine (Kd.R_reads' (e := 3) (base := w.heap.size) (ok := fun k_ => (((some k_ ≠ (.slice Ao33 t165.length co33 : Value).ownBlock ∧ some k_ ≠ (.slice Ao80 y229.length co80 : Value).ownBlock) ∧ some k_ ≠ (.slice Ao78 t233.length co78 : Value).ownBlock) ∧ some k_ ≠ (.slice Ao63 t248.length co63 : Value).ownBlock)) (n := x15_2.length) (c := co56) ?_).2.2; exact (by (with_reducible repeat (first | apply Kd.R_alloc | apply Kd.R_drewN | apply Kd.R_drew)); exact (Kd.R_mono (Kd.R_far (p := ⟨gb261, 10, none⟩) (Kd.R_far (p := ⟨gb261, 9, none⟩) (Kd.R_far (p := ⟨gb261, 8, none⟩) (Kd.R_far (p := ⟨gb261, 7, none⟩) (Kd.R_far (p := ⟨gb261, 6, none⟩) (Kd.R_far (p := ⟨gb261, 5, none⟩) (Kd.R_far (p := ⟨gb261, 4, none⟩) (Kd.R_far (p := ⟨gb261, 3, none⟩) (Kd.R_far (p := ⟨gb261, 2, none⟩) (Kd.R_far (p := ⟨gb261, 1, none⟩) (Kd.R_far (p := ⟨gb261, 0, none⟩) (Kd.R_types HO_15.out BK261.out (by decide)) (fun _ hk => hk.2) (.slice Ao63 t248.length co63)) (fun _ hk => hk.2) (.int .i64 t251)) (fun _ hk => hk.2) (.int .i64 t252)) (fun _ hk => hk.2) (.int .i64 t253)) (fun _ hk => hk.2) (.int .i64 t254)) (fun _ hk => hk.2) (.int .i64 t255)) (fun _ hk => hk.2) (.int .i64 t256)) (fun _ hk => hk.2) (.int .i64 t257)) (fun _ hk => hk.2) (.int .i64 t258)) (fun _ hk => hk.2) (.bool t259)) (fun _ hk => hk.2) (.int .i64 t260)) (fun _ h_ => h_.1)))); (case side2 => exact (Kd.R_reads' HO_15.out).2.1); (case side3 => refine (Kd.R_reads' (e := 3) (base := w.heap.size) (ok := fun k_ => (((some k_ ≠ (.slice Ao33 t165.length co33 : Value).ownBlock ∧ some k_ ≠ (.slice Ao56 x15_2.length co56 : Value).ownBlock) ∧ some k_ ≠ (.slice Ao78 t233.length co78 : Value).ownBlock) ∧ some k_ ≠ (.slice Ao63 t248.length co63 : Value).ownBlock)) (n := y229.length) (c := co80) ?_).2.2; exact (by (with_reducible repeat (first | apply Kd.R_alloc | apply Kd.R_drewN | apply Kd.R_drew)); exact (Kd.R_mono (Kd.R_far (p := ⟨gb261, 10, none⟩) (Kd.R_far (p := ⟨gb261, 9, none⟩) (Kd.R_far (p := ⟨gb261, 8, none⟩) (Kd.R_far (p := ⟨gb261, 7, none⟩) (Kd.R_far (p := ⟨gb261, 6, none⟩) (Kd.R_far (p := ⟨gb261, 5, none⟩) (Kd.R_far (p := ⟨gb261, 4, none⟩) (Kd.R_far (p := ⟨gb261, 3, none⟩) (Kd.R_far (p := ⟨gb261, 2, none⟩) (Kd.R_far (p := ⟨gb261, 1, none⟩) (Kd.R_far (p := ⟨gb261, 0, none⟩) (Kd.R_types HO231.out BK261.out (by decide)) (fun _ hk => hk.2) (.slice Ao63 t248.length co63)) (fun _ hk => hk.2) (.int .i64 t251)) (fun _ hk => hk.2) (.int .i64 t252)) (fun _ hk => hk.2) (.int .i64 t253)) (fun _ hk => hk.2) (.int .i64 t254)) (fun _ hk => hk.2) (.int .i64 t255)) (fun _ hk => hk.2) (.int .i64 t256)) (fun _ hk => hk.2) (.int .i64 t257)) (fun _ hk => hk.2) (.int .i64 t258)) (fun _ hk => hk.2) (.bool t259)) (fun _ hk => hk.2) (.int .i64 t260)) (fun _ h_ => h_.1)))); (case side4 => exact (Kd.R_reads' HO231.out).2.1); rintro e w' ⟨rfl, ⟨nd, rfl⟩⟩) | (go_at_call 19; (with_reducible refine (cuf_May.calls k2 _ _ t233 _ _ t165 t264 _ ?side1 ?side2 ?side3 ?side4 A75.out).mono ?_); (case side1 => refine (Kd.R_reads' (e := 3) (base := w.heap.size) (ok := fun k_ => ((((True ∧ some k_ ≠ (.slice Ao33 t165.length co33 : Value).ownBlock) ∧ some k_ ≠ (.slice Ao56 x15_2.length co56 : Value).ownBlock) ∧ some k_ ≠ (.slice Ao80 y229.length co80 : Value).ownBlock) ∧ some k_ ≠ (.slice Ao63 t248.length co63 : Value).ownBlock)) (n := t233.length) (c := co78) ?_).2.2; exact (by (with_reducible repeat (first | apply Kd.R_alloc | apply Kd.R_drewN | apply Kd.R_drew)); exact (Kd.R_mono (Kd.R_far (p := ⟨gb261, 10, none⟩) (Kd.R_far (p := ⟨gb261, 9, none⟩) (Kd.R_far (p := ⟨gb261, 8, none⟩) (Kd.R_far (p := ⟨gb261, 7, none⟩) (Kd.R_far (p := ⟨gb261, 6, none⟩) (Kd.R_far (p := ⟨gb261, 5, none⟩) (Kd.R_far (p := ⟨gb261, 4, none⟩) (Kd.R_far (p := ⟨gb261, 3, none⟩) (Kd.R_far (p := ⟨gb261, 2, none⟩) (Kd.R_far (p := ⟨gb261, 1, none⟩) (Kd.R_far (p := ⟨gb261, 0, none⟩) (Kd.R_types HO235.out BK261.out (by decide)) (fun _ hk => hk.2) (.slice Ao63 t248.length co63)) (fun _ hk => hk.2) (.int .i64 t251)) (fun _ hk => hk.2) (.int .i64 t252)) (fun _ hk => hk.2) (.int .i64 t253)) (fun _ hk => hk.2) (.int .i64 t254)) (fun _ hk => hk.2) (.int .i64 t255)) (fun _ hk => hk.2) (.int .i64 t256)) (fun _ hk => hk.2) (.int .i64 t257)) (fun _ hk => hk.2) (.int .i64 t258)) (fun _ hk => hk.2) (.bool t259)) (fun _ hk => hk.2) (.int .i64 t260)) (fun _ h_ => h_.1)))); (case side2 => exact (Kd.R_reads' HO235.out).2.1); (case side3 => refine (Kd.R_reads' (e := 3) (base := w.heap.size) (ok := fun k_ => (((some k_ ≠ (.slice Ao56 x15_2.length co56 : Value).ownBlock ∧ some k_ ≠ (.slice Ao80 y229.length co80 : Value).ownBlock) ∧ some k_ ≠ (.slice Ao78 t233.length co78 : Value).ownBlock) ∧ some k_ ≠ (.slice Ao63 t248.length co63 : Value).ownBlock)) (n := t165.length) (c := co33) ?_).2.2; exact (by (with_reducible repeat (first | apply Kd.R_alloc | apply Kd.R_drewN | apply Kd.R_drew)); exact (Kd.R_mono (Kd.R_far (p := ⟨gb261, 10, none⟩) (Kd.R_far (p := ⟨gb261, 9, none⟩) (Kd.R_far (p := ⟨gb261, 8, none⟩) (Kd.R_far (p := ⟨gb261, 7, none⟩) (Kd.R_far (p := ⟨gb261, 6, none⟩) (Kd.R_far (p := ⟨gb261, 5, none⟩) (Kd.R_far (p := ⟨gb261, 4, none⟩) (Kd.R_far (p := ⟨gb261, 3, none⟩) (Kd.R_far (p := ⟨gb261, 2, none⟩) (Kd.R_far (p := ⟨gb261, 1, none⟩) (Kd.R_far (p := ⟨gb261, 0, none⟩) (Kd.R_types HO_14.out BK261.out (by decide)) (fun _ hk => hk.2) (.slice Ao63 t248.length co63)) (fun _ hk => hk.2) (.int .i64 t251)) (fun _ hk => hk.2) (.int .i64 t252)) (fun _ hk => hk.2) (.int .i64 t253)) (fun _ hk => hk.2) (.int .i64 t254)) (fun _ hk => hk.2) (.int .i64 t255)) (fun _ hk => hk.2) (.int .i64 t256)) (fun _ hk => hk.2) (.int .i64 t257)) (fun _ hk => hk.2) (.int .i64 t258)) (fun _ hk => hk.2) (.bool t259)) (fun _ hk => hk.2) (.int .i64 t260)) (fun _ h_ => h_.1)))); (case side4 => exact (Kd.R_reads' HO_14.out).2.1); rintro e w' ⟨rfl, ⟨nd, rfl⟩⟩))
                        go_meet
                        case rel => exact ⟨_, (!t264), (by first | rfl | (simp; done) | (simp [*]; done)), H', ⟨by have := HJ6.out; have := HK2.out; first | omega | exact Nat.le_refl _⟩, ⟨by (with_reducible repeat (first | apply Kd.R_alloc | apply Kd.R_drewN | apply Kd.R_drew)); exact Kd.R_mono (Kd.R_far (p := ⟨gb261, 10, none⟩) (Kd.R_far (p := ⟨gb261, 9, none⟩) (Kd.R_far (p := ⟨gb261, 8, none⟩) (Kd.R_far (p := ⟨gb261, 7, none⟩) (Kd.R_far (p := ⟨gb261, 6, none⟩) (Kd.R_far (p := ⟨gb261, 5, none⟩) (Kd.R_far (p := ⟨gb261, 4, none⟩) (Kd.R_far (p := ⟨gb261, 3, none⟩) (Kd.R_far (p := ⟨gb261, 2, none⟩) (Kd.R_far (p := ⟨gb261, 1, none⟩) (Kd.R_far (p := ⟨gb261, 0, none⟩) (Kd.R_types HO_14.out BK261.out (by decide)) (fun _ hk => hk.2) (.slice Ao63 t248.length co63)) (fun _ hk => hk.2) (.int .i64 t251)) (fun _ hk => hk.2) (.int .i64 t252)) (fun _ hk => hk.2) (.int .i64 t253)) (fun _ hk => hk.2) (.int .i64 t254)) (fun _ hk => hk.2) (.int .i64 t255)) (fun _ hk => hk.2) (.int .i64 t256)) (fun _ hk => hk.2) (.int .i64 t257)) (fun _ hk => hk.2) (.int .i64 t258)) (fun _ hk => hk.2) (.bool t259)) (fun _ hk => hk.2) (.int .i64 t260)) (fun _ hk => hk.1.2)⟩, ⟨by (with_reducible repeat (first | apply Kd.R_alloc | apply Kd.R_drewN | apply Kd.R_drew)); exact Kd.R_mono (Kd.R_far (p := ⟨gb261, 10, none⟩) (Kd.R_far (p := ⟨gb261, 9, none⟩) (Kd.R_far (p := ⟨gb261, 8, none⟩) (Kd.R_far (p := ⟨gb261, 7, none⟩) (Kd.R_far (p := ⟨gb261, 6, none⟩) (Kd.R_far (p := ⟨gb261, 5, none⟩) (Kd.R_far (p := ⟨gb261, 4, none⟩) (Kd.R_far (p := ⟨gb261, 3, none⟩) (Kd.R_far (p := ⟨gb261, 2, none⟩) (Kd.R_far (p := ⟨gb261, 1, none⟩) (Kd.R_far (p := ⟨gb261, 0, none⟩) (Kd.R_types HO_16.out BK261.out (by decide)) (fun _ hk => hk.2) (.slice Ao63 t248.length co63)) (fun _ hk => hk.2) (.int .i64 t251)) (fun _ hk => hk.2) (.int .i64 t252)) (fun _ hk => hk.2) (.int .i64 t253)) (fun _ hk => hk.2) (.int .i64 t254)) (fun _ hk => hk.2) (.int .i64 t255)) (fun _ hk => hk.2) (.int .i64 t256)) (fun _ hk => hk.2) (.int .i64 t257)) (fun _ hk => hk.2) (.int .i64 t258)) (fun _ hk => hk.2) (.bool t259)) (fun _ hk => hk.2) (.int .i64 t260)) (fun _ hk => hk.1.2)⟩, ⟨by (with_reducible repeat (first | apply Kd.R_alloc | apply Kd.R_drewN | apply Kd.R_drew)); exact Kd.R_mono (Kd.R_far (p := ⟨gb261, 10, none⟩) (Kd.R_far (p := ⟨gb261, 9, none⟩) (Kd.R_far (p := ⟨gb261, 8, none⟩) (Kd.R_far (p := ⟨gb261, 7, none⟩) (Kd.R_far (p := ⟨gb261, 6, none⟩) (Kd.R_far (p := ⟨gb261, 5, none⟩) (Kd.R_far (p := ⟨gb261, 4, none⟩) (Kd.R_far (p := ⟨gb261, 3, none⟩) (Kd.R_far (p := ⟨gb261, 2, none⟩) (Kd.R_far (p := ⟨gb261, 1, none⟩) (Kd.R_far (p := ⟨gb261, 0, none⟩) (Kd.R_types HO250.out BK261.out (by decide)) (fun _ hk => hk.2) (.slice Ao63 t248.length co63)) (fun _ hk => hk.2) (.int .i64 t251)) (fun _ hk => hk.2) (.int .i64 t252)) (fun _ hk => hk.2) (.int .i64 t253)) (fun _ hk => hk.2) (.int .i64 t254)) (fun _ hk => hk.2) (.int .i64 t255)) (fun _ hk => hk.2) (.int .i64 t256)) (fun _ hk => hk.2) (.int .i64 t257)) (fun _ hk => hk.2) (.int .i64 t258)) (fun _ hk => hk.2) (.bool t259)) (fun _ hk => hk.2) (.int .i64 t260)) (fun _ hk => hk.1.1.1.1.2)⟩, ⟨by (with_reducible repeat (first | refine blk_drewN ?_ _ | refine blk_drew ?_ | refine blk_alloc ?_ _)); refine blk_far ?_ NB246_261.out _; (with_reducible repeat (first | refine blk_drewN ?_ _ | refine blk_drew ?_ | refine blk_alloc ?_ _)); refine blk_far ?_ NB246_261.out _; (with_reducible repeat (first | refine blk_drewN ?_ _ | refine blk_drew ?_ | refine blk_alloc ?_ _)); refine blk_far ?_ NB246_261.out _; (with_reducible repeat (first | refine blk_drewN ?_ _ | refine blk_drew ?_ | refine blk_alloc ?_ _)); refine blk_far ?_ NB246_261.out _; (with_reducible repeat (first | refine blk_drewN ?_ _ | refine blk_drew ?_ | refine blk_alloc ?_ _)); refine blk_far ?_ NB246_261.out _; (with_reducible repeat (first | refine blk_drewN ?_ _ | refine blk_drew ?_ | refine blk_alloc ?_ _)); refine blk_far ?_ NB246_261.out _; (with_reducible repeat (first | refine blk_drewN ?_ _ | refine blk_drew ?_ | refine blk_alloc ?_ _)); refine blk_far ?_ NB246_261.out _; (with_reducible repeat (first | refine blk_drewN ?_ _ | refine blk_drew ?_ | refine blk_alloc ?_ _)); refine blk_far ?_ NB246_261.out _; (with_reducible repeat (first | refine blk_drewN ?_ _ | refine blk_drew ?_ | refine blk_alloc ?_ _)); refine blk_far ?_ NB246_261.out _; (with_reducible repeat (first | refine blk_drewN ?_ _ | refine blk_drew ?_ | refine blk_alloc ?_ _)); refine blk_far ?_ NB246_261.out _; (with_reducible repeat (first | refine blk_drewN ?_ _ | refine blk_drew ?_ | refine blk_alloc ?_ _)); refine blk_far ?_ NB246_261.out _; (with_reducible repeat (first | refine blk_drewN ?_ _ | refine blk_drew ?_ | refine blk_alloc ?_ _)); exact BK246.out⟩, ⟨by (with_reducible repeat (first | refine blk_drewN ?_ _ | refine blk_drew ?_ | refine blk_alloc ?_ _)); refine blk_put (cs := #[.slice Ao63 t248.length co63, .int .i64 t251, .int .i64 t252, .int .i64 t253, .int .i64 t254, .int .i64 t255, .int .i64 t256, .int .i64 t257, .int .i64 t258, .bool t259, .int .i64 0]) ?_ 10 _ rfl; (with_reducible repeat (first | refine blk_drewN ?_ _ | refine blk_drew ?_ | refine blk_alloc ?_ _)); refine blk_put (cs := #[.slice Ao63 t248.length co63, .int .i64 t251, .int .i64 t252, .int .i64 t253, .int .i64 t254, .int .i64 t255, .int .i64 t256, .int .i64 t257, .int .i64 t258, .bool false, .int .i64 0]) ?_ 9 _ rfl; (with_reducible repeat (first | refine blk_drewN ?_ _ | refine blk_drew ?_ | refine blk_alloc ?_ _)); refine blk_put (cs := #[.slice Ao63 t248.length co63, .int .i64 t251, .int .i64 t252, .int .i64 t253, .int .i64 t254, .int .i64 t255, .int .i64 t256, .int .i64 t257, .int .i64 0, .bool false, .int .i64 0]) ?_ 8 _ rfl; (with_reducible repeat (first | refine blk_drewN ?_ _ | refine blk_drew ?_ | refine blk_alloc ?_ _)); refine blk_put (cs := #[.slice Ao63 t248.length co63, .int .i64 t251, .int .i64 t252, .int .i64 t253, .int .i64 t254, .int .i64 t255, .int .i64 t256, .int .i64 0, .int .i64 0, .bool false, .int .i64 0]) ?_ 7 _ rfl; (with_reducible repeat (first | refine blk_drewN ?_ _ | refine blk_drew ?_ | refine blk_alloc ?_ _)); refine blk_put (cs := #[.slice Ao63 t248.length co63, .int .i64 t251, .int .i64 t252, .int .i64 t253, .int .i64 t254, .int .i64 t255, .int .i64 0, .int .i64 0, .int .i64 0, .bool false, .int .i64 0]) ?_ 6 _ rfl; (with_reducible repeat (first | refine blk_drewN ?_ _ | refine blk_drew ?_ | refine blk_alloc ?_ _)); refine blk_put (cs := #[.slice Ao63 t248.length co63, .int .i64 t251, .int .i64 t252, .int .i64 t253, .int .i64 t254, .int .i64 0, .int .i64 0, .int .i64 0, .int .i64 0, .bool false, .int .i64 0]) ?_ 5 _ rfl; (with_reducible repeat (first | refine blk_drewN ?_ _ | refine blk_drew ?_ | refine blk_alloc ?_ _)); refine blk_put (cs := #[.slice Ao63 t248.length co63, .int .i64 t251, .int .i64 t252, .int .i64 t253, .int .i64 0, .int .i64 0, .int .i64 0, .int .i64 0, .int .i64 0, .bool false, .int .i64 0]) ?_ 4 _ rfl; (with_reducible repeat (first | refine blk_drewN ?_ _ | refine blk_drew ?_ | refine blk_alloc ?_ _)); refine blk_put (cs := #[.slice Ao63 t248.length co63, .int .i64 t251, .int .i64 t252, .int .i64 0, .int .i64 0, .int .i64 0, .int .i64 0, .int .i64 0, .int .i64 0, .bool false, .int .i64 0]) ?_ 3 _ rfl; (with_reducible repeat (first | refine blk_drewN ?_ _ | refine blk_drew ?_ | refine blk_alloc ?_ _)); refine blk_put (cs := #[.slice Ao63 t248.length co63, .int .i64 t251, .int .i64 0, .int .i64 0, .int .i64 0, .int .i64 0, .int .i64 0, .int .i64 0, .int .i64 0, .bool false, .int .i64 0]) ?_ 2 _ rfl; (with_reducible repeat (first | refine blk_drewN ?_ _ | refine blk_drew ?_ | refine blk_alloc ?_ _)); refine blk_put (cs := #[.slice Ao63 t248.length co63, .int .i64 0, .int .i64 0, .int .i64 0, .int .i64 0, .int .i64 0, .int .i64 0, .int .i64 0, .int .i64 0, .bool false, .int .i64 0]) ?_ 1 _ rfl; (with_reducible repeat (first | refine blk_drewN ?_ _ | refine blk_drew ?_ | refine blk_alloc ?_ _)); refine blk_put (cs := #[.slice none 0 0, .int .i64 0, .int .i64 0, .int .i64 0, .int .i64 0, .int .i64 0, .int .i64 0, .int .i64 0, .int .i64 0, .bool false, .int .i64 0]) ?_ 0 _ rfl; (with_reducible repeat (first | refine blk_drewN ?_ _ | refine blk_drew ?_ | refine blk_alloc ?_ _)); exact BK261.out⟩, ⟨by repeat (first | (with_reducible first | exact HB.out | apply below_alloc | apply pw_below_drewN | apply below_drew1 | refine below_set ?_ GE246.out | refine below_set ?_ GE261.out) | exact HB.out)⟩⟩
                       ·
                        replace c74 := Bool.eq_false_iff.mpr c74
                        subst c74
                        have H1 : (warplaw4_CufSteps.j2 k2 l5 t165 x16_2 x17_2 ji47 true t248 t251 t252 t253 t254 t255 t256 t257 t258 t259 t260) = some r := by rw [if_neg (show ¬ (false = true) by decide)] at H; exact H
                        clear H
                        have H := H1
                        clear H1
                        have H' := Aside0.mk H
                        clear H
                        have hnb81 := NB261_246.out
                        have hnc81 := NB246_261.out
                        have hcz82_0 : w62.cell? ⟨gb261, 0, none⟩ = some (.slice none 0 0) := (blk_cell BK261.out 0).trans rfl
                        have hcz82_1 : w62.cell? ⟨gb261, 1, none⟩ = some (.int .i64 0) := (blk_cell BK261.out 1).trans rfl
                        have hcz82_2 : w62.cell? ⟨gb261, 2, none⟩ = some (.int .i64 0) := (blk_cell BK261.out 2).trans rfl
                        have hcz82_3 : w62.cell? ⟨gb261, 3, none⟩ = some (.int .i64 0) := (blk_cell BK261.out 3).trans rfl
                        have hcz82_4 : w62.cell? ⟨gb261, 4, none⟩ = some (.int .i64 0) := (blk_cell BK261.out 4).trans rfl
                        have hcz82_5 : w62.cell? ⟨gb261, 5, none⟩ = some (.int .i64 0) := (blk_cell BK261.out 5).trans rfl
                        have hcz82_6 : w62.cell? ⟨gb261, 6, none⟩ = some (.int .i64 0) := (blk_cell BK261.out 6).trans rfl
                        have hcz82_7 : w62.cell? ⟨gb261, 7, none⟩ = some (.int .i64 0) := (blk_cell BK261.out 7).trans rfl
                        have hcz82_8 : w62.cell? ⟨gb261, 8, none⟩ = some (.int .i64 0) := (blk_cell BK261.out 8).trans rfl
                        have hcz82_9 : w62.cell? ⟨gb261, 9, none⟩ = some (.bool false) := (blk_cell BK261.out 9).trans rfl
                        have hcz82_10 : w62.cell? ⟨gb261, 10, none⟩ = some (.int .i64 0) := (blk_cell BK261.out 10).trans rfl
                        have hfz82_0 := blk_frozen BK261.out 0
                        have hfz82_1 := blk_frozen BK261.out 1
                        have hfz82_2 := blk_frozen BK261.out 2
                        have hfz82_3 := blk_frozen BK261.out 3
                        have hfz82_4 := blk_frozen BK261.out 4
                        have hfz82_5 := blk_frozen BK261.out 5
                        have hfz82_6 := blk_frozen BK261.out 6
                        have hfz82_7 := blk_frozen BK261.out 7
                        have hfz82_8 := blk_frozen BK261.out 8
                        have hfz82_9 := blk_frozen BK261.out 9
                        have hfz82_10 := blk_frozen BK261.out 10
                        obtain ⟨Ao83, co83, eo83⟩ := Kd.R_slice HO235.out
                        subst eo83
                        go_wp2_with (first | ((with_reducible refine gate_callee (f := 18) rfl ?_); refine goesL_ (some 135) rfl rfl Try.func18 (by kernel_rfl) rfl #[.slice Ao83 t233.length co83, .slice Ao63 t248.length co63] rfl (by (try simp only [List.map_toArray, List.map_cons, List.map_nil]); first | done | rfl | (simp only [List.length_drop, List.length_take]; rfl)) ?_; (with_reducible refine (warpref1_Ints.calls k2 _ _ t233 _ _ t248 true _ ?side1 ?side2 ?side3 ?side4 A66.out).mono ?_); (case side1 => refine (Kd.R_reads' (e := 3) (base := w.heap.size) (ok := fun k_ => ((((True ∧ some k_ ≠ (.slice Ao33 t165.length co33 : Value).ownBlock) ∧ some k_ ≠ (.slice Ao56 x15_2.length co56 : Value).ownBlock) ∧ some k_ ≠ (v230 : Value).ownBlock) ∧ some k_ ≠ (.slice Ao63 t248.length co63 : Value).ownBlock)) (n := t233.length) (c := co83) ?_).2.2; exact (by (with_reducible repeat (first | apply Kd.R_alloc | apply Kd.R_drewN | apply Kd.R_drew)); exact (Kd.R_mono (Kd.R_far (p := ⟨gb261, 10, none⟩) (Kd.R_far (p := ⟨gb261, 9, none⟩) (Kd.R_far (p := ⟨gb261, 8, none⟩) (Kd.R_far (p := ⟨gb261, 7, none⟩) (Kd.R_far (p := ⟨gb261, 6, none⟩) (Kd.R_far (p := ⟨gb261, 5, none⟩) (Kd.R_far (p := ⟨gb261, 4, none⟩) (Kd.R_far (p := ⟨gb261, 3, none⟩) (Kd.R_far (p := ⟨gb261, 2, none⟩) (Kd.R_far (p := ⟨gb261, 1, none⟩) (Kd.R_far (p := ⟨gb261, 0, none⟩) (Kd.R_types HO235.out BK261.out (by decide)) (fun _ hk => hk.2) (.slice Ao63 t248.length co63)) (fun _ hk => hk.2) (.int .i64 t251)) (fun _ hk => hk.2) (.int .i64 t252)) (fun _ hk => hk.2) (.int .i64 t253)) (fun _ hk => hk.2) (.int .i64 t254)) (fun _ hk => hk.2) (.int .i64 t255)) (fun _ hk => hk.2) (.int .i64 t256)) (fun _ hk => hk.2) (.int .i64 t257)) (fun _ hk => hk.2) (.int .i64 t258)) (fun _ hk => hk.2) (.bool t259)) (fun _ hk => hk.2) (.int .i64 t260)) (fun _ h_ => h_.1)))); (case side2 => exact (Kd.R_reads' HO235.out).2.1); (case side3 => refine (Kd.R_reads' (e := 3) (base := w.heap.size) (ok := fun k_ => ((((True ∧ some k_ ≠ (.slice Ao33 t165.length co33 : Value).ownBlock) ∧ some k_ ≠ (.slice Ao56 x15_2.length co56 : Value).ownBlock) ∧ some k_ ≠ (v230 : Value).ownBlock) ∧ some k_ ≠ (.slice Ao83 t233.length co83 : Value).ownBlock)) (n := t248.length) (c := co63) ?_).2.2; exact (by (with_reducible repeat (first | apply Kd.R_alloc | apply Kd.R_drewN | apply Kd.R_drew)); exact (Kd.R_mono (Kd.R_far (p := ⟨gb261, 10, none⟩) (Kd.R_far (p := ⟨gb261, 9, none⟩) (Kd.R_far (p := ⟨gb261, 8, none⟩) (Kd.R_far (p := ⟨gb261, 7, none⟩) (Kd.R_far (p := ⟨gb261, 6, none⟩) (Kd.R_far (p := ⟨gb261, 5, none⟩) (Kd.R_far (p := ⟨gb261, 4, none⟩) (Kd.R_far (p := ⟨gb261, 3, none⟩) (Kd.R_far (p := ⟨gb261, 2, none⟩) (Kd.R_far (p := ⟨gb261, 1, none⟩) (Kd.R_far (p := ⟨gb261, 0, none⟩) (Kd.R_types HO250.out BK261.out (by decide)) (fun _ hk => hk.2) (.slice Ao63 t248.length co63)) (fun _ hk => hk.2) (.int .i64 t251)) (fun _ hk => hk.2) (.int .i64 t252)) (fun _ hk => hk.2) (.int .i64 t253)) (fun _ hk => hk.2) (.int .i64 t254)) (fun _ hk => hk.2) (.int .i64 t255)) (fun _ hk => hk.2) (.int .i64 t256)) (fun _ hk => hk.2) (.int .i64 t257)) (fun _ hk => hk.2) (.int .i64 t258)) (fun _ hk => hk.2) (.bool t259)) (fun _ hk => hk.2) (.int .i64 t260)) (fun _ h_ => h_.1)))); (case side4 => exact (Kd.R_reads' HO250.out).2.1); rintro e w' ⟨rfl, ⟨nd, rfl⟩⟩; refine ⟨_, rfl, ?_⟩; have hcz84_0 : w62.cell? ⟨gb246, 0, none⟩ = some (.int .i64 t236) := (blk_cell BK246.out 0).trans rfl; have hcz84_1 : w62.cell? ⟨gb246, 1, none⟩ = some (.int .i64 t237) := (blk_cell BK246.out 1).trans rfl; have hcz84_2 : w62.cell? ⟨gb246, 2, none⟩ = some (.int .i64 t238) := (blk_cell BK246.out 2).trans rfl; have hcz84_3 : w62.cell? ⟨gb246, 3, none⟩ = some (.int .i64 t239) := (blk_cell BK246.out 3).trans rfl; have hcz84_4 : w62.cell? ⟨gb246, 4, none⟩ = some (.int .i64 t240) := (blk_cell BK246.out 4).trans rfl; have hcz84_5 : w62.cell? ⟨gb246, 5, none⟩ = some (.int .i64 t241) := (blk_cell BK246.out 5).trans rfl; have hcz84_6 : w62.cell? ⟨gb246, 6, none⟩ = some (.int .i64 t242) := (blk_cell BK246.out 6).trans rfl; have hcz84_7 : w62.cell? ⟨gb246, 7, none⟩ = some (.int .i64 t243) := (blk_cell BK246.out 7).trans rfl; have hcz84_8 : w62.cell? ⟨gb246, 8, none⟩ = some (.bool t244) := (blk_cell BK246.out 8).trans rfl; have hcz84_9 : w62.cell? ⟨gb246, 9, none⟩ = some (.int .i64 t245) := (blk_cell BK246.out 9).trans rfl; have hfz84_0 := blk_frozen BK246.out 0; have hfz84_1 := blk_frozen BK246.out 1; have hfz84_2 := blk_frozen BK246.out 2; have hfz84_3 := blk_frozen BK246.out 3; have hfz84_4 := blk_frozen BK246.out 4; have hfz84_5 := blk_frozen BK246.out 5; have hfz84_6 := blk_frozen BK246.out 6; have hfz84_7 := blk_frozen BK246.out 7; have hfz84_8 := blk_frozen BK246.out 8; have hfz84_9 := blk_frozen BK246.out 9; obtain ⟨Ao85, co85, eo85⟩ := Kd.R_slice HO231.out; subst eo85) | (go_at_call 18; (with_reducible refine (warpref1_Ints.calls k2 _ _ x15_2 _ _ y229 false _ ?side1 ?side2 ?side3 ?side4 A73.out).mono ?_); (case side1 => refine (Kd.R_reads' (e := 3) (base := w.heap.size) (ok := fun k_ => (((some k_ ≠ (.slice Ao33 t165.length co33 : Value).ownBlock ∧ some k_ ≠ (.slice Ao85 y229.length co85 : Value).ownBlock) ∧ some k_ ≠ (.slice Ao83 t233.length co83 : Value).ownBlock) ∧ some k_ ≠ (.slice Ao63 t248.length co63 : Value).ownBlock)) (n := x15_2.length) (c := co56) ?_).2.2; exact (by (with_reducible repeat (first | apply Kd.R_alloc | apply Kd.R_drewN | apply Kd.R_drew)); exact (Kd.R_mono (Kd.R_far (p := ⟨gb261, 10, none⟩) (Kd.R_far (p := ⟨gb261, 9, none⟩) (Kd.R_far (p := ⟨gb261, 8, none⟩) (Kd.R_far (p := ⟨gb261, 7, none⟩) (Kd.R_far (p := ⟨gb261, 6, none⟩) (Kd.R_far (p := ⟨gb261, 5, none⟩) (Kd.R_far (p := ⟨gb261, 4, none⟩) (Kd.R_far (p := ⟨gb261, 3, none⟩) (Kd.R_far (p := ⟨gb261, 2, none⟩) (Kd.R_far (p := ⟨gb261, 1, none⟩) (Kd.R_far (p := ⟨gb261, 0, none⟩) (Kd.R_types HO_15.out BK261.out (by decide)) (fun _ hk => hk.2) (.slice Ao63 t248.length co63)) (fun _ hk => hk.2) (.int .i64 t251)) (fun _ hk => hk.2) (.int .i64 t252)) (fun _ hk => hk.2) (.int .i64 t253)) (fun _ hk => hk.2) (.int .i64 t254)) (fun _ hk => hk.2) (.int .i64 t255)) (fun _ hk => hk.2) (.int .i64 t256)) (fun _ hk => hk.2) (.int .i64 t257)) (fun _ hk => hk.2) (.int .i64 t258)) (fun _ hk => hk.2) (.bool t259)) (fun _ hk => hk.2) (.int .i64 t260)) (fun _ h_ => h_.1)))); (case side2 => exact (Kd.R_reads' HO_15.out).2.1); (case side3 => refine (Kd.R_reads' (e := 3) (base := w.heap.size) (ok := fun k_ => (((some k_ ≠ (.slice Ao33 t165.length co33 : Value).ownBlock ∧ some k_ ≠ (.slice Ao56 x15_2.length co56 : Value).ownBlock) ∧ some k_ ≠ (.slice Ao83 t233.length co83 : Value).ownBlock) ∧ some k_ ≠ (.slice Ao63 t248.length co63 : Value).ownBlock)) (n := y229.length) (c := co85) ?_).2.2; exact (by (with_reducible repeat (first | apply Kd.R_alloc | apply Kd.R_drewN | apply Kd.R_drew)); exact (Kd.R_mono (Kd.R_far (p := ⟨gb261, 10, none⟩) (Kd.R_far (p := ⟨gb261, 9, none⟩) (Kd.R_far (p := ⟨gb261, 8, none⟩) (Kd.R_far (p := ⟨gb261, 7, none⟩) (Kd.R_far (p := ⟨gb261, 6, none⟩) (Kd.R_far (p := ⟨gb261, 5, none⟩) (Kd.R_far (p := ⟨gb261, 4, none⟩) (Kd.R_far (p := ⟨gb261, 3, none⟩) (Kd.R_far (p := ⟨gb261, 2, none⟩) (Kd.R_far (p := ⟨gb261, 1, none⟩) (Kd.R_far (p := ⟨gb261, 0, none⟩) (Kd.R_types HO231.out BK261.out (by decide)) (fun _ hk => hk.2) (.slice Ao63 t248.length co63)) (fun _ hk => hk.2) (.int .i64 t251)) (fun _ hk => hk.2) (.int .i64 t252)) (fun _ hk => hk.2) (.int .i64 t253)) (fun _ hk => hk.2) (.int .i64 t254)) (fun _ hk => hk.2) (.int .i64 t255)) (fun _ hk => hk.2) (.int .i64 t256)) (fun _ hk => hk.2) (.int .i64 t257)) (fun _ hk => hk.2) (.int .i64 t258)) (fun _ hk => hk.2) (.bool t259)) (fun _ hk => hk.2) (.int .i64 t260)) (fun _ h_ => h_.1)))); (case side4 => exact (Kd.R_reads' HO231.out).2.1); rintro e w' ⟨rfl, ⟨nd, rfl⟩⟩))
                        go_meet
                        case rel => exact ⟨_, (true), (by first | rfl | (simp; done) | (simp [*]; done)), H', ⟨by have := HJ6.out; have := HK2.out; first | omega | exact Nat.le_refl _⟩, ⟨by (with_reducible repeat (first | apply Kd.R_alloc | apply Kd.R_drewN | apply Kd.R_drew)); exact Kd.R_mono (Kd.R_far (p := ⟨gb261, 10, none⟩) (Kd.R_far (p := ⟨gb261, 9, none⟩) (Kd.R_far (p := ⟨gb261, 8, none⟩) (Kd.R_far (p := ⟨gb261, 7, none⟩) (Kd.R_far (p := ⟨gb261, 6, none⟩) (Kd.R_far (p := ⟨gb261, 5, none⟩) (Kd.R_far (p := ⟨gb261, 4, none⟩) (Kd.R_far (p := ⟨gb261, 3, none⟩) (Kd.R_far (p := ⟨gb261, 2, none⟩) (Kd.R_far (p := ⟨gb261, 1, none⟩) (Kd.R_far (p := ⟨gb261, 0, none⟩) (Kd.R_types HO_14.out BK261.out (by decide)) (fun _ hk => hk.2) (.slice Ao63 t248.length co63)) (fun _ hk => hk.2) (.int .i64 t251)) (fun _ hk => hk.2) (.int .i64 t252)) (fun _ hk => hk.2) (.int .i64 t253)) (fun _ hk => hk.2) (.int .i64 t254)) (fun _ hk => hk.2) (.int .i64 t255)) (fun _ hk => hk.2) (.int .i64 t256)) (fun _ hk => hk.2) (.int .i64 t257)) (fun _ hk => hk.2) (.int .i64 t258)) (fun _ hk => hk.2) (.bool t259)) (fun _ hk => hk.2) (.int .i64 t260)) (fun _ hk => hk.1.2)⟩, ⟨by (with_reducible repeat (first | apply Kd.R_alloc | apply Kd.R_drewN | apply Kd.R_drew)); exact Kd.R_mono (Kd.R_far (p := ⟨gb261, 10, none⟩) (Kd.R_far (p := ⟨gb261, 9, none⟩) (Kd.R_far (p := ⟨gb261, 8, none⟩) (Kd.R_far (p := ⟨gb261, 7, none⟩) (Kd.R_far (p := ⟨gb261, 6, none⟩) (Kd.R_far (p := ⟨gb261, 5, none⟩) (Kd.R_far (p := ⟨gb261, 4, none⟩) (Kd.R_far (p := ⟨gb261, 3, none⟩) (Kd.R_far (p := ⟨gb261, 2, none⟩) (Kd.R_far (p := ⟨gb261, 1, none⟩) (Kd.R_far (p := ⟨gb261, 0, none⟩) (Kd.R_types HO_16.out BK261.out (by decide)) (fun _ hk => hk.2) (.slice Ao63 t248.length co63)) (fun _ hk => hk.2) (.int .i64 t251)) (fun _ hk => hk.2) (.int .i64 t252)) (fun _ hk => hk.2) (.int .i64 t253)) (fun _ hk => hk.2) (.int .i64 t254)) (fun _ hk => hk.2) (.int .i64 t255)) (fun _ hk => hk.2) (.int .i64 t256)) (fun _ hk => hk.2) (.int .i64 t257)) (fun _ hk => hk.2) (.int .i64 t258)) (fun _ hk => hk.2) (.bool t259)) (fun _ hk => hk.2) (.int .i64 t260)) (fun _ hk => hk.1.2)⟩, ⟨by (with_reducible repeat (first | apply Kd.R_alloc | apply Kd.R_drewN | apply Kd.R_drew)); exact Kd.R_mono (Kd.R_far (p := ⟨gb261, 10, none⟩) (Kd.R_far (p := ⟨gb261, 9, none⟩) (Kd.R_far (p := ⟨gb261, 8, none⟩) (Kd.R_far (p := ⟨gb261, 7, none⟩) (Kd.R_far (p := ⟨gb261, 6, none⟩) (Kd.R_far (p := ⟨gb261, 5, none⟩) (Kd.R_far (p := ⟨gb261, 4, none⟩) (Kd.R_far (p := ⟨gb261, 3, none⟩) (Kd.R_far (p := ⟨gb261, 2, none⟩) (Kd.R_far (p := ⟨gb261, 1, none⟩) (Kd.R_far (p := ⟨gb261, 0, none⟩) (Kd.R_types HO250.out BK261.out (by decide)) (fun _ hk => hk.2) (.slice Ao63 t248.length co63)) (fun _ hk => hk.2) (.int .i64 t251)) (fun _ hk => hk.2) (.int .i64 t252)) (fun _ hk => hk.2) (.int .i64 t253)) (fun _ hk => hk.2) (.int .i64 t254)) (fun _ hk => hk.2) (.int .i64 t255)) (fun _ hk => hk.2) (.int .i64 t256)) (fun _ hk => hk.2) (.int .i64 t257)) (fun _ hk => hk.2) (.int .i64 t258)) (fun _ hk => hk.2) (.bool t259)) (fun _ hk => hk.2) (.int .i64 t260)) (fun _ hk => hk.1.1.1.1.2)⟩, ⟨by (with_reducible repeat (first | refine blk_drewN ?_ _ | refine blk_drew ?_ | refine blk_alloc ?_ _)); refine blk_far ?_ NB246_261.out _; (with_reducible repeat (first | refine blk_drewN ?_ _ | refine blk_drew ?_ | refine blk_alloc ?_ _)); refine blk_far ?_ NB246_261.out _; (with_reducible repeat (first | refine blk_drewN ?_ _ | refine blk_drew ?_ | refine blk_alloc ?_ _)); refine blk_far ?_ NB246_261.out _; (with_reducible repeat (first | refine blk_drewN ?_ _ | refine blk_drew ?_ | refine blk_alloc ?_ _)); refine blk_far ?_ NB246_261.out _; (with_reducible repeat (first | refine blk_drewN ?_ _ | refine blk_drew ?_ | refine blk_alloc ?_ _)); refine blk_far ?_ NB246_261.out _; (with_reducible repeat (first | refine blk_drewN ?_ _ | refine blk_drew ?_ | refine blk_alloc ?_ _)); refine blk_far ?_ NB246_261.out _; (with_reducible repeat (first | refine blk_drewN ?_ _ | refine blk_drew ?_ | refine blk_alloc ?_ _)); refine blk_far ?_ NB246_261.out _; (with_reducible repeat (first | refine blk_drewN ?_ _ | refine blk_drew ?_ | refine blk_alloc ?_ _)); refine blk_far ?_ NB246_261.out _; (with_reducible repeat (first | refine blk_drewN ?_ _ | refine blk_drew ?_ | refine blk_alloc ?_ _)); refine blk_far ?_ NB246_261.out _; (with_reducible repeat (first | refine blk_drewN ?_ _ | refine blk_drew ?_ | refine blk_alloc ?_ _)); refine blk_far ?_ NB246_261.out _; (with_reducible repeat (first | refine blk_drewN ?_ _ | refine blk_drew ?_ | refine blk_alloc ?_ _)); refine blk_far ?_ NB246_261.out _; (with_reducible repeat (first | refine blk_drewN ?_ _ | refine blk_drew ?_ | refine blk_alloc ?_ _)); exact BK246.out⟩, ⟨by (with_reducible repeat (first | refine blk_drewN ?_ _ | refine blk_drew ?_ | refine blk_alloc ?_ _)); refine blk_put (cs := #[.slice Ao63 t248.length co63, .int .i64 t251, .int .i64 t252, .int .i64 t253, .int .i64 t254, .int .i64 t255, .int .i64 t256, .int .i64 t257, .int .i64 t258, .bool t259, .int .i64 0]) ?_ 10 _ rfl; (with_reducible repeat (first | refine blk_drewN ?_ _ | refine blk_drew ?_ | refine blk_alloc ?_ _)); refine blk_put (cs := #[.slice Ao63 t248.length co63, .int .i64 t251, .int .i64 t252, .int .i64 t253, .int .i64 t254, .int .i64 t255, .int .i64 t256, .int .i64 t257, .int .i64 t258, .bool false, .int .i64 0]) ?_ 9 _ rfl; (with_reducible repeat (first | refine blk_drewN ?_ _ | refine blk_drew ?_ | refine blk_alloc ?_ _)); refine blk_put (cs := #[.slice Ao63 t248.length co63, .int .i64 t251, .int .i64 t252, .int .i64 t253, .int .i64 t254, .int .i64 t255, .int .i64 t256, .int .i64 t257, .int .i64 0, .bool false, .int .i64 0]) ?_ 8 _ rfl; (with_reducible repeat (first | refine blk_drewN ?_ _ | refine blk_drew ?_ | refine blk_alloc ?_ _)); refine blk_put (cs := #[.slice Ao63 t248.length co63, .int .i64 t251, .int .i64 t252, .int .i64 t253, .int .i64 t254, .int .i64 t255, .int .i64 t256, .int .i64 0, .int .i64 0, .bool false, .int .i64 0]) ?_ 7 _ rfl; (with_reducible repeat (first | refine blk_drewN ?_ _ | refine blk_drew ?_ | refine blk_alloc ?_ _)); refine blk_put (cs := #[.slice Ao63 t248.length co63, .int .i64 t251, .int .i64 t252, .int .i64 t253, .int .i64 t254, .int .i64 t255, .int .i64 0, .int .i64 0, .int .i64 0, .bool false, .int .i64 0]) ?_ 6 _ rfl; (with_reducible repeat (first | refine blk_drewN ?_ _ | refine blk_drew ?_ | refine blk_alloc ?_ _)); refine blk_put (cs := #[.slice Ao63 t248.length co63, .int .i64 t251, .int .i64 t252, .int .i64 t253, .int .i64 t254, .int .i64 0, .int .i64 0, .int .i64 0, .int .i64 0, .bool false, .int .i64 0]) ?_ 5 _ rfl; (with_reducible repeat (first | refine blk_drewN ?_ _ | refine blk_drew ?_ | refine blk_alloc ?_ _)); refine blk_put (cs := #[.slice Ao63 t248.length co63, .int .i64 t251, .int .i64 t252, .int .i64 t253, .int .i64 0, .int .i64 0, .int .i64 0, .int .i64 0, .int .i64 0, .bool false, .int .i64 0]) ?_ 4 _ rfl; (with_reducible repeat (first | refine blk_drewN ?_ _ | refine blk_drew ?_ | refine blk_alloc ?_ _)); refine blk_put (cs := #[.slice Ao63 t248.length co63, .int .i64 t251, .int .i64 t252, .int .i64 0, .int .i64 0, .int .i64 0, .int .i64 0, .int .i64 0, .int .i64 0, .bool false, .int .i64 0]) ?_ 3 _ rfl; (with_reducible repeat (first | refine blk_drewN ?_ _ | refine blk_drew ?_ | refine blk_alloc ?_ _)); refine blk_put (cs := #[.slice Ao63 t248.length co63, .int .i64 t251, .int .i64 0, .int .i64 0, .int .i64 0, .int .i64 0, .int .i64 0, .int .i64 0, .int .i64 0, .bool false, .int .i64 0]) ?_ 2 _ rfl; (with_reducible repeat (first | refine blk_drewN ?_ _ | refine blk_drew ?_ | refine blk_alloc ?_ _)); refine blk_put (cs := #[.slice Ao63 t248.length co63, .int .i64 0, .int .i64 0, .int .i64 0, .int .i64 0, .int .i64 0, .int .i64 0, .int .i64 0, .int .i64 0, .bool false, .int .i64 0]) ?_ 1 _ rfl; (with_reducible repeat (first | refine blk_drewN ?_ _ | refine blk_drew ?_ | refine blk_alloc ?_ _)); refine blk_put (cs := #[.slice none 0 0, .int .i64 0, .int .i64 0, .int .i64 0, .int .i64 0, .int .i64 0, .int .i64 0, .int .i64 0, .int .i64 0, .bool false, .int .i64 0]) ?_ 0 _ rfl; (with_reducible repeat (first | refine blk_drewN ?_ _ | refine blk_drew ?_ | refine blk_alloc ?_ _)); exact BK261.out⟩, ⟨by repeat (first | (with_reducible first | exact HB.out | apply below_alloc | apply pw_below_drewN | apply below_drew1 | refine below_set ?_ GE246.out | refine below_set ?_ GE261.out) | exact HB.out)⟩⟩
                     ·
                      replace c67 := Bool.eq_false_iff.mpr c67
                      subst c67
                      have H1 : (warplaw4_CufSteps.j2 k2 l5 t165 x16_2 x17_2 ji47 true t248 t251 t252 t253 t254 t255 t256 t257 t258 t259 t260) = some r := by rw [if_neg (show ¬ (false = true) by decide)] at H; exact H
                      clear H
                      have H := H1
                      clear H1
                      have H' := Aside0.mk H
                      clear H
                      have hnb86 := NB261_246.out
                      have hnc86 := NB246_261.out
                      have hcz87_0 : w62.cell? ⟨gb261, 0, none⟩ = some (.slice none 0 0) := (blk_cell BK261.out 0).trans rfl
                      have hcz87_1 : w62.cell? ⟨gb261, 1, none⟩ = some (.int .i64 0) := (blk_cell BK261.out 1).trans rfl
                      have hcz87_2 : w62.cell? ⟨gb261, 2, none⟩ = some (.int .i64 0) := (blk_cell BK261.out 2).trans rfl
                      have hcz87_3 : w62.cell? ⟨gb261, 3, none⟩ = some (.int .i64 0) := (blk_cell BK261.out 3).trans rfl
                      have hcz87_4 : w62.cell? ⟨gb261, 4, none⟩ = some (.int .i64 0) := (blk_cell BK261.out 4).trans rfl
                      have hcz87_5 : w62.cell? ⟨gb261, 5, none⟩ = some (.int .i64 0) := (blk_cell BK261.out 5).trans rfl
                      have hcz87_6 : w62.cell? ⟨gb261, 6, none⟩ = some (.int .i64 0) := (blk_cell BK261.out 6).trans rfl
                      have hcz87_7 : w62.cell? ⟨gb261, 7, none⟩ = some (.int .i64 0) := (blk_cell BK261.out 7).trans rfl
                      have hcz87_8 : w62.cell? ⟨gb261, 8, none⟩ = some (.int .i64 0) := (blk_cell BK261.out 8).trans rfl
                      have hcz87_9 : w62.cell? ⟨gb261, 9, none⟩ = some (.bool false) := (blk_cell BK261.out 9).trans rfl
                      have hcz87_10 : w62.cell? ⟨gb261, 10, none⟩ = some (.int .i64 0) := (blk_cell BK261.out 10).trans rfl
                      have hfz87_0 := blk_frozen BK261.out 0
                      have hfz87_1 := blk_frozen BK261.out 1
                      have hfz87_2 := blk_frozen BK261.out 2
                      have hfz87_3 := blk_frozen BK261.out 3
                      have hfz87_4 := blk_frozen BK261.out 4
                      have hfz87_5 := blk_frozen BK261.out 5
                      have hfz87_6 := blk_frozen BK261.out 6
                      have hfz87_7 := blk_frozen BK261.out 7
                      have hfz87_8 := blk_frozen BK261.out 8
                      have hfz87_9 := blk_frozen BK261.out 9
                      have hfz87_10 := blk_frozen BK261.out 10
                      obtain ⟨Ao88, co88, eo88⟩ := Kd.R_slice HO235.out
                      subst eo88
                      go_wp2_with (first | ((with_reducible refine gate_callee (f := 18) rfl ?_); refine goesL_ (some 135) rfl rfl Try.func18 (by kernel_rfl) rfl #[.slice Ao88 t233.length co88, .slice Ao63 t248.length co63] rfl (by (try simp only [List.map_toArray, List.map_cons, List.map_nil]); first | done | rfl | (simp only [List.length_drop, List.length_take]; rfl)) ?_; (with_reducible refine (warpref1_Ints.calls k2 _ _ t233 _ _ t248 false _ ?side1 ?side2 ?side3 ?side4 A66.out).mono ?_); (case side1 => refine (Kd.R_reads' (e := 3) (base := w.heap.size) (ok := fun k_ => ((((True ∧ some k_ ≠ (.slice Ao33 t165.length co33 : Value).ownBlock) ∧ some k_ ≠ (.slice Ao56 x15_2.length co56 : Value).ownBlock) ∧ some k_ ≠ (v230 : Value).ownBlock) ∧ some k_ ≠ (.slice Ao63 t248.length co63 : Value).ownBlock)) (n := t233.length) (c := co88) ?_).2.2; exact (by (with_reducible repeat (first | apply Kd.R_alloc | apply Kd.R_drewN | apply Kd.R_drew)); exact (Kd.R_mono (Kd.R_far (p := ⟨gb261, 10, none⟩) (Kd.R_far (p := ⟨gb261, 9, none⟩) (Kd.R_far (p := ⟨gb261, 8, none⟩) (Kd.R_far (p := ⟨gb261, 7, none⟩) (Kd.R_far (p := ⟨gb261, 6, none⟩) (Kd.R_far (p := ⟨gb261, 5, none⟩) (Kd.R_far (p := ⟨gb261, 4, none⟩) (Kd.R_far (p := ⟨gb261, 3, none⟩) (Kd.R_far (p := ⟨gb261, 2, none⟩) (Kd.R_far (p := ⟨gb261, 1, none⟩) (Kd.R_far (p := ⟨gb261, 0, none⟩) (Kd.R_types HO235.out BK261.out (by decide)) (fun _ hk => hk.2) (.slice Ao63 t248.length co63)) (fun _ hk => hk.2) (.int .i64 t251)) (fun _ hk => hk.2) (.int .i64 t252)) (fun _ hk => hk.2) (.int .i64 t253)) (fun _ hk => hk.2) (.int .i64 t254)) (fun _ hk => hk.2) (.int .i64 t255)) (fun _ hk => hk.2) (.int .i64 t256)) (fun _ hk => hk.2) (.int .i64 t257)) (fun _ hk => hk.2) (.int .i64 t258)) (fun _ hk => hk.2) (.bool t259)) (fun _ hk => hk.2) (.int .i64 t260)) (fun _ h_ => h_.1)))); (case side2 => exact (Kd.R_reads' HO235.out).2.1); (case side3 => refine (Kd.R_reads' (e := 3) (base := w.heap.size) (ok := fun k_ => ((((True ∧ some k_ ≠ (.slice Ao33 t165.length co33 : Value).ownBlock) ∧ some k_ ≠ (.slice Ao56 x15_2.length co56 : Value).ownBlock) ∧ some k_ ≠ (v230 : Value).ownBlock) ∧ some k_ ≠ (.slice Ao88 t233.length co88 : Value).ownBlock)) (n := t248.length) (c := co63) ?_).2.2; exact (by (with_reducible repeat (first | apply Kd.R_alloc | apply Kd.R_drewN | apply Kd.R_drew)); exact (Kd.R_mono (Kd.R_far (p := ⟨gb261, 10, none⟩) (Kd.R_far (p := ⟨gb261, 9, none⟩) (Kd.R_far (p := ⟨gb261, 8, none⟩) (Kd.R_far (p := ⟨gb261, 7, none⟩) (Kd.R_far (p := ⟨gb261, 6, none⟩) (Kd.R_far (p := ⟨gb261, 5, none⟩) (Kd.R_far (p := ⟨gb261, 4, none⟩) (Kd.R_far (p := ⟨gb261, 3, none⟩) (Kd.R_far (p := ⟨gb261, 2, none⟩) (Kd.R_far (p := ⟨gb261, 1, none⟩) (Kd.R_far (p := ⟨gb261, 0, none⟩) (Kd.R_types HO250.out BK261.out (by decide)) (fun _ hk => hk.2) (.slice Ao63 t248.length co63)) (fun _ hk => hk.2) (.int .i64 t251)) (fun _ hk => hk.2) (.int .i64 t252)) (fun _ hk => hk.2) (.int .i64 t253)) (fun _ hk => hk.2) (.int .i64 t254)) (fun _ hk => hk.2) (.int .i64 t255)) (fun _ hk => hk.2) (.int .i64 t256)) (fun _ hk => hk.2) (.int .i64 t257)) (fun _ hk => hk.2) (.int .i64 t258)) (fun _ hk => hk.2) (.bool t259)) (fun _ hk => hk.2) (.int .i64 t260)) (fun _ h_ => h_.1)))); (case side4 => exact (Kd.R_reads' HO250.out).2.1); rintro e w' ⟨rfl, ⟨nd, rfl⟩⟩; refine ⟨_, rfl, ?_⟩))
                      go_meet
                      case rel => exact ⟨_, (true), (by first | rfl | (simp; done) | (simp [*]; done)), H', ⟨by have := HJ6.out; have := HK2.out; first | omega | exact Nat.le_refl _⟩, ⟨by (with_reducible repeat (first | apply Kd.R_alloc | apply Kd.R_drewN | apply Kd.R_drew)); exact Kd.R_mono (Kd.R_far (p := ⟨gb261, 10, none⟩) (Kd.R_far (p := ⟨gb261, 9, none⟩) (Kd.R_far (p := ⟨gb261, 8, none⟩) (Kd.R_far (p := ⟨gb261, 7, none⟩) (Kd.R_far (p := ⟨gb261, 6, none⟩) (Kd.R_far (p := ⟨gb261, 5, none⟩) (Kd.R_far (p := ⟨gb261, 4, none⟩) (Kd.R_far (p := ⟨gb261, 3, none⟩) (Kd.R_far (p := ⟨gb261, 2, none⟩) (Kd.R_far (p := ⟨gb261, 1, none⟩) (Kd.R_far (p := ⟨gb261, 0, none⟩) (Kd.R_types HO_14.out BK261.out (by decide)) (fun _ hk => hk.2) (.slice Ao63 t248.length co63)) (fun _ hk => hk.2) (.int .i64 t251)) (fun _ hk => hk.2) (.int .i64 t252)) (fun _ hk => hk.2) (.int .i64 t253)) (fun _ hk => hk.2) (.int .i64 t254)) (fun _ hk => hk.2) (.int .i64 t255)) (fun _ hk => hk.2) (.int .i64 t256)) (fun _ hk => hk.2) (.int .i64 t257)) (fun _ hk => hk.2) (.int .i64 t258)) (fun _ hk => hk.2) (.bool t259)) (fun _ hk => hk.2) (.int .i64 t260)) (fun _ hk => hk.1.2)⟩, ⟨by (with_reducible repeat (first | apply Kd.R_alloc | apply Kd.R_drewN | apply Kd.R_drew)); exact Kd.R_mono (Kd.R_far (p := ⟨gb261, 10, none⟩) (Kd.R_far (p := ⟨gb261, 9, none⟩) (Kd.R_far (p := ⟨gb261, 8, none⟩) (Kd.R_far (p := ⟨gb261, 7, none⟩) (Kd.R_far (p := ⟨gb261, 6, none⟩) (Kd.R_far (p := ⟨gb261, 5, none⟩) (Kd.R_far (p := ⟨gb261, 4, none⟩) (Kd.R_far (p := ⟨gb261, 3, none⟩) (Kd.R_far (p := ⟨gb261, 2, none⟩) (Kd.R_far (p := ⟨gb261, 1, none⟩) (Kd.R_far (p := ⟨gb261, 0, none⟩) (Kd.R_types HO_16.out BK261.out (by decide)) (fun _ hk => hk.2) (.slice Ao63 t248.length co63)) (fun _ hk => hk.2) (.int .i64 t251)) (fun _ hk => hk.2) (.int .i64 t252)) (fun _ hk => hk.2) (.int .i64 t253)) (fun _ hk => hk.2) (.int .i64 t254)) (fun _ hk => hk.2) (.int .i64 t255)) (fun _ hk => hk.2) (.int .i64 t256)) (fun _ hk => hk.2) (.int .i64 t257)) (fun _ hk => hk.2) (.int .i64 t258)) (fun _ hk => hk.2) (.bool t259)) (fun _ hk => hk.2) (.int .i64 t260)) (fun _ hk => hk.1.2)⟩, ⟨by (with_reducible repeat (first | apply Kd.R_alloc | apply Kd.R_drewN | apply Kd.R_drew)); exact Kd.R_mono (Kd.R_far (p := ⟨gb261, 10, none⟩) (Kd.R_far (p := ⟨gb261, 9, none⟩) (Kd.R_far (p := ⟨gb261, 8, none⟩) (Kd.R_far (p := ⟨gb261, 7, none⟩) (Kd.R_far (p := ⟨gb261, 6, none⟩) (Kd.R_far (p := ⟨gb261, 5, none⟩) (Kd.R_far (p := ⟨gb261, 4, none⟩) (Kd.R_far (p := ⟨gb261, 3, none⟩) (Kd.R_far (p := ⟨gb261, 2, none⟩) (Kd.R_far (p := ⟨gb261, 1, none⟩) (Kd.R_far (p := ⟨gb261, 0, none⟩) (Kd.R_types HO250.out BK261.out (by decide)) (fun _ hk => hk.2) (.slice Ao63 t248.length co63)) (fun _ hk => hk.2) (.int .i64 t251)) (fun _ hk => hk.2) (.int .i64 t252)) (fun _ hk => hk.2) (.int .i64 t253)) (fun _ hk => hk.2) (.int .i64 t254)) (fun _ hk => hk.2) (.int .i64 t255)) (fun _ hk => hk.2) (.int .i64 t256)) (fun _ hk => hk.2) (.int .i64 t257)) (fun _ hk => hk.2) (.int .i64 t258)) (fun _ hk => hk.2) (.bool t259)) (fun _ hk => hk.2) (.int .i64 t260)) (fun _ hk => hk.1.1.1.1.2)⟩, ⟨by (with_reducible repeat (first | refine blk_drewN ?_ _ | refine blk_drew ?_ | refine blk_alloc ?_ _)); refine blk_far ?_ NB246_261.out _; (with_reducible repeat (first | refine blk_drewN ?_ _ | refine blk_drew ?_ | refine blk_alloc ?_ _)); refine blk_far ?_ NB246_261.out _; (with_reducible repeat (first | refine blk_drewN ?_ _ | refine blk_drew ?_ | refine blk_alloc ?_ _)); refine blk_far ?_ NB246_261.out _; (with_reducible repeat (first | refine blk_drewN ?_ _ | refine blk_drew ?_ | refine blk_alloc ?_ _)); refine blk_far ?_ NB246_261.out _; (with_reducible repeat (first | refine blk_drewN ?_ _ | refine blk_drew ?_ | refine blk_alloc ?_ _)); refine blk_far ?_ NB246_261.out _; (with_reducible repeat (first | refine blk_drewN ?_ _ | refine blk_drew ?_ | refine blk_alloc ?_ _)); refine blk_far ?_ NB246_261.out _; (with_reducible repeat (first | refine blk_drewN ?_ _ | refine blk_drew ?_ | refine blk_alloc ?_ _)); refine blk_far ?_ NB246_261.out _; (with_reducible repeat (first | refine blk_drewN ?_ _ | refine blk_drew ?_ | refine blk_alloc ?_ _)); refine blk_far ?_ NB246_261.out _; (with_reducible repeat (first | refine blk_drewN ?_ _ | refine blk_drew ?_ | refine blk_alloc ?_ _)); refine blk_far ?_ NB246_261.out _; (with_reducible repeat (first | refine blk_drewN ?_ _ | refine blk_drew ?_ | refine blk_alloc ?_ _)); refine blk_far ?_ NB246_261.out _; (with_reducible repeat (first | refine blk_drewN ?_ _ | refine blk_drew ?_ | refine blk_alloc ?_ _)); refine blk_far ?_ NB246_261.out _; (with_reducible repeat (first | refine blk_drewN ?_ _ | refine blk_drew ?_ | refine blk_alloc ?_ _)); exact BK246.out⟩, ⟨by (with_reducible repeat (first | refine blk_drewN ?_ _ | refine blk_drew ?_ | refine blk_alloc ?_ _)); refine blk_put (cs := #[.slice Ao63 t248.length co63, .int .i64 t251, .int .i64 t252, .int .i64 t253, .int .i64 t254, .int .i64 t255, .int .i64 t256, .int .i64 t257, .int .i64 t258, .bool t259, .int .i64 0]) ?_ 10 _ rfl; (with_reducible repeat (first | refine blk_drewN ?_ _ | refine blk_drew ?_ | refine blk_alloc ?_ _)); refine blk_put (cs := #[.slice Ao63 t248.length co63, .int .i64 t251, .int .i64 t252, .int .i64 t253, .int .i64 t254, .int .i64 t255, .int .i64 t256, .int .i64 t257, .int .i64 t258, .bool false, .int .i64 0]) ?_ 9 _ rfl; (with_reducible repeat (first | refine blk_drewN ?_ _ | refine blk_drew ?_ | refine blk_alloc ?_ _)); refine blk_put (cs := #[.slice Ao63 t248.length co63, .int .i64 t251, .int .i64 t252, .int .i64 t253, .int .i64 t254, .int .i64 t255, .int .i64 t256, .int .i64 t257, .int .i64 0, .bool false, .int .i64 0]) ?_ 8 _ rfl; (with_reducible repeat (first | refine blk_drewN ?_ _ | refine blk_drew ?_ | refine blk_alloc ?_ _)); refine blk_put (cs := #[.slice Ao63 t248.length co63, .int .i64 t251, .int .i64 t252, .int .i64 t253, .int .i64 t254, .int .i64 t255, .int .i64 t256, .int .i64 0, .int .i64 0, .bool false, .int .i64 0]) ?_ 7 _ rfl; (with_reducible repeat (first | refine blk_drewN ?_ _ | refine blk_drew ?_ | refine blk_alloc ?_ _)); refine blk_put (cs := #[.slice Ao63 t248.length co63, .int .i64 t251, .int .i64 t252, .int .i64 t253, .int .i64 t254, .int .i64 t255, .int .i64 0, .int .i64 0, .int .i64 0, .bool false, .int .i64 0]) ?_ 6 _ rfl; (with_reducible repeat (first | refine blk_drewN ?_ _ | refine blk_drew ?_ | refine blk_alloc ?_ _)); refine blk_put (cs := #[.slice Ao63 t248.length co63, .int .i64 t251, .int .i64 t252, .int .i64 t253, .int .i64 t254, .int .i64 0, .int .i64 0, .int .i64 0, .int .i64 0, .bool false, .int .i64 0]) ?_ 5 _ rfl; (with_reducible repeat (first | refine blk_drewN ?_ _ | refine blk_drew ?_ | refine blk_alloc ?_ _)); refine blk_put (cs := #[.slice Ao63 t248.length co63, .int .i64 t251, .int .i64 t252, .int .i64 t253, .int .i64 0, .int .i64 0, .int .i64 0, .int .i64 0, .int .i64 0, .bool false, .int .i64 0]) ?_ 4 _ rfl; (with_reducible repeat (first | refine blk_drewN ?_ _ | refine blk_drew ?_ | refine blk_alloc ?_ _)); refine blk_put (cs := #[.slice Ao63 t248.length co63, .int .i64 t251, .int .i64 t252, .int .i64 0, .int .i64 0, .int .i64 0, .int .i64 0, .int .i64 0, .int .i64 0, .bool false, .int .i64 0]) ?_ 3 _ rfl; (with_reducible repeat (first | refine blk_drewN ?_ _ | refine blk_drew ?_ | refine blk_alloc ?_ _)); refine blk_put (cs := #[.slice Ao63 t248.length co63, .int .i64 t251, .int .i64 0, .int .i64 0, .int .i64 0, .int .i64 0, .int .i64 0, .int .i64 0, .int .i64 0, .bool false, .int .i64 0]) ?_ 2 _ rfl; (with_reducible repeat (first | refine blk_drewN ?_ _ | refine blk_drew ?_ | refine blk_alloc ?_ _)); refine blk_put (cs := #[.slice Ao63 t248.length co63, .int .i64 0, .int .i64 0, .int .i64 0, .int .i64 0, .int .i64 0, .int .i64 0, .int .i64 0, .int .i64 0, .bool false, .int .i64 0]) ?_ 1 _ rfl; (with_reducible repeat (first | refine blk_drewN ?_ _ | refine blk_drew ?_ | refine blk_alloc ?_ _)); refine blk_put (cs := #[.slice none 0 0, .int .i64 0, .int .i64 0, .int .i64 0, .int .i64 0, .int .i64 0, .int .i64 0, .int .i64 0, .int .i64 0, .bool false, .int .i64 0]) ?_ 0 _ rfl; (with_reducible repeat (first | refine blk_drewN ?_ _ | refine blk_drew ?_ | refine blk_alloc ?_ _)); exact BK261.out⟩, ⟨by repeat (first | (with_reducible first | exact HB.out | apply below_alloc | apply pw_below_drewN | apply below_drew1 | refine below_set ?_ GE246.out | refine below_set ?_ GE261.out) | exact HB.out)⟩⟩
                    case rest =>
                     clear HC52
                     (try clear c1); (try clear p1); (try clear q1); (try clear hx1); (try clear qi1); (try clear p2); (try clear q2); (try clear hx2); (try clear qi2); (try clear c4); (try clear c6); (try clear p6); (try clear c7); (try clear c8); (try clear c10); (try clear c11); (try clear c13); (try clear c16); (try clear c17); (try clear p17); (try clear q17); (try clear hx17); (try clear qi17); (try clear c18); (try clear p18); (try clear q18); (try clear hx18); (try clear qi18); (try clear p19); (try clear q19); (try clear hx19); (try clear qi19); (try clear p20); (try clear q20); (try clear hx20); (try clear qi20); (try clear p22); (try clear q22); (try clear hx22); (try clear p23); (try clear q23); (try clear hx23); (try clear p24); (try clear q24); (try clear hx24); (try clear c44); (try clear c44b0); (try clear c45); (try clear c45b0); (try clear c46); (try clear c48); (try clear c48b0); (try clear c49); (try clear c49b0); (try clear c64); (try clear p64); (try clear c67); (try clear c68); (try clear c68b0); (try clear c69); (try clear c74); (try clear c76); (try clear c81); (try clear c86); (try clear hcz60_0); (try clear hcz60_1); (try clear hcz60_2); (try clear hcz60_3); (try clear hcz60_4); (try clear hcz60_5); (try clear hcz60_6); (try clear hcz60_7); (try clear hcz60_8); (try clear hcz60_9); (try clear hcz65_0); (try clear hcz65_1); (try clear hcz65_10); (try clear hcz65_2); (try clear hcz65_3); (try clear hcz65_4); (try clear hcz65_5); (try clear hcz65_6); (try clear hcz65_7); (try clear hcz65_8); (try clear hcz65_9); (try clear hcz70_0); (try clear hcz70_1); (try clear hcz70_10); (try clear hcz70_2); (try clear hcz70_3); (try clear hcz70_4); (try clear hcz70_5); (try clear hcz70_6); (try clear hcz70_7); (try clear hcz70_8); (try clear hcz70_9); (try clear hcz72_0); (try clear hcz72_1); (try clear hcz72_2); (try clear hcz72_3); (try clear hcz72_4); (try clear hcz72_5); (try clear hcz72_6); (try clear hcz72_7); (try clear hcz72_8); (try clear hcz72_9); (try clear hcz77_0); (try clear hcz77_1); (try clear hcz77_10); (try clear hcz77_2); (try clear hcz77_3); (try clear hcz77_4); (try clear hcz77_5); (try clear hcz77_6); (try clear hcz77_7); (try clear hcz77_8); (try clear hcz77_9); (try clear hcz79_0); (try clear hcz79_1); (try clear hcz79_2); (try clear hcz79_3); (try clear hcz79_4); (try clear hcz79_5); (try clear hcz79_6); (try clear hcz79_7); (try clear hcz79_8); (try clear hcz79_9); (try clear hcz82_0); (try clear hcz82_1); (try clear hcz82_10); (try clear hcz82_2); (try clear hcz82_3); (try clear hcz82_4); (try clear hcz82_5); (try clear hcz82_6); (try clear hcz82_7); (try clear hcz82_8); (try clear hcz82_9); (try clear hcz84_0); (try clear hcz84_1); (try clear hcz84_2); (try clear hcz84_3); (try clear hcz84_4); (try clear hcz84_5); (try clear hcz84_6); (try clear hcz84_7); (try clear hcz84_8); (try clear hcz84_9); (try clear hcz87_0); (try clear hcz87_1); (try clear hcz87_10); (try clear hcz87_2); (try clear hcz87_3); (try clear hcz87_4); (try clear hcz87_5); (try clear hcz87_6); (try clear hcz87_7); (try clear hcz87_8); (try clear hcz87_9); (try clear hfz60_0); (try clear hfz60_1); (try clear hfz60_2); (try clear hfz60_3); (try clear hfz60_4); (try clear hfz60_5); (try clear hfz60_6); (try clear hfz60_7); (try clear hfz60_8); (try clear hfz60_9); (try clear hfz65_0); (try clear hfz65_1); (try clear hfz65_10); (try clear hfz65_2); (try clear hfz65_3); (try clear hfz65_4); (try clear hfz65_5); (try clear hfz65_6); (try clear hfz65_7); (try clear hfz65_8); (try clear hfz65_9); (try clear hfz70_0); (try clear hfz70_1); (try clear hfz70_10); (try clear hfz70_2); (try clear hfz70_3); (try clear hfz70_4); (try clear hfz70_5); (try clear hfz70_6); (try clear hfz70_7); (try clear hfz70_8); (try clear hfz70_9); (try clear hfz72_0); (try clear hfz72_1); (try clear hfz72_2); (try clear hfz72_3); (try clear hfz72_4); (try clear hfz72_5); (try clear hfz72_6); (try clear hfz72_7); (try clear hfz72_8); (try clear hfz72_9); (try clear hfz77_0); (try clear hfz77_1); (try clear hfz77_10); (try clear hfz77_2); (try clear hfz77_3); (try clear hfz77_4); (try clear hfz77_5); (try clear hfz77_6); (try clear hfz77_7); (try clear hfz77_8); (try clear hfz77_9); (try clear hfz79_0); (try clear hfz79_1); (try clear hfz79_2); (try clear hfz79_3); (try clear hfz79_4); (try clear hfz79_5); (try clear hfz79_6); (try clear hfz79_7); (try clear hfz79_8); (try clear hfz79_9); (try clear hfz82_0); (try clear hfz82_1); (try clear hfz82_10); (try clear hfz82_2); (try clear hfz82_3); (try clear hfz82_4); (try clear hfz82_5); (try clear hfz82_6); (try clear hfz82_7); (try clear hfz82_8); (try clear hfz82_9); (try clear hfz84_0); (try clear hfz84_1); (try clear hfz84_2); (try clear hfz84_3); (try clear hfz84_4); (try clear hfz84_5); (try clear hfz84_6); (try clear hfz84_7); (try clear hfz84_8); (try clear hfz84_9); (try clear hfz87_0); (try clear hfz87_1); (try clear hfz87_10); (try clear hfz87_2); (try clear hfz87_3); (try clear hfz87_4); (try clear hfz87_5); (try clear hfz87_6); (try clear hfz87_7); (try clear hfz87_8); (try clear hfz87_9); (try clear hx171_0); (try clear hx172_0); (try clear hx173_0); (try clear hx188_0); (try clear hx189_0); (try clear hx190_0); (try clear hx205_0); (try clear hx206_0); (try clear hx207_0); (try clear hx225_0); (try clear hx232_0); (try clear hx232_1); (try clear hx232_2); (try clear hx232_3); (try clear hx232_4); (try clear hx232_5); (try clear hx232_6); (try clear hx232_7); (try clear hx232_8); (try clear hx232_9); (try clear hx247_0); (try clear hx247_1); (try clear hx247_2); (try clear hx247_3); (try clear hx247_4); (try clear hx247_5); (try clear hx247_6); (try clear hx247_7); (try clear hx247_8); (try clear hx247_9); (try clear p1); (try clear p17); (try clear p171); (try clear p172); (try clear p173); (try clear p18); (try clear p188); (try clear p189); (try clear p19); (try clear p190); (try clear p2); (try clear p20); (try clear p205); (try clear p206); (try clear p207); (try clear p225); (try clear p232); (try clear p247); (try clear q1); (try clear q17); (try clear q171); (try clear q172); (try clear q173); (try clear q18); (try clear q188); (try clear q189); (try clear q19); (try clear q190); (try clear q2); (try clear q20); (try clear q205); (try clear q206); (try clear q207); (try clear q225); (try clear q232); (try clear q247)
                     obtain ⟨kq, x154_51, rfl, HA, HJ51, HO_14, HO_16, HO_262000, BK246, BK261, HB⟩ := hcut
                     cases kq with
                     | zero => exact absurd HA.out (by simp [warplaw4_CufSteps.j2])
                     | succ kj51 =>
                      have H := HA.out
                      clear HA
                      simp only [warplaw4_CufSteps.j2] at H
                      by_cases c89 : x154_51 = true
                      ·
                       subst c89
                       have H1 : (some false) = some r := by rw [if_pos rfl] at H; exact H
                       clear H
                       have H := H1
                       clear H1
                       obtain rfl := Option.some.inj H
                       go_wp2
                       go_ret
                       exact ⟨by first | rfl | (simp [errW_none, errW_some] <;> rfl) | (simp only [← hji47]; first | rfl | (simp [errW_none, errW_some] <;> rfl)) | (simp [*, errW_none, errW_some] <;> rfl), by repeat (first | (with_reducible first | exact HB.out | apply below_alloc | apply pw_below_drewN | apply below_drew1 | refine below_set ?_ GE246.out | refine below_set ?_ GE261.out) | exact HB.out)⟩
                      ·
                       replace c89 := Bool.eq_false_iff.mpr c89
                       subst c89
                       have H1 : (if 0 ≤ ji47 then (if ji47 < (x16_2.length : Int) then (warplaw4_CufSteps.l0 kj51 l5 t165 t248 (x16_2.set (ji47 : Int).toNat (⟨(⟨t251, t252, t253⟩ : S28), t254, t255, t256, t257, t258, t259, t260⟩ : S31)) (wrap64 (x17_2 + 1))) else (none)) else (none)) = some r := by rw [if_neg (show ¬ (false = true) by decide)] at H; exact H
                       clear H
                       have H := H1
                       clear H1
                       by_cases c90 : 0 ≤ ji47
                       ·
                        rw [if_pos c90] at H
                        have c90b0 : decide (0 ≤ ji47) = true := decide_eq_true c90
                        clear c90
                        by_cases c91 : ji47 < (x16_2.length : Int)
                        ·
                         rw [if_pos c91] at H
                         have c91b0 : decide (ji47 < (x16_2.length : Int)) = true := decide_eq_true c91
                         clear c91
                         obtain ⟨y265, hy265⟩ : ∃ y_ : List (S31), y_ = (x16_2.set (ji47 : Int).toNat (⟨(⟨t251, t252, t253⟩ : S28), t254, t255, t256, t257, t258, t259, t260⟩ : S31)) := ⟨_, rfl⟩
                         replace H : (warplaw4_CufSteps.l0 kj51 l5 t165 t248 y265 (wrap64 (x17_2 + 1))) = some r := by first | (rw [hy265]; with_reducible exact H) | (have H2_ := (Option.bind_some _ _).symm.trans H; rw [hy265]; with_reducible exact H2_) | (have H2_ := (Option.bind_some _ _).symm.trans H; with_reducible exact H2_) | with_reducible exact H | (rw [hy265]; exact H) | exact H
                         have Ny265 := Aside0.mk hy265
                         clear hy265
                         have H' := Aside0.mk H
                         clear H
                         have hnb93 := NB261_246.out
                         have hnc93 := NB246_261.out
                         have hcz94_0 : wc.cell? ⟨gb261, 0, none⟩ = some (.slice Ao63 t248.length co63) := (blk_cell BK261.out 0).trans rfl
                         have hcz94_1 : wc.cell? ⟨gb261, 1, none⟩ = some (.int .i64 t251) := (blk_cell BK261.out 1).trans rfl
                         have hcz94_2 : wc.cell? ⟨gb261, 2, none⟩ = some (.int .i64 t252) := (blk_cell BK261.out 2).trans rfl
                         have hcz94_3 : wc.cell? ⟨gb261, 3, none⟩ = some (.int .i64 t253) := (blk_cell BK261.out 3).trans rfl
                         have hcz94_4 : wc.cell? ⟨gb261, 4, none⟩ = some (.int .i64 t254) := (blk_cell BK261.out 4).trans rfl
                         have hcz94_5 : wc.cell? ⟨gb261, 5, none⟩ = some (.int .i64 t255) := (blk_cell BK261.out 5).trans rfl
                         have hcz94_6 : wc.cell? ⟨gb261, 6, none⟩ = some (.int .i64 t256) := (blk_cell BK261.out 6).trans rfl
                         have hcz94_7 : wc.cell? ⟨gb261, 7, none⟩ = some (.int .i64 t257) := (blk_cell BK261.out 7).trans rfl
                         have hcz94_8 : wc.cell? ⟨gb261, 8, none⟩ = some (.int .i64 t258) := (blk_cell BK261.out 8).trans rfl
                         have hcz94_9 : wc.cell? ⟨gb261, 9, none⟩ = some (.bool t259) := (blk_cell BK261.out 9).trans rfl
                         have hcz94_10 : wc.cell? ⟨gb261, 10, none⟩ = some (.int .i64 t260) := (blk_cell BK261.out 10).trans rfl
                         have hfz94_0 := blk_frozen BK261.out 0
                         have hfz94_1 := blk_frozen BK261.out 1
                         have hfz94_2 := blk_frozen BK261.out 2
                         have hfz94_3 := blk_frozen BK261.out 3
                         have hfz94_4 := blk_frozen BK261.out 4
                         have hfz94_5 := blk_frozen BK261.out 5
                         have hfz94_6 := blk_frozen BK261.out 6
                         have hfz94_7 := blk_frozen BK261.out 7
                         have hfz94_8 := blk_frozen BK261.out 8
                         have hfz94_9 := blk_frozen BK261.out 9
                         have hfz94_10 := blk_frozen BK261.out 10
                         have p92 : 0 ≤ (ji47 : Int) := of_decide_eq_true (by first | (with_reducible assumption) | assumption)
                         have q92 : (ji47 : Int) < ((x16_2.length : Int) : Int) := of_decide_eq_true (by first | (with_reducible assumption) | assumption)
                         obtain ⟨go92, co92, eo92, gb92, gl92, cl92, HG92⟩ := Kd.R_form HO_16.out (by omega)
                         (first | cases eo92 | (injection eo92 with ea_ en_ ec_; (first | subst ea_ | (injection ea_ with ea_; subst ea_)); subst ec_; clear en_))
                         have GB92 := Aside0.mk gb92
                         have GG92 := Aside0.mk HG92
                         clear gb92 gl92 HG92
                         (first | simp only [add_plain] at hx232_0 | skip)
                         (first | simp only [add_plain] at hx232_1 | skip)
                         (first | simp only [add_plain] at hx232_2 | skip)
                         (first | simp only [add_plain] at hx232_3 | skip)
                         (first | simp only [add_plain] at hx232_4 | skip)
                         (first | simp only [add_plain] at hx232_5 | skip)
                         (first | simp only [add_plain] at hx232_6 | skip)
                         (first | simp only [add_plain] at hx232_7 | skip)
                         (first | simp only [add_plain] at hx232_8 | skip)
                         (first | simp only [add_plain] at hx232_9 | skip)
                         (first | simp only [add_plain] at hx247_0 | skip)
                         (first | simp only [add_plain] at hx247_1 | skip)
                         (first | simp only [add_plain] at hx247_2 | skip)
                         (first | simp only [add_plain] at hx247_3 | skip)
                         (first | simp only [add_plain] at hx247_4 | skip)
                         (first | simp only [add_plain] at hx247_5 | skip)
                         (first | simp only [add_plain] at hx247_6 | skip)
                         (first | simp only [add_plain] at hx247_7 | skip)
                         (first | simp only [add_plain] at hx247_8 | skip)
                         (first | simp only [add_plain] at hx247_9 | skip)
                         obtain ⟨ce92, hcl92, hM92, hcc92, hfr92⟩ := Kd.R_elem HO_16.out z31 (ji47 : Int) p92 q92
                         obtain rfl := k31_openM hM92
                         have hx92_0 : wc.cell? ⟨go92, (ji47 : Int).toNat * 10, none⟩ = some (.int .i64 ((rd_T31 x16_2 ji47).f0.f0)) := hcc92 0 _ rfl
                         have hx92_1 : wc.cell? ⟨go92, (ji47 : Int).toNat * 10 + 1, none⟩ = some (.int .i64 ((rd_T31 x16_2 ji47).f0.f1)) := hcc92 1 _ rfl
                         have hx92_2 : wc.cell? ⟨go92, (ji47 : Int).toNat * 10 + 2, none⟩ = some (.int .i64 ((rd_T31 x16_2 ji47).f0.f2)) := hcc92 2 _ rfl
                         have hx92_3 : wc.cell? ⟨go92, (ji47 : Int).toNat * 10 + 3, none⟩ = some (.int .i64 ((rd_T31 x16_2 ji47).f1)) := hcc92 3 _ rfl
                         have hx92_4 : wc.cell? ⟨go92, (ji47 : Int).toNat * 10 + 4, none⟩ = some (.int .i64 ((rd_T31 x16_2 ji47).f2)) := hcc92 4 _ rfl
                         have hx92_5 : wc.cell? ⟨go92, (ji47 : Int).toNat * 10 + 5, none⟩ = some (.int .i64 ((rd_T31 x16_2 ji47).f3)) := hcc92 5 _ rfl
                         have hx92_6 : wc.cell? ⟨go92, (ji47 : Int).toNat * 10 + 6, none⟩ = some (.int .i64 ((rd_T31 x16_2 ji47).f4)) := hcc92 6 _ rfl
                         have hx92_7 : wc.cell? ⟨go92, (ji47 : Int).toNat * 10 + 7, none⟩ = some (.int .i64 ((rd_T31 x16_2 ji47).f5)) := hcc92 7 _ rfl
                         have hx92_8 : wc.cell? ⟨go92, (ji47 : Int).toNat * 10 + 8, none⟩ = some (.bool ((rd_T31 x16_2 ji47).f6)) := hcc92 8 _ rfl
                         have hx92_9 : wc.cell? ⟨go92, (ji47 : Int).toNat * 10 + 9, none⟩ = some (.int .i64 ((rd_T31 x16_2 ji47).f7)) := hcc92 9 _ rfl
                         have hf92_0 : wc.frozen? ⟨go92, (ji47 : Int).toNat * 10, none⟩ = false := hfr92 0
                         have hf92_1 : wc.frozen? ⟨go92, (ji47 : Int).toNat * 10 + 1, none⟩ = false := hfr92 1
                         have hf92_2 : wc.frozen? ⟨go92, (ji47 : Int).toNat * 10 + 2, none⟩ = false := hfr92 2
                         have hf92_3 : wc.frozen? ⟨go92, (ji47 : Int).toNat * 10 + 3, none⟩ = false := hfr92 3
                         have hf92_4 : wc.frozen? ⟨go92, (ji47 : Int).toNat * 10 + 4, none⟩ = false := hfr92 4
                         have hf92_5 : wc.frozen? ⟨go92, (ji47 : Int).toNat * 10 + 5, none⟩ = false := hfr92 5
                         have hf92_6 : wc.frozen? ⟨go92, (ji47 : Int).toNat * 10 + 6, none⟩ = false := hfr92 6
                         have hf92_7 : wc.frozen? ⟨go92, (ji47 : Int).toNat * 10 + 7, none⟩ = false := hfr92 7
                         have hf92_8 : wc.frozen? ⟨go92, (ji47 : Int).toNat * 10 + 8, none⟩ = false := hfr92 8
                         have hf92_9 : wc.frozen? ⟨go92, (ji47 : Int).toNat * 10 + 9, none⟩ = false := hfr92 9
                         clear hcl92 hcc92 hfr92 hM92
                         replace p92 := eq_true p92
                         replace q92 := eq_true q92
                         have HX95 := Aside0.mk (show Kd.R k31 31 wc w.heap.size (fun k_ => k_ ≠ gb246) (.slice (some ⟨go92, 0, none⟩) x16_2.length co57) x16_2 from (by (with_reducible repeat (first | apply Kd.R_alloc | apply Kd.R_drewN | apply Kd.R_drew)); exact HO_16.out))
                         obtain ⟨ce95, hcl95, hM95, hcc95, hfr95⟩ := Kd.R_elem HX95.out z31 (ji47 : Int) (of_decide_eq_true (by first | (with_reducible assumption) | assumption)) (by have h_ : (ji47 : Int) < ((x16_2.length : Int) : Int) := of_decide_eq_true (by first | (with_reducible assumption) | assumption); first | exact h_ | (have e_ := (Kd.R_reads' HO_16.out).1; omega) | simpa using h_)
                         obtain rfl := k31_openM hM95
                         have HP95 := Kd.R_seg HX95.out (ji47 : Int) (of_decide_eq_true (by first | (with_reducible assumption) | assumption)) (by have h_ : (ji47 : Int) < ((x16_2.length : Int) : Int) := of_decide_eq_true (by first | (with_reducible assumption) | assumption); first | exact h_ | (have e_ := (Kd.R_reads' HO_16.out).1; omega) | simpa using h_) (seg := [.int .i64 t251, .int .i64 t252, .int .i64 t253, .int .i64 t254, .int .i64 t255, .int .i64 t256, .int .i64 t257, .int .i64 t258, .bool t259, .int .i64 t260]) (j := 0) hcl95 hcc95 (show 10 ≤ 10 from by decide) (x' := (⟨(⟨t251, t252, t253⟩ : S28), t254, t255, t256, t257, t258, t259, t260⟩ : S31)) (k31_mkM _ _ _ (⟨(⟨t251, t252, t253⟩ : S28), t254, t255, t256, t257, t258, t259, t260⟩ : S31) ) (fun _ hk => hk)
                         have hx95_0 := hcc95 0 _ rfl
                         (try simp only [show (k31).sz = 10 from rfl, Nat.mul_one, Nat.add_zero] at hx95_0)
                         have hf95_0 := hfr95 0
                         (try simp only [show (k31).sz = 10 from rfl, Nat.mul_one, Nat.add_zero] at hf95_0)
                         have hx95_1 := hcc95 1 _ rfl
                         (try simp only [show (k31).sz = 10 from rfl, Nat.mul_one, Nat.add_zero] at hx95_1)
                         have hf95_1 := hfr95 1
                         (try simp only [show (k31).sz = 10 from rfl, Nat.mul_one, Nat.add_zero] at hf95_1)
                         have hx95_2 := hcc95 2 _ rfl
                         (try simp only [show (k31).sz = 10 from rfl, Nat.mul_one, Nat.add_zero] at hx95_2)
                         have hf95_2 := hfr95 2
                         (try simp only [show (k31).sz = 10 from rfl, Nat.mul_one, Nat.add_zero] at hf95_2)
                         have hx95_3 := hcc95 3 _ rfl
                         (try simp only [show (k31).sz = 10 from rfl, Nat.mul_one, Nat.add_zero] at hx95_3)
                         have hf95_3 := hfr95 3
                         (try simp only [show (k31).sz = 10 from rfl, Nat.mul_one, Nat.add_zero] at hf95_3)
                         have hx95_4 := hcc95 4 _ rfl
                         (try simp only [show (k31).sz = 10 from rfl, Nat.mul_one, Nat.add_zero] at hx95_4)
                         have hf95_4 := hfr95 4
                         (try simp only [show (k31).sz = 10 from rfl, Nat.mul_one, Nat.add_zero] at hf95_4)
                         have hx95_5 := hcc95 5 _ rfl
                         (try simp only [show (k31).sz = 10 from rfl, Nat.mul_one, Nat.add_zero] at hx95_5)
                         have hf95_5 := hfr95 5
                         (try simp only [show (k31).sz = 10 from rfl, Nat.mul_one, Nat.add_zero] at hf95_5)
                         have hx95_6 := hcc95 6 _ rfl
                         (try simp only [show (k31).sz = 10 from rfl, Nat.mul_one, Nat.add_zero] at hx95_6)
                         have hf95_6 := hfr95 6
                         (try simp only [show (k31).sz = 10 from rfl, Nat.mul_one, Nat.add_zero] at hf95_6)
                         have hx95_7 := hcc95 7 _ rfl
                         (try simp only [show (k31).sz = 10 from rfl, Nat.mul_one, Nat.add_zero] at hx95_7)
                         have hf95_7 := hfr95 7
                         (try simp only [show (k31).sz = 10 from rfl, Nat.mul_one, Nat.add_zero] at hf95_7)
                         have hx95_8 := hcc95 8 _ rfl
                         (try simp only [show (k31).sz = 10 from rfl, Nat.mul_one, Nat.add_zero] at hx95_8)
                         have hf95_8 := hfr95 8
                         (try simp only [show (k31).sz = 10 from rfl, Nat.mul_one, Nat.add_zero] at hf95_8)
                         have hx95_9 := hcc95 9 _ rfl
                         (try simp only [show (k31).sz = 10 from rfl, Nat.mul_one, Nat.add_zero] at hx95_9)
                         have hf95_9 := hfr95 9
                         (try simp only [show (k31).sz = 10 from rfl, Nat.mul_one, Nat.add_zero] at hf95_9)
                         clear hcl95 hcc95 hfr95 hM95
                         go_wp2_with (first | ((with_reducible refine gate_store (t := 31) (p := 161) rfl ?_); refine store_event (t := 31) (p := 161) (v := ?vo_w96) (w1 := ((((((((((wc.setCell ⟨go92, (ji47 : Int).toNat * 10, none⟩ (.int .i64 t251)).setCell ⟨go92, (ji47 : Int).toNat * 10 + 1, none⟩ (.int .i64 t252)).setCell ⟨go92, (ji47 : Int).toNat * 10 + 2, none⟩ (.int .i64 t253)).setCell ⟨go92, (ji47 : Int).toNat * 10 + 3, none⟩ (.int .i64 t254)).setCell ⟨go92, (ji47 : Int).toNat * 10 + 4, none⟩ (.int .i64 t255)).setCell ⟨go92, (ji47 : Int).toNat * 10 + 5, none⟩ (.int .i64 t256)).setCell ⟨go92, (ji47 : Int).toNat * 10 + 6, none⟩ (.int .i64 t257)).setCell ⟨go92, (ji47 : Int).toNat * 10 + 7, none⟩ (.int .i64 t258)).setCell ⟨go92, (ji47 : Int).toNat * 10 + 8, none⟩ (.bool t259)).setCell ⟨go92, (ji47 : Int).toNat * 10 + 9, none⟩ (.int .i64 t260))) ?hg ?ho ?hn ?hr ?_; (case ho => rfl); (case hg => rfl); (case hn => rfl); (case hr => first | (go_simp; done) | (go_simp; rfl)); intro w96 hw; have hg : wc.grownBy w96 (some go92) := (by rw [hw]; exact HP95.2); have hp_ : Kd.R k31 31 w96 w.heap.size (fun k_ => k_ ≠ gb246) (.slice (some ⟨go92, 0, none⟩) x16_2.length co57) y265 := (by rw [hw, Ny265.out]; exact HP95.1); clear HP95; have n0_ := Aside0.mk (Kd.R_over' (v := (.slice (some ⟨go92, 0, none⟩) x16_2.length co57)) (by (with_reducible repeat (first | apply Kd.R_alloc | apply Kd.R_drewN | apply Kd.R_drew)); exact HO_14.out) (Kd.R_typed HO_16.out) (by decide) hg); have n1_ := Aside0.mk (hp_); have n2_ := Aside0.mk (Kd.R_over' (v := (.slice (some ⟨go92, 0, none⟩) x16_2.length co57)) (by (with_reducible repeat (first | apply Kd.R_alloc | apply Kd.R_drewN | apply Kd.R_drew)); exact HO_262000.out) (Kd.R_typed HO_16.out) (by decide) hg); have n3_ := Aside0.mk (blk_grown (g := gb246) (o := .cells #[.int .i64 t236, .int .i64 t237, .int .i64 t238, .int .i64 t239, .int .i64 t240, .int .i64 t241, .int .i64 t242, .int .i64 t243, .bool t244, .int .i64 t245] 31 (0, 0)) (by (with_reducible repeat (first | refine blk_drewN ?_ _ | refine blk_drew ?_ | refine blk_alloc ?_ _)); exact BK246.out) hg (Kd.R_away HO_16.out (fun _ hk => hk))); have n4_ := Aside0.mk (blk_grown (g := gb261) (o := .cells #[.slice Ao63 t248.length co63, .int .i64 t251, .int .i64 t252, .int .i64 t253, .int .i64 t254, .int .i64 t255, .int .i64 t256, .int .i64 t257, .int .i64 t258, .bool t259, .int .i64 t260] 45 (0, 0)) (by (with_reducible repeat (first | refine blk_drewN ?_ _ | refine blk_drew ?_ | refine blk_alloc ?_ _)); exact BK261.out) hg (Kd.R_ne HO_16.out BK261.out (by decide))); have n5_ := Aside0.mk ((by rw [hw]; exact below_set (below_set (below_set (below_set (below_set (below_set (below_set (below_set (below_set (below_set (HB.out) GB92.out) GB92.out) GB92.out) GB92.out) GB92.out) GB92.out) GB92.out) GB92.out) GB92.out) GB92.out : Below w.heap.size w w96)); clear HO_14; clear HO_16; clear HO_262000; clear BK246; clear BK261; clear HB; have HO_14 := n0_; have HO_16 := n1_; have HO_262000 := n2_; have BK246 := n3_; have BK261 := n4_; have HB := n5_; clear n0_ n1_ n2_ n3_ n4_ n5_; clear hg hw hp_))
                         go_roundg kj51
                         case measure => have := HJ6.out; have := HK2.out; have := HJ51.out; omega
                         case rel => exact ⟨(t248), (y265), (wrap64 (x17_2 + 1)), (by first | rfl | (simp; done) | (simp [*]; done)), H', ⟨by have := HJ6.out; have := HK2.out; have := HJ51.out; omega⟩, ⟨by (with_reducible repeat (first | apply Kd.R_alloc | apply Kd.R_drewN | apply Kd.R_drew)); exact HO_14.out⟩, ⟨by (with_reducible repeat (first | apply Kd.R_alloc | apply Kd.R_drewN | apply Kd.R_drew)); exact HO_262000.out⟩, ⟨by (with_reducible repeat (first | apply Kd.R_alloc | apply Kd.R_drewN | apply Kd.R_drew)); exact Kd.R_mono HO_16.out (fun _ hk => trivial)⟩, ⟨by repeat (first | (with_reducible first | exact HB.out | apply below_alloc | apply pw_below_drewN | apply below_drew1 | refine below_set ?_ GE246.out | refine below_set ?_ GE261.out) | exact HB.out)⟩⟩
                        ·
                         rw [if_neg c91] at H
                         exact absurd H (by simp)
                       ·
                        rw [if_neg c90] at H
                        exact absurd H (by simp)
                   ·
                    rw [if_neg c49] at H
                    exact absurd H (by simp)
                  ·
                   rw [if_neg c48] at H
                   exact absurd H (by simp)
                 ·
                  rw [if_neg c46] at H
                  exact absurd H (by simp)
                ·
                 rw [if_neg c45] at H
                 exact absurd H (by simp)
               ·
                rw [if_neg c44] at H
                have c44b0 : decide (x17_2 < (l5.length : Int)) = false := decide_eq_false c44
                clear c44
                replace H := Option.bind_eq_some_iff.mp H
                obtain ⟨t266, A970, H⟩ := H
                replace H : (some t266) = some r := H
                have A97 := Aside0.mk A970
                clear A970
                obtain rfl := Option.some.inj H
                go_wp2_with (first | ((with_reducible refine gate_callee (f := 8) rfl ?_); refine goesL_ (some 162) rfl rfl Try.func8 (by kernel_rfl) rfl #[] rfl (by (try simp only [List.map_toArray, List.map_cons, List.map_nil]); first | done | rfl | (simp only [List.length_drop, List.length_take]; rfl)) ?_; (with_reducible refine (warplaw4_awake.calls  t266 _ A97.out).mono ?_); rintro e w98 ⟨rfl, hb⟩; refine ⟨_, rfl, ?_⟩; have n0_ := Aside0.mk (Kd.R_below (by (with_reducible repeat (first | apply Kd.R_alloc | apply Kd.R_drewN | apply Kd.R_drew)); exact HO_14.out) hb); have n1_ := Aside0.mk (Kd.R_below (by (with_reducible repeat (first | apply Kd.R_alloc | apply Kd.R_drewN | apply Kd.R_drew)); exact HO_15.out) hb); have n2_ := Aside0.mk (Kd.R_below (by (with_reducible repeat (first | apply Kd.R_alloc | apply Kd.R_drewN | apply Kd.R_drew)); exact HO_16.out) hb); have n3_ := Aside0.mk (below_step (by repeat (first | (with_reducible first | exact HB.out | apply below_alloc | apply pw_below_drewN | apply below_drew1) | exact HB.out)) hb); clear HO_14; clear HO_15; clear HO_16; clear HB; have HO_14 := n0_; have HO_15 := n1_; have HO_16 := n2_; have HB := n3_; clear n0_ n1_ n2_ n3_; (try clear hb); (try clear hb2); (try clear hk); (try clear hi)))
                go_ret
                exact ⟨by first | rfl | (simp [errW_none, errW_some] <;> rfl) | (simp [*, errW_none, errW_some] <;> rfl), by repeat (first | (with_reducible first | exact HB.out | apply below_alloc | apply pw_below_drewN | apply below_drew1) | exact HB.out)⟩
            ·
             rw [if_neg c29] at H
             exact absurd H (by simp)
           ·
            rw [if_neg c28] at H
            exact absurd H (by simp)
          ·
           rw [if_neg c27] at H
           exact absurd H (by simp)
         ·
          rw [if_neg c24] at H
          exact absurd H (by simp)
        ·
         rw [if_neg c23] at H
         exact absurd H (by simp)
       ·
        rw [if_neg c22] at H
        exact absurd H (by simp)
      ·
       rw [if_neg c19] at H
       exact absurd H (by simp)
     ·
      rw [if_neg c18] at H
      exact absurd H (by simp)
    ·
     rw [if_neg c17] at H
     exact absurd H (by simp)

/-- THE ONE PURE STATEMENT of warplaw4_CufSteps: yours. -/
def warplaw4_CufSteps.Pure : Prop := ∀ (l0 : List Int) (l1 : List Int) (l2 : List Int) (l3 : List Int) (l4 : List Int) (l5 : List Int), l0.length ≤ maxLen → l0.length * 1 ≤ 140737488351232 → (∀ x ∈ l0, (Lit.int .u8 x).wf = true) → l1.length ≤ maxLen → l1.length * 1 ≤ 140737488351232 → (∀ x ∈ l1, (Lit.int .u8 x).wf = true) → l2.length ≤ maxLen → l2.length * 1 ≤ 140737488351232 → (∀ x ∈ l2, (Lit.int .u8 x).wf = true) → l3.length ≤ maxLen → l3.length * 1 ≤ 140737488351232 → (∀ x ∈ l3, (Lit.int .u8 x).wf = true) → l4.length ≤ maxLen → l4.length * 1 ≤ 140737488351232 → (∀ x ∈ l4, (Lit.int .u8 x).wf = true) → l5.length ≤ maxLen → l5.length * 1 ≤ 140737488351232 → (∀ x ∈ l5, (Lit.int .u8 x).wf = true) → ∃ k, warplaw4_CufSteps.f k l0 l1 l2 l3 l4 l5 = some true
theorem warplaw4_CufSteps.walk (P : warplaw4_CufSteps.Pure) (a0 : Option Addr) (len0 cap0 : Nat) (z0 : List Int) (a1 : Option Addr) (len1 cap1 : Nat) (z1 : List Int) (a2 : Option Addr) (len2 cap2 : Nat) (z2 : List Int) (a3 : Option Addr) (len3 cap3 : Nat) (z3 : List Int) (a4 : Option Addr) (len4 cap4 : Nat) (z4 : List Int) (a5 : Option Addr) (len5 cap5 : Nat) (z5 : List Int) (w : World) (w0 : (a0 = none ∧ len0 = 0 ∧ cap0 = 0 ∧ z0 = []) ∨ ∃ x, a0 = some x ∧ len0 ≤ cap0 ∧ cap0 ≤ maxLen ∧ z0.length = cap0 ∧ (∀ i, i < z0.length → w.cell? (x.add i) = some (.int .u8 (z0.getD i 0))) ∧ ∀ n ∈ z0, (Lit.int .u8 n).wf = true) (y0 : len0 * 1 ≤ 140737488351232) (w1 : (a1 = none ∧ len1 = 0 ∧ cap1 = 0 ∧ z1 = []) ∨ ∃ x, a1 = some x ∧ len1 ≤ cap1 ∧ cap1 ≤ maxLen ∧ z1.length = cap1 ∧ (∀ i, i < z1.length → w.cell? (x.add i) = some (.int .u8 (z1.getD i 0))) ∧ ∀ n ∈ z1, (Lit.int .u8 n).wf = true) (y1 : len1 * 1 ≤ 140737488351232) (w2 : (a2 = none ∧ len2 = 0 ∧ cap2 = 0 ∧ z2 = []) ∨ ∃ x, a2 = some x ∧ len2 ≤ cap2 ∧ cap2 ≤ maxLen ∧ z2.length = cap2 ∧ (∀ i, i < z2.length → w.cell? (x.add i) = some (.int .u8 (z2.getD i 0))) ∧ ∀ n ∈ z2, (Lit.int .u8 n).wf = true) (y2 : len2 * 1 ≤ 140737488351232) (w3 : (a3 = none ∧ len3 = 0 ∧ cap3 = 0 ∧ z3 = []) ∨ ∃ x, a3 = some x ∧ len3 ≤ cap3 ∧ cap3 ≤ maxLen ∧ z3.length = cap3 ∧ (∀ i, i < z3.length → w.cell? (x.add i) = some (.int .u8 (z3.getD i 0))) ∧ ∀ n ∈ z3, (Lit.int .u8 n).wf = true) (y3 : len3 * 1 ≤ 140737488351232) (w4 : (a4 = none ∧ len4 = 0 ∧ cap4 = 0 ∧ z4 = []) ∨ ∃ x, a4 = some x ∧ len4 ≤ cap4 ∧ cap4 ≤ maxLen ∧ z4.length = cap4 ∧ (∀ i, i < z4.length → w.cell? (x.add i) = some (.int .u8 (z4.getD i 0))) ∧ ∀ n ∈ z4, (Lit.int .u8 n).wf = true) (y4 : len4 * 1 ≤ 140737488351232) (w5 : (a5 = none ∧ len5 = 0 ∧ cap5 = 0 ∧ z5 = []) ∨ ∃ x, a5 = some x ∧ len5 ≤ cap5 ∧ cap5 ≤ maxLen ∧ z5.length = cap5 ∧ (∀ i, i < z5.length → w.cell? (x.add i) = some (.int .u8 (z5.getD i 0))) ∧ ∀ n ∈ z5, (Lit.int .u8 n).wf = true) (y5 : len5 * 1 ≤ 140737488351232) :
 Calls Try.prog 5 #[.slice a0 len0 cap0, .slice a1 len1 cap1, .slice a2 len2 cap2, .slice a3 len3 cap3, .slice a4 len4 cap4, .slice a5 len5 cap5] w fun e w' => e = .returned (.bool true) ∧ Below w.heap.size w w' := by
 obtain ⟨l0, rfl, hr0, hm0, hw0, hc0⟩ := ReadsInt.ofRowC w0
 obtain ⟨l1, rfl, hr1, hm1, hw1, hc1⟩ := ReadsInt.ofRowC w1
 obtain ⟨l2, rfl, hr2, hm2, hw2, hc2⟩ := ReadsInt.ofRowC w2
 obtain ⟨l3, rfl, hr3, hm3, hw3, hc3⟩ := ReadsInt.ofRowC w3
 obtain ⟨l4, rfl, hr4, hm4, hw4, hc4⟩ := ReadsInt.ofRowC w4
 obtain ⟨l5, rfl, hr5, hm5, hw5, hc5⟩ := ReadsInt.ofRowC w5
 obtain ⟨k, h⟩ := P l0 l1 l2 l3 l4 l5 hm0 y0 hw0 hm1 y1 hw1 hm2 y2 hw2 hm3 y3 hw3 hm4 y4 hw4 hm5 y5 hw5
 refine (warplaw4_CufSteps.calls k _ _ l0 _ _ l1 _ _ l2 _ _ l3 _ _ l4 _ _ l5 true w (Kd.C_of_reads (d := (0 : Int)) (h1 := fun _ => rfl) hr0) hc0 (Kd.C_of_reads (d := (0 : Int)) (h1 := fun _ => rfl) hr1) hc1 (Kd.C_of_reads (d := (0 : Int)) (h1 := fun _ => rfl) hr2) hc2 (Kd.C_of_reads (d := (0 : Int)) (h1 := fun _ => rfl) hr3) hc3 (Kd.C_of_reads (d := (0 : Int)) (h1 := fun _ => rfl) hr4) hc4 (Kd.C_of_reads (d := (0 : Int)) (h1 := fun _ => rfl) hr5) hc5 h).mono ?_
 rintro e w' ⟨rfl, hd⟩
 exact ⟨rfl, hd⟩

end Go.Proofs.Ytcppmfmlafnmfaa.P
