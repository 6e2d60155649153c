/-
The plain Lean functions of Go functions of this seat, and proofs that the calls of the machine come to them; no condition beside those named in each theorem.
-/
import Derived.Test.YtbkdnenlffiaeaaDoorPx0
import Derived.Test.YtbkdnenlffiaeaaDoorPx3
namespace Go.Proofs.YtbkdnenlffiaeaaDoor.P
open Go.RowKit Go.Proofs.YtbkdnenlffiaeaaDoorW.PrintWords Go.Proofs.YtbkdnenlffiaeaaDoorW.PrintLast Go.Proofs.YtbkdnenlffiaeaaDoorW.PrintMore
attribute [local go_sem] max2_int min2_int max_two min_two max_three min_three max_four min_four   -- for this text's walks alone
set_option linter.unusedVariables false
set_option linter.unusedSimpArgs false

/-! ### warplaw2_PickTurns: function 5 -/
mutual
def warplaw2_PickTurns.l0 : Nat → List Bool → Int → Int → Int → Option (Bool)
 | 0, _, _, _, _ => none
 | k + 1, x0, x1, x5, x6 => if x6 < (x0.length : Int) then (if 0 ≤ x6 then (if rdOf false x0 x6 = true then (warplaw2_PickTurns.l0 k x0 x1 (wrap64 (x5 + 1)) (wrap64 (x6 + 1))) else (warplaw2_PickTurns.l0 k x0 x1 x5 (wrap64 (x6 + 1)))) else (none)) else (if (x0.length : Int) > 70 then (warplaw2_PickTurns.j1 k x0 x1 x5 true) else (warplaw2_PickTurns.j1 k x0 x1 x5 (x5 == 0)))
def warplaw2_PickTurns.j1 : Nat → List Bool → Int → Int → Bool → Option (Bool)
 | 0, _, _, _, _ => none
 | k + 1, x0, x1, x5, x33 => if x33 = true then ((pick_Start.f ([] : List Int)).bind fun bt241 => (if 0 ≤ (Int.tmod (wrap64 (x1)) 70) then (if (Int.tmod (wrap64 (x1)) 70 : Int).toNat ≤ 281474976710656 then ((pick_Next.f k bt241.1 bt241.2.1 bt241.2.2 (List.replicate (Int.tmod (wrap64 (x1)) 70 : Int).toNat false)).bind fun bt249 => (if bt249.1 = (-1) then ((warplaw2_awake.f k).bind fun t256 => (some t256)) else (some false))) else (none)) else (none))) else (if 0 ≤ (x0.length : Int) then (if ((x0.length : Int) : Int).toNat ≤ 35184372088832 then (warplaw2_PickTurns.l1 k x0 x5 (List.replicate ((x0.length : Int) : Int).toNat 0) 0 ([] : List Int) 0 (wrap64 (x1))) else (none)) else (none))
def warplaw2_PickTurns.l1 : Nat → List Bool → Int → List Int → Int → List Int → Int → Int → Option (Bool)
 | 0, _, _, _, _, _, _, _ => none
 | k + 1, x0, x5, x10, x11, x258000, x258001, x258002 => if x11 < (wrap64 (3 * x5)) then ((pick_Next.f k x258000 x258001 x258002 x0).bind fun bt261 => (if bt261.1 < 0 then (warplaw2_PickTurns.j3 k x0 x5 x10 x11 bt261.1 true bt261.2.1 bt261.2.2.1 bt261.2.2.2) else (if bt261.1 ≥ (x0.length : Int) then (warplaw2_PickTurns.j3 k x0 x5 x10 x11 bt261.1 true bt261.2.1 bt261.2.2.1 bt261.2.2.2) else (if 0 ≤ bt261.1 then (if bt261.1 < (x0.length : Int) then (warplaw2_PickTurns.j3 k x0 x5 x10 x11 bt261.1 (!(rdOf false x0 bt261.1)) bt261.2.1 bt261.2.2.1 bt261.2.2.2) else (none)) else (none))))) else (warplaw2_PickTurns.l2 k x0 x10 0)
def warplaw2_PickTurns.j3 : Nat → List Bool → Int → List Int → Int → Int → Bool → List Int → Int → Int → Option (Bool)
 | 0, _, _, _, _, _, _, _, _, _ => none
 | k + 1, x0, x5, x10, x11, x12, x80, x268000, x268001, x268002 => if x80 = true then (some false) else (if 0 ≤ x12 then (if x12 < (x10.length : Int) then (warplaw2_PickTurns.l1 k x0 x5 (x10.set (x12 : Int).toNat (wrap64 ((rd x10 x12) + 1))) (wrap64 (x11 + 1)) x268000 x268001 x268002) else (none)) else (none))
def warplaw2_PickTurns.l2 : Nat → List Bool → List Int → Int → Option (Bool)
 | 0, _, _, _ => none
 | k + 1, x0, x10, x14 => if x14 < (x0.length : Int) then (if 0 ≤ x14 then (if rdOf false x0 x14 = true then (if x14 < (x10.length : Int) then (if (rd x10 x14) = 3 then (warplaw2_PickTurns.j5 k x0 x10 x14 false) else (warplaw2_PickTurns.j5 k x0 x10 x14 true)) else (none)) else (if x14 < (x10.length : Int) then (warplaw2_PickTurns.j5 k x0 x10 x14 ((rd x10 x14) != 0)) else (none))) else (none)) else ((warplaw2_awake.f k).bind fun t276 => (some t276))
def warplaw2_PickTurns.j5 : Nat → List Bool → List Int → Int → Bool → Option (Bool)
 | 0, _, _, _, _ => none
 | k + 1, x0, x10, x14, x118 => if x118 = true then (some false) else (warplaw2_PickTurns.l2 k x0 x10 (wrap64 (x14 + 1)))
end
def warplaw2_PickTurns.f (k : Nat) (l0 : List Bool) (a1 : Int) : Option (Bool) := warplaw2_PickTurns.l0 k l0 a1 0 0
theorem warplaw2_PickTurns.mono_l : ∀ k, (∀ y0 y1 y2 y3, LeO (warplaw2_PickTurns.l0 k y0 y1 y2 y3) (warplaw2_PickTurns.l0 (k + 1) y0 y1 y2 y3)) ∧ (∀ y0 y1 y2 y3, LeO (warplaw2_PickTurns.j1 k y0 y1 y2 y3) (warplaw2_PickTurns.j1 (k + 1) y0 y1 y2 y3)) ∧ (∀ y0 y1 y2 y3 y4 y5 y6, LeO (warplaw2_PickTurns.l1 k y0 y1 y2 y3 y4 y5 y6) (warplaw2_PickTurns.l1 (k + 1) y0 y1 y2 y3 y4 y5 y6)) ∧ (∀ y0 y1 y2 y3 y4 y5 y6 y7 y8, LeO (warplaw2_PickTurns.j3 k y0 y1 y2 y3 y4 y5 y6 y7 y8) (warplaw2_PickTurns.j3 (k + 1) y0 y1 y2 y3 y4 y5 y6 y7 y8)) ∧ (∀ y0 y1 y2, LeO (warplaw2_PickTurns.l2 k y0 y1 y2) (warplaw2_PickTurns.l2 (k + 1) y0 y1 y2)) ∧ (∀ y0 y1 y2 y3, LeO (warplaw2_PickTurns.j5 k y0 y1 y2 y3) (warplaw2_PickTurns.j5 (k + 1) y0 y1 y2 y3))
 | 0 => ⟨fun _ _ _ _ r h => by simp [warplaw2_PickTurns.l0] at h, fun _ _ _ _ r h => by simp [warplaw2_PickTurns.j1] at h, fun _ _ _ _ _ _ _ r h => by simp [warplaw2_PickTurns.l1] at h, fun _ _ _ _ _ _ _ _ _ r h => by simp [warplaw2_PickTurns.j3] at h, fun _ _ _ r h => by simp [warplaw2_PickTurns.l2] at h, fun _ _ _ _ r h => by simp [warplaw2_PickTurns.j5] at h⟩
 | k + 1 => by
  obtain ⟨ih0, ih1, ih2, ih3, ih4, ih5⟩ := warplaw2_PickTurns.mono_l k
  refine ⟨?_, ?_, ?_, ?_, ?_, ?_⟩
  ·
   intro y0 y1 y2 y3
   unfold warplaw2_PickTurns.l0
   repeat' first
   | (with_reducible exact ih0 _ _ _ _)
   | (with_reducible exact ih1 _ _ _ _)
   | (with_reducible exact ih2 _ _ _ _ _ _ _)
   | (with_reducible exact ih3 _ _ _ _ _ _ _ _ _)
   | (with_reducible exact ih4 _ _ _)
   | (with_reducible exact ih5 _ _ _ _)
   | (with_reducible exact pick_Next.mono _ _ _ _ _)
   | (with_reducible exact warplaw2_awake.mono _)
   | (with_reducible exact LeO.refl _)
   | (with_reducible exact LeO.none _)
   | (with_reducible refine LeO.ite ?_ ?_)
   | (with_reducible refine LeO.bind ?_ (fun _ => ?_))
   | exact ih0 _ _ _ _
   | exact ih1 _ _ _ _
   | exact ih2 _ _ _ _ _ _ _
   | exact ih3 _ _ _ _ _ _ _ _ _
   | exact ih4 _ _ _
   | exact ih5 _ _ _ _
   | exact pick_Next.mono _ _ _ _ _
   | exact warplaw2_awake.mono _
   | exact LeO.none _
   | refine LeO.ite ?_ ?_
   | refine LeO.bind ?_ (fun _ => ?_)
  ·
   intro y0 y1 y2 y3
   unfold warplaw2_PickTurns.j1
   repeat' first
   | (with_reducible exact ih0 _ _ _ _)
   | (with_reducible exact ih1 _ _ _ _)
   | (with_reducible exact ih2 _ _ _ _ _ _ _)
   | (with_reducible exact ih3 _ _ _ _ _ _ _ _ _)
   | (with_reducible exact ih4 _ _ _)
   | (with_reducible exact ih5 _ _ _ _)
   | (with_reducible exact pick_Next.mono _ _ _ _ _)
   | (with_reducible exact warplaw2_awake.mono _)
   | (with_reducible exact LeO.refl _)
   | (with_reducible exact LeO.none _)
   | (with_reducible refine LeO.ite ?_ ?_)
   | (with_reducible refine LeO.bind ?_ (fun _ => ?_))
   | exact ih0 _ _ _ _
   | exact ih1 _ _ _ _
   | exact ih2 _ _ _ _ _ _ _
   | exact ih3 _ _ _ _ _ _ _ _ _
   | exact ih4 _ _ _
   | exact ih5 _ _ _ _
   | exact pick_Next.mono _ _ _ _ _
   | exact warplaw2_awake.mono _
   | exact LeO.none _
   | refine LeO.ite ?_ ?_
   | refine LeO.bind ?_ (fun _ => ?_)
  ·
   intro y0 y1 y2 y3 y4 y5 y6
   unfold warplaw2_PickTurns.l1
   repeat' first
   | (with_reducible exact ih0 _ _ _ _)
   | (with_reducible exact ih1 _ _ _ _)
   | (with_reducible exact ih2 _ _ _ _ _ _ _)
   | (with_reducible exact ih3 _ _ _ _ _ _ _ _ _)
   | (with_reducible exact ih4 _ _ _)
   | (with_reducible exact ih5 _ _ _ _)
   | (with_reducible exact pick_Next.mono _ _ _ _ _)
   | (with_reducible exact warplaw2_awake.mono _)
   | (with_reducible exact LeO.refl _)
   | (with_reducible exact LeO.none _)
   | (with_reducible refine LeO.ite ?_ ?_)
   | (with_reducible refine LeO.bind ?_ (fun _ => ?_))
   | exact ih0 _ _ _ _
   | exact ih1 _ _ _ _
   | exact ih2 _ _ _ _ _ _ _
   | exact ih3 _ _ _ _ _ _ _ _ _
   | exact ih4 _ _ _
   | exact ih5 _ _ _ _
   | exact pick_Next.mono _ _ _ _ _
   | exact warplaw2_awake.mono _
   | exact LeO.none _
   | refine LeO.ite ?_ ?_
   | refine LeO.bind ?_ (fun _ => ?_)
  ·
   intro y0 y1 y2 y3 y4 y5 y6 y7 y8
   unfold warplaw2_PickTurns.j3
   repeat' first
   | (with_reducible exact ih0 _ _ _ _)
   | (with_reducible exact ih1 _ _ _ _)
   | (with_reducible exact ih2 _ _ _ _ _ _ _)
   | (with_reducible exact ih3 _ _ _ _ _ _ _ _ _)
   | (with_reducible exact ih4 _ _ _)
   | (with_reducible exact ih5 _ _ _ _)
   | (with_reducible exact pick_Next.mono _ _ _ _ _)
   | (with_reducible exact warplaw2_awake.mono _)
   | (with_reducible exact LeO.refl _)
   | (with_reducible exact LeO.none _)
   | (with_reducible refine LeO.ite ?_ ?_)
   | (with_reducible refine LeO.bind ?_ (fun _ => ?_))
   | exact ih0 _ _ _ _
   | exact ih1 _ _ _ _
   | exact ih2 _ _ _ _ _ _ _
   | exact ih3 _ _ _ _ _ _ _ _ _
   | exact ih4 _ _ _
   | exact ih5 _ _ _ _
   | exact pick_Next.mono _ _ _ _ _
   | exact warplaw2_awake.mono _
   | exact LeO.none _
   | refine LeO.ite ?_ ?_
   | refine LeO.bind ?_ (fun _ => ?_)
  ·
   intro y0 y1 y2
   unfold warplaw2_PickTurns.l2
   repeat' first
   | (with_reducible exact ih0 _ _ _ _)
   | (with_reducible exact ih1 _ _ _ _)
   | (with_reducible exact ih2 _ _ _ _ _ _ _)
   | (with_reducible exact ih3 _ _ _ _ _ _ _ _ _)
   | (with_reducible exact ih4 _ _ _)
   | (with_reducible exact ih5 _ _ _ _)
   | (with_reducible exact pick_Next.mono _ _ _ _ _)
   | (with_reducible exact warplaw2_awake.mono _)
   | (with_reducible exact LeO.refl _)
   | (with_reducible exact LeO.none _)
   | (with_reducible refine LeO.ite ?_ ?_)
   | (with_reducible refine LeO.bind ?_ (fun _ => ?_))
   | exact ih0 _ _ _ _
   | exact ih1 _ _ _ _
   | exact ih2 _ _ _ _ _ _ _
   | exact ih3 _ _ _ _ _ _ _ _ _
   | exact ih4 _ _ _
   | exact ih5 _ _ _ _
   | exact pick_Next.mono _ _ _ _ _
   | exact warplaw2_awake.mono _
   | exact LeO.none _
   | refine LeO.ite ?_ ?_
   | refine LeO.bind ?_ (fun _ => ?_)
  ·
   intro y0 y1 y2 y3
   unfold warplaw2_PickTurns.j5
   repeat' first
   | (with_reducible exact ih0 _ _ _ _)
   | (with_reducible exact ih1 _ _ _ _)
   | (with_reducible exact ih2 _ _ _ _ _ _ _)
   | (with_reducible exact ih3 _ _ _ _ _ _ _ _ _)
   | (with_reducible exact ih4 _ _ _)
   | (with_reducible exact ih5 _ _ _ _)
   | (with_reducible exact pick_Next.mono _ _ _ _ _)
   | (with_reducible exact warplaw2_awake.mono _)
   | (with_reducible exact LeO.refl _)
   | (with_reducible exact LeO.none _)
   | (with_reducible refine LeO.ite ?_ ?_)
   | (with_reducible refine LeO.bind ?_ (fun _ => ?_))
   | exact ih0 _ _ _ _
   | exact ih1 _ _ _ _
   | exact ih2 _ _ _ _ _ _ _
   | exact ih3 _ _ _ _ _ _ _ _ _
   | exact ih4 _ _ _
   | exact ih5 _ _ _ _
   | exact pick_Next.mono _ _ _ _ _
   | exact warplaw2_awake.mono _
   | exact LeO.none _
   | refine LeO.ite ?_ ?_
   | refine LeO.bind ?_ (fun _ => ?_)
theorem warplaw2_PickTurns.mono : ∀ a0 a1 k, LeO (warplaw2_PickTurns.f k a0 a1) (warplaw2_PickTurns.f (k + 1) a0 a1) := by
 intro a0 a1 k
 obtain ⟨ih0, ih1, ih2, ih3, ih4, ih5⟩ := warplaw2_PickTurns.mono_l k
 unfold warplaw2_PickTurns.f
 repeat' first
  | (with_reducible exact ih0 _ _ _ _)
  | (with_reducible exact ih1 _ _ _ _)
  | (with_reducible exact ih2 _ _ _ _ _ _ _)
  | (with_reducible exact ih3 _ _ _ _ _ _ _ _ _)
  | (with_reducible exact ih4 _ _ _)
  | (with_reducible exact ih5 _ _ _ _)
  | (with_reducible exact pick_Next.mono _ _ _ _ _)
  | (with_reducible exact warplaw2_awake.mono _)
  | (with_reducible exact LeO.refl _)
  | (with_reducible exact LeO.none _)
  | (with_reducible refine LeO.ite ?_ ?_)
  | (with_reducible refine LeO.bind ?_ (fun _ => ?_))
  | exact ih0 _ _ _ _
  | exact ih1 _ _ _ _
  | exact ih2 _ _ _ _ _ _ _
  | exact ih3 _ _ _ _ _ _ _ _ _
  | exact ih4 _ _ _
  | exact ih5 _ _ _ _
  | exact pick_Next.mono _ _ _ _ _
  | exact warplaw2_awake.mono _
  | exact LeO.none _
  | refine LeO.ite ?_ ?_
  | refine LeO.bind ?_ (fun _ => ?_)
def warplaw2_PickTurns.T8 : Bool × List (List Nat × List Nat) := (true, [([], []), ([], []), ([1], [1]), ([2], [2]), ([3, 3], [3]), ([0, 4, 0], [0, 4]), ([5], [5]), ([6], [6]), ([6], [6]), ([], []), ([7, 5, 0, 1, 2, 3, 4, 5, 6, 7, 9], [7]), ([9, 8, 10, 0, 1, 2, 3, 4, 5, 6, 7, 8, 9, 10], [8, 9])])
def warplaw2_PickTurns.B8 : List Nat := [0, 0, 2, 6, 14, 31, 63, 127, 127, 0, 767, 2047]
theorem warplaw2_PickTurns.tab8 : rtab .any (opsOf Tryd.f5 8) = warplaw2_PickTurns.T8 := by kernel_rfl
theorem warplaw2_PickTurns.bits8 : waitsOk warplaw2_PickTurns.T8.2 warplaw2_PickTurns.B8 = true := by kernel_rfl
set_option maxHeartbeats 8000000 in
set_option maxRecDepth 100000 in
theorem warplaw2_PickTurns.calls (k : Nat) (A0 : Option Addr) (c0 : Nat) (l0 : List Bool) (a1 : Int) (r : Bool) (w : World) (hr0 : Kd.C Kd.bool w A0 l0.length l0) (hc0 : l0.length ≤ c0) (h : warplaw2_PickTurns.f k l0 a1 = some r) (hT_ : Tab w := by first | exact hT_ | exact Tab.drewN hT_ _ | (refine Tab.below hT_ ?_; repeat (first | (with_reducible first | exact HB.out | apply below_alloc | apply pw_below_drewN | apply below_drew1) | exact HB.out))) :
 Calls Tryd.prog 5 #[.slice A0 l0.length c0, .int .u8 a1] w fun e w' => e = .returned (.bool r) ∧ Below w.heap.size w w' := by
 have hu24 := Tryd.underlying24
 have HR0 := Aside0.mk hr0
 have HC0 := Aside0.mk hc0
 clear hr0 hc0
 have HB := Aside0.mk (Below.refl w.heap.size w)
 have H : (warplaw2_PickTurns.l0 k l0 a1 0 0) = some r := h
 clear h
 have H' := Aside0.mk H
 clear H
 go_enter Tryd.func5, Tryd.ntmps5
 go_wp2
 go_loopg [5, 6] k (fun kq v5 v6 w' => ∃ (x5_1 : Int) (x6_1 : Int), v5 = .int .i64 x5_1 ∧ v6 = .int .i64 x6_1 ∧ Aside0 (warplaw2_PickTurns.l0 kq l0 a1 x5_1 x6_1 = some r) ∧ Aside0 (kq ≤ k) ∧ Aside0 (Below w.heap.size w w'))
 case atStart => exact ⟨(0), (0), (by first | rfl | (simp; done) | (simp [*]; done)), (by first | rfl | (simp; done) | (simp [*]; done)), H', ⟨Nat.le_refl _⟩, ⟨by repeat (first | (with_reducible first | exact HB.out | apply below_alloc | apply pw_below_drewN | apply below_drew1) | exact HB.out)⟩⟩
 case round =>
  clear H'
  try clear p2
  obtain ⟨x5_1, x6_1, rfl, rfl, HA, HK1, HB⟩ := hrel
  cases gk with
  | zero => exact absurd HA.out (by simp [warplaw2_PickTurns.l0])
  | succ k1 =>
   have H := HA.out
   clear HA
   simp only [warplaw2_PickTurns.l0] at H
   by_cases c3 : x6_1 < (l0.length : Int)
   ·
    rw [if_pos c3] at H
    have c3b0 : decide (x6_1 < (l0.length : Int)) = true := decide_eq_true c3
    clear c3
    by_cases c4 : 0 ≤ x6_1
    ·
     rw [if_pos c4] at H
     have c4b0 : decide (0 ≤ x6_1) = true := decide_eq_true c4
     clear c4
     obtain ⟨bq5, hbq5⟩ : ∃ b_ : Bool, b_ = (rdOf false l0 x6_1) := ⟨_, rfl⟩
     replace H : (if bq5 = true then (warplaw2_PickTurns.l0 k1 l0 a1 (wrap64 (x5_1 + 1)) (wrap64 (x6_1 + 1))) else (warplaw2_PickTurns.l0 k1 l0 a1 x5_1 (wrap64 (x6_1 + 1)))) = some r := by rw [← hbq5] at H; exact H
     have Nbq5 := Aside0.mk hbq5
     clear hbq5
     by_cases c6 : bq5 = true
     ·
      subst c6
      have H1 : (warplaw2_PickTurns.l0 k1 l0 a1 (wrap64 (x5_1 + 1)) (wrap64 (x6_1 + 1))) = some r := by rw [if_pos rfl] at H; exact H
      clear H
      have H := H1
      clear H1
      have H' := Aside0.mk H
      clear H
      have p240 : 0 ≤ (x6_1 : Int) := of_decide_eq_true (by first | (with_reducible assumption) | assumption)
      have q240 : x6_1 < (l0.length : Int) := of_decide_eq_true (by first | (with_reducible assumption) | assumption)
      obtain ⟨ad240, e240, hx240_0⟩ := Kd.at_bool HR0.out x6_1 p240 q240
      (try rw [← Nbq5.out] at hx240_0)
      cases e240
      replace hx240_0 := (HB.out.cell (World.block_lt_of_cell? w _ hx240_0)).trans hx240_0
      replace p240 := eq_true p240
      replace q240 := eq_true q240
      go_wp2
      go_roundg k1
      case measure => have := HK1.out; omega
      case rel => exact ⟨(wrap64 (x5_1 + 1)), (wrap64 (x6_1 + 1)), (by first | rfl | (simp; done) | (simp [*]; done)), (by first | rfl | (simp; done) | (simp [*]; done)), H', ⟨by have := HK1.out; omega⟩, ⟨by repeat (first | (with_reducible first | exact HB.out | apply below_alloc | apply pw_below_drewN | apply below_drew1) | exact HB.out)⟩⟩
     ·
      replace c6 := Bool.eq_false_iff.mpr c6
      subst c6
      have H1 : (warplaw2_PickTurns.l0 k1 l0 a1 x5_1 (wrap64 (x6_1 + 1))) = some r := by rw [if_neg (show ¬ (false = true) by decide)] at H; exact H
      clear H
      have H := H1
      clear H1
      have H' := Aside0.mk H
      clear H
      have p240 : 0 ≤ (x6_1 : Int) := of_decide_eq_true (by first | (with_reducible assumption) | assumption)
      have q240 : x6_1 < (l0.length : Int) := of_decide_eq_true (by first | (with_reducible assumption) | assumption)
      obtain ⟨ad240, e240, hx240_0⟩ := Kd.at_bool HR0.out x6_1 p240 q240
      (try rw [← Nbq5.out] at hx240_0)
      cases e240
      replace hx240_0 := (HB.out.cell (World.block_lt_of_cell? w _ hx240_0)).trans hx240_0
      replace p240 := eq_true p240
      replace q240 := eq_true q240
      go_wp2
      go_roundg k1
      case measure => have := HK1.out; omega
      case rel => exact ⟨(x5_1), (wrap64 (x6_1 + 1)), (by first | rfl | (simp; done) | (simp [*]; done)), (by first | rfl | (simp; done) | (simp [*]; done)), H', ⟨by have := HK1.out; omega⟩, ⟨by repeat (first | (with_reducible first | exact HB.out | apply below_alloc | apply pw_below_drewN | apply below_drew1) | exact HB.out)⟩⟩
    ·
     rw [if_neg c4] at H
     exact absurd H (by simp)
   ·
    rw [if_neg c3] at H
    have c3b0 : decide (x6_1 < (l0.length : Int)) = false := decide_eq_false c3
    clear c3
    have HC7 := Aside0.mk H
    clear H
    go_upto_region 7 with (fail)
    go_cut [33] (fun v33 wc => ∃ (kq : Nat) (x33_6 : Bool), v33 = .bool x33_6 ∧ Aside0 (warplaw2_PickTurns.j1 kq l0 a1 x5_1 x33_6 = some r) ∧ Aside0 (kq ≤ k1) ∧ Aside0 (Below w.heap.size w wc))
    case first =>
     have H := HC7.out
     clear HC7
     by_cases c8 : (l0.length : Int) > 70
     ·
      rw [if_pos c8] at H
      have c8b0 : decide (70 < (l0.length : Int)) = true := decide_eq_true c8
      have c8b1 : decide (70 < l0.length) = true := decide_eq_true (by omega)
      clear c8
      (first | rw [c8b0] | (simp only [i64_w, i32_w]; rw [c8b0]) | skip)
      have H' := Aside0.mk H
      clear H
      go_wp2
      go_meet
      case rel => exact ⟨_, (true), (by first | rfl | (simp; done) | (simp [*]; done)), H', ⟨by have := HK1.out; first | omega | exact Nat.le_refl _⟩, ⟨by repeat (first | (with_reducible first | exact HB.out | apply below_alloc | apply pw_below_drewN | apply below_drew1) | exact HB.out)⟩⟩
     ·
      rw [if_neg c8] at H
      have c8b0 : decide (70 < (l0.length : Int)) = false := decide_eq_false c8
      have c8b1 : decide (70 < l0.length) = false := decide_eq_false (by omega)
      clear c8
      (first | rw [c8b0] | (simp only [i64_w, i32_w]; rw [c8b0]) | skip)
      have H' := Aside0.mk H
      clear H
      go_wp2
      go_meet
      case rel => exact ⟨_, ((x5_1 == 0)), (by first | rfl | (simp; done) | (simp [*]; done)), H', ⟨by have := HK1.out; first | omega | exact Nat.le_refl _⟩, ⟨by repeat (first | (with_reducible first | exact HB.out | apply below_alloc | apply pw_below_drewN | apply below_drew1) | exact HB.out)⟩⟩
    case rest =>
     clear HC7
     (try clear p2); (try clear q2); (try clear hx2); (try clear c3); (try clear c3b0); (try clear c4); (try clear c4b0); (try clear c5); (try clear q5); (try clear c6); (try clear p6); (try clear c8); (try clear c8b0); (try clear c8b1); (try clear hx240_0); (try clear p2); (try clear p240); (try clear q240)
     obtain ⟨kq, x33_6, rfl, HA, HJ6, HB⟩ := hcut
     cases kq with
     | zero => exact absurd HA.out (by simp [warplaw2_PickTurns.j1])
     | succ kj6 =>
      have H := HA.out
      clear HA
      simp only [warplaw2_PickTurns.j1] at H
      by_cases c9 : x33_6 = true
      ·
       subst c9
       have H1 : ((pick_Start.f ([] : List Int)).bind fun bt241 => (if 0 ≤ (Int.tmod (wrap64 (a1)) 70) then (if (Int.tmod (wrap64 (a1)) 70 : Int).toNat ≤ 281474976710656 then ((pick_Next.f kj6 bt241.1 bt241.2.1 bt241.2.2 (List.replicate (Int.tmod (wrap64 (a1)) 70 : Int).toNat false)).bind fun bt249 => (if bt249.1 = (-1) then ((warplaw2_awake.f kj6).bind fun t256 => (some t256)) else (some false))) else (none)) else (none))) = some r := by rw [if_pos rfl] at H; exact H
       clear H
       have H := H1
       clear H1
       replace H := Option.bind_eq_some_iff.mp H
       obtain ⟨⟨t241, t244, t245⟩, A100, H⟩ := H
       replace H : (if 0 ≤ (Int.tmod (wrap64 (a1)) 70) then (if (Int.tmod (wrap64 (a1)) 70 : Int).toNat ≤ 281474976710656 then ((pick_Next.f kj6 t241 t244 t245 (List.replicate (Int.tmod (wrap64 (a1)) 70 : Int).toNat false)).bind fun bt249 => (if bt249.1 = (-1) then ((warplaw2_awake.f kj6).bind fun t256 => (some t256)) else (some false))) else (none)) else (none)) = some r := H
       have A10 := Aside0.mk A100
       clear A100
       obtain ⟨ji11, hji11⟩ : ∃ j_ : Int, (Int.tmod (wrap64 (a1)) 70) = j_ := ⟨_, rfl⟩
       replace H : (if 0 ≤ (ji11) then (if (ji11 : Int).toNat ≤ 281474976710656 then ((pick_Next.f kj6 t241 t244 t245 (List.replicate (ji11 : Int).toNat false)).bind fun bt249 => (if bt249.1 = (-1) then ((warplaw2_awake.f kj6).bind fun t256 => (some t256)) else (some false))) else (none)) else (none)) = some r := by first | (rw [hji11] at H; exact H) | (simp only [hji11] at H ⊢; exact H)
       (try rw [hji11] at A10)
       by_cases c12 : 0 ≤ (ji11)
       ·
        rw [if_pos c12] at H
        have c12b0 := eq_true c12
        have c12b1 : decide (0 ≤ (ji11)) = true := decide_eq_true c12
        clear c12
        by_cases c13 : (ji11 : Int).toNat ≤ 281474976710656
        ·
         rw [if_pos c13] at H
         have c13b0 := eq_true c13
         have c13b1 : decide ((ji11 : Int).toNat ≤ 281474976710656) = true := decide_eq_true c13
         clear c13
         obtain ⟨y246, hy246⟩ : ∃ y_ : List Bool, y_ = (List.replicate (ji11 : Int).toNat false) := ⟨_, rfl⟩
         replace H : ((pick_Next.f kj6 t241 t244 t245 y246).bind fun bt249 => (if bt249.1 = (-1) then ((warplaw2_awake.f kj6).bind fun t256 => (some t256)) else (some false))) = some r := by first | (rw [hy246]; with_reducible exact H) | (have H2_ := (Option.bind_some _ _).symm.trans H; rw [hy246]; with_reducible exact H2_) | (have H2_ := (Option.bind_some _ _).symm.trans H; with_reducible exact H2_) | with_reducible exact H | (rw [hy246]; exact H) | exact H
         have Ny246 := Aside0.mk hy246
         clear hy246
         replace H := Option.bind_eq_some_iff.mp H
         obtain ⟨⟨t249, t250, t253, t254⟩, A140, H⟩ := H
         replace H : (if t249 = (-1) then ((warplaw2_awake.f kj6).bind fun t256 => (some t256)) else (some false)) = some r := H
         have A14 := Aside0.mk A140
         clear A140
         by_cases c15 : t249 = (-1)
         ·
          rw [if_pos c15] at H
          have c15b0 : (t249 == (-1)) = true := beq_iff_eq.mpr c15
          have c15b1 : (t249 != (-1)) = false := bne_eq_false_iff_eq.mpr c15
          clear c15
          replace H := Option.bind_eq_some_iff.mp H
          obtain ⟨t256, A160, H⟩ := H
          replace H : (some t256) = some r := H
          have A16 := Aside0.mk A160
          clear A160
          obtain rfl := Option.some.inj H
          try go_wp2
          have n0_ := Aside0.mk (below_drew1 HB.out)
          clear HB
          have HB := n0_
          clear n0_
          refine start_ (n := 12) (S := fun w' => True) (ds := []) #[false, false, false, false, false, false, false, false, false, false, false, false] (by kernel_rfl) rfl rfl trivial (fun hHeld => ?_); refine with_tabW warplaw2_PickTurns.tab8 warplaw2_PickTurns.bits8 (fun HT_ HW_ => ?_)
          generalize wc.drew = w17 at HB hHeld ⊢
          refine pure_ (i := 1) (N := some 36) (v := ?_) (a' := ?_) #[false, true, false, false, false, false, false, false, false, false, false, false] rfl rfl (any_of HT_.out (by kernel_rfl)) (fun _ _ _ h => h) (Or.inl ⟨by rfl, ?_⟩) ?_ ?_
          rotate_left
          ·
           intro w'
           go_simp
           with_reducible rfl
          rotate_left
          ·
           simp only [Act.put, List.setIfInBounds_toArray, List.set_cons_zero, List.set_cons_succ, i64_w, i32_w]
           rfl
          refine pure_ (i := 2) (N := some 37) (v := ?_) (a' := ?_) #[false, true, true, false, false, false, false, false, false, false, false, false] rfl rfl (any_of HT_.out (by kernel_rfl)) (fun _ _ _ h => h) (Or.inl ⟨by rfl, ?_⟩) ?_ ?_
          rotate_left
          ·
           intro w'
           go_simp
           with_reducible rfl
          rotate_left
          ·
           simp only [Act.put, List.setIfInBounds_toArray, List.set_cons_zero, List.set_cons_succ, i64_w, i32_w]
           rfl
          refine pure_ (i := 3) (N := some 38) (v := ?_) (a' := ?_) #[false, true, true, true, false, false, false, false, false, false, false, false] rfl rfl (any_of HT_.out (by kernel_rfl)) (fun _ _ _ h => h) (Or.inl ⟨by rfl, ?_⟩) ?_ ?_
          rotate_left
          ·
           intro w'
           go_simp
           with_reducible rfl
          rotate_left
          ·
           simp only [Act.put, List.setIfInBounds_toArray, List.set_cons_zero, List.set_cons_succ, i64_w, i32_w]
           rfl
          refine join_ (σ := Value × Value × Value × Nat) 2 #[true, true, true, true, true, true, true, true, true, true, false, false] (fun s_ => [(35, .agg #[s_.1, .int .i64 t244, .int .i64 t245]), (39, s_.2.1), (40, .tuple #[.int .i64 t249, .agg #[s_.2.2.1, .int .i64 t253, .int .i64 t254]]), (8, .pointer (some ⟨s_.2.2.2, 0, none⟩)), (34, .tuple #[.int .i64 t249, .agg #[s_.2.2.1, .int .i64 t253, .int .i64 t254]]), (41, .int .i64 t249), (42, .agg #[s_.2.2.1, .int .i64 t253, .int .i64 t254])]) (fun s_ w' => (Kd.R (Kd.int .i64) 3 w' w.heap.size (fun _ => True) s_.1 t241) ∧ (Kd.R Kd.bool 4 w' w.heap.size (fun _ => True) s_.2.1 y246) ∧ (Kd.V (Kd.int .i64) 3 w' w.heap.size (fun k_ => some k_ ≠ (s_.2.1 : Value).ownBlock ∧ k_ ≠ s_.2.2.2) s_.2.2.1 t250) ∧ (w'.heap[s_.2.2.2]? = some (.cells #[.slice none 0 0, .int .i64 0, .int .i64 0] 24 (0, 0))) ∧ (w.heap.size ≤ s_.2.2.2) ∧ (w.heap.size ≤ s_.2.2.2) ∧ (Below w.heap.size w w')) ?_ ?_
          rotate_left
          ·
           intro hJ0_4_5_9
           refine join_ (σ := Value × Value × Value) 3 #[true, true, true, true, true, true, true, true, true, false, false, false] (fun s_ => [(35, .agg #[s_.1, .int .i64 t244, .int .i64 t245]), (39, s_.2.1), (40, .tuple #[.int .i64 t249, .agg #[s_.2.2, .int .i64 t253, .int .i64 t254]]), (34, .tuple #[.int .i64 t249, .agg #[s_.2.2, .int .i64 t253, .int .i64 t254]]), (41, .int .i64 t249), (42, .agg #[s_.2.2, .int .i64 t253, .int .i64 t254])]) (fun s_ w' => (Kd.R (Kd.int .i64) 3 w' w.heap.size (fun _ => True) s_.1 t241) ∧ (Kd.R Kd.bool 4 w' w.heap.size (fun _ => True) s_.2.1 y246) ∧ (Kd.V (Kd.int .i64) 3 w' w.heap.size (fun k_ => some k_ ≠ (s_.2.1 : Value).ownBlock) s_.2.2 t250) ∧ (Below w.heap.size w w')) ?_ ?_
           rotate_left
           ·
            intro hJ0_4_5
            refine join_ (σ := Value × Value × Nat) 6 #[true, true, true, true, true, false, false, false, false, true, false, false] (fun s_ => [(35, .agg #[s_.1, .int .i64 t244, .int .i64 t245]), (39, s_.2.1), (8, .pointer (some ⟨s_.2.2, 0, none⟩))]) (fun s_ w' => (Kd.R (Kd.int .i64) 3 w' w.heap.size (fun _ => True) s_.1 t241) ∧ (Kd.R Kd.bool 4 w' w.heap.size (fun _ => True) s_.2.1 y246) ∧ (w'.heap[s_.2.2]? = some (.cells #[.slice none 0 0, .int .i64 0, .int .i64 0] 24 (0, 0))) ∧ (w.heap.size ≤ s_.2.2) ∧ (w.heap.size ≤ s_.2.2) ∧ (Below w.heap.size w w')) ?_ ?_
            rotate_left
            ·
             intro hJ0_4_9
             refine join_ (σ := Value × Value) 7 #[true, true, true, true, true, false, false, false, false, false, false, false] (fun s_ => [(35, .agg #[s_.1, .int .i64 t244, .int .i64 t245]), (39, s_.2)]) (fun s_ w' => (Kd.R (Kd.int .i64) 3 w' w.heap.size (fun _ => True) s_.1 t241) ∧ (Kd.R Kd.bool 4 w' w.heap.size (fun _ => True) s_.2 y246) ∧ (Below w.heap.size w w')) ?_ ?_
             rotate_left
             ·
              intro hJ0_4
              refine join_ (σ := Value × Nat) 7 #[true, true, true, true, false, false, false, false, false, true, false, false] (fun s_ => [(35, .agg #[s_.1, .int .i64 t244, .int .i64 t245]), (8, .pointer (some ⟨s_.2, 0, none⟩))]) (fun s_ w' => (Kd.R (Kd.int .i64) 3 w' w.heap.size (fun _ => True) s_.1 t241) ∧ (w'.heap[s_.2]? = some (.cells #[.slice none 0 0, .int .i64 0, .int .i64 0] 24 (0, 0))) ∧ (w.heap.size ≤ s_.2) ∧ (w.heap.size ≤ s_.2) ∧ (Below w.heap.size w w')) ?_ ?_
              rotate_left
              ·
               intro hJ0_9
               refine join_ (σ := Value × Nat) 7 #[false, true, true, true, true, false, false, false, false, true, false, false] (fun s_ => [(39, s_.1), (8, .pointer (some ⟨s_.2, 0, none⟩))]) (fun s_ w' => (Kd.R Kd.bool 4 w' w.heap.size (fun _ => True) s_.1 y246) ∧ (w'.heap[s_.2]? = some (.cells #[.slice none 0 0, .int .i64 0, .int .i64 0] 24 (0, 0))) ∧ (w.heap.size ≤ s_.2) ∧ (w.heap.size ≤ s_.2) ∧ (Below w.heap.size w w')) ?_ ?_
               rotate_left
               ·
                intro hJ4_9
                refine join_ (σ := Value) 8 #[true, true, true, true, false, false, false, false, false, false, false, false] (fun s_ => [(35, .agg #[s_, .int .i64 t244, .int .i64 t245])]) (fun s_ w' => (Kd.R (Kd.int .i64) 3 w' w.heap.size (fun _ => True) s_ t241) ∧ (Below w.heap.size w w')) ?_ ?_
                rotate_left
                ·
                 intro hJ0
                 refine join_ (σ := Value) 8 #[false, true, true, true, true, false, false, false, false, false, false, false] (fun s_ => [(39, s_)]) (fun s_ w' => (Kd.R Kd.bool 4 w' w.heap.size (fun _ => True) s_ y246) ∧ (Below w.heap.size w w')) ?_ ?_
                 rotate_left
                 ·
                  intro hJ4
                  refine join_ (σ := Nat) 8 #[false, true, true, true, false, false, false, false, false, true, false, false] (fun s_ => [(8, .pointer (some ⟨s_, 0, none⟩))]) (fun s_ w' => (w'.heap[s_]? = some (.cells #[.slice none 0 0, .int .i64 0, .int .i64 0] 24 (0, 0))) ∧ (w.heap.size ≤ s_) ∧ (w.heap.size ≤ s_) ∧ (Below w.heap.size w w')) ?_ ?_
                  rotate_left
                  ·
                   intro hJ9
                   refine three_ (i := 0) (j := 4) (k := 9) (Ni := some 35) (Nj := some 39) (Nk := some 8) #[true, true, true, true, false, false, false, false, false, false, false, false] #[false, true, true, true, true, false, false, false, false, false, false, false] #[false, true, true, true, false, false, false, false, false, true, false, false] rfl rfl rfl rfl rfl rfl (three_of HT_.out (by kernel_rfl)) (by decide) (by decide) (by decide) (fun K hK => ?_) (fun K hK => ?_) (fun K hK => ?_)
                   ·
                    skip
                    refine goes_ Tryd.func15 (by kernel_rfl) rfl #[.slice none 0 0] (by rfl) rfl rfl (by (try simp only [List.map_toArray, List.map_cons, List.map_nil]); first | done | rfl | (simp only [List.length_drop, List.length_take]; rfl)) ?_
                    refine (pick_Start.calls _ _ ([] : List Int) t241 t244 t245 _ ?side1 ?side2 A10.out).mono ?_
                    (case side1 => exact Kd.C_nil _ _)
                    (case side2 => exact Nat.le_refl _)
                    rintro e w18 ⟨v242, rfl, ho0, hb⟩
                    refine ⟨_, rfl, ?_⟩
                    have n0_ := Aside0.mk (Kd.R_lower ho0 (below_size (by repeat (first | (with_reducible first | exact HB.out | apply below_alloc | apply pw_below_drewN | apply below_drew1) | exact HB.out))))
                    have n1_ := Aside0.mk (below_step (by repeat (first | (with_reducible first | exact HB.out | apply below_alloc | apply pw_below_drewN | apply below_drew1) | exact HB.out)) hb)
                    clear HB
                    have HO243 := n0_
                    have HB := n1_
                    clear n0_ n1_
                    (try clear hb)
                    (try clear hb2)
                    (try clear hk)
                    (try clear hi)
                    (try clear ho0)
                    refine hK.out _ _ trivial (fun hHeld => ?_)
                    clear hK K
                    refine norm_ (a' := ?_) ?_ ?_
                    rotate_left
                    ·
                     show Act.put _ (some 35) _ = _
                     simp only [Act.put, List.setIfInBounds_toArray, List.set_cons_zero, List.set_cons_succ, i64_w, i32_w]
                     rfl
                    exact norm_ (by first | (simp only [putAll, Act.put, List.setIfInBounds_toArray, List.set_cons_zero, List.set_cons_succ]; done) | (simp only [putAll, Act.put, List.setIfInBounds_toArray, List.set_cons_zero, List.set_cons_succ]; rfl)) (hJ0 (v242) _ ⟨(by (with_reducible repeat (first | apply Kd.R_alloc | apply Kd.R_drewN | apply Kd.R_drew)); exact HO243.out), (by repeat (first | (with_reducible first | exact HB.out | apply below_alloc | apply pw_below_drewN | apply below_drew1) | exact HB.out))⟩)
                   ·
                    skip
                    refine Kd.R_make_step Kd.bool _ 4 (by rfl) (N := 39) rfl 25 _ _ rfl ji11 rfl rfl Tryd.underlying25 (.bool false) 1 info4 rfl (by decide) (by omega) false (ok := fun _ => True) (okp := fun _ => True) rfl (fun _ hk => hk) trivial (of_decide_eq_true (by first | (with_reducible assumption) | assumption)) (Nat.le_trans (Nat.mul_le_mul_right _ (of_decide_eq_true (by first | (with_reducible assumption) | assumption) : ji11.toNat ≤ 281474976710656)) (by omega)) (Below.refl _ _) (Nat.le_refl _) ?_
                    intro v247 w18 ho19 hb hg_ hnew_
                    clear hg_ hnew_
                    (first | rw [← Ny246.out] at ho19 | (simp only [Int.reduceToNat] at ho19; rw [← Ny246.out] at ho19))
                    have n0_ := Aside0.mk (Kd.R_lower ho19 (below_size (by repeat (first | (with_reducible first | exact HB.out | apply below_alloc | apply pw_below_drewN | apply below_drew1) | exact HB.out))))
                    have n1_ := Aside0.mk (below_step (by repeat (first | (with_reducible first | exact HB.out | apply below_alloc | apply pw_below_drewN | apply below_drew1) | exact HB.out)) hb)
                    clear HB
                    have HO248 := n0_
                    have HB := n1_
                    clear n0_ n1_
                    clear hb ho19
                    refine hK.out _ _ trivial (fun hHeld => ?_)
                    clear hK K
                    refine norm_ (a' := ?_) ?_ ?_
                    rotate_left
                    ·
                     show Act.put _ (some 39) _ = _
                     simp only [Act.put, List.setIfInBounds_toArray, List.set_cons_zero, List.set_cons_succ, i64_w, i32_w]
                     rfl
                    exact norm_ (by first | (simp only [putAll, Act.put, List.setIfInBounds_toArray, List.set_cons_zero, List.set_cons_succ]; done) | (simp only [putAll, Act.put, List.setIfInBounds_toArray, List.set_cons_zero, List.set_cons_succ]; rfl)) (hJ4 (v247) _ ⟨(by (with_reducible repeat (first | apply Kd.R_alloc | apply Kd.R_drewN | apply Kd.R_drew)); exact HO248.out), (by repeat (first | (with_reducible first | exact HB.out | apply below_alloc | apply pw_below_drewN | apply below_drew1) | exact HB.out))⟩)
                   ·
                    skip
                    refine box_step ?hg (N := 8) ?hd (cs := #[.slice none 0 0, .int .i64 0, .int .i64 0]) (t := 24) ?hr ?_; (case hd => rfl); (case hg => rfl); (case hr => first | (go_simp; done) | (go_simp; rfl))
                    intro gb255 hg w18 hbox hb
                    have n0_ := Aside0.mk (below_step (by repeat (first | (with_reducible first | exact HB.out | apply below_alloc | apply pw_below_drewN | apply below_drew1) | exact HB.out)) hb)
                    have n1_ := Aside0.mk (hbox)
                    have n2_ := Aside0.mk ((by rw [hg]; exact (below_size (by repeat (first | (with_reducible first | exact HB.out | apply below_alloc | apply pw_below_drewN | apply below_drew1) | exact HB.out))) : w.heap.size ≤ gb255))
                    have n3_ := Aside0.mk ((by rw [hg]; exact (below_size (by repeat (first | (with_reducible first | exact HB.out | apply below_alloc | apply pw_below_drewN | apply below_drew1) | exact HB.out))) : w.heap.size ≤ gb255))
                    clear HB
                    have HB := n0_
                    have BK255 := n1_
                    have GW255 := n2_
                    have GE255 := n3_
                    clear n0_ n1_ n2_ n3_
                    clear hb hbox hg
                    refine hK.out _ _ trivial (fun hHeld => ?_)
                    clear hK K
                    refine norm_ (a' := ?_) ?_ ?_
                    rotate_left
                    ·
                     show Act.put _ (some 8) _ = _
                     simp only [Act.put, List.setIfInBounds_toArray, List.set_cons_zero, List.set_cons_succ, i64_w, i32_w]
                     rfl
                    exact norm_ (by first | (simp only [putAll, Act.put, List.setIfInBounds_toArray, List.set_cons_zero, List.set_cons_succ]; done) | (simp only [putAll, Act.put, List.setIfInBounds_toArray, List.set_cons_zero, List.set_cons_succ]; rfl)) (hJ9 (gb255) _ ⟨(by (with_reducible repeat (first | refine blk_drewN ?_ _ | refine blk_drew ?_ | refine blk_alloc ?_ _)); exact BK255.out), GW255.out, GE255.out, (by repeat (first | (with_reducible first | exact HB.out | apply below_alloc | apply pw_below_drewN | apply below_drew1 | refine below_set ?_ GE255.out) | exact HB.out))⟩)
                  ·
                   skip
                   rintro gb255 w19 ⟨h0_, h1_, h2_, h3_⟩
                   have n0_ : Aside0 (w19.heap[gb255]? = some (.cells #[.slice none 0 0, .int .i64 0, .int .i64 0] 24 (0, 0))) := ⟨h0_⟩
                   have n1_ : Aside0 (w.heap.size ≤ gb255) := ⟨h1_⟩
                   have n2_ : Aside0 (w.heap.size ≤ gb255) := ⟨h2_⟩
                   have n3_ : Aside0 (Below w.heap.size w w19) := ⟨h3_⟩
                   clear HB
                   clear h0_ h1_ h2_ h3_
                   have BK255 := n0_
                   have GW255 := n1_
                   have GE255 := n2_
                   have HB := n3_
                   clear n0_ n1_ n2_ n3_
                   have hHeld := trivial
                   refine norm_ (a' := ?_) ?_ ?_
                   rotate_left
                   ·
                    simp only [putAll, Act.put, List.setIfInBounds_toArray, List.set_cons_zero, List.set_cons_succ]
                    rfl
                   refine two_ (i := 0) (j := 4) (Ni := some 35) (Nj := some 39) #[true, true, true, true, false, false, false, false, false, true, false, false] #[false, true, true, true, true, false, false, false, false, true, false, false] rfl rfl rfl rfl (two_of HT_.out (by kernel_rfl)) (by decide) (by decide) (fun K hK => ?_) (fun K hK => ?_)
                   ·
                    skip
                    refine goes_ Tryd.func15 (by kernel_rfl) rfl #[.slice none 0 0] (by rfl) rfl rfl (by (try simp only [List.map_toArray, List.map_cons, List.map_nil]); first | done | rfl | (simp only [List.length_drop, List.length_take]; rfl)) ?_
                    refine (pick_Start.calls _ _ ([] : List Int) t241 t244 t245 _ ?side1 ?side2 A10.out).mono ?_
                    (case side1 => exact Kd.C_nil _ _)
                    (case side2 => exact Nat.le_refl _)
                    rintro e w20 ⟨v242, rfl, ho0, hb⟩
                    refine ⟨_, rfl, ?_⟩
                    have n0_ := Aside0.mk (Kd.R_lower ho0 (below_size (by repeat (first | (with_reducible first | exact HB.out | apply below_alloc | apply pw_below_drewN | apply below_drew1 | refine below_set ?_ GE255.out) | exact HB.out))))
                    have n1_ := Aside0.mk (blk_below (g := gb255) (o := .cells #[.slice none 0 0, .int .i64 0, .int .i64 0] 24 (0, 0)) (by (with_reducible repeat (first | refine blk_drewN ?_ _ | refine blk_drew ?_ | refine blk_alloc ?_ _)); exact BK255.out) hb)
                    have n2_ := Aside0.mk (below_step (by repeat (first | (with_reducible first | exact HB.out | apply below_alloc | apply pw_below_drewN | apply below_drew1 | refine below_set ?_ GE255.out) | exact HB.out)) hb)
                    clear BK255
                    clear HB
                    have HO243 := n0_
                    have BK255 := n1_
                    have HB := n2_
                    clear n0_ n1_ n2_
                    (try clear hb)
                    (try clear hb2)
                    (try clear hk)
                    (try clear hi)
                    (try clear ho0)
                    refine hK.out _ _ trivial (fun hHeld => ?_)
                    clear hK K
                    refine norm_ (a' := ?_) ?_ ?_
                    rotate_left
                    ·
                     show Act.put _ (some 35) _ = _
                     simp only [Act.put, List.setIfInBounds_toArray, List.set_cons_zero, List.set_cons_succ, i64_w, i32_w]
                     rfl
                    exact norm_ (by first | (simp only [putAll, Act.put, List.setIfInBounds_toArray, List.set_cons_zero, List.set_cons_succ]; done) | (simp only [putAll, Act.put, List.setIfInBounds_toArray, List.set_cons_zero, List.set_cons_succ]; rfl)) (hJ0_9 (v242, gb255) _ ⟨(by (with_reducible repeat (first | apply Kd.R_alloc | apply Kd.R_drewN | apply Kd.R_drew)); exact HO243.out), (by (with_reducible repeat (first | refine blk_drewN ?_ _ | refine blk_drew ?_ | refine blk_alloc ?_ _)); exact BK255.out), GW255.out, GE255.out, (by repeat (first | (with_reducible first | exact HB.out | apply below_alloc | apply pw_below_drewN | apply below_drew1 | refine below_set ?_ GE255.out) | exact HB.out))⟩)
                   ·
                    skip
                    refine Kd.R_make_step Kd.bool _ 4 (by rfl) (N := 39) rfl 25 _ _ rfl ji11 rfl rfl Tryd.underlying25 (.bool false) 1 info4 rfl (by decide) (by omega) false (ok := fun _ => True) (okp := fun _ => True) rfl (fun _ hk => hk) trivial (of_decide_eq_true (by first | (with_reducible assumption) | assumption)) (Nat.le_trans (Nat.mul_le_mul_right _ (of_decide_eq_true (by first | (with_reducible assumption) | assumption) : ji11.toNat ≤ 281474976710656)) (by omega)) (Below.refl _ _) (Nat.le_refl _) ?_
                    intro v247 w20 ho21 hb hg_ hnew_
                    clear hg_ hnew_
                    (first | rw [← Ny246.out] at ho21 | (simp only [Int.reduceToNat] at ho21; rw [← Ny246.out] at ho21))
                    have n0_ := Aside0.mk (Kd.R_lower ho21 (below_size (by repeat (first | (with_reducible first | exact HB.out | apply below_alloc | apply pw_below_drewN | apply below_drew1 | refine below_set ?_ GE255.out) | exact HB.out))))
                    have n1_ := Aside0.mk (blk_below (g := gb255) (o := .cells #[.slice none 0 0, .int .i64 0, .int .i64 0] 24 (0, 0)) (by (with_reducible repeat (first | refine blk_drewN ?_ _ | refine blk_drew ?_ | refine blk_alloc ?_ _)); exact BK255.out) hb)
                    have n2_ := Aside0.mk (below_step (by repeat (first | (with_reducible first | exact HB.out | apply below_alloc | apply pw_below_drewN | apply below_drew1 | refine below_set ?_ GE255.out) | exact HB.out)) hb)
                    clear BK255
                    clear HB
                    have HO248 := n0_
                    have BK255 := n1_
                    have HB := n2_
                    clear n0_ n1_ n2_
                    clear hb ho21
                    refine hK.out _ _ trivial (fun hHeld => ?_)
                    clear hK K
                    refine norm_ (a' := ?_) ?_ ?_
                    rotate_left
                    ·
                     show Act.put _ (some 39) _ = _
                     simp only [Act.put, List.setIfInBounds_toArray, List.set_cons_zero, List.set_cons_succ, i64_w, i32_w]
                     rfl
                    exact norm_ (by first | (simp only [putAll, Act.put, List.setIfInBounds_toArray, List.set_cons_zero, List.set_cons_succ]; done) | (simp only [putAll, Act.put, List.setIfInBounds_toArray, List.set_cons_zero, List.set_cons_succ]; rfl)) (hJ4_9 (v247, gb255) _ ⟨(by (with_reducible repeat (first | apply Kd.R_alloc | apply Kd.R_drewN | apply Kd.R_drew)); exact HO248.out), (by (with_reducible repeat (first | refine blk_drewN ?_ _ | refine blk_drew ?_ | refine blk_alloc ?_ _)); exact BK255.out), GW255.out, GE255.out, (by repeat (first | (with_reducible first | exact HB.out | apply below_alloc | apply pw_below_drewN | apply below_drew1 | refine below_set ?_ GE255.out) | exact HB.out))⟩)
                 ·
                  skip
                  rintro v247 w20 ⟨h0_, h1_⟩
                  have n0_ : Aside0 (Kd.R Kd.bool 4 w20 w.heap.size (fun _ => True) v247 y246) := ⟨h0_⟩
                  have n1_ : Aside0 (Below w.heap.size w w20) := ⟨h1_⟩
                  clear HB
                  clear h0_ h1_
                  have HO248 := n0_
                  have HB := n1_
                  clear n0_ n1_
                  have hHeld := trivial
                  refine norm_ (a' := ?_) ?_ ?_
                  rotate_left
                  ·
                   simp only [putAll, Act.put, List.setIfInBounds_toArray, List.set_cons_zero, List.set_cons_succ]
                   rfl
                  refine two_ (i := 0) (j := 9) (Ni := some 35) (Nj := some 8) #[true, true, true, true, true, false, false, false, false, false, false, false] #[false, true, true, true, true, false, false, false, false, true, false, false] rfl rfl rfl rfl (two_of HT_.out (by kernel_rfl)) (by decide) (by decide) (fun K hK => ?_) (fun K hK => ?_)
                  ·
                   skip
                   refine goes_ Tryd.func15 (by kernel_rfl) rfl #[.slice none 0 0] (by rfl) rfl rfl (by (try simp only [List.map_toArray, List.map_cons, List.map_nil]); first | done | rfl | (simp only [List.length_drop, List.length_take]; rfl)) ?_
                   refine (pick_Start.calls _ _ ([] : List Int) t241 t244 t245 _ ?side1 ?side2 A10.out).mono ?_
                   (case side1 => exact Kd.C_nil _ _)
                   (case side2 => exact Nat.le_refl _)
                   rintro e w21 ⟨v242, rfl, ho0, hb⟩
                   refine ⟨_, rfl, ?_⟩
                   have n0_ := Aside0.mk (Kd.R_below (by (with_reducible repeat (first | apply Kd.R_alloc | apply Kd.R_drewN | apply Kd.R_drew)); exact HO248.out) hb)
                   have n1_ := Aside0.mk (Kd.R_lower ho0 (below_size (by repeat (first | (with_reducible first | exact HB.out | apply below_alloc | apply pw_below_drewN | apply below_drew1) | exact HB.out))))
                   have n2_ := Aside0.mk (below_step (by repeat (first | (with_reducible first | exact HB.out | apply below_alloc | apply pw_below_drewN | apply below_drew1) | exact HB.out)) hb)
                   clear HO248
                   clear HB
                   have HO248 := n0_
                   have HO243 := n1_
                   have HB := n2_
                   clear n0_ n1_ n2_
                   (try clear hb)
                   (try clear hb2)
                   (try clear hk)
                   (try clear hi)
                   (try clear ho0)
                   refine hK.out _ _ trivial (fun hHeld => ?_)
                   clear hK K
                   refine norm_ (a' := ?_) ?_ ?_
                   rotate_left
                   ·
                    show Act.put _ (some 35) _ = _
                    simp only [Act.put, List.setIfInBounds_toArray, List.set_cons_zero, List.set_cons_succ, i64_w, i32_w]
                    rfl
                   exact norm_ (by first | (simp only [putAll, Act.put, List.setIfInBounds_toArray, List.set_cons_zero, List.set_cons_succ]; done) | (simp only [putAll, Act.put, List.setIfInBounds_toArray, List.set_cons_zero, List.set_cons_succ]; rfl)) (hJ0_4 (v242, v247) _ ⟨(by (with_reducible repeat (first | apply Kd.R_alloc | apply Kd.R_drewN | apply Kd.R_drew)); exact HO243.out), (by (with_reducible repeat (first | apply Kd.R_alloc | apply Kd.R_drewN | apply Kd.R_drew)); exact HO248.out), (by repeat (first | (with_reducible first | exact HB.out | apply below_alloc | apply pw_below_drewN | apply below_drew1) | exact HB.out))⟩)
                  ·
                   skip
                   refine box_step ?hg (N := 8) ?hd (cs := #[.slice none 0 0, .int .i64 0, .int .i64 0]) (t := 24) ?hr ?_; (case hd => rfl); (case hg => rfl); (case hr => first | (go_simp; done) | (go_simp; rfl))
                   intro gb255 hg w21 hbox hb
                   have n0_ := Aside0.mk (Kd.R_below (by (with_reducible repeat (first | apply Kd.R_alloc | apply Kd.R_drewN | apply Kd.R_drew)); exact HO248.out) hb)
                   have n1_ := Aside0.mk (below_step (by repeat (first | (with_reducible first | exact HB.out | apply below_alloc | apply pw_below_drewN | apply below_drew1) | exact HB.out)) hb)
                   have n2_ := Aside0.mk (hbox)
                   have n3_ := Aside0.mk ((by rw [hg]; exact (below_size (by repeat (first | (with_reducible first | exact HB.out | apply below_alloc | apply pw_below_drewN | apply below_drew1) | exact HB.out))) : w.heap.size ≤ gb255))
                   have n4_ := Aside0.mk ((by rw [hg]; exact (below_size (by repeat (first | (with_reducible first | exact HB.out | apply below_alloc | apply pw_below_drewN | apply below_drew1) | exact HB.out))) : w.heap.size ≤ gb255))
                   clear HO248
                   clear HB
                   have HO248 := n0_
                   have HB := n1_
                   have BK255 := n2_
                   have GW255 := n3_
                   have GE255 := n4_
                   clear n0_ n1_ n2_ n3_ n4_
                   clear hb hbox hg
                   refine hK.out _ _ trivial (fun hHeld => ?_)
                   clear hK K
                   refine norm_ (a' := ?_) ?_ ?_
                   rotate_left
                   ·
                    show Act.put _ (some 8) _ = _
                    simp only [Act.put, List.setIfInBounds_toArray, List.set_cons_zero, List.set_cons_succ, i64_w, i32_w]
                    rfl
                   exact norm_ (by first | (simp only [putAll, Act.put, List.setIfInBounds_toArray, List.set_cons_zero, List.set_cons_succ]; done) | (simp only [putAll, Act.put, List.setIfInBounds_toArray, List.set_cons_zero, List.set_cons_succ]; rfl)) (hJ4_9 (v247, gb255) _ ⟨(by (with_reducible repeat (first | apply Kd.R_alloc | apply Kd.R_drewN | apply Kd.R_drew)); exact HO248.out), (by (with_reducible repeat (first | refine blk_drewN ?_ _ | refine blk_drew ?_ | refine blk_alloc ?_ _)); exact BK255.out), GW255.out, GE255.out, (by repeat (first | (with_reducible first | exact HB.out | apply below_alloc | apply pw_below_drewN | apply below_drew1 | refine below_set ?_ GE255.out) | exact HB.out))⟩)
                ·
                 skip
                 rintro v242 w19 ⟨h0_, h1_⟩
                 have n0_ : Aside0 (Kd.R (Kd.int .i64) 3 w19 w.heap.size (fun _ => True) v242 t241) := ⟨h0_⟩
                 have n1_ : Aside0 (Below w.heap.size w w19) := ⟨h1_⟩
                 clear HB
                 clear h0_ h1_
                 have HO243 := n0_
                 have HB := n1_
                 clear n0_ n1_
                 have hHeld := trivial
                 refine norm_ (a' := ?_) ?_ ?_
                 rotate_left
                 ·
                  simp only [putAll, Act.put, List.setIfInBounds_toArray, List.set_cons_zero, List.set_cons_succ]
                  rfl
                 refine two_ (i := 4) (j := 9) (Ni := some 39) (Nj := some 8) #[true, true, true, true, true, false, false, false, false, false, false, false] #[true, true, true, true, false, false, false, false, false, true, false, false] rfl rfl rfl rfl (two_of HT_.out (by kernel_rfl)) (by decide) (by decide) (fun K hK => ?_) (fun K hK => ?_)
                 ·
                  skip
                  refine Kd.R_make_step Kd.bool _ 4 (by rfl) (N := 39) rfl 25 _ _ rfl ji11 rfl rfl Tryd.underlying25 (.bool false) 1 info4 rfl (by decide) (by omega) false (ok := fun _ => True) (okp := fun _ => True) rfl (fun _ hk => hk) trivial (of_decide_eq_true (by first | (with_reducible assumption) | assumption)) (Nat.le_trans (Nat.mul_le_mul_right _ (of_decide_eq_true (by first | (with_reducible assumption) | assumption) : ji11.toNat ≤ 281474976710656)) (by omega)) (Below.refl _ _) (Nat.le_refl _) ?_
                  intro v247 w20 ho21 hb hg_ hnew_
                  clear hg_ hnew_
                  (first | rw [← Ny246.out] at ho21 | (simp only [Int.reduceToNat] at ho21; rw [← Ny246.out] at ho21))
                  have n0_ := Aside0.mk (Kd.R_below (by (with_reducible repeat (first | apply Kd.R_alloc | apply Kd.R_drewN | apply Kd.R_drew)); exact HO243.out) hb)
                  have n1_ := Aside0.mk (Kd.R_lower ho21 (below_size (by repeat (first | (with_reducible first | exact HB.out | apply below_alloc | apply pw_below_drewN | apply below_drew1) | exact HB.out))))
                  have n2_ := Aside0.mk (below_step (by repeat (first | (with_reducible first | exact HB.out | apply below_alloc | apply pw_below_drewN | apply below_drew1) | exact HB.out)) hb)
                  clear HO243
                  clear HB
                  have HO243 := n0_
                  have HO248 := n1_
                  have HB := n2_
                  clear n0_ n1_ n2_
                  clear hb ho21
                  refine hK.out _ _ trivial (fun hHeld => ?_)
                  clear hK K
                  refine norm_ (a' := ?_) ?_ ?_
                  rotate_left
                  ·
                   show Act.put _ (some 39) _ = _
                   simp only [Act.put, List.setIfInBounds_toArray, List.set_cons_zero, List.set_cons_succ, i64_w, i32_w]
                   rfl
                  exact norm_ (by first | (simp only [putAll, Act.put, List.setIfInBounds_toArray, List.set_cons_zero, List.set_cons_succ]; done) | (simp only [putAll, Act.put, List.setIfInBounds_toArray, List.set_cons_zero, List.set_cons_succ]; rfl)) (hJ0_4 (v242, v247) _ ⟨(by (with_reducible repeat (first | apply Kd.R_alloc | apply Kd.R_drewN | apply Kd.R_drew)); exact HO243.out), (by (with_reducible repeat (first | apply Kd.R_alloc | apply Kd.R_drewN | apply Kd.R_drew)); exact HO248.out), (by repeat (first | (with_reducible first | exact HB.out | apply below_alloc | apply pw_below_drewN | apply below_drew1) | exact HB.out))⟩)
                 ·
                  skip
                  refine box_step ?hg (N := 8) ?hd (cs := #[.slice none 0 0, .int .i64 0, .int .i64 0]) (t := 24) ?hr ?_; (case hd => rfl); (case hg => rfl); (case hr => first | (go_simp; done) | (go_simp; rfl))
                  intro gb255 hg w20 hbox hb
                  have n0_ := Aside0.mk (Kd.R_below (by (with_reducible repeat (first | apply Kd.R_alloc | apply Kd.R_drewN | apply Kd.R_drew)); exact HO243.out) hb)
                  have n1_ := Aside0.mk (below_step (by repeat (first | (with_reducible first | exact HB.out | apply below_alloc | apply pw_below_drewN | apply below_drew1) | exact HB.out)) hb)
                  have n2_ := Aside0.mk (hbox)
                  have n3_ := Aside0.mk ((by rw [hg]; exact (below_size (by repeat (first | (with_reducible first | exact HB.out | apply below_alloc | apply pw_below_drewN | apply below_drew1) | exact HB.out))) : w.heap.size ≤ gb255))
                  have n4_ := Aside0.mk ((by rw [hg]; exact (below_size (by repeat (first | (with_reducible first | exact HB.out | apply below_alloc | apply pw_below_drewN | apply below_drew1) | exact HB.out))) : w.heap.size ≤ gb255))
                  clear HO243
                  clear HB
                  have HO243 := n0_
                  have HB := n1_
                  have BK255 := n2_
                  have GW255 := n3_
                  have GE255 := n4_
                  clear n0_ n1_ n2_ n3_ n4_
                  clear hb hbox hg
                  refine hK.out _ _ trivial (fun hHeld => ?_)
                  clear hK K
                  refine norm_ (a' := ?_) ?_ ?_
                  rotate_left
                  ·
                   show Act.put _ (some 8) _ = _
                   simp only [Act.put, List.setIfInBounds_toArray, List.set_cons_zero, List.set_cons_succ, i64_w, i32_w]
                   rfl
                  exact norm_ (by first | (simp only [putAll, Act.put, List.setIfInBounds_toArray, List.set_cons_zero, List.set_cons_succ]; done) | (simp only [putAll, Act.put, List.setIfInBounds_toArray, List.set_cons_zero, List.set_cons_succ]; rfl)) (hJ0_9 (v242, gb255) _ ⟨(by (with_reducible repeat (first | apply Kd.R_alloc | apply Kd.R_drewN | apply Kd.R_drew)); exact HO243.out), (by (with_reducible repeat (first | refine blk_drewN ?_ _ | refine blk_drew ?_ | refine blk_alloc ?_ _)); exact BK255.out), GW255.out, GE255.out, (by repeat (first | (with_reducible first | exact HB.out | apply below_alloc | apply pw_below_drewN | apply below_drew1 | refine below_set ?_ GE255.out) | exact HB.out))⟩)
               ·
                skip
                rintro ⟨v247, gb255⟩ w21 ⟨h0_, h1_, h2_, h3_, h4_⟩
                have n0_ : Aside0 (Kd.R Kd.bool 4 w21 w.heap.size (fun _ => True) v247 y246) := ⟨h0_⟩
                have n1_ : Aside0 (w21.heap[gb255]? = some (.cells #[.slice none 0 0, .int .i64 0, .int .i64 0] 24 (0, 0))) := ⟨h1_⟩
                have n2_ : Aside0 (w.heap.size ≤ gb255) := ⟨h2_⟩
                have n3_ : Aside0 (w.heap.size ≤ gb255) := ⟨h3_⟩
                have n4_ : Aside0 (Below w.heap.size w w21) := ⟨h4_⟩
                clear HB
                clear h0_ h1_ h2_ h3_ h4_
                have HO248 := n0_
                have BK255 := n1_
                have GW255 := n2_
                have GE255 := n3_
                have HB := n4_
                clear n0_ n1_ n2_ n3_ n4_
                have hHeld := trivial
                refine norm_ (a' := ?_) ?_ ?_
                rotate_left
                ·
                 simp only [putAll, Act.put, List.setIfInBounds_toArray, List.set_cons_zero, List.set_cons_succ]
                 rfl
                refine one_ (i := 0) (N := some 35) #[true, true, true, true, true, false, false, false, false, true, false, false] rfl rfl (one_of HT_.out (by kernel_rfl)) (by decide) (fun K hK => ?_)
                refine goes_ Tryd.func15 (by kernel_rfl) rfl #[.slice none 0 0] (by rfl) rfl rfl (by (try simp only [List.map_toArray, List.map_cons, List.map_nil]); first | done | rfl | (simp only [List.length_drop, List.length_take]; rfl)) ?_
                refine (pick_Start.calls _ _ ([] : List Int) t241 t244 t245 _ ?side1 ?side2 A10.out).mono ?_
                (case side1 => exact Kd.C_nil _ _)
                (case side2 => exact Nat.le_refl _)
                rintro e w22 ⟨v242, rfl, ho0, hb⟩
                refine ⟨_, rfl, ?_⟩
                have n0_ := Aside0.mk (Kd.R_below (by (with_reducible repeat (first | apply Kd.R_alloc | apply Kd.R_drewN | apply Kd.R_drew)); exact HO248.out) hb)
                have n1_ := Aside0.mk (Kd.R_lower ho0 (below_size (by repeat (first | (with_reducible first | exact HB.out | apply below_alloc | apply pw_below_drewN | apply below_drew1 | refine below_set ?_ GE255.out) | exact HB.out))))
                have n2_ := Aside0.mk (blk_below (g := gb255) (o := .cells #[.slice none 0 0, .int .i64 0, .int .i64 0] 24 (0, 0)) (by (with_reducible repeat (first | refine blk_drewN ?_ _ | refine blk_drew ?_ | refine blk_alloc ?_ _)); exact BK255.out) hb)
                have n3_ := Aside0.mk (below_step (by repeat (first | (with_reducible first | exact HB.out | apply below_alloc | apply pw_below_drewN | apply below_drew1 | refine below_set ?_ GE255.out) | exact HB.out)) hb)
                clear HO248
                clear BK255
                clear HB
                have HO248 := n0_
                have HO243 := n1_
                have BK255 := n2_
                have HB := n3_
                clear n0_ n1_ n2_ n3_
                (try clear hb)
                (try clear hb2)
                (try clear hk)
                (try clear hi)
                (try clear ho0)
                refine hK.out _ _ trivial (fun hHeld => ?_)
                clear hK K
                refine norm_ (a' := ?_) ?_ ?_
                rotate_left
                ·
                 show Act.put _ (some 35) _ = _
                 simp only [Act.put, List.setIfInBounds_toArray, List.set_cons_zero, List.set_cons_succ, i64_w, i32_w]
                 rfl
                exact norm_ (by first | (simp only [putAll, Act.put, List.setIfInBounds_toArray, List.set_cons_zero, List.set_cons_succ]; done) | (simp only [putAll, Act.put, List.setIfInBounds_toArray, List.set_cons_zero, List.set_cons_succ]; rfl)) (hJ0_4_9 (v242, v247, gb255) _ ⟨(by (with_reducible repeat (first | apply Kd.R_alloc | apply Kd.R_drewN | apply Kd.R_drew)); exact HO243.out), (by (with_reducible repeat (first | apply Kd.R_alloc | apply Kd.R_drewN | apply Kd.R_drew)); exact HO248.out), (by (with_reducible repeat (first | refine blk_drewN ?_ _ | refine blk_drew ?_ | refine blk_alloc ?_ _)); exact BK255.out), GW255.out, GE255.out, (by repeat (first | (with_reducible first | exact HB.out | apply below_alloc | apply pw_below_drewN | apply below_drew1 | refine below_set ?_ GE255.out) | exact HB.out))⟩)
              ·
               skip
               rintro ⟨v242, gb255⟩ w20 ⟨h0_, h1_, h2_, h3_, h4_⟩
               have n0_ : Aside0 (Kd.R (Kd.int .i64) 3 w20 w.heap.size (fun _ => True) v242 t241) := ⟨h0_⟩
               have n1_ : Aside0 (w20.heap[gb255]? = some (.cells #[.slice none 0 0, .int .i64 0, .int .i64 0] 24 (0, 0))) := ⟨h1_⟩
               have n2_ : Aside0 (w.heap.size ≤ gb255) := ⟨h2_⟩
               have n3_ : Aside0 (w.heap.size ≤ gb255) := ⟨h3_⟩
               have n4_ : Aside0 (Below w.heap.size w w20) := ⟨h4_⟩
               clear HB
               clear h0_ h1_ h2_ h3_ h4_
               have HO243 := n0_
               have BK255 := n1_
               have GW255 := n2_
               have GE255 := n3_
               have HB := n4_
               clear n0_ n1_ n2_ n3_ n4_
               have hHeld := trivial
               refine norm_ (a' := ?_) ?_ ?_
               rotate_left
               ·
                simp only [putAll, Act.put, List.setIfInBounds_toArray, List.set_cons_zero, List.set_cons_succ]
                rfl
               refine one_ (i := 4) (N := some 39) #[true, true, true, true, true, false, false, false, false, true, false, false] rfl rfl (one_of HT_.out (by kernel_rfl)) (by decide) (fun K hK => ?_)
               refine Kd.R_make_step Kd.bool _ 4 (by rfl) (N := 39) rfl 25 _ _ rfl ji11 rfl rfl Tryd.underlying25 (.bool false) 1 info4 rfl (by decide) (by omega) false (ok := fun _ => True) (okp := fun _ => True) rfl (fun _ hk => hk) trivial (of_decide_eq_true (by first | (with_reducible assumption) | assumption)) (Nat.le_trans (Nat.mul_le_mul_right _ (of_decide_eq_true (by first | (with_reducible assumption) | assumption) : ji11.toNat ≤ 281474976710656)) (by omega)) (Below.refl _ _) (Nat.le_refl _) ?_
               intro v247 w21 ho22 hb hg_ hnew_
               clear hg_ hnew_
               (first | rw [← Ny246.out] at ho22 | (simp only [Int.reduceToNat] at ho22; rw [← Ny246.out] at ho22))
               have n0_ := Aside0.mk (Kd.R_below (by (with_reducible repeat (first | apply Kd.R_alloc | apply Kd.R_drewN | apply Kd.R_drew)); exact HO243.out) hb)
               have n1_ := Aside0.mk (Kd.R_lower ho22 (below_size (by repeat (first | (with_reducible first | exact HB.out | apply below_alloc | apply pw_below_drewN | apply below_drew1 | refine below_set ?_ GE255.out) | exact HB.out))))
               have n2_ := Aside0.mk (blk_below (g := gb255) (o := .cells #[.slice none 0 0, .int .i64 0, .int .i64 0] 24 (0, 0)) (by (with_reducible repeat (first | refine blk_drewN ?_ _ | refine blk_drew ?_ | refine blk_alloc ?_ _)); exact BK255.out) hb)
               have n3_ := Aside0.mk (below_step (by repeat (first | (with_reducible first | exact HB.out | apply below_alloc | apply pw_below_drewN | apply below_drew1 | refine below_set ?_ GE255.out) | exact HB.out)) hb)
               clear HO243
               clear BK255
               clear HB
               have HO243 := n0_
               have HO248 := n1_
               have BK255 := n2_
               have HB := n3_
               clear n0_ n1_ n2_ n3_
               clear hb ho22
               refine hK.out _ _ trivial (fun hHeld => ?_)
               clear hK K
               refine norm_ (a' := ?_) ?_ ?_
               rotate_left
               ·
                show Act.put _ (some 39) _ = _
                simp only [Act.put, List.setIfInBounds_toArray, List.set_cons_zero, List.set_cons_succ, i64_w, i32_w]
                rfl
               exact norm_ (by first | (simp only [putAll, Act.put, List.setIfInBounds_toArray, List.set_cons_zero, List.set_cons_succ]; done) | (simp only [putAll, Act.put, List.setIfInBounds_toArray, List.set_cons_zero, List.set_cons_succ]; rfl)) (hJ0_4_9 (v242, v247, gb255) _ ⟨(by (with_reducible repeat (first | apply Kd.R_alloc | apply Kd.R_drewN | apply Kd.R_drew)); exact HO243.out), (by (with_reducible repeat (first | apply Kd.R_alloc | apply Kd.R_drewN | apply Kd.R_drew)); exact HO248.out), (by (with_reducible repeat (first | refine blk_drewN ?_ _ | refine blk_drew ?_ | refine blk_alloc ?_ _)); exact BK255.out), GW255.out, GE255.out, (by repeat (first | (with_reducible first | exact HB.out | apply below_alloc | apply pw_below_drewN | apply below_drew1 | refine below_set ?_ GE255.out) | exact HB.out))⟩)
             ·
              skip
              rintro ⟨v242, v247⟩ w21 ⟨h0_, h1_, h2_⟩
              have n0_ : Aside0 (Kd.R (Kd.int .i64) 3 w21 w.heap.size (fun _ => True) v242 t241) := ⟨h0_⟩
              have n1_ : Aside0 (Kd.R Kd.bool 4 w21 w.heap.size (fun _ => True) v247 y246) := ⟨h1_⟩
              have n2_ : Aside0 (Below w.heap.size w w21) := ⟨h2_⟩
              clear HB
              clear h0_ h1_ h2_
              have HO243 := n0_
              have HO248 := n1_
              have HB := n2_
              clear n0_ n1_ n2_
              have hHeld := trivial
              obtain ⟨Ao22, co22, eo22⟩ := Kd.R_slice HO243.out
              (first | subst eo22 | (injection eo22 with f1_ f2_ f3_; have f4_ := f1_.symm; have f5_ := f3_.symm; clear f1_ f2_ f3_; subst f4_; subst f5_))
              obtain ⟨Ao23, co23, eo23⟩ := Kd.R_slice HO248.out
              (first | subst eo23 | (injection eo23 with f1_ f2_ f3_; have f4_ := f1_.symm; have f5_ := f3_.symm; clear f1_ f2_ f3_; subst f4_; subst f5_))
              refine norm_ (a' := ?_) ?_ ?_
              rotate_left
              ·
               simp only [putAll, Act.put, List.setIfInBounds_toArray, List.set_cons_zero, List.set_cons_succ]
               rfl
              refine two_ (i := 5) (j := 9) (Ni := some 40) (Nj := some 8) #[true, true, true, true, true, true, false, false, false, false, false, false] #[true, true, true, true, true, false, false, false, false, true, false, false] rfl rfl rfl rfl (two_of HT_.out (by kernel_rfl)) (by decide) (by decide) (fun K hK => ?_) (fun K hK => ?_)
              ·
               skip
               refine goes_ Tryd.func13 (by kernel_rfl) rfl #[.agg #[.slice Ao22 t241.length co22, .int .i64 t244, .int .i64 t245], .slice Ao23 y246.length co23] (by rfl) rfl rfl (by (try simp only [List.map_toArray, List.map_cons, List.map_nil]); first | done | rfl | (simp only [List.length_drop, List.length_take]; rfl)) ?_
               with_reducible refine (pick_Next.calls kj6 (fun k_ => some k_ = (.slice Ao22 t241.length co22 : Value).ownBlock) _ _ t241 t244 t245 _ _ y246 t249 t250 t253 t254 _ ?side1 ?side2 ?side3 A14.out).mono ?_
               (case side1 => exact Kd.R_V (Kd.R_tight rfl (Kd.R_apart' (HO243.out) (Kd.R_typed HO248.out) (by decide))))
               (case side2 => repeat (first | exact (Kd.R_reads' HO248.out).2.2 | (with_reducible refine Kd.C_alloc ?_ _) | (with_reducible refine Kd.C_drewN ?_ _) | (with_reducible refine Kd.C_drew ?_)))
               (case side3 => exact (Kd.R_reads' HO248.out).2.1)
               rintro e w24 ⟨v251, rfl, ho0, hb⟩
               refine ⟨_, rfl, ?_⟩
               have n0_ := Aside0.mk (Kd.R_below (by (with_reducible repeat (first | apply Kd.R_alloc | apply Kd.R_drewN | apply Kd.R_drew)); exact HO243.out) hb)
               have n1_ := Aside0.mk (Kd.R_below (by (with_reducible repeat (first | apply Kd.R_alloc | apply Kd.R_drewN | apply Kd.R_drew)); exact HO248.out) hb)
               have n2_ := Aside0.mk (Kd.V_lower (Kd.V_mono (ok' := fun k_ => some k_ ≠ (.slice Ao23 y246.length co23 : Value).ownBlock) ho0 (fun k_ hk_ => Or.elim hk_ (fun hs_ => ((Kd.R_apart' (HO243.out) (Kd.R_typed HO248.out) (by decide)).1 k_ hs_.symm).2) (fun hn_ => (Kd.fresh' (Kd.R_lt (by (with_reducible repeat (first | apply Kd.R_alloc | apply Kd.R_drewN | apply Kd.R_drew)); exact HO248.out)) k_ hn_)))) (below_size (by repeat (first | (with_reducible first | exact HB.out | apply below_alloc | apply pw_below_drewN | apply below_drew1) | exact HB.out))))
               have n3_ := Aside0.mk (below_step (by repeat (first | (with_reducible first | exact HB.out | apply below_alloc | apply pw_below_drewN | apply below_drew1) | exact HB.out)) hb)
               clear HO243
               clear HO248
               clear HB
               have HO243 := n0_
               have HO248 := n1_
               have HO252 := n2_
               have HB := n3_
               clear n0_ n1_ n2_ n3_
               (try clear hb)
               (try clear hb2)
               (try clear hk)
               (try clear hi)
               (try clear ho0)
               refine hK.out _ _ trivial (fun hHeld => ?_)
               clear hK K
               refine norm_ (a' := ?_) ?_ ?_
               rotate_left
               ·
                show Act.put _ (some 40) _ = _
                simp only [Act.put, List.setIfInBounds_toArray, List.set_cons_zero, List.set_cons_succ, i64_w, i32_w]
                rfl
               refine pure_ (i := 6) (N := some 34) (v := ?_) (a' := ?_) #[true, true, true, true, true, true, true, false, false, false, false, false] rfl rfl (any_of HT_.out (by kernel_rfl)) (fun _ _ _ h => h) (Or.inl ⟨by rfl, ?_⟩) ?_ ?_
               rotate_left
               ·
                intro w'
                go_simp
                with_reducible rfl
               rotate_left
               ·
                simp only [Act.put, List.setIfInBounds_toArray, List.set_cons_zero, List.set_cons_succ, i64_w, i32_w]
                rfl
               refine pure_ (i := 7) (N := some 41) (v := ?_) (a' := ?_) #[true, true, true, true, true, true, true, true, false, false, false, false] rfl rfl (any_of HT_.out (by kernel_rfl)) (fun _ _ _ h => h) (Or.inl ⟨by rfl, ?_⟩) ?_ ?_
               rotate_left
               ·
                intro w'
                go_simp
                with_reducible rfl
               rotate_left
               ·
                simp only [Act.put, List.setIfInBounds_toArray, List.set_cons_zero, List.set_cons_succ, i64_w, i32_w]
                rfl
               refine pure_ (i := 8) (N := some 42) (v := ?_) (a' := ?_) #[true, true, true, true, true, true, true, true, true, false, false, false] rfl rfl (any_of HT_.out (by kernel_rfl)) (fun _ _ _ h => h) (Or.inl ⟨by rfl, ?_⟩) ?_ ?_
               rotate_left
               ·
                intro w'
                go_simp
                with_reducible rfl
               rotate_left
               ·
                simp only [Act.put, List.setIfInBounds_toArray, List.set_cons_zero, List.set_cons_succ, i64_w, i32_w]
                rfl
               exact norm_ (by first | (simp only [putAll, Act.put, List.setIfInBounds_toArray, List.set_cons_zero, List.set_cons_succ]; done) | (simp only [putAll, Act.put, List.setIfInBounds_toArray, List.set_cons_zero, List.set_cons_succ]; rfl)) (hJ0_4_5 (.slice Ao22 t241.length co22, .slice Ao23 y246.length co23, v251) _ ⟨(by (with_reducible repeat (first | apply Kd.R_alloc | apply Kd.R_drewN | apply Kd.R_drew)); exact HO243.out), (by (with_reducible repeat (first | apply Kd.R_alloc | apply Kd.R_drewN | apply Kd.R_drew)); exact HO248.out), (by (with_reducible repeat (first | apply Kd.V_alloc | apply Kd.V_drewN | apply Kd.V_drew)); exact HO252.out), (by repeat (first | (with_reducible first | exact HB.out | apply below_alloc | apply pw_below_drewN | apply below_drew1) | exact HB.out))⟩)
              ·
               skip
               refine box_step ?hg (N := 8) ?hd (cs := #[.slice none 0 0, .int .i64 0, .int .i64 0]) (t := 24) ?hr ?_; (case hd => rfl); (case hg => rfl); (case hr => first | (go_simp; done) | (go_simp; rfl))
               intro gb255 hg w22 hbox hb
               have n0_ := Aside0.mk (Kd.R_below (by (with_reducible repeat (first | apply Kd.R_alloc | apply Kd.R_drewN | apply Kd.R_drew)); exact HO243.out) hb)
               have n1_ := Aside0.mk (Kd.R_below (by (with_reducible repeat (first | apply Kd.R_alloc | apply Kd.R_drewN | apply Kd.R_drew)); exact HO248.out) hb)
               have n2_ := Aside0.mk (below_step (by repeat (first | (with_reducible first | exact HB.out | apply below_alloc | apply pw_below_drewN | apply below_drew1) | exact HB.out)) hb)
               have n3_ := Aside0.mk (hbox)
               have n4_ := Aside0.mk ((by rw [hg]; exact (below_size (by repeat (first | (with_reducible first | exact HB.out | apply below_alloc | apply pw_below_drewN | apply below_drew1) | exact HB.out))) : w.heap.size ≤ gb255))
               have n5_ := Aside0.mk ((by rw [hg]; exact (below_size (by repeat (first | (with_reducible first | exact HB.out | apply below_alloc | apply pw_below_drewN | apply below_drew1) | exact HB.out))) : w.heap.size ≤ gb255))
               clear HO243
               clear HO248
               clear HB
               have HO243 := n0_
               have HO248 := n1_
               have HB := n2_
               have BK255 := n3_
               have GW255 := n4_
               have GE255 := n5_
               clear n0_ n1_ n2_ n3_ n4_ n5_
               clear hb hbox hg
               refine hK.out _ _ trivial (fun hHeld => ?_)
               clear hK K
               refine norm_ (a' := ?_) ?_ ?_
               rotate_left
               ·
                show Act.put _ (some 8) _ = _
                simp only [Act.put, List.setIfInBounds_toArray, List.set_cons_zero, List.set_cons_succ, i64_w, i32_w]
                rfl
               exact norm_ (by first | (simp only [putAll, Act.put, List.setIfInBounds_toArray, List.set_cons_zero, List.set_cons_succ]; done) | (simp only [putAll, Act.put, List.setIfInBounds_toArray, List.set_cons_zero, List.set_cons_succ]; rfl)) (hJ0_4_9 (.slice Ao22 t241.length co22, .slice Ao23 y246.length co23, gb255) _ ⟨(by (with_reducible repeat (first | apply Kd.R_alloc | apply Kd.R_drewN | apply Kd.R_drew)); exact HO243.out), (by (with_reducible repeat (first | apply Kd.R_alloc | apply Kd.R_drewN | apply Kd.R_drew)); exact HO248.out), (by (with_reducible repeat (first | refine blk_drewN ?_ _ | refine blk_drew ?_ | refine blk_alloc ?_ _)); exact BK255.out), GW255.out, GE255.out, (by repeat (first | (with_reducible first | exact HB.out | apply below_alloc | apply pw_below_drewN | apply below_drew1 | refine below_set ?_ GE255.out) | exact HB.out))⟩)
            ·
             skip
             rintro ⟨v242, v247, gb255⟩ w22 ⟨h0_, h1_, h2_, h3_, h4_, h5_⟩
             have n0_ : Aside0 (Kd.R (Kd.int .i64) 3 w22 w.heap.size (fun _ => True) v242 t241) := ⟨h0_⟩
             have n1_ : Aside0 (Kd.R Kd.bool 4 w22 w.heap.size (fun _ => True) v247 y246) := ⟨h1_⟩
             have n2_ : Aside0 (w22.heap[gb255]? = some (.cells #[.slice none 0 0, .int .i64 0, .int .i64 0] 24 (0, 0))) := ⟨h2_⟩
             have n3_ : Aside0 (w.heap.size ≤ gb255) := ⟨h3_⟩
             have n4_ : Aside0 (w.heap.size ≤ gb255) := ⟨h4_⟩
             have n5_ : Aside0 (Below w.heap.size w w22) := ⟨h5_⟩
             clear HB
             clear h0_ h1_ h2_ h3_ h4_ h5_
             have HO243 := n0_
             have HO248 := n1_
             have BK255 := n2_
             have GW255 := n3_
             have GE255 := n4_
             have HB := n5_
             clear n0_ n1_ n2_ n3_ n4_ n5_
             have hHeld := trivial
             obtain ⟨Ao23, co23, eo23⟩ := Kd.R_slice HO243.out
             (first | subst eo23 | (injection eo23 with f1_ f2_ f3_; have f4_ := f1_.symm; have f5_ := f3_.symm; clear f1_ f2_ f3_; subst f4_; subst f5_))
             obtain ⟨Ao24, co24, eo24⟩ := Kd.R_slice HO248.out
             (first | subst eo24 | (injection eo24 with f1_ f2_ f3_; have f4_ := f1_.symm; have f5_ := f3_.symm; clear f1_ f2_ f3_; subst f4_; subst f5_))
             refine norm_ (a' := ?_) ?_ ?_
             rotate_left
             ·
              simp only [putAll, Act.put, List.setIfInBounds_toArray, List.set_cons_zero, List.set_cons_succ]
              rfl
             refine one_ (i := 5) (N := some 40) #[true, true, true, true, true, true, false, false, false, true, false, false] rfl rfl (one_of HT_.out (by kernel_rfl)) (by decide) (fun K hK => ?_)
             refine goes_ Tryd.func13 (by kernel_rfl) rfl #[.agg #[.slice Ao23 t241.length co23, .int .i64 t244, .int .i64 t245], .slice Ao24 y246.length co24] (by rfl) rfl rfl (by (try simp only [List.map_toArray, List.map_cons, List.map_nil]); first | done | rfl | (simp only [List.length_drop, List.length_take]; rfl)) ?_
             with_reducible refine (pick_Next.calls kj6 (fun k_ => some k_ = (.slice Ao23 t241.length co23 : Value).ownBlock) _ _ t241 t244 t245 _ _ y246 t249 t250 t253 t254 _ ?side1 ?side2 ?side3 A14.out).mono ?_
             (case side1 => exact Kd.R_V (Kd.R_tight rfl (Kd.R_types (Kd.R_apart' (HO243.out) (Kd.R_typed HO248.out) (by decide)) BK255.out (by decide))))
             (case side2 => repeat (first | exact (Kd.R_reads' HO248.out).2.2 | (with_reducible refine Kd.C_alloc ?_ _) | (with_reducible refine Kd.C_drewN ?_ _) | (with_reducible refine Kd.C_drew ?_)))
             (case side3 => exact (Kd.R_reads' HO248.out).2.1)
             rintro e w25 ⟨v251, rfl, ho0, hb⟩
             refine ⟨_, rfl, ?_⟩
             have n0_ := Aside0.mk (Kd.R_below (by (with_reducible repeat (first | apply Kd.R_alloc | apply Kd.R_drewN | apply Kd.R_drew)); exact HO243.out) hb)
             have n1_ := Aside0.mk (Kd.R_below (by (with_reducible repeat (first | apply Kd.R_alloc | apply Kd.R_drewN | apply Kd.R_drew)); exact HO248.out) hb)
             have n2_ := Aside0.mk (Kd.V_lower (Kd.V_mono (ok' := fun k_ => some k_ ≠ (.slice Ao24 y246.length co24 : Value).ownBlock ∧ k_ ≠ gb255) ho0 (fun k_ hk_ => ⟨Or.elim hk_ (fun hs_ => ((Kd.R_types (Kd.R_apart' (HO243.out) (Kd.R_typed HO248.out) (by decide)) BK255.out (by decide)).1 k_ hs_.symm).1.2) (fun hn_ => (Kd.fresh' (Kd.R_lt (by (with_reducible repeat (first | apply Kd.R_alloc | apply Kd.R_drewN | apply Kd.R_drew)); exact HO248.out)) k_ hn_)), Or.elim hk_ (fun hs_ => ((Kd.R_types (Kd.R_apart' (HO243.out) (Kd.R_typed HO248.out) (by decide)) BK255.out (by decide)).1 k_ hs_.symm).2) (fun hn_ => (Kd.freshB (g := gb255) (o := .cells #[.slice none 0 0, .int .i64 0, .int .i64 0] 24 (0, 0)) (by (with_reducible repeat (first | refine blk_drewN ?_ _ | refine blk_drew ?_ | refine blk_alloc ?_ _)); exact BK255.out) k_ hn_))⟩)) (below_size (by repeat (first | (with_reducible first | exact HB.out | apply below_alloc | apply pw_below_drewN | apply below_drew1 | refine below_set ?_ GE255.out) | exact HB.out))))
             have n3_ := Aside0.mk (blk_below (g := gb255) (o := .cells #[.slice none 0 0, .int .i64 0, .int .i64 0] 24 (0, 0)) (by (with_reducible repeat (first | refine blk_drewN ?_ _ | refine blk_drew ?_ | refine blk_alloc ?_ _)); exact BK255.out) hb)
             have n4_ := Aside0.mk (below_step (by repeat (first | (with_reducible first | exact HB.out | apply below_alloc | apply pw_below_drewN | apply below_drew1 | refine below_set ?_ GE255.out) | exact HB.out)) hb)
             clear HO243
             clear HO248
             clear BK255
             clear HB
             have HO243 := n0_
             have HO248 := n1_
             have HO252 := n2_
             have BK255 := n3_
             have HB := n4_
             clear n0_ n1_ n2_ n3_ n4_
             (try clear hb)
             (try clear hb2)
             (try clear hk)
             (try clear hi)
             (try clear ho0)
             refine hK.out _ _ trivial (fun hHeld => ?_)
             clear hK K
             refine norm_ (a' := ?_) ?_ ?_
             rotate_left
             ·
              show Act.put _ (some 40) _ = _
              simp only [Act.put, List.setIfInBounds_toArray, List.set_cons_zero, List.set_cons_succ, i64_w, i32_w]
              rfl
             refine pure_ (i := 6) (N := some 34) (v := ?_) (a' := ?_) #[true, true, true, true, true, true, true, false, false, true, false, false] rfl rfl (any_of HT_.out (by kernel_rfl)) (fun _ _ _ h => h) (Or.inl ⟨by rfl, ?_⟩) ?_ ?_
             rotate_left
             ·
              intro w'
              go_simp
              with_reducible rfl
             rotate_left
             ·
              simp only [Act.put, List.setIfInBounds_toArray, List.set_cons_zero, List.set_cons_succ, i64_w, i32_w]
              rfl
             refine pure_ (i := 7) (N := some 41) (v := ?_) (a' := ?_) #[true, true, true, true, true, true, true, true, false, true, false, false] rfl rfl (any_of HT_.out (by kernel_rfl)) (fun _ _ _ h => h) (Or.inl ⟨by rfl, ?_⟩) ?_ ?_
             rotate_left
             ·
              intro w'
              go_simp
              with_reducible rfl
             rotate_left
             ·
              simp only [Act.put, List.setIfInBounds_toArray, List.set_cons_zero, List.set_cons_succ, i64_w, i32_w]
              rfl
             refine pure_ (i := 8) (N := some 42) (v := ?_) (a' := ?_) #[true, true, true, true, true, true, true, true, true, true, false, false] rfl rfl (any_of HT_.out (by kernel_rfl)) (fun _ _ _ h => h) (Or.inl ⟨by rfl, ?_⟩) ?_ ?_
             rotate_left
             ·
              intro w'
              go_simp
              with_reducible rfl
             rotate_left
             ·
              simp only [Act.put, List.setIfInBounds_toArray, List.set_cons_zero, List.set_cons_succ, i64_w, i32_w]
              rfl
             exact norm_ (by first | (simp only [putAll, Act.put, List.setIfInBounds_toArray, List.set_cons_zero, List.set_cons_succ]; done) | (simp only [putAll, Act.put, List.setIfInBounds_toArray, List.set_cons_zero, List.set_cons_succ]; rfl)) (hJ0_4_5_9 (.slice Ao23 t241.length co23, .slice Ao24 y246.length co24, v251, gb255) _ ⟨(by (with_reducible repeat (first | apply Kd.R_alloc | apply Kd.R_drewN | apply Kd.R_drew)); exact HO243.out), (by (with_reducible repeat (first | apply Kd.R_alloc | apply Kd.R_drewN | apply Kd.R_drew)); exact HO248.out), (by (with_reducible repeat (first | apply Kd.V_alloc | apply Kd.V_drewN | apply Kd.V_drew)); exact HO252.out), (by (with_reducible repeat (first | refine blk_drewN ?_ _ | refine blk_drew ?_ | refine blk_alloc ?_ _)); exact BK255.out), GW255.out, GE255.out, (by repeat (first | (with_reducible first | exact HB.out | apply below_alloc | apply pw_below_drewN | apply below_drew1 | refine below_set ?_ GE255.out) | exact HB.out))⟩)
           ·
            skip
            rintro ⟨v242, v247, v251⟩ w24 ⟨h0_, h1_, h2_, h3_⟩
            have n0_ : Aside0 (Kd.R (Kd.int .i64) 3 w24 w.heap.size (fun _ => True) v242 t241) := ⟨h0_⟩
            have n1_ : Aside0 (Kd.R Kd.bool 4 w24 w.heap.size (fun _ => True) v247 y246) := ⟨h1_⟩
            have n2_ : Aside0 (Kd.V (Kd.int .i64) 3 w24 w.heap.size (fun k_ => some k_ ≠ (v247 : Value).ownBlock) v251 t250) := ⟨h2_⟩
            have n3_ : Aside0 (Below w.heap.size w w24) := ⟨h3_⟩
            clear HB
            clear h0_ h1_ h2_ h3_
            have HO243 := n0_
            have HO248 := n1_
            have HO252 := n2_
            have HB := n3_
            clear n0_ n1_ n2_ n3_
            have hHeld := trivial
            refine norm_ (a' := ?_) ?_ ?_
            rotate_left
            ·
             simp only [putAll, Act.put, List.setIfInBounds_toArray, List.set_cons_zero, List.set_cons_succ]
             rfl
            refine one_ (i := 9) (N := some 8) #[true, true, true, true, true, true, true, true, true, true, false, false] rfl rfl (one_of HT_.out (by kernel_rfl)) (by decide) (fun K hK => ?_)
            refine box_step ?hg (N := 8) ?hd (cs := #[.slice none 0 0, .int .i64 0, .int .i64 0]) (t := 24) ?hr ?_; (case hd => rfl); (case hg => rfl); (case hr => first | (go_simp; done) | (go_simp; rfl))
            intro gb255 hg w25 hbox hb
            have n0_ := Aside0.mk (Kd.R_below (by (with_reducible repeat (first | apply Kd.R_alloc | apply Kd.R_drewN | apply Kd.R_drew)); exact HO243.out) hb)
            have n1_ := Aside0.mk (Kd.R_below (by (with_reducible repeat (first | apply Kd.R_alloc | apply Kd.R_drewN | apply Kd.R_drew)); exact HO248.out) hb)
            have n2_ := Aside0.mk (Kd.V_below (Kd.V_elderB (by (with_reducible repeat (first | apply Kd.V_alloc | apply Kd.V_drewN | apply Kd.V_drew)); exact HO252.out) gb255 (Nat.le_of_eq hg.symm)) hb)
            have n3_ := Aside0.mk (below_step (by repeat (first | (with_reducible first | exact HB.out | apply below_alloc | apply pw_below_drewN | apply below_drew1) | exact HB.out)) hb)
            have n4_ := Aside0.mk (hbox)
            have n5_ := Aside0.mk ((by rw [hg]; exact (below_size (by repeat (first | (with_reducible first | exact HB.out | apply below_alloc | apply pw_below_drewN | apply below_drew1) | exact HB.out))) : w.heap.size ≤ gb255))
            have n6_ := Aside0.mk ((by rw [hg]; exact (below_size (by repeat (first | (with_reducible first | exact HB.out | apply below_alloc | apply pw_below_drewN | apply below_drew1) | exact HB.out))) : w.heap.size ≤ gb255))
            clear HO243
            clear HO248
            clear HO252
            clear HB
            have HO243 := n0_
            have HO248 := n1_
            have HO252 := n2_
            have HB := n3_
            have BK255 := n4_
            have GW255 := n5_
            have GE255 := n6_
            clear n0_ n1_ n2_ n3_ n4_ n5_ n6_
            clear hb hbox hg
            refine hK.out _ _ trivial (fun hHeld => ?_)
            clear hK K
            refine norm_ (a' := ?_) ?_ ?_
            rotate_left
            ·
             show Act.put _ (some 8) _ = _
             simp only [Act.put, List.setIfInBounds_toArray, List.set_cons_zero, List.set_cons_succ, i64_w, i32_w]
             rfl
            exact norm_ (by first | (simp only [putAll, Act.put, List.setIfInBounds_toArray, List.set_cons_zero, List.set_cons_succ]; done) | (simp only [putAll, Act.put, List.setIfInBounds_toArray, List.set_cons_zero, List.set_cons_succ]; rfl)) (hJ0_4_5_9 (v242, v247, v251, gb255) _ ⟨(by (with_reducible repeat (first | apply Kd.R_alloc | apply Kd.R_drewN | apply Kd.R_drew)); exact HO243.out), (by (with_reducible repeat (first | apply Kd.R_alloc | apply Kd.R_drewN | apply Kd.R_drew)); exact HO248.out), (by (with_reducible repeat (first | apply Kd.V_alloc | apply Kd.V_drewN | apply Kd.V_drew)); exact HO252.out), (by (with_reducible repeat (first | refine blk_drewN ?_ _ | refine blk_drew ?_ | refine blk_alloc ?_ _)); exact BK255.out), GW255.out, GE255.out, (by repeat (first | (with_reducible first | exact HB.out | apply below_alloc | apply pw_below_drewN | apply below_drew1 | refine below_set ?_ GE255.out) | exact HB.out))⟩)
          rintro ⟨v242, v247, v251, gb255⟩ w25 ⟨h0_, h1_, h2_, h3_, h4_, h5_, h6_⟩
          have n0_ : Aside0 (Kd.R (Kd.int .i64) 3 w25 w.heap.size (fun _ => True) v242 t241) := ⟨h0_⟩
          have n1_ : Aside0 (Kd.R Kd.bool 4 w25 w.heap.size (fun _ => True) v247 y246) := ⟨h1_⟩
          have n2_ : Aside0 (Kd.V (Kd.int .i64) 3 w25 w.heap.size (fun k_ => some k_ ≠ (v247 : Value).ownBlock ∧ k_ ≠ gb255) v251 t250) := ⟨h2_⟩
          have n3_ : Aside0 (w25.heap[gb255]? = some (.cells #[.slice none 0 0, .int .i64 0, .int .i64 0] 24 (0, 0))) := ⟨h3_⟩
          have n4_ : Aside0 (w.heap.size ≤ gb255) := ⟨h4_⟩
          have n5_ : Aside0 (w.heap.size ≤ gb255) := ⟨h5_⟩
          have n6_ : Aside0 (Below w.heap.size w w25) := ⟨h6_⟩
          clear HB
          clear h0_ h1_ h2_ h3_ h4_ h5_ h6_
          have HO243 := n0_
          have HO248 := n1_
          have HO252 := n2_
          have BK255 := n3_
          have GW255 := n4_
          have GE255 := n5_
          have HB := n6_
          clear n0_ n1_ n2_ n3_ n4_ n5_ n6_
          have hHeld := trivial
          obtain ⟨Ao26, co26, eo26⟩ := Kd.V_slice HO252.out
          (first | subst eo26 | (injection eo26 with f1_ f2_ f3_; have f4_ := f1_.symm; have f5_ := f3_.symm; clear f1_ f2_ f3_; subst f4_; subst f5_))
          refine norm_ (a' := ?_) ?_ ?_
          rotate_left
          ·
           simp only [putAll, Act.put, List.setIfInBounds_toArray, List.set_cons_zero, List.set_cons_succ]
           rfl
          refine pure_ (i := 10) (N := some 7) (v := ?_) (a' := ?_) #[true, true, true, true, true, true, true, true, true, true, true, false] rfl rfl (any_of HT_.out (by kernel_rfl)) (fun _ _ _ h => h) (Or.inl ⟨by rfl, ?_⟩) ?_ ?_
          rotate_left
          ·
           intro w'
           go_simp
           with_reducible rfl
          rotate_left
          ·
           simp only [Act.put, List.setIfInBounds_toArray, List.set_cons_zero, List.set_cons_succ, i64_w, i32_w]
           rfl
          refine one_ (i := 11) (N := none) #[true, true, true, true, true, true, true, true, true, true, true, true] rfl rfl (one_of HT_.out (by kernel_rfl)) (by decide) (fun K hK => ?_)
          have hs27 : w25.cell? ⟨gb255, 0, none⟩ = some (.slice none 0 0) := (blk_cell BK255.out 0).trans rfl
          have hfs27 := blk_frozen BK255.out 0
          have hs28 : w25.cell? ⟨gb255, 1, none⟩ = some (.int .i64 0) := (blk_cell BK255.out 1).trans rfl
          have hfs28 := blk_frozen BK255.out 1
          have hs29 : w25.cell? ⟨gb255, 2, none⟩ = some (.int .i64 0) := (blk_cell BK255.out 2).trans rfl
          have hfs29 := blk_frozen BK255.out 2
          refine skip_ (w1 := ?_) (by rfl) rfl ?_ ?_
          rotate_left
          ·
           go_simp
           rfl
          refine hK.out _ _ trivial (fun hHeld => ?_)
          clear hK K
          refine done_ (done_of HT_.out (by kernel_rfl)) ?_
          try go_wp2_with (first | (go_at_call 12; (with_reducible refine (warplaw2_awake.calls kj6  t256 _ A16.out (Tab.below hT_ (by repeat (first | (with_reducible first | exact HB.out | apply below_alloc | apply pw_below_drewN | apply below_drew1 | refine below_set ?_ GE255.out) | exact HB.out)))).mono ?_); rintro e w30 ⟨rfl, hb⟩; have n0_ := Aside0.mk (Kd.R_below (by (with_reducible repeat (first | apply Kd.R_alloc | apply Kd.R_drewN | apply Kd.R_drew)); exact (Kd.R_mono (Kd.R_far (p := ⟨gb255, 2, none⟩) (Kd.R_far (p := ⟨gb255, 1, none⟩) (Kd.R_far (p := ⟨gb255, 0, none⟩) (Kd.R_types HO243.out BK255.out (by decide)) (fun _ hk => hk.2) (.slice Ao26 t250.length co26)) (fun _ hk => hk.2) (.int .i64 t253)) (fun _ hk => hk.2) (.int .i64 t254)) (fun _ h_ => h_.1))) hb); have n1_ := Aside0.mk (Kd.R_below (by (with_reducible repeat (first | apply Kd.R_alloc | apply Kd.R_drewN | apply Kd.R_drew)); exact (Kd.R_mono (Kd.R_far (p := ⟨gb255, 2, none⟩) (Kd.R_far (p := ⟨gb255, 1, none⟩) (Kd.R_far (p := ⟨gb255, 0, none⟩) (Kd.R_types HO248.out BK255.out (by decide)) (fun _ hk => hk.2) (.slice Ao26 t250.length co26)) (fun _ hk => hk.2) (.int .i64 t253)) (fun _ hk => hk.2) (.int .i64 t254)) (fun _ h_ => h_.1))) hb); have n2_ := Aside0.mk (Kd.V_below (by (with_reducible repeat (first | apply Kd.V_alloc | apply Kd.V_drewN | apply Kd.V_drew)); exact (Kd.V_mono (Kd.V_far (p := ⟨gb255, 2, none⟩) (Kd.V_far (p := ⟨gb255, 1, none⟩) (Kd.V_far (p := ⟨gb255, 0, none⟩) (Kd.V_mono HO252.out (fun k_ hk => (⟨hk, hk.2⟩ : _ ∧ k_ ≠ gb255))) (fun _ hk => hk.2) (.slice Ao26 t250.length co26)) (fun _ hk => hk.2) (.int .i64 t253)) (fun _ hk => hk.2) (.int .i64 t254)) (fun _ h_ => h_.1))) hb); have n3_ := Aside0.mk (blk_below (g := gb255) (o := .cells #[.slice Ao26 t250.length co26, .int .i64 t253, .int .i64 t254] 24 (0, 0)) (by (with_reducible repeat (first | refine blk_drewN ?_ _ | refine blk_drew ?_ | refine blk_alloc ?_ _)); refine blk_put (cs := #[.slice Ao26 t250.length co26, .int .i64 t253, .int .i64 0]) ?_ 2 _ rfl; (with_reducible repeat (first | refine blk_drewN ?_ _ | refine blk_drew ?_ | refine blk_alloc ?_ _)); refine blk_put (cs := #[.slice Ao26 t250.length co26, .int .i64 0, .int .i64 0]) ?_ 1 _ rfl; (with_reducible repeat (first | refine blk_drewN ?_ _ | refine blk_drew ?_ | refine blk_alloc ?_ _)); refine blk_put (cs := #[.slice none 0 0, .int .i64 0, .int .i64 0]) ?_ 0 _ rfl; (with_reducible repeat (first | refine blk_drewN ?_ _ | refine blk_drew ?_ | refine blk_alloc ?_ _)); exact BK255.out) hb); have n4_ := Aside0.mk (below_step (by repeat (first | (with_reducible first | exact HB.out | apply below_alloc | apply pw_below_drewN | apply below_drew1 | refine below_set ?_ GE255.out) | exact HB.out)) hb); clear HO243; clear HO248; clear HO252; clear BK255; clear HB; have HO243 := n0_; have HO248 := n1_; have HO252 := n2_; have BK255 := n3_; have HB := n4_; clear n0_ n1_ n2_ n3_ n4_; (try clear hb); (try clear hb2); (try clear hk); (try clear hi)))
          go_ret
          exact ⟨by first | rfl | (simp [errW_none, errW_some] <;> rfl) | (simp only [← hji11]; first | rfl | (simp [errW_none, errW_some] <;> rfl)) | (simp [*, errW_none, errW_some] <;> rfl), by repeat (first | (with_reducible first | exact HB.out | apply below_alloc | apply pw_below_drewN | apply below_drew1 | refine below_set ?_ GE255.out) | exact HB.out)⟩
         ·
          rw [if_neg c15] at H
          have c15b0 : (t249 == (-1)) = false := beq_eq_false_iff_ne.mpr c15
          have c15b1 : (t249 != (-1)) = true := bne_iff_ne.mpr c15
          obtain rfl := Option.some.inj H
          try go_wp2
          have n0_ := Aside0.mk (below_drew1 HB.out)
          clear HB
          have HB := n0_
          clear n0_
          refine start_ (n := 12) (S := fun w' => True) (ds := []) #[false, false, false, false, false, false, false, false, false, false, false, false] (by kernel_rfl) rfl rfl trivial (fun hHeld => ?_); refine with_tabW warplaw2_PickTurns.tab8 warplaw2_PickTurns.bits8 (fun HT_ HW_ => ?_)
          generalize wc.drew = w31 at HB hHeld ⊢
          refine pure_ (i := 1) (N := some 36) (v := ?_) (a' := ?_) #[false, true, false, false, false, false, false, false, false, false, false, false] rfl rfl (any_of HT_.out (by kernel_rfl)) (fun _ _ _ h => h) (Or.inl ⟨by rfl, ?_⟩) ?_ ?_
          rotate_left
          ·
           intro w'
           go_simp
           with_reducible rfl
          rotate_left
          ·
           simp only [Act.put, List.setIfInBounds_toArray, List.set_cons_zero, List.set_cons_succ, i64_w, i32_w]
           rfl
          refine pure_ (i := 2) (N := some 37) (v := ?_) (a' := ?_) #[false, true, true, false, false, false, false, false, false, false, false, false] rfl rfl (any_of HT_.out (by kernel_rfl)) (fun _ _ _ h => h) (Or.inl ⟨by rfl, ?_⟩) ?_ ?_
          rotate_left
          ·
           intro w'
           go_simp
           with_reducible rfl
          rotate_left
          ·
           simp only [Act.put, List.setIfInBounds_toArray, List.set_cons_zero, List.set_cons_succ, i64_w, i32_w]
           rfl
          refine pure_ (i := 3) (N := some 38) (v := ?_) (a' := ?_) #[false, true, true, true, false, false, false, false, false, false, false, false] rfl rfl (any_of HT_.out (by kernel_rfl)) (fun _ _ _ h => h) (Or.inl ⟨by rfl, ?_⟩) ?_ ?_
          rotate_left
          ·
           intro w'
           go_simp
           with_reducible rfl
          rotate_left
          ·
           simp only [Act.put, List.setIfInBounds_toArray, List.set_cons_zero, List.set_cons_succ, i64_w, i32_w]
           rfl
          refine join_ (σ := Value × Value × Value × Nat) 2 #[true, true, true, true, true, true, true, true, true, true, false, false] (fun s_ => [(35, .agg #[s_.1, .int .i64 t244, .int .i64 t245]), (39, s_.2.1), (40, .tuple #[.int .i64 t249, .agg #[s_.2.2.1, .int .i64 t253, .int .i64 t254]]), (8, .pointer (some ⟨s_.2.2.2, 0, none⟩)), (34, .tuple #[.int .i64 t249, .agg #[s_.2.2.1, .int .i64 t253, .int .i64 t254]]), (41, .int .i64 t249), (42, .agg #[s_.2.2.1, .int .i64 t253, .int .i64 t254])]) (fun s_ w' => (Kd.R (Kd.int .i64) 3 w' w.heap.size (fun _ => True) s_.1 t241) ∧ (Kd.R Kd.bool 4 w' w.heap.size (fun _ => True) s_.2.1 y246) ∧ (Kd.V (Kd.int .i64) 3 w' w.heap.size (fun k_ => some k_ ≠ (s_.2.1 : Value).ownBlock ∧ k_ ≠ s_.2.2.2) s_.2.2.1 t250) ∧ (w'.heap[s_.2.2.2]? = some (.cells #[.slice none 0 0, .int .i64 0, .int .i64 0] 24 (0, 0))) ∧ (w.heap.size ≤ s_.2.2.2) ∧ (w.heap.size ≤ s_.2.2.2) ∧ (Below w.heap.size w w')) ?_ ?_
          rotate_left
          ·
           intro hJ0_4_5_9
           refine join_ (σ := Value × Value × Value) 3 #[true, true, true, true, true, true, true, true, true, false, false, false] (fun s_ => [(35, .agg #[s_.1, .int .i64 t244, .int .i64 t245]), (39, s_.2.1), (40, .tuple #[.int .i64 t249, .agg #[s_.2.2, .int .i64 t253, .int .i64 t254]]), (34, .tuple #[.int .i64 t249, .agg #[s_.2.2, .int .i64 t253, .int .i64 t254]]), (41, .int .i64 t249), (42, .agg #[s_.2.2, .int .i64 t253, .int .i64 t254])]) (fun s_ w' => (Kd.R (Kd.int .i64) 3 w' w.heap.size (fun _ => True) s_.1 t241) ∧ (Kd.R Kd.bool 4 w' w.heap.size (fun _ => True) s_.2.1 y246) ∧ (Kd.V (Kd.int .i64) 3 w' w.heap.size (fun k_ => some k_ ≠ (s_.2.1 : Value).ownBlock) s_.2.2 t250) ∧ (Below w.heap.size w w')) ?_ ?_
           rotate_left
           ·
            intro hJ0_4_5
            refine join_ (σ := Value × Value × Nat) 6 #[true, true, true, true, true, false, false, false, false, true, false, false] (fun s_ => [(35, .agg #[s_.1, .int .i64 t244, .int .i64 t245]), (39, s_.2.1), (8, .pointer (some ⟨s_.2.2, 0, none⟩))]) (fun s_ w' => (Kd.R (Kd.int .i64) 3 w' w.heap.size (fun _ => True) s_.1 t241) ∧ (Kd.R Kd.bool 4 w' w.heap.size (fun _ => True) s_.2.1 y246) ∧ (w'.heap[s_.2.2]? = some (.cells #[.slice none 0 0, .int .i64 0, .int .i64 0] 24 (0, 0))) ∧ (w.heap.size ≤ s_.2.2) ∧ (w.heap.size ≤ s_.2.2) ∧ (Below w.heap.size w w')) ?_ ?_
            rotate_left
            ·
             intro hJ0_4_9
             refine join_ (σ := Value × Value) 7 #[true, true, true, true, true, false, false, false, false, false, false, false] (fun s_ => [(35, .agg #[s_.1, .int .i64 t244, .int .i64 t245]), (39, s_.2)]) (fun s_ w' => (Kd.R (Kd.int .i64) 3 w' w.heap.size (fun _ => True) s_.1 t241) ∧ (Kd.R Kd.bool 4 w' w.heap.size (fun _ => True) s_.2 y246) ∧ (Below w.heap.size w w')) ?_ ?_
             rotate_left
             ·
              intro hJ0_4
              refine join_ (σ := Value × Nat) 7 #[true, true, true, true, false, false, false, false, false, true, false, false] (fun s_ => [(35, .agg #[s_.1, .int .i64 t244, .int .i64 t245]), (8, .pointer (some ⟨s_.2, 0, none⟩))]) (fun s_ w' => (Kd.R (Kd.int .i64) 3 w' w.heap.size (fun _ => True) s_.1 t241) ∧ (w'.heap[s_.2]? = some (.cells #[.slice none 0 0, .int .i64 0, .int .i64 0] 24 (0, 0))) ∧ (w.heap.size ≤ s_.2) ∧ (w.heap.size ≤ s_.2) ∧ (Below w.heap.size w w')) ?_ ?_
              rotate_left
              ·
               intro hJ0_9
               refine join_ (σ := Value × Nat) 7 #[false, true, true, true, true, false, false, false, false, true, false, false] (fun s_ => [(39, s_.1), (8, .pointer (some ⟨s_.2, 0, none⟩))]) (fun s_ w' => (Kd.R Kd.bool 4 w' w.heap.size (fun _ => True) s_.1 y246) ∧ (w'.heap[s_.2]? = some (.cells #[.slice none 0 0, .int .i64 0, .int .i64 0] 24 (0, 0))) ∧ (w.heap.size ≤ s_.2) ∧ (w.heap.size ≤ s_.2) ∧ (Below w.heap.size w w')) ?_ ?_
               rotate_left
               ·
                intro hJ4_9
                refine join_ (σ := Value) 8 #[true, true, true, true, false, false, false, false, false, false, false, false] (fun s_ => [(35, .agg #[s_, .int .i64 t244, .int .i64 t245])]) (fun s_ w' => (Kd.R (Kd.int .i64) 3 w' w.heap.size (fun _ => True) s_ t241) ∧ (Below w.heap.size w w')) ?_ ?_
                rotate_left
                ·
                 intro hJ0
                 refine join_ (σ := Value) 8 #[false, true, true, true, true, false, false, false, false, false, false, false] (fun s_ => [(39, s_)]) (fun s_ w' => (Kd.R Kd.bool 4 w' w.heap.size (fun _ => True) s_ y246) ∧ (Below w.heap.size w w')) ?_ ?_
                 rotate_left
                 ·
                  intro hJ4
                  refine join_ (σ := Nat) 8 #[false, true, true, true, false, false, false, false, false, true, false, false] (fun s_ => [(8, .pointer (some ⟨s_, 0, none⟩))]) (fun s_ w' => (w'.heap[s_]? = some (.cells #[.slice none 0 0, .int .i64 0, .int .i64 0] 24 (0, 0))) ∧ (w.heap.size ≤ s_) ∧ (w.heap.size ≤ s_) ∧ (Below w.heap.size w w')) ?_ ?_
                  rotate_left
                  ·
                   intro hJ9
                   refine three_ (i := 0) (j := 4) (k := 9) (Ni := some 35) (Nj := some 39) (Nk := some 8) #[true, true, true, true, false, false, false, false, false, false, false, false] #[false, true, true, true, true, false, false, false, false, false, false, false] #[false, true, true, true, false, false, false, false, false, true, false, false] rfl rfl rfl rfl rfl rfl (three_of HT_.out (by kernel_rfl)) (by decide) (by decide) (by decide) (fun K hK => ?_) (fun K hK => ?_) (fun K hK => ?_)
                   ·
                    skip
                    refine goes_ Tryd.func15 (by kernel_rfl) rfl #[.slice none 0 0] (by rfl) rfl rfl (by (try simp only [List.map_toArray, List.map_cons, List.map_nil]); first | done | rfl | (simp only [List.length_drop, List.length_take]; rfl)) ?_
                    refine (pick_Start.calls _ _ ([] : List Int) t241 t244 t245 _ ?side1 ?side2 A10.out).mono ?_
                    (case side1 => exact Kd.C_nil _ _)
                    (case side2 => exact Nat.le_refl _)
                    rintro e w32 ⟨v242, rfl, ho0, hb⟩
                    refine ⟨_, rfl, ?_⟩
                    have n0_ := Aside0.mk (Kd.R_lower ho0 (below_size (by repeat (first | (with_reducible first | exact HB.out | apply below_alloc | apply pw_below_drewN | apply below_drew1) | exact HB.out))))
                    have n1_ := Aside0.mk (below_step (by repeat (first | (with_reducible first | exact HB.out | apply below_alloc | apply pw_below_drewN | apply below_drew1) | exact HB.out)) hb)
                    clear HB
                    have HO243 := n0_
                    have HB := n1_
                    clear n0_ n1_
                    (try clear hb)
                    (try clear hb2)
                    (try clear hk)
                    (try clear hi)
                    (try clear ho0)
                    refine hK.out _ _ trivial (fun hHeld => ?_)
                    clear hK K
                    refine norm_ (a' := ?_) ?_ ?_
                    rotate_left
                    ·
                     show Act.put _ (some 35) _ = _
                     simp only [Act.put, List.setIfInBounds_toArray, List.set_cons_zero, List.set_cons_succ, i64_w, i32_w]
                     rfl
                    exact norm_ (by first | (simp only [putAll, Act.put, List.setIfInBounds_toArray, List.set_cons_zero, List.set_cons_succ]; done) | (simp only [putAll, Act.put, List.setIfInBounds_toArray, List.set_cons_zero, List.set_cons_succ]; rfl)) (hJ0 (v242) _ ⟨(by (with_reducible repeat (first | apply Kd.R_alloc | apply Kd.R_drewN | apply Kd.R_drew)); exact HO243.out), (by repeat (first | (with_reducible first | exact HB.out | apply below_alloc | apply pw_below_drewN | apply below_drew1) | exact HB.out))⟩)
                   ·
                    skip
                    refine Kd.R_make_step Kd.bool _ 4 (by rfl) (N := 39) rfl 25 _ _ rfl ji11 rfl rfl Tryd.underlying25 (.bool false) 1 info4 rfl (by decide) (by omega) false (ok := fun _ => True) (okp := fun _ => True) rfl (fun _ hk => hk) trivial (of_decide_eq_true (by first | (with_reducible assumption) | assumption)) (Nat.le_trans (Nat.mul_le_mul_right _ (of_decide_eq_true (by first | (with_reducible assumption) | assumption) : ji11.toNat ≤ 281474976710656)) (by omega)) (Below.refl _ _) (Nat.le_refl _) ?_
                    intro v247 w32 ho33 hb hg_ hnew_
                    clear hg_ hnew_
                    (first | rw [← Ny246.out] at ho33 | (simp only [Int.reduceToNat] at ho33; rw [← Ny246.out] at ho33))
                    have n0_ := Aside0.mk (Kd.R_lower ho33 (below_size (by repeat (first | (with_reducible first | exact HB.out | apply below_alloc | apply pw_below_drewN | apply below_drew1) | exact HB.out))))
                    have n1_ := Aside0.mk (below_step (by repeat (first | (with_reducible first | exact HB.out | apply below_alloc | apply pw_below_drewN | apply below_drew1) | exact HB.out)) hb)
                    clear HB
                    have HO248 := n0_
                    have HB := n1_
                    clear n0_ n1_
                    clear hb ho33
                    refine hK.out _ _ trivial (fun hHeld => ?_)
                    clear hK K
                    refine norm_ (a' := ?_) ?_ ?_
                    rotate_left
                    ·
                     show Act.put _ (some 39) _ = _
                     simp only [Act.put, List.setIfInBounds_toArray, List.set_cons_zero, List.set_cons_succ, i64_w, i32_w]
                     rfl
                    exact norm_ (by first | (simp only [putAll, Act.put, List.setIfInBounds_toArray, List.set_cons_zero, List.set_cons_succ]; done) | (simp only [putAll, Act.put, List.setIfInBounds_toArray, List.set_cons_zero, List.set_cons_succ]; rfl)) (hJ4 (v247) _ ⟨(by (with_reducible repeat (first | apply Kd.R_alloc | apply Kd.R_drewN | apply Kd.R_drew)); exact HO248.out), (by repeat (first | (with_reducible first | exact HB.out | apply below_alloc | apply pw_below_drewN | apply below_drew1) | exact HB.out))⟩)
                   ·
                    skip
                    refine box_step ?hg (N := 8) ?hd (cs := #[.slice none 0 0, .int .i64 0, .int .i64 0]) (t := 24) ?hr ?_; (case hd => rfl); (case hg => rfl); (case hr => first | (go_simp; done) | (go_simp; rfl))
                    intro gb255 hg w32 hbox hb
                    have n0_ := Aside0.mk (below_step (by repeat (first | (with_reducible first | exact HB.out | apply below_alloc | apply pw_below_drewN | apply below_drew1) | exact HB.out)) hb)
                    have n1_ := Aside0.mk (hbox)
                    have n2_ := Aside0.mk ((by rw [hg]; exact (below_size (by repeat (first | (with_reducible first | exact HB.out | apply below_alloc | apply pw_below_drewN | apply below_drew1) | exact HB.out))) : w.heap.size ≤ gb255))
                    have n3_ := Aside0.mk ((by rw [hg]; exact (below_size (by repeat (first | (with_reducible first | exact HB.out | apply below_alloc | apply pw_below_drewN | apply below_drew1) | exact HB.out))) : w.heap.size ≤ gb255))
                    clear HB
                    have HB := n0_
                    have BK255 := n1_
                    have GW255 := n2_
                    have GE255 := n3_
                    clear n0_ n1_ n2_ n3_
                    clear hb hbox hg
                    refine hK.out _ _ trivial (fun hHeld => ?_)
                    clear hK K
                    refine norm_ (a' := ?_) ?_ ?_
                    rotate_left
                    ·
                     show Act.put _ (some 8) _ = _
                     simp only [Act.put, List.setIfInBounds_toArray, List.set_cons_zero, List.set_cons_succ, i64_w, i32_w]
                     rfl
                    exact norm_ (by first | (simp only [putAll, Act.put, List.setIfInBounds_toArray, List.set_cons_zero, List.set_cons_succ]; done) | (simp only [putAll, Act.put, List.setIfInBounds_toArray, List.set_cons_zero, List.set_cons_succ]; rfl)) (hJ9 (gb255) _ ⟨(by (with_reducible repeat (first | refine blk_drewN ?_ _ | refine blk_drew ?_ | refine blk_alloc ?_ _)); exact BK255.out), GW255.out, GE255.out, (by repeat (first | (with_reducible first | exact HB.out | apply below_alloc | apply pw_below_drewN | apply below_drew1 | refine below_set ?_ GE255.out) | exact HB.out))⟩)
                  ·
                   skip
                   rintro gb255 w33 ⟨h0_, h1_, h2_, h3_⟩
                   have n0_ : Aside0 (w33.heap[gb255]? = some (.cells #[.slice none 0 0, .int .i64 0, .int .i64 0] 24 (0, 0))) := ⟨h0_⟩
                   have n1_ : Aside0 (w.heap.size ≤ gb255) := ⟨h1_⟩
                   have n2_ : Aside0 (w.heap.size ≤ gb255) := ⟨h2_⟩
                   have n3_ : Aside0 (Below w.heap.size w w33) := ⟨h3_⟩
                   clear HB
                   clear h0_ h1_ h2_ h3_
                   have BK255 := n0_
                   have GW255 := n1_
                   have GE255 := n2_
                   have HB := n3_
                   clear n0_ n1_ n2_ n3_
                   have hHeld := trivial
                   refine norm_ (a' := ?_) ?_ ?_
                   rotate_left
                   ·
                    simp only [putAll, Act.put, List.setIfInBounds_toArray, List.set_cons_zero, List.set_cons_succ]
                    rfl
                   refine two_ (i := 0) (j := 4) (Ni := some 35) (Nj := some 39) #[true, true, true, true, false, false, false, false, false, true, false, false] #[false, true, true, true, true, false, false, false, false, true, false, false] rfl rfl rfl rfl (two_of HT_.out (by kernel_rfl)) (by decide) (by decide) (fun K hK => ?_) (fun K hK => ?_)
                   ·
                    skip
                    refine goes_ Tryd.func15 (by kernel_rfl) rfl #[.slice none 0 0] (by rfl) rfl rfl (by (try simp only [List.map_toArray, List.map_cons, List.map_nil]); first | done | rfl | (simp only [List.length_drop, List.length_take]; rfl)) ?_
                    refine (pick_Start.calls _ _ ([] : List Int) t241 t244 t245 _ ?side1 ?side2 A10.out).mono ?_
                    (case side1 => exact Kd.C_nil _ _)
                    (case side2 => exact Nat.le_refl _)
                    rintro e w34 ⟨v242, rfl, ho0, hb⟩
                    refine ⟨_, rfl, ?_⟩
                    have n0_ := Aside0.mk (Kd.R_lower ho0 (below_size (by repeat (first | (with_reducible first | exact HB.out | apply below_alloc | apply pw_below_drewN | apply below_drew1 | refine below_set ?_ GE255.out) | exact HB.out))))
                    have n1_ := Aside0.mk (blk_below (g := gb255) (o := .cells #[.slice none 0 0, .int .i64 0, .int .i64 0] 24 (0, 0)) (by (with_reducible repeat (first | refine blk_drewN ?_ _ | refine blk_drew ?_ | refine blk_alloc ?_ _)); exact BK255.out) hb)
                    have n2_ := Aside0.mk (below_step (by repeat (first | (with_reducible first | exact HB.out | apply below_alloc | apply pw_below_drewN | apply below_drew1 | refine below_set ?_ GE255.out) | exact HB.out)) hb)
                    clear BK255
                    clear HB
                    have HO243 := n0_
                    have BK255 := n1_
                    have HB := n2_
                    clear n0_ n1_ n2_
                    (try clear hb)
                    (try clear hb2)
                    (try clear hk)
                    (try clear hi)
                    (try clear ho0)
                    refine hK.out _ _ trivial (fun hHeld => ?_)
                    clear hK K
                    refine norm_ (a' := ?_) ?_ ?_
                    rotate_left
                    ·
                     show Act.put _ (some 35) _ = _
                     simp only [Act.put, List.setIfInBounds_toArray, List.set_cons_zero, List.set_cons_succ, i64_w, i32_w]
                     rfl
                    exact norm_ (by first | (simp only [putAll, Act.put, List.setIfInBounds_toArray, List.set_cons_zero, List.set_cons_succ]; done) | (simp only [putAll, Act.put, List.setIfInBounds_toArray, List.set_cons_zero, List.set_cons_succ]; rfl)) (hJ0_9 (v242, gb255) _ ⟨(by (with_reducible repeat (first | apply Kd.R_alloc | apply Kd.R_drewN | apply Kd.R_drew)); exact HO243.out), (by (with_reducible repeat (first | refine blk_drewN ?_ _ | refine blk_drew ?_ | refine blk_alloc ?_ _)); exact BK255.out), GW255.out, GE255.out, (by repeat (first | (with_reducible first | exact HB.out | apply below_alloc | apply pw_below_drewN | apply below_drew1 | refine below_set ?_ GE255.out) | exact HB.out))⟩)
                   ·
                    skip
                    refine Kd.R_make_step Kd.bool _ 4 (by rfl) (N := 39) rfl 25 _ _ rfl ji11 rfl rfl Tryd.underlying25 (.bool false) 1 info4 rfl (by decide) (by omega) false (ok := fun _ => True) (okp := fun _ => True) rfl (fun _ hk => hk) trivial (of_decide_eq_true (by first | (with_reducible assumption) | assumption)) (Nat.le_trans (Nat.mul_le_mul_right _ (of_decide_eq_true (by first | (with_reducible assumption) | assumption) : ji11.toNat ≤ 281474976710656)) (by omega)) (Below.refl _ _) (Nat.le_refl _) ?_
                    intro v247 w34 ho35 hb hg_ hnew_
                    clear hg_ hnew_
                    (first | rw [← Ny246.out] at ho35 | (simp only [Int.reduceToNat] at ho35; rw [← Ny246.out] at ho35))
                    have n0_ := Aside0.mk (Kd.R_lower ho35 (below_size (by repeat (first | (with_reducible first | exact HB.out | apply below_alloc | apply pw_below_drewN | apply below_drew1 | refine below_set ?_ GE255.out) | exact HB.out))))
                    have n1_ := Aside0.mk (blk_below (g := gb255) (o := .cells #[.slice none 0 0, .int .i64 0, .int .i64 0] 24 (0, 0)) (by (with_reducible repeat (first | refine blk_drewN ?_ _ | refine blk_drew ?_ | refine blk_alloc ?_ _)); exact BK255.out) hb)
                    have n2_ := Aside0.mk (below_step (by repeat (first | (with_reducible first | exact HB.out | apply below_alloc | apply pw_below_drewN | apply below_drew1 | refine below_set ?_ GE255.out) | exact HB.out)) hb)
                    clear BK255
                    clear HB
                    have HO248 := n0_
                    have BK255 := n1_
                    have HB := n2_
                    clear n0_ n1_ n2_
                    clear hb ho35
                    refine hK.out _ _ trivial (fun hHeld => ?_)
                    clear hK K
                    refine norm_ (a' := ?_) ?_ ?_
                    rotate_left
                    ·
                     show Act.put _ (some 39) _ = _
                     simp only [Act.put, List.setIfInBounds_toArray, List.set_cons_zero, List.set_cons_succ, i64_w, i32_w]
                     rfl
                    exact norm_ (by first | (simp only [putAll, Act.put, List.setIfInBounds_toArray, List.set_cons_zero, List.set_cons_succ]; done) | (simp only [putAll, Act.put, List.setIfInBounds_toArray, List.set_cons_zero, List.set_cons_succ]; rfl)) (hJ4_9 (v247, gb255) _ ⟨(by (with_reducible repeat (first | apply Kd.R_alloc | apply Kd.R_drewN | apply Kd.R_drew)); exact HO248.out), (by (with_reducible repeat (first | refine blk_drewN ?_ _ | refine blk_drew ?_ | refine blk_alloc ?_ _)); exact BK255.out), GW255.out, GE255.out, (by repeat (first | (with_reducible first | exact HB.out | apply below_alloc | apply pw_below_drewN | apply below_drew1 | refine below_set ?_ GE255.out) | exact HB.out))⟩)
                 ·
                  skip
                  rintro v247 w34 ⟨h0_, h1_⟩
                  have n0_ : Aside0 (Kd.R Kd.bool 4 w34 w.heap.size (fun _ => True) v247 y246) := ⟨h0_⟩
                  have n1_ : Aside0 (Below w.heap.size w w34) := ⟨h1_⟩
                  clear HB
                  clear h0_ h1_
                  have HO248 := n0_
                  have HB := n1_
                  clear n0_ n1_
                  have hHeld := trivial
                  refine norm_ (a' := ?_) ?_ ?_
                  rotate_left
                  ·
                   simp only [putAll, Act.put, List.setIfInBounds_toArray, List.set_cons_zero, List.set_cons_succ]
                   rfl
                  refine two_ (i := 0) (j := 9) (Ni := some 35) (Nj := some 8) #[true, true, true, true, true, false, false, false, false, false, false, false] #[false, true, true, true, true, false, false, false, false, true, false, false] rfl rfl rfl rfl (two_of HT_.out (by kernel_rfl)) (by decide) (by decide) (fun K hK => ?_) (fun K hK => ?_)
                  ·
                   skip
                   refine goes_ Tryd.func15 (by kernel_rfl) rfl #[.slice none 0 0] (by rfl) rfl rfl (by (try simp only [List.map_toArray, List.map_cons, List.map_nil]); first | done | rfl | (simp only [List.length_drop, List.length_take]; rfl)) ?_
                   refine (pick_Start.calls _ _ ([] : List Int) t241 t244 t245 _ ?side1 ?side2 A10.out).mono ?_
                   (case side1 => exact Kd.C_nil _ _)
                   (case side2 => exact Nat.le_refl _)
                   rintro e w35 ⟨v242, rfl, ho0, hb⟩
                   refine ⟨_, rfl, ?_⟩
                   have n0_ := Aside0.mk (Kd.R_below (by (with_reducible repeat (first | apply Kd.R_alloc | apply Kd.R_drewN | apply Kd.R_drew)); exact HO248.out) hb)
                   have n1_ := Aside0.mk (Kd.R_lower ho0 (below_size (by repeat (first | (with_reducible first | exact HB.out | apply below_alloc | apply pw_below_drewN | apply below_drew1) | exact HB.out))))
                   have n2_ := Aside0.mk (below_step (by repeat (first | (with_reducible first | exact HB.out | apply below_alloc | apply pw_below_drewN | apply below_drew1) | exact HB.out)) hb)
                   clear HO248
                   clear HB
                   have HO248 := n0_
                   have HO243 := n1_
                   have HB := n2_
                   clear n0_ n1_ n2_
                   (try clear hb)
                   (try clear hb2)
                   (try clear hk)
                   (try clear hi)
                   (try clear ho0)
                   refine hK.out _ _ trivial (fun hHeld => ?_)
                   clear hK K
                   refine norm_ (a' := ?_) ?_ ?_
                   rotate_left
                   ·
                    show Act.put _ (some 35) _ = _
                    simp only [Act.put, List.setIfInBounds_toArray, List.set_cons_zero, List.set_cons_succ, i64_w, i32_w]
                    rfl
                   exact norm_ (by first | (simp only [putAll, Act.put, List.setIfInBounds_toArray, List.set_cons_zero, List.set_cons_succ]; done) | (simp only [putAll, Act.put, List.setIfInBounds_toArray, List.set_cons_zero, List.set_cons_succ]; rfl)) (hJ0_4 (v242, v247) _ ⟨(by (with_reducible repeat (first | apply Kd.R_alloc | apply Kd.R_drewN | apply Kd.R_drew)); exact HO243.out), (by (with_reducible repeat (first | apply Kd.R_alloc | apply Kd.R_drewN | apply Kd.R_drew)); exact HO248.out), (by repeat (first | (with_reducible first | exact HB.out | apply below_alloc | apply pw_below_drewN | apply below_drew1) | exact HB.out))⟩)
                  ·
                   skip
                   refine box_step ?hg (N := 8) ?hd (cs := #[.slice none 0 0, .int .i64 0, .int .i64 0]) (t := 24) ?hr ?_; (case hd => rfl); (case hg => rfl); (case hr => first | (go_simp; done) | (go_simp; rfl))
                   intro gb255 hg w35 hbox hb
                   have n0_ := Aside0.mk (Kd.R_below (by (with_reducible repeat (first | apply Kd.R_alloc | apply Kd.R_drewN | apply Kd.R_drew)); exact HO248.out) hb)
                   have n1_ := Aside0.mk (below_step (by repeat (first | (with_reducible first | exact HB.out | apply below_alloc | apply pw_below_drewN | apply below_drew1) | exact HB.out)) hb)
                   have n2_ := Aside0.mk (hbox)
                   have n3_ := Aside0.mk ((by rw [hg]; exact (below_size (by repeat (first | (with_reducible first | exact HB.out | apply below_alloc | apply pw_below_drewN | apply below_drew1) | exact HB.out))) : w.heap.size ≤ gb255))
                   have n4_ := Aside0.mk ((by rw [hg]; exact (below_size (by repeat (first | (with_reducible first | exact HB.out | apply below_alloc | apply pw_below_drewN | apply below_drew1) | exact HB.out))) : w.heap.size ≤ gb255))
                   clear HO248
                   clear HB
                   have HO248 := n0_
                   have HB := n1_
                   have BK255 := n2_
                   have GW255 := n3_
                   have GE255 := n4_
                   clear n0_ n1_ n2_ n3_ n4_
                   clear hb hbox hg
                   refine hK.out _ _ trivial (fun hHeld => ?_)
                   clear hK K
                   refine norm_ (a' := ?_) ?_ ?_
                   rotate_left
                   ·
                    show Act.put _ (some 8) _ = _
                    simp only [Act.put, List.setIfInBounds_toArray, List.set_cons_zero, List.set_cons_succ, i64_w, i32_w]
                    rfl
                   exact norm_ (by first | (simp only [putAll, Act.put, List.setIfInBounds_toArray, List.set_cons_zero, List.set_cons_succ]; done) | (simp only [putAll, Act.put, List.setIfInBounds_toArray, List.set_cons_zero, List.set_cons_succ]; rfl)) (hJ4_9 (v247, gb255) _ ⟨(by (with_reducible repeat (first | apply Kd.R_alloc | apply Kd.R_drewN | apply Kd.R_drew)); exact HO248.out), (by (with_reducible repeat (first | refine blk_drewN ?_ _ | refine blk_drew ?_ | refine blk_alloc ?_ _)); exact BK255.out), GW255.out, GE255.out, (by repeat (first | (with_reducible first | exact HB.out | apply below_alloc | apply pw_below_drewN | apply below_drew1 | refine below_set ?_ GE255.out) | exact HB.out))⟩)
                ·
                 skip
                 rintro v242 w33 ⟨h0_, h1_⟩
                 have n0_ : Aside0 (Kd.R (Kd.int .i64) 3 w33 w.heap.size (fun _ => True) v242 t241) := ⟨h0_⟩
                 have n1_ : Aside0 (Below w.heap.size w w33) := ⟨h1_⟩
                 clear HB
                 clear h0_ h1_
                 have HO243 := n0_
                 have HB := n1_
                 clear n0_ n1_
                 have hHeld := trivial
                 refine norm_ (a' := ?_) ?_ ?_
                 rotate_left
                 ·
                  simp only [putAll, Act.put, List.setIfInBounds_toArray, List.set_cons_zero, List.set_cons_succ]
                  rfl
                 refine two_ (i := 4) (j := 9) (Ni := some 39) (Nj := some 8) #[true, true, true, true, true, false, false, false, false, false, false, false] #[true, true, true, true, false, false, false, false, false, true, false, false] rfl rfl rfl rfl (two_of HT_.out (by kernel_rfl)) (by decide) (by decide) (fun K hK => ?_) (fun K hK => ?_)
                 ·
                  skip
                  refine Kd.R_make_step Kd.bool _ 4 (by rfl) (N := 39) rfl 25 _ _ rfl ji11 rfl rfl Tryd.underlying25 (.bool false) 1 info4 rfl (by decide) (by omega) false (ok := fun _ => True) (okp := fun _ => True) rfl (fun _ hk => hk) trivial (of_decide_eq_true (by first | (with_reducible assumption) | assumption)) (Nat.le_trans (Nat.mul_le_mul_right _ (of_decide_eq_true (by first | (with_reducible assumption) | assumption) : ji11.toNat ≤ 281474976710656)) (by omega)) (Below.refl _ _) (Nat.le_refl _) ?_
                  intro v247 w34 ho35 hb hg_ hnew_
                  clear hg_ hnew_
                  (first | rw [← Ny246.out] at ho35 | (simp only [Int.reduceToNat] at ho35; rw [← Ny246.out] at ho35))
                  have n0_ := Aside0.mk (Kd.R_below (by (with_reducible repeat (first | apply Kd.R_alloc | apply Kd.R_drewN | apply Kd.R_drew)); exact HO243.out) hb)
                  have n1_ := Aside0.mk (Kd.R_lower ho35 (below_size (by repeat (first | (with_reducible first | exact HB.out | apply below_alloc | apply pw_below_drewN | apply below_drew1) | exact HB.out))))
                  have n2_ := Aside0.mk (below_step (by repeat (first | (with_reducible first | exact HB.out | apply below_alloc | apply pw_below_drewN | apply below_drew1) | exact HB.out)) hb)
                  clear HO243
                  clear HB
                  have HO243 := n0_
                  have HO248 := n1_
                  have HB := n2_
                  clear n0_ n1_ n2_
                  clear hb ho35
                  refine hK.out _ _ trivial (fun hHeld => ?_)
                  clear hK K
                  refine norm_ (a' := ?_) ?_ ?_
                  rotate_left
                  ·
                   show Act.put _ (some 39) _ = _
                   simp only [Act.put, List.setIfInBounds_toArray, List.set_cons_zero, List.set_cons_succ, i64_w, i32_w]
                   rfl
                  exact norm_ (by first | (simp only [putAll, Act.put, List.setIfInBounds_toArray, List.set_cons_zero, List.set_cons_succ]; done) | (simp only [putAll, Act.put, List.setIfInBounds_toArray, List.set_cons_zero, List.set_cons_succ]; rfl)) (hJ0_4 (v242, v247) _ ⟨(by (with_reducible repeat (first | apply Kd.R_alloc | apply Kd.R_drewN | apply Kd.R_drew)); exact HO243.out), (by (with_reducible repeat (first | apply Kd.R_alloc | apply Kd.R_drewN | apply Kd.R_drew)); exact HO248.out), (by repeat (first | (with_reducible first | exact HB.out | apply below_alloc | apply pw_below_drewN | apply below_drew1) | exact HB.out))⟩)
                 ·
                  skip
                  refine box_step ?hg (N := 8) ?hd (cs := #[.slice none 0 0, .int .i64 0, .int .i64 0]) (t := 24) ?hr ?_; (case hd => rfl); (case hg => rfl); (case hr => first | (go_simp; done) | (go_simp; rfl))
                  intro gb255 hg w34 hbox hb
                  have n0_ := Aside0.mk (Kd.R_below (by (with_reducible repeat (first | apply Kd.R_alloc | apply Kd.R_drewN | apply Kd.R_drew)); exact HO243.out) hb)
                  have n1_ := Aside0.mk (below_step (by repeat (first | (with_reducible first | exact HB.out | apply below_alloc | apply pw_below_drewN | apply below_drew1) | exact HB.out)) hb)
                  have n2_ := Aside0.mk (hbox)
                  have n3_ := Aside0.mk ((by rw [hg]; exact (below_size (by repeat (first | (with_reducible first | exact HB.out | apply below_alloc | apply pw_below_drewN | apply below_drew1) | exact HB.out))) : w.heap.size ≤ gb255))
                  have n4_ := Aside0.mk ((by rw [hg]; exact (below_size (by repeat (first | (with_reducible first | exact HB.out | apply below_alloc | apply pw_below_drewN | apply below_drew1) | exact HB.out))) : w.heap.size ≤ gb255))
                  clear HO243
                  clear HB
                  have HO243 := n0_
                  have HB := n1_
                  have BK255 := n2_
                  have GW255 := n3_
                  have GE255 := n4_
                  clear n0_ n1_ n2_ n3_ n4_
                  clear hb hbox hg
                  refine hK.out _ _ trivial (fun hHeld => ?_)
                  clear hK K
                  refine norm_ (a' := ?_) ?_ ?_
                  rotate_left
                  ·
                   show Act.put _ (some 8) _ = _
                   simp only [Act.put, List.setIfInBounds_toArray, List.set_cons_zero, List.set_cons_succ, i64_w, i32_w]
                   rfl
                  exact norm_ (by first | (simp only [putAll, Act.put, List.setIfInBounds_toArray, List.set_cons_zero, List.set_cons_succ]; done) | (simp only [putAll, Act.put, List.setIfInBounds_toArray, List.set_cons_zero, List.set_cons_succ]; rfl)) (hJ0_9 (v242, gb255) _ ⟨(by (with_reducible repeat (first | apply Kd.R_alloc | apply Kd.R_drewN | apply Kd.R_drew)); exact HO243.out), (by (with_reducible repeat (first | refine blk_drewN ?_ _ | refine blk_drew ?_ | refine blk_alloc ?_ _)); exact BK255.out), GW255.out, GE255.out, (by repeat (first | (with_reducible first | exact HB.out | apply below_alloc | apply pw_below_drewN | apply below_drew1 | refine below_set ?_ GE255.out) | exact HB.out))⟩)
               ·
                skip
                rintro ⟨v247, gb255⟩ w35 ⟨h0_, h1_, h2_, h3_, h4_⟩
                have n0_ : Aside0 (Kd.R Kd.bool 4 w35 w.heap.size (fun _ => True) v247 y246) := ⟨h0_⟩
                have n1_ : Aside0 (w35.heap[gb255]? = some (.cells #[.slice none 0 0, .int .i64 0, .int .i64 0] 24 (0, 0))) := ⟨h1_⟩
                have n2_ : Aside0 (w.heap.size ≤ gb255) := ⟨h2_⟩
                have n3_ : Aside0 (w.heap.size ≤ gb255) := ⟨h3_⟩
                have n4_ : Aside0 (Below w.heap.size w w35) := ⟨h4_⟩
                clear HB
                clear h0_ h1_ h2_ h3_ h4_
                have HO248 := n0_
                have BK255 := n1_
                have GW255 := n2_
                have GE255 := n3_
                have HB := n4_
                clear n0_ n1_ n2_ n3_ n4_
                have hHeld := trivial
                refine norm_ (a' := ?_) ?_ ?_
                rotate_left
                ·
                 simp only [putAll, Act.put, List.setIfInBounds_toArray, List.set_cons_zero, List.set_cons_succ]
                 rfl
                refine one_ (i := 0) (N := some 35) #[true, true, true, true, true, false, false, false, false, true, false, false] rfl rfl (one_of HT_.out (by kernel_rfl)) (by decide) (fun K hK => ?_)
                refine goes_ Tryd.func15 (by kernel_rfl) rfl #[.slice none 0 0] (by rfl) rfl rfl (by (try simp only [List.map_toArray, List.map_cons, List.map_nil]); first | done | rfl | (simp only [List.length_drop, List.length_take]; rfl)) ?_
                refine (pick_Start.calls _ _ ([] : List Int) t241 t244 t245 _ ?side1 ?side2 A10.out).mono ?_
                (case side1 => exact Kd.C_nil _ _)
                (case side2 => exact Nat.le_refl _)
                rintro e w36 ⟨v242, rfl, ho0, hb⟩
                refine ⟨_, rfl, ?_⟩
                have n0_ := Aside0.mk (Kd.R_below (by (with_reducible repeat (first | apply Kd.R_alloc | apply Kd.R_drewN | apply Kd.R_drew)); exact HO248.out) hb)
                have n1_ := Aside0.mk (Kd.R_lower ho0 (below_size (by repeat (first | (with_reducible first | exact HB.out | apply below_alloc | apply pw_below_drewN | apply below_drew1 | refine below_set ?_ GE255.out) | exact HB.out))))
                have n2_ := Aside0.mk (blk_below (g := gb255) (o := .cells #[.slice none 0 0, .int .i64 0, .int .i64 0] 24 (0, 0)) (by (with_reducible repeat (first | refine blk_drewN ?_ _ | refine blk_drew ?_ | refine blk_alloc ?_ _)); exact BK255.out) hb)
                have n3_ := Aside0.mk (below_step (by repeat (first | (with_reducible first | exact HB.out | apply below_alloc | apply pw_below_drewN | apply below_drew1 | refine below_set ?_ GE255.out) | exact HB.out)) hb)
                clear HO248
                clear BK255
                clear HB
                have HO248 := n0_
                have HO243 := n1_
                have BK255 := n2_
                have HB := n3_
                clear n0_ n1_ n2_ n3_
                (try clear hb)
                (try clear hb2)
                (try clear hk)
                (try clear hi)
                (try clear ho0)
                refine hK.out _ _ trivial (fun hHeld => ?_)
                clear hK K
                refine norm_ (a' := ?_) ?_ ?_
                rotate_left
                ·
                 show Act.put _ (some 35) _ = _
                 simp only [Act.put, List.setIfInBounds_toArray, List.set_cons_zero, List.set_cons_succ, i64_w, i32_w]
                 rfl
                exact norm_ (by first | (simp only [putAll, Act.put, List.setIfInBounds_toArray, List.set_cons_zero, List.set_cons_succ]; done) | (simp only [putAll, Act.put, List.setIfInBounds_toArray, List.set_cons_zero, List.set_cons_succ]; rfl)) (hJ0_4_9 (v242, v247, gb255) _ ⟨(by (with_reducible repeat (first | apply Kd.R_alloc | apply Kd.R_drewN | apply Kd.R_drew)); exact HO243.out), (by (with_reducible repeat (first | apply Kd.R_alloc | apply Kd.R_drewN | apply Kd.R_drew)); exact HO248.out), (by (with_reducible repeat (first | refine blk_drewN ?_ _ | refine blk_drew ?_ | refine blk_alloc ?_ _)); exact BK255.out), GW255.out, GE255.out, (by repeat (first | (with_reducible first | exact HB.out | apply below_alloc | apply pw_below_drewN | apply below_drew1 | refine below_set ?_ GE255.out) | exact HB.out))⟩)
              ·
               skip
               rintro ⟨v242, gb255⟩ w34 ⟨h0_, h1_, h2_, h3_, h4_⟩
               have n0_ : Aside0 (Kd.R (Kd.int .i64) 3 w34 w.heap.size (fun _ => True) v242 t241) := ⟨h0_⟩
               have n1_ : Aside0 (w34.heap[gb255]? = some (.cells #[.slice none 0 0, .int .i64 0, .int .i64 0] 24 (0, 0))) := ⟨h1_⟩
               have n2_ : Aside0 (w.heap.size ≤ gb255) := ⟨h2_⟩
               have n3_ : Aside0 (w.heap.size ≤ gb255) := ⟨h3_⟩
               have n4_ : Aside0 (Below w.heap.size w w34) := ⟨h4_⟩
               clear HB
               clear h0_ h1_ h2_ h3_ h4_
               have HO243 := n0_
               have BK255 := n1_
               have GW255 := n2_
               have GE255 := n3_
               have HB := n4_
               clear n0_ n1_ n2_ n3_ n4_
               have hHeld := trivial
               refine norm_ (a' := ?_) ?_ ?_
               rotate_left
               ·
                simp only [putAll, Act.put, List.setIfInBounds_toArray, List.set_cons_zero, List.set_cons_succ]
                rfl
               refine one_ (i := 4) (N := some 39) #[true, true, true, true, true, false, false, false, false, true, false, false] rfl rfl (one_of HT_.out (by kernel_rfl)) (by decide) (fun K hK => ?_)
               refine Kd.R_make_step Kd.bool _ 4 (by rfl) (N := 39) rfl 25 _ _ rfl ji11 rfl rfl Tryd.underlying25 (.bool false) 1 info4 rfl (by decide) (by omega) false (ok := fun _ => True) (okp := fun _ => True) rfl (fun _ hk => hk) trivial (of_decide_eq_true (by first | (with_reducible assumption) | assumption)) (Nat.le_trans (Nat.mul_le_mul_right _ (of_decide_eq_true (by first | (with_reducible assumption) | assumption) : ji11.toNat ≤ 281474976710656)) (by omega)) (Below.refl _ _) (Nat.le_refl _) ?_
               intro v247 w35 ho36 hb hg_ hnew_
               clear hg_ hnew_
               (first | rw [← Ny246.out] at ho36 | (simp only [Int.reduceToNat] at ho36; rw [← Ny246.out] at ho36))
               have n0_ := Aside0.mk (Kd.R_below (by (with_reducible repeat (first | apply Kd.R_alloc | apply Kd.R_drewN | apply Kd.R_drew)); exact HO243.out) hb)
               have n1_ := Aside0.mk (Kd.R_lower ho36 (below_size (by repeat (first | (with_reducible first | exact HB.out | apply below_alloc | apply pw_below_drewN | apply below_drew1 | refine below_set ?_ GE255.out) | exact HB.out))))
               have n2_ := Aside0.mk (blk_below (g := gb255) (o := .cells #[.slice none 0 0, .int .i64 0, .int .i64 0] 24 (0, 0)) (by (with_reducible repeat (first | refine blk_drewN ?_ _ | refine blk_drew ?_ | refine blk_alloc ?_ _)); exact BK255.out) hb)
               have n3_ := Aside0.mk (below_step (by repeat (first | (with_reducible first | exact HB.out | apply below_alloc | apply pw_below_drewN | apply below_drew1 | refine below_set ?_ GE255.out) | exact HB.out)) hb)
               clear HO243
               clear BK255
               clear HB
               have HO243 := n0_
               have HO248 := n1_
               have BK255 := n2_
               have HB := n3_
               clear n0_ n1_ n2_ n3_
               clear hb ho36
               refine hK.out _ _ trivial (fun hHeld => ?_)
               clear hK K
               refine norm_ (a' := ?_) ?_ ?_
               rotate_left
               ·
                show Act.put _ (some 39) _ = _
                simp only [Act.put, List.setIfInBounds_toArray, List.set_cons_zero, List.set_cons_succ, i64_w, i32_w]
                rfl
               exact norm_ (by first | (simp only [putAll, Act.put, List.setIfInBounds_toArray, List.set_cons_zero, List.set_cons_succ]; done) | (simp only [putAll, Act.put, List.setIfInBounds_toArray, List.set_cons_zero, List.set_cons_succ]; rfl)) (hJ0_4_9 (v242, v247, gb255) _ ⟨(by (with_reducible repeat (first | apply Kd.R_alloc | apply Kd.R_drewN | apply Kd.R_drew)); exact HO243.out), (by (with_reducible repeat (first | apply Kd.R_alloc | apply Kd.R_drewN | apply Kd.R_drew)); exact HO248.out), (by (with_reducible repeat (first | refine blk_drewN ?_ _ | refine blk_drew ?_ | refine blk_alloc ?_ _)); exact BK255.out), GW255.out, GE255.out, (by repeat (first | (with_reducible first | exact HB.out | apply below_alloc | apply pw_below_drewN | apply below_drew1 | refine below_set ?_ GE255.out) | exact HB.out))⟩)
             ·
              skip
              rintro ⟨v242, v247⟩ w35 ⟨h0_, h1_, h2_⟩
              have n0_ : Aside0 (Kd.R (Kd.int .i64) 3 w35 w.heap.size (fun _ => True) v242 t241) := ⟨h0_⟩
              have n1_ : Aside0 (Kd.R Kd.bool 4 w35 w.heap.size (fun _ => True) v247 y246) := ⟨h1_⟩
              have n2_ : Aside0 (Below w.heap.size w w35) := ⟨h2_⟩
              clear HB
              clear h0_ h1_ h2_
              have HO243 := n0_
              have HO248 := n1_
              have HB := n2_
              clear n0_ n1_ n2_
              have hHeld := trivial
              obtain ⟨Ao36, co36, eo36⟩ := Kd.R_slice HO243.out
              (first | subst eo36 | (injection eo36 with f1_ f2_ f3_; have f4_ := f1_.symm; have f5_ := f3_.symm; clear f1_ f2_ f3_; subst f4_; subst f5_))
              obtain ⟨Ao37, co37, eo37⟩ := Kd.R_slice HO248.out
              (first | subst eo37 | (injection eo37 with f1_ f2_ f3_; have f4_ := f1_.symm; have f5_ := f3_.symm; clear f1_ f2_ f3_; subst f4_; subst f5_))
              refine norm_ (a' := ?_) ?_ ?_
              rotate_left
              ·
               simp only [putAll, Act.put, List.setIfInBounds_toArray, List.set_cons_zero, List.set_cons_succ]
               rfl
              refine two_ (i := 5) (j := 9) (Ni := some 40) (Nj := some 8) #[true, true, true, true, true, true, false, false, false, false, false, false] #[true, true, true, true, true, false, false, false, false, true, false, false] rfl rfl rfl rfl (two_of HT_.out (by kernel_rfl)) (by decide) (by decide) (fun K hK => ?_) (fun K hK => ?_)
              ·
               skip
               refine goes_ Tryd.func13 (by kernel_rfl) rfl #[.agg #[.slice Ao36 t241.length co36, .int .i64 t244, .int .i64 t245], .slice Ao37 y246.length co37] (by rfl) rfl rfl (by (try simp only [List.map_toArray, List.map_cons, List.map_nil]); first | done | rfl | (simp only [List.length_drop, List.length_take]; rfl)) ?_
               with_reducible refine (pick_Next.calls kj6 (fun k_ => some k_ = (.slice Ao36 t241.length co36 : Value).ownBlock) _ _ t241 t244 t245 _ _ y246 t249 t250 t253 t254 _ ?side1 ?side2 ?side3 A14.out).mono ?_
               (case side1 => exact Kd.R_V (Kd.R_tight rfl (Kd.R_apart' (HO243.out) (Kd.R_typed HO248.out) (by decide))))
               (case side2 => repeat (first | exact (Kd.R_reads' HO248.out).2.2 | (with_reducible refine Kd.C_alloc ?_ _) | (with_reducible refine Kd.C_drewN ?_ _) | (with_reducible refine Kd.C_drew ?_)))
               (case side3 => exact (Kd.R_reads' HO248.out).2.1)
               rintro e w38 ⟨v251, rfl, ho0, hb⟩
               refine ⟨_, rfl, ?_⟩
               have n0_ := Aside0.mk (Kd.R_below (by (with_reducible repeat (first | apply Kd.R_alloc | apply Kd.R_drewN | apply Kd.R_drew)); exact HO243.out) hb)
               have n1_ := Aside0.mk (Kd.R_below (by (with_reducible repeat (first | apply Kd.R_alloc | apply Kd.R_drewN | apply Kd.R_drew)); exact HO248.out) hb)
               have n2_ := Aside0.mk (Kd.V_lower (Kd.V_mono (ok' := fun k_ => some k_ ≠ (.slice Ao37 y246.length co37 : Value).ownBlock) ho0 (fun k_ hk_ => Or.elim hk_ (fun hs_ => ((Kd.R_apart' (HO243.out) (Kd.R_typed HO248.out) (by decide)).1 k_ hs_.symm).2) (fun hn_ => (Kd.fresh' (Kd.R_lt (by (with_reducible repeat (first | apply Kd.R_alloc | apply Kd.R_drewN | apply Kd.R_drew)); exact HO248.out)) k_ hn_)))) (below_size (by repeat (first | (with_reducible first | exact HB.out | apply below_alloc | apply pw_below_drewN | apply below_drew1) | exact HB.out))))
               have n3_ := Aside0.mk (below_step (by repeat (first | (with_reducible first | exact HB.out | apply below_alloc | apply pw_below_drewN | apply below_drew1) | exact HB.out)) hb)
               clear HO243
               clear HO248
               clear HB
               have HO243 := n0_
               have HO248 := n1_
               have HO252 := n2_
               have HB := n3_
               clear n0_ n1_ n2_ n3_
               (try clear hb)
               (try clear hb2)
               (try clear hk)
               (try clear hi)
               (try clear ho0)
               refine hK.out _ _ trivial (fun hHeld => ?_)
               clear hK K
               refine norm_ (a' := ?_) ?_ ?_
               rotate_left
               ·
                show Act.put _ (some 40) _ = _
                simp only [Act.put, List.setIfInBounds_toArray, List.set_cons_zero, List.set_cons_succ, i64_w, i32_w]
                rfl
               refine pure_ (i := 6) (N := some 34) (v := ?_) (a' := ?_) #[true, true, true, true, true, true, true, false, false, false, false, false] rfl rfl (any_of HT_.out (by kernel_rfl)) (fun _ _ _ h => h) (Or.inl ⟨by rfl, ?_⟩) ?_ ?_
               rotate_left
               ·
                intro w'
                go_simp
                with_reducible rfl
               rotate_left
               ·
                simp only [Act.put, List.setIfInBounds_toArray, List.set_cons_zero, List.set_cons_succ, i64_w, i32_w]
                rfl
               refine pure_ (i := 7) (N := some 41) (v := ?_) (a' := ?_) #[true, true, true, true, true, true, true, true, false, false, false, false] rfl rfl (any_of HT_.out (by kernel_rfl)) (fun _ _ _ h => h) (Or.inl ⟨by rfl, ?_⟩) ?_ ?_
               rotate_left
               ·
                intro w'
                go_simp
                with_reducible rfl
               rotate_left
               ·
                simp only [Act.put, List.setIfInBounds_toArray, List.set_cons_zero, List.set_cons_succ, i64_w, i32_w]
                rfl
               refine pure_ (i := 8) (N := some 42) (v := ?_) (a' := ?_) #[true, true, true, true, true, true, true, true, true, false, false, false] rfl rfl (any_of HT_.out (by kernel_rfl)) (fun _ _ _ h => h) (Or.inl ⟨by rfl, ?_⟩) ?_ ?_
               rotate_left
               ·
                intro w'
                go_simp
                with_reducible rfl
               rotate_left
               ·
                simp only [Act.put, List.setIfInBounds_toArray, List.set_cons_zero, List.set_cons_succ, i64_w, i32_w]
                rfl
               exact norm_ (by first | (simp only [putAll, Act.put, List.setIfInBounds_toArray, List.set_cons_zero, List.set_cons_succ]; done) | (simp only [putAll, Act.put, List.setIfInBounds_toArray, List.set_cons_zero, List.set_cons_succ]; rfl)) (hJ0_4_5 (.slice Ao36 t241.length co36, .slice Ao37 y246.length co37, v251) _ ⟨(by (with_reducible repeat (first | apply Kd.R_alloc | apply Kd.R_drewN | apply Kd.R_drew)); exact HO243.out), (by (with_reducible repeat (first | apply Kd.R_alloc | apply Kd.R_drewN | apply Kd.R_drew)); exact HO248.out), (by (with_reducible repeat (first | apply Kd.V_alloc | apply Kd.V_drewN | apply Kd.V_drew)); exact HO252.out), (by repeat (first | (with_reducible first | exact HB.out | apply below_alloc | apply pw_below_drewN | apply below_drew1) | exact HB.out))⟩)
              ·
               skip
               refine box_step ?hg (N := 8) ?hd (cs := #[.slice none 0 0, .int .i64 0, .int .i64 0]) (t := 24) ?hr ?_; (case hd => rfl); (case hg => rfl); (case hr => first | (go_simp; done) | (go_simp; rfl))
               intro gb255 hg w36 hbox hb
               have n0_ := Aside0.mk (Kd.R_below (by (with_reducible repeat (first | apply Kd.R_alloc | apply Kd.R_drewN | apply Kd.R_drew)); exact HO243.out) hb)
               have n1_ := Aside0.mk (Kd.R_below (by (with_reducible repeat (first | apply Kd.R_alloc | apply Kd.R_drewN | apply Kd.R_drew)); exact HO248.out) hb)
               have n2_ := Aside0.mk (below_step (by repeat (first | (with_reducible first | exact HB.out | apply below_alloc | apply pw_below_drewN | apply below_drew1) | exact HB.out)) hb)
               have n3_ := Aside0.mk (hbox)
               have n4_ := Aside0.mk ((by rw [hg]; exact (below_size (by repeat (first | (with_reducible first | exact HB.out | apply below_alloc | apply pw_below_drewN | apply below_drew1) | exact HB.out))) : w.heap.size ≤ gb255))
               have n5_ := Aside0.mk ((by rw [hg]; exact (below_size (by repeat (first | (with_reducible first | exact HB.out | apply below_alloc | apply pw_below_drewN | apply below_drew1) | exact HB.out))) : w.heap.size ≤ gb255))
               clear HO243
               clear HO248
               clear HB
               have HO243 := n0_
               have HO248 := n1_
               have HB := n2_
               have BK255 := n3_
               have GW255 := n4_
               have GE255 := n5_
               clear n0_ n1_ n2_ n3_ n4_ n5_
               clear hb hbox hg
               refine hK.out _ _ trivial (fun hHeld => ?_)
               clear hK K
               refine norm_ (a' := ?_) ?_ ?_
               rotate_left
               ·
                show Act.put _ (some 8) _ = _
                simp only [Act.put, List.setIfInBounds_toArray, List.set_cons_zero, List.set_cons_succ, i64_w, i32_w]
                rfl
               exact norm_ (by first | (simp only [putAll, Act.put, List.setIfInBounds_toArray, List.set_cons_zero, List.set_cons_succ]; done) | (simp only [putAll, Act.put, List.setIfInBounds_toArray, List.set_cons_zero, List.set_cons_succ]; rfl)) (hJ0_4_9 (.slice Ao36 t241.length co36, .slice Ao37 y246.length co37, gb255) _ ⟨(by (with_reducible repeat (first | apply Kd.R_alloc | apply Kd.R_drewN | apply Kd.R_drew)); exact HO243.out), (by (with_reducible repeat (first | apply Kd.R_alloc | apply Kd.R_drewN | apply Kd.R_drew)); exact HO248.out), (by (with_reducible repeat (first | refine blk_drewN ?_ _ | refine blk_drew ?_ | refine blk_alloc ?_ _)); exact BK255.out), GW255.out, GE255.out, (by repeat (first | (with_reducible first | exact HB.out | apply below_alloc | apply pw_below_drewN | apply below_drew1 | refine below_set ?_ GE255.out) | exact HB.out))⟩)
            ·
             skip
             rintro ⟨v242, v247, gb255⟩ w36 ⟨h0_, h1_, h2_, h3_, h4_, h5_⟩
             have n0_ : Aside0 (Kd.R (Kd.int .i64) 3 w36 w.heap.size (fun _ => True) v242 t241) := ⟨h0_⟩
             have n1_ : Aside0 (Kd.R Kd.bool 4 w36 w.heap.size (fun _ => True) v247 y246) := ⟨h1_⟩
             have n2_ : Aside0 (w36.heap[gb255]? = some (.cells #[.slice none 0 0, .int .i64 0, .int .i64 0] 24 (0, 0))) := ⟨h2_⟩
             have n3_ : Aside0 (w.heap.size ≤ gb255) := ⟨h3_⟩
             have n4_ : Aside0 (w.heap.size ≤ gb255) := ⟨h4_⟩
             have n5_ : Aside0 (Below w.heap.size w w36) := ⟨h5_⟩
             clear HB
             clear h0_ h1_ h2_ h3_ h4_ h5_
             have HO243 := n0_
             have HO248 := n1_
             have BK255 := n2_
             have GW255 := n3_
             have GE255 := n4_
             have HB := n5_
             clear n0_ n1_ n2_ n3_ n4_ n5_
             have hHeld := trivial
             obtain ⟨Ao37, co37, eo37⟩ := Kd.R_slice HO243.out
             (first | subst eo37 | (injection eo37 with f1_ f2_ f3_; have f4_ := f1_.symm; have f5_ := f3_.symm; clear f1_ f2_ f3_; subst f4_; subst f5_))
             obtain ⟨Ao38, co38, eo38⟩ := Kd.R_slice HO248.out
             (first | subst eo38 | (injection eo38 with f1_ f2_ f3_; have f4_ := f1_.symm; have f5_ := f3_.symm; clear f1_ f2_ f3_; subst f4_; subst f5_))
             refine norm_ (a' := ?_) ?_ ?_
             rotate_left
             ·
              simp only [putAll, Act.put, List.setIfInBounds_toArray, List.set_cons_zero, List.set_cons_succ]
              rfl
             refine one_ (i := 5) (N := some 40) #[true, true, true, true, true, true, false, false, false, true, false, false] rfl rfl (one_of HT_.out (by kernel_rfl)) (by decide) (fun K hK => ?_)
             refine goes_ Tryd.func13 (by kernel_rfl) rfl #[.agg #[.slice Ao37 t241.length co37, .int .i64 t244, .int .i64 t245], .slice Ao38 y246.length co38] (by rfl) rfl rfl (by (try simp only [List.map_toArray, List.map_cons, List.map_nil]); first | done | rfl | (simp only [List.length_drop, List.length_take]; rfl)) ?_
             with_reducible refine (pick_Next.calls kj6 (fun k_ => some k_ = (.slice Ao37 t241.length co37 : Value).ownBlock) _ _ t241 t244 t245 _ _ y246 t249 t250 t253 t254 _ ?side1 ?side2 ?side3 A14.out).mono ?_
             (case side1 => exact Kd.R_V (Kd.R_tight rfl (Kd.R_types (Kd.R_apart' (HO243.out) (Kd.R_typed HO248.out) (by decide)) BK255.out (by decide))))
             (case side2 => repeat (first | exact (Kd.R_reads' HO248.out).2.2 | (with_reducible refine Kd.C_alloc ?_ _) | (with_reducible refine Kd.C_drewN ?_ _) | (with_reducible refine Kd.C_drew ?_)))
             (case side3 => exact (Kd.R_reads' HO248.out).2.1)
             rintro e w39 ⟨v251, rfl, ho0, hb⟩
             refine ⟨_, rfl, ?_⟩
             have n0_ := Aside0.mk (Kd.R_below (by (with_reducible repeat (first | apply Kd.R_alloc | apply Kd.R_drewN | apply Kd.R_drew)); exact HO243.out) hb)
             have n1_ := Aside0.mk (Kd.R_below (by (with_reducible repeat (first | apply Kd.R_alloc | apply Kd.R_drewN | apply Kd.R_drew)); exact HO248.out) hb)
             have n2_ := Aside0.mk (Kd.V_lower (Kd.V_mono (ok' := fun k_ => some k_ ≠ (.slice Ao38 y246.length co38 : Value).ownBlock ∧ k_ ≠ gb255) ho0 (fun k_ hk_ => ⟨Or.elim hk_ (fun hs_ => ((Kd.R_types (Kd.R_apart' (HO243.out) (Kd.R_typed HO248.out) (by decide)) BK255.out (by decide)).1 k_ hs_.symm).1.2) (fun hn_ => (Kd.fresh' (Kd.R_lt (by (with_reducible repeat (first | apply Kd.R_alloc | apply Kd.R_drewN | apply Kd.R_drew)); exact HO248.out)) k_ hn_)), Or.elim hk_ (fun hs_ => ((Kd.R_types (Kd.R_apart' (HO243.out) (Kd.R_typed HO248.out) (by decide)) BK255.out (by decide)).1 k_ hs_.symm).2) (fun hn_ => (Kd.freshB (g := gb255) (o := .cells #[.slice none 0 0, .int .i64 0, .int .i64 0] 24 (0, 0)) (by (with_reducible repeat (first | refine blk_drewN ?_ _ | refine blk_drew ?_ | refine blk_alloc ?_ _)); exact BK255.out) k_ hn_))⟩)) (below_size (by repeat (first | (with_reducible first | exact HB.out | apply below_alloc | apply pw_below_drewN | apply below_drew1 | refine below_set ?_ GE255.out) | exact HB.out))))
             have n3_ := Aside0.mk (blk_below (g := gb255) (o := .cells #[.slice none 0 0, .int .i64 0, .int .i64 0] 24 (0, 0)) (by (with_reducible repeat (first | refine blk_drewN ?_ _ | refine blk_drew ?_ | refine blk_alloc ?_ _)); exact BK255.out) hb)
             have n4_ := Aside0.mk (below_step (by repeat (first | (with_reducible first | exact HB.out | apply below_alloc | apply pw_below_drewN | apply below_drew1 | refine below_set ?_ GE255.out) | exact HB.out)) hb)
             clear HO243
             clear HO248
             clear BK255
             clear HB
             have HO243 := n0_
             have HO248 := n1_
             have HO252 := n2_
             have BK255 := n3_
             have HB := n4_
             clear n0_ n1_ n2_ n3_ n4_
             (try clear hb)
             (try clear hb2)
             (try clear hk)
             (try clear hi)
             (try clear ho0)
             refine hK.out _ _ trivial (fun hHeld => ?_)
             clear hK K
             refine norm_ (a' := ?_) ?_ ?_
             rotate_left
             ·
              show Act.put _ (some 40) _ = _
              simp only [Act.put, List.setIfInBounds_toArray, List.set_cons_zero, List.set_cons_succ, i64_w, i32_w]
              rfl
             refine pure_ (i := 6) (N := some 34) (v := ?_) (a' := ?_) #[true, true, true, true, true, true, true, false, false, true, false, false] rfl rfl (any_of HT_.out (by kernel_rfl)) (fun _ _ _ h => h) (Or.inl ⟨by rfl, ?_⟩) ?_ ?_
             rotate_left
             ·
              intro w'
              go_simp
              with_reducible rfl
             rotate_left
             ·
              simp only [Act.put, List.setIfInBounds_toArray, List.set_cons_zero, List.set_cons_succ, i64_w, i32_w]
              rfl
             refine pure_ (i := 7) (N := some 41) (v := ?_) (a' := ?_) #[true, true, true, true, true, true, true, true, false, true, false, false] rfl rfl (any_of HT_.out (by kernel_rfl)) (fun _ _ _ h => h) (Or.inl ⟨by rfl, ?_⟩) ?_ ?_
             rotate_left
             ·
              intro w'
              go_simp
              with_reducible rfl
             rotate_left
             ·
              simp only [Act.put, List.setIfInBounds_toArray, List.set_cons_zero, List.set_cons_succ, i64_w, i32_w]
              rfl
             refine pure_ (i := 8) (N := some 42) (v := ?_) (a' := ?_) #[true, true, true, true, true, true, true, true, true, true, false, false] rfl rfl (any_of HT_.out (by kernel_rfl)) (fun _ _ _ h => h) (Or.inl ⟨by rfl, ?_⟩) ?_ ?_
             rotate_left
             ·
              intro w'
              go_simp
              with_reducible rfl
             rotate_left
             ·
              simp only [Act.put, List.setIfInBounds_toArray, List.set_cons_zero, List.set_cons_succ, i64_w, i32_w]
              rfl
             exact norm_ (by first | (simp only [putAll, Act.put, List.setIfInBounds_toArray, List.set_cons_zero, List.set_cons_succ]; done) | (simp only [putAll, Act.put, List.setIfInBounds_toArray, List.set_cons_zero, List.set_cons_succ]; rfl)) (hJ0_4_5_9 (.slice Ao37 t241.length co37, .slice Ao38 y246.length co38, v251, gb255) _ ⟨(by (with_reducible repeat (first | apply Kd.R_alloc | apply Kd.R_drewN | apply Kd.R_drew)); exact HO243.out), (by (with_reducible repeat (first | apply Kd.R_alloc | apply Kd.R_drewN | apply Kd.R_drew)); exact HO248.out), (by (with_reducible repeat (first | apply Kd.V_alloc | apply Kd.V_drewN | apply Kd.V_drew)); exact HO252.out), (by (with_reducible repeat (first | refine blk_drewN ?_ _ | refine blk_drew ?_ | refine blk_alloc ?_ _)); exact BK255.out), GW255.out, GE255.out, (by repeat (first | (with_reducible first | exact HB.out | apply below_alloc | apply pw_below_drewN | apply below_drew1 | refine below_set ?_ GE255.out) | exact HB.out))⟩)
           ·
            skip
            rintro ⟨v242, v247, v251⟩ w38 ⟨h0_, h1_, h2_, h3_⟩
            have n0_ : Aside0 (Kd.R (Kd.int .i64) 3 w38 w.heap.size (fun _ => True) v242 t241) := ⟨h0_⟩
            have n1_ : Aside0 (Kd.R Kd.bool 4 w38 w.heap.size (fun _ => True) v247 y246) := ⟨h1_⟩
            have n2_ : Aside0 (Kd.V (Kd.int .i64) 3 w38 w.heap.size (fun k_ => some k_ ≠ (v247 : Value).ownBlock) v251 t250) := ⟨h2_⟩
            have n3_ : Aside0 (Below w.heap.size w w38) := ⟨h3_⟩
            clear HB
            clear h0_ h1_ h2_ h3_
            have HO243 := n0_
            have HO248 := n1_
            have HO252 := n2_
            have HB := n3_
            clear n0_ n1_ n2_ n3_
            have hHeld := trivial
            refine norm_ (a' := ?_) ?_ ?_
            rotate_left
            ·
             simp only [putAll, Act.put, List.setIfInBounds_toArray, List.set_cons_zero, List.set_cons_succ]
             rfl
            refine one_ (i := 9) (N := some 8) #[true, true, true, true, true, true, true, true, true, true, false, false] rfl rfl (one_of HT_.out (by kernel_rfl)) (by decide) (fun K hK => ?_)
            refine box_step ?hg (N := 8) ?hd (cs := #[.slice none 0 0, .int .i64 0, .int .i64 0]) (t := 24) ?hr ?_; (case hd => rfl); (case hg => rfl); (case hr => first | (go_simp; done) | (go_simp; rfl))
            intro gb255 hg w39 hbox hb
            have n0_ := Aside0.mk (Kd.R_below (by (with_reducible repeat (first | apply Kd.R_alloc | apply Kd.R_drewN | apply Kd.R_drew)); exact HO243.out) hb)
            have n1_ := Aside0.mk (Kd.R_below (by (with_reducible repeat (first | apply Kd.R_alloc | apply Kd.R_drewN | apply Kd.R_drew)); exact HO248.out) hb)
            have n2_ := Aside0.mk (Kd.V_below (Kd.V_elderB (by (with_reducible repeat (first | apply Kd.V_alloc | apply Kd.V_drewN | apply Kd.V_drew)); exact HO252.out) gb255 (Nat.le_of_eq hg.symm)) hb)
            have n3_ := Aside0.mk (below_step (by repeat (first | (with_reducible first | exact HB.out | apply below_alloc | apply pw_below_drewN | apply below_drew1) | exact HB.out)) hb)
            have n4_ := Aside0.mk (hbox)
            have n5_ := Aside0.mk ((by rw [hg]; exact (below_size (by repeat (first | (with_reducible first | exact HB.out | apply below_alloc | apply pw_below_drewN | apply below_drew1) | exact HB.out))) : w.heap.size ≤ gb255))
            have n6_ := Aside0.mk ((by rw [hg]; exact (below_size (by repeat (first | (with_reducible first | exact HB.out | apply below_alloc | apply pw_below_drewN | apply below_drew1) | exact HB.out))) : w.heap.size ≤ gb255))
            clear HO243
            clear HO248
            clear HO252
            clear HB
            have HO243 := n0_
            have HO248 := n1_
            have HO252 := n2_
            have HB := n3_
            have BK255 := n4_
            have GW255 := n5_
            have GE255 := n6_
            clear n0_ n1_ n2_ n3_ n4_ n5_ n6_
            clear hb hbox hg
            refine hK.out _ _ trivial (fun hHeld => ?_)
            clear hK K
            refine norm_ (a' := ?_) ?_ ?_
            rotate_left
            ·
             show Act.put _ (some 8) _ = _
             simp only [Act.put, List.setIfInBounds_toArray, List.set_cons_zero, List.set_cons_succ, i64_w, i32_w]
             rfl
            exact norm_ (by first | (simp only [putAll, Act.put, List.setIfInBounds_toArray, List.set_cons_zero, List.set_cons_succ]; done) | (simp only [putAll, Act.put, List.setIfInBounds_toArray, List.set_cons_zero, List.set_cons_succ]; rfl)) (hJ0_4_5_9 (v242, v247, v251, gb255) _ ⟨(by (with_reducible repeat (first | apply Kd.R_alloc | apply Kd.R_drewN | apply Kd.R_drew)); exact HO243.out), (by (with_reducible repeat (first | apply Kd.R_alloc | apply Kd.R_drewN | apply Kd.R_drew)); exact HO248.out), (by (with_reducible repeat (first | apply Kd.V_alloc | apply Kd.V_drewN | apply Kd.V_drew)); exact HO252.out), (by (with_reducible repeat (first | refine blk_drewN ?_ _ | refine blk_drew ?_ | refine blk_alloc ?_ _)); exact BK255.out), GW255.out, GE255.out, (by repeat (first | (with_reducible first | exact HB.out | apply below_alloc | apply pw_below_drewN | apply below_drew1 | refine below_set ?_ GE255.out) | exact HB.out))⟩)
          rintro ⟨v242, v247, v251, gb255⟩ w39 ⟨h0_, h1_, h2_, h3_, h4_, h5_, h6_⟩
          have n0_ : Aside0 (Kd.R (Kd.int .i64) 3 w39 w.heap.size (fun _ => True) v242 t241) := ⟨h0_⟩
          have n1_ : Aside0 (Kd.R Kd.bool 4 w39 w.heap.size (fun _ => True) v247 y246) := ⟨h1_⟩
          have n2_ : Aside0 (Kd.V (Kd.int .i64) 3 w39 w.heap.size (fun k_ => some k_ ≠ (v247 : Value).ownBlock ∧ k_ ≠ gb255) v251 t250) := ⟨h2_⟩
          have n3_ : Aside0 (w39.heap[gb255]? = some (.cells #[.slice none 0 0, .int .i64 0, .int .i64 0] 24 (0, 0))) := ⟨h3_⟩
          have n4_ : Aside0 (w.heap.size ≤ gb255) := ⟨h4_⟩
          have n5_ : Aside0 (w.heap.size ≤ gb255) := ⟨h5_⟩
          have n6_ : Aside0 (Below w.heap.size w w39) := ⟨h6_⟩
          clear HB
          clear h0_ h1_ h2_ h3_ h4_ h5_ h6_
          have HO243 := n0_
          have HO248 := n1_
          have HO252 := n2_
          have BK255 := n3_
          have GW255 := n4_
          have GE255 := n5_
          have HB := n6_
          clear n0_ n1_ n2_ n3_ n4_ n5_ n6_
          have hHeld := trivial
          obtain ⟨Ao40, co40, eo40⟩ := Kd.V_slice HO252.out
          (first | subst eo40 | (injection eo40 with f1_ f2_ f3_; have f4_ := f1_.symm; have f5_ := f3_.symm; clear f1_ f2_ f3_; subst f4_; subst f5_))
          refine norm_ (a' := ?_) ?_ ?_
          rotate_left
          ·
           simp only [putAll, Act.put, List.setIfInBounds_toArray, List.set_cons_zero, List.set_cons_succ]
           rfl
          refine pure_ (i := 10) (N := some 7) (v := ?_) (a' := ?_) #[true, true, true, true, true, true, true, true, true, true, true, false] rfl rfl (any_of HT_.out (by kernel_rfl)) (fun _ _ _ h => h) (Or.inl ⟨by rfl, ?_⟩) ?_ ?_
          rotate_left
          ·
           intro w'
           go_simp
           with_reducible rfl
          rotate_left
          ·
           simp only [Act.put, List.setIfInBounds_toArray, List.set_cons_zero, List.set_cons_succ, i64_w, i32_w]
           rfl
          refine one_ (i := 11) (N := none) #[true, true, true, true, true, true, true, true, true, true, true, true] rfl rfl (one_of HT_.out (by kernel_rfl)) (by decide) (fun K hK => ?_)
          have hs41 : w39.cell? ⟨gb255, 0, none⟩ = some (.slice none 0 0) := (blk_cell BK255.out 0).trans rfl
          have hfs41 := blk_frozen BK255.out 0
          have hs42 : w39.cell? ⟨gb255, 1, none⟩ = some (.int .i64 0) := (blk_cell BK255.out 1).trans rfl
          have hfs42 := blk_frozen BK255.out 1
          have hs43 : w39.cell? ⟨gb255, 2, none⟩ = some (.int .i64 0) := (blk_cell BK255.out 2).trans rfl
          have hfs43 := blk_frozen BK255.out 2
          refine skip_ (w1 := ?_) (by rfl) rfl ?_ ?_
          rotate_left
          ·
           go_simp
           rfl
          refine hK.out _ _ trivial (fun hHeld => ?_)
          clear hK K
          refine done_ (done_of HT_.out (by kernel_rfl)) ?_
          try go_wp2
          go_ret
          exact ⟨by first | rfl | (simp [errW_none, errW_some] <;> rfl) | (simp only [← hji11]; first | rfl | (simp [errW_none, errW_some] <;> rfl)) | (simp [*, errW_none, errW_some] <;> rfl), by repeat (first | (with_reducible first | exact HB.out | apply below_alloc | apply pw_below_drewN | apply below_drew1 | refine below_set ?_ GE255.out) | exact HB.out)⟩
        ·
         rw [if_neg c13] at H
         exact absurd H (by simp)
       ·
        rw [if_neg c12] at H
        exact absurd H (by simp)
      ·
       replace c9 := Bool.eq_false_iff.mpr c9
       subst c9
       have H1 : (if 0 ≤ (l0.length : Int) then (if ((l0.length : Int) : Int).toNat ≤ 35184372088832 then (warplaw2_PickTurns.l1 kj6 l0 x5_1 (List.replicate ((l0.length : Int) : Int).toNat 0) 0 ([] : List Int) 0 (wrap64 (a1))) else (none)) else (none)) = some r := by rw [if_neg (show ¬ (false = true) by decide)] at H; exact H
       clear H
       have H := H1
       clear H1
       by_cases c44 : 0 ≤ (l0.length : Int)
       ·
        rw [if_pos c44] at H
        have c44b0 := eq_true c44
        have c44b1 : decide (0 ≤ (l0.length : Int)) = true := decide_eq_true c44
        clear c44
        by_cases c45 : ((l0.length : Int) : Int).toNat ≤ 35184372088832
        ·
         rw [if_pos c45] at H
         have c45b0 := eq_true c45
         have c45b1 : decide (((l0.length : Int) : Int).toNat ≤ 35184372088832) = true := decide_eq_true c45
         clear c45
         obtain ⟨y258, hy258⟩ : ∃ y_ : List Int, y_ = (List.replicate ((l0.length : Int) : Int).toNat 0) := ⟨_, rfl⟩
         replace H : (warplaw2_PickTurns.l1 kj6 l0 x5_1 y258 0 ([] : List Int) 0 (wrap64 (a1))) = some r := by first | (rw [hy258]; with_reducible exact H) | (have H2_ := (Option.bind_some _ _).symm.trans H; rw [hy258]; with_reducible exact H2_) | (have H2_ := (Option.bind_some _ _).symm.trans H; with_reducible exact H2_) | with_reducible exact H | (rw [hy258]; exact H) | exact H
         have Ny258 := Aside0.mk hy258
         clear hy258
         have H' := Aside0.mk H
         clear H
         go_wp2_with (first | ((with_reducible refine gate_dst (N := 9) rfl ?_); (try (refine gate_guard (by rfl) ?_; dsimp only)); refine box_event ?hg (N := 9) ?hd (cs := #[.slice none 0 0, .int .i64 0, .int .i64 0]) (t := 24) ?hr ?_; (case hd => rfl); (case hg => rfl); (case hr => first | (go_simp; done) | (go_simp; rfl)); intro gb257 hg w46 hbox hb; have n0_ := Aside0.mk (below_step (by repeat (first | (with_reducible first | exact HB.out | apply below_alloc | apply pw_below_drewN | apply below_drew1) | exact HB.out)) hb); have n1_ := Aside0.mk (hbox); have n2_ := Aside0.mk ((by rw [hg]; exact (below_size (by repeat (first | (with_reducible first | exact HB.out | apply below_alloc | apply pw_below_drewN | apply below_drew1) | exact HB.out))) : w.heap.size ≤ gb257)); have n3_ := Aside0.mk ((by rw [hg]; exact (below_size (by repeat (first | (with_reducible first | exact HB.out | apply below_alloc | apply pw_below_drewN | apply below_drew1) | exact HB.out))) : w.heap.size ≤ gb257)); clear HB; have HB := n0_; have BK257 := n1_; have GW257 := n2_; have GE257 := n3_; clear n0_ n1_ n2_ n3_; clear hb hbox hg; have hcz47_0 : w46.cell? ⟨gb257, 0, none⟩ = some (.slice none 0 0) := (blk_cell BK257.out 0).trans rfl; have hcz47_1 : w46.cell? ⟨gb257, 1, none⟩ = some (.int .i64 0) := (blk_cell BK257.out 1).trans rfl; have hcz47_2 : w46.cell? ⟨gb257, 2, none⟩ = some (.int .i64 0) := (blk_cell BK257.out 2).trans rfl; have hfz47_0 := blk_frozen BK257.out 0; have hfz47_1 := blk_frozen BK257.out 1; have hfz47_2 := blk_frozen BK257.out 2) | ((with_reducible refine gate_dst (N := 53) rfl ?_); (try (refine gate_guard (by rfl) ?_; dsimp only)); refine Kd.R_make (Kd.int .i64) _ 3 rfl (N := 53) rfl 22 _ _ rfl (l0.length : Int) rfl rfl Tryd.underlying22 (.int .i64 0) 8 info3 rfl (by decide) (by omega) 0 (ok := fun _ => True) (okp := fun _ => True) rfl (fun _ hk => hk) trivial (of_decide_eq_true (by first | (with_reducible assumption) | assumption)) (Nat.le_trans (Nat.mul_le_mul_right _ (of_decide_eq_true (by first | (with_reducible assumption) | assumption) : (l0.length : Int).toNat ≤ 35184372088832)) (by omega)) (Below.refl _ _) (Nat.le_refl _) ?_; intro v259 w48 ho49 hb hg_ hnew_; clear hg_ hnew_; (first | rw [← Ny258.out] at ho49 | (simp only [Int.reduceToNat] at ho49; rw [← Ny258.out] at ho49)); have n0_ := Aside0.mk (Kd.R_lower ho49 (below_size (by repeat (first | (with_reducible first | exact HB.out | apply below_alloc | apply pw_below_drewN | apply below_drew1 | refine below_set ?_ GE257.out) | exact HB.out)))); have n1_ := Aside0.mk (blk_below (g := gb257) (o := .cells #[.slice none 0 0, .int .i64 0, .int .i64 (wrap64 (a1))] 24 (0, 0)) (by (with_reducible repeat (first | refine blk_drewN ?_ _ | refine blk_drew ?_ | refine blk_alloc ?_ _)); refine blk_put (cs := #[.slice none 0 0, .int .i64 0, .int .i64 0]) ?_ 2 _ rfl; (with_reducible repeat (first | refine blk_drewN ?_ _ | refine blk_drew ?_ | refine blk_alloc ?_ _)); refine blk_put (cs := #[.slice none 0 0, .int .i64 0, .int .i64 0]) ?_ 1 _ rfl; (with_reducible repeat (first | refine blk_drewN ?_ _ | refine blk_drew ?_ | refine blk_alloc ?_ _)); refine blk_put (cs := #[.slice none 0 0, .int .i64 0, .int .i64 0]) ?_ 0 _ rfl; (with_reducible repeat (first | refine blk_drewN ?_ _ | refine blk_drew ?_ | refine blk_alloc ?_ _)); exact BK257.out) hb); have n2_ := Aside0.mk (below_step (by repeat (first | (with_reducible first | exact HB.out | apply below_alloc | apply pw_below_drewN | apply below_drew1 | refine below_set ?_ GE257.out) | exact HB.out)) hb); clear BK257; clear HB; have HO260 := n0_; have BK257 := n1_; have HB := n2_; clear n0_ n1_ n2_; clear hb ho49))
         go_loopg [11] kj6 (fun kq v11 w' => ∃ (x10_3 : List Int) (x11_3 : Int) (x258000_3 : List Int) (x258001_3 : Int) (x258002_3 : Int) (u258000 : Value), v11 = .int .i64 x11_3 ∧ Aside0 (warplaw2_PickTurns.l1 kq l0 x5_1 x10_3 x11_3 x258000_3 x258001_3 x258002_3 = some r) ∧ Aside0 (kq ≤ kj6) ∧ Aside0 (Kd.R (Kd.int .i64) 3 w' w.heap.size (fun _ => True) v259 x10_3) ∧ Aside0 (Kd.V (Kd.int .i64) 3 w' w.heap.size (fun k_ => some k_ ≠ (v259 : Value).ownBlock ∧ k_ ≠ gb257) u258000 x258000_3) ∧ Aside0 (w'.heap[gb257]? = some (.cells #[u258000, .int .i64 x258001_3, .int .i64 x258002_3] 24 (0, 0))) ∧ Aside0 (Below w.heap.size w w'))
         case atStart => exact ⟨(y258), (0), (([] : List Int)), (0), (wrap64 (a1)), (.slice none 0 0), (by first | rfl | (simp; done) | (simp [*]; done)), H', ⟨Nat.le_refl _⟩, ⟨by (with_reducible repeat (first | apply Kd.R_alloc | apply Kd.R_drewN | apply Kd.R_drew)); exact HO260.out⟩, ⟨Kd.R_V (by first | exact Kd.R_nil _ _ _ w.heap.size _ | exact Kd.N_nil _ _ _ _ _ | exact Kd.V_nil _ _ _ _ _ | exact Kd.Q_nil _ _ _ _ _ | exact Kd.S_nil _ _ _ _ _)⟩, ⟨by (with_reducible repeat (first | refine blk_drewN ?_ _ | refine blk_drew ?_ | refine blk_alloc ?_ _)); exact BK257.out⟩, ⟨by repeat (first | (with_reducible first | exact HB.out | apply below_alloc | apply pw_below_drewN | apply below_drew1 | refine below_set ?_ GE257.out) | exact HB.out)⟩⟩
         case round =>
          clear H'
          (try clear c1); (try clear p2); (try clear c4); (try clear p6); (try clear c9); (try clear c12); (try clear c13); (try clear c15); (try clear c44); (try clear c44b0); (try clear c44b1); (try clear c45); (try clear c45b0); (try clear c45b1); (try clear hcz47_0); (try clear hcz47_1); (try clear hcz47_2); (try clear hfz47_0); (try clear hfz47_1); (try clear hfz47_2)
          obtain ⟨x10_3, x11_3, x258000_3, x258001_3, x258002_3, u258000, rfl, HA, HK3, HO_10, HO_258000, BK257, HB⟩ := hrel
          cases gk with
          | zero => exact absurd HA.out (by simp [warplaw2_PickTurns.l1])
          | succ k3 =>
           have H := HA.out
           clear HA
           simp only [warplaw2_PickTurns.l1] at H
           by_cases c50 : x11_3 < (wrap64 (3 * x5_1))
           ·
            rw [if_pos c50] at H
            have c50b0 : decide (x11_3 < (wrap64 (3 * x5_1))) = true := decide_eq_true c50
            clear c50
            replace H := Option.bind_eq_some_iff.mp H
            obtain ⟨⟨t261, t262, t265, t266⟩, A510, H⟩ := H
            replace H : (if t261 < 0 then (warplaw2_PickTurns.j3 k3 l0 x5_1 x10_3 x11_3 t261 true t262 t265 t266) else (if t261 ≥ (l0.length : Int) then (warplaw2_PickTurns.j3 k3 l0 x5_1 x10_3 x11_3 t261 true t262 t265 t266) else (if 0 ≤ t261 then (if t261 < (l0.length : Int) then (warplaw2_PickTurns.j3 k3 l0 x5_1 x10_3 x11_3 t261 (!(rdOf false l0 t261)) t262 t265 t266) else (none)) else (none)))) = some r := H
            have A51 := Aside0.mk A510
            clear A510
            have HC52 := Aside0.mk H
            clear H
            have hcz53_0 : wr.cell? ⟨gb257, 0, none⟩ = some (u258000) := (blk_cell BK257.out 0).trans rfl
            have hcz53_1 : wr.cell? ⟨gb257, 1, none⟩ = some (.int .i64 x258001_3) := (blk_cell BK257.out 1).trans rfl
            have hcz53_2 : wr.cell? ⟨gb257, 2, none⟩ = some (.int .i64 x258002_3) := (blk_cell BK257.out 2).trans rfl
            have hfz53_0 := blk_frozen BK257.out 0
            have hfz53_1 := blk_frozen BK257.out 1
            have hfz53_2 := blk_frozen BK257.out 2
            obtain ⟨Ao54, co54, eo54⟩ := Kd.V_slice HO_258000.out
            subst eo54
            go_upto_region 16 with (first | ((with_reducible refine gate_callee (f := 13) rfl ?_); refine goesL_ (some 63) rfl rfl Tryd.func13 (by kernel_rfl) rfl #[.agg #[.slice Ao54 x258000_3.length co54, .int .i64 x258001_3, .int .i64 x258002_3], .slice A0 l0.length c0] rfl (by (try simp only [List.map_toArray, List.map_cons, List.map_nil]); first | done | rfl | (simp only [List.length_drop, List.length_take]; rfl)) ?_; (with_reducible refine (pick_Next.calls k3 (fun k_ => (some k_ ≠ (v259 : Value).ownBlock ∧ k_ ≠ gb257)) _ _ x258000_3 x258001_3 x258002_3 _ _ l0 t261 t262 t265 t266 _ ?side1 ?side2 ?side3 A51.out).mono ?_); (case side1 => exact HO_258000.out); (case side2 => repeat (first | exact (Kd.C_below HR0.out HB.out) | (with_reducible refine Kd.C_alloc ?_ _) | (with_reducible refine Kd.C_drewN ?_ _) | (with_reducible refine Kd.C_drew ?_))); (case side3 => exact HC0.out); rintro e w55 ⟨v263, rfl, ho0, hb⟩; refine ⟨_, rfl, ?_⟩; have n0_ := Aside0.mk (Kd.R_below (by (with_reducible repeat (first | apply Kd.R_alloc | apply Kd.R_drewN | apply Kd.R_drew)); exact HO_10.out) hb); have n1_ := Aside0.mk (Kd.V_below (by (with_reducible repeat (first | apply Kd.V_alloc | apply Kd.V_drewN | apply Kd.V_drew)); exact HO_258000.out) hb); have n2_ := Aside0.mk (Kd.V_lower (Kd.V_mono (ok' := fun k_ => some k_ ≠ (v259 : Value).ownBlock ∧ k_ ≠ gb257) ho0 (fun k_ hk_ => ⟨Or.elim hk_ (fun hs_ => hs_.1) (fun hn_ => (Kd.fresh' (Kd.R_lt (by (with_reducible repeat (first | apply Kd.R_alloc | apply Kd.R_drewN | apply Kd.R_drew)); exact HO_10.out)) k_ hn_)), Or.elim hk_ (fun hs_ => hs_.2) (fun hn_ => (Kd.freshB (g := gb257) (o := .cells #[.slice Ao54 x258000_3.length co54, .int .i64 x258001_3, .int .i64 x258002_3] 24 (0, 0)) (by (with_reducible repeat (first | refine blk_drewN ?_ _ | refine blk_drew ?_ | refine blk_alloc ?_ _)); exact BK257.out) k_ hn_))⟩)) (below_size (by repeat (first | (with_reducible first | exact HB.out | apply below_alloc | apply pw_below_drewN | apply below_drew1 | refine below_set ?_ GE257.out) | exact HB.out)))); have n3_ := Aside0.mk (blk_below (g := gb257) (o := .cells #[.slice Ao54 x258000_3.length co54, .int .i64 x258001_3, .int .i64 x258002_3] 24 (0, 0)) (by (with_reducible repeat (first | refine blk_drewN ?_ _ | refine blk_drew ?_ | refine blk_alloc ?_ _)); exact BK257.out) hb); have n4_ := Aside0.mk (below_step (by repeat (first | (with_reducible first | exact HB.out | apply below_alloc | apply pw_below_drewN | apply below_drew1 | refine below_set ?_ GE257.out) | exact HB.out)) hb); clear HO_10; clear HO_258000; clear BK257; clear HB; have HO_10 := n0_; have HO_258000 := n1_; have HO264 := n2_; have BK257 := n3_; have HB := n4_; clear n0_ n1_ n2_ n3_ n4_; (try clear hb); (try clear hb2); (try clear hk); (try clear hi); (try clear ho0)) | ((with_reducible refine gate_dst (N := 13) rfl ?_); (try (refine gate_guard (by rfl) ?_; dsimp only)); refine box_event ?hg (N := 13) ?hd (cs := #[.slice none 0 0, .int .i64 0, .int .i64 0]) (t := 24) ?hr ?_; (case hd => rfl); (case hg => rfl); (case hr => first | (go_simp; done) | (go_simp; rfl)); intro gb267 hg w56 hbox hb; have n0_ := Aside0.mk (Kd.R_below (by (with_reducible repeat (first | apply Kd.R_alloc | apply Kd.R_drewN | apply Kd.R_drew)); exact HO_10.out) hb); have n1_ := Aside0.mk (Kd.V_below (Kd.V_elderB (by (with_reducible repeat (first | apply Kd.V_alloc | apply Kd.V_drewN | apply Kd.V_drew)); exact HO_258000.out) gb267 (Nat.le_of_eq hg.symm)) hb); have n2_ := Aside0.mk (Kd.V_below (Kd.V_elderB (by (with_reducible repeat (first | apply Kd.V_alloc | apply Kd.V_drewN | apply Kd.V_drew)); exact HO264.out) gb267 (Nat.le_of_eq hg.symm)) hb); have n3_ := Aside0.mk (blk_below (g := gb257) (o := .cells #[.slice Ao54 x258000_3.length co54, .int .i64 x258001_3, .int .i64 x258002_3] 24 (0, 0)) (by (with_reducible repeat (first | refine blk_drewN ?_ _ | refine blk_drew ?_ | refine blk_alloc ?_ _)); exact BK257.out) hb); have n4_ := Aside0.mk (below_step (by repeat (first | (with_reducible first | exact HB.out | apply below_alloc | apply pw_below_drewN | apply below_drew1 | refine below_set ?_ GE257.out) | exact HB.out)) hb); have n5_ := Aside0.mk (hbox); have n6_ := Aside0.mk ((by rw [hg]; exact (below_size (by repeat (first | (with_reducible first | exact HB.out | apply below_alloc | apply pw_below_drewN | apply below_drew1 | refine below_set ?_ GE257.out) | exact HB.out))) : w.heap.size ≤ gb267)); have n7_ := Aside0.mk ((by rw [hg]; exact (below_size (by repeat (first | (with_reducible first | exact HB.out | apply below_alloc | apply pw_below_drewN | apply below_drew1 | refine below_set ?_ GE257.out) | exact HB.out))) : w.heap.size ≤ gb267)); have n8_ := Aside0.mk ((by rw [hg]; exact Nat.ne_of_lt (blk_lt (g := gb257) (o := .cells #[.slice Ao54 x258000_3.length co54, .int .i64 x258001_3, .int .i64 x258002_3] 24 (0, 0)) (by (with_reducible repeat (first | refine blk_drewN ?_ _ | refine blk_drew ?_ | refine blk_alloc ?_ _)); exact BK257.out)) : gb257 ≠ gb267)); have n9_ := Aside0.mk ((by rw [hg]; exact Nat.ne_of_gt (blk_lt (g := gb257) (o := .cells #[.slice Ao54 x258000_3.length co54, .int .i64 x258001_3, .int .i64 x258002_3] 24 (0, 0)) (by (with_reducible repeat (first | refine blk_drewN ?_ _ | refine blk_drew ?_ | refine blk_alloc ?_ _)); exact BK257.out)) : gb267 ≠ gb257)); clear HO_10; clear HO_258000; clear HO264; clear BK257; clear HB; have HO_10 := n0_; have HO_258000 := n1_; have HO264 := n2_; have BK257 := n3_; have HB := n4_; have BK267 := n5_; have GW267 := n6_; have GE267 := n7_; have NB257_267 := n8_; have NB267_257 := n9_; clear n0_ n1_ n2_ n3_ n4_ n5_ n6_ n7_ n8_ n9_; clear hb hbox hg; obtain ⟨Ao57, co57, eo57⟩ := Kd.V_slice HO264.out; subst eo57; have hnb58 := NB267_257.out; have hnc58 := NB257_267.out; have hcz59_0 : w56.cell? ⟨gb267, 0, none⟩ = some (.slice none 0 0) := (blk_cell BK267.out 0).trans rfl; have hcz59_1 : w56.cell? ⟨gb267, 1, none⟩ = some (.int .i64 0) := (blk_cell BK267.out 1).trans rfl; have hcz59_2 : w56.cell? ⟨gb267, 2, none⟩ = some (.int .i64 0) := (blk_cell BK267.out 2).trans rfl; have hfz59_0 := blk_frozen BK267.out 0; have hfz59_1 := blk_frozen BK267.out 1; have hfz59_2 := blk_frozen BK267.out 2))
            (try simp only [Act.put, List.setIfInBounds_toArray, List.set_cons_zero, List.set_cons_succ])
            go_cut [80] (fun v80 wc => ∃ (kq : Nat) (x80_51 : Bool), v80 = .bool x80_51 ∧ Aside0 (warplaw2_PickTurns.j3 kq l0 x5_1 x10_3 x11_3 t261 x80_51 t262 t265 t266 = some r) ∧ Aside0 (kq ≤ k3) ∧ Aside0 (Kd.R (Kd.int .i64) 3 wc w.heap.size (fun _ => True) v259 x10_3) ∧ Aside0 (Kd.V (Kd.int .i64) 3 wc w.heap.size (fun k_ => some k_ ≠ (v259 : Value).ownBlock ∧ k_ ≠ gb257 ∧ k_ ≠ gb267) (.slice Ao54 x258000_3.length co54) x258000_3) ∧ Aside0 (Kd.V (Kd.int .i64) 3 wc w.heap.size (fun k_ => some k_ ≠ (v259 : Value).ownBlock ∧ k_ ≠ gb257 ∧ k_ ≠ gb267) (.slice Ao57 t262.length co57) t262) ∧ Aside0 (wc.heap[gb257]? = some (.cells #[(.slice Ao54 x258000_3.length co54), .int .i64 x258001_3, .int .i64 x258002_3] 24 (0, 0))) ∧ Aside0 (wc.heap[gb267]? = some (.cells #[(.slice Ao57 t262.length co57), .int .i64 t265, .int .i64 t266] 24 (0, 0))) ∧ Aside0 (Below w.heap.size w wc))
            case first =>
             have H := HC52.out
             clear HC52
             by_cases c60 : t261 < 0
             ·
              rw [if_pos c60] at H
              have c60b0 : decide (t261 < 0) = true := decide_eq_true c60
              clear c60
              (first | rw [c60b0] | (simp only [i64_w, i32_w]; rw [c60b0]) | skip)
              have H' := Aside0.mk H
              clear H
              go_wp2
              go_meet
              case rel => exact ⟨_, (true), (by first | rfl | (simp; done) | (simp [*]; done)), H', ⟨by have := HK1.out; have := HJ6.out; have := HK3.out; first | omega | exact Nat.le_refl _⟩, ⟨by (with_reducible repeat (first | apply Kd.R_alloc | apply Kd.R_drewN | apply Kd.R_drew)); exact Kd.R_mono (Kd.R_far (p := ⟨gb267, 2, none⟩) (Kd.R_far (p := ⟨gb267, 1, none⟩) (Kd.R_far (p := ⟨gb267, 0, none⟩) (Kd.R_types HO_10.out BK267.out (by decide)) (fun _ hk => hk.2) (.slice Ao57 t262.length co57)) (fun _ hk => hk.2) (.int .i64 t265)) (fun _ hk => hk.2) (.int .i64 t266)) (fun _ hk => trivial)⟩, ⟨by (with_reducible repeat (first | apply Kd.V_alloc | apply Kd.V_drewN | apply Kd.V_drew)); exact Kd.V_mono (Kd.V_far (p := ⟨gb267, 2, none⟩) (Kd.V_far (p := ⟨gb267, 1, none⟩) (Kd.V_far (p := ⟨gb267, 0, none⟩) (Kd.V_mono HO_258000.out (fun k_ hk => (⟨hk, hk.2⟩ : _ ∧ k_ ≠ gb267))) (fun _ hk => hk.2) (.slice Ao57 t262.length co57)) (fun _ hk => hk.2) (.int .i64 t265)) (fun _ hk => hk.2) (.int .i64 t266)) (fun _ hk => ⟨hk.1.1.1, ⟨hk.1.1.2, hk.1.2⟩⟩)⟩, ⟨by (with_reducible repeat (first | apply Kd.V_alloc | apply Kd.V_drewN | apply Kd.V_drew)); exact Kd.V_mono (Kd.V_far (p := ⟨gb267, 2, none⟩) (Kd.V_far (p := ⟨gb267, 1, none⟩) (Kd.V_far (p := ⟨gb267, 0, none⟩) (Kd.V_mono HO264.out (fun k_ hk => (⟨hk, hk.2⟩ : _ ∧ k_ ≠ gb267))) (fun _ hk => hk.2) (.slice Ao57 t262.length co57)) (fun _ hk => hk.2) (.int .i64 t265)) (fun _ hk => hk.2) (.int .i64 t266)) (fun _ hk => ⟨hk.1.1.1, ⟨hk.1.1.2, hk.1.2⟩⟩)⟩, ⟨by (with_reducible repeat (first | refine blk_drewN ?_ _ | refine blk_drew ?_ | refine blk_alloc ?_ _)); refine blk_far ?_ NB257_267.out _; (with_reducible repeat (first | refine blk_drewN ?_ _ | refine blk_drew ?_ | refine blk_alloc ?_ _)); refine blk_far ?_ NB257_267.out _; (with_reducible repeat (first | refine blk_drewN ?_ _ | refine blk_drew ?_ | refine blk_alloc ?_ _)); refine blk_far ?_ NB257_267.out _; (with_reducible repeat (first | refine blk_drewN ?_ _ | refine blk_drew ?_ | refine blk_alloc ?_ _)); exact BK257.out⟩, ⟨by (with_reducible repeat (first | refine blk_drewN ?_ _ | refine blk_drew ?_ | refine blk_alloc ?_ _)); refine blk_put (cs := #[.slice Ao57 t262.length co57, .int .i64 t265, .int .i64 0]) ?_ 2 _ rfl; (with_reducible repeat (first | refine blk_drewN ?_ _ | refine blk_drew ?_ | refine blk_alloc ?_ _)); refine blk_put (cs := #[.slice Ao57 t262.length co57, .int .i64 0, .int .i64 0]) ?_ 1 _ rfl; (with_reducible repeat (first | refine blk_drewN ?_ _ | refine blk_drew ?_ | refine blk_alloc ?_ _)); refine blk_put (cs := #[.slice none 0 0, .int .i64 0, .int .i64 0]) ?_ 0 _ rfl; (with_reducible repeat (first | refine blk_drewN ?_ _ | refine blk_drew ?_ | refine blk_alloc ?_ _)); exact BK267.out⟩, ⟨by repeat (first | (with_reducible first | exact HB.out | apply below_alloc | apply pw_below_drewN | apply below_drew1 | refine below_set ?_ GE257.out | refine below_set ?_ GE267.out) | exact HB.out)⟩⟩
             ·
              rw [if_neg c60] at H
              have c60b0 : decide (t261 < 0) = false := decide_eq_false c60
              clear c60
              (first | rw [c60b0] | (simp only [i64_w, i32_w]; rw [c60b0]) | skip)
              by_cases c61 : t261 ≥ (l0.length : Int)
              ·
               rw [if_pos c61] at H
               have c61b0 : decide ((l0.length : Int) ≤ t261) = true := decide_eq_true c61
               clear c61
               have H' := Aside0.mk H
               clear H
               go_wp2
               go_meet
               case rel => exact ⟨_, (true), (by first | rfl | (simp; done) | (simp [*]; done)), H', ⟨by have := HK1.out; have := HJ6.out; have := HK3.out; first | omega | exact Nat.le_refl _⟩, ⟨by (with_reducible repeat (first | apply Kd.R_alloc | apply Kd.R_drewN | apply Kd.R_drew)); exact Kd.R_mono (Kd.R_far (p := ⟨gb267, 2, none⟩) (Kd.R_far (p := ⟨gb267, 1, none⟩) (Kd.R_far (p := ⟨gb267, 0, none⟩) (Kd.R_types HO_10.out BK267.out (by decide)) (fun _ hk => hk.2) (.slice Ao57 t262.length co57)) (fun _ hk => hk.2) (.int .i64 t265)) (fun _ hk => hk.2) (.int .i64 t266)) (fun _ hk => trivial)⟩, ⟨by (with_reducible repeat (first | apply Kd.V_alloc | apply Kd.V_drewN | apply Kd.V_drew)); exact Kd.V_mono (Kd.V_far (p := ⟨gb267, 2, none⟩) (Kd.V_far (p := ⟨gb267, 1, none⟩) (Kd.V_far (p := ⟨gb267, 0, none⟩) (Kd.V_mono HO_258000.out (fun k_ hk => (⟨hk, hk.2⟩ : _ ∧ k_ ≠ gb267))) (fun _ hk => hk.2) (.slice Ao57 t262.length co57)) (fun _ hk => hk.2) (.int .i64 t265)) (fun _ hk => hk.2) (.int .i64 t266)) (fun _ hk => ⟨hk.1.1.1, ⟨hk.1.1.2, hk.1.2⟩⟩)⟩, ⟨by (with_reducible repeat (first | apply Kd.V_alloc | apply Kd.V_drewN | apply Kd.V_drew)); exact Kd.V_mono (Kd.V_far (p := ⟨gb267, 2, none⟩) (Kd.V_far (p := ⟨gb267, 1, none⟩) (Kd.V_far (p := ⟨gb267, 0, none⟩) (Kd.V_mono HO264.out (fun k_ hk => (⟨hk, hk.2⟩ : _ ∧ k_ ≠ gb267))) (fun _ hk => hk.2) (.slice Ao57 t262.length co57)) (fun _ hk => hk.2) (.int .i64 t265)) (fun _ hk => hk.2) (.int .i64 t266)) (fun _ hk => ⟨hk.1.1.1, ⟨hk.1.1.2, hk.1.2⟩⟩)⟩, ⟨by (with_reducible repeat (first | refine blk_drewN ?_ _ | refine blk_drew ?_ | refine blk_alloc ?_ _)); refine blk_far ?_ NB257_267.out _; (with_reducible repeat (first | refine blk_drewN ?_ _ | refine blk_drew ?_ | refine blk_alloc ?_ _)); refine blk_far ?_ NB257_267.out _; (with_reducible repeat (first | refine blk_drewN ?_ _ | refine blk_drew ?_ | refine blk_alloc ?_ _)); refine blk_far ?_ NB257_267.out _; (with_reducible repeat (first | refine blk_drewN ?_ _ | refine blk_drew ?_ | refine blk_alloc ?_ _)); exact BK257.out⟩, ⟨by (with_reducible repeat (first | refine blk_drewN ?_ _ | refine blk_drew ?_ | refine blk_alloc ?_ _)); refine blk_put (cs := #[.slice Ao57 t262.length co57, .int .i64 t265, .int .i64 0]) ?_ 2 _ rfl; (with_reducible repeat (first | refine blk_drewN ?_ _ | refine blk_drew ?_ | refine blk_alloc ?_ _)); refine blk_put (cs := #[.slice Ao57 t262.length co57, .int .i64 0, .int .i64 0]) ?_ 1 _ rfl; (with_reducible repeat (first | refine blk_drewN ?_ _ | refine blk_drew ?_ | refine blk_alloc ?_ _)); refine blk_put (cs := #[.slice none 0 0, .int .i64 0, .int .i64 0]) ?_ 0 _ rfl; (with_reducible repeat (first | refine blk_drewN ?_ _ | refine blk_drew ?_ | refine blk_alloc ?_ _)); exact BK267.out⟩, ⟨by repeat (first | (with_reducible first | exact HB.out | apply below_alloc | apply pw_below_drewN | apply below_drew1 | refine below_set ?_ GE257.out | refine below_set ?_ GE267.out) | exact HB.out)⟩⟩
              ·
               rw [if_neg c61] at H
               have c61b0 : decide ((l0.length : Int) ≤ t261) = false := decide_eq_false c61
               clear c61
               by_cases c62 : 0 ≤ t261
               ·
                rw [if_pos c62] at H
                have c62b0 : decide (0 ≤ t261) = true := decide_eq_true c62
                clear c62
                by_cases c63 : t261 < (l0.length : Int)
                ·
                 rw [if_pos c63] at H
                 have c63b0 : decide (t261 < (l0.length : Int)) = true := decide_eq_true c63
                 clear c63
                 have H' := Aside0.mk H
                 clear H
                 have p268 : 0 ≤ (t261 : Int) := of_decide_eq_true (by first | (with_reducible assumption) | assumption)
                 have q268 : t261 < (l0.length : Int) := of_decide_eq_true (by first | (with_reducible assumption) | assumption)
                 obtain ⟨ad268, e268, hx268_0⟩ := Kd.at_bool HR0.out t261 p268 q268
                 cases e268
                 have hn268_0 : ad268.block ≠ gb267 := Nat.ne_of_lt (Nat.lt_of_lt_of_le (by have := World.block_lt_of_cell? _ _ hx268_0; first | rwa [add_block] at this | exact this) GW267.out)
                 have hn268_1 : ad268.block ≠ gb267 := Nat.ne_of_lt (Nat.lt_of_lt_of_le (by have := World.block_lt_of_cell? _ _ hx268_0; first | rwa [add_block] at this | exact this) GW267.out)
                 have hn268_2 : ad268.block ≠ gb267 := Nat.ne_of_lt (Nat.lt_of_lt_of_le (by have := World.block_lt_of_cell? _ _ hx268_0; first | rwa [add_block] at this | exact this) GW267.out)
                 replace hx268_0 := (HB.out.cell (World.block_lt_of_cell? w _ hx268_0)).trans hx268_0
                 replace hx268_0 := (cell_far (p := ⟨gb267, 0, none⟩) (by first | (rw [add_block]; exact hn268_0) | (show (Addr.add _ _).block ≠ _; rw [add_block]; exact hn268_0) | exact hn268_0) (.slice Ao57 t262.length co57)).trans hx268_0
                 replace hx268_0 := (cell_far (p := ⟨gb267, 1, none⟩) (by first | (rw [add_block]; exact hn268_1) | (show (Addr.add _ _).block ≠ _; rw [add_block]; exact hn268_1) | exact hn268_1) (.int .i64 t265)).trans hx268_0
                 replace hx268_0 := (cell_far (p := ⟨gb267, 2, none⟩) (by first | (rw [add_block]; exact hn268_2) | (show (Addr.add _ _).block ≠ _; rw [add_block]; exact hn268_2) | exact hn268_2) (.int .i64 t266)).trans hx268_0
                 clear hn268_0
                 clear hn268_1
                 clear hn268_2
                 replace p268 := eq_true p268
                 replace q268 := eq_true q268
                 go_wp2
                 go_meet
                 case rel => exact ⟨_, (!(rdOf false l0 t261)), (by first | rfl | (simp; done) | (simp [*]; done)), H', ⟨by have := HK1.out; have := HJ6.out; have := HK3.out; first | omega | exact Nat.le_refl _⟩, ⟨by (with_reducible repeat (first | apply Kd.R_alloc | apply Kd.R_drewN | apply Kd.R_drew)); exact Kd.R_mono (Kd.R_far (p := ⟨gb267, 2, none⟩) (Kd.R_far (p := ⟨gb267, 1, none⟩) (Kd.R_far (p := ⟨gb267, 0, none⟩) (Kd.R_types HO_10.out BK267.out (by decide)) (fun _ hk => hk.2) (.slice Ao57 t262.length co57)) (fun _ hk => hk.2) (.int .i64 t265)) (fun _ hk => hk.2) (.int .i64 t266)) (fun _ hk => trivial)⟩, ⟨by (with_reducible repeat (first | apply Kd.V_alloc | apply Kd.V_drewN | apply Kd.V_drew)); exact Kd.V_mono (Kd.V_far (p := ⟨gb267, 2, none⟩) (Kd.V_far (p := ⟨gb267, 1, none⟩) (Kd.V_far (p := ⟨gb267, 0, none⟩) (Kd.V_mono HO_258000.out (fun k_ hk => (⟨hk, hk.2⟩ : _ ∧ k_ ≠ gb267))) (fun _ hk => hk.2) (.slice Ao57 t262.length co57)) (fun _ hk => hk.2) (.int .i64 t265)) (fun _ hk => hk.2) (.int .i64 t266)) (fun _ hk => ⟨hk.1.1.1, ⟨hk.1.1.2, hk.1.2⟩⟩)⟩, ⟨by (with_reducible repeat (first | apply Kd.V_alloc | apply Kd.V_drewN | apply Kd.V_drew)); exact Kd.V_mono (Kd.V_far (p := ⟨gb267, 2, none⟩) (Kd.V_far (p := ⟨gb267, 1, none⟩) (Kd.V_far (p := ⟨gb267, 0, none⟩) (Kd.V_mono HO264.out (fun k_ hk => (⟨hk, hk.2⟩ : _ ∧ k_ ≠ gb267))) (fun _ hk => hk.2) (.slice Ao57 t262.length co57)) (fun _ hk => hk.2) (.int .i64 t265)) (fun _ hk => hk.2) (.int .i64 t266)) (fun _ hk => ⟨hk.1.1.1, ⟨hk.1.1.2, hk.1.2⟩⟩)⟩, ⟨by (with_reducible repeat (first | refine blk_drewN ?_ _ | refine blk_drew ?_ | refine blk_alloc ?_ _)); refine blk_far ?_ NB257_267.out _; (with_reducible repeat (first | refine blk_drewN ?_ _ | refine blk_drew ?_ | refine blk_alloc ?_ _)); refine blk_far ?_ NB257_267.out _; (with_reducible repeat (first | refine blk_drewN ?_ _ | refine blk_drew ?_ | refine blk_alloc ?_ _)); refine blk_far ?_ NB257_267.out _; (with_reducible repeat (first | refine blk_drewN ?_ _ | refine blk_drew ?_ | refine blk_alloc ?_ _)); exact BK257.out⟩, ⟨by (with_reducible repeat (first | refine blk_drewN ?_ _ | refine blk_drew ?_ | refine blk_alloc ?_ _)); refine blk_put (cs := #[.slice Ao57 t262.length co57, .int .i64 t265, .int .i64 0]) ?_ 2 _ rfl; (with_reducible repeat (first | refine blk_drewN ?_ _ | refine blk_drew ?_ | refine blk_alloc ?_ _)); refine blk_put (cs := #[.slice Ao57 t262.length co57, .int .i64 0, .int .i64 0]) ?_ 1 _ rfl; (with_reducible repeat (first | refine blk_drewN ?_ _ | refine blk_drew ?_ | refine blk_alloc ?_ _)); refine blk_put (cs := #[.slice none 0 0, .int .i64 0, .int .i64 0]) ?_ 0 _ rfl; (with_reducible repeat (first | refine blk_drewN ?_ _ | refine blk_drew ?_ | refine blk_alloc ?_ _)); exact BK267.out⟩, ⟨by repeat (first | (with_reducible first | exact HB.out | apply below_alloc | apply pw_below_drewN | apply below_drew1 | refine below_set ?_ GE257.out | refine below_set ?_ GE267.out) | exact HB.out)⟩⟩
                ·
                 rw [if_neg c63] at H
                 exact absurd H (by simp)
               ·
                rw [if_neg c62] at H
                exact absurd H (by simp)
            case rest =>
             clear HC52
             (try clear c1); (try clear p2); (try clear q2); (try clear hx2); (try clear c4); (try clear c5); (try clear c6); (try clear p6); (try clear c9); (try clear c12); (try clear c13); (try clear c15); (try clear p26); (try clear q26); (try clear hx26); (try clear c44); (try clear c44b0); (try clear c44b1); (try clear c45); (try clear c45b0); (try clear c45b1); (try clear c50); (try clear c50b0); (try clear c58); (try clear c60); (try clear c60b0); (try clear c61); (try clear c61b0); (try clear c62); (try clear c62b0); (try clear c63); (try clear c63b0); (try clear hcz47_0); (try clear hcz47_1); (try clear hcz47_2); (try clear hcz53_0); (try clear hcz53_1); (try clear hcz53_2); (try clear hcz59_0); (try clear hcz59_1); (try clear hcz59_2); (try clear hfz47_0); (try clear hfz47_1); (try clear hfz47_2); (try clear hfz53_0); (try clear hfz53_1); (try clear hfz53_2); (try clear hfz59_0); (try clear hfz59_1); (try clear hfz59_2); (try clear hx268_0); (try clear p2); (try clear p268); (try clear p6); (try clear q268)
             obtain ⟨kq, x80_51, rfl, HA, HJ51, HO_10, HO_258000, HO_268000, BK257, BK267, HB⟩ := hcut
             cases kq with
             | zero => exact absurd HA.out (by simp [warplaw2_PickTurns.j3])
             | succ kj51 =>
              have H := HA.out
              clear HA
              simp only [warplaw2_PickTurns.j3] at H
              by_cases c64 : x80_51 = true
              ·
               subst c64
               have H1 : (some false) = some r := by rw [if_pos rfl] at H; exact H
               clear H
               have H := H1
               clear H1
               obtain rfl := Option.some.inj H
               go_wp2
               go_ret
               exact ⟨by first | rfl | (simp [errW_none, errW_some] <;> rfl) | (simp [*, errW_none, errW_some] <;> rfl), by repeat (first | (with_reducible first | exact HB.out | apply below_alloc | apply pw_below_drewN | apply below_drew1 | refine below_set ?_ GE257.out | refine below_set ?_ GE267.out) | exact HB.out)⟩
              ·
               replace c64 := Bool.eq_false_iff.mpr c64
               subst c64
               have H1 : (if 0 ≤ t261 then (if t261 < (x10_3.length : Int) then (warplaw2_PickTurns.l1 kj51 l0 x5_1 (x10_3.set (t261 : Int).toNat (wrap64 ((rd x10_3 t261) + 1))) (wrap64 (x11_3 + 1)) t262 t265 t266) else (none)) else (none)) = some r := by rw [if_neg (show ¬ (false = true) by decide)] at H; exact H
               clear H
               have H := H1
               clear H1
               by_cases c65 : 0 ≤ t261
               ·
                rw [if_pos c65] at H
                have c65b0 : decide (0 ≤ t261) = true := decide_eq_true c65
                clear c65
                by_cases c66 : t261 < (x10_3.length : Int)
                ·
                 rw [if_pos c66] at H
                 have c66b0 : decide (t261 < (x10_3.length : Int)) = true := decide_eq_true c66
                 clear c66
                 obtain ⟨y270, hy270⟩ : ∃ y_ : List Int, y_ = (x10_3.set (t261 : Int).toNat (wrap64 ((rd x10_3 t261) + 1))) := ⟨_, rfl⟩
                 replace H : (warplaw2_PickTurns.l1 kj51 l0 x5_1 y270 (wrap64 (x11_3 + 1)) t262 t265 t266) = some r := by first | (rw [hy270]; with_reducible exact H) | (have H2_ := (Option.bind_some _ _).symm.trans H; rw [hy270]; with_reducible exact H2_) | (have H2_ := (Option.bind_some _ _).symm.trans H; with_reducible exact H2_) | with_reducible exact H | (rw [hy270]; exact H) | exact H
                 have Ny270 := Aside0.mk hy270
                 clear hy270
                 have H' := Aside0.mk H
                 clear H
                 obtain ⟨Ao68, co68, eo68⟩ := Kd.R_slice HO_10.out
                 subst eo68
                 have p269 : 0 ≤ (t261 : Int) := of_decide_eq_true (by first | (with_reducible assumption) | assumption)
                 have q269 : t261 < (x10_3.length : Int) := of_decide_eq_true (by first | (with_reducible assumption) | assumption)
                 obtain ⟨ad269, e269, hx269_0⟩ := Kd.at_int (Kd.R_reads' HO_10.out).2.2 t261 p269 q269
                 cases e269
                 replace p269 := eq_true p269
                 replace q269 := eq_true q269
                 have p67 : 0 ≤ (t261 : Int) := of_decide_eq_true (by first | (with_reducible assumption) | assumption)
                 have q67 : (t261 : Int) < ((x10_3.length : Int) : Int) := of_decide_eq_true (by first | (with_reducible assumption) | assumption)
                 obtain ⟨go67, co67, eo67, gb67, gl67, cl67, HG67⟩ := Kd.R_form HO_10.out (by omega)
                 (first | cases eo67 | (injection eo67 with ea_ en_ ec_; (first | subst ea_ | (injection ea_ with ea_; subst ea_)); subst ec_; clear en_))
                 have GB67 := Aside0.mk gb67
                 have GG67 := Aside0.mk HG67
                 clear gb67 gl67 HG67
                 (first | simp only [add_plain] at hx269_0 | skip)
                 obtain ⟨hx67_0, hf67_0⟩ := Kd.R_celln 0 HO_10.out (t261 : Int) p67 q67
                 replace p67 := eq_true p67
                 replace q67 := eq_true q67
                 have HP69 := Kd.R_putg HO_10.out (t261 : Int) (wrap64 ((rd x10_3 t261) + 1))
                 go_wp2_with (first | ((with_reducible refine gate_store (t := 3) (p := 86) rfl ?_); refine store_event (t := 3) (p := 86) (v := ?vo_w70) (w1 := (wc.setCell ⟨go67, (t261 : Int).toNat, none⟩ (.int .i64 (wrap64 ((rd x10_3 t261) + 1))))) ?hg ?ho ?hn ?hr ?_; (case ho => rfl); (case hg => rfl); (case hn => rfl); (case hr => first | (go_simp; done) | (go_simp; rfl)); intro w70 hw; have hg : wc.grownBy w70 (some go67) := (by rw [hw]; exact HP69.2); have hp_ : Kd.R (Kd.int .i64) 3 w70 w.heap.size (fun _ => True) (.slice (some ⟨go67, 0, none⟩) x10_3.length co68) y270 := (by rw [hw, Ny270.out]; exact HP69.1); clear HP69; have n0_ := Aside0.mk (hp_); have n1_ := Aside0.mk (Kd.V_afterv (v := (.slice (some ⟨go67, 0, none⟩) x10_3.length co68)) (v1 := (.slice (some ⟨go67, 0, none⟩) x10_3.length co68)) (ok := (fun k_ => k_ ≠ gb257 ∧ k_ ≠ gb267)) (by (with_reducible repeat (first | apply Kd.V_alloc | apply Kd.V_drewN | apply Kd.V_drew)); exact Kd.V_mono HO_258000.out (fun _ hk => ⟨⟨hk.2.1, hk.2.2⟩, hk.1⟩)) hg (.inl rfl)); have n2_ := Aside0.mk (Kd.V_afterv (v := (.slice (some ⟨go67, 0, none⟩) x10_3.length co68)) (v1 := (.slice (some ⟨go67, 0, none⟩) x10_3.length co68)) (ok := (fun k_ => k_ ≠ gb257 ∧ k_ ≠ gb267)) (by (with_reducible repeat (first | apply Kd.V_alloc | apply Kd.V_drewN | apply Kd.V_drew)); exact Kd.V_mono HO_268000.out (fun _ hk => ⟨⟨hk.2.1, hk.2.2⟩, hk.1⟩)) hg (.inl rfl)); have n3_ := Aside0.mk (blk_grown (g := gb257) (o := .cells #[.slice Ao54 x258000_3.length co54, .int .i64 x258001_3, .int .i64 x258002_3] 24 (0, 0)) (by (with_reducible repeat (first | refine blk_drewN ?_ _ | refine blk_drew ?_ | refine blk_alloc ?_ _)); exact BK257.out) hg (Kd.R_ne HO_10.out BK257.out (by decide))); have n4_ := Aside0.mk (blk_grown (g := gb267) (o := .cells #[.slice Ao57 t262.length co57, .int .i64 t265, .int .i64 t266] 24 (0, 0)) (by (with_reducible repeat (first | refine blk_drewN ?_ _ | refine blk_drew ?_ | refine blk_alloc ?_ _)); exact BK267.out) hg (Kd.R_ne HO_10.out BK267.out (by decide))); have n5_ := Aside0.mk ((by rw [hw]; exact below_set (HB.out) GB67.out : Below w.heap.size w w70)); clear HO_10; clear HO_258000; clear HO_268000; clear BK257; clear BK267; clear HB; have HO_10 := n0_; have HO_258000 := n1_; have HO_268000 := n2_; have BK257 := n3_; have BK267 := n4_; have HB := n5_; clear n0_ n1_ n2_ n3_ n4_ n5_; clear hg hw hp_; have hnb71 := NB267_257.out; have hnc71 := NB257_267.out; have hcz72_0 : w70.cell? ⟨gb267, 0, none⟩ = some (.slice Ao57 t262.length co57) := (blk_cell BK267.out 0).trans rfl; have hcz72_1 : w70.cell? ⟨gb267, 1, none⟩ = some (.int .i64 t265) := (blk_cell BK267.out 1).trans rfl; have hcz72_2 : w70.cell? ⟨gb267, 2, none⟩ = some (.int .i64 t266) := (blk_cell BK267.out 2).trans rfl; have hfz72_0 := blk_frozen BK267.out 0; have hfz72_1 := blk_frozen BK267.out 1; have hfz72_2 := blk_frozen BK267.out 2; have hcz73_0 : w70.cell? ⟨gb257, 0, none⟩ = some (.slice Ao54 x258000_3.length co54) := (blk_cell BK257.out 0).trans rfl; have hcz73_1 : w70.cell? ⟨gb257, 1, none⟩ = some (.int .i64 x258001_3) := (blk_cell BK257.out 1).trans rfl; have hcz73_2 : w70.cell? ⟨gb257, 2, none⟩ = some (.int .i64 x258002_3) := (blk_cell BK257.out 2).trans rfl; have hfz73_0 := blk_frozen BK257.out 0; have hfz73_1 := blk_frozen BK257.out 1; have hfz73_2 := blk_frozen BK257.out 2))
                 go_roundg kj51
                 case measure => have := HK1.out; have := HJ6.out; have := HK3.out; have := HJ51.out; omega
                 case rel => exact ⟨(y270), (wrap64 (x11_3 + 1)), (t262), (t265), (t266), (.slice Ao57 t262.length co57), (by first | rfl | (simp; done) | (simp [*]; done)), H', ⟨by have := HK1.out; have := HJ6.out; have := HK3.out; have := HJ51.out; omega⟩, ⟨by (with_reducible repeat (first | apply Kd.R_alloc | apply Kd.R_drewN | apply Kd.R_drew)); exact Kd.R_mono (Kd.R_far (p := ⟨gb257, 2, none⟩) (Kd.R_far (p := ⟨gb257, 1, none⟩) (Kd.R_far (p := ⟨gb257, 0, none⟩) (Kd.R_types HO_10.out BK257.out (by decide)) (fun _ hk => hk.2) (.slice Ao57 t262.length co57)) (fun _ hk => hk.2) (.int .i64 t265)) (fun _ hk => hk.2) (.int .i64 t266)) (fun _ hk => trivial)⟩, ⟨by (with_reducible repeat (first | apply Kd.V_alloc | apply Kd.V_drewN | apply Kd.V_drew)); exact Kd.V_mono (Kd.V_far (p := ⟨gb257, 2, none⟩) (Kd.V_far (p := ⟨gb257, 1, none⟩) (Kd.V_far (p := ⟨gb257, 0, none⟩) (Kd.V_mono HO_268000.out (fun k_ hk => (⟨hk, hk.1.1⟩ : _ ∧ k_ ≠ gb257))) (fun _ hk => hk.2) (.slice Ao57 t262.length co57)) (fun _ hk => hk.2) (.int .i64 t265)) (fun _ hk => hk.2) (.int .i64 t266)) (fun _ hk => ⟨hk.1.2, hk.1.1.1⟩)⟩, ⟨by (with_reducible repeat (first | refine blk_drewN ?_ _ | refine blk_drew ?_ | refine blk_alloc ?_ _)); refine blk_put (cs := #[.slice Ao57 t262.length co57, .int .i64 t265, .int .i64 x258002_3]) ?_ 2 _ rfl; (with_reducible repeat (first | refine blk_drewN ?_ _ | refine blk_drew ?_ | refine blk_alloc ?_ _)); refine blk_put (cs := #[.slice Ao57 t262.length co57, .int .i64 x258001_3, .int .i64 x258002_3]) ?_ 1 _ rfl; (with_reducible repeat (first | refine blk_drewN ?_ _ | refine blk_drew ?_ | refine blk_alloc ?_ _)); refine blk_put (cs := #[.slice Ao54 x258000_3.length co54, .int .i64 x258001_3, .int .i64 x258002_3]) ?_ 0 _ rfl; (with_reducible repeat (first | refine blk_drewN ?_ _ | refine blk_drew ?_ | refine blk_alloc ?_ _)); exact BK257.out⟩, ⟨by repeat (first | (with_reducible first | exact HB.out | apply below_alloc | apply pw_below_drewN | apply below_drew1 | refine below_set ?_ GE257.out | refine below_set ?_ GE267.out) | exact HB.out)⟩⟩
                ·
                 rw [if_neg c66] at H
                 exact absurd H (by simp)
               ·
                rw [if_neg c65] at H
                exact absurd H (by simp)
           ·
            rw [if_neg c50] at H
            have c50b0 : decide (x11_3 < (wrap64 (3 * x5_1))) = false := decide_eq_false c50
            clear c50
            have H' := Aside0.mk H
            clear H
            go_wp2
            go_loopg [14] k3 (fun kq v14 w' => ∃ (x14_4 : Int), v14 = .int .i64 x14_4 ∧ Aside0 (warplaw2_PickTurns.l2 kq l0 x10_3 x14_4 = some r) ∧ Aside0 (kq ≤ k3) ∧ Aside0 (Kd.R (Kd.int .i64) 3 w' w.heap.size (fun _ => True) v259 x10_3) ∧ Aside0 (Kd.V (Kd.int .i64) 3 w' w.heap.size (fun k_ => some k_ ≠ (v259 : Value).ownBlock ∧ k_ ≠ gb257) u258000 x258000_3) ∧ Aside0 (w'.heap[gb257]? = some (.cells #[u258000, .int .i64 x258001_3, .int .i64 x258002_3] 24 (0, 0))) ∧ Aside0 (Below w.heap.size w w'))
            case atStart => exact ⟨(0), (by first | rfl | (simp; done) | (simp [*]; done)), H', ⟨Nat.le_refl _⟩, ⟨by (with_reducible repeat (first | apply Kd.R_alloc | apply Kd.R_drewN | apply Kd.R_drew)); exact HO_10.out⟩, ⟨by (with_reducible repeat (first | apply Kd.V_alloc | apply Kd.V_drewN | apply Kd.V_drew)); exact HO_258000.out⟩, ⟨by (with_reducible repeat (first | refine blk_drewN ?_ _ | refine blk_drew ?_ | refine blk_alloc ?_ _)); exact BK257.out⟩, ⟨by repeat (first | (with_reducible first | exact HB.out | apply below_alloc | apply pw_below_drewN | apply below_drew1 | refine below_set ?_ GE257.out) | exact HB.out)⟩⟩
            case round =>
             clear H'
             (try clear c1); (try clear p2); (try clear q2); (try clear hx2); (try clear c4); (try clear c5); (try clear c6); (try clear p6); (try clear q6); (try clear hx6); (try clear hf6); (try clear c7); (try clear c9); (try clear c12); (try clear c13); (try clear c15); (try clear p26); (try clear q26); (try clear hx26); (try clear c44); (try clear c44b0); (try clear c44b1); (try clear c45); (try clear c45b0); (try clear c45b1); (try clear c50); (try clear c50b0); (try clear c58); (try clear c60); (try clear c60b0); (try clear c61); (try clear c61b0); (try clear c62); (try clear c62b0); (try clear c63); (try clear c63b0); (try clear c64); (try clear p64); (try clear c65); (try clear c65b0); (try clear c66); (try clear c66b0); (try clear p67); (try clear q67); (try clear hx67); (try clear hf67); (try clear c71); (try clear hcz47_0); (try clear hcz47_1); (try clear hcz47_2); (try clear hcz53_0); (try clear hcz53_1); (try clear hcz53_2); (try clear hcz59_0); (try clear hcz59_1); (try clear hcz59_2); (try clear hcz72_0); (try clear hcz72_1); (try clear hcz72_2); (try clear hcz73_0); (try clear hcz73_1); (try clear hcz73_2); (try clear hfz47_0); (try clear hfz47_1); (try clear hfz47_2); (try clear hfz53_0); (try clear hfz53_1); (try clear hfz53_2); (try clear hfz59_0); (try clear hfz59_1); (try clear hfz59_2); (try clear hfz72_0); (try clear hfz72_1); (try clear hfz72_2); (try clear hfz73_0); (try clear hfz73_1); (try clear hfz73_2); (try clear hx268_0); (try clear hx269_0); (try clear hx67_0); (try clear p2); (try clear p26); (try clear p268); (try clear p269); (try clear p6); (try clear p67); (try clear q2); (try clear q26); (try clear q268); (try clear q269); (try clear q67)
             obtain ⟨x14_4, rfl, HA, HK4, HO_10, HO_258000, BK257, HB⟩ := hrel
             cases gk with
             | zero => exact absurd HA.out (by simp [warplaw2_PickTurns.l2])
             | succ k4 =>
              have H := HA.out
              clear HA
              simp only [warplaw2_PickTurns.l2] at H
              by_cases c74 : x14_4 < (l0.length : Int)
              ·
               rw [if_pos c74] at H
               have c74b0 : decide (x14_4 < (l0.length : Int)) = true := decide_eq_true c74
               clear c74
               have HC75 := Aside0.mk H
               clear H
               go_upto_region 23 with (fail)
               go_cut [118] (fun v118 wc => ∃ (kq : Nat) (x118_74 : Bool), v118 = .bool x118_74 ∧ Aside0 (warplaw2_PickTurns.j5 kq l0 x10_3 x14_4 x118_74 = some r) ∧ Aside0 (kq ≤ k4) ∧ Aside0 (Kd.R (Kd.int .i64) 3 wc w.heap.size (fun _ => True) v259 x10_3) ∧ Aside0 (Kd.V (Kd.int .i64) 3 wc w.heap.size (fun k_ => some k_ ≠ (v259 : Value).ownBlock ∧ k_ ≠ gb257) u258000 x258000_3) ∧ Aside0 (wc.heap[gb257]? = some (.cells #[u258000, .int .i64 x258001_3, .int .i64 x258002_3] 24 (0, 0))) ∧ Aside0 (Below w.heap.size w wc))
               case first =>
                have H := HC75.out
                clear HC75
                by_cases c76 : 0 ≤ x14_4
                ·
                 rw [if_pos c76] at H
                 have c76b0 : decide (0 ≤ x14_4) = true := decide_eq_true c76
                 clear c76
                 (first | rw [c76b0] | (simp only [i64_w, i32_w]; rw [c76b0]) | skip)
                 obtain ⟨bq77, hbq77⟩ : ∃ b_ : Bool, b_ = (rdOf false l0 x14_4) := ⟨_, rfl⟩
                 replace H : (if bq77 = true then (if x14_4 < (x10_3.length : Int) then (if (rd x10_3 x14_4) = 3 then (warplaw2_PickTurns.j5 k4 l0 x10_3 x14_4 false) else (warplaw2_PickTurns.j5 k4 l0 x10_3 x14_4 true)) else (none)) else (if x14_4 < (x10_3.length : Int) then (warplaw2_PickTurns.j5 k4 l0 x10_3 x14_4 ((rd x10_3 x14_4) != 0)) else (none))) = some r := by rw [← hbq77] at H; exact H
                 have Nbq77 := Aside0.mk hbq77
                 clear hbq77
                 by_cases c78 : bq77 = true
                 ·
                  subst c78
                  have H1 : (if x14_4 < (x10_3.length : Int) then (if (rd x10_3 x14_4) = 3 then (warplaw2_PickTurns.j5 k4 l0 x10_3 x14_4 false) else (warplaw2_PickTurns.j5 k4 l0 x10_3 x14_4 true)) else (none)) = some r := by rw [if_pos rfl] at H; exact H
                  clear H
                  have H := H1
                  clear H1
                  by_cases c79 : x14_4 < (x10_3.length : Int)
                  ·
                   rw [if_pos c79] at H
                   have c79b0 : decide (x14_4 < (x10_3.length : Int)) = true := decide_eq_true c79
                   clear c79
                   by_cases c80 : (rd x10_3 x14_4) = 3
                   ·
                    rw [if_pos c80] at H
                    have c80b0 : ((rd x10_3 x14_4) == 3) = true := beq_iff_eq.mpr c80
                    have c80b1 : ((rd x10_3 x14_4) != 3) = false := bne_eq_false_iff_eq.mpr c80
                    clear c80
                    have H' := Aside0.mk H
                    clear H
                    have p271 : 0 ≤ (x14_4 : Int) := of_decide_eq_true (by first | (with_reducible assumption) | assumption)
                    have q271 : x14_4 < (l0.length : Int) := of_decide_eq_true (by first | (with_reducible assumption) | assumption)
                    obtain ⟨ad271, e271, hx271_0⟩ := Kd.at_bool HR0.out x14_4 p271 q271
                    (try rw [← Nbq77.out] at hx271_0)
                    cases e271
                    replace hx271_0 := (HB.out.cell (World.block_lt_of_cell? w _ hx271_0)).trans hx271_0
                    replace p271 := eq_true p271
                    replace q271 := eq_true q271
                    obtain ⟨Ao81, co81, eo81⟩ := Kd.R_slice HO_10.out
                    subst eo81
                    have p272 : 0 ≤ (x14_4 : Int) := of_decide_eq_true (by first | (with_reducible assumption) | assumption)
                    have q272 : x14_4 < (x10_3.length : Int) := of_decide_eq_true (by first | (with_reducible assumption) | assumption)
                    obtain ⟨ad272, e272, hx272_0⟩ := Kd.at_int (Kd.R_reads' HO_10.out).2.2 x14_4 p272 q272
                    cases e272
                    replace p272 := eq_true p272
                    replace q272 := eq_true q272
                    have p273 : 0 ≤ (x14_4 : Int) := of_decide_eq_true (by first | (with_reducible assumption) | assumption)
                    have q273 : x14_4 < (l0.length : Int) := of_decide_eq_true (by first | (with_reducible assumption) | assumption)
                    obtain ⟨ad273, e273, hx273_0⟩ := Kd.at_bool HR0.out x14_4 p273 q273
                    (try rw [← Nbq77.out] at hx273_0)
                    obtain rfl : ad271 = ad273 := (by injection e273)
                    replace hx273_0 := (HB.out.cell (World.block_lt_of_cell? w _ hx273_0)).trans hx273_0
                    replace p273 := eq_true p273
                    replace q273 := eq_true q273
                    go_wp2
                    go_meet
                    case rel => exact ⟨_, (false), (by first | rfl | (simp; done) | (simp [*]; done)), H', ⟨by have := HK1.out; have := HJ6.out; have := HK3.out; have := HK4.out; first | omega | exact Nat.le_refl _⟩, ⟨by (with_reducible repeat (first | apply Kd.R_alloc | apply Kd.R_drewN | apply Kd.R_drew)); exact HO_10.out⟩, ⟨by (with_reducible repeat (first | apply Kd.V_alloc | apply Kd.V_drewN | apply Kd.V_drew)); exact HO_258000.out⟩, ⟨by (with_reducible repeat (first | refine blk_drewN ?_ _ | refine blk_drew ?_ | refine blk_alloc ?_ _)); exact BK257.out⟩, ⟨by repeat (first | (with_reducible first | exact HB.out | apply below_alloc | apply pw_below_drewN | apply below_drew1 | refine below_set ?_ GE257.out) | exact HB.out)⟩⟩
                   ·
                    rw [if_neg c80] at H
                    have c80b0 : ((rd x10_3 x14_4) == 3) = false := beq_eq_false_iff_ne.mpr c80
                    have c80b1 : ((rd x10_3 x14_4) != 3) = true := bne_iff_ne.mpr c80
                    have H' := Aside0.mk H
                    clear H
                    have p271 : 0 ≤ (x14_4 : Int) := of_decide_eq_true (by first | (with_reducible assumption) | assumption)
                    have q271 : x14_4 < (l0.length : Int) := of_decide_eq_true (by first | (with_reducible assumption) | assumption)
                    obtain ⟨ad271, e271, hx271_0⟩ := Kd.at_bool HR0.out x14_4 p271 q271
                    (try rw [← Nbq77.out] at hx271_0)
                    cases e271
                    replace hx271_0 := (HB.out.cell (World.block_lt_of_cell? w _ hx271_0)).trans hx271_0
                    replace p271 := eq_true p271
                    replace q271 := eq_true q271
                    obtain ⟨Ao82, co82, eo82⟩ := Kd.R_slice HO_10.out
                    subst eo82
                    have p272 : 0 ≤ (x14_4 : Int) := of_decide_eq_true (by first | (with_reducible assumption) | assumption)
                    have q272 : x14_4 < (x10_3.length : Int) := of_decide_eq_true (by first | (with_reducible assumption) | assumption)
                    obtain ⟨ad272, e272, hx272_0⟩ := Kd.at_int (Kd.R_reads' HO_10.out).2.2 x14_4 p272 q272
                    cases e272
                    replace p272 := eq_true p272
                    replace q272 := eq_true q272
                    go_wp2
                    go_meet
                    case rel => exact ⟨_, (true), (by first | rfl | (simp; done) | (simp [*]; done)), H', ⟨by have := HK1.out; have := HJ6.out; have := HK3.out; have := HK4.out; first | omega | exact Nat.le_refl _⟩, ⟨by (with_reducible repeat (first | apply Kd.R_alloc | apply Kd.R_drewN | apply Kd.R_drew)); exact HO_10.out⟩, ⟨by (with_reducible repeat (first | apply Kd.V_alloc | apply Kd.V_drewN | apply Kd.V_drew)); exact HO_258000.out⟩, ⟨by (with_reducible repeat (first | refine blk_drewN ?_ _ | refine blk_drew ?_ | refine blk_alloc ?_ _)); exact BK257.out⟩, ⟨by repeat (first | (with_reducible first | exact HB.out | apply below_alloc | apply pw_below_drewN | apply below_drew1 | refine below_set ?_ GE257.out) | exact HB.out)⟩⟩
                  ·
                   rw [if_neg c79] at H
                   exact absurd H (by simp)
                 ·
                  replace c78 := Bool.eq_false_iff.mpr c78
                  subst c78
                  have H1 : (if x14_4 < (x10_3.length : Int) then (warplaw2_PickTurns.j5 k4 l0 x10_3 x14_4 ((rd x10_3 x14_4) != 0)) else (none)) = some r := by rw [if_neg (show ¬ (false = true) by decide)] at H; exact H
                  clear H
                  have H := H1
                  clear H1
                  by_cases c83 : x14_4 < (x10_3.length : Int)
                  ·
                   rw [if_pos c83] at H
                   have c83b0 : decide (x14_4 < (x10_3.length : Int)) = true := decide_eq_true c83
                   clear c83
                   have H' := Aside0.mk H
                   clear H
                   have p271 : 0 ≤ (x14_4 : Int) := of_decide_eq_true (by first | (with_reducible assumption) | assumption)
                   have q271 : x14_4 < (l0.length : Int) := of_decide_eq_true (by first | (with_reducible assumption) | assumption)
                   obtain ⟨ad271, e271, hx271_0⟩ := Kd.at_bool HR0.out x14_4 p271 q271
                   (try rw [← Nbq77.out] at hx271_0)
                   cases e271
                   replace hx271_0 := (HB.out.cell (World.block_lt_of_cell? w _ hx271_0)).trans hx271_0
                   replace p271 := eq_true p271
                   replace q271 := eq_true q271
                   have p274 : 0 ≤ (x14_4 : Int) := of_decide_eq_true (by first | (with_reducible assumption) | assumption)
                   have q274 : x14_4 < (l0.length : Int) := of_decide_eq_true (by first | (with_reducible assumption) | assumption)
                   obtain ⟨ad274, e274, hx274_0⟩ := Kd.at_bool HR0.out x14_4 p274 q274
                   (try rw [← Nbq77.out] at hx274_0)
                   obtain rfl : ad271 = ad274 := (by injection e274)
                   replace hx274_0 := (HB.out.cell (World.block_lt_of_cell? w _ hx274_0)).trans hx274_0
                   replace p274 := eq_true p274
                   replace q274 := eq_true q274
                   obtain ⟨Ao84, co84, eo84⟩ := Kd.R_slice HO_10.out
                   subst eo84
                   have p275 : 0 ≤ (x14_4 : Int) := of_decide_eq_true (by first | (with_reducible assumption) | assumption)
                   have q275 : x14_4 < (x10_3.length : Int) := of_decide_eq_true (by first | (with_reducible assumption) | assumption)
                   obtain ⟨ad275, e275, hx275_0⟩ := Kd.at_int (Kd.R_reads' HO_10.out).2.2 x14_4 p275 q275
                   cases e275
                   replace p275 := eq_true p275
                   replace q275 := eq_true q275
                   go_wp2
                   go_meet
                   case rel => exact ⟨_, (((rd x10_3 x14_4) != 0)), (by first | rfl | (simp; done) | (simp [*]; done)), H', ⟨by have := HK1.out; have := HJ6.out; have := HK3.out; have := HK4.out; first | omega | exact Nat.le_refl _⟩, ⟨by (with_reducible repeat (first | apply Kd.R_alloc | apply Kd.R_drewN | apply Kd.R_drew)); exact HO_10.out⟩, ⟨by (with_reducible repeat (first | apply Kd.V_alloc | apply Kd.V_drewN | apply Kd.V_drew)); exact HO_258000.out⟩, ⟨by (with_reducible repeat (first | refine blk_drewN ?_ _ | refine blk_drew ?_ | refine blk_alloc ?_ _)); exact BK257.out⟩, ⟨by repeat (first | (with_reducible first | exact HB.out | apply below_alloc | apply pw_below_drewN | apply below_drew1 | refine below_set ?_ GE257.out) | exact HB.out)⟩⟩
                  ·
                   rw [if_neg c83] at H
                   exact absurd H (by simp)
                ·
                 rw [if_neg c76] at H
                 exact absurd H (by simp)
               case rest =>
                clear HC75
                (try clear c1); (try clear p2); (try clear q2); (try clear hx2); (try clear c4); (try clear c5); (try clear c6); (try clear p6); (try clear q6); (try clear hx6); (try clear hf6); (try clear c7); (try clear q7); (try clear c8); (try clear c9); (try clear c12); (try clear c13); (try clear c15); (try clear p26); (try clear q26); (try clear hx26); (try clear p27); (try clear q27); (try clear hx27); (try clear c44); (try clear c44b0); (try clear c44b1); (try clear c45); (try clear c45b0); (try clear c45b1); (try clear c50); (try clear c50b0); (try clear c58); (try clear c60); (try clear c60b0); (try clear c61); (try clear c61b0); (try clear c62); (try clear c62b0); (try clear c63); (try clear c63b0); (try clear c64); (try clear p64); (try clear c65); (try clear c65b0); (try clear c66); (try clear c66b0); (try clear p67); (try clear q67); (try clear hx67); (try clear hf67); (try clear c71); (try clear c74); (try clear c74b0); (try clear c76); (try clear c76b0); (try clear q77); (try clear c78); (try clear c79); (try clear c79b0); (try clear c80); (try clear c80b0); (try clear c80b1); (try clear c83); (try clear c83b0); (try clear hcz47_0); (try clear hcz47_1); (try clear hcz47_2); (try clear hcz53_0); (try clear hcz53_1); (try clear hcz53_2); (try clear hcz59_0); (try clear hcz59_1); (try clear hcz59_2); (try clear hcz72_0); (try clear hcz72_1); (try clear hcz72_2); (try clear hcz73_0); (try clear hcz73_1); (try clear hcz73_2); (try clear hfz47_0); (try clear hfz47_1); (try clear hfz47_2); (try clear hfz53_0); (try clear hfz53_1); (try clear hfz53_2); (try clear hfz59_0); (try clear hfz59_1); (try clear hfz59_2); (try clear hfz72_0); (try clear hfz72_1); (try clear hfz72_2); (try clear hfz73_0); (try clear hfz73_1); (try clear hfz73_2); (try clear hx268_0); (try clear hx269_0); (try clear hx271_0); (try clear hx272_0); (try clear hx273_0); (try clear hx274_0); (try clear hx275_0); (try clear hx67_0); (try clear p2); (try clear p26); (try clear p268); (try clear p269); (try clear p271); (try clear p272); (try clear p273); (try clear p274); (try clear p275); (try clear p6); (try clear p64); (try clear p67); (try clear q2); (try clear q26); (try clear q268); (try clear q269); (try clear q271); (try clear q272); (try clear q273); (try clear q274); (try clear q275); (try clear q6); (try clear q67)
                obtain ⟨kq, x118_74, rfl, HA, HJ74, HO_10, HO_258000, BK257, HB⟩ := hcut
                cases kq with
                | zero => exact absurd HA.out (by simp [warplaw2_PickTurns.j5])
                | succ kj74 =>
                 have H := HA.out
                 clear HA
                 simp only [warplaw2_PickTurns.j5] at H
                 by_cases c85 : x118_74 = true
                 ·
                  subst c85
                  have H1 : (some false) = some r := by rw [if_pos rfl] at H; exact H
                  clear H
                  have H := H1
                  clear H1
                  obtain rfl := Option.some.inj H
                  go_wp2
                  go_ret
                  exact ⟨by first | rfl | (simp [errW_none, errW_some] <;> rfl) | (simp [*, errW_none, errW_some] <;> rfl), by repeat (first | (with_reducible first | exact HB.out | apply below_alloc | apply pw_below_drewN | apply below_drew1 | refine below_set ?_ GE257.out) | exact HB.out)⟩
                 ·
                  replace c85 := Bool.eq_false_iff.mpr c85
                  subst c85
                  have H1 : (warplaw2_PickTurns.l2 kj74 l0 x10_3 (wrap64 (x14_4 + 1))) = some r := by rw [if_neg (show ¬ (false = true) by decide)] at H; exact H
                  clear H
                  have H := H1
                  clear H1
                  have H' := Aside0.mk H
                  clear H
                  go_wp2
                  go_roundg kj74
                  case measure => have := HK1.out; have := HJ6.out; have := HK3.out; have := HK4.out; have := HJ74.out; omega
                  case rel => exact ⟨(wrap64 (x14_4 + 1)), (by first | rfl | (simp; done) | (simp [*]; done)), H', ⟨by have := HK1.out; have := HJ6.out; have := HK3.out; have := HK4.out; have := HJ74.out; omega⟩, ⟨by (with_reducible repeat (first | apply Kd.R_alloc | apply Kd.R_drewN | apply Kd.R_drew)); exact HO_10.out⟩, ⟨by (with_reducible repeat (first | apply Kd.V_alloc | apply Kd.V_drewN | apply Kd.V_drew)); exact HO_258000.out⟩, ⟨by (with_reducible repeat (first | refine blk_drewN ?_ _ | refine blk_drew ?_ | refine blk_alloc ?_ _)); exact BK257.out⟩, ⟨by repeat (first | (with_reducible first | exact HB.out | apply below_alloc | apply pw_below_drewN | apply below_drew1 | refine below_set ?_ GE257.out) | exact HB.out)⟩⟩
              ·
               rw [if_neg c74] at H
               have c74b0 : decide (x14_4 < (l0.length : Int)) = false := decide_eq_false c74
               clear c74
               replace H := Option.bind_eq_some_iff.mp H
               obtain ⟨t276, A860, H⟩ := H
               replace H : (some t276) = some r := H
               have A86 := Aside0.mk A860
               clear A860
               obtain rfl := Option.some.inj H
               go_wp2_with (first | ((with_reducible refine gate_callee (f := 12) rfl ?_); refine goesL_ (some 119) rfl rfl Tryd.func12 (by kernel_rfl) rfl #[] rfl (by (try simp only [List.map_toArray, List.map_cons, List.map_nil]); first | done | rfl | (simp only [List.length_drop, List.length_take]; rfl)) ?_; (with_reducible refine (warplaw2_awake.calls k4  t276 _ A86.out).mono ?_); rintro e w87 ⟨rfl, hb⟩; refine ⟨_, rfl, ?_⟩; have n0_ := Aside0.mk (Kd.R_below (by (with_reducible repeat (first | apply Kd.R_alloc | apply Kd.R_drewN | apply Kd.R_drew)); exact HO_10.out) hb); have n1_ := Aside0.mk (Kd.V_below (by (with_reducible repeat (first | apply Kd.V_alloc | apply Kd.V_drewN | apply Kd.V_drew)); exact HO_258000.out) hb); have n2_ := Aside0.mk (blk_below (g := gb257) (o := .cells #[u258000, .int .i64 x258001_3, .int .i64 x258002_3] 24 (0, 0)) (by (with_reducible repeat (first | refine blk_drewN ?_ _ | refine blk_drew ?_ | refine blk_alloc ?_ _)); exact BK257.out) hb); have n3_ := Aside0.mk (below_step (by repeat (first | (with_reducible first | exact HB.out | apply below_alloc | apply pw_below_drewN | apply below_drew1 | refine below_set ?_ GE257.out) | exact HB.out)) hb); clear HO_10; clear HO_258000; clear BK257; clear HB; have HO_10 := n0_; have HO_258000 := n1_; have BK257 := n2_; have HB := n3_; clear n0_ n1_ n2_ n3_; (try clear hb); (try clear hb2); (try clear hk); (try clear hi)))
               go_ret
               exact ⟨by first | rfl | (simp [errW_none, errW_some] <;> rfl) | (simp [*, errW_none, errW_some] <;> rfl), by repeat (first | (with_reducible first | exact HB.out | apply below_alloc | apply pw_below_drewN | apply below_drew1 | refine below_set ?_ GE257.out) | exact HB.out)⟩
        ·
         rw [if_neg c45] at H
         exact absurd H (by simp)
       ·
        rw [if_neg c44] at H
        exact absurd H (by simp)

/-- The one plain statement of warplaw2_PickTurns. -/
def warplaw2_PickTurns.Pure : Prop := ∀ (l0 : List Bool) (a1 : Int), ((fun l : List Bool => l.length ≤ maxLen ∧ ∀ x ∈ l, (fun _ : Bool => True) x) l0) → ((fun n : Int => (Lit.int .u8 n).wf = true) a1) → ∃ k, warplaw2_PickTurns.f k l0 a1 = some true

end Go.Proofs.YtbkdnenlffiaeaaDoor.P
