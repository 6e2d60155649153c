/-
The plain Lean functions of Go functions of this seat, and proofs that the calls of the machine come to them; no condition beside those named in each theorem.
-/
import Derived.Test.YtmaiicpaalbcfaaDoorPx0
import Derived.Test.YtmaiicpaalbcfaaDoorPx3
import Derived.Test.YtmaiicpaalbcfaaDoorStubB
namespace Go.Proofs.YtmaiicpaalbcfaaDoor.P
open Go.RowKit Go.Proofs.YtmaiicpaalbcfaaDoorW.PrintWords Go.Proofs.YtmaiicpaalbcfaaDoorW.PrintLast Go.Proofs.YtmaiicpaalbcfaaDoorW.PrintMore
attribute [local go_sem] max2_int min2_int max_two min_two max_three min_three max_four min_four   -- for this text's walks alone
set_option linter.unusedVariables false
set_option linter.unusedSimpArgs false

/-! ### warplaw5_PlayLimits: function 6 -/
mutual
def warplaw5_PlayLimits.j0 : Nat → Int → Int → Int → Bool → Option (Bool)
 | 0, _, _, _, _ => none
 | k + 1, x7, x8, x9, x31 => if x31 = true then (warplaw5_PlayLimits.j1 k 64 x8 x9) else (warplaw5_PlayLimits.j1 k x7 x8 x9)
def warplaw5_PlayLimits.j1 : Nat → Int → Int → Int → Option (Bool)
 | 0, _, _, _ => none
 | k + 1, x7, x8, x9 => if x9 > 40 then (warplaw5_PlayLimits.j2 k x7 x8 x9 (decide (x9 ≤ 4096))) else (warplaw5_PlayLimits.j2 k x7 x8 x9 false)
def warplaw5_PlayLimits.j2 : Nat → Int → Int → Int → Bool → Option (Bool)
 | 0, _, _, _, _ => none
 | k + 1, x7, x8, x9, x37 => if x37 = true then (warplaw5_PlayLimits.j3 k x7 x8 40) else (warplaw5_PlayLimits.j3 k x7 x8 x9)
def warplaw5_PlayLimits.j3 : Nat → Int → Int → Int → Option (Bool)
 | 0, _, _, _ => none
 | k + 1, x7, x8, x9 => if 0 ≤ x8 then (if (x8 : Int).toNat ≤ 11728124029610 then (warplaw5_PlayLimits.l0 k x7 x8 x9 (List.replicate (x8 : Int).toNat []) 0 0) else (none)) else (none)
def warplaw5_PlayLimits.l0 : Nat → Int → Int → Int → List (List (S40)) → Int → Int → Option (Bool)
 | 0, _, _, _, _, _, _ => none
 | k + 1, x7, x8, x9, x10, x11, x12 => if x12 < x8 then (if x8 = 0 then (none) else (if x12 = 0 then (if 0 ≤ (wrap64 (x9 - (wrap64 ((wrap64 (Int.tdiv x9 x8)) * (wrap64 (x8 - 1)))))) then (if (wrap64 (x9 - (wrap64 ((wrap64 (Int.tdiv x9 x8)) * (wrap64 (x8 - 1))))) : Int).toNat ≤ 11728124029610 then (if 0 ≤ x12 then (if x12 < (x10.length : Int) then (warplaw5_PlayLimits.l0 k x7 x8 x9 (x10.set (x12 : Int).toNat (List.replicate (wrap64 (x9 - (wrap64 ((wrap64 (Int.tdiv x9 x8)) * (wrap64 (x8 - 1))))) : Int).toNat z40)) (wrap64 (x11 + (wrap64 (x9 - (wrap64 ((wrap64 (Int.tdiv x9 x8)) * (wrap64 (x8 - 1)))))))) (wrap64 (x12 + 1))) else (none)) else (none)) else (none)) else (none)) else (if 0 ≤ (wrap64 (Int.tdiv x9 x8)) then (if (wrap64 (Int.tdiv x9 x8) : Int).toNat ≤ 11728124029610 then (if 0 ≤ x12 then (if x12 < (x10.length : Int) then (warplaw5_PlayLimits.l0 k x7 x8 x9 (x10.set (x12 : Int).toNat (List.replicate (wrap64 (Int.tdiv x9 x8) : Int).toNat z40)) (wrap64 (x11 + (wrap64 (Int.tdiv x9 x8)))) (wrap64 (x12 + 1))) else (none)) else (none)) else (none)) else (none)))) else (if 0 ≤ x7 then (if (x7 : Int).toNat ≤ 35184372088832 then ((play_Play.f (List.replicate (x7 : Int).toNat 0) x10 ([] : List Int)).bind fun bt243 => (if x7 > 4096 then (warplaw5_PlayLimits.j5 k x7 bt243.1 bt243.2.1 bt243.2.2 true) else (if x8 > 64 then (warplaw5_PlayLimits.j5 k x7 bt243.1 bt243.2.1 bt243.2.2 true) else (warplaw5_PlayLimits.j5 k x7 bt243.1 bt243.2.1 bt243.2.2 (decide (x11 > 4096)))))) else (none)) else (none))
def warplaw5_PlayLimits.j5 : Nat → Int → List (S42) → List Int → Int → Bool → Option (Bool)
 | 0, _, _, _, _, _ => none
 | k + 1, x7, x14, x15, x16, x83 => if x83 = true then (if (x14.length : Int) = 0 then (if (x15.length : Int) = 0 then (if x16 = 0 then ((warplaw5_awake.f k).bind fun t250 => (some t250)) else (some false)) else (some false)) else (some false)) else (if (x14.length : Int) = 0 then (if (x15.length : Int) = x7 then (if x16 = 0 then ((warplaw5_awake.f k).bind fun t251 => (some t251)) else (some false)) else (some false)) else (some false))
end
def warplaw5_PlayLimits.f (k : Nat) (a0 : Int) (a1 : Int) (a2 : Int) : Option (Bool) := if (Int.tmod (wrap64 (a0)) 5000) > 64 then (warplaw5_PlayLimits.j0 k (Int.tmod (wrap64 (a0)) 5000) (Int.tmod (wrap64 (a1)) 70) (Int.tmod (wrap64 (a2)) 6000) (decide ((Int.tmod (wrap64 (a0)) 5000) ≤ 4096))) else (warplaw5_PlayLimits.j0 k (Int.tmod (wrap64 (a0)) 5000) (Int.tmod (wrap64 (a1)) 70) (Int.tmod (wrap64 (a2)) 6000) false)
theorem warplaw5_PlayLimits.mono_l : ∀ k, (∀ y0 y1 y2 y3, LeO (warplaw5_PlayLimits.j0 k y0 y1 y2 y3) (warplaw5_PlayLimits.j0 (k + 1) y0 y1 y2 y3)) ∧ (∀ y0 y1 y2, LeO (warplaw5_PlayLimits.j1 k y0 y1 y2) (warplaw5_PlayLimits.j1 (k + 1) y0 y1 y2)) ∧ (∀ y0 y1 y2 y3, LeO (warplaw5_PlayLimits.j2 k y0 y1 y2 y3) (warplaw5_PlayLimits.j2 (k + 1) y0 y1 y2 y3)) ∧ (∀ y0 y1 y2, LeO (warplaw5_PlayLimits.j3 k y0 y1 y2) (warplaw5_PlayLimits.j3 (k + 1) y0 y1 y2)) ∧ (∀ y0 y1 y2 y3 y4 y5, LeO (warplaw5_PlayLimits.l0 k y0 y1 y2 y3 y4 y5) (warplaw5_PlayLimits.l0 (k + 1) y0 y1 y2 y3 y4 y5)) ∧ (∀ y0 y1 y2 y3 y4, LeO (warplaw5_PlayLimits.j5 k y0 y1 y2 y3 y4) (warplaw5_PlayLimits.j5 (k + 1) y0 y1 y2 y3 y4))
 | 0 => ⟨fun _ _ _ _ r h => by simp [warplaw5_PlayLimits.j0] at h, fun _ _ _ r h => by simp [warplaw5_PlayLimits.j1] at h, fun _ _ _ _ r h => by simp [warplaw5_PlayLimits.j2] at h, fun _ _ _ r h => by simp [warplaw5_PlayLimits.j3] at h, fun _ _ _ _ _ _ r h => by simp [warplaw5_PlayLimits.l0] at h, fun _ _ _ _ _ r h => by simp [warplaw5_PlayLimits.j5] at h⟩
 | k + 1 => by
  obtain ⟨ih0, ih1, ih2, ih3, ih4, ih5⟩ := warplaw5_PlayLimits.mono_l k
  refine ⟨?_, ?_, ?_, ?_, ?_, ?_⟩
  ·
   intro y0 y1 y2 y3
   unfold warplaw5_PlayLimits.j0
   repeat' first
   | (with_reducible exact ih0 _ _ _ _)
   | (with_reducible exact ih1 _ _ _)
   | (with_reducible exact ih2 _ _ _ _)
   | (with_reducible exact ih3 _ _ _)
   | (with_reducible exact ih4 _ _ _ _ _ _)
   | (with_reducible exact ih5 _ _ _ _ _)
   | (with_reducible exact warplaw5_awake.mono _)
   | (with_reducible exact LeO.refl _)
   | (with_reducible exact LeO.none _)
   | (with_reducible refine LeO.ite ?_ ?_)
   | (with_reducible refine LeO.bind ?_ (fun _ => ?_))
   | exact ih0 _ _ _ _
   | exact ih1 _ _ _
   | exact ih2 _ _ _ _
   | exact ih3 _ _ _
   | exact ih4 _ _ _ _ _ _
   | exact ih5 _ _ _ _ _
   | exact warplaw5_awake.mono _
   | exact LeO.none _
   | refine LeO.ite ?_ ?_
   | refine LeO.bind ?_ (fun _ => ?_)
  ·
   intro y0 y1 y2
   unfold warplaw5_PlayLimits.j1
   repeat' first
   | (with_reducible exact ih0 _ _ _ _)
   | (with_reducible exact ih1 _ _ _)
   | (with_reducible exact ih2 _ _ _ _)
   | (with_reducible exact ih3 _ _ _)
   | (with_reducible exact ih4 _ _ _ _ _ _)
   | (with_reducible exact ih5 _ _ _ _ _)
   | (with_reducible exact warplaw5_awake.mono _)
   | (with_reducible exact LeO.refl _)
   | (with_reducible exact LeO.none _)
   | (with_reducible refine LeO.ite ?_ ?_)
   | (with_reducible refine LeO.bind ?_ (fun _ => ?_))
   | exact ih0 _ _ _ _
   | exact ih1 _ _ _
   | exact ih2 _ _ _ _
   | exact ih3 _ _ _
   | exact ih4 _ _ _ _ _ _
   | exact ih5 _ _ _ _ _
   | exact warplaw5_awake.mono _
   | exact LeO.none _
   | refine LeO.ite ?_ ?_
   | refine LeO.bind ?_ (fun _ => ?_)
  ·
   intro y0 y1 y2 y3
   unfold warplaw5_PlayLimits.j2
   repeat' first
   | (with_reducible exact ih0 _ _ _ _)
   | (with_reducible exact ih1 _ _ _)
   | (with_reducible exact ih2 _ _ _ _)
   | (with_reducible exact ih3 _ _ _)
   | (with_reducible exact ih4 _ _ _ _ _ _)
   | (with_reducible exact ih5 _ _ _ _ _)
   | (with_reducible exact warplaw5_awake.mono _)
   | (with_reducible exact LeO.refl _)
   | (with_reducible exact LeO.none _)
   | (with_reducible refine LeO.ite ?_ ?_)
   | (with_reducible refine LeO.bind ?_ (fun _ => ?_))
   | exact ih0 _ _ _ _
   | exact ih1 _ _ _
   | exact ih2 _ _ _ _
   | exact ih3 _ _ _
   | exact ih4 _ _ _ _ _ _
   | exact ih5 _ _ _ _ _
   | exact warplaw5_awake.mono _
   | exact LeO.none _
   | refine LeO.ite ?_ ?_
   | refine LeO.bind ?_ (fun _ => ?_)
  ·
   intro y0 y1 y2
   unfold warplaw5_PlayLimits.j3
   repeat' first
   | (with_reducible exact ih0 _ _ _ _)
   | (with_reducible exact ih1 _ _ _)
   | (with_reducible exact ih2 _ _ _ _)
   | (with_reducible exact ih3 _ _ _)
   | (with_reducible exact ih4 _ _ _ _ _ _)
   | (with_reducible exact ih5 _ _ _ _ _)
   | (with_reducible exact warplaw5_awake.mono _)
   | (with_reducible exact LeO.refl _)
   | (with_reducible exact LeO.none _)
   | (with_reducible refine LeO.ite ?_ ?_)
   | (with_reducible refine LeO.bind ?_ (fun _ => ?_))
   | exact ih0 _ _ _ _
   | exact ih1 _ _ _
   | exact ih2 _ _ _ _
   | exact ih3 _ _ _
   | exact ih4 _ _ _ _ _ _
   | exact ih5 _ _ _ _ _
   | exact warplaw5_awake.mono _
   | exact LeO.none _
   | refine LeO.ite ?_ ?_
   | refine LeO.bind ?_ (fun _ => ?_)
  ·
   intro y0 y1 y2 y3 y4 y5
   unfold warplaw5_PlayLimits.l0
   repeat' first
   | (with_reducible exact ih0 _ _ _ _)
   | (with_reducible exact ih1 _ _ _)
   | (with_reducible exact ih2 _ _ _ _)
   | (with_reducible exact ih3 _ _ _)
   | (with_reducible exact ih4 _ _ _ _ _ _)
   | (with_reducible exact ih5 _ _ _ _ _)
   | (with_reducible exact warplaw5_awake.mono _)
   | (with_reducible exact LeO.refl _)
   | (with_reducible exact LeO.none _)
   | (with_reducible refine LeO.ite ?_ ?_)
   | (with_reducible refine LeO.bind ?_ (fun _ => ?_))
   | exact ih0 _ _ _ _
   | exact ih1 _ _ _
   | exact ih2 _ _ _ _
   | exact ih3 _ _ _
   | exact ih4 _ _ _ _ _ _
   | exact ih5 _ _ _ _ _
   | exact warplaw5_awake.mono _
   | exact LeO.none _
   | refine LeO.ite ?_ ?_
   | refine LeO.bind ?_ (fun _ => ?_)
  ·
   intro y0 y1 y2 y3 y4
   unfold warplaw5_PlayLimits.j5
   repeat' first
   | (with_reducible exact ih0 _ _ _ _)
   | (with_reducible exact ih1 _ _ _)
   | (with_reducible exact ih2 _ _ _ _)
   | (with_reducible exact ih3 _ _ _)
   | (with_reducible exact ih4 _ _ _ _ _ _)
   | (with_reducible exact ih5 _ _ _ _ _)
   | (with_reducible exact warplaw5_awake.mono _)
   | (with_reducible exact LeO.refl _)
   | (with_reducible exact LeO.none _)
   | (with_reducible refine LeO.ite ?_ ?_)
   | (with_reducible refine LeO.bind ?_ (fun _ => ?_))
   | exact ih0 _ _ _ _
   | exact ih1 _ _ _
   | exact ih2 _ _ _ _
   | exact ih3 _ _ _
   | exact ih4 _ _ _ _ _ _
   | exact ih5 _ _ _ _ _
   | exact warplaw5_awake.mono _
   | exact LeO.none _
   | refine LeO.ite ?_ ?_
   | refine LeO.bind ?_ (fun _ => ?_)
theorem warplaw5_PlayLimits.mono : ∀ a0 a1 a2 k, LeO (warplaw5_PlayLimits.f k a0 a1 a2) (warplaw5_PlayLimits.f (k + 1) a0 a1 a2) := by
 intro a0 a1 a2 k
 obtain ⟨ih0, ih1, ih2, ih3, ih4, ih5⟩ := warplaw5_PlayLimits.mono_l k
 unfold warplaw5_PlayLimits.f
 repeat' first
  | (with_reducible exact ih0 _ _ _ _)
  | (with_reducible exact ih1 _ _ _)
  | (with_reducible exact ih2 _ _ _ _)
  | (with_reducible exact ih3 _ _ _)
  | (with_reducible exact ih4 _ _ _ _ _ _)
  | (with_reducible exact ih5 _ _ _ _ _)
  | (with_reducible exact warplaw5_awake.mono _)
  | (with_reducible exact LeO.refl _)
  | (with_reducible exact LeO.none _)
  | (with_reducible refine LeO.ite ?_ ?_)
  | (with_reducible refine LeO.bind ?_ (fun _ => ?_))
  | exact ih0 _ _ _ _
  | exact ih1 _ _ _
  | exact ih2 _ _ _ _
  | exact ih3 _ _ _
  | exact ih4 _ _ _ _ _ _
  | exact ih5 _ _ _ _ _
  | exact warplaw5_awake.mono _
  | exact LeO.none _
  | refine LeO.ite ?_ ?_
  | refine LeO.bind ?_ (fun _ => ?_)
set_option maxHeartbeats 8000000 in
set_option maxRecDepth 100000 in
theorem warplaw5_PlayLimits.calls (k : Nat) (a0 : Int) (a1 : Int) (a2 : Int) (r : Bool) (w : World) (h : warplaw5_PlayLimits.f k a0 a1 a2 = some r) (hT_ : Tab w := by first | exact hT_ | exact Tab.drewN hT_ _ | (refine Tab.below hT_ ?_; repeat (first | (with_reducible first | exact HB.out | apply below_alloc | apply pw_below_drewN | apply below_drew1) | exact HB.out))) :
 Calls Tryd.prog 6 #[.int .u16 a0, .int .u16 a1, .int .u16 a2] w fun e w' => e = .returned (.bool r) ∧ Below w.heap.size w w' := by
 have HB := Aside0.mk (Below.refl w.heap.size w)
 have H : (if (Int.tmod (wrap64 (a0)) 5000) > 64 then (warplaw5_PlayLimits.j0 k (Int.tmod (wrap64 (a0)) 5000) (Int.tmod (wrap64 (a1)) 70) (Int.tmod (wrap64 (a2)) 6000) (decide ((Int.tmod (wrap64 (a0)) 5000) ≤ 4096))) else (warplaw5_PlayLimits.j0 k (Int.tmod (wrap64 (a0)) 5000) (Int.tmod (wrap64 (a1)) 70) (Int.tmod (wrap64 (a2)) 6000) false)) = some r := h
 clear h
 have HC4 := Aside0.mk H
 clear H
 go_enter Tryd.func6, Tryd.ntmps6
 go_upto_region 2 with (fail)
 go_cut [31] (fun v31 wc => ∃ (kq : Nat) (x31_3 : Bool), v31 = .bool x31_3 ∧ Aside0 (warplaw5_PlayLimits.j0 kq (Int.tmod (wrap64 (a0)) 5000) (Int.tmod (wrap64 (a1)) 70) (Int.tmod (wrap64 (a2)) 6000) x31_3 = some r) ∧ Aside0 (kq ≤ k) ∧ Aside0 (Below w.heap.size w wc))
 case first =>
  have H := HC4.out
  clear HC4
  by_cases c5 : (Int.tmod (wrap64 (a0)) 5000) > 64
  ·
   rw [if_pos c5] at H
   have c5b0 : decide (64 < (Int.tmod (wrap64 (a0)) 5000)) = true := decide_eq_true c5
   clear c5
   (first | rw [c5b0] | (simp only [i64_w, i32_w]; rw [c5b0]) | skip)
   have H' := Aside0.mk H
   clear H
   go_wp2
   go_meet
   case rel => exact ⟨_, (decide ((Int.tmod (wrap64 (a0)) 5000) ≤ 4096)), (by first | rfl | (simp; done) | (simp [*]; done)), H', ⟨by first | omega | exact Nat.le_refl _⟩, ⟨by repeat (first | (with_reducible first | exact HB.out | apply below_alloc | apply pw_below_drewN | apply below_drew1) | exact HB.out)⟩⟩
  ·
   rw [if_neg c5] at H
   have c5b0 : decide (64 < (Int.tmod (wrap64 (a0)) 5000)) = false := decide_eq_false c5
   clear c5
   (first | rw [c5b0] | (simp only [i64_w, i32_w]; rw [c5b0]) | skip)
   have H' := Aside0.mk H
   clear H
   go_wp2
   go_meet
   case rel => exact ⟨_, (false), (by first | rfl | (simp; done) | (simp [*]; done)), H', ⟨by first | omega | exact Nat.le_refl _⟩, ⟨by repeat (first | (with_reducible first | exact HB.out | apply below_alloc | apply pw_below_drewN | apply below_drew1) | exact HB.out)⟩⟩
 case rest =>
  clear HC4
  (try clear p2); (try clear c5); (try clear c5b0)
  obtain ⟨kq, x31_3, rfl, HA, HJ3, HB⟩ := hcut
  cases kq with
  | zero => exact absurd HA.out (by simp [warplaw5_PlayLimits.j0])
  | succ kj3 =>
   have H := HA.out
   clear HA
   simp only [warplaw5_PlayLimits.j0] at H
   have HC6 := Aside0.mk H
   clear H
   go_upto_if 31 with (fail)
   go_cut [7] (fun v7 wc => ∃ (kq : Nat) (x7_5 : Int), v7 = .int .i64 x7_5 ∧ Aside0 (warplaw5_PlayLimits.j1 kq x7_5 (Int.tmod (wrap64 (a1)) 70) (Int.tmod (wrap64 (a2)) 6000) = some r) ∧ Aside0 (kq ≤ kj3) ∧ Aside0 (Below w.heap.size w wc))
   case first =>
    have H := HC6.out
    clear HC6
    by_cases c7 : x31_3 = true
    ·
     subst c7
     have H1 : (warplaw5_PlayLimits.j1 kj3 64 (Int.tmod (wrap64 (a1)) 70) (Int.tmod (wrap64 (a2)) 6000)) = some r := by rw [if_pos rfl] at H; exact H
     clear H
     have H := H1
     clear H1
     have H' := Aside0.mk H
     clear H
     go_wp2
     go_meet
     case rel => exact ⟨_, (64), (by first | rfl | (simp; done) | (simp [*]; done)), H', ⟨by have := HJ3.out; first | omega | exact Nat.le_refl _⟩, ⟨by repeat (first | (with_reducible first | exact HB.out | apply below_alloc | apply pw_below_drewN | apply below_drew1) | exact HB.out)⟩⟩
    ·
     replace c7 := Bool.eq_false_iff.mpr c7
     subst c7
     have H1 : (warplaw5_PlayLimits.j1 kj3 (Int.tmod (wrap64 (a0)) 5000) (Int.tmod (wrap64 (a1)) 70) (Int.tmod (wrap64 (a2)) 6000)) = some r := by rw [if_neg (show ¬ (false = true) by decide)] at H; exact H
     clear H
     have H := H1
     clear H1
     have H' := Aside0.mk H
     clear H
     go_wp2
     go_meet
     case rel => exact ⟨_, ((Int.tmod (wrap64 (a0)) 5000)), (by first | rfl | (simp; done) | (simp [*]; done)), H', ⟨by have := HJ3.out; first | omega | exact Nat.le_refl _⟩, ⟨by repeat (first | (with_reducible first | exact HB.out | apply below_alloc | apply pw_below_drewN | apply below_drew1) | exact HB.out)⟩⟩
   case rest =>
    clear HC6
    (try clear p2); (try clear c5); (try clear c5b0); (try clear c6); (try clear p6); (try clear c7); (try clear p2)
    obtain ⟨kq, x7_5, rfl, HA, HJ5, HB⟩ := hcut
    cases kq with
    | zero => exact absurd HA.out (by simp [warplaw5_PlayLimits.j1])
    | succ kj5 =>
     have H := HA.out
     clear HA
     simp only [warplaw5_PlayLimits.j1] at H
     have HC8 := Aside0.mk H
     clear H
     go_upto_region 4 with (fail)
     go_cut [37] (fun v37 wc => ∃ (kq : Nat) (x37_7 : Bool), v37 = .bool x37_7 ∧ Aside0 (warplaw5_PlayLimits.j2 kq x7_5 (Int.tmod (wrap64 (a1)) 70) (Int.tmod (wrap64 (a2)) 6000) x37_7 = some r) ∧ Aside0 (kq ≤ kj5) ∧ Aside0 (Below w.heap.size w wc))
     case first =>
      have H := HC8.out
      clear HC8
      by_cases c9 : (Int.tmod (wrap64 (a2)) 6000) > 40
      ·
       rw [if_pos c9] at H
       have c9b0 : decide (40 < (Int.tmod (wrap64 (a2)) 6000)) = true := decide_eq_true c9
       clear c9
       (first | rw [c9b0] | (simp only [i64_w, i32_w]; rw [c9b0]) | skip)
       have H' := Aside0.mk H
       clear H
       go_wp2
       go_meet
       case rel => exact ⟨_, (decide ((Int.tmod (wrap64 (a2)) 6000) ≤ 4096)), (by first | rfl | (simp; done) | (simp [*]; done)), H', ⟨by have := HJ3.out; have := HJ5.out; first | omega | exact Nat.le_refl _⟩, ⟨by repeat (first | (with_reducible first | exact HB.out | apply below_alloc | apply pw_below_drewN | apply below_drew1) | exact HB.out)⟩⟩
      ·
       rw [if_neg c9] at H
       have c9b0 : decide (40 < (Int.tmod (wrap64 (a2)) 6000)) = false := decide_eq_false c9
       clear c9
       (first | rw [c9b0] | (simp only [i64_w, i32_w]; rw [c9b0]) | skip)
       have H' := Aside0.mk H
       clear H
       go_wp2
       go_meet
       case rel => exact ⟨_, (false), (by first | rfl | (simp; done) | (simp [*]; done)), H', ⟨by have := HJ3.out; have := HJ5.out; first | omega | exact Nat.le_refl _⟩, ⟨by repeat (first | (with_reducible first | exact HB.out | apply below_alloc | apply pw_below_drewN | apply below_drew1) | exact HB.out)⟩⟩
     case rest =>
      clear HC8
      (try clear p2); (try clear c5); (try clear c5b0); (try clear c6); (try clear p6); (try clear c7); (try clear c9); (try clear c9b0); (try clear p2); (try clear p6)
      obtain ⟨kq, x37_7, rfl, HA, HJ7, HB⟩ := hcut
      cases kq with
      | zero => exact absurd HA.out (by simp [warplaw5_PlayLimits.j2])
      | succ kj7 =>
       have H := HA.out
       clear HA
       simp only [warplaw5_PlayLimits.j2] at H
       have HC10 := Aside0.mk H
       clear H
       go_upto_if 37 with (fail)
       go_cut [9] (fun v9 wc => ∃ (kq : Nat) (x9_9 : Int), v9 = .int .i64 x9_9 ∧ Aside0 (warplaw5_PlayLimits.j3 kq x7_5 (Int.tmod (wrap64 (a1)) 70) x9_9 = some r) ∧ Aside0 (kq ≤ kj7) ∧ Aside0 (Below w.heap.size w wc))
       case first =>
        have H := HC10.out
        clear HC10
        by_cases c11 : x37_7 = true
        ·
         subst c11
         have H1 : (warplaw5_PlayLimits.j3 kj7 x7_5 (Int.tmod (wrap64 (a1)) 70) 40) = some r := by rw [if_pos rfl] at H; exact H
         clear H
         have H := H1
         clear H1
         have H' := Aside0.mk H
         clear H
         go_wp2
         go_meet
         case rel => exact ⟨_, (40), (by first | rfl | (simp; done) | (simp [*]; done)), H', ⟨by have := HJ3.out; have := HJ5.out; have := HJ7.out; first | omega | exact Nat.le_refl _⟩, ⟨by repeat (first | (with_reducible first | exact HB.out | apply below_alloc | apply pw_below_drewN | apply below_drew1) | exact HB.out)⟩⟩
        ·
         replace c11 := Bool.eq_false_iff.mpr c11
         subst c11
         have H1 : (warplaw5_PlayLimits.j3 kj7 x7_5 (Int.tmod (wrap64 (a1)) 70) (Int.tmod (wrap64 (a2)) 6000)) = some r := by rw [if_neg (show ¬ (false = true) by decide)] at H; exact H
         clear H
         have H := H1
         clear H1
         have H' := Aside0.mk H
         clear H
         go_wp2
         go_meet
         case rel => exact ⟨_, ((Int.tmod (wrap64 (a2)) 6000)), (by first | rfl | (simp; done) | (simp [*]; done)), H', ⟨by have := HJ3.out; have := HJ5.out; have := HJ7.out; first | omega | exact Nat.le_refl _⟩, ⟨by repeat (first | (with_reducible first | exact HB.out | apply below_alloc | apply pw_below_drewN | apply below_drew1) | exact HB.out)⟩⟩
       case rest =>
        clear HC10
        (try clear c1); (try clear p2); (try clear c5); (try clear c5b0); (try clear c6); (try clear p6); (try clear c7); (try clear c9); (try clear c9b0); (try clear c11); (try clear p2); (try clear p6)
        obtain ⟨kq, x9_9, rfl, HA, HJ9, HB⟩ := hcut
        cases kq with
        | zero => exact absurd HA.out (by simp [warplaw5_PlayLimits.j3])
        | succ kj9 =>
         have H := HA.out
         clear HA
         simp only [warplaw5_PlayLimits.j3] at H
         obtain ⟨ji12, hji12⟩ : ∃ j_ : Int, (Int.tmod (wrap64 (a1)) 70) = j_ := ⟨_, rfl⟩
         replace H : (if 0 ≤ (ji12) then (if ((ji12) : Int).toNat ≤ 11728124029610 then (warplaw5_PlayLimits.l0 kj9 x7_5 (ji12) x9_9 (List.replicate ((ji12) : Int).toNat []) 0 0) else (none)) else (none)) = some r := by first | (rw [hji12] at H; exact H) | (simp only [hji12] at H ⊢; exact H)
         by_cases c13 : 0 ≤ (ji12)
         ·
          rw [if_pos c13] at H
          have c13b0 := eq_true c13
          have c13b1 : decide (0 ≤ (ji12)) = true := decide_eq_true c13
          clear c13
          by_cases c14 : ((ji12) : Int).toNat ≤ 11728124029610
          ·
           rw [if_pos c14] at H
           have c14b0 := eq_true c14
           have c14b1 : decide (((ji12) : Int).toNat ≤ 11728124029610) = true := decide_eq_true c14
           clear c14
           obtain ⟨y229, hy229⟩ : ∃ y_ : List (List (S40)), y_ = (List.replicate ((ji12) : Int).toNat []) := ⟨_, rfl⟩
           replace H : (warplaw5_PlayLimits.l0 kj9 x7_5 (ji12) x9_9 y229 0 0) = some r := by first | (rw [hy229]; with_reducible exact H) | (have H2_ := (Option.bind_some _ _).symm.trans H; rw [hy229]; with_reducible exact H2_) | (have H2_ := (Option.bind_some _ _).symm.trans H; with_reducible exact H2_) | with_reducible exact H | (rw [hy229]; exact H) | exact H
           have Ny229 := Aside0.mk hy229
           clear hy229
           have H' := Aside0.mk H
           clear H
           go_wp2_with (first | ((with_reducible refine gate_dst (N := 39) rfl ?_); (try (refine gate_guard (by rfl) ?_; dsimp only)); refine Kd.S_make (Kd.slice 40 k40) _ 43 rfl (N := 39) rfl 23 _ _ rfl (ji12) (congrArg (Value.int .i64) hji12) (congrArg (Value.int .i64) hji12) Tryd.underlying23 (.slice none 0 0) 24 info43 rfl (by decide) (by omega) [] (ok := fun _ => True) (okp := fun _ => True) ⟨_, rfl, Kd.R_nil _ _ _ _ _⟩ (fun _ hk => hk) trivial (of_decide_eq_true (by first | (with_reducible assumption) | assumption)) (Nat.le_trans (Nat.mul_le_mul_right _ (of_decide_eq_true (by first | (with_reducible assumption) | assumption) : (ji12).toNat ≤ 11728124029610)) (by omega)) (Below.refl _ _) (Nat.le_refl _) ?_; intro v230 w15 ho16 hb hg_ hnew_; clear hg_ hnew_; (first | rw [← Ny229.out] at ho16 | (simp only [Int.reduceToNat] at ho16; rw [← Ny229.out] at ho16)); have n0_ := Aside0.mk (Kd.S_lower ho16 (below_size (by repeat (first | (with_reducible first | exact HB.out | apply below_alloc | apply pw_below_drewN | apply below_drew1) | exact HB.out)))); have n1_ := Aside0.mk (below_step (by repeat (first | (with_reducible first | exact HB.out | apply below_alloc | apply pw_below_drewN | apply below_drew1) | exact HB.out)) hb); clear HB; have HO231 := n0_; have HB := n1_; clear n0_ n1_; clear hb ho16))
           go_loopg [11, 12] kj9 (fun kq v11 v12 w' => ∃ (x10_5 : List (List (S40))) (x11_5 : Int) (x12_5 : Int), v11 = .int .i64 x11_5 ∧ v12 = .int .i64 x12_5 ∧ Aside0 (warplaw5_PlayLimits.l0 kq x7_5 (ji12) x9_9 x10_5 x11_5 x12_5 = some r) ∧ Aside0 (kq ≤ kj9) ∧ Aside0 (Kd.S (Kd.slice 40 k40) 43 w' w.heap.size (fun _ => True) v230 x10_5) ∧ Aside0 (Below w.heap.size w w'))
           case atStart => exact ⟨(y229), (0), (0), (by first | rfl | (simp; done) | (simp [*]; done)), (by first | rfl | (simp; done) | (simp [*]; done)), H', ⟨Nat.le_refl _⟩, ⟨by (with_reducible repeat (first | apply Kd.S_alloc | apply Kd.S_drewN | apply Kd.S_drew)); exact HO231.out⟩, ⟨by repeat (first | (with_reducible first | exact HB.out | apply below_alloc | apply pw_below_drewN | apply below_drew1) | exact HB.out)⟩⟩
           case round =>
            clear H'
            (try clear c1); (try clear p2); (try clear c5); (try clear c5b0); (try clear c6); (try clear p6); (try clear c7); (try clear c9); (try clear c9b0); (try clear c11); (try clear c13); (try clear c13b0); (try clear c13b1); (try clear c14); (try clear c14b0); (try clear c14b1); (try clear p2); (try clear p6)
            obtain ⟨x10_5, x11_5, x12_5, rfl, rfl, HA, HK5, HO_10, HB⟩ := hrel
            cases gk with
            | zero => exact absurd HA.out (by simp [warplaw5_PlayLimits.l0])
            | succ k5 =>
             have H := HA.out
             clear HA
             simp only [warplaw5_PlayLimits.l0] at H
             by_cases c17 : x12_5 < (ji12)
             ·
              rw [if_pos c17] at H
              have c17b0 : decide (x12_5 < (ji12)) = true := decide_eq_true c17
              clear c17
              by_cases c18 : (ji12) = 0
              ·
               rw [if_pos c18] at H
               exact absurd H (by simp)
              ·
               rw [if_neg c18] at H
               have c18b0 : ((ji12) == 0) = false := beq_eq_false_iff_ne.mpr c18
               have c18b1 : ((ji12) != 0) = true := bne_iff_ne.mpr c18
               by_cases c19 : x12_5 = 0
               ·
                rw [if_pos c19] at H
                have c19b0 : (x12_5 == 0) = true := beq_iff_eq.mpr c19
                have c19b1 : (x12_5 != 0) = false := bne_eq_false_iff_eq.mpr c19
                clear c19
                obtain ⟨ji20, hji20⟩ : ∃ j_ : Int, (wrap64 (x9_9 - (wrap64 ((wrap64 (Int.tdiv x9_9 (ji12))) * (wrap64 ((ji12) - 1)))))) = j_ := ⟨_, rfl⟩
                replace H : (if 0 ≤ (ji20) then (if (ji20 : Int).toNat ≤ 11728124029610 then (if 0 ≤ x12_5 then (if x12_5 < (x10_5.length : Int) then (warplaw5_PlayLimits.l0 k5 x7_5 (ji12) x9_9 (x10_5.set (x12_5 : Int).toNat (List.replicate (ji20 : Int).toNat z40)) (wrap64 (x11_5 + (ji20))) (wrap64 (x12_5 + 1))) else (none)) else (none)) else (none)) else (none)) = some r := by first | (rw [hji20] at H; exact H) | (simp only [hji20] at H ⊢; exact H)
                have hji20w : (IntKind.i64.wrap (x9_9 - (wrap64 ((wrap64 (Int.tdiv x9_9 (ji12))) * (wrap64 ((ji12) - 1)))))) = ji20 := (i64_w _).trans hji20
                by_cases c21 : 0 ≤ (ji20)
                ·
                 rw [if_pos c21] at H
                 have c21b0 := eq_true c21
                 have c21b1 : decide (0 ≤ (ji20)) = true := decide_eq_true c21
                 clear c21
                 by_cases c22 : (ji20 : Int).toNat ≤ 11728124029610
                 ·
                  rw [if_pos c22] at H
                  have c22b0 := eq_true c22
                  have c22b1 : decide ((ji20 : Int).toNat ≤ 11728124029610) = true := decide_eq_true c22
                  clear c22
                  obtain ⟨y232, hy232⟩ : ∃ y_ : List (S40), y_ = (List.replicate (ji20 : Int).toNat z40) := ⟨_, rfl⟩
                  replace H : (if 0 ≤ x12_5 then (if x12_5 < (x10_5.length : Int) then (warplaw5_PlayLimits.l0 k5 x7_5 (ji12) x9_9 (x10_5.set (x12_5 : Int).toNat y232) (wrap64 (x11_5 + (ji20))) (wrap64 (x12_5 + 1))) else (none)) else (none)) = some r := by first | (rw [hy232]; with_reducible exact H) | (have H2_ := (Option.bind_some _ _).symm.trans H; rw [hy232]; with_reducible exact H2_) | (have H2_ := (Option.bind_some _ _).symm.trans H; with_reducible exact H2_) | with_reducible exact H | (rw [hy232]; exact H) | exact H
                  have Ny232 := Aside0.mk hy232
                  clear hy232
                  by_cases c23 : 0 ≤ x12_5
                  ·
                   rw [if_pos c23] at H
                   have c23b0 : decide (0 ≤ x12_5) = true := decide_eq_true c23
                   clear c23
                   by_cases c24 : x12_5 < (x10_5.length : Int)
                   ·
                    rw [if_pos c24] at H
                    have c24b0 : decide (x12_5 < (x10_5.length : Int)) = true := decide_eq_true c24
                    clear c24
                    obtain ⟨y235, hy235⟩ : ∃ y_ : List (List (S40)), y_ = (x10_5.set (x12_5 : Int).toNat y232) := ⟨_, rfl⟩
                    replace H : (warplaw5_PlayLimits.l0 k5 x7_5 (ji12) x9_9 y235 (wrap64 (x11_5 + (ji20))) (wrap64 (x12_5 + 1))) = some r := by first | (rw [hy235]; with_reducible exact H) | (have H2_ := (Option.bind_some _ _).symm.trans H; rw [hy235]; with_reducible exact H2_) | (have H2_ := (Option.bind_some _ _).symm.trans H; with_reducible exact H2_) | with_reducible exact H | (rw [hy235]; exact H) | exact H
                    have Ny235 := Aside0.mk hy235
                    clear hy235
                    have H' := Aside0.mk H
                    clear H
                    go_wp2_with (first | ((with_reducible refine gate_dst (N := 61) rfl ?_); (try (refine gate_guard (by rfl) ?_; dsimp only)); refine Kd.R_make k40 _ 40 rfl (N := 61) rfl 43 _ _ rfl ji20 (by first | exact congrArg (Value.int .i64) hji20 | rfl) (by first | exact congrArg (Value.int .i64) hji20 | rfl) Tryd.underlying43 (.agg #[(.int .i64 0), (.int .i64 0), (.int .i64 0)]) 24 info40 rfl (by decide) (by omega) z40 (ok := fun _ => True) (okp := fun _ => True) (k40_mkM _ _ _ z40 ) (fun _ hk => hk) trivial (of_decide_eq_true (by first | (with_reducible assumption) | assumption)) (Nat.le_trans (Nat.mul_le_mul_right _ (of_decide_eq_true (by first | (with_reducible assumption) | assumption) : ji20.toNat ≤ 11728124029610)) (by omega)) (Below.refl _ _) (Nat.le_refl _) ?_; intro v233 w26 ho27 hb hg_ hnew_; clear hg_ hnew_; (first | rw [← Ny232.out] at ho27 | (simp only [Int.reduceToNat] at ho27; rw [← Ny232.out] at ho27)); have n0_ := Aside0.mk (Kd.S_elder' (by (with_reducible repeat (first | apply Kd.S_alloc | apply Kd.S_drewN | apply Kd.S_drew)); exact HO_10.out) (Kd.R_base ho27) hb); have n1_ := Aside0.mk (Kd.R_lower ho27 (below_size (by repeat (first | (with_reducible first | exact HB.out | apply below_alloc | apply pw_below_drewN | apply below_drew1) | exact HB.out)))); have n2_ := Aside0.mk (below_step (by repeat (first | (with_reducible first | exact HB.out | apply below_alloc | apply pw_below_drewN | apply below_drew1) | exact HB.out)) hb); clear HO_10; clear HB; have HO_10 := n0_; have HO234 := n1_; have HB := n2_; clear n0_ n1_ n2_; clear hb ho27; have p25 : 0 ≤ (x12_5 : Int) := of_decide_eq_true (by first | (with_reducible assumption) | assumption); have q25 : (x12_5 : Int) < ((x10_5.length : Int) : Int) := of_decide_eq_true (by first | (with_reducible assumption) | assumption); obtain ⟨go25, co25, eo25, gb25, gl25, cl25, HG25⟩ := Kd.S_form HO_10.out (by omega); (first | cases eo25 | (injection eo25 with ea_ en_ ec_; (first | subst ea_ | (injection ea_ with ea_; subst ea_)); subst ec_; clear en_)); have GB25 := Aside0.mk gb25; have GG25 := Aside0.mk HG25; clear gb25 gl25 HG25; obtain ⟨_, ce25, hcl25, hM25, hcc25, hfr25, _, _⟩ := Kd.S_elem HO_10.out [] (x12_5 : Int) p25 q25; obtain ⟨ve25_0, rfl, ge25_0⟩ := hM25; have hx25_0 := hcc25 0 _ rfl; have hf25_0 := hfr25 0; (try simp only [show ((Kd.slice 40 k40)).sz = 1 from rfl, Nat.mul_one, Nat.add_zero] at hx25_0); (try simp only [show ((Kd.slice 40 k40)).sz = 1 from rfl, Nat.mul_one, Nat.add_zero] at hf25_0); (try clear hcl25); (try clear hcc25); (try clear hfr25); (try clear hM25); replace p25 := eq_true p25; replace q25 := eq_true q25; have n_ := Aside0.mk (Kd.S_mono (ok' := (fun k_ => some k_ ≠ (v233 : Value).ownBlock)) HO_10.out (fun k_ hk => hk.2)); clear HO_10; have HO_10 := n_; clear n_; have HX28 := Aside0.mk (show Kd.S (Kd.slice 40 k40) 43 w26 w.heap.size (fun k_ => ((fun _ => True)) k_ ∧ ¬ ((fun k_ => some k_ = (v233 : Value).ownBlock)) k_) (.slice (some ⟨go25, 0, none⟩) x10_5.length co25) x10_5 from (by (with_reducible repeat (first | apply Kd.S_alloc | apply Kd.S_drewN | apply Kd.S_drew)); exact Kd.S_mono HO_10.out (fun k_ hk => ⟨trivial, fun e_ => hk e_⟩))); obtain ⟨oki28, ce28, hcl28, hM28, hcc28, hfr28, hoki28, hH28⟩ := Kd.S_elem HX28.out [] (x12_5 : Int) (of_decide_eq_true (by first | (with_reducible assumption) | assumption)) (by have h_ : (x12_5 : Int) < ((x10_5.length : Int) : Int) := of_decide_eq_true (by first | (with_reducible assumption) | assumption); first | exact h_ | (have e_ := (Kd.S_reads' HO_10.out).1; omega) | simpa using h_); obtain ⟨ve28_0, rfl, ge28_0⟩ := hM28; have HP28 := Kd.S_seg hH28 (of_decide_eq_true (by first | (with_reducible assumption) | assumption)) (by have h_ : (x12_5 : Int) < ((x10_5.length : Int) : Int) := of_decide_eq_true (by first | (with_reducible assumption) | assumption); first | exact h_ | (have e_ := (Kd.S_reads' HO_10.out).1; omega) | simpa using h_) (seg := [v233]) (j := 0) (show 1 ≤ 1 from by decide) (x' := y232) (Kd.M_row (Kd.R_mono (Kd.R_tight rfl (Kd.R_mono (ok' := fun k_ => ((fun _ => True)) k_ ∧ k_ ≠ go25) (Kd.R_apart' (HO234.out) (Kd.S_typed HO_10.out) (by decide)) (fun k_ hk => ⟨trivial, fun e_ => (hk.2) (by rw [e_]; rfl)⟩))) (fun _ h_ => Or.inr (h_)))) (fun _ hk => hk) (fun k_ hk_ => ((Kd.R_mono (ok' := fun k_ => ((fun _ => True)) k_ ∧ k_ ≠ go25) (Kd.R_apart' (HO234.out) (Kd.S_typed HO_10.out) (by decide)) (fun k_ hk => ⟨trivial, fun e_ => (hk.2) (by rw [e_]; rfl)⟩))).1 k_ hk_.symm); have hx28_0 := hcc28 0 _ rfl; (try simp only [show ((Kd.slice 40 k40)).sz = 1 from rfl, Nat.mul_one, Nat.add_zero] at hx28_0); have hf28_0 := hfr28 0; (try simp only [show ((Kd.slice 40 k40)).sz = 1 from rfl, Nat.mul_one, Nat.add_zero] at hf28_0); (try clear hcl28); (try clear hcc28); (try clear hfr28); (try clear hM28); (try clear hoki28); (try clear hH28); (try simp only [show ((Kd.slice 40 k40)).sz = 1 from rfl, Nat.mul_one, Nat.add_zero] at HP28)) | ((with_reducible refine gate_store (t := 43) (p := 62) rfl ?_); refine store_event (t := 43) (p := 62) (v := ?vo_w29) (w1 := (w26.setCell ⟨go25, (x12_5 : Int).toNat, none⟩ (v233))) ?hg ?ho ?hn ?hr ?_; (case ho => rfl); (case hg => rfl); (case hn => rfl); (case hr => obtain ⟨Ao_, co_, eo_⟩ := Kd.R_slice HO234.out; subst eo_; first | (go_simp; done) | (go_simp; rfl)); intro w29 hw; have hg : w26.grownBy w29 (some go25) := (by rw [hw]; exact HP28.2); have hp_ : Kd.S (Kd.slice 40 k40) 43 w29 w.heap.size (fun _ => True) (.slice (some ⟨go25, 0, none⟩) x10_5.length co25) y235 := (by rw [hw, Ny235.out]; exact HP28.1); clear HP28; have n0_ := Aside0.mk (hp_); have n1_ := Aside0.mk ((by rw [hw]; exact below_set (HB.out) GB25.out : Below w.heap.size w w29)); clear HO_10; clear HB; clear HO234; have HO_10 := n0_; have HB := n1_; clear n0_ n1_; clear hg hw hp_))
                    go_roundg k5
                    case measure => have := HJ3.out; have := HJ5.out; have := HJ7.out; have := HJ9.out; have := HK5.out; omega
                    case rel => exact ⟨(y235), (wrap64 (x11_5 + (ji20))), (wrap64 (x12_5 + 1)), (by first | rfl | (simp; done) | (simp only [← hji20] <;> (first | rfl | simp)) | (simp [*]; done)), (by first | rfl | (simp; done) | (simp [*]; done)), H', ⟨by have := HJ3.out; have := HJ5.out; have := HJ7.out; have := HJ9.out; have := HK5.out; omega⟩, ⟨by (with_reducible repeat (first | apply Kd.S_alloc | apply Kd.S_drewN | apply Kd.S_drew)); exact HO_10.out⟩, ⟨by repeat (first | (with_reducible first | exact HB.out | apply below_alloc | apply pw_below_drewN | apply below_drew1) | exact HB.out)⟩⟩
                   ·
                    rw [if_neg c24] at H
                    exact absurd H (by simp)
                  ·
                   rw [if_neg c23] at H
                   exact absurd H (by simp)
                 ·
                  rw [if_neg c22] at H
                  exact absurd H (by simp)
                ·
                 rw [if_neg c21] at H
                 exact absurd H (by simp)
               ·
                rw [if_neg c19] at H
                have c19b0 : (x12_5 == 0) = false := beq_eq_false_iff_ne.mpr c19
                have c19b1 : (x12_5 != 0) = true := bne_iff_ne.mpr c19
                obtain ⟨ji30, hji30⟩ : ∃ j_ : Int, (wrap64 (Int.tdiv x9_9 (ji12))) = j_ := ⟨_, rfl⟩
                replace H : (if 0 ≤ (ji30) then (if (ji30 : Int).toNat ≤ 11728124029610 then (if 0 ≤ x12_5 then (if x12_5 < (x10_5.length : Int) then (warplaw5_PlayLimits.l0 k5 x7_5 (ji12) x9_9 (x10_5.set (x12_5 : Int).toNat (List.replicate (ji30 : Int).toNat z40)) (wrap64 (x11_5 + (ji30))) (wrap64 (x12_5 + 1))) else (none)) else (none)) else (none)) else (none)) = some r := by first | (rw [hji30] at H; exact H) | (simp only [hji30] at H ⊢; exact H)
                have hji30w : (IntKind.i64.wrap (Int.tdiv x9_9 (ji12))) = ji30 := (i64_w _).trans hji30
                by_cases c31 : 0 ≤ (ji30)
                ·
                 rw [if_pos c31] at H
                 have c31b0 := eq_true c31
                 have c31b1 : decide (0 ≤ (ji30)) = true := decide_eq_true c31
                 clear c31
                 by_cases c32 : (ji30 : Int).toNat ≤ 11728124029610
                 ·
                  rw [if_pos c32] at H
                  have c32b0 := eq_true c32
                  have c32b1 : decide ((ji30 : Int).toNat ≤ 11728124029610) = true := decide_eq_true c32
                  clear c32
                  obtain ⟨y236, hy236⟩ : ∃ y_ : List (S40), y_ = (List.replicate (ji30 : Int).toNat z40) := ⟨_, rfl⟩
                  replace H : (if 0 ≤ x12_5 then (if x12_5 < (x10_5.length : Int) then (warplaw5_PlayLimits.l0 k5 x7_5 (ji12) x9_9 (x10_5.set (x12_5 : Int).toNat y236) (wrap64 (x11_5 + (ji30))) (wrap64 (x12_5 + 1))) else (none)) else (none)) = some r := by first | (rw [hy236]; with_reducible exact H) | (have H2_ := (Option.bind_some _ _).symm.trans H; rw [hy236]; with_reducible exact H2_) | (have H2_ := (Option.bind_some _ _).symm.trans H; with_reducible exact H2_) | with_reducible exact H | (rw [hy236]; exact H) | exact H
                  have Ny236 := Aside0.mk hy236
                  clear hy236
                  by_cases c33 : 0 ≤ x12_5
                  ·
                   rw [if_pos c33] at H
                   have c33b0 : decide (0 ≤ x12_5) = true := decide_eq_true c33
                   clear c33
                   by_cases c34 : x12_5 < (x10_5.length : Int)
                   ·
                    rw [if_pos c34] at H
                    have c34b0 : decide (x12_5 < (x10_5.length : Int)) = true := decide_eq_true c34
                    clear c34
                    obtain ⟨y239, hy239⟩ : ∃ y_ : List (List (S40)), y_ = (x10_5.set (x12_5 : Int).toNat y236) := ⟨_, rfl⟩
                    replace H : (warplaw5_PlayLimits.l0 k5 x7_5 (ji12) x9_9 y239 (wrap64 (x11_5 + (ji30))) (wrap64 (x12_5 + 1))) = some r := by first | (rw [hy239]; with_reducible exact H) | (have H2_ := (Option.bind_some _ _).symm.trans H; rw [hy239]; with_reducible exact H2_) | (have H2_ := (Option.bind_some _ _).symm.trans H; with_reducible exact H2_) | with_reducible exact H | (rw [hy239]; exact H) | exact H
                    have Ny239 := Aside0.mk hy239
                    clear hy239
                    have H' := Aside0.mk H
                    clear H
                    go_wp2_with (first | ((with_reducible refine gate_dst (N := 61) rfl ?_); (try (refine gate_guard (by rfl) ?_; dsimp only)); refine Kd.R_make k40 _ 40 rfl (N := 61) rfl 43 _ _ rfl ji30 (by first | exact congrArg (Value.int .i64) hji30 | rfl) (by first | exact congrArg (Value.int .i64) hji30 | rfl) Tryd.underlying43 (.agg #[(.int .i64 0), (.int .i64 0), (.int .i64 0)]) 24 info40 rfl (by decide) (by omega) z40 (ok := fun _ => True) (okp := fun _ => True) (k40_mkM _ _ _ z40 ) (fun _ hk => hk) trivial (of_decide_eq_true (by first | (with_reducible assumption) | assumption)) (Nat.le_trans (Nat.mul_le_mul_right _ (of_decide_eq_true (by first | (with_reducible assumption) | assumption) : ji30.toNat ≤ 11728124029610)) (by omega)) (Below.refl _ _) (Nat.le_refl _) ?_; intro v237 w36 ho37 hb hg_ hnew_; clear hg_ hnew_; (first | rw [← Ny236.out] at ho37 | (simp only [Int.reduceToNat] at ho37; rw [← Ny236.out] at ho37)); have n0_ := Aside0.mk (Kd.S_elder' (by (with_reducible repeat (first | apply Kd.S_alloc | apply Kd.S_drewN | apply Kd.S_drew)); exact HO_10.out) (Kd.R_base ho37) hb); have n1_ := Aside0.mk (Kd.R_lower ho37 (below_size (by repeat (first | (with_reducible first | exact HB.out | apply below_alloc | apply pw_below_drewN | apply below_drew1) | exact HB.out)))); have n2_ := Aside0.mk (below_step (by repeat (first | (with_reducible first | exact HB.out | apply below_alloc | apply pw_below_drewN | apply below_drew1) | exact HB.out)) hb); clear HO_10; clear HB; have HO_10 := n0_; have HO238 := n1_; have HB := n2_; clear n0_ n1_ n2_; clear hb ho37; have p35 : 0 ≤ (x12_5 : Int) := of_decide_eq_true (by first | (with_reducible assumption) | assumption); have q35 : (x12_5 : Int) < ((x10_5.length : Int) : Int) := of_decide_eq_true (by first | (with_reducible assumption) | assumption); obtain ⟨go35, co35, eo35, gb35, gl35, cl35, HG35⟩ := Kd.S_form HO_10.out (by omega); (first | cases eo35 | (injection eo35 with ea_ en_ ec_; (first | subst ea_ | (injection ea_ with ea_; subst ea_)); subst ec_; clear en_)); have GB35 := Aside0.mk gb35; have GG35 := Aside0.mk HG35; clear gb35 gl35 HG35; obtain ⟨_, ce35, hcl35, hM35, hcc35, hfr35, _, _⟩ := Kd.S_elem HO_10.out [] (x12_5 : Int) p35 q35; obtain ⟨ve35_0, rfl, ge35_0⟩ := hM35; have hx35_0 := hcc35 0 _ rfl; have hf35_0 := hfr35 0; (try simp only [show ((Kd.slice 40 k40)).sz = 1 from rfl, Nat.mul_one, Nat.add_zero] at hx35_0); (try simp only [show ((Kd.slice 40 k40)).sz = 1 from rfl, Nat.mul_one, Nat.add_zero] at hf35_0); (try clear hcl35); (try clear hcc35); (try clear hfr35); (try clear hM35); replace p35 := eq_true p35; replace q35 := eq_true q35; have n_ := Aside0.mk (Kd.S_mono (ok' := (fun k_ => some k_ ≠ (v237 : Value).ownBlock)) HO_10.out (fun k_ hk => hk.2)); clear HO_10; have HO_10 := n_; clear n_; have HX38 := Aside0.mk (show Kd.S (Kd.slice 40 k40) 43 w36 w.heap.size (fun k_ => ((fun _ => True)) k_ ∧ ¬ ((fun k_ => some k_ = (v237 : Value).ownBlock)) k_) (.slice (some ⟨go35, 0, none⟩) x10_5.length co35) x10_5 from (by (with_reducible repeat (first | apply Kd.S_alloc | apply Kd.S_drewN | apply Kd.S_drew)); exact Kd.S_mono HO_10.out (fun k_ hk => ⟨trivial, fun e_ => hk e_⟩))); obtain ⟨oki38, ce38, hcl38, hM38, hcc38, hfr38, hoki38, hH38⟩ := Kd.S_elem HX38.out [] (x12_5 : Int) (of_decide_eq_true (by first | (with_reducible assumption) | assumption)) (by have h_ : (x12_5 : Int) < ((x10_5.length : Int) : Int) := of_decide_eq_true (by first | (with_reducible assumption) | assumption); first | exact h_ | (have e_ := (Kd.S_reads' HO_10.out).1; omega) | simpa using h_); obtain ⟨ve38_0, rfl, ge38_0⟩ := hM38; have HP38 := Kd.S_seg hH38 (of_decide_eq_true (by first | (with_reducible assumption) | assumption)) (by have h_ : (x12_5 : Int) < ((x10_5.length : Int) : Int) := of_decide_eq_true (by first | (with_reducible assumption) | assumption); first | exact h_ | (have e_ := (Kd.S_reads' HO_10.out).1; omega) | simpa using h_) (seg := [v237]) (j := 0) (show 1 ≤ 1 from by decide) (x' := y236) (Kd.M_row (Kd.R_mono (Kd.R_tight rfl (Kd.R_mono (ok' := fun k_ => ((fun _ => True)) k_ ∧ k_ ≠ go35) (Kd.R_apart' (HO238.out) (Kd.S_typed HO_10.out) (by decide)) (fun k_ hk => ⟨trivial, fun e_ => (hk.2) (by rw [e_]; rfl)⟩))) (fun _ h_ => Or.inr (h_)))) (fun _ hk => hk) (fun k_ hk_ => ((Kd.R_mono (ok' := fun k_ => ((fun _ => True)) k_ ∧ k_ ≠ go35) (Kd.R_apart' (HO238.out) (Kd.S_typed HO_10.out) (by decide)) (fun k_ hk => ⟨trivial, fun e_ => (hk.2) (by rw [e_]; rfl)⟩))).1 k_ hk_.symm); have hx38_0 := hcc38 0 _ rfl; (try simp only [show ((Kd.slice 40 k40)).sz = 1 from rfl, Nat.mul_one, Nat.add_zero] at hx38_0); have hf38_0 := hfr38 0; (try simp only [show ((Kd.slice 40 k40)).sz = 1 from rfl, Nat.mul_one, Nat.add_zero] at hf38_0); (try clear hcl38); (try clear hcc38); (try clear hfr38); (try clear hM38); (try clear hoki38); (try clear hH38); (try simp only [show ((Kd.slice 40 k40)).sz = 1 from rfl, Nat.mul_one, Nat.add_zero] at HP38)) | ((with_reducible refine gate_store (t := 43) (p := 62) rfl ?_); refine store_event (t := 43) (p := 62) (v := ?vo_w39) (w1 := (w36.setCell ⟨go35, (x12_5 : Int).toNat, none⟩ (v237))) ?hg ?ho ?hn ?hr ?_; (case ho => rfl); (case hg => rfl); (case hn => rfl); (case hr => obtain ⟨Ao_, co_, eo_⟩ := Kd.R_slice HO238.out; subst eo_; first | (go_simp; done) | (go_simp; rfl)); intro w39 hw; have hg : w36.grownBy w39 (some go35) := (by rw [hw]; exact HP38.2); have hp_ : Kd.S (Kd.slice 40 k40) 43 w39 w.heap.size (fun _ => True) (.slice (some ⟨go35, 0, none⟩) x10_5.length co35) y239 := (by rw [hw, Ny239.out]; exact HP38.1); clear HP38; have n0_ := Aside0.mk (hp_); have n1_ := Aside0.mk ((by rw [hw]; exact below_set (HB.out) GB35.out : Below w.heap.size w w39)); clear HO_10; clear HB; clear HO238; have HO_10 := n0_; have HB := n1_; clear n0_ n1_; clear hg hw hp_))
                    go_roundg k5
                    case measure => have := HJ3.out; have := HJ5.out; have := HJ7.out; have := HJ9.out; have := HK5.out; omega
                    case rel => exact ⟨(y239), (wrap64 (x11_5 + (ji30))), (wrap64 (x12_5 + 1)), (by first | rfl | (simp; done) | (simp only [← hji30] <;> (first | rfl | simp)) | (simp [*]; done)), (by first | rfl | (simp; done) | (simp [*]; done)), H', ⟨by have := HJ3.out; have := HJ5.out; have := HJ7.out; have := HJ9.out; have := HK5.out; omega⟩, ⟨by (with_reducible repeat (first | apply Kd.S_alloc | apply Kd.S_drewN | apply Kd.S_drew)); exact HO_10.out⟩, ⟨by repeat (first | (with_reducible first | exact HB.out | apply below_alloc | apply pw_below_drewN | apply below_drew1) | exact HB.out)⟩⟩
                   ·
                    rw [if_neg c34] at H
                    exact absurd H (by simp)
                  ·
                   rw [if_neg c33] at H
                   exact absurd H (by simp)
                 ·
                  rw [if_neg c32] at H
                  exact absurd H (by simp)
                ·
                 rw [if_neg c31] at H
                 exact absurd H (by simp)
             ·
              rw [if_neg c17] at H
              have c17b0 : decide (x12_5 < (ji12)) = false := decide_eq_false c17
              clear c17
              by_cases c40 : 0 ≤ x7_5
              ·
               rw [if_pos c40] at H
               have c40b0 := eq_true c40
               have c40b1 : decide (0 ≤ x7_5) = true := decide_eq_true c40
               clear c40
               by_cases c41 : (x7_5 : Int).toNat ≤ 35184372088832
               ·
                rw [if_pos c41] at H
                have c41b0 := eq_true c41
                have c41b1 : decide ((x7_5 : Int).toNat ≤ 35184372088832) = true := decide_eq_true c41
                clear c41
                obtain ⟨y240, hy240⟩ : ∃ y_ : List Int, y_ = (List.replicate (x7_5 : Int).toNat 0) := ⟨_, rfl⟩
                replace H : ((play_Play.f y240 x10_5 ([] : List Int)).bind fun bt243 => (if x7_5 > 4096 then (warplaw5_PlayLimits.j5 k5 x7_5 bt243.1 bt243.2.1 bt243.2.2 true) else (if (ji12) > 64 then (warplaw5_PlayLimits.j5 k5 x7_5 bt243.1 bt243.2.1 bt243.2.2 true) else (warplaw5_PlayLimits.j5 k5 x7_5 bt243.1 bt243.2.1 bt243.2.2 (decide (x11_5 > 4096)))))) = some r := by first | (rw [hy240]; with_reducible exact H) | (have H2_ := (Option.bind_some _ _).symm.trans H; rw [hy240]; with_reducible exact H2_) | (have H2_ := (Option.bind_some _ _).symm.trans H; with_reducible exact H2_) | with_reducible exact H | (rw [hy240]; exact H) | exact H
                have Ny240 := Aside0.mk hy240
                clear hy240
                replace H := Option.bind_eq_some_iff.mp H
                obtain ⟨⟨t243, t244, t245⟩, A420, H⟩ := H
                replace H : (if x7_5 > 4096 then (warplaw5_PlayLimits.j5 k5 x7_5 t243 t244 t245 true) else (if (ji12) > 64 then (warplaw5_PlayLimits.j5 k5 x7_5 t243 t244 t245 true) else (warplaw5_PlayLimits.j5 k5 x7_5 t243 t244 t245 (decide (x11_5 > 4096))))) = some r := H
                have A42 := Aside0.mk A420
                clear A420
                have HC43 := Aside0.mk H
                clear H
                go_upto_region 17 with (first | ((with_reducible refine gate_dst (N := 68) rfl ?_); (try (refine gate_guard (by rfl) ?_; dsimp only)); refine Kd.R_make (Kd.int .i64) _ 3 rfl (N := 68) rfl 22 _ _ rfl x7_5 rfl rfl Tryd.underlying22 (.int .i64 0) 8 info3 rfl (by decide) (by omega) 0 (ok := fun _ => True) (okp := fun _ => True) rfl (fun _ hk => hk) trivial (of_decide_eq_true (by first | (with_reducible assumption) | assumption)) (Nat.le_trans (Nat.mul_le_mul_right _ (of_decide_eq_true (by first | (with_reducible assumption) | assumption) : x7_5.toNat ≤ 35184372088832)) (by omega)) (Below.refl _ _) (Nat.le_refl _) ?_; intro v241 w44 ho45 hb hg_ hnew_; clear hg_ hnew_; (first | rw [← Ny240.out] at ho45 | (simp only [Int.reduceToNat] at ho45; rw [← Ny240.out] at ho45)); have n0_ := Aside0.mk (Kd.S_below (by (with_reducible repeat (first | apply Kd.S_alloc | apply Kd.S_drewN | apply Kd.S_drew)); exact HO_10.out) hb); have n1_ := Aside0.mk (Kd.R_lower ho45 (below_size (by repeat (first | (with_reducible first | exact HB.out | apply below_alloc | apply pw_below_drewN | apply below_drew1) | exact HB.out)))); have n2_ := Aside0.mk (below_step (by repeat (first | (with_reducible first | exact HB.out | apply below_alloc | apply pw_below_drewN | apply below_drew1) | exact HB.out)) hb); clear HO_10; clear HB; have HO_10 := n0_; have HO242 := n1_; have HB := n2_; clear n0_ n1_ n2_; clear hb ho45; obtain ⟨Ao46, co46, eo46⟩ := Kd.R_slice HO242.out; subst eo46; obtain ⟨Ao47, co47, eo47⟩ := Kd.S_slice HO_10.out; subst eo47) | ((with_reducible refine gate_callee (f := 11) rfl ?_); refine goesL_ (some 70) rfl rfl Tryd.func11 (by kernel_rfl) rfl #[.slice Ao46 y240.length co46, .slice Ao47 x10_5.length co47, .slice none 0 0] rfl (by (try simp only [List.map_toArray, List.map_cons, List.map_nil]); first | done | rfl | (simp only [List.length_drop, List.length_take]; rfl)) ?_; (refine (play_Play.calls _ _ y240 _ _ x10_5 _ _ ([] : List Int) t243 t244 t245 _ ?side1 ?side2 ?side3 ?side4 ?side5 ?side6 A42.out).mono ?_); (case side1 => repeat (first | exact (Kd.R_reads' HO242.out).2.2 | (with_reducible refine Kd.C_alloc ?_ _) | (with_reducible refine Kd.C_drewN ?_ _) | (with_reducible refine Kd.C_drew ?_))); (case side2 => exact (Kd.R_reads' HO242.out).2.1); (case side3 => repeat (first | exact (Kd.S_reads' HO_10.out).2.2 | (with_reducible refine Kd.C_alloc ?_ _) | (with_reducible refine Kd.C_drewN ?_ _) | (with_reducible refine Kd.C_drew ?_))); (case side4 => exact (Kd.S_reads' HO_10.out).2.1); (case side5 => exact Kd.C_nil _ _); (case side6 => exact Nat.le_refl _); rintro e w48 ⟨v246, v248, rfl, ho0, ho1, hb⟩; refine ⟨_, rfl, ?_⟩; have n0_ := Aside0.mk (Kd.S_below (by (with_reducible repeat (first | apply Kd.S_alloc | apply Kd.S_drewN | apply Kd.S_drew)); exact HO_10.out) hb); have n1_ := Aside0.mk (Kd.R_elder' (by (with_reducible repeat (first | apply Kd.R_alloc | apply Kd.R_drewN | apply Kd.R_drew)); exact HO242.out) (Kd.R_base ho1) hb); have n2_ := Aside0.mk (Kd.R_lower ho0 (below_size (by repeat (first | (with_reducible first | exact HB.out | apply below_alloc | apply pw_below_drewN | apply below_drew1) | exact HB.out)))); have n3_ := Aside0.mk (Kd.R_lower (Kd.R_new' ho1 (Kd.R_lt (by (with_reducible repeat (first | apply Kd.R_alloc | apply Kd.R_drewN | apply Kd.R_drew)); exact HO242.out))) (below_size (by repeat (first | (with_reducible first | exact HB.out | apply below_alloc | apply pw_below_drewN | apply below_drew1) | exact HB.out)))); have n4_ := Aside0.mk (below_step (by repeat (first | (with_reducible first | exact HB.out | apply below_alloc | apply pw_below_drewN | apply below_drew1) | exact HB.out)) hb); clear HO_10; clear HO242; clear HB; have HO_10 := n0_; have HO242 := n1_; have HO247 := n2_; have HO249 := n3_; have HB := n4_; clear n0_ n1_ n2_ n3_ n4_; (try clear hb); (try clear hb2); (try clear hk); (try clear hi); (try clear ho0); (try clear ho1)))
                (try simp only [Act.put, List.setIfInBounds_toArray, List.set_cons_zero, List.set_cons_succ])
                go_cut [83] (fun v83 wc => ∃ (kq : Nat) (x83_42 : Bool), v83 = .bool x83_42 ∧ Aside0 (warplaw5_PlayLimits.j5 kq x7_5 t243 t244 t245 x83_42 = some r) ∧ Aside0 (kq ≤ k5) ∧ Aside0 (Kd.R k42 42 wc w.heap.size (fun _ => True) v246 t243) ∧ Aside0 (Kd.R (Kd.int .i64) 3 wc w.heap.size (fun _ => True) v248 t244) ∧ Aside0 (Below w.heap.size w wc))
                case first =>
                 have H := HC43.out
                 clear HC43
                 by_cases c49 : x7_5 > 4096
                 ·
                  rw [if_pos c49] at H
                  have c49b0 : decide (4096 < x7_5) = true := decide_eq_true c49
                  clear c49
                  (first | rw [c49b0] | (simp only [i64_w, i32_w]; rw [c49b0]) | skip)
                  have H' := Aside0.mk H
                  clear H
                  go_wp2
                  go_meet
                  case rel => exact ⟨_, (true), (by first | rfl | (simp; done) | (simp [*]; done)), H', ⟨by have := HJ3.out; have := HJ5.out; have := HJ7.out; have := HJ9.out; have := HK5.out; first | omega | exact Nat.le_refl _⟩, ⟨by (with_reducible repeat (first | apply Kd.R_alloc | apply Kd.R_drewN | apply Kd.R_drew)); exact HO247.out⟩, ⟨by (with_reducible repeat (first | apply Kd.R_alloc | apply Kd.R_drewN | apply Kd.R_drew)); exact Kd.R_mono HO249.out (fun _ hk => trivial)⟩, ⟨by repeat (first | (with_reducible first | exact HB.out | apply below_alloc | apply pw_below_drewN | apply below_drew1) | exact HB.out)⟩⟩
                 ·
                  rw [if_neg c49] at H
                  have c49b0 : decide (4096 < x7_5) = false := decide_eq_false c49
                  clear c49
                  (first | rw [c49b0] | (simp only [i64_w, i32_w]; rw [c49b0]) | skip)
                  by_cases c50 : (ji12) > 64
                  ·
                   rw [if_pos c50] at H
                   have c50b0 : decide (64 < (ji12)) = true := decide_eq_true c50
                   clear c50
                   have H' := Aside0.mk H
                   clear H
                   go_wp2
                   go_meet
                   case rel => exact ⟨_, (true), (by first | rfl | (simp; done) | (simp [*]; done)), H', ⟨by have := HJ3.out; have := HJ5.out; have := HJ7.out; have := HJ9.out; have := HK5.out; first | omega | exact Nat.le_refl _⟩, ⟨by (with_reducible repeat (first | apply Kd.R_alloc | apply Kd.R_drewN | apply Kd.R_drew)); exact HO247.out⟩, ⟨by (with_reducible repeat (first | apply Kd.R_alloc | apply Kd.R_drewN | apply Kd.R_drew)); exact Kd.R_mono HO249.out (fun _ hk => trivial)⟩, ⟨by repeat (first | (with_reducible first | exact HB.out | apply below_alloc | apply pw_below_drewN | apply below_drew1) | exact HB.out)⟩⟩
                  ·
                   rw [if_neg c50] at H
                   have c50b0 : decide (64 < (ji12)) = false := decide_eq_false c50
                   clear c50
                   have H' := Aside0.mk H
                   clear H
                   go_wp2
                   go_meet
                   case rel => exact ⟨_, (decide (x11_5 > 4096)), (by first | rfl | (simp; done) | (simp [*]; done)), H', ⟨by have := HJ3.out; have := HJ5.out; have := HJ7.out; have := HJ9.out; have := HK5.out; first | omega | exact Nat.le_refl _⟩, ⟨by (with_reducible repeat (first | apply Kd.R_alloc | apply Kd.R_drewN | apply Kd.R_drew)); exact HO247.out⟩, ⟨by (with_reducible repeat (first | apply Kd.R_alloc | apply Kd.R_drewN | apply Kd.R_drew)); exact Kd.R_mono HO249.out (fun _ hk => trivial)⟩, ⟨by repeat (first | (with_reducible first | exact HB.out | apply below_alloc | apply pw_below_drewN | apply below_drew1) | exact HB.out)⟩⟩
                case rest =>
                 clear HC43
                 (try clear c1); (try clear c2); (try clear p2); (try clear q2); (try clear hx2); (try clear c3); (try clear p3); (try clear q3); (try clear hx3); (try clear hf3); (try clear c4); (try clear c5); (try clear c5b0); (try clear c6); (try clear p6); (try clear c7); (try clear c9); (try clear c9b0); (try clear c11); (try clear c13); (try clear c13b0); (try clear c13b1); (try clear c14); (try clear c14b0); (try clear c14b1); (try clear c17); (try clear c17b0); (try clear c18); (try clear c18b0); (try clear c18b1); (try clear c19); (try clear c19b0); (try clear c19b1); (try clear c21); (try clear c21b0); (try clear c21b1); (try clear c22); (try clear c22b0); (try clear c22b1); (try clear c23); (try clear c23b0); (try clear c24); (try clear c24b0); (try clear c25); (try clear p25); (try clear q25); (try clear hx25); (try clear hf25); (try clear c28); (try clear hx28); (try clear hf28); (try clear c31); (try clear c31b0); (try clear c31b1); (try clear c32); (try clear c32b0); (try clear c32b1); (try clear c33); (try clear c33b0); (try clear c34); (try clear c34b0); (try clear c35); (try clear p35); (try clear q35); (try clear hx35); (try clear hf35); (try clear c38); (try clear hx38); (try clear hf38); (try clear c40); (try clear c40b0); (try clear c40b1); (try clear c41); (try clear c41b0); (try clear c41b1); (try clear c49); (try clear c49b0); (try clear c50); (try clear c50b0); (try clear hx25_0); (try clear hx28_0); (try clear hx35_0); (try clear hx38_0); (try clear p2); (try clear p25); (try clear p35); (try clear p6); (try clear q25); (try clear q35)
                 obtain ⟨kq, x83_42, rfl, HA, HJ42, HO_14, HO_15, HB⟩ := hcut
                 cases kq with
                 | zero => exact absurd HA.out (by simp [warplaw5_PlayLimits.j5])
                 | succ kj42 =>
                  have H := HA.out
                  clear HA
                  simp only [warplaw5_PlayLimits.j5] at H
                  by_cases c51 : x83_42 = true
                  ·
                   subst c51
                   have H1 : (if (t243.length : Int) = 0 then (if (t244.length : Int) = 0 then (if t245 = 0 then ((warplaw5_awake.f kj42).bind fun t250 => (some t250)) else (some false)) else (some false)) else (some false)) = some r := by rw [if_pos rfl] at H; exact H
                   clear H
                   have H := H1
                   clear H1
                   by_cases c52 : (t243.length : Int) = 0
                   ·
                    rw [if_pos c52] at H
                    have c52b0 : ((t243.length : Int) == 0) = true := beq_iff_eq.mpr c52
                    have c52b1 : ((t243.length : Int) != 0) = false := bne_eq_false_iff_eq.mpr c52
                    clear c52
                    by_cases c53 : (t244.length : Int) = 0
                    ·
                     rw [if_pos c53] at H
                     have c53b0 : ((t244.length : Int) == 0) = true := beq_iff_eq.mpr c53
                     have c53b1 : ((t244.length : Int) != 0) = false := bne_eq_false_iff_eq.mpr c53
                     clear c53
                     by_cases c54 : t245 = 0
                     ·
                      rw [if_pos c54] at H
                      have c54b0 : (t245 == 0) = true := beq_iff_eq.mpr c54
                      have c54b1 : (t245 != 0) = false := bne_eq_false_iff_eq.mpr c54
                      clear c54
                      replace H := Option.bind_eq_some_iff.mp H
                      obtain ⟨t250, A550, H⟩ := H
                      replace H : (some t250) = some r := H
                      have A55 := Aside0.mk A550
                      clear A550
                      obtain rfl := Option.some.inj H
                      obtain ⟨Ao56, co56, eo56⟩ := Kd.R_slice HO_14.out
                      subst eo56
                      obtain ⟨Ao57, co57, eo57⟩ := Kd.R_slice HO_15.out
                      subst eo57
                      go_wp2_with (first | (go_at_call 10; (with_reducible refine (warplaw5_awake.calls kj42  t250 _ A55.out).mono ?_); rintro e w58 ⟨rfl, hb⟩; have n0_ := Aside0.mk (Kd.R_below (by (with_reducible repeat (first | apply Kd.R_alloc | apply Kd.R_drewN | apply Kd.R_drew)); exact HO_14.out) hb); have n1_ := Aside0.mk (Kd.R_below (by (with_reducible repeat (first | apply Kd.R_alloc | apply Kd.R_drewN | apply Kd.R_drew)); exact HO_15.out) hb); have n2_ := Aside0.mk (below_step (by repeat (first | (with_reducible first | exact HB.out | apply below_alloc | apply pw_below_drewN | apply below_drew1) | exact HB.out)) hb); clear HO_14; clear HO_15; clear HB; have HO_14 := n0_; have HO_15 := n1_; have HB := n2_; clear n0_ n1_ n2_; (try clear hb); (try clear hb2); (try clear hk); (try clear hi)))
                      go_ret
                      exact ⟨by first | rfl | (simp [errW_none, errW_some] <;> rfl) | (simp only [← hji12]; first | rfl | (simp [errW_none, errW_some] <;> rfl)) | (simp [*, errW_none, errW_some] <;> rfl), by repeat (first | (with_reducible first | exact HB.out | apply below_alloc | apply pw_below_drewN | apply below_drew1) | exact HB.out)⟩
                     ·
                      rw [if_neg c54] at H
                      have c54b0 : (t245 == 0) = false := beq_eq_false_iff_ne.mpr c54
                      have c54b1 : (t245 != 0) = true := bne_iff_ne.mpr c54
                      obtain rfl := Option.some.inj H
                      obtain ⟨Ao59, co59, eo59⟩ := Kd.R_slice HO_14.out
                      subst eo59
                      obtain ⟨Ao60, co60, eo60⟩ := Kd.R_slice HO_15.out
                      subst eo60
                      go_wp2
                      go_ret
                      exact ⟨by first | rfl | (simp [errW_none, errW_some] <;> rfl) | (simp only [← hji12]; first | rfl | (simp [errW_none, errW_some] <;> rfl)) | (simp [*, errW_none, errW_some] <;> rfl), by repeat (first | (with_reducible first | exact HB.out | apply below_alloc | apply pw_below_drewN | apply below_drew1) | exact HB.out)⟩
                    ·
                     rw [if_neg c53] at H
                     have c53b0 : ((t244.length : Int) == 0) = false := beq_eq_false_iff_ne.mpr c53
                     have c53b1 : ((t244.length : Int) != 0) = true := bne_iff_ne.mpr c53
                     have c53b2 : ¬ (t244 = []) := fun h_ => c53 (by rw [h_]; rfl)
                     obtain rfl := Option.some.inj H
                     obtain ⟨Ao61, co61, eo61⟩ := Kd.R_slice HO_14.out
                     subst eo61
                     obtain ⟨Ao62, co62, eo62⟩ := Kd.R_slice HO_15.out
                     subst eo62
                     go_wp2
                     go_ret
                     exact ⟨by first | rfl | (simp [errW_none, errW_some] <;> rfl) | (simp only [← hji12]; first | rfl | (simp [errW_none, errW_some] <;> rfl)) | (simp [*, errW_none, errW_some] <;> rfl), by repeat (first | (with_reducible first | exact HB.out | apply below_alloc | apply pw_below_drewN | apply below_drew1) | exact HB.out)⟩
                   ·
                    rw [if_neg c52] at H
                    have c52b0 : ((t243.length : Int) == 0) = false := beq_eq_false_iff_ne.mpr c52
                    have c52b1 : ((t243.length : Int) != 0) = true := bne_iff_ne.mpr c52
                    have c52b2 : ¬ (t243 = []) := fun h_ => c52 (by rw [h_]; rfl)
                    obtain rfl := Option.some.inj H
                    obtain ⟨Ao63, co63, eo63⟩ := Kd.R_slice HO_14.out
                    subst eo63
                    go_wp2
                    go_ret
                    exact ⟨by first | rfl | (simp [errW_none, errW_some] <;> rfl) | (simp only [← hji12]; first | rfl | (simp [errW_none, errW_some] <;> rfl)) | (simp [*, errW_none, errW_some] <;> rfl), by repeat (first | (with_reducible first | exact HB.out | apply below_alloc | apply pw_below_drewN | apply below_drew1) | exact HB.out)⟩
                  ·
                   replace c51 := Bool.eq_false_iff.mpr c51
                   subst c51
                   have H1 : (if (t243.length : Int) = 0 then (if (t244.length : Int) = x7_5 then (if t245 = 0 then ((warplaw5_awake.f kj42).bind fun t251 => (some t251)) else (some false)) else (some false)) else (some false)) = some r := by rw [if_neg (show ¬ (false = true) by decide)] at H; exact H
                   clear H
                   have H := H1
                   clear H1
                   by_cases c64 : (t243.length : Int) = 0
                   ·
                    rw [if_pos c64] at H
                    have c64b0 : ((t243.length : Int) == 0) = true := beq_iff_eq.mpr c64
                    have c64b1 : ((t243.length : Int) != 0) = false := bne_eq_false_iff_eq.mpr c64
                    clear c64
                    by_cases c65 : (t244.length : Int) = x7_5
                    ·
                     rw [if_pos c65] at H
                     have c65b0 : ((t244.length : Int) == x7_5) = true := beq_iff_eq.mpr c65
                     have c65b1 : ((t244.length : Int) != x7_5) = false := bne_eq_false_iff_eq.mpr c65
                     clear c65
                     by_cases c66 : t245 = 0
                     ·
                      rw [if_pos c66] at H
                      have c66b0 : (t245 == 0) = true := beq_iff_eq.mpr c66
                      have c66b1 : (t245 != 0) = false := bne_eq_false_iff_eq.mpr c66
                      clear c66
                      replace H := Option.bind_eq_some_iff.mp H
                      obtain ⟨t251, A670, H⟩ := H
                      replace H : (some t251) = some r := H
                      have A67 := Aside0.mk A670
                      clear A670
                      obtain rfl := Option.some.inj H
                      obtain ⟨Ao68, co68, eo68⟩ := Kd.R_slice HO_14.out
                      subst eo68
                      obtain ⟨Ao69, co69, eo69⟩ := Kd.R_slice HO_15.out
                      subst eo69
                      go_wp2_with (first | (go_at_call 10; (with_reducible refine (warplaw5_awake.calls kj42  t251 _ A67.out).mono ?_); rintro e w70 ⟨rfl, hb⟩; have n0_ := Aside0.mk (Kd.R_below (by (with_reducible repeat (first | apply Kd.R_alloc | apply Kd.R_drewN | apply Kd.R_drew)); exact HO_14.out) hb); have n1_ := Aside0.mk (Kd.R_below (by (with_reducible repeat (first | apply Kd.R_alloc | apply Kd.R_drewN | apply Kd.R_drew)); exact HO_15.out) hb); have n2_ := Aside0.mk (below_step (by repeat (first | (with_reducible first | exact HB.out | apply below_alloc | apply pw_below_drewN | apply below_drew1) | exact HB.out)) hb); clear HO_14; clear HO_15; clear HB; have HO_14 := n0_; have HO_15 := n1_; have HB := n2_; clear n0_ n1_ n2_; (try clear hb); (try clear hb2); (try clear hk); (try clear hi)))
                      go_ret
                      exact ⟨by first | rfl | (simp [errW_none, errW_some] <;> rfl) | (simp only [← hji12]; first | rfl | (simp [errW_none, errW_some] <;> rfl)) | (simp [*, errW_none, errW_some] <;> rfl), by repeat (first | (with_reducible first | exact HB.out | apply below_alloc | apply pw_below_drewN | apply below_drew1) | exact HB.out)⟩
                     ·
                      rw [if_neg c66] at H
                      have c66b0 : (t245 == 0) = false := beq_eq_false_iff_ne.mpr c66
                      have c66b1 : (t245 != 0) = true := bne_iff_ne.mpr c66
                      obtain rfl := Option.some.inj H
                      obtain ⟨Ao71, co71, eo71⟩ := Kd.R_slice HO_14.out
                      subst eo71
                      obtain ⟨Ao72, co72, eo72⟩ := Kd.R_slice HO_15.out
                      subst eo72
                      go_wp2
                      go_ret
                      exact ⟨by first | rfl | (simp [errW_none, errW_some] <;> rfl) | (simp only [← hji12]; first | rfl | (simp [errW_none, errW_some] <;> rfl)) | (simp [*, errW_none, errW_some] <;> rfl), by repeat (first | (with_reducible first | exact HB.out | apply below_alloc | apply pw_below_drewN | apply below_drew1) | exact HB.out)⟩
                    ·
                     rw [if_neg c65] at H
                     have c65b0 : ((t244.length : Int) == x7_5) = false := beq_eq_false_iff_ne.mpr c65
                     have c65b1 : ((t244.length : Int) != x7_5) = true := bne_iff_ne.mpr c65
                     obtain rfl := Option.some.inj H
                     obtain ⟨Ao73, co73, eo73⟩ := Kd.R_slice HO_14.out
                     subst eo73
                     obtain ⟨Ao74, co74, eo74⟩ := Kd.R_slice HO_15.out
                     subst eo74
                     go_wp2
                     go_ret
                     exact ⟨by first | rfl | (simp [errW_none, errW_some] <;> rfl) | (simp only [← hji12]; first | rfl | (simp [errW_none, errW_some] <;> rfl)) | (simp [*, errW_none, errW_some] <;> rfl), by repeat (first | (with_reducible first | exact HB.out | apply below_alloc | apply pw_below_drewN | apply below_drew1) | exact HB.out)⟩
                   ·
                    rw [if_neg c64] at H
                    have c64b0 : ((t243.length : Int) == 0) = false := beq_eq_false_iff_ne.mpr c64
                    have c64b1 : ((t243.length : Int) != 0) = true := bne_iff_ne.mpr c64
                    have c64b2 : ¬ (t243 = []) := fun h_ => c64 (by rw [h_]; rfl)
                    obtain rfl := Option.some.inj H
                    obtain ⟨Ao75, co75, eo75⟩ := Kd.R_slice HO_14.out
                    subst eo75
                    go_wp2
                    go_ret
                    exact ⟨by first | rfl | (simp [errW_none, errW_some] <;> rfl) | (simp only [← hji12]; first | rfl | (simp [errW_none, errW_some] <;> rfl)) | (simp [*, errW_none, errW_some] <;> rfl), by repeat (first | (with_reducible first | exact HB.out | apply below_alloc | apply pw_below_drewN | apply below_drew1) | exact HB.out)⟩
               ·
                rw [if_neg c41] at H
                exact absurd H (by simp)
              ·
               rw [if_neg c40] at H
               exact absurd H (by simp)
          ·
           rw [if_neg c14] at H
           exact absurd H (by simp)
         ·
          rw [if_neg c13] at H
          exact absurd H (by simp)

/-- The one plain statement of warplaw5_PlayLimits. -/
def warplaw5_PlayLimits.Pure : Prop := ∀ (a0 : Int) (a1 : Int) (a2 : Int), ((fun n : Int => (Lit.int .u16 n).wf = true) a0) → ((fun n : Int => (Lit.int .u16 n).wf = true) a1) → ((fun n : Int => (Lit.int .u16 n).wf = true) a2) → ∃ k, warplaw5_PlayLimits.f k a0 a1 a2 = some true

end Go.Proofs.YtmaiicpaalbcfaaDoor.P
