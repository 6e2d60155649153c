/-
The plain Lean functions of Go functions of this seat, and proofs that the calls of the machine come to them; no condition beside those named in each theorem.
-/
import Derived.Test.YtmgfkdnoclmbgaaDoorPx0
import Derived.Test.YtmgfkdnoclmbgaaDoorPx1
import Derived.Test.YtmgfkdnoclmbgaaDoorPx3
import Derived.Test.YtmgfkdnoclmbgaaDoorPx6
import Derived.Test.YtmgfkdnoclmbgaaDoorStubB
namespace Go.Proofs.YtmgfkdnoclmbgaaDoor.P
open Go.RowKit Go.Proofs.YtmgfkdnoclmbgaaDoorW.PrintWords Go.Proofs.YtmgfkdnoclmbgaaDoorW.PrintLast Go.Proofs.YtmgfkdnoclmbgaaDoorW.PrintMore
attribute [local go_sem] max2_int min2_int max_two min_two max_three min_three max_four min_four   -- for this text's walks alone
set_option linter.unusedVariables false
set_option linter.unusedSimpArgs false

attribute [local go_sem high] eqA26
/-! ### warplaw8_TableAgain: function 6 -/
mutual
def warplaw8_TableAgain.j0 : Nat → List (List Int) → Int → Int → List Int → List Int → Bool → Option (Bool)
 | 0, _, _, _, _, _, _ => none
 | k + 1, x0, x1, x2, x3, x4, x30 => if x30 = true then ((warplaw8_awake.f k).bind fun t221 => (some t221)) else ((warplaw8_Keys.f k x0).bind fun t222 => ((table_Play.f t222 200 (wrap64 (x1)) x3).bind fun bt225 => ((table_Play.f t222 200 (wrap64 (x2)) x4).bind fun bt233 => (if (bt225.2.1.length : Int) = (bt233.2.1.length : Int) then (if bt225.2.2.1 = bt233.2.2.1 then (if (wrap64 (bt225.2.2.2 + bt233.2.2.2)) = 0 then (warplaw8_TableAgain.j1 k bt225.2.1 bt233.2.1 ((bt225.1.length : Int) != (bt233.1.length : Int))) else (warplaw8_TableAgain.j1 k bt225.2.1 bt233.2.1 true)) else (warplaw8_TableAgain.j1 k bt225.2.1 bt233.2.1 true)) else (warplaw8_TableAgain.j1 k bt225.2.1 bt233.2.1 true)))))
def warplaw8_TableAgain.j1 : Nat → List (S26) → List (S26) → Bool → Option (Bool)
 | 0, _, _, _ => none
 | k + 1, x13, x17, x76 => if x76 = true then (some false) else (warplaw8_TableAgain.l0 k x13 x17 0)
def warplaw8_TableAgain.l0 : Nat → List (S26) → List (S26) → Int → Option (Bool)
 | 0, _, _, _ => none
 | k + 1, x13, x17, x20 => if x20 < (x13.length : Int) then (warplaw8_TableAgain.l1 k x13 x17 x20 false 0) else ((warplaw8_awake.f k).bind fun t243 => (some t243))
def warplaw8_TableAgain.l1 : Nat → List (S26) → List (S26) → Int → Bool → Int → Option (Bool)
 | 0, _, _, _, _, _ => none
 | k + 1, x13, x17, x20, x21, x22 => if x22 < (x17.length : Int) then (if x21 = true then (warplaw8_TableAgain.l1 k x13 x17 x20 true (wrap64 (x22 + 1))) else (if 0 ≤ x20 then (if x20 < (x13.length : Int) then (if 0 ≤ x22 then (warplaw8_TableAgain.l1 k x13 x17 x20 ((((rd_T26 x13 x20).f0).toList) == (((rd_T26 x17 x22).f0).toList) && (((rd_T26 x13 x20).f1) == ((rd_T26 x17 x22).f1) && (((rd_T26 x13 x20).f2) == ((rd_T26 x17 x22).f2)))) (wrap64 (x22 + 1))) else (none)) else (none)) else (none))) else (if x21 = true then (warplaw8_TableAgain.l0 k x13 x17 (wrap64 (x20 + 1))) else (some false))
end
def warplaw8_TableAgain.f (k : Nat) (l0 : List (List Int)) (a1 : Int) (a2 : Int) (l3 : List Int) (l4 : List Int) : Option (Bool) := if (l3.length : Int) > 300 then (warplaw8_TableAgain.j0 k l0 a1 a2 l3 l4 true) else (warplaw8_TableAgain.j0 k l0 a1 a2 l3 l4 (decide ((l4.length : Int) > 300)))
theorem warplaw8_TableAgain.mono_l : ∀ k, (∀ y0 y1 y2 y3 y4 y5, LeO (warplaw8_TableAgain.j0 k y0 y1 y2 y3 y4 y5) (warplaw8_TableAgain.j0 (k + 1) y0 y1 y2 y3 y4 y5)) ∧ (∀ y0 y1 y2, LeO (warplaw8_TableAgain.j1 k y0 y1 y2) (warplaw8_TableAgain.j1 (k + 1) y0 y1 y2)) ∧ (∀ y0 y1 y2, LeO (warplaw8_TableAgain.l0 k y0 y1 y2) (warplaw8_TableAgain.l0 (k + 1) y0 y1 y2)) ∧ (∀ y0 y1 y2 y3 y4, LeO (warplaw8_TableAgain.l1 k y0 y1 y2 y3 y4) (warplaw8_TableAgain.l1 (k + 1) y0 y1 y2 y3 y4))
 | 0 => ⟨fun _ _ _ _ _ _ r h => by simp [warplaw8_TableAgain.j0] at h, fun _ _ _ r h => by simp [warplaw8_TableAgain.j1] at h, fun _ _ _ r h => by simp [warplaw8_TableAgain.l0] at h, fun _ _ _ _ _ r h => by simp [warplaw8_TableAgain.l1] at h⟩
 | k + 1 => by
  obtain ⟨ih0, ih1, ih2, ih3⟩ := warplaw8_TableAgain.mono_l k
  refine ⟨?_, ?_, ?_, ?_⟩
  ·
   intro y0 y1 y2 y3 y4 y5
   unfold warplaw8_TableAgain.j0
   repeat' first
   | (with_reducible exact ih0 _ _ _ _ _ _)
   | (with_reducible exact ih1 _ _ _)
   | (with_reducible exact ih2 _ _ _)
   | (with_reducible exact ih3 _ _ _ _ _)
   | (with_reducible exact warplaw8_Keys.mono _ _)
   | (with_reducible exact warplaw8_awake.mono _)
   | (with_reducible exact LeO.refl _)
   | (with_reducible exact LeO.none _)
   | (with_reducible refine LeO.ite ?_ ?_)
   | (with_reducible refine LeO.bind ?_ (fun _ => ?_))
   | exact ih0 _ _ _ _ _ _
   | exact ih1 _ _ _
   | exact ih2 _ _ _
   | exact ih3 _ _ _ _ _
   | exact warplaw8_Keys.mono _ _
   | exact warplaw8_awake.mono _
   | exact LeO.none _
   | refine LeO.ite ?_ ?_
   | refine LeO.bind ?_ (fun _ => ?_)
  ·
   intro y0 y1 y2
   unfold warplaw8_TableAgain.j1
   repeat' first
   | (with_reducible exact ih0 _ _ _ _ _ _)
   | (with_reducible exact ih1 _ _ _)
   | (with_reducible exact ih2 _ _ _)
   | (with_reducible exact ih3 _ _ _ _ _)
   | (with_reducible exact warplaw8_Keys.mono _ _)
   | (with_reducible exact warplaw8_awake.mono _)
   | (with_reducible exact LeO.refl _)
   | (with_reducible exact LeO.none _)
   | (with_reducible refine LeO.ite ?_ ?_)
   | (with_reducible refine LeO.bind ?_ (fun _ => ?_))
   | exact ih0 _ _ _ _ _ _
   | exact ih1 _ _ _
   | exact ih2 _ _ _
   | exact ih3 _ _ _ _ _
   | exact warplaw8_Keys.mono _ _
   | exact warplaw8_awake.mono _
   | exact LeO.none _
   | refine LeO.ite ?_ ?_
   | refine LeO.bind ?_ (fun _ => ?_)
  ·
   intro y0 y1 y2
   unfold warplaw8_TableAgain.l0
   repeat' first
   | (with_reducible exact ih0 _ _ _ _ _ _)
   | (with_reducible exact ih1 _ _ _)
   | (with_reducible exact ih2 _ _ _)
   | (with_reducible exact ih3 _ _ _ _ _)
   | (with_reducible exact warplaw8_Keys.mono _ _)
   | (with_reducible exact warplaw8_awake.mono _)
   | (with_reducible exact LeO.refl _)
   | (with_reducible exact LeO.none _)
   | (with_reducible refine LeO.ite ?_ ?_)
   | (with_reducible refine LeO.bind ?_ (fun _ => ?_))
   | exact ih0 _ _ _ _ _ _
   | exact ih1 _ _ _
   | exact ih2 _ _ _
   | exact ih3 _ _ _ _ _
   | exact warplaw8_Keys.mono _ _
   | exact warplaw8_awake.mono _
   | exact LeO.none _
   | refine LeO.ite ?_ ?_
   | refine LeO.bind ?_ (fun _ => ?_)
  ·
   intro y0 y1 y2 y3 y4
   unfold warplaw8_TableAgain.l1
   repeat' first
   | (with_reducible exact ih0 _ _ _ _ _ _)
   | (with_reducible exact ih1 _ _ _)
   | (with_reducible exact ih2 _ _ _)
   | (with_reducible exact ih3 _ _ _ _ _)
   | (with_reducible exact warplaw8_Keys.mono _ _)
   | (with_reducible exact warplaw8_awake.mono _)
   | (with_reducible exact LeO.refl _)
   | (with_reducible exact LeO.none _)
   | (with_reducible refine LeO.ite ?_ ?_)
   | (with_reducible refine LeO.bind ?_ (fun _ => ?_))
   | exact ih0 _ _ _ _ _ _
   | exact ih1 _ _ _
   | exact ih2 _ _ _
   | exact ih3 _ _ _ _ _
   | exact warplaw8_Keys.mono _ _
   | exact warplaw8_awake.mono _
   | exact LeO.none _
   | refine LeO.ite ?_ ?_
   | refine LeO.bind ?_ (fun _ => ?_)
theorem warplaw8_TableAgain.mono : ∀ a0 a1 a2 a3 a4 k, LeO (warplaw8_TableAgain.f k a0 a1 a2 a3 a4) (warplaw8_TableAgain.f (k + 1) a0 a1 a2 a3 a4) := by
 intro a0 a1 a2 a3 a4 k
 obtain ⟨ih0, ih1, ih2, ih3⟩ := warplaw8_TableAgain.mono_l k
 unfold warplaw8_TableAgain.f
 repeat' first
  | (with_reducible exact ih0 _ _ _ _ _ _)
  | (with_reducible exact ih1 _ _ _)
  | (with_reducible exact ih2 _ _ _)
  | (with_reducible exact ih3 _ _ _ _ _)
  | (with_reducible exact warplaw8_Keys.mono _ _)
  | (with_reducible exact warplaw8_awake.mono _)
  | (with_reducible exact LeO.refl _)
  | (with_reducible exact LeO.none _)
  | (with_reducible refine LeO.ite ?_ ?_)
  | (with_reducible refine LeO.bind ?_ (fun _ => ?_))
  | exact ih0 _ _ _ _ _ _
  | exact ih1 _ _ _
  | exact ih2 _ _ _
  | exact ih3 _ _ _ _ _
  | exact warplaw8_Keys.mono _ _
  | exact warplaw8_awake.mono _
  | exact LeO.none _
  | refine LeO.ite ?_ ?_
  | refine LeO.bind ?_ (fun _ => ?_)
set_option maxHeartbeats 8000000 in
set_option maxRecDepth 100000 in
theorem warplaw8_TableAgain.calls (k : Nat) (A0 : Option Addr) (c0 : Nat) (l0 : List (List Int)) (a1 : Int) (a2 : Int) (A3 : Option Addr) (c3 : Nat) (l3 : List Int) (A4 : Option Addr) (c4 : Nat) (l4 : List Int) (r : Bool) (w : World) (hr0 : Kd.C (Kd.slice 5 (Kd.int .u8)) w A0 l0.length l0) (hc0 : l0.length ≤ c0) (hr3 : Kd.C (Kd.int .i64) w A3 l3.length l3) (hc3 : l3.length ≤ c3) (hr4 : Kd.C (Kd.int .i64) w A4 l4.length l4) (hc4 : l4.length ≤ c4) (h : warplaw8_TableAgain.f k l0 a1 a2 l3 l4 = some r) (hT_ : Tab w := by first | exact hT_ | exact Tab.drewN hT_ _ | (refine Tab.below hT_ ?_; repeat (first | (with_reducible first | exact HB.out | apply below_alloc | apply pw_below_drewN | apply below_drew1) | exact HB.out))) (hr_ : r = true := by rfl) :
 Calls Tryd.prog 6 #[.slice A0 l0.length c0, .int .u8 a1, .int .u8 a2, .slice A3 l3.length c3, .slice A4 l4.length c4] w fun e w' => e = .returned (.bool r) ∧ Below w.heap.size w w' := by
 have hu26 := Tryd.underlying26
 have HR0 := Aside0.mk hr0
 have HC0 := Aside0.mk hc0
 clear hr0 hc0
 have HR3 := Aside0.mk hr3
 have HC3 := Aside0.mk hc3
 clear hr3 hc3
 have HR4 := Aside0.mk hr4
 have HC4 := Aside0.mk hc4
 clear hr4 hc4
 have HB := Aside0.mk (Below.refl w.heap.size w)
 have H : (if (l3.length : Int) > 300 then (warplaw8_TableAgain.j0 k l0 a1 a2 l3 l4 true) else (warplaw8_TableAgain.j0 k l0 a1 a2 l3 l4 (decide ((l4.length : Int) > 300)))) = some r := h
 clear h
 have HC6 := Aside0.mk H
 clear H
 go_enter Tryd.func6, Tryd.ntmps6
 go_upto_region 1 with (fail)
 repeat (go_quiet (fail); go_upto_region 1 with (fail))
 go_cut [30] (fun v30 wc => ∃ (kq : Nat) (x30_5 : Bool), v30 = .bool x30_5 ∧ Aside0 (warplaw8_TableAgain.j0 kq l0 a1 a2 l3 l4 x30_5 = some r) ∧ Aside0 (kq ≤ k) ∧ Aside0 (Below w.heap.size w wc))
 case first =>
  have H := HC6.out
  clear HC6
  by_cases c7 : (l3.length : Int) > 300
  ·
   rw [if_pos c7] at H
   have c7b0 : decide (300 < (l3.length : Int)) = true := decide_eq_true c7
   have c7b1 : decide (300 < l3.length) = true := decide_eq_true (by omega)
   clear c7
   (first | rw [c7b0] | (simp only [i64_w, i32_w]; rw [c7b0]) | skip)
   have H' := Aside0.mk H
   clear H
   go_wp2
   repeat (go_quiet (fail); try go_wp2)
   go_meet
   case rel => exact ⟨_, (true), (by first | rfl | (simp; done) | (simp [*]; done)), H', ⟨by first | omega | exact Nat.le_refl _⟩, ⟨by repeat (first | (with_reducible first | exact HB.out | apply below_alloc | apply pw_below_drewN | apply below_drew1) | exact HB.out)⟩⟩
  ·
   rw [if_neg c7] at H
   have c7b0 : decide (300 < (l3.length : Int)) = false := decide_eq_false c7
   have c7b1 : decide (300 < l3.length) = false := decide_eq_false (by omega)
   clear c7
   (first | rw [c7b0] | (simp only [i64_w, i32_w]; rw [c7b0]) | skip)
   have H' := Aside0.mk H
   clear H
   go_wp2
   repeat (go_quiet (fail); try go_wp2)
   go_meet
   case rel => exact ⟨_, (decide ((l4.length : Int) > 300)), (by first | rfl | (simp; done) | (simp [*]; done)), H', ⟨by first | omega | exact Nat.le_refl _⟩, ⟨by repeat (first | (with_reducible first | exact HB.out | apply below_alloc | apply pw_below_drewN | apply below_drew1) | exact HB.out)⟩⟩
 case rest =>
  clear HC6
  (try clear p2); (try clear c3); (try clear c4); (try clear c6); (try clear c7); (try clear c7b0); (try clear c7b1)
  obtain ⟨kq, x30_5, rfl, HA, HJ5, HB⟩ := hcut
  cases kq with
  | zero => exact absurd HA.out (by simp [warplaw8_TableAgain.j0])
  | succ kj5 =>
   have H := HA.out
   clear HA
   simp only [warplaw8_TableAgain.j0] at H
   by_cases c8 : x30_5 = true
   ·
    subst c8
    have H1 : ((warplaw8_awake.f kj5).bind fun t221 => (some t221)) = some r := by rw [if_pos rfl] at H; exact H
    clear H
    have H := H1
    clear H1
    replace H := Option.bind_eq_some_iff.mp H
    obtain ⟨t221, A90, H⟩ := H
    replace H : (some t221) = some r := H
    have A9 := Aside0.mk A90
    clear A90
    obtain rfl := Option.some.inj H
    go_wp2_with (first | (go_at_call 8; (with_reducible refine (warplaw8_awake.calls kj5  t221 _ A9.out).mono ?_); rintro e w10 ⟨rfl, hb⟩; have n0_ := Aside0.mk (below_step (by repeat (first | (with_reducible first | exact HB.out | apply below_alloc | apply pw_below_drewN | apply below_drew1) | exact HB.out)) hb); clear HB; have HB := n0_; clear n0_; (try clear hb); (try clear hb2); (try clear hk); (try clear hi)))
    repeat (go_quiet (first | (go_at_call 8; (with_reducible refine (warplaw8_awake.calls kj5  t221 _ A9.out).mono ?_); rintro e w10 ⟨rfl, hb⟩; have n0_ := Aside0.mk (below_step (by repeat (first | (with_reducible first | exact HB.out | apply below_alloc | apply pw_below_drewN | apply below_drew1) | exact HB.out)) hb); clear HB; have HB := n0_; clear n0_; (try clear hb); (try clear hb2); (try clear hk); (try clear hi))); try go_wp2_with (first | (go_at_call 8; (with_reducible refine (warplaw8_awake.calls kj5  t221 _ A9.out).mono ?_); rintro e w10 ⟨rfl, hb⟩; have n0_ := Aside0.mk (below_step (by repeat (first | (with_reducible first | exact HB.out | apply below_alloc | apply pw_below_drewN | apply below_drew1) | exact HB.out)) hb); clear HB; have HB := n0_; clear n0_; (try clear hb); (try clear hb2); (try clear hk); (try clear hi))))
    go_ret
    exact ⟨by first | rfl | (simp [errW_none, errW_some] <;> rfl) | (simp [*, errW_none, errW_some] <;> rfl), by repeat (first | (with_reducible first | exact HB.out | apply below_alloc | apply pw_below_drewN | apply below_drew1) | exact HB.out)⟩
   ·
    replace c8 := Bool.eq_false_iff.mpr c8
    subst c8
    have H1 : ((warplaw8_Keys.f kj5 l0).bind fun t222 => ((table_Play.f t222 200 (wrap64 (a1)) l3).bind fun bt225 => ((table_Play.f t222 200 (wrap64 (a2)) l4).bind fun bt233 => (if (bt225.2.1.length : Int) = (bt233.2.1.length : Int) then (if bt225.2.2.1 = bt233.2.2.1 then (if (wrap64 (bt225.2.2.2 + bt233.2.2.2)) = 0 then (warplaw8_TableAgain.j1 kj5 bt225.2.1 bt233.2.1 ((bt225.1.length : Int) != (bt233.1.length : Int))) else (warplaw8_TableAgain.j1 kj5 bt225.2.1 bt233.2.1 true)) else (warplaw8_TableAgain.j1 kj5 bt225.2.1 bt233.2.1 true)) else (warplaw8_TableAgain.j1 kj5 bt225.2.1 bt233.2.1 true))))) = some r := by rw [if_neg (show ¬ (false = true) by decide)] at H; exact H
    clear H
    have H := H1
    clear H1
    replace H := Option.bind_eq_some_iff.mp H
    obtain ⟨t222, A110, H⟩ := H
    replace H : ((table_Play.f t222 200 (wrap64 (a1)) l3).bind fun bt225 => ((table_Play.f t222 200 (wrap64 (a2)) l4).bind fun bt233 => (if (bt225.2.1.length : Int) = (bt233.2.1.length : Int) then (if bt225.2.2.1 = bt233.2.2.1 then (if (wrap64 (bt225.2.2.2 + bt233.2.2.2)) = 0 then (warplaw8_TableAgain.j1 kj5 bt225.2.1 bt233.2.1 ((bt225.1.length : Int) != (bt233.1.length : Int))) else (warplaw8_TableAgain.j1 kj5 bt225.2.1 bt233.2.1 true)) else (warplaw8_TableAgain.j1 kj5 bt225.2.1 bt233.2.1 true)) else (warplaw8_TableAgain.j1 kj5 bt225.2.1 bt233.2.1 true)))) = some r := H
    have A11 := Aside0.mk A110
    clear A110
    replace H := Option.bind_eq_some_iff.mp H
    obtain ⟨⟨t225, t226, t227, t228⟩, A120, H⟩ := H
    replace H : ((table_Play.f t222 200 (wrap64 (a2)) l4).bind fun bt233 => (if (t226.length : Int) = (bt233.2.1.length : Int) then (if t227 = bt233.2.2.1 then (if (wrap64 (t228 + bt233.2.2.2)) = 0 then (warplaw8_TableAgain.j1 kj5 t226 bt233.2.1 ((t225.length : Int) != (bt233.1.length : Int))) else (warplaw8_TableAgain.j1 kj5 t226 bt233.2.1 true)) else (warplaw8_TableAgain.j1 kj5 t226 bt233.2.1 true)) else (warplaw8_TableAgain.j1 kj5 t226 bt233.2.1 true))) = some r := H
    have A12 := Aside0.mk A120
    clear A120
    replace H := Option.bind_eq_some_iff.mp H
    obtain ⟨⟨t233, t234, t235, t236⟩, A130, H⟩ := H
    replace H : (if (t226.length : Int) = (t234.length : Int) then (if t227 = t235 then (if (wrap64 (t228 + t236)) = 0 then (warplaw8_TableAgain.j1 kj5 t226 t234 ((t225.length : Int) != (t233.length : Int))) else (warplaw8_TableAgain.j1 kj5 t226 t234 true)) else (warplaw8_TableAgain.j1 kj5 t226 t234 true)) else (warplaw8_TableAgain.j1 kj5 t226 t234 true)) = some r := H
    have A13 := Aside0.mk A130
    clear A130
    have HC14 := Aside0.mk H
    clear H
    go_upto_region 6 with (first | (go_at_call 13; (with_reducible refine (warplaw8_Keys.calls kj5 _ _ l0 t222 _ ?side1 ?side2 A11.out).mono ?_); (case side1 => repeat (first | exact (Kd.C_below HR0.out HB.out) | (with_reducible refine Kd.C_alloc ?_ _) | (with_reducible refine Kd.C_drewN ?_ _) | (with_reducible refine Kd.C_drew ?_))); (case side2 => exact HC0.out); rintro e w15 ⟨v223, rfl, ho0, hb⟩; have n0_ := Aside0.mk (Kd.S_lower ho0 (below_size (by repeat (first | (with_reducible first | exact HB.out | apply below_alloc | apply pw_below_drewN | apply below_drew1) | exact HB.out)))); have n1_ := Aside0.mk (below_step (by repeat (first | (with_reducible first | exact HB.out | apply below_alloc | apply pw_below_drewN | apply below_drew1) | exact HB.out)) hb); clear HB; have HO224 := n0_; have HB := n1_; clear n0_ n1_; (try clear hb); (try clear hb2); (try clear hk); (try clear hi); (try clear ho0); obtain ⟨Ao16, co16, eo16⟩ := Kd.S_slice HO224.out; subst eo16) | (go_at_call 9; (with_reducible refine (table_Play.calls _ _ t222 200 (wrap64 (a1)) _ _ l3 t225 t226 t227 t228 _ ?side1 ?side2 ?side3 ?side4 A12.out).mono ?_); (case side1 => repeat (first | exact (Kd.S_reads' HO224.out).2.2 | (with_reducible refine Kd.C_alloc ?_ _) | (with_reducible refine Kd.C_drewN ?_ _) | (with_reducible refine Kd.C_drew ?_))); (case side2 => exact (Kd.S_reads' HO224.out).2.1); (case side3 => repeat (first | exact (Kd.C_below HR3.out HB.out) | (with_reducible refine Kd.C_alloc ?_ _) | (with_reducible refine Kd.C_drewN ?_ _) | (with_reducible refine Kd.C_drew ?_))); (case side4 => exact HC3.out); rintro e w17 ⟨v229, v231, rfl, ho0, ho1, hb⟩; have n0_ := Aside0.mk (Kd.S_elder' (by (with_reducible repeat (first | apply Kd.S_alloc | apply Kd.S_drewN | apply Kd.S_drew)); exact HO224.out) (Kd.R_base ho1) hb); have n1_ := Aside0.mk (Kd.S_lower ho0 (below_size (by repeat (first | (with_reducible first | exact HB.out | apply below_alloc | apply pw_below_drewN | apply below_drew1) | exact HB.out)))); have n2_ := Aside0.mk (Kd.R_lower ho1 (below_size (by repeat (first | (with_reducible first | exact HB.out | apply below_alloc | apply pw_below_drewN | apply below_drew1) | exact HB.out)))); have n3_ := Aside0.mk (below_step (by repeat (first | (with_reducible first | exact HB.out | apply below_alloc | apply pw_below_drewN | apply below_drew1) | exact HB.out)) hb); clear HO224; clear HB; have HO224 := n0_; have HO230 := n1_; have HO232 := n2_; have HB := n3_; clear n0_ n1_ n2_ n3_; (try clear hb); (try clear hb2); (try clear hk); (try clear hi); (try clear ho0); (try clear ho1)) | (go_at_call 9; (with_reducible refine (table_Play.calls _ _ t222 200 (wrap64 (a2)) _ _ l4 t233 t234 t235 t236 _ ?side1 ?side2 ?side3 ?side4 A13.out).mono ?_); (case side1 => repeat (first | exact (Kd.S_reads' HO224.out).2.2 | (with_reducible refine Kd.C_alloc ?_ _) | (with_reducible refine Kd.C_drewN ?_ _) | (with_reducible refine Kd.C_drew ?_))); (case side2 => exact (Kd.S_reads' HO224.out).2.1); (case side3 => repeat (first | exact (Kd.C_below HR4.out HB.out) | (with_reducible refine Kd.C_alloc ?_ _) | (with_reducible refine Kd.C_drewN ?_ _) | (with_reducible refine Kd.C_drew ?_))); (case side4 => exact HC4.out); rintro e w18 ⟨v237, v239, rfl, ho0, ho1, hb⟩; have n0_ := Aside0.mk (Kd.S_elder' (by (with_reducible repeat (first | apply Kd.S_alloc | apply Kd.S_drewN | apply Kd.S_drew)); exact HO224.out) (Kd.R_base ho1) hb); have n1_ := Aside0.mk (Kd.S_elder' (by (with_reducible repeat (first | apply Kd.S_alloc | apply Kd.S_drewN | apply Kd.S_drew)); exact HO230.out) (Kd.S_base ho0) hb); have n2_ := Aside0.mk (Kd.R_elder' (by (with_reducible repeat (first | apply Kd.R_alloc | apply Kd.R_drewN | apply Kd.R_drew)); exact HO232.out) (Kd.R_base ho1) hb); have n3_ := Aside0.mk (Kd.S_lower (Kd.S_new' ho0 (Kd.S_lt (by (with_reducible repeat (first | apply Kd.S_alloc | apply Kd.S_drewN | apply Kd.S_drew)); exact HO230.out))) (below_size (by repeat (first | (with_reducible first | exact HB.out | apply below_alloc | apply pw_below_drewN | apply below_drew1) | exact HB.out)))); have n4_ := Aside0.mk (Kd.R_lower (Kd.R_new' ho1 (Kd.R_lt (by (with_reducible repeat (first | apply Kd.R_alloc | apply Kd.R_drewN | apply Kd.R_drew)); exact HO232.out))) (below_size (by repeat (first | (with_reducible first | exact HB.out | apply below_alloc | apply pw_below_drewN | apply below_drew1) | exact HB.out)))); have n5_ := Aside0.mk (below_step (by repeat (first | (with_reducible first | exact HB.out | apply below_alloc | apply pw_below_drewN | apply below_drew1) | exact HB.out)) hb); clear HO224; clear HO230; clear HO232; clear HB; have HO224 := n0_; have HO230 := n1_; have HO232 := n2_; have HO238 := n3_; have HO240 := n4_; have HB := n5_; clear n0_ n1_ n2_ n3_ n4_ n5_; (try clear hb); (try clear hb2); (try clear hk); (try clear hi); (try clear ho0); (try clear ho1)))
    repeat (go_quiet (first | (go_at_call 13; (with_reducible refine (warplaw8_Keys.calls kj5 _ _ l0 t222 _ ?side1 ?side2 A11.out).mono ?_); (case side1 => repeat (first | exact (Kd.C_below HR0.out HB.out) | (with_reducible refine Kd.C_alloc ?_ _) | (with_reducible refine Kd.C_drewN ?_ _) | (with_reducible refine Kd.C_drew ?_))); (case side2 => exact HC0.out); rintro e w15 ⟨v223, rfl, ho0, hb⟩; have n0_ := Aside0.mk (Kd.S_lower ho0 (below_size (by repeat (first | (with_reducible first | exact HB.out | apply below_alloc | apply pw_below_drewN | apply below_drew1) | exact HB.out)))); have n1_ := Aside0.mk (below_step (by repeat (first | (with_reducible first | exact HB.out | apply below_alloc | apply pw_below_drewN | apply below_drew1) | exact HB.out)) hb); clear HB; have HO224 := n0_; have HB := n1_; clear n0_ n1_; (try clear hb); (try clear hb2); (try clear hk); (try clear hi); (try clear ho0); obtain ⟨Ao16, co16, eo16⟩ := Kd.S_slice HO224.out; subst eo16) | (go_at_call 9; (with_reducible refine (table_Play.calls _ _ t222 200 (wrap64 (a1)) _ _ l3 t225 t226 t227 t228 _ ?side1 ?side2 ?side3 ?side4 A12.out).mono ?_); (case side1 => repeat (first | exact (Kd.S_reads' HO224.out).2.2 | (with_reducible refine Kd.C_alloc ?_ _) | (with_reducible refine Kd.C_drewN ?_ _) | (with_reducible refine Kd.C_drew ?_))); (case side2 => exact (Kd.S_reads' HO224.out).2.1); (case side3 => repeat (first | exact (Kd.C_below HR3.out HB.out) | (with_reducible refine Kd.C_alloc ?_ _) | (with_reducible refine Kd.C_drewN ?_ _) | (with_reducible refine Kd.C_drew ?_))); (case side4 => exact HC3.out); rintro e w17 ⟨v229, v231, rfl, ho0, ho1, hb⟩; have n0_ := Aside0.mk (Kd.S_elder' (by (with_reducible repeat (first | apply Kd.S_alloc | apply Kd.S_drewN | apply Kd.S_drew)); exact HO224.out) (Kd.R_base ho1) hb); have n1_ := Aside0.mk (Kd.S_lower ho0 (below_size (by repeat (first | (with_reducible first | exact HB.out | apply below_alloc | apply pw_below_drewN | apply below_drew1) | exact HB.out)))); have n2_ := Aside0.mk (Kd.R_lower ho1 (below_size (by repeat (first | (with_reducible first | exact HB.out | apply below_alloc | apply pw_below_drewN | apply below_drew1) | exact HB.out)))); have n3_ := Aside0.mk (below_step (by repeat (first | (with_reducible first | exact HB.out | apply below_alloc | apply pw_below_drewN | apply below_drew1) | exact HB.out)) hb); clear HO224; clear HB; have HO224 := n0_; have HO230 := n1_; have HO232 := n2_; have HB := n3_; clear n0_ n1_ n2_ n3_; (try clear hb); (try clear hb2); (try clear hk); (try clear hi); (try clear ho0); (try clear ho1)) | (go_at_call 9; (with_reducible refine (table_Play.calls _ _ t222 200 (wrap64 (a2)) _ _ l4 t233 t234 t235 t236 _ ?side1 ?side2 ?side3 ?side4 A13.out).mono ?_); (case side1 => repeat (first | exact (Kd.S_reads' HO224.out).2.2 | (with_reducible refine Kd.C_alloc ?_ _) | (with_reducible refine Kd.C_drewN ?_ _) | (with_reducible refine Kd.C_drew ?_))); (case side2 => exact (Kd.S_reads' HO224.out).2.1); (case side3 => repeat (first | exact (Kd.C_below HR4.out HB.out) | (with_reducible refine Kd.C_alloc ?_ _) | (with_reducible refine Kd.C_drewN ?_ _) | (with_reducible refine Kd.C_drew ?_))); (case side4 => exact HC4.out); rintro e w18 ⟨v237, v239, rfl, ho0, ho1, hb⟩; have n0_ := Aside0.mk (Kd.S_elder' (by (with_reducible repeat (first | apply Kd.S_alloc | apply Kd.S_drewN | apply Kd.S_drew)); exact HO224.out) (Kd.R_base ho1) hb); have n1_ := Aside0.mk (Kd.S_elder' (by (with_reducible repeat (first | apply Kd.S_alloc | apply Kd.S_drewN | apply Kd.S_drew)); exact HO230.out) (Kd.S_base ho0) hb); have n2_ := Aside0.mk (Kd.R_elder' (by (with_reducible repeat (first | apply Kd.R_alloc | apply Kd.R_drewN | apply Kd.R_drew)); exact HO232.out) (Kd.R_base ho1) hb); have n3_ := Aside0.mk (Kd.S_lower (Kd.S_new' ho0 (Kd.S_lt (by (with_reducible repeat (first | apply Kd.S_alloc | apply Kd.S_drewN | apply Kd.S_drew)); exact HO230.out))) (below_size (by repeat (first | (with_reducible first | exact HB.out | apply below_alloc | apply pw_below_drewN | apply below_drew1) | exact HB.out)))); have n4_ := Aside0.mk (Kd.R_lower (Kd.R_new' ho1 (Kd.R_lt (by (with_reducible repeat (first | apply Kd.R_alloc | apply Kd.R_drewN | apply Kd.R_drew)); exact HO232.out))) (below_size (by repeat (first | (with_reducible first | exact HB.out | apply below_alloc | apply pw_below_drewN | apply below_drew1) | exact HB.out)))); have n5_ := Aside0.mk (below_step (by repeat (first | (with_reducible first | exact HB.out | apply below_alloc | apply pw_below_drewN | apply below_drew1) | exact HB.out)) hb); clear HO224; clear HO230; clear HO232; clear HB; have HO224 := n0_; have HO230 := n1_; have HO232 := n2_; have HO238 := n3_; have HO240 := n4_; have HB := n5_; clear n0_ n1_ n2_ n3_ n4_ n5_; (try clear hb); (try clear hb2); (try clear hk); (try clear hi); (try clear ho0); (try clear ho1))); go_upto_region 6 with (first | (go_at_call 13; (with_reducible refine (warplaw8_Keys.calls kj5 _ _ l0 t222 _ ?side1 ?side2 A11.out).mono ?_); (case side1 => repeat (first | exact (Kd.C_below HR0.out HB.out) | (with_reducible refine Kd.C_alloc ?_ _) | (with_reducible refine Kd.C_drewN ?_ _) | (with_reducible refine Kd.C_drew ?_))); (case side2 => exact HC0.out); rintro e w15 ⟨v223, rfl, ho0, hb⟩; have n0_ := Aside0.mk (Kd.S_lower ho0 (below_size (by repeat (first | (with_reducible first | exact HB.out | apply below_alloc | apply pw_below_drewN | apply below_drew1) | exact HB.out)))); have n1_ := Aside0.mk (below_step (by repeat (first | (with_reducible first | exact HB.out | apply below_alloc | apply pw_below_drewN | apply below_drew1) | exact HB.out)) hb); clear HB; have HO224 := n0_; have HB := n1_; clear n0_ n1_; (try clear hb); (try clear hb2); (try clear hk); (try clear hi); (try clear ho0); obtain ⟨Ao16, co16, eo16⟩ := Kd.S_slice HO224.out; subst eo16) | (go_at_call 9; (with_reducible refine (table_Play.calls _ _ t222 200 (wrap64 (a1)) _ _ l3 t225 t226 t227 t228 _ ?side1 ?side2 ?side3 ?side4 A12.out).mono ?_); (case side1 => repeat (first | exact (Kd.S_reads' HO224.out).2.2 | (with_reducible refine Kd.C_alloc ?_ _) | (with_reducible refine Kd.C_drewN ?_ _) | (with_reducible refine Kd.C_drew ?_))); (case side2 => exact (Kd.S_reads' HO224.out).2.1); (case side3 => repeat (first | exact (Kd.C_below HR3.out HB.out) | (with_reducible refine Kd.C_alloc ?_ _) | (with_reducible refine Kd.C_drewN ?_ _) | (with_reducible refine Kd.C_drew ?_))); (case side4 => exact HC3.out); rintro e w17 ⟨v229, v231, rfl, ho0, ho1, hb⟩; have n0_ := Aside0.mk (Kd.S_elder' (by (with_reducible repeat (first | apply Kd.S_alloc | apply Kd.S_drewN | apply Kd.S_drew)); exact HO224.out) (Kd.R_base ho1) hb); have n1_ := Aside0.mk (Kd.S_lower ho0 (below_size (by repeat (first | (with_reducible first | exact HB.out | apply below_alloc | apply pw_below_drewN | apply below_drew1) | exact HB.out)))); have n2_ := Aside0.mk (Kd.R_lower ho1 (below_size (by repeat (first | (with_reducible first | exact HB.out | apply below_alloc | apply pw_below_drewN | apply below_drew1) | exact HB.out)))); have n3_ := Aside0.mk (below_step (by repeat (first | (with_reducible first | exact HB.out | apply below_alloc | apply pw_below_drewN | apply below_drew1) | exact HB.out)) hb); clear HO224; clear HB; have HO224 := n0_; have HO230 := n1_; have HO232 := n2_; have HB := n3_; clear n0_ n1_ n2_ n3_; (try clear hb); (try clear hb2); (try clear hk); (try clear hi); (try clear ho0); (try clear ho1)) | (go_at_call 9; (with_reducible refine (table_Play.calls _ _ t222 200 (wrap64 (a2)) _ _ l4 t233 t234 t235 t236 _ ?side1 ?side2 ?side3 ?side4 A13.out).mono ?_); (case side1 => repeat (first | exact (Kd.S_reads' HO224.out).2.2 | (with_reducible refine Kd.C_alloc ?_ _) | (with_reducible refine Kd.C_drewN ?_ _) | (with_reducible refine Kd.C_drew ?_))); (case side2 => exact (Kd.S_reads' HO224.out).2.1); (case side3 => repeat (first | exact (Kd.C_below HR4.out HB.out) | (with_reducible refine Kd.C_alloc ?_ _) | (with_reducible refine Kd.C_drewN ?_ _) | (with_reducible refine Kd.C_drew ?_))); (case side4 => exact HC4.out); rintro e w18 ⟨v237, v239, rfl, ho0, ho1, hb⟩; have n0_ := Aside0.mk (Kd.S_elder' (by (with_reducible repeat (first | apply Kd.S_alloc | apply Kd.S_drewN | apply Kd.S_drew)); exact HO224.out) (Kd.R_base ho1) hb); have n1_ := Aside0.mk (Kd.S_elder' (by (with_reducible repeat (first | apply Kd.S_alloc | apply Kd.S_drewN | apply Kd.S_drew)); exact HO230.out) (Kd.S_base ho0) hb); have n2_ := Aside0.mk (Kd.R_elder' (by (with_reducible repeat (first | apply Kd.R_alloc | apply Kd.R_drewN | apply Kd.R_drew)); exact HO232.out) (Kd.R_base ho1) hb); have n3_ := Aside0.mk (Kd.S_lower (Kd.S_new' ho0 (Kd.S_lt (by (with_reducible repeat (first | apply Kd.S_alloc | apply Kd.S_drewN | apply Kd.S_drew)); exact HO230.out))) (below_size (by repeat (first | (with_reducible first | exact HB.out | apply below_alloc | apply pw_below_drewN | apply below_drew1) | exact HB.out)))); have n4_ := Aside0.mk (Kd.R_lower (Kd.R_new' ho1 (Kd.R_lt (by (with_reducible repeat (first | apply Kd.R_alloc | apply Kd.R_drewN | apply Kd.R_drew)); exact HO232.out))) (below_size (by repeat (first | (with_reducible first | exact HB.out | apply below_alloc | apply pw_below_drewN | apply below_drew1) | exact HB.out)))); have n5_ := Aside0.mk (below_step (by repeat (first | (with_reducible first | exact HB.out | apply below_alloc | apply pw_below_drewN | apply below_drew1) | exact HB.out)) hb); clear HO224; clear HO230; clear HO232; clear HB; have HO224 := n0_; have HO230 := n1_; have HO232 := n2_; have HO238 := n3_; have HO240 := n4_; have HB := n5_; clear n0_ n1_ n2_ n3_ n4_ n5_; (try clear hb); (try clear hb2); (try clear hk); (try clear hi); (try clear ho0); (try clear ho1))))
    (try simp only [Act.put, List.setIfInBounds_toArray, List.set_cons_zero, List.set_cons_succ])
    go_cut [76] (fun v76 wc => ∃ (kq : Nat) (x76_13 : Bool), v76 = .bool x76_13 ∧ Aside0 (warplaw8_TableAgain.j1 kq t226 t234 x76_13 = some r) ∧ Aside0 (kq ≤ kj5) ∧ Aside0 (Kd.R k26 26 wc w.heap.size (fun k_ => some k_ ≠ (v239 : Value).ownBlock) v231 t226) ∧ Aside0 (Kd.R k26 26 wc w.heap.size (fun k_ => some k_ ≠ (v231 : Value).ownBlock) v239 t234) ∧ Aside0 (Below w.heap.size w wc))
    case first =>
     have H := HC14.out
     clear HC14
     by_cases c19 : (t226.length : Int) = (t234.length : Int)
     ·
      rw [if_pos c19] at H
      have c19b0 : ((t226.length : Int) == (t234.length : Int)) = true := beq_iff_eq.mpr c19
      have c19b1 : ((t226.length : Int) != (t234.length : Int)) = false := bne_eq_false_iff_eq.mpr c19
      have c19b2 : (t226.length == t234.length) = true := by first | simpa using c19 | (simp at c19 ⊢; omega)
      clear c19
      (first | rw [c19b0] | (simp only [i64_w, i32_w]; rw [c19b0]) | skip)
      by_cases c20 : t227 = t235
      ·
       rw [if_pos c20] at H
       have c20b0 : (t227 == t235) = true := beq_iff_eq.mpr c20
       have c20b1 : (t227 != t235) = false := bne_eq_false_iff_eq.mpr c20
       clear c20
       by_cases c21 : (wrap64 (t228 + t236)) = 0
       ·
        rw [if_pos c21] at H
        have c21b0 : ((wrap64 (t228 + t236)) == 0) = true := beq_iff_eq.mpr c21
        have c21b1 : ((wrap64 (t228 + t236)) != 0) = false := bne_eq_false_iff_eq.mpr c21
        clear c21
        have H' := Aside0.mk H
        clear H
        obtain ⟨Ao22, co22, eo22⟩ := Kd.R_slice HO232.out
        subst eo22
        obtain ⟨Ao23, co23, eo23⟩ := Kd.R_slice HO240.out
        subst eo23
        obtain ⟨Ao24, co24, eo24⟩ := Kd.S_slice HO230.out
        subst eo24
        obtain ⟨Ao25, co25, eo25⟩ := Kd.S_slice HO238.out
        subst eo25
        go_wp2
        repeat (go_quiet (fail); try go_wp2)
        go_meet
        case rel => exact ⟨_, (((t225.length : Int) != (t233.length : Int))), (by first | rfl | (simp; done) | (simp [*]; done)), H', ⟨by have := HJ5.out; first | omega | exact Nat.le_refl _⟩, ⟨by (with_reducible repeat (first | apply Kd.R_alloc | apply Kd.R_drewN | apply Kd.R_drew)); exact Kd.R_mono HO232.out (fun _ hk => hk.2)⟩, ⟨by (with_reducible repeat (first | apply Kd.R_alloc | apply Kd.R_drewN | apply Kd.R_drew)); exact Kd.R_mono HO240.out (fun _ hk => hk.2)⟩, ⟨by repeat (first | (with_reducible first | exact HB.out | apply below_alloc | apply pw_below_drewN | apply below_drew1) | exact HB.out)⟩⟩
       ·
        rw [if_neg c21] at H
        have c21b0 : ((wrap64 (t228 + t236)) == 0) = false := beq_eq_false_iff_ne.mpr c21
        have c21b1 : ((wrap64 (t228 + t236)) != 0) = true := bne_iff_ne.mpr c21
        have H' := Aside0.mk H
        clear H
        obtain ⟨Ao26, co26, eo26⟩ := Kd.R_slice HO232.out
        subst eo26
        obtain ⟨Ao27, co27, eo27⟩ := Kd.R_slice HO240.out
        subst eo27
        go_wp2
        repeat (go_quiet (fail); try go_wp2)
        go_meet
        case rel => exact ⟨_, (true), (by first | rfl | (simp; done) | (simp [*]; done)), H', ⟨by have := HJ5.out; first | omega | exact Nat.le_refl _⟩, ⟨by (with_reducible repeat (first | apply Kd.R_alloc | apply Kd.R_drewN | apply Kd.R_drew)); exact Kd.R_mono HO232.out (fun _ hk => hk.2)⟩, ⟨by (with_reducible repeat (first | apply Kd.R_alloc | apply Kd.R_drewN | apply Kd.R_drew)); exact Kd.R_mono HO240.out (fun _ hk => hk.2)⟩, ⟨by repeat (first | (with_reducible first | exact HB.out | apply below_alloc | apply pw_below_drewN | apply below_drew1) | exact HB.out)⟩⟩
      ·
       rw [if_neg c20] at H
       have c20b0 : (t227 == t235) = false := beq_eq_false_iff_ne.mpr c20
       have c20b1 : (t227 != t235) = true := bne_iff_ne.mpr c20
       have H' := Aside0.mk H
       clear H
       obtain ⟨Ao28, co28, eo28⟩ := Kd.R_slice HO232.out
       subst eo28
       obtain ⟨Ao29, co29, eo29⟩ := Kd.R_slice HO240.out
       subst eo29
       go_wp2
       repeat (go_quiet (fail); try go_wp2)
       go_meet
       case rel => exact ⟨_, (true), (by first | rfl | (simp; done) | (simp [*]; done)), H', ⟨by have := HJ5.out; first | omega | exact Nat.le_refl _⟩, ⟨by (with_reducible repeat (first | apply Kd.R_alloc | apply Kd.R_drewN | apply Kd.R_drew)); exact Kd.R_mono HO232.out (fun _ hk => hk.2)⟩, ⟨by (with_reducible repeat (first | apply Kd.R_alloc | apply Kd.R_drewN | apply Kd.R_drew)); exact Kd.R_mono HO240.out (fun _ hk => hk.2)⟩, ⟨by repeat (first | (with_reducible first | exact HB.out | apply below_alloc | apply pw_below_drewN | apply below_drew1) | exact HB.out)⟩⟩
     ·
      rw [if_neg c19] at H
      have c19b0 : ((t226.length : Int) == (t234.length : Int)) = false := beq_eq_false_iff_ne.mpr c19
      have c19b1 : ((t226.length : Int) != (t234.length : Int)) = true := bne_iff_ne.mpr c19
      have c19b2 : (t226.length == t234.length) = false := by first | simpa using c19 | (simp at c19 ⊢; omega)
      (first | rw [c19b0] | (simp only [i64_w, i32_w]; rw [c19b0]) | skip)
      have H' := Aside0.mk H
      clear H
      obtain ⟨Ao30, co30, eo30⟩ := Kd.R_slice HO232.out
      subst eo30
      obtain ⟨Ao31, co31, eo31⟩ := Kd.R_slice HO240.out
      subst eo31
      go_wp2
      repeat (go_quiet (fail); try go_wp2)
      go_meet
      case rel => exact ⟨_, (true), (by first | rfl | (simp; done) | (simp [*]; done)), H', ⟨by have := HJ5.out; first | omega | exact Nat.le_refl _⟩, ⟨by (with_reducible repeat (first | apply Kd.R_alloc | apply Kd.R_drewN | apply Kd.R_drew)); exact Kd.R_mono HO232.out (fun _ hk => hk.2)⟩, ⟨by (with_reducible repeat (first | apply Kd.R_alloc | apply Kd.R_drewN | apply Kd.R_drew)); exact Kd.R_mono HO240.out (fun _ hk => hk.2)⟩, ⟨by repeat (first | (with_reducible first | exact HB.out | apply below_alloc | apply pw_below_drewN | apply below_drew1) | exact HB.out)⟩⟩
    case rest =>
     clear HC14
     (try clear c1); (try clear c2); (try clear p2); (try clear c3); (try clear c4); (try clear c6); (try clear p6); (try clear c7); (try clear c7b0); (try clear c7b1); (try clear c8); (try clear c19); (try clear c19b0); (try clear c19b1); (try clear c19b2); (try clear c20); (try clear c20b0); (try clear c20b1); (try clear c21); (try clear c21b0); (try clear c21b1); (try clear p2)
     obtain ⟨kq, x76_13, rfl, HA, HJ13, HO_13, HO_17, HB⟩ := hcut
     cases kq with
     | zero => exact absurd HA.out (by simp [warplaw8_TableAgain.j1])
     | succ kj13 =>
      have H := HA.out
      clear HA
      simp only [warplaw8_TableAgain.j1] at H
      by_cases c32 : x76_13 = true
      ·
       subst c32
       have H1 : (some false) = some r := by rw [if_pos rfl] at H; exact H
       clear H
       have H := H1
       clear H1
       exact absurd (hr_.symm.trans (Option.some.inj H).symm) (by decide)
      ·
       replace c32 := Bool.eq_false_iff.mpr c32
       subst c32
       have H1 : (warplaw8_TableAgain.l0 kj13 t226 t234 0) = some r := by rw [if_neg (show ¬ (false = true) by decide)] at H; exact H
       clear H
       have H := H1
       clear H1
       have H' := Aside0.mk H
       clear H
       go_wp2
       repeat (go_quiet (fail); try go_wp2)
       go_loopg [20] kj13 (fun kq v20 w' => ∃ (x20_3 : Int), v20 = .int .i64 x20_3 ∧ Aside0 (warplaw8_TableAgain.l0 kq t226 t234 x20_3 = some r) ∧ Aside0 (kq ≤ kj13) ∧ Aside0 (Kd.R k26 26 w' w.heap.size (fun k_ => some k_ ≠ (v239 : Value).ownBlock) v231 t226) ∧ Aside0 (Kd.R k26 26 w' w.heap.size (fun k_ => some k_ ≠ (v231 : Value).ownBlock) v239 t234) ∧ Aside0 (Below w.heap.size w w'))
       case atStart => exact ⟨(0), (by first | rfl | (simp; done) | (simp [*]; done)), H', ⟨Nat.le_refl _⟩, ⟨by (with_reducible repeat (first | apply Kd.R_alloc | apply Kd.R_drewN | apply Kd.R_drew)); exact HO_13.out⟩, ⟨by (with_reducible repeat (first | apply Kd.R_alloc | apply Kd.R_drewN | apply Kd.R_drew)); exact HO_17.out⟩, ⟨by repeat (first | (with_reducible first | exact HB.out | apply below_alloc | apply pw_below_drewN | apply below_drew1) | exact HB.out)⟩⟩
       case round =>
        clear H'
        (try clear c1); (try clear c2); (try clear p2); (try clear c3); (try clear c4); (try clear c6); (try clear p6); (try clear c7); (try clear c7b0); (try clear c7b1); (try clear c8); (try clear c19); (try clear c19b0); (try clear c19b1); (try clear c19b2); (try clear c20); (try clear c20b0); (try clear c20b1); (try clear c21); (try clear c21b0); (try clear c21b1); (try clear c32); (try clear p2); (try clear p6)
        obtain ⟨x20_3, rfl, HA, HK3, HO_13, HO_17, HB⟩ := hrel
        cases gk with
        | zero => exact absurd HA.out (by simp [warplaw8_TableAgain.l0])
        | succ k3 =>
         have H := HA.out
         clear HA
         simp only [warplaw8_TableAgain.l0] at H
         by_cases c33 : x20_3 < (t226.length : Int)
         ·
          rw [if_pos c33] at H
          have c33b0 : decide (x20_3 < (t226.length : Int)) = true := decide_eq_true c33
          clear c33
          have H' := Aside0.mk H
          clear H
          obtain ⟨Ao34, co34, eo34⟩ := Kd.R_slice HO_13.out
          subst eo34
          go_wp2
          repeat (go_quiet (fail); try go_wp2)
          go_loopg [21, 22] k3 (fun kq v21 v22 w' => ∃ (x21_4 : Bool) (x22_4 : Int), v21 = .bool x21_4 ∧ v22 = .int .i64 x22_4 ∧ Aside0 (warplaw8_TableAgain.l1 kq t226 t234 x20_3 x21_4 x22_4 = some r) ∧ Aside0 (kq ≤ k3) ∧ Aside0 (Kd.R k26 26 w' w.heap.size (fun k_ => some k_ ≠ (v239 : Value).ownBlock) (.slice Ao34 t226.length co34) t226) ∧ Aside0 (Kd.R k26 26 w' w.heap.size (fun k_ => some k_ ≠ ((.slice Ao34 t226.length co34) : Value).ownBlock) v239 t234) ∧ Aside0 (Below w.heap.size w w'))
          case atStart => exact ⟨(false), (0), (by first | rfl | (simp; done) | (simp [*]; done)), (by first | rfl | (simp; done) | (simp [*]; done)), H', ⟨Nat.le_refl _⟩, ⟨by (with_reducible repeat (first | apply Kd.R_alloc | apply Kd.R_drewN | apply Kd.R_drew)); exact HO_13.out⟩, ⟨by (with_reducible repeat (first | apply Kd.R_alloc | apply Kd.R_drewN | apply Kd.R_drew)); exact HO_17.out⟩, ⟨by repeat (first | (with_reducible first | exact HB.out | apply below_alloc | apply pw_below_drewN | apply below_drew1) | exact HB.out)⟩⟩
          case round =>
           clear H'
           (try clear c1); (try clear c2); (try clear p2); (try clear c3); (try clear c4); (try clear c6); (try clear p6); (try clear c7); (try clear c7b0); (try clear c7b1); (try clear c8); (try clear c19); (try clear c19b0); (try clear c19b1); (try clear c19b2); (try clear c20); (try clear c20b0); (try clear c20b1); (try clear c21); (try clear c21b0); (try clear c21b1); (try clear c32); (try clear c33); (try clear c33b0); (try clear p2); (try clear p6)
           obtain ⟨x21_4, x22_4, rfl, rfl, HA, HK4, HO_13, HO_17, HB⟩ := hrel
           cases gk with
           | zero => exact absurd HA.out (by simp [warplaw8_TableAgain.l1])
           | succ k4 =>
            have H := HA.out
            clear HA
            simp only [warplaw8_TableAgain.l1] at H
            by_cases c35 : x22_4 < (t234.length : Int)
            ·
             rw [if_pos c35] at H
             have c35b0 : decide (x22_4 < (t234.length : Int)) = true := decide_eq_true c35
             clear c35
             by_cases c36 : x21_4 = true
             ·
              subst c36
              have H1 : (warplaw8_TableAgain.l1 k4 t226 t234 x20_3 true (wrap64 (x22_4 + 1))) = some r := by rw [if_pos rfl] at H; exact H
              clear H
              have H := H1
              clear H1
              have H' := Aside0.mk H
              clear H
              obtain ⟨Ao37, co37, eo37⟩ := Kd.R_slice HO_17.out
              subst eo37
              go_wp2
              repeat (go_quiet (fail); try go_wp2)
              go_roundg k4
              case measure => have := HJ5.out; have := HJ13.out; have := HK3.out; have := HK4.out; omega
              case rel => exact ⟨(true), (wrap64 (x22_4 + 1)), (by first | rfl | (simp; done) | (simp [*]; done)), (by first | rfl | (simp; done) | (simp [*]; done)), H', ⟨by have := HJ5.out; have := HJ13.out; have := HK3.out; have := HK4.out; omega⟩, ⟨by (with_reducible repeat (first | apply Kd.R_alloc | apply Kd.R_drewN | apply Kd.R_drew)); exact HO_13.out⟩, ⟨by (with_reducible repeat (first | apply Kd.R_alloc | apply Kd.R_drewN | apply Kd.R_drew)); exact HO_17.out⟩, ⟨by repeat (first | (with_reducible first | exact HB.out | apply below_alloc | apply pw_below_drewN | apply below_drew1) | exact HB.out)⟩⟩
             ·
              replace c36 := Bool.eq_false_iff.mpr c36
              subst c36
              have H1 : (if 0 ≤ x20_3 then (if x20_3 < (t226.length : Int) then (if 0 ≤ x22_4 then (warplaw8_TableAgain.l1 k4 t226 t234 x20_3 ((((rd_T26 t226 x20_3).f0).toList) == (((rd_T26 t234 x22_4).f0).toList) && (((rd_T26 t226 x20_3).f1) == ((rd_T26 t234 x22_4).f1) && (((rd_T26 t226 x20_3).f2) == ((rd_T26 t234 x22_4).f2)))) (wrap64 (x22_4 + 1))) else (none)) else (none)) else (none)) = some r := by rw [if_neg (show ¬ (false = true) by decide)] at H; exact H
              clear H
              have H := H1
              clear H1
              by_cases c38 : 0 ≤ x20_3
              ·
               rw [if_pos c38] at H
               have c38b0 : decide (0 ≤ x20_3) = true := decide_eq_true c38
               clear c38
               by_cases c39 : x20_3 < (t226.length : Int)
               ·
                rw [if_pos c39] at H
                have c39b0 : decide (x20_3 < (t226.length : Int)) = true := decide_eq_true c39
                clear c39
                by_cases c40 : 0 ≤ x22_4
                ·
                 rw [if_pos c40] at H
                 have c40b0 : decide (0 ≤ x22_4) = true := decide_eq_true c40
                 clear c40
                 have H' := Aside0.mk H
                 clear H
                 obtain ⟨Ao41, co41, eo41⟩ := Kd.R_slice HO_17.out
                 subst eo41
                 have p241 : 0 ≤ (x20_3 : Int) := of_decide_eq_true (by first | (with_reducible assumption) | assumption)
                 have q241 : x20_3 < (t226.length : Int) := of_decide_eq_true (by first | (with_reducible assumption) | assumption)
                 obtain ⟨ad241, e241, hx241_0, hx241_1, hx241_2⟩ := at_T26 (Kd.R_reads' HO_13.out).2.2 x20_3 p241 q241
                 cases e241
                 replace p241 := eq_true p241
                 replace q241 := eq_true q241
                 have p242 : 0 ≤ (x22_4 : Int) := of_decide_eq_true (by first | (with_reducible assumption) | assumption)
                 have q242 : x22_4 < (t234.length : Int) := of_decide_eq_true (by first | (with_reducible assumption) | assumption)
                 obtain ⟨ad242, e242, hx242_0, hx242_1, hx242_2⟩ := at_T26 (Kd.R_reads' HO_17.out).2.2 x22_4 p242 q242
                 cases e242
                 replace p242 := eq_true p242
                 replace q242 := eq_true q242
                 go_wp2
                 repeat (go_quiet (fail); try go_wp2)
                 go_roundg k4
                 case measure => have := HJ5.out; have := HJ13.out; have := HK3.out; have := HK4.out; omega
                 case rel => exact ⟨(((((rd_T26 t226 x20_3).f0).toList) == (((rd_T26 t234 x22_4).f0).toList) && (((rd_T26 t226 x20_3).f1) == ((rd_T26 t234 x22_4).f1) && (((rd_T26 t226 x20_3).f2) == ((rd_T26 t234 x22_4).f2))))), (wrap64 (x22_4 + 1)), (by first | rfl | (simp; done) | (simp [*]; done)), (by first | rfl | (simp; done) | (simp [*]; done)), H', ⟨by have := HJ5.out; have := HJ13.out; have := HK3.out; have := HK4.out; omega⟩, ⟨by (with_reducible repeat (first | apply Kd.R_alloc | apply Kd.R_drewN | apply Kd.R_drew)); exact HO_13.out⟩, ⟨by (with_reducible repeat (first | apply Kd.R_alloc | apply Kd.R_drewN | apply Kd.R_drew)); exact HO_17.out⟩, ⟨by repeat (first | (with_reducible first | exact HB.out | apply below_alloc | apply pw_below_drewN | apply below_drew1) | exact HB.out)⟩⟩
                ·
                 rw [if_neg c40] at H
                 exact absurd H (by simp)
               ·
                rw [if_neg c39] at H
                exact absurd H (by simp)
              ·
               rw [if_neg c38] at H
               exact absurd H (by simp)
            ·
             rw [if_neg c35] at H
             have c35b0 : decide (x22_4 < (t234.length : Int)) = false := decide_eq_false c35
             clear c35
             by_cases c42 : x21_4 = true
             ·
              subst c42
              have H1 : (warplaw8_TableAgain.l0 k4 t226 t234 (wrap64 (x20_3 + 1))) = some r := by rw [if_pos rfl] at H; exact H
              clear H
              have H := H1
              clear H1
              have H' := Aside0.mk H
              clear H
              obtain ⟨Ao43, co43, eo43⟩ := Kd.R_slice HO_17.out
              subst eo43
              go_wp2
              repeat (go_quiet (fail); try go_wp2)
              go_roundg k4
              case measure => have := HJ5.out; have := HJ13.out; have := HK3.out; have := HK4.out; omega
              case rel => exact ⟨(wrap64 (x20_3 + 1)), (by first | rfl | (simp; done) | (simp [*]; done)), H', ⟨by have := HJ5.out; have := HJ13.out; have := HK3.out; have := HK4.out; omega⟩, ⟨by (with_reducible repeat (first | apply Kd.R_alloc | apply Kd.R_drewN | apply Kd.R_drew)); exact HO_13.out⟩, ⟨by (with_reducible repeat (first | apply Kd.R_alloc | apply Kd.R_drewN | apply Kd.R_drew)); exact HO_17.out⟩, ⟨by repeat (first | (with_reducible first | exact HB.out | apply below_alloc | apply pw_below_drewN | apply below_drew1) | exact HB.out)⟩⟩
             ·
              replace c42 := Bool.eq_false_iff.mpr c42
              subst c42
              have H1 : (some false) = some r := by rw [if_neg (show ¬ (false = true) by decide)] at H; exact H
              clear H
              have H := H1
              clear H1
              exact absurd (hr_.symm.trans (Option.some.inj H).symm) (by decide)
         ·
          rw [if_neg c33] at H
          have c33b0 : decide (x20_3 < (t226.length : Int)) = false := decide_eq_false c33
          clear c33
          replace H := Option.bind_eq_some_iff.mp H
          obtain ⟨t243, A450, H⟩ := H
          replace H : (some t243) = some r := H
          have A45 := Aside0.mk A450
          clear A450
          obtain rfl := Option.some.inj H
          obtain ⟨Ao46, co46, eo46⟩ := Kd.R_slice HO_13.out
          subst eo46
          go_wp2_with (first | (go_at_call 8; (with_reducible refine (warplaw8_awake.calls k3  t243 _ A45.out).mono ?_); rintro e w47 ⟨rfl, hb⟩; have n0_ := Aside0.mk (Kd.R_below (by (with_reducible repeat (first | apply Kd.R_alloc | apply Kd.R_drewN | apply Kd.R_drew)); exact HO_13.out) hb); have n1_ := Aside0.mk (Kd.R_below (by (with_reducible repeat (first | apply Kd.R_alloc | apply Kd.R_drewN | apply Kd.R_drew)); exact HO_17.out) hb); have n2_ := Aside0.mk (below_step (by repeat (first | (with_reducible first | exact HB.out | apply below_alloc | apply pw_below_drewN | apply below_drew1) | exact HB.out)) hb); clear HO_13; clear HO_17; clear HB; have HO_13 := n0_; have HO_17 := n1_; have HB := n2_; clear n0_ n1_ n2_; (try clear hb); (try clear hb2); (try clear hk); (try clear hi)))
          repeat (go_quiet (first | (go_at_call 8; (with_reducible refine (warplaw8_awake.calls k3  t243 _ A45.out).mono ?_); rintro e w47 ⟨rfl, hb⟩; have n0_ := Aside0.mk (Kd.R_below (by (with_reducible repeat (first | apply Kd.R_alloc | apply Kd.R_drewN | apply Kd.R_drew)); exact HO_13.out) hb); have n1_ := Aside0.mk (Kd.R_below (by (with_reducible repeat (first | apply Kd.R_alloc | apply Kd.R_drewN | apply Kd.R_drew)); exact HO_17.out) hb); have n2_ := Aside0.mk (below_step (by repeat (first | (with_reducible first | exact HB.out | apply below_alloc | apply pw_below_drewN | apply below_drew1) | exact HB.out)) hb); clear HO_13; clear HO_17; clear HB; have HO_13 := n0_; have HO_17 := n1_; have HB := n2_; clear n0_ n1_ n2_; (try clear hb); (try clear hb2); (try clear hk); (try clear hi))); try go_wp2_with (first | (go_at_call 8; (with_reducible refine (warplaw8_awake.calls k3  t243 _ A45.out).mono ?_); rintro e w47 ⟨rfl, hb⟩; have n0_ := Aside0.mk (Kd.R_below (by (with_reducible repeat (first | apply Kd.R_alloc | apply Kd.R_drewN | apply Kd.R_drew)); exact HO_13.out) hb); have n1_ := Aside0.mk (Kd.R_below (by (with_reducible repeat (first | apply Kd.R_alloc | apply Kd.R_drewN | apply Kd.R_drew)); exact HO_17.out) hb); have n2_ := Aside0.mk (below_step (by repeat (first | (with_reducible first | exact HB.out | apply below_alloc | apply pw_below_drewN | apply below_drew1) | exact HB.out)) hb); clear HO_13; clear HO_17; clear HB; have HO_13 := n0_; have HO_17 := n1_; have HB := n2_; clear n0_ n1_ n2_; (try clear hb); (try clear hb2); (try clear hk); (try clear hi))))
          go_ret
          exact ⟨by first | rfl | (simp [errW_none, errW_some] <;> rfl) | (simp [*, errW_none, errW_some] <;> rfl), by repeat (first | (with_reducible first | exact HB.out | apply below_alloc | apply pw_below_drewN | apply below_drew1) | exact HB.out)⟩

/-- The one plain statement of warplaw8_TableAgain. -/
def warplaw8_TableAgain.Pure : Prop := ∀ (l0 : List (List Int)) (a1 : Int) (a2 : Int) (l3 : List Int) (l4 : List Int), ((fun l : List (List Int) => l.length ≤ maxLen ∧ ∀ x ∈ l, (fun l : List Int => l.length ≤ maxLen ∧ ∀ x ∈ l, (fun n : Int => (Lit.int .u8 n).wf = true) x) x) l0) → ((fun n : Int => (Lit.int .u8 n).wf = true) a1) → ((fun n : Int => (Lit.int .u8 n).wf = true) a2) → ((fun l : List Int => l.length ≤ maxLen ∧ ∀ x ∈ l, (fun n : Int => (Lit.int .i64 n).wf = true) x) l3) → ((fun l : List Int => l.length ≤ maxLen ∧ ∀ x ∈ l, (fun n : Int => (Lit.int .i64 n).wf = true) x) l4) → ∃ k, warplaw8_TableAgain.f k l0 a1 a2 l3 l4 = some true

end Go.Proofs.YtmgfkdnoclmbgaaDoor.P
