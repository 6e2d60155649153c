/-
The plain Lean functions of Go functions of this seat, and proofs that the calls of the machine come to them; no condition beside those named in each theorem.
-/
import Derived.Test.YtbkdnenlffiaeaaDoorPx0
import Derived.Test.YtbkdnenlffiaeaaDoorPx10
import Derived.Test.YtbkdnenlffiaeaaDoorPx14
import Derived.Test.YtbkdnenlffiaeaaDoorPx5
import Derived.Test.YtbkdnenlffiaeaaDoorStubB
namespace Go.Proofs.YtbkdnenlffiaeaaDoor.P
open Go.RowKit Go.Proofs.YtbkdnenlffiaeaaDoorW.PrintWords Go.Proofs.YtbkdnenlffiaeaaDoorW.PrintLast Go.Proofs.YtbkdnenlffiaeaaDoorW.PrintMore
attribute [local go_sem] max2_int min2_int max_two min_two max_three min_three max_four min_four   -- for this text's walks alone
set_option linter.unusedVariables false
set_option linter.unusedSimpArgs false

/-! ### warplaw24_PoolOne: function 11 -/
mutual
def warplaw24_PoolOne.l0 : Nat → List Int → List (S54) → Int → Option (Bool)
 | 0, _, _, _ => none
 | k + 1, x1, x6, x8 => if x8 < (x6.length : Int) then (if 0 ≤ x8 then (if ((rd_T54 x6 x8).f1.f1) = x8 then (if ((rd_T54 x6 x8).f3) = (wrap64 ((wrap64 (2 * x8)) + 1)) then (warplaw24_PoolOne.j1 k x1 x6 x8 (((rd_T54 x6 x8).f5) != (wrap64 ((wrap64 (2 * x8)) + 2)))) else (warplaw24_PoolOne.j1 k x1 x6 x8 true)) else (warplaw24_PoolOne.j1 k x1 x6 x8 true)) else (none)) else ((pool_Play.f (([(([5, 6, 7, 8] : List Int))] : List (List Int))) 4 ([] : List Int)).bind fun bt502 => ((pool_Play.f (([[], (([1] : List Int)), [], (([2] : List Int)), []] : List (List Int))) 3 x1).bind fun bt515 => (if (bt502.1.length : Int) = 4 then (if bt502.2 = 8 then (if (bt515.1.length : Int) = 2 then (warplaw24_PoolOne.j2 k bt502.1 bt515.1 (bt515.2 != 4)) else (warplaw24_PoolOne.j2 k bt502.1 bt515.1 true)) else (warplaw24_PoolOne.j2 k bt502.1 bt515.1 true)) else (warplaw24_PoolOne.j2 k bt502.1 bt515.1 true))))
def warplaw24_PoolOne.j1 : Nat → List Int → List (S54) → Int → Bool → Option (Bool)
 | 0, _, _, _, _ => none
 | k + 1, x1, x6, x8, x61 => if x61 = true then (some false) else (warplaw24_PoolOne.l0 k x1 x6 (wrap64 (x8 + 1)))
def warplaw24_PoolOne.j2 : Nat → List (S54) → List (S54) → Bool → Option (Bool)
 | 0, _, _, _ => none
 | k + 1, x9, x11, x91 => if x91 = true then (some false) else (warplaw24_PoolOne.l1 k x9 x11 0)
def warplaw24_PoolOne.l1 : Nat → List (S54) → List (S54) → Int → Option (Bool)
 | 0, _, _, _ => none
 | k + 1, x9, x11, x13 => if x13 < 4 then (if 0 ≤ x13 then (if x13 < (x9.length : Int) then (if ((rd_T54 x9 x13).f3) = (wrap64 (x13 + 1)) then (if ((rd_T54 x9 x13).f5) = (wrap64 (x13 + 5)) then (warplaw24_PoolOne.j4 k x9 x11 x13 (((rd_T54 x9 x13).f1.f1) != (wrap64 (5 + x13)))) else (warplaw24_PoolOne.j4 k x9 x11 x13 true)) else (warplaw24_PoolOne.j4 k x9 x11 x13 true)) else (none)) else (none)) else (if 0 < (x11.length : Int) then (if ((rd_T54 x11 0).f2) = 1 then (if 1 < (x11.length : Int) then (if ((rd_T54 x11 1).f2) = 3 then ((warpref1_Ints.f k ([] : List Int) ([] : List Int)).bind fun t524 => (if t524 = true then ((warplaw24_awake.f).bind fun t525 => (some t525)) else (some false))) else (some false)) else (none)) else (some false)) else (none))
def warplaw24_PoolOne.j4 : Nat → List (S54) → List (S54) → Int → Bool → Option (Bool)
 | 0, _, _, _, _ => none
 | k + 1, x9, x11, x13, x124 => if x124 = true then (some false) else (warplaw24_PoolOne.l1 k x9 x11 (wrap64 (x13 + 1)))
end
def warplaw24_PoolOne.f (k : Nat) (l0 : List Int) (l1 : List Int) : Option (Bool) := if (l1.length : Int) > 200 then ((warplaw24_awake.f).bind fun t485 => (some t485)) else ((warplaw24_Make.f k l0).bind fun t486 => ((pool_Play.f t486 1 l1).bind fun bt489 => (warplaw24_PoolOne.l0 k l1 bt489.1 0)))
theorem warplaw24_PoolOne.mono_l : ∀ k, (∀ y0 y1 y2, LeO (warplaw24_PoolOne.l0 k y0 y1 y2) (warplaw24_PoolOne.l0 (k + 1) y0 y1 y2)) ∧ (∀ y0 y1 y2 y3, LeO (warplaw24_PoolOne.j1 k y0 y1 y2 y3) (warplaw24_PoolOne.j1 (k + 1) y0 y1 y2 y3)) ∧ (∀ y0 y1 y2, LeO (warplaw24_PoolOne.j2 k y0 y1 y2) (warplaw24_PoolOne.j2 (k + 1) y0 y1 y2)) ∧ (∀ y0 y1 y2, LeO (warplaw24_PoolOne.l1 k y0 y1 y2) (warplaw24_PoolOne.l1 (k + 1) y0 y1 y2)) ∧ (∀ y0 y1 y2 y3, LeO (warplaw24_PoolOne.j4 k y0 y1 y2 y3) (warplaw24_PoolOne.j4 (k + 1) y0 y1 y2 y3))
 | 0 => ⟨fun _ _ _ r h => by simp [warplaw24_PoolOne.l0] at h, fun _ _ _ _ r h => by simp [warplaw24_PoolOne.j1] at h, fun _ _ _ r h => by simp [warplaw24_PoolOne.j2] at h, fun _ _ _ r h => by simp [warplaw24_PoolOne.l1] at h, fun _ _ _ _ r h => by simp [warplaw24_PoolOne.j4] at h⟩
 | k + 1 => by
  obtain ⟨ih0, ih1, ih2, ih3, ih4⟩ := warplaw24_PoolOne.mono_l k
  refine ⟨?_, ?_, ?_, ?_, ?_⟩
  ·
   intro y0 y1 y2
   unfold warplaw24_PoolOne.l0
   repeat' first
   | (with_reducible exact ih0 _ _ _)
   | (with_reducible exact ih1 _ _ _ _)
   | (with_reducible exact ih2 _ _ _)
   | (with_reducible exact ih3 _ _ _)
   | (with_reducible exact ih4 _ _ _ _)
   | (with_reducible exact warplaw24_Make.mono _ _)
   | (with_reducible exact warpref1_Ints.mono _ _ _)
   | (with_reducible exact LeO.refl _)
   | (with_reducible exact LeO.none _)
   | (with_reducible refine LeO.ite ?_ ?_)
   | (with_reducible refine LeO.bind ?_ (fun _ => ?_))
   | exact ih0 _ _ _
   | exact ih1 _ _ _ _
   | exact ih2 _ _ _
   | exact ih3 _ _ _
   | exact ih4 _ _ _ _
   | exact warplaw24_Make.mono _ _
   | exact warpref1_Ints.mono _ _ _
   | exact LeO.none _
   | refine LeO.ite ?_ ?_
   | refine LeO.bind ?_ (fun _ => ?_)
  ·
   intro y0 y1 y2 y3
   unfold warplaw24_PoolOne.j1
   repeat' first
   | (with_reducible exact ih0 _ _ _)
   | (with_reducible exact ih1 _ _ _ _)
   | (with_reducible exact ih2 _ _ _)
   | (with_reducible exact ih3 _ _ _)
   | (with_reducible exact ih4 _ _ _ _)
   | (with_reducible exact warplaw24_Make.mono _ _)
   | (with_reducible exact warpref1_Ints.mono _ _ _)
   | (with_reducible exact LeO.refl _)
   | (with_reducible exact LeO.none _)
   | (with_reducible refine LeO.ite ?_ ?_)
   | (with_reducible refine LeO.bind ?_ (fun _ => ?_))
   | exact ih0 _ _ _
   | exact ih1 _ _ _ _
   | exact ih2 _ _ _
   | exact ih3 _ _ _
   | exact ih4 _ _ _ _
   | exact warplaw24_Make.mono _ _
   | exact warpref1_Ints.mono _ _ _
   | exact LeO.none _
   | refine LeO.ite ?_ ?_
   | refine LeO.bind ?_ (fun _ => ?_)
  ·
   intro y0 y1 y2
   unfold warplaw24_PoolOne.j2
   repeat' first
   | (with_reducible exact ih0 _ _ _)
   | (with_reducible exact ih1 _ _ _ _)
   | (with_reducible exact ih2 _ _ _)
   | (with_reducible exact ih3 _ _ _)
   | (with_reducible exact ih4 _ _ _ _)
   | (with_reducible exact warplaw24_Make.mono _ _)
   | (with_reducible exact warpref1_Ints.mono _ _ _)
   | (with_reducible exact LeO.refl _)
   | (with_reducible exact LeO.none _)
   | (with_reducible refine LeO.ite ?_ ?_)
   | (with_reducible refine LeO.bind ?_ (fun _ => ?_))
   | exact ih0 _ _ _
   | exact ih1 _ _ _ _
   | exact ih2 _ _ _
   | exact ih3 _ _ _
   | exact ih4 _ _ _ _
   | exact warplaw24_Make.mono _ _
   | exact warpref1_Ints.mono _ _ _
   | exact LeO.none _
   | refine LeO.ite ?_ ?_
   | refine LeO.bind ?_ (fun _ => ?_)
  ·
   intro y0 y1 y2
   unfold warplaw24_PoolOne.l1
   repeat' first
   | (with_reducible exact ih0 _ _ _)
   | (with_reducible exact ih1 _ _ _ _)
   | (with_reducible exact ih2 _ _ _)
   | (with_reducible exact ih3 _ _ _)
   | (with_reducible exact ih4 _ _ _ _)
   | (with_reducible exact warplaw24_Make.mono _ _)
   | (with_reducible exact warpref1_Ints.mono _ _ _)
   | (with_reducible exact LeO.refl _)
   | (with_reducible exact LeO.none _)
   | (with_reducible refine LeO.ite ?_ ?_)
   | (with_reducible refine LeO.bind ?_ (fun _ => ?_))
   | exact ih0 _ _ _
   | exact ih1 _ _ _ _
   | exact ih2 _ _ _
   | exact ih3 _ _ _
   | exact ih4 _ _ _ _
   | exact warplaw24_Make.mono _ _
   | exact warpref1_Ints.mono _ _ _
   | exact LeO.none _
   | refine LeO.ite ?_ ?_
   | refine LeO.bind ?_ (fun _ => ?_)
  ·
   intro y0 y1 y2 y3
   unfold warplaw24_PoolOne.j4
   repeat' first
   | (with_reducible exact ih0 _ _ _)
   | (with_reducible exact ih1 _ _ _ _)
   | (with_reducible exact ih2 _ _ _)
   | (with_reducible exact ih3 _ _ _)
   | (with_reducible exact ih4 _ _ _ _)
   | (with_reducible exact warplaw24_Make.mono _ _)
   | (with_reducible exact warpref1_Ints.mono _ _ _)
   | (with_reducible exact LeO.refl _)
   | (with_reducible exact LeO.none _)
   | (with_reducible refine LeO.ite ?_ ?_)
   | (with_reducible refine LeO.bind ?_ (fun _ => ?_))
   | exact ih0 _ _ _
   | exact ih1 _ _ _ _
   | exact ih2 _ _ _
   | exact ih3 _ _ _
   | exact ih4 _ _ _ _
   | exact warplaw24_Make.mono _ _
   | exact warpref1_Ints.mono _ _ _
   | exact LeO.none _
   | refine LeO.ite ?_ ?_
   | refine LeO.bind ?_ (fun _ => ?_)
theorem warplaw24_PoolOne.mono : ∀ a0 a1 k, LeO (warplaw24_PoolOne.f k a0 a1) (warplaw24_PoolOne.f (k + 1) a0 a1) := by
 intro a0 a1 k
 obtain ⟨ih0, ih1, ih2, ih3, ih4⟩ := warplaw24_PoolOne.mono_l k
 unfold warplaw24_PoolOne.f
 repeat' first
  | (with_reducible exact ih0 _ _ _)
  | (with_reducible exact ih1 _ _ _ _)
  | (with_reducible exact ih2 _ _ _)
  | (with_reducible exact ih3 _ _ _)
  | (with_reducible exact ih4 _ _ _ _)
  | (with_reducible exact warplaw24_Make.mono _ _)
  | (with_reducible exact warpref1_Ints.mono _ _ _)
  | (with_reducible exact LeO.refl _)
  | (with_reducible exact LeO.none _)
  | (with_reducible refine LeO.ite ?_ ?_)
  | (with_reducible refine LeO.bind ?_ (fun _ => ?_))
  | exact ih0 _ _ _
  | exact ih1 _ _ _ _
  | exact ih2 _ _ _
  | exact ih3 _ _ _
  | exact ih4 _ _ _ _
  | exact warplaw24_Make.mono _ _
  | exact warpref1_Ints.mono _ _ _
  | exact LeO.none _
  | refine LeO.ite ?_ ?_
  | refine LeO.bind ?_ (fun _ => ?_)
set_option maxHeartbeats 8000000 in
set_option maxRecDepth 100000 in
theorem warplaw24_PoolOne.calls (k : Nat) (A0 : Option Addr) (c0 : Nat) (l0 : List Int) (A1 : Option Addr) (c1 : Nat) (l1 : List Int) (r : Bool) (w : World) (hr0 : Kd.C (Kd.int .u8) w A0 l0.length l0) (hc0 : l0.length ≤ c0) (hr1 : Kd.C (Kd.int .i64) w A1 l1.length l1) (hc1 : l1.length ≤ c1) (h : warplaw24_PoolOne.f k l0 l1 = some r) (hT_ : Tab w := by first | exact hT_ | exact Tab.drewN hT_ _ | (refine Tab.below hT_ ?_; repeat (first | (with_reducible first | exact HB.out | apply below_alloc | apply pw_below_drewN | apply below_drew1) | exact HB.out))) (hr_ : r = true := by rfl) :
 Calls Tryd.prog 11 #[.slice A0 l0.length c0, .slice A1 l1.length c1] w fun e w' => e = .returned (.bool r) ∧ Below w.heap.size w w' := by
 have HR0 := Aside0.mk hr0
 have HC0 := Aside0.mk hc0
 clear hr0 hc0
 have HR1 := Aside0.mk hr1
 have HC1 := Aside0.mk hc1
 clear hr1 hc1
 have HB := Aside0.mk (Below.refl w.heap.size w)
 have H : (if (l1.length : Int) > 200 then ((warplaw24_awake.f).bind fun t485 => (some t485)) else ((warplaw24_Make.f k l0).bind fun t486 => ((pool_Play.f t486 1 l1).bind fun bt489 => (warplaw24_PoolOne.l0 k l1 bt489.1 0)))) = some r := h
 clear h
 by_cases c3 : (l1.length : Int) > 200
 ·
  rw [if_pos c3] at H
  have c3b0 : decide (200 < (l1.length : Int)) = true := decide_eq_true c3
  have c3b1 : decide (200 < l1.length) = true := decide_eq_true (by omega)
  clear c3
  replace H := Option.bind_eq_some_iff.mp H
  obtain ⟨t485, A40, H⟩ := H
  replace H : (some t485) = some r := H
  have A4 := Aside0.mk A40
  clear A40
  obtain rfl := Option.some.inj H
  go_enter Tryd.func11, Tryd.ntmps11
  go_wp2_with (first | ((with_reducible refine gate_callee (f := 19) rfl ?_); refine goesL_ (some 17) rfl rfl Tryd.func19 (by kernel_rfl) rfl #[] rfl (by (try simp only [List.map_toArray, List.map_cons, List.map_nil]); first | done | rfl | (simp only [List.length_drop, List.length_take]; rfl)) ?_; (with_reducible refine (warplaw24_awake.calls  t485 _ A4.out).mono ?_); rintro e w5 ⟨rfl, hb⟩; refine ⟨_, rfl, ?_⟩; have n0_ := Aside0.mk (below_step (by repeat (first | (with_reducible first | exact HB.out | apply below_alloc | apply pw_below_drewN | apply below_drew1) | exact HB.out)) hb); clear HB; have HB := n0_; clear n0_; (try clear hb); (try clear hb2); (try clear hk); (try clear hi)))
  go_ret
  exact ⟨by first | rfl | (simp [errW_none, errW_some] <;> rfl) | (simp [*, errW_none, errW_some] <;> rfl), by repeat (first | (with_reducible first | exact HB.out | apply below_alloc | apply pw_below_drewN | apply below_drew1) | exact HB.out)⟩
 ·
  rw [if_neg c3] at H
  have c3b0 : decide (200 < (l1.length : Int)) = false := decide_eq_false c3
  have c3b1 : decide (200 < l1.length) = false := decide_eq_false (by omega)
  clear c3
  replace H := Option.bind_eq_some_iff.mp H
  obtain ⟨t486, A60, H⟩ := H
  replace H : ((pool_Play.f t486 1 l1).bind fun bt489 => (warplaw24_PoolOne.l0 k l1 bt489.1 0)) = some r := H
  have A6 := Aside0.mk A60
  clear A60
  replace H := Option.bind_eq_some_iff.mp H
  obtain ⟨⟨t489, t490⟩, A70, H⟩ := H
  replace H : (warplaw24_PoolOne.l0 k l1 t489 0) = some r := H
  have A7 := Aside0.mk A70
  clear A70
  have H' := Aside0.mk H
  clear H
  go_enter Tryd.func11, Tryd.ntmps11
  go_wp2_with (first | ((with_reducible refine gate_callee (f := 23) rfl ?_); refine goesL_ (some 19) rfl rfl Tryd.func23 (by kernel_rfl) rfl #[.slice A0 l0.length c0] rfl (by (try simp only [List.map_toArray, List.map_cons, List.map_nil]); first | done | rfl | (simp only [List.length_drop, List.length_take]; rfl)) ?_; (with_reducible refine (warplaw24_Make.calls k _ _ l0 t486 _ ?side1 ?side2 A6.out).mono ?_); (case side1 => repeat (first | exact HR0.out | (with_reducible refine Kd.C_alloc ?_ _) | (with_reducible refine Kd.C_drewN ?_ _) | (with_reducible refine Kd.C_drew ?_))); (case side2 => exact HC0.out); rintro e w8 ⟨v487, rfl, ho0, hb⟩; refine ⟨_, rfl, ?_⟩; have n0_ := Aside0.mk (Kd.N_lower (Kd.N_mono (ok' := fun k_ => True) (Kd.S_N (Kd.S_bound ho0)) (fun k_ hk_ => trivial)) (below_size (by repeat (first | (with_reducible first | exact HB.out | apply below_alloc | apply pw_below_drewN | apply below_drew1) | exact HB.out)))); have n1_ := Aside0.mk (below_step (by repeat (first | (with_reducible first | exact HB.out | apply below_alloc | apply pw_below_drewN | apply below_drew1) | exact HB.out)) hb); clear HB; have HO488 := n0_; have HB := n1_; clear n0_ n1_; (try clear hb); (try clear hb2); (try clear hk); (try clear hi); (try clear ho0); obtain ⟨Ao9, co9, eo9⟩ := Kd.N_slice HO488.out; subst eo9) | ((with_reducible refine gate_callee (f := 20) rfl ?_); refine goesL_ (some 23) rfl rfl Tryd.func20 (by kernel_rfl) rfl #[.slice Ao9 t486.length co9, .int .i64 1, .slice A1 l1.length c1] rfl (by (try simp only [List.map_toArray, List.map_cons, List.map_nil]); first | done | rfl | (simp only [List.length_drop, List.length_take]; rfl)) ?_; (with_reducible refine (pool_Play.calls _ _ t486 1 _ _ l1 t489 t490 _ ?side1 ?side2 ?side3 ?side4 A7.out).mono ?_); (case side1 => repeat (first | exact (Kd.N_reads' HO488.out).2.2 | (with_reducible refine Kd.C_alloc ?_ _) | (with_reducible refine Kd.C_drewN ?_ _) | (with_reducible refine Kd.C_drew ?_))); (case side2 => exact (Kd.N_reads' HO488.out).2.1); (case side3 => repeat (first | exact (Kd.C_below HR1.out HB.out) | (with_reducible refine Kd.C_alloc ?_ _) | (with_reducible refine Kd.C_drewN ?_ _) | (with_reducible refine Kd.C_drew ?_))); (case side4 => exact HC1.out); rintro e w10 ⟨v491, rfl, ho0, hb⟩; refine ⟨_, rfl, ?_⟩; have n0_ := Aside0.mk (Kd.N_elder' (by (with_reducible repeat (first | apply Kd.N_alloc | apply Kd.N_drewN | apply Kd.N_drew)); exact HO488.out) (Kd.R_base ho0) hb); have n1_ := Aside0.mk (Kd.R_lower ho0 (below_size (by repeat (first | (with_reducible first | exact HB.out | apply below_alloc | apply pw_below_drewN | apply below_drew1) | exact HB.out)))); have n2_ := Aside0.mk (below_step (by repeat (first | (with_reducible first | exact HB.out | apply below_alloc | apply pw_below_drewN | apply below_drew1) | exact HB.out)) hb); clear HO488; clear HB; have HO488 := n0_; have HO492 := n1_; have HB := n2_; clear n0_ n1_ n2_; (try clear hb); (try clear hb2); (try clear hk); (try clear hi); (try clear ho0)))
  go_loopg [8] k (fun kq v8 w' => ∃ (x8_1 : Int), v8 = .int .i64 x8_1 ∧ Aside0 (warplaw24_PoolOne.l0 kq l1 t489 x8_1 = some r) ∧ Aside0 (kq ≤ k) ∧ Aside0 (Kd.R k54 54 w' w.heap.size (fun _ => True) v491 t489) ∧ Aside0 (Below w.heap.size w w'))
  case atStart => exact ⟨(0), (by first | rfl | (simp; done) | (simp [*]; done)), H', ⟨Nat.le_refl _⟩, ⟨by (with_reducible repeat (first | apply Kd.R_alloc | apply Kd.R_drewN | apply Kd.R_drew)); exact HO492.out⟩, ⟨by repeat (first | (with_reducible first | exact HB.out | apply below_alloc | apply pw_below_drewN | apply below_drew1) | exact HB.out)⟩⟩
  case round =>
   clear H'
   (try clear c1); (try clear c2); (try clear p2); (try clear c3); (try clear c3b0); (try clear c3b1)
   obtain ⟨x8_1, rfl, HA, HK1, HO_6, HB⟩ := hrel
   cases gk with
   | zero => exact absurd HA.out (by simp [warplaw24_PoolOne.l0])
   | succ k1 =>
    have H := HA.out
    clear HA
    simp only [warplaw24_PoolOne.l0] at H
    by_cases c11 : x8_1 < (t489.length : Int)
    ·
     rw [if_pos c11] at H
     have c11b0 : decide (x8_1 < (t489.length : Int)) = true := decide_eq_true c11
     clear c11
     have HC12 := Aside0.mk H
     clear H
     obtain ⟨Ao13, co13, eo13⟩ := Kd.R_slice HO_6.out
     subst eo13
     go_upto_region 8 with (fail)
     go_cut [61] (fun v61 wc => ∃ (kq : Nat) (x61_11 : Bool), v61 = .bool x61_11 ∧ Aside0 (warplaw24_PoolOne.j1 kq l1 t489 x8_1 x61_11 = some r) ∧ Aside0 (kq ≤ k1) ∧ Aside0 (Kd.R k54 54 wc w.heap.size (fun _ => True) (.slice Ao13 t489.length co13) t489) ∧ Aside0 (Below w.heap.size w wc))
     case first =>
      have H := HC12.out
      clear HC12
      by_cases c14 : 0 ≤ x8_1
      ·
       rw [if_pos c14] at H
       have c14b0 : decide (0 ≤ x8_1) = true := decide_eq_true c14
       clear c14
       (first | rw [c14b0] | (simp only [i64_w, i32_w]; rw [c14b0]) | skip)
       by_cases c15 : ((rd_T54 t489 x8_1).f1.f1) = x8_1
       ·
        rw [if_pos c15] at H
        have c15b0 : (((rd_T54 t489 x8_1).f1.f1) == x8_1) = true := beq_iff_eq.mpr c15
        have c15b1 : (((rd_T54 t489 x8_1).f1.f1) != x8_1) = false := bne_eq_false_iff_eq.mpr c15
        clear c15
        by_cases c16 : ((rd_T54 t489 x8_1).f3) = (wrap64 ((wrap64 (2 * x8_1)) + 1))
        ·
         rw [if_pos c16] at H
         have c16b0 : (((rd_T54 t489 x8_1).f3) == (wrap64 ((wrap64 (2 * x8_1)) + 1))) = true := beq_iff_eq.mpr c16
         have c16b1 : (((rd_T54 t489 x8_1).f3) != (wrap64 ((wrap64 (2 * x8_1)) + 1))) = false := bne_eq_false_iff_eq.mpr c16
         clear c16
         have H' := Aside0.mk H
         clear H
         have p493 : 0 ≤ (x8_1 : Int) := of_decide_eq_true (by first | (with_reducible assumption) | assumption)
         have q493 : x8_1 < (t489.length : Int) := of_decide_eq_true (by first | (with_reducible assumption) | assumption)
         obtain ⟨ad493, e493, hx493_0, hx493_1, hx493_2, hx493_3, hx493_4, hx493_5, hx493_6, hx493_7⟩ := at_T54 (Kd.R_reads' HO_6.out).2.2 x8_1 p493 q493
         cases e493
         replace p493 := eq_true p493
         replace q493 := eq_true q493
         have p494 : 0 ≤ (x8_1 : Int) := of_decide_eq_true (by first | (with_reducible assumption) | assumption)
         have q494 : x8_1 < (t489.length : Int) := of_decide_eq_true (by first | (with_reducible assumption) | assumption)
         obtain ⟨ad494, e494, hx494_0, hx494_1, hx494_2, hx494_3, hx494_4, hx494_5, hx494_6, hx494_7⟩ := at_T54 (Kd.R_reads' HO_6.out).2.2 x8_1 p494 q494
         obtain rfl : ad493 = ad494 := (by injection e494)
         replace p494 := eq_true p494
         replace q494 := eq_true q494
         have p495 : 0 ≤ (x8_1 : Int) := of_decide_eq_true (by first | (with_reducible assumption) | assumption)
         have q495 : x8_1 < (t489.length : Int) := of_decide_eq_true (by first | (with_reducible assumption) | assumption)
         obtain ⟨ad495, e495, hx495_0, hx495_1, hx495_2, hx495_3, hx495_4, hx495_5, hx495_6, hx495_7⟩ := at_T54 (Kd.R_reads' HO_6.out).2.2 x8_1 p495 q495
         obtain rfl : ad493 = ad495 := (by injection e495)
         replace p495 := eq_true p495
         replace q495 := eq_true q495
         go_wp2
         go_meet
         case rel => exact ⟨_, ((((rd_T54 t489 x8_1).f5) != (wrap64 ((wrap64 (2 * x8_1)) + 2)))), (by first | rfl | (simp; done) | (simp [*]; done)), H', ⟨by have := HK1.out; first | omega | exact Nat.le_refl _⟩, ⟨by (with_reducible repeat (first | apply Kd.R_alloc | apply Kd.R_drewN | apply Kd.R_drew)); exact HO_6.out⟩, ⟨by repeat (first | (with_reducible first | exact HB.out | apply below_alloc | apply pw_below_drewN | apply below_drew1) | exact HB.out)⟩⟩
        ·
         rw [if_neg c16] at H
         have c16b0 : (((rd_T54 t489 x8_1).f3) == (wrap64 ((wrap64 (2 * x8_1)) + 1))) = false := beq_eq_false_iff_ne.mpr c16
         have c16b1 : (((rd_T54 t489 x8_1).f3) != (wrap64 ((wrap64 (2 * x8_1)) + 1))) = true := bne_iff_ne.mpr c16
         have H' := Aside0.mk H
         clear H
         have p493 : 0 ≤ (x8_1 : Int) := of_decide_eq_true (by first | (with_reducible assumption) | assumption)
         have q493 : x8_1 < (t489.length : Int) := of_decide_eq_true (by first | (with_reducible assumption) | assumption)
         obtain ⟨ad493, e493, hx493_0, hx493_1, hx493_2, hx493_3, hx493_4, hx493_5, hx493_6, hx493_7⟩ := at_T54 (Kd.R_reads' HO_6.out).2.2 x8_1 p493 q493
         cases e493
         replace p493 := eq_true p493
         replace q493 := eq_true q493
         have p494 : 0 ≤ (x8_1 : Int) := of_decide_eq_true (by first | (with_reducible assumption) | assumption)
         have q494 : x8_1 < (t489.length : Int) := of_decide_eq_true (by first | (with_reducible assumption) | assumption)
         obtain ⟨ad494, e494, hx494_0, hx494_1, hx494_2, hx494_3, hx494_4, hx494_5, hx494_6, hx494_7⟩ := at_T54 (Kd.R_reads' HO_6.out).2.2 x8_1 p494 q494
         obtain rfl : ad493 = ad494 := (by injection e494)
         replace p494 := eq_true p494
         replace q494 := eq_true q494
         go_wp2
         go_meet
         case rel => exact ⟨_, (true), (by first | rfl | (simp; done) | (simp [*]; done)), H', ⟨by have := HK1.out; first | omega | exact Nat.le_refl _⟩, ⟨by (with_reducible repeat (first | apply Kd.R_alloc | apply Kd.R_drewN | apply Kd.R_drew)); exact HO_6.out⟩, ⟨by repeat (first | (with_reducible first | exact HB.out | apply below_alloc | apply pw_below_drewN | apply below_drew1) | exact HB.out)⟩⟩
       ·
        rw [if_neg c15] at H
        have c15b0 : (((rd_T54 t489 x8_1).f1.f1) == x8_1) = false := beq_eq_false_iff_ne.mpr c15
        have c15b1 : (((rd_T54 t489 x8_1).f1.f1) != x8_1) = true := bne_iff_ne.mpr c15
        have H' := Aside0.mk H
        clear H
        have p493 : 0 ≤ (x8_1 : Int) := of_decide_eq_true (by first | (with_reducible assumption) | assumption)
        have q493 : x8_1 < (t489.length : Int) := of_decide_eq_true (by first | (with_reducible assumption) | assumption)
        obtain ⟨ad493, e493, hx493_0, hx493_1, hx493_2, hx493_3, hx493_4, hx493_5, hx493_6, hx493_7⟩ := at_T54 (Kd.R_reads' HO_6.out).2.2 x8_1 p493 q493
        cases e493
        replace p493 := eq_true p493
        replace q493 := eq_true q493
        go_wp2
        go_meet
        case rel => exact ⟨_, (true), (by first | rfl | (simp; done) | (simp [*]; done)), H', ⟨by have := HK1.out; first | omega | exact Nat.le_refl _⟩, ⟨by (with_reducible repeat (first | apply Kd.R_alloc | apply Kd.R_drewN | apply Kd.R_drew)); exact HO_6.out⟩, ⟨by repeat (first | (with_reducible first | exact HB.out | apply below_alloc | apply pw_below_drewN | apply below_drew1) | exact HB.out)⟩⟩
      ·
       rw [if_neg c14] at H
       exact absurd H (by simp)
     case rest =>
      clear HC12
      (try clear c1); (try clear c2); (try clear p2); (try clear c3); (try clear c3b0); (try clear c3b1); (try clear p4); (try clear q4); (try clear hx4); (try clear p6); (try clear c11); (try clear c11b0); (try clear c14); (try clear c14b0); (try clear c15); (try clear c15b0); (try clear c15b1); (try clear c16); (try clear c16b0); (try clear c16b1); (try clear hx493_0); (try clear hx493_1); (try clear hx493_2); (try clear hx493_3); (try clear hx493_4); (try clear hx493_5); (try clear hx493_6); (try clear hx493_7); (try clear hx494_0); (try clear hx494_1); (try clear hx494_2); (try clear hx494_3); (try clear hx494_4); (try clear hx494_5); (try clear hx494_6); (try clear hx494_7); (try clear hx495_0); (try clear hx495_1); (try clear hx495_2); (try clear hx495_3); (try clear hx495_4); (try clear hx495_5); (try clear hx495_6); (try clear hx495_7); (try clear p2); (try clear p493); (try clear p494); (try clear p495); (try clear q493); (try clear q494); (try clear q495)
      obtain ⟨kq, x61_11, rfl, HA, HJ11, HO_6, HB⟩ := hcut
      cases kq with
      | zero => exact absurd HA.out (by simp [warplaw24_PoolOne.j1])
      | succ kj11 =>
       have H := HA.out
       clear HA
       simp only [warplaw24_PoolOne.j1] at H
       by_cases c17 : x61_11 = true
       ·
        subst c17
        have H1 : (some false) = some r := by rw [if_pos rfl] at H; exact H
        clear H
        have H := H1
        clear H1
        exact absurd (hr_.symm.trans (Option.some.inj H).symm) (by decide)
       ·
        replace c17 := Bool.eq_false_iff.mpr c17
        subst c17
        have H1 : (warplaw24_PoolOne.l0 kj11 l1 t489 (wrap64 (x8_1 + 1))) = some r := by rw [if_neg (show ¬ (false = true) by decide)] at H; exact H
        clear H
        have H := H1
        clear H1
        have H' := Aside0.mk H
        clear H
        go_wp2
        go_roundg kj11
        case measure => have := HK1.out; have := HJ11.out; omega
        case rel => exact ⟨(wrap64 (x8_1 + 1)), (by first | rfl | (simp; done) | (simp [*]; done)), H', ⟨by have := HK1.out; have := HJ11.out; omega⟩, ⟨by (with_reducible repeat (first | apply Kd.R_alloc | apply Kd.R_drewN | apply Kd.R_drew)); exact HO_6.out⟩, ⟨by repeat (first | (with_reducible first | exact HB.out | apply below_alloc | apply pw_below_drewN | apply below_drew1) | exact HB.out)⟩⟩
    ·
     rw [if_neg c11] at H
     have c11b0 : decide (x8_1 < (t489.length : Int)) = false := decide_eq_false c11
     clear c11
     obtain ⟨y496, hy496⟩ : ∃ y_ : List Int, y_ = (([5, 6, 7, 8] : List Int)) := ⟨_, rfl⟩
     replace H : ((pool_Play.f (([y496] : List (List Int))) 4 ([] : List Int)).bind fun bt502 => ((pool_Play.f (([[], (([1] : List Int)), [], (([2] : List Int)), []] : List (List Int))) 3 l1).bind fun bt515 => (if (bt502.1.length : Int) = 4 then (if bt502.2 = 8 then (if (bt515.1.length : Int) = 2 then (warplaw24_PoolOne.j2 k1 bt502.1 bt515.1 (bt515.2 != 4)) else (warplaw24_PoolOne.j2 k1 bt502.1 bt515.1 true)) else (warplaw24_PoolOne.j2 k1 bt502.1 bt515.1 true)) else (warplaw24_PoolOne.j2 k1 bt502.1 bt515.1 true)))) = some r := by first | (rw [hy496]; with_reducible exact H) | (have H2_ := (Option.bind_some _ _).symm.trans H; rw [hy496]; with_reducible exact H2_) | (have H2_ := (Option.bind_some _ _).symm.trans H; with_reducible exact H2_) | with_reducible exact H | (rw [hy496]; exact H) | exact H
     have Ny496 := Aside0.mk hy496
     clear hy496
     obtain ⟨y499, hy499⟩ : ∃ y_ : List (List Int), y_ = (([y496] : List (List Int))) := ⟨_, rfl⟩
     replace H : ((pool_Play.f y499 4 ([] : List Int)).bind fun bt502 => ((pool_Play.f (([[], (([1] : List Int)), [], (([2] : List Int)), []] : List (List Int))) 3 l1).bind fun bt515 => (if (bt502.1.length : Int) = 4 then (if bt502.2 = 8 then (if (bt515.1.length : Int) = 2 then (warplaw24_PoolOne.j2 k1 bt502.1 bt515.1 (bt515.2 != 4)) else (warplaw24_PoolOne.j2 k1 bt502.1 bt515.1 true)) else (warplaw24_PoolOne.j2 k1 bt502.1 bt515.1 true)) else (warplaw24_PoolOne.j2 k1 bt502.1 bt515.1 true)))) = some r := by first | (rw [hy499]; with_reducible exact H) | (have H2_ := (Option.bind_some _ _).symm.trans H; rw [hy499]; with_reducible exact H2_) | (have H2_ := (Option.bind_some _ _).symm.trans H; with_reducible exact H2_) | with_reducible exact H | (rw [hy499]; exact H) | exact H
     have Ny499 := Aside0.mk hy499
     clear hy499
     replace H := Option.bind_eq_some_iff.mp H
     obtain ⟨⟨t502, t503⟩, A180, H⟩ := H
     replace H : ((pool_Play.f (([[], (([1] : List Int)), [], (([2] : List Int)), []] : List (List Int))) 3 l1).bind fun bt515 => (if (t502.length : Int) = 4 then (if t503 = 8 then (if (bt515.1.length : Int) = 2 then (warplaw24_PoolOne.j2 k1 t502 bt515.1 (bt515.2 != 4)) else (warplaw24_PoolOne.j2 k1 t502 bt515.1 true)) else (warplaw24_PoolOne.j2 k1 t502 bt515.1 true)) else (warplaw24_PoolOne.j2 k1 t502 bt515.1 true))) = some r := H
     have A18 := Aside0.mk A180
     clear A180
     obtain ⟨y506, hy506⟩ : ∃ y_ : List Int, y_ = (([1] : List Int)) := ⟨_, rfl⟩
     replace H : ((pool_Play.f (([[], y506, [], (([2] : List Int)), []] : List (List Int))) 3 l1).bind fun bt515 => (if (t502.length : Int) = 4 then (if t503 = 8 then (if (bt515.1.length : Int) = 2 then (warplaw24_PoolOne.j2 k1 t502 bt515.1 (bt515.2 != 4)) else (warplaw24_PoolOne.j2 k1 t502 bt515.1 true)) else (warplaw24_PoolOne.j2 k1 t502 bt515.1 true)) else (warplaw24_PoolOne.j2 k1 t502 bt515.1 true))) = some r := by first | (rw [hy506]; with_reducible exact H) | (have H2_ := (Option.bind_some _ _).symm.trans H; rw [hy506]; with_reducible exact H2_) | (have H2_ := (Option.bind_some _ _).symm.trans H; with_reducible exact H2_) | with_reducible exact H | (rw [hy506]; exact H) | exact H
     have Ny506 := Aside0.mk hy506
     clear hy506
     obtain ⟨y509, hy509⟩ : ∃ y_ : List Int, y_ = (([2] : List Int)) := ⟨_, rfl⟩
     replace H : ((pool_Play.f (([[], y506, [], y509, []] : List (List Int))) 3 l1).bind fun bt515 => (if (t502.length : Int) = 4 then (if t503 = 8 then (if (bt515.1.length : Int) = 2 then (warplaw24_PoolOne.j2 k1 t502 bt515.1 (bt515.2 != 4)) else (warplaw24_PoolOne.j2 k1 t502 bt515.1 true)) else (warplaw24_PoolOne.j2 k1 t502 bt515.1 true)) else (warplaw24_PoolOne.j2 k1 t502 bt515.1 true))) = some r := by first | (rw [hy509]; with_reducible exact H) | (have H2_ := (Option.bind_some _ _).symm.trans H; rw [hy509]; with_reducible exact H2_) | (have H2_ := (Option.bind_some _ _).symm.trans H; with_reducible exact H2_) | with_reducible exact H | (rw [hy509]; exact H) | exact H
     have Ny509 := Aside0.mk hy509
     clear hy509
     obtain ⟨y512, hy512⟩ : ∃ y_ : List (List Int), y_ = (([[], y506, [], y509, []] : List (List Int))) := ⟨_, rfl⟩
     replace H : ((pool_Play.f y512 3 l1).bind fun bt515 => (if (t502.length : Int) = 4 then (if t503 = 8 then (if (bt515.1.length : Int) = 2 then (warplaw24_PoolOne.j2 k1 t502 bt515.1 (bt515.2 != 4)) else (warplaw24_PoolOne.j2 k1 t502 bt515.1 true)) else (warplaw24_PoolOne.j2 k1 t502 bt515.1 true)) else (warplaw24_PoolOne.j2 k1 t502 bt515.1 true))) = some r := by first | (rw [hy512]; with_reducible exact H) | (have H2_ := (Option.bind_some _ _).symm.trans H; rw [hy512]; with_reducible exact H2_) | (have H2_ := (Option.bind_some _ _).symm.trans H; with_reducible exact H2_) | with_reducible exact H | (rw [hy512]; exact H) | exact H
     have Ny512 := Aside0.mk hy512
     clear hy512
     replace H := Option.bind_eq_some_iff.mp H
     obtain ⟨⟨t515, t516⟩, A190, H⟩ := H
     replace H : (if (t502.length : Int) = 4 then (if t503 = 8 then (if (t515.length : Int) = 2 then (warplaw24_PoolOne.j2 k1 t502 t515 (t516 != 4)) else (warplaw24_PoolOne.j2 k1 t502 t515 true)) else (warplaw24_PoolOne.j2 k1 t502 t515 true)) else (warplaw24_PoolOne.j2 k1 t502 t515 true)) = some r := H
     have A19 := Aside0.mk A190
     clear A190
     have HC20 := Aside0.mk H
     clear H
     obtain ⟨Ao21, co21, eo21⟩ := Kd.R_slice HO_6.out
     subst eo21
     go_upto_region 12 with (first | ((with_reducible refine gate_dst (N := 63) rfl ?_); (try (refine gate_guard (by rfl) ?_; dsimp only)); refine Kd.R_lit (Kd.int .i64) _ 3 ?hg (N := 63) ?hd (xs := ([5, 6, 7, 8] : List Int)) (inner := [.int .i64 5, .int .i64 6, .int .i64 7, .int .i64 8]) (ok := fun _ => True) (okp := fun _ => True) ?hr ?hp (fun _ hk => hk) trivial (Below.refl _ _) (Nat.le_refl _) (by simp) ?_; (case hd => rfl); (case hg => rfl); (case hr => first | (go_simp; done) | (go_simp; rfl)); (case hp => exact (Reps.one (show Kd.M (Kd.int .i64) _ _ _ 5 [.int .i64 5] from rfl) (Reps.one (show Kd.M (Kd.int .i64) _ _ _ 6 [.int .i64 6] from rfl) (Reps.one (show Kd.M (Kd.int .i64) _ _ _ 7 [.int .i64 7] from rfl) (Reps.one (show Kd.M (Kd.int .i64) _ _ _ 8 [.int .i64 8] from rfl) (Reps.none _ _)))))); intro v497 w22 ho23 hb hg_ hnew_; clear hg_ hnew_; (first | rw [← Ny496.out] at ho23 | (simp only [Int.reduceToNat] at ho23; rw [← Ny496.out] at ho23)); have n0_ := Aside0.mk (Kd.R_below (by (with_reducible repeat (first | apply Kd.R_alloc | apply Kd.R_drewN | apply Kd.R_drew)); exact HO_6.out) hb); have n1_ := Aside0.mk (Kd.R_lower ho23 (below_size (by repeat (first | (with_reducible first | exact HB.out | apply below_alloc | apply pw_below_drewN | apply below_drew1) | exact HB.out)))); have n2_ := Aside0.mk (below_step (by repeat (first | (with_reducible first | exact HB.out | apply below_alloc | apply pw_below_drewN | apply below_drew1) | exact HB.out)) hb); clear HO_6; clear HB; have HO_6 := n0_; have HO498 := n1_; have HB := n2_; clear n0_ n1_ n2_; clear hb ho23; obtain ⟨Ao24, co24, eo24⟩ := Kd.R_slice HO498.out; subst eo24) | ((with_reducible refine gate_dst (N := 64) rfl ?_); (try (refine gate_guard (by rfl) ?_; dsimp only)); refine Kd.N_lit (Kd.slice 3 (Kd.int .i64)) _ 22 ?hg (N' := 64) ?hd (xs := ([y496] : List (List Int))) (inner := [.slice Ao24 y496.length co24]) (ok := (fun k_ => some k_ ≠ (.slice Ao21 t489.length co21 : Value).ownBlock)) (okp := (fun k_ => some k_ ≠ (.slice Ao21 t489.length co21 : Value).ownBlock)) ?hr ?hp (fun _ hk => hk) ((show ∀ k_, w22.heap.size ≤ k_ → (fun k_ => some k_ ≠ (.slice Ao21 t489.length co21 : Value).ownBlock) k_ from fun k_ hk => Kd.fresh' (Kd.R_lt (by (with_reducible repeat (first | apply Kd.R_alloc | apply Kd.R_drewN | apply Kd.R_drew)); exact HO_6.out)) k_ hk) _ (Nat.le_refl _)) (Below.refl _ _) (Nat.le_refl _) (by simp) ?_; (case hd => rfl); (case hg => rfl); (case hr => first | (go_simp; done) | (go_simp; rfl)); (case hp => exact (Reps.one (show Kd.FK (Kd.slice 3 (Kd.int .i64)) _ _ y496 [.slice Ao24 y496.length co24] from (Kd.FK_slice_mk (Kd.R_reads' (Kd.R_mono (ok' := (fun k_ => some k_ ≠ (.slice Ao21 t489.length co21 : Value).ownBlock)) (Kd.R_apart' (HO498.out) (Kd.R_typed HO_6.out) (by decide)) (fun k_ hk => hk.2))).2.1 (Kd.R_F (Kd.R_mono (ok' := (fun k_ => some k_ ≠ (.slice Ao21 t489.length co21 : Value).ownBlock)) (Kd.R_apart' (HO498.out) (Kd.R_typed HO_6.out) (by decide)) (fun k_ hk => hk.2))))) (Reps.none _ _))); intro v500 w25 ho26 hb hg_ hnew_; clear hg_ hnew_; (first | rw [← Ny499.out] at ho26 | (simp only [Int.reduceToNat] at ho26; rw [← Ny499.out] at ho26)); have n0_ := Aside0.mk (Kd.R_below (by (with_reducible repeat (first | apply Kd.R_alloc | apply Kd.R_drewN | apply Kd.R_drew)); exact HO_6.out) hb); have n1_ := Aside0.mk (Kd.N_lower ho26 (below_size (by repeat (first | (with_reducible first | exact HB.out | apply below_alloc | apply pw_below_drewN | apply below_drew1) | exact HB.out)))); have n2_ := Aside0.mk (below_step (by repeat (first | (with_reducible first | exact HB.out | apply below_alloc | apply pw_below_drewN | apply below_drew1) | exact HB.out)) hb); clear HO_6; clear HB; clear HO498; have HO_6 := n0_; have HO501 := n1_; have HB := n2_; clear n0_ n1_ n2_; clear hb ho26; obtain ⟨Ao27, co27, eo27⟩ := Kd.N_slice HO501.out; subst eo27) | ((with_reducible refine gate_callee (f := 20) rfl ?_); refine goesL_ (some 65) rfl rfl Tryd.func20 (by kernel_rfl) rfl #[.slice Ao27 y499.length co27, .int .i64 4, .slice none 0 0] rfl (by (try simp only [List.map_toArray, List.map_cons, List.map_nil]); first | done | rfl | (simp only [List.length_drop, List.length_take]; rfl)) ?_; (refine (pool_Play.calls _ _ y499 4 _ _ ([] : List Int) t502 t503 _ ?side1 ?side2 ?side3 ?side4 A18.out).mono ?_); (case side1 => repeat (first | exact (Kd.N_reads' HO501.out).2.2 | (with_reducible refine Kd.C_alloc ?_ _) | (with_reducible refine Kd.C_drewN ?_ _) | (with_reducible refine Kd.C_drew ?_))); (case side2 => exact (Kd.N_reads' HO501.out).2.1); (case side3 => exact Kd.C_nil _ _); (case side4 => exact Nat.le_refl _); rintro e w28 ⟨v504, rfl, ho0, hb⟩; refine ⟨_, rfl, ?_⟩; have n0_ := Aside0.mk (Kd.R_elder' (by (with_reducible repeat (first | apply Kd.R_alloc | apply Kd.R_drewN | apply Kd.R_drew)); exact HO_6.out) (Kd.R_base ho0) hb); have n1_ := Aside0.mk (Kd.N_elder' (by (with_reducible repeat (first | apply Kd.N_alloc | apply Kd.N_drewN | apply Kd.N_drew)); exact HO501.out) (Kd.R_base ho0) hb); have n2_ := Aside0.mk (Kd.R_lower (Kd.R_new' ho0 (Kd.R_lt (by (with_reducible repeat (first | apply Kd.R_alloc | apply Kd.R_drewN | apply Kd.R_drew)); exact HO_6.out))) (below_size (by repeat (first | (with_reducible first | exact HB.out | apply below_alloc | apply pw_below_drewN | apply below_drew1) | exact HB.out)))); have n3_ := Aside0.mk (below_step (by repeat (first | (with_reducible first | exact HB.out | apply below_alloc | apply pw_below_drewN | apply below_drew1) | exact HB.out)) hb); clear HO_6; clear HO501; clear HB; have HO_6 := n0_; have HO501 := n1_; have HO505 := n2_; have HB := n3_; clear n0_ n1_ n2_ n3_; (try clear hb); (try clear hb2); (try clear hk); (try clear hi); (try clear ho0)) | ((with_reducible refine gate_dst (N := 69) rfl ?_); (try (refine gate_guard (by rfl) ?_; dsimp only)); refine Kd.R_lit (Kd.int .i64) _ 3 ?hg (N := 69) ?hd (xs := ([1] : List Int)) (inner := [.int .i64 1]) (ok := fun _ => True) (okp := fun _ => True) ?hr ?hp (fun _ hk => hk) trivial (Below.refl _ _) (Nat.le_refl _) (by simp) ?_; (case hd => rfl); (case hg => rfl); (case hr => first | (go_simp; done) | (go_simp; rfl)); (case hp => exact (Reps.one (show Kd.M (Kd.int .i64) _ _ _ 1 [.int .i64 1] from rfl) (Reps.none _ _))); intro v507 w29 ho30 hb hg_ hnew_; clear hg_ hnew_; (first | rw [← Ny506.out] at ho30 | (simp only [Int.reduceToNat] at ho30; rw [← Ny506.out] at ho30)); have n0_ := Aside0.mk (Kd.R_below (by (with_reducible repeat (first | apply Kd.R_alloc | apply Kd.R_drewN | apply Kd.R_drew)); exact HO_6.out) hb); have n1_ := Aside0.mk (Kd.N_elder' (by (with_reducible repeat (first | apply Kd.N_alloc | apply Kd.N_drewN | apply Kd.N_drew)); exact HO501.out) (Kd.R_base ho30) hb); have n2_ := Aside0.mk (Kd.R_below (by (with_reducible repeat (first | apply Kd.R_alloc | apply Kd.R_drewN | apply Kd.R_drew)); exact HO505.out) hb); have n3_ := Aside0.mk (Kd.R_lower ho30 (below_size (by repeat (first | (with_reducible first | exact HB.out | apply below_alloc | apply pw_below_drewN | apply below_drew1) | exact HB.out)))); have n4_ := Aside0.mk (below_step (by repeat (first | (with_reducible first | exact HB.out | apply below_alloc | apply pw_below_drewN | apply below_drew1) | exact HB.out)) hb); clear HO_6; clear HO501; clear HO505; clear HB; have HO_6 := n0_; have HO501 := n1_; have HO505 := n2_; have HO508 := n3_; have HB := n4_; clear n0_ n1_ n2_ n3_ n4_; clear hb ho30) | ((with_reducible refine gate_dst (N := 70) rfl ?_); (try (refine gate_guard (by rfl) ?_; dsimp only)); refine Kd.R_lit (Kd.int .i64) _ 3 ?hg (N := 70) ?hd (xs := ([2] : List Int)) (inner := [.int .i64 2]) (ok := fun _ => True) (okp := fun _ => True) ?hr ?hp (fun _ hk => hk) trivial (Below.refl _ _) (Nat.le_refl _) (by simp) ?_; (case hd => rfl); (case hg => rfl); (case hr => first | (go_simp; done) | (go_simp; rfl)); (case hp => exact (Reps.one (show Kd.M (Kd.int .i64) _ _ _ 2 [.int .i64 2] from rfl) (Reps.none _ _))); intro v510 w31 ho32 hb hg_ hnew_; clear hg_ hnew_; (first | rw [← Ny509.out] at ho32 | (simp only [Int.reduceToNat] at ho32; rw [← Ny509.out] at ho32)); have n0_ := Aside0.mk (Kd.R_below (by (with_reducible repeat (first | apply Kd.R_alloc | apply Kd.R_drewN | apply Kd.R_drew)); exact HO_6.out) hb); have n1_ := Aside0.mk (Kd.N_elder' (by (with_reducible repeat (first | apply Kd.N_alloc | apply Kd.N_drewN | apply Kd.N_drew)); exact HO501.out) (Kd.R_base ho32) hb); have n2_ := Aside0.mk (Kd.R_below (by (with_reducible repeat (first | apply Kd.R_alloc | apply Kd.R_drewN | apply Kd.R_drew)); exact HO505.out) hb); have n3_ := Aside0.mk (Kd.R_elder' (by (with_reducible repeat (first | apply Kd.R_alloc | apply Kd.R_drewN | apply Kd.R_drew)); exact HO508.out) (Kd.R_base ho32) hb); have n4_ := Aside0.mk (Kd.R_lower (Kd.R_new' ho32 (Kd.R_lt (by (with_reducible repeat (first | apply Kd.R_alloc | apply Kd.R_drewN | apply Kd.R_drew)); exact HO508.out))) (below_size (by repeat (first | (with_reducible first | exact HB.out | apply below_alloc | apply pw_below_drewN | apply below_drew1) | exact HB.out)))); have n5_ := Aside0.mk (below_step (by repeat (first | (with_reducible first | exact HB.out | apply below_alloc | apply pw_below_drewN | apply below_drew1) | exact HB.out)) hb); clear HO_6; clear HO501; clear HO505; clear HO508; clear HB; have HO_6 := n0_; have HO501 := n1_; have HO505 := n2_; have HO508 := n3_; have HO511 := n4_; have HB := n5_; clear n0_ n1_ n2_ n3_ n4_ n5_; clear hb ho32; obtain ⟨Ao33, co33, eo33⟩ := Kd.R_slice HO508.out; subst eo33; obtain ⟨Ao34, co34, eo34⟩ := Kd.R_slice HO511.out; subst eo34) | ((with_reducible refine gate_dst (N := 71) rfl ?_); (try (refine gate_guard (by rfl) ?_; dsimp only)); refine Kd.N_lit (Kd.slice 3 (Kd.int .i64)) _ 22 ?hg (N' := 71) ?hd (xs := ([[], y506, [], y509, []] : List (List Int))) (inner := [.slice none 0 0, .slice Ao33 y506.length co33, .slice none 0 0, .slice Ao34 y509.length co34, .slice none 0 0]) (ok := (fun k_ => some k_ ≠ (.slice Ao21 t489.length co21 : Value).ownBlock ∧ some k_ ≠ (.slice Ao27 y499.length co27 : Value).ownBlock ∧ some k_ ≠ (v504 : Value).ownBlock)) (okp := (fun k_ => some k_ ≠ (.slice Ao21 t489.length co21 : Value).ownBlock ∧ some k_ ≠ (.slice Ao27 y499.length co27 : Value).ownBlock ∧ some k_ ≠ (v504 : Value).ownBlock)) ?hr ?hp (fun _ hk => hk) ((show ∀ k_, w31.heap.size ≤ k_ → (fun k_ => some k_ ≠ (.slice Ao21 t489.length co21 : Value).ownBlock ∧ some k_ ≠ (.slice Ao27 y499.length co27 : Value).ownBlock ∧ some k_ ≠ (v504 : Value).ownBlock) k_ from fun k_ hk => ⟨Kd.fresh' (Kd.R_lt (by (with_reducible repeat (first | apply Kd.R_alloc | apply Kd.R_drewN | apply Kd.R_drew)); exact HO_6.out)) k_ hk, Kd.fresh' (Kd.N_lt (by (with_reducible repeat (first | apply Kd.N_alloc | apply Kd.N_drewN | apply Kd.N_drew)); exact HO501.out)) k_ hk, Kd.fresh' (Kd.R_lt (by (with_reducible repeat (first | apply Kd.R_alloc | apply Kd.R_drewN | apply Kd.R_drew)); exact HO505.out)) k_ hk⟩) _ (Nat.le_refl _)) (Below.refl _ _) (Nat.le_refl _) (by simp) ?_; (case hd => rfl); (case hg => rfl); (case hr => first | (go_simp; done) | (go_simp; rfl)); (case hp => exact (Reps.one (show Kd.FK (Kd.slice 3 (Kd.int .i64)) _ _ [] [.slice none 0 0] from (Kd.FK_slice_mk (Nat.le_refl _) (Kd.F_nil _ _ _))) (Reps.one (show Kd.FK (Kd.slice 3 (Kd.int .i64)) _ _ y506 [.slice Ao33 y506.length co33] from (Kd.FK_slice_mk (Kd.R_reads' (Kd.R_mono (ok' := (fun k_ => some k_ ≠ (.slice Ao21 t489.length co21 : Value).ownBlock ∧ some k_ ≠ (.slice Ao27 y499.length co27 : Value).ownBlock ∧ some k_ ≠ (v504 : Value).ownBlock)) (Kd.R_apart' (Kd.R_apart' (Kd.R_apart' (HO508.out) (Kd.R_typed HO_6.out) (by decide)) (Kd.N_typed HO501.out) (by decide)) (Kd.R_typed HO505.out) (by decide)) (fun k_ hk => ⟨hk.1.1.2, ⟨hk.1.2, hk.2⟩⟩))).2.1 (Kd.R_F (Kd.R_mono (ok' := (fun k_ => some k_ ≠ (.slice Ao21 t489.length co21 : Value).ownBlock ∧ some k_ ≠ (.slice Ao27 y499.length co27 : Value).ownBlock ∧ some k_ ≠ (v504 : Value).ownBlock)) (Kd.R_apart' (Kd.R_apart' (Kd.R_apart' (HO508.out) (Kd.R_typed HO_6.out) (by decide)) (Kd.N_typed HO501.out) (by decide)) (Kd.R_typed HO505.out) (by decide)) (fun k_ hk => ⟨hk.1.1.2, ⟨hk.1.2, hk.2⟩⟩))))) (Reps.one (show Kd.FK (Kd.slice 3 (Kd.int .i64)) _ _ [] [.slice none 0 0] from (Kd.FK_slice_mk (Nat.le_refl _) (Kd.F_nil _ _ _))) (Reps.one (show Kd.FK (Kd.slice 3 (Kd.int .i64)) _ _ y509 [.slice Ao34 y509.length co34] from (Kd.FK_slice_mk (Kd.R_reads' (Kd.R_mono (ok' := (fun k_ => some k_ ≠ (.slice Ao21 t489.length co21 : Value).ownBlock ∧ some k_ ≠ (.slice Ao27 y499.length co27 : Value).ownBlock ∧ some k_ ≠ (v504 : Value).ownBlock)) (Kd.R_apart' (Kd.R_apart' (Kd.R_apart' (HO511.out) (Kd.R_typed HO_6.out) (by decide)) (Kd.N_typed HO501.out) (by decide)) (Kd.R_typed HO505.out) (by decide)) (fun k_ hk => ⟨hk.1.1.2, ⟨hk.1.2, hk.2⟩⟩))).2.1 (Kd.R_F (Kd.R_mono (ok' := (fun k_ => some k_ ≠ (.slice Ao21 t489.length co21 : Value).ownBlock ∧ some k_ ≠ (.slice Ao27 y499.length co27 : Value).ownBlock ∧ some k_ ≠ (v504 : Value).ownBlock)) (Kd.R_apart' (Kd.R_apart' (Kd.R_apart' (HO511.out) (Kd.R_typed HO_6.out) (by decide)) (Kd.N_typed HO501.out) (by decide)) (Kd.R_typed HO505.out) (by decide)) (fun k_ hk => ⟨hk.1.1.2, ⟨hk.1.2, hk.2⟩⟩))))) (Reps.one (show Kd.FK (Kd.slice 3 (Kd.int .i64)) _ _ [] [.slice none 0 0] from (Kd.FK_slice_mk (Nat.le_refl _) (Kd.F_nil _ _ _))) (Reps.none _ _))))))); intro v513 w35 ho36 hb hg_ hnew_; clear hg_ hnew_; (first | rw [← Ny512.out] at ho36 | (simp only [Int.reduceToNat] at ho36; rw [← Ny512.out] at ho36)); have n0_ := Aside0.mk (Kd.R_below (by (with_reducible repeat (first | apply Kd.R_alloc | apply Kd.R_drewN | apply Kd.R_drew)); exact HO_6.out) hb); have n1_ := Aside0.mk (Kd.N_elder' (by (with_reducible repeat (first | apply Kd.N_alloc | apply Kd.N_drewN | apply Kd.N_drew)); exact HO501.out) (Kd.N_base ho36) hb); have n2_ := Aside0.mk (Kd.R_below (by (with_reducible repeat (first | apply Kd.R_alloc | apply Kd.R_drewN | apply Kd.R_drew)); exact HO505.out) hb); have n3_ := Aside0.mk (Kd.N_lower ho36 (below_size (by repeat (first | (with_reducible first | exact HB.out | apply below_alloc | apply pw_below_drewN | apply below_drew1) | exact HB.out)))); have n4_ := Aside0.mk (below_step (by repeat (first | (with_reducible first | exact HB.out | apply below_alloc | apply pw_below_drewN | apply below_drew1) | exact HB.out)) hb); clear HO_6; clear HO501; clear HO505; clear HB; clear HO508; clear HO511; have HO_6 := n0_; have HO501 := n1_; have HO505 := n2_; have HO514 := n3_; have HB := n4_; clear n0_ n1_ n2_ n3_ n4_; clear hb ho36; obtain ⟨Ao37, co37, eo37⟩ := Kd.N_slice HO514.out; subst eo37) | ((with_reducible refine gate_callee (f := 20) rfl ?_); refine goesL_ (some 73) rfl rfl Tryd.func20 (by kernel_rfl) rfl #[.slice Ao37 y512.length co37, .int .i64 3, .slice A1 l1.length c1] rfl (by (try simp only [List.map_toArray, List.map_cons, List.map_nil]); first | done | rfl | (simp only [List.length_drop, List.length_take]; rfl)) ?_; (with_reducible refine (pool_Play.calls _ _ y512 3 _ _ l1 t515 t516 _ ?side1 ?side2 ?side3 ?side4 A19.out).mono ?_); (case side1 => repeat (first | exact (Kd.N_reads' HO514.out).2.2 | (with_reducible refine Kd.C_alloc ?_ _) | (with_reducible refine Kd.C_drewN ?_ _) | (with_reducible refine Kd.C_drew ?_))); (case side2 => exact (Kd.N_reads' HO514.out).2.1); (case side3 => repeat (first | exact (Kd.C_below HR1.out HB.out) | (with_reducible refine Kd.C_alloc ?_ _) | (with_reducible refine Kd.C_drewN ?_ _) | (with_reducible refine Kd.C_drew ?_))); (case side4 => exact HC1.out); rintro e w38 ⟨v517, rfl, ho0, hb⟩; refine ⟨_, rfl, ?_⟩; have n0_ := Aside0.mk (Kd.R_elder' (by (with_reducible repeat (first | apply Kd.R_alloc | apply Kd.R_drewN | apply Kd.R_drew)); exact HO_6.out) (Kd.R_base ho0) hb); have n1_ := Aside0.mk (Kd.N_elder' (by (with_reducible repeat (first | apply Kd.N_alloc | apply Kd.N_drewN | apply Kd.N_drew)); exact HO501.out) (Kd.R_base ho0) hb); have n2_ := Aside0.mk (Kd.R_elder' (by (with_reducible repeat (first | apply Kd.R_alloc | apply Kd.R_drewN | apply Kd.R_drew)); exact HO505.out) (Kd.R_base ho0) hb); have n3_ := Aside0.mk (Kd.N_elder' (by (with_reducible repeat (first | apply Kd.N_alloc | apply Kd.N_drewN | apply Kd.N_drew)); exact HO514.out) (Kd.R_base ho0) hb); have n4_ := Aside0.mk (Kd.R_lower (Kd.R_new' (Kd.R_new' ho0 (Kd.R_lt (by (with_reducible repeat (first | apply Kd.R_alloc | apply Kd.R_drewN | apply Kd.R_drew)); exact HO_6.out))) (Kd.R_lt (by (with_reducible repeat (first | apply Kd.R_alloc | apply Kd.R_drewN | apply Kd.R_drew)); exact HO505.out))) (below_size (by repeat (first | (with_reducible first | exact HB.out | apply below_alloc | apply pw_below_drewN | apply below_drew1) | exact HB.out)))); have n5_ := Aside0.mk (below_step (by repeat (first | (with_reducible first | exact HB.out | apply below_alloc | apply pw_below_drewN | apply below_drew1) | exact HB.out)) hb); clear HO_6; clear HO501; clear HO505; clear HO514; clear HB; have HO_6 := n0_; have HO501 := n1_; have HO505 := n2_; have HO514 := n3_; have HO518 := n4_; have HB := n5_; clear n0_ n1_ n2_ n3_ n4_ n5_; (try clear hb); (try clear hb2); (try clear hk); (try clear hi); (try clear ho0)))
     (try simp only [Act.put, List.setIfInBounds_toArray, List.set_cons_zero, List.set_cons_succ])
     go_cut [91] (fun v91 wc => ∃ (kq : Nat) (x91_19 : Bool), v91 = .bool x91_19 ∧ Aside0 (warplaw24_PoolOne.j2 kq t502 t515 x91_19 = some r) ∧ Aside0 (kq ≤ k1) ∧ Aside0 (Kd.R k54 54 wc w.heap.size (fun k_ => some k_ ≠ (v517 : Value).ownBlock) v504 t502) ∧ Aside0 (Kd.R k54 54 wc w.heap.size (fun k_ => some k_ ≠ (v504 : Value).ownBlock) v517 t515) ∧ Aside0 (Below w.heap.size w wc))
     case first =>
      have H := HC20.out
      clear HC20
      by_cases c39 : (t502.length : Int) = 4
      ·
       rw [if_pos c39] at H
       have c39b0 : ((t502.length : Int) == 4) = true := beq_iff_eq.mpr c39
       have c39b1 : ((t502.length : Int) != 4) = false := bne_eq_false_iff_eq.mpr c39
       clear c39
       (first | rw [c39b0] | (simp only [i64_w, i32_w]; rw [c39b0]) | skip)
       by_cases c40 : t503 = 8
       ·
        rw [if_pos c40] at H
        have c40b0 : (t503 == 8) = true := beq_iff_eq.mpr c40
        have c40b1 : (t503 != 8) = false := bne_eq_false_iff_eq.mpr c40
        clear c40
        by_cases c41 : (t515.length : Int) = 2
        ·
         rw [if_pos c41] at H
         have c41b0 : ((t515.length : Int) == 2) = true := beq_iff_eq.mpr c41
         have c41b1 : ((t515.length : Int) != 2) = false := bne_eq_false_iff_eq.mpr c41
         clear c41
         have H' := Aside0.mk H
         clear H
         obtain ⟨Ao42, co42, eo42⟩ := Kd.R_slice HO505.out
         subst eo42
         obtain ⟨Ao43, co43, eo43⟩ := Kd.R_slice HO518.out
         subst eo43
         go_wp2
         go_meet
         case rel => exact ⟨_, ((t516 != 4)), (by first | rfl | (simp; done) | (simp [*]; done)), H', ⟨by have := HK1.out; first | omega | exact Nat.le_refl _⟩, ⟨by (with_reducible repeat (first | apply Kd.R_alloc | apply Kd.R_drewN | apply Kd.R_drew)); exact Kd.R_mono HO505.out (fun _ hk => hk.2)⟩, ⟨by (with_reducible repeat (first | apply Kd.R_alloc | apply Kd.R_drewN | apply Kd.R_drew)); exact Kd.R_mono HO518.out (fun _ hk => hk.2)⟩, ⟨by repeat (first | (with_reducible first | exact HB.out | apply below_alloc | apply pw_below_drewN | apply below_drew1) | exact HB.out)⟩⟩
        ·
         rw [if_neg c41] at H
         have c41b0 : ((t515.length : Int) == 2) = false := beq_eq_false_iff_ne.mpr c41
         have c41b1 : ((t515.length : Int) != 2) = true := bne_iff_ne.mpr c41
         have H' := Aside0.mk H
         clear H
         obtain ⟨Ao44, co44, eo44⟩ := Kd.R_slice HO505.out
         subst eo44
         obtain ⟨Ao45, co45, eo45⟩ := Kd.R_slice HO518.out
         subst eo45
         go_wp2
         go_meet
         case rel => exact ⟨_, (true), (by first | rfl | (simp; done) | (simp [*]; done)), H', ⟨by have := HK1.out; first | omega | exact Nat.le_refl _⟩, ⟨by (with_reducible repeat (first | apply Kd.R_alloc | apply Kd.R_drewN | apply Kd.R_drew)); exact Kd.R_mono HO505.out (fun _ hk => hk.2)⟩, ⟨by (with_reducible repeat (first | apply Kd.R_alloc | apply Kd.R_drewN | apply Kd.R_drew)); exact Kd.R_mono HO518.out (fun _ hk => hk.2)⟩, ⟨by repeat (first | (with_reducible first | exact HB.out | apply below_alloc | apply pw_below_drewN | apply below_drew1) | exact HB.out)⟩⟩
       ·
        rw [if_neg c40] at H
        have c40b0 : (t503 == 8) = false := beq_eq_false_iff_ne.mpr c40
        have c40b1 : (t503 != 8) = true := bne_iff_ne.mpr c40
        have H' := Aside0.mk H
        clear H
        obtain ⟨Ao46, co46, eo46⟩ := Kd.R_slice HO505.out
        subst eo46
        go_wp2
        go_meet
        case rel => exact ⟨_, (true), (by first | rfl | (simp; done) | (simp [*]; done)), H', ⟨by have := HK1.out; first | omega | exact Nat.le_refl _⟩, ⟨by (with_reducible repeat (first | apply Kd.R_alloc | apply Kd.R_drewN | apply Kd.R_drew)); exact Kd.R_mono HO505.out (fun _ hk => hk.2)⟩, ⟨by (with_reducible repeat (first | apply Kd.R_alloc | apply Kd.R_drewN | apply Kd.R_drew)); exact Kd.R_mono HO518.out (fun _ hk => hk.2)⟩, ⟨by repeat (first | (with_reducible first | exact HB.out | apply below_alloc | apply pw_below_drewN | apply below_drew1) | exact HB.out)⟩⟩
      ·
       rw [if_neg c39] at H
       have c39b0 : ((t502.length : Int) == 4) = false := beq_eq_false_iff_ne.mpr c39
       have c39b1 : ((t502.length : Int) != 4) = true := bne_iff_ne.mpr c39
       (first | rw [c39b0] | (simp only [i64_w, i32_w]; rw [c39b0]) | skip)
       have H' := Aside0.mk H
       clear H
       obtain ⟨Ao47, co47, eo47⟩ := Kd.R_slice HO505.out
       subst eo47
       go_wp2
       go_meet
       case rel => exact ⟨_, (true), (by first | rfl | (simp; done) | (simp [*]; done)), H', ⟨by have := HK1.out; first | omega | exact Nat.le_refl _⟩, ⟨by (with_reducible repeat (first | apply Kd.R_alloc | apply Kd.R_drewN | apply Kd.R_drew)); exact Kd.R_mono HO505.out (fun _ hk => hk.2)⟩, ⟨by (with_reducible repeat (first | apply Kd.R_alloc | apply Kd.R_drewN | apply Kd.R_drew)); exact Kd.R_mono HO518.out (fun _ hk => hk.2)⟩, ⟨by repeat (first | (with_reducible first | exact HB.out | apply below_alloc | apply pw_below_drewN | apply below_drew1) | exact HB.out)⟩⟩
     case rest =>
      clear HC20
      (try clear c1); (try clear c2); (try clear p2); (try clear c3); (try clear c3b0); (try clear c3b1); (try clear c4); (try clear p4); (try clear q4); (try clear hx4); (try clear p6); (try clear c11); (try clear c11b0); (try clear c14); (try clear c14b0); (try clear c15); (try clear c15b0); (try clear c15b1); (try clear c16); (try clear c16b0); (try clear c16b1); (try clear c17); (try clear c19); (try clear c20); (try clear c23); (try clear c39); (try clear c39b0); (try clear c39b1); (try clear c40); (try clear c40b0); (try clear c40b1); (try clear c41); (try clear c41b0); (try clear c41b1); (try clear hx493_0); (try clear hx493_1); (try clear hx493_2); (try clear hx493_3); (try clear hx493_4); (try clear hx493_5); (try clear hx493_6); (try clear hx493_7); (try clear hx494_0); (try clear hx494_1); (try clear hx494_2); (try clear hx494_3); (try clear hx494_4); (try clear hx494_5); (try clear hx494_6); (try clear hx494_7); (try clear hx495_0); (try clear hx495_1); (try clear hx495_2); (try clear hx495_3); (try clear hx495_4); (try clear hx495_5); (try clear hx495_6); (try clear hx495_7); (try clear p2); (try clear p4); (try clear p493); (try clear p494); (try clear p495); (try clear p6); (try clear q4); (try clear q493); (try clear q494); (try clear q495)
      obtain ⟨kq, x91_19, rfl, HA, HJ19, HO_9, HO_11, HB⟩ := hcut
      cases kq with
      | zero => exact absurd HA.out (by simp [warplaw24_PoolOne.j2])
      | succ kj19 =>
       have H := HA.out
       clear HA
       simp only [warplaw24_PoolOne.j2] at H
       by_cases c48 : x91_19 = true
       ·
        subst c48
        have H1 : (some false) = some r := by rw [if_pos rfl] at H; exact H
        clear H
        have H := H1
        clear H1
        exact absurd (hr_.symm.trans (Option.some.inj H).symm) (by decide)
       ·
        replace c48 := Bool.eq_false_iff.mpr c48
        subst c48
        have H1 : (warplaw24_PoolOne.l1 kj19 t502 t515 0) = some r := by rw [if_neg (show ¬ (false = true) by decide)] at H; exact H
        clear H
        have H := H1
        clear H1
        have H' := Aside0.mk H
        clear H
        go_wp2
        go_loopg [13] kj19 (fun kq v13 w' => ∃ (x13_3 : Int), v13 = .int .i64 x13_3 ∧ Aside0 (warplaw24_PoolOne.l1 kq t502 t515 x13_3 = some r) ∧ Aside0 (kq ≤ kj19) ∧ Aside0 (Kd.R k54 54 w' w.heap.size (fun k_ => some k_ ≠ (v517 : Value).ownBlock) v504 t502) ∧ Aside0 (Kd.R k54 54 w' w.heap.size (fun k_ => some k_ ≠ (v504 : Value).ownBlock) v517 t515) ∧ Aside0 (Below w.heap.size w w'))
        case atStart => exact ⟨(0), (by first | rfl | (simp; done) | (simp [*]; done)), H', ⟨Nat.le_refl _⟩, ⟨by (with_reducible repeat (first | apply Kd.R_alloc | apply Kd.R_drewN | apply Kd.R_drew)); exact HO_9.out⟩, ⟨by (with_reducible repeat (first | apply Kd.R_alloc | apply Kd.R_drewN | apply Kd.R_drew)); exact HO_11.out⟩, ⟨by repeat (first | (with_reducible first | exact HB.out | apply below_alloc | apply pw_below_drewN | apply below_drew1) | exact HB.out)⟩⟩
        case round =>
         clear H'
         (try clear c1); (try clear c2); (try clear p2); (try clear c3); (try clear c3b0); (try clear c3b1); (try clear c4); (try clear p4); (try clear q4); (try clear hx4); (try clear p6); (try clear c11); (try clear c11b0); (try clear c14); (try clear c14b0); (try clear c15); (try clear c15b0); (try clear c15b1); (try clear c16); (try clear c16b0); (try clear c16b1); (try clear c17); (try clear c19); (try clear c20); (try clear c23); (try clear c39); (try clear c39b0); (try clear c39b1); (try clear c40); (try clear c40b0); (try clear c40b1); (try clear c41); (try clear c41b0); (try clear c41b1); (try clear c48); (try clear hx493_0); (try clear hx493_1); (try clear hx493_2); (try clear hx493_3); (try clear hx493_4); (try clear hx493_5); (try clear hx493_6); (try clear hx493_7); (try clear hx494_0); (try clear hx494_1); (try clear hx494_2); (try clear hx494_3); (try clear hx494_4); (try clear hx494_5); (try clear hx494_6); (try clear hx494_7); (try clear hx495_0); (try clear hx495_1); (try clear hx495_2); (try clear hx495_3); (try clear hx495_4); (try clear hx495_5); (try clear hx495_6); (try clear hx495_7); (try clear p2); (try clear p4); (try clear p493); (try clear p494); (try clear p495); (try clear p6); (try clear q4); (try clear q493); (try clear q494); (try clear q495)
         obtain ⟨x13_3, rfl, HA, HK3, HO_9, HO_11, HB⟩ := hrel
         cases gk with
         | zero => exact absurd HA.out (by simp [warplaw24_PoolOne.l1])
         | succ k3 =>
          have H := HA.out
          clear HA
          simp only [warplaw24_PoolOne.l1] at H
          by_cases c49 : x13_3 < 4
          ·
           rw [if_pos c49] at H
           have c49b0 : decide (x13_3 < 4) = true := decide_eq_true c49
           clear c49
           have HC50 := Aside0.mk H
           clear H
           go_upto_region 17 with (fail)
           go_cut [124] (fun v124 wc => ∃ (kq : Nat) (x124_49 : Bool), v124 = .bool x124_49 ∧ Aside0 (warplaw24_PoolOne.j4 kq t502 t515 x13_3 x124_49 = some r) ∧ Aside0 (kq ≤ k3) ∧ Aside0 (Kd.R k54 54 wc w.heap.size (fun k_ => some k_ ≠ (v517 : Value).ownBlock) v504 t502) ∧ Aside0 (Kd.R k54 54 wc w.heap.size (fun k_ => some k_ ≠ (v504 : Value).ownBlock) v517 t515) ∧ Aside0 (Below w.heap.size w wc))
           case first =>
            have H := HC50.out
            clear HC50
            by_cases c51 : 0 ≤ x13_3
            ·
             rw [if_pos c51] at H
             have c51b0 : decide (0 ≤ x13_3) = true := decide_eq_true c51
             clear c51
             (first | rw [c51b0] | (simp only [i64_w, i32_w]; rw [c51b0]) | skip)
             by_cases c52 : x13_3 < (t502.length : Int)
             ·
              rw [if_pos c52] at H
              have c52b0 : decide (x13_3 < (t502.length : Int)) = true := decide_eq_true c52
              clear c52
              by_cases c53 : ((rd_T54 t502 x13_3).f3) = (wrap64 (x13_3 + 1))
              ·
               rw [if_pos c53] at H
               have c53b0 : (((rd_T54 t502 x13_3).f3) == (wrap64 (x13_3 + 1))) = true := beq_iff_eq.mpr c53
               have c53b1 : (((rd_T54 t502 x13_3).f3) != (wrap64 (x13_3 + 1))) = false := bne_eq_false_iff_eq.mpr c53
               clear c53
               by_cases c54 : ((rd_T54 t502 x13_3).f5) = (wrap64 (x13_3 + 5))
               ·
                rw [if_pos c54] at H
                have c54b0 : (((rd_T54 t502 x13_3).f5) == (wrap64 (x13_3 + 5))) = true := beq_iff_eq.mpr c54
                have c54b1 : (((rd_T54 t502 x13_3).f5) != (wrap64 (x13_3 + 5))) = false := bne_eq_false_iff_eq.mpr c54
                clear c54
                have H' := Aside0.mk H
                clear H
                obtain ⟨Ao55, co55, eo55⟩ := Kd.R_slice HO_9.out
                subst eo55
                have p519 : 0 ≤ (x13_3 : Int) := of_decide_eq_true (by first | (with_reducible assumption) | assumption)
                have q519 : x13_3 < (t502.length : Int) := of_decide_eq_true (by first | (with_reducible assumption) | assumption)
                obtain ⟨ad519, e519, hx519_0, hx519_1, hx519_2, hx519_3, hx519_4, hx519_5, hx519_6, hx519_7⟩ := at_T54 (Kd.R_reads' HO_9.out).2.2 x13_3 p519 q519
                cases e519
                replace p519 := eq_true p519
                replace q519 := eq_true q519
                have p520 : 0 ≤ (x13_3 : Int) := of_decide_eq_true (by first | (with_reducible assumption) | assumption)
                have q520 : x13_3 < (t502.length : Int) := of_decide_eq_true (by first | (with_reducible assumption) | assumption)
                obtain ⟨ad520, e520, hx520_0, hx520_1, hx520_2, hx520_3, hx520_4, hx520_5, hx520_6, hx520_7⟩ := at_T54 (Kd.R_reads' HO_9.out).2.2 x13_3 p520 q520
                obtain rfl : ad519 = ad520 := (by injection e520)
                replace p520 := eq_true p520
                replace q520 := eq_true q520
                have p521 : 0 ≤ (x13_3 : Int) := of_decide_eq_true (by first | (with_reducible assumption) | assumption)
                have q521 : x13_3 < (t502.length : Int) := of_decide_eq_true (by first | (with_reducible assumption) | assumption)
                obtain ⟨ad521, e521, hx521_0, hx521_1, hx521_2, hx521_3, hx521_4, hx521_5, hx521_6, hx521_7⟩ := at_T54 (Kd.R_reads' HO_9.out).2.2 x13_3 p521 q521
                obtain rfl : ad519 = ad521 := (by injection e521)
                replace p521 := eq_true p521
                replace q521 := eq_true q521
                go_wp2
                go_meet
                case rel => exact ⟨_, ((((rd_T54 t502 x13_3).f1.f1) != (wrap64 (5 + x13_3)))), (by first | rfl | (simp; done) | (simp [*]; done)), H', ⟨by have := HK1.out; have := HJ19.out; have := HK3.out; first | omega | exact Nat.le_refl _⟩, ⟨by (with_reducible repeat (first | apply Kd.R_alloc | apply Kd.R_drewN | apply Kd.R_drew)); exact HO_9.out⟩, ⟨by (with_reducible repeat (first | apply Kd.R_alloc | apply Kd.R_drewN | apply Kd.R_drew)); exact HO_11.out⟩, ⟨by repeat (first | (with_reducible first | exact HB.out | apply below_alloc | apply pw_below_drewN | apply below_drew1) | exact HB.out)⟩⟩
               ·
                rw [if_neg c54] at H
                have c54b0 : (((rd_T54 t502 x13_3).f5) == (wrap64 (x13_3 + 5))) = false := beq_eq_false_iff_ne.mpr c54
                have c54b1 : (((rd_T54 t502 x13_3).f5) != (wrap64 (x13_3 + 5))) = true := bne_iff_ne.mpr c54
                have H' := Aside0.mk H
                clear H
                obtain ⟨Ao56, co56, eo56⟩ := Kd.R_slice HO_9.out
                subst eo56
                have p519 : 0 ≤ (x13_3 : Int) := of_decide_eq_true (by first | (with_reducible assumption) | assumption)
                have q519 : x13_3 < (t502.length : Int) := of_decide_eq_true (by first | (with_reducible assumption) | assumption)
                obtain ⟨ad519, e519, hx519_0, hx519_1, hx519_2, hx519_3, hx519_4, hx519_5, hx519_6, hx519_7⟩ := at_T54 (Kd.R_reads' HO_9.out).2.2 x13_3 p519 q519
                cases e519
                replace p519 := eq_true p519
                replace q519 := eq_true q519
                have p520 : 0 ≤ (x13_3 : Int) := of_decide_eq_true (by first | (with_reducible assumption) | assumption)
                have q520 : x13_3 < (t502.length : Int) := of_decide_eq_true (by first | (with_reducible assumption) | assumption)
                obtain ⟨ad520, e520, hx520_0, hx520_1, hx520_2, hx520_3, hx520_4, hx520_5, hx520_6, hx520_7⟩ := at_T54 (Kd.R_reads' HO_9.out).2.2 x13_3 p520 q520
                obtain rfl : ad519 = ad520 := (by injection e520)
                replace p520 := eq_true p520
                replace q520 := eq_true q520
                go_wp2
                go_meet
                case rel => exact ⟨_, (true), (by first | rfl | (simp; done) | (simp [*]; done)), H', ⟨by have := HK1.out; have := HJ19.out; have := HK3.out; first | omega | exact Nat.le_refl _⟩, ⟨by (with_reducible repeat (first | apply Kd.R_alloc | apply Kd.R_drewN | apply Kd.R_drew)); exact HO_9.out⟩, ⟨by (with_reducible repeat (first | apply Kd.R_alloc | apply Kd.R_drewN | apply Kd.R_drew)); exact HO_11.out⟩, ⟨by repeat (first | (with_reducible first | exact HB.out | apply below_alloc | apply pw_below_drewN | apply below_drew1) | exact HB.out)⟩⟩
              ·
               rw [if_neg c53] at H
               have c53b0 : (((rd_T54 t502 x13_3).f3) == (wrap64 (x13_3 + 1))) = false := beq_eq_false_iff_ne.mpr c53
               have c53b1 : (((rd_T54 t502 x13_3).f3) != (wrap64 (x13_3 + 1))) = true := bne_iff_ne.mpr c53
               have H' := Aside0.mk H
               clear H
               obtain ⟨Ao57, co57, eo57⟩ := Kd.R_slice HO_9.out
               subst eo57
               have p519 : 0 ≤ (x13_3 : Int) := of_decide_eq_true (by first | (with_reducible assumption) | assumption)
               have q519 : x13_3 < (t502.length : Int) := of_decide_eq_true (by first | (with_reducible assumption) | assumption)
               obtain ⟨ad519, e519, hx519_0, hx519_1, hx519_2, hx519_3, hx519_4, hx519_5, hx519_6, hx519_7⟩ := at_T54 (Kd.R_reads' HO_9.out).2.2 x13_3 p519 q519
               cases e519
               replace p519 := eq_true p519
               replace q519 := eq_true q519
               go_wp2
               go_meet
               case rel => exact ⟨_, (true), (by first | rfl | (simp; done) | (simp [*]; done)), H', ⟨by have := HK1.out; have := HJ19.out; have := HK3.out; first | omega | exact Nat.le_refl _⟩, ⟨by (with_reducible repeat (first | apply Kd.R_alloc | apply Kd.R_drewN | apply Kd.R_drew)); exact HO_9.out⟩, ⟨by (with_reducible repeat (first | apply Kd.R_alloc | apply Kd.R_drewN | apply Kd.R_drew)); exact HO_11.out⟩, ⟨by repeat (first | (with_reducible first | exact HB.out | apply below_alloc | apply pw_below_drewN | apply below_drew1) | exact HB.out)⟩⟩
             ·
              rw [if_neg c52] at H
              exact absurd H (by simp)
            ·
             rw [if_neg c51] at H
             exact absurd H (by simp)
           case rest =>
            clear HC50
            (try clear c1); (try clear c2); (try clear p2); (try clear c3); (try clear c3b0); (try clear c3b1); (try clear c4); (try clear p4); (try clear q4); (try clear hx4); (try clear c5); (try clear p5); (try clear q5); (try clear hx5); (try clear p6); (try clear c11); (try clear c11b0); (try clear c14); (try clear c14b0); (try clear c15); (try clear c15b0); (try clear c15b1); (try clear c16); (try clear c16b0); (try clear c16b1); (try clear c17); (try clear c19); (try clear c20); (try clear c23); (try clear c39); (try clear c39b0); (try clear c39b1); (try clear c40); (try clear c40b0); (try clear c40b1); (try clear c41); (try clear c41b0); (try clear c41b1); (try clear c48); (try clear c49); (try clear c49b0); (try clear p49); (try clear q49); (try clear hx49); (try clear c51); (try clear c51b0); (try clear p51); (try clear q51); (try clear hx51); (try clear c52); (try clear c52b0); (try clear p52); (try clear q52); (try clear hx52); (try clear c53); (try clear c53b0); (try clear c53b1); (try clear c54); (try clear c54b0); (try clear c54b1); (try clear hx493_0); (try clear hx493_1); (try clear hx493_2); (try clear hx493_3); (try clear hx493_4); (try clear hx493_5); (try clear hx493_6); (try clear hx493_7); (try clear hx494_0); (try clear hx494_1); (try clear hx494_2); (try clear hx494_3); (try clear hx494_4); (try clear hx494_5); (try clear hx494_6); (try clear hx494_7); (try clear hx495_0); (try clear hx495_1); (try clear hx495_2); (try clear hx495_3); (try clear hx495_4); (try clear hx495_5); (try clear hx495_6); (try clear hx495_7); (try clear hx519_0); (try clear hx519_1); (try clear hx519_2); (try clear hx519_3); (try clear hx519_4); (try clear hx519_5); (try clear hx519_6); (try clear hx519_7); (try clear hx520_0); (try clear hx520_1); (try clear hx520_2); (try clear hx520_3); (try clear hx520_4); (try clear hx520_5); (try clear hx520_6); (try clear hx520_7); (try clear hx521_0); (try clear hx521_1); (try clear hx521_2); (try clear hx521_3); (try clear hx521_4); (try clear hx521_5); (try clear hx521_6); (try clear hx521_7); (try clear p2); (try clear p4); (try clear p493); (try clear p494); (try clear p495); (try clear p519); (try clear p520); (try clear p521); (try clear p6); (try clear q4); (try clear q493); (try clear q494); (try clear q495); (try clear q519); (try clear q520); (try clear q521)
            obtain ⟨kq, x124_49, rfl, HA, HJ49, HO_9, HO_11, HB⟩ := hcut
            cases kq with
            | zero => exact absurd HA.out (by simp [warplaw24_PoolOne.j4])
            | succ kj49 =>
             have H := HA.out
             clear HA
             simp only [warplaw24_PoolOne.j4] at H
             by_cases c58 : x124_49 = true
             ·
              subst c58
              have H1 : (some false) = some r := by rw [if_pos rfl] at H; exact H
              clear H
              have H := H1
              clear H1
              exact absurd (hr_.symm.trans (Option.some.inj H).symm) (by decide)
             ·
              replace c58 := Bool.eq_false_iff.mpr c58
              subst c58
              have H1 : (warplaw24_PoolOne.l1 kj49 t502 t515 (wrap64 (x13_3 + 1))) = some r := by rw [if_neg (show ¬ (false = true) by decide)] at H; exact H
              clear H
              have H := H1
              clear H1
              have H' := Aside0.mk H
              clear H
              go_wp2
              go_roundg kj49
              case measure => have := HK1.out; have := HJ19.out; have := HK3.out; have := HJ49.out; omega
              case rel => exact ⟨(wrap64 (x13_3 + 1)), (by first | rfl | (simp; done) | (simp [*]; done)), H', ⟨by have := HK1.out; have := HJ19.out; have := HK3.out; have := HJ49.out; omega⟩, ⟨by (with_reducible repeat (first | apply Kd.R_alloc | apply Kd.R_drewN | apply Kd.R_drew)); exact HO_9.out⟩, ⟨by (with_reducible repeat (first | apply Kd.R_alloc | apply Kd.R_drewN | apply Kd.R_drew)); exact HO_11.out⟩, ⟨by repeat (first | (with_reducible first | exact HB.out | apply below_alloc | apply pw_below_drewN | apply below_drew1) | exact HB.out)⟩⟩
          ·
           rw [if_neg c49] at H
           have c49b0 : decide (x13_3 < 4) = false := decide_eq_false c49
           clear c49
           by_cases c59 : 0 < (t515.length : Int)
           ·
            rw [if_pos c59] at H
            have c59b0 : decide (0 < (t515.length : Int)) = true := decide_eq_true c59
            have c59b1 : decide (0 < t515.length) = true := decide_eq_true (by omega)
            clear c59
            by_cases c60 : ((rd_T54 t515 0).f2) = 1
            ·
             rw [if_pos c60] at H
             have c60b0 : (((rd_T54 t515 0).f2) == 1) = true := beq_iff_eq.mpr c60
             have c60b1 : (((rd_T54 t515 0).f2) != 1) = false := bne_eq_false_iff_eq.mpr c60
             clear c60
             by_cases c61 : 1 < (t515.length : Int)
             ·
              rw [if_pos c61] at H
              have c61b0 : decide (1 < (t515.length : Int)) = true := decide_eq_true c61
              have c61b1 : decide (1 < t515.length) = true := decide_eq_true (by omega)
              clear c61
              by_cases c62 : ((rd_T54 t515 1).f2) = 3
              ·
               rw [if_pos c62] at H
               have c62b0 : (((rd_T54 t515 1).f2) == 3) = true := beq_iff_eq.mpr c62
               have c62b1 : (((rd_T54 t515 1).f2) != 3) = false := bne_eq_false_iff_eq.mpr c62
               clear c62
               replace H := Option.bind_eq_some_iff.mp H
               obtain ⟨t524, A630, H⟩ := H
               replace H : (if t524 = true then ((warplaw24_awake.f).bind fun t525 => (some t525)) else (some false)) = some r := H
               have A63 := Aside0.mk A630
               clear A630
               by_cases c64 : t524 = true
               ·
                subst c64
                have H1 : ((warplaw24_awake.f).bind fun t525 => (some t525)) = some r := by rw [if_pos rfl] at H; exact H
                clear H
                have H := H1
                clear H1
                replace H := Option.bind_eq_some_iff.mp H
                obtain ⟨t525, A650, H⟩ := H
                replace H : (some t525) = some r := H
                have A65 := Aside0.mk A650
                clear A650
                obtain rfl := Option.some.inj H
                obtain ⟨Ao66, co66, eo66⟩ := Kd.R_slice HO_11.out
                subst eo66
                have p522 : 0 ≤ (0 : Int) := (by omega)
                have q522 : 0 < (t515.length : Int) := of_decide_eq_true (by first | (with_reducible assumption) | assumption)
                obtain ⟨ad522, e522, hx522_0, hx522_1, hx522_2, hx522_3, hx522_4, hx522_5, hx522_6, hx522_7⟩ := at_T54 (Kd.R_reads' HO_11.out).2.2 0 p522 q522
                cases e522
                have qi522 : (0 < t515.length) = True := eq_true (by omega)
                (try rw [show ((0 : Int)).toNat = 0 from rfl] at hx522_0)
                (try rw [show 0 * 8 = 0 from rfl] at hx522_0)
                (try rw [Addr.add_zero'] at hx522_0)
                (try rw [show ((0 : Int)).toNat = 0 from rfl] at hx522_1)
                (try rw [show 0 * 8 = 0 from rfl] at hx522_1)
                (try rw [Addr.add_zero'] at hx522_1)
                (try rw [show ((0 : Int)).toNat = 0 from rfl] at hx522_2)
                (try rw [show 0 * 8 = 0 from rfl] at hx522_2)
                (try rw [Addr.add_zero'] at hx522_2)
                (try rw [show ((0 : Int)).toNat = 0 from rfl] at hx522_3)
                (try rw [show 0 * 8 = 0 from rfl] at hx522_3)
                (try rw [Addr.add_zero'] at hx522_3)
                (try rw [show ((0 : Int)).toNat = 0 from rfl] at hx522_4)
                (try rw [show 0 * 8 = 0 from rfl] at hx522_4)
                (try rw [Addr.add_zero'] at hx522_4)
                (try rw [show ((0 : Int)).toNat = 0 from rfl] at hx522_5)
                (try rw [show 0 * 8 = 0 from rfl] at hx522_5)
                (try rw [Addr.add_zero'] at hx522_5)
                (try rw [show ((0 : Int)).toNat = 0 from rfl] at hx522_6)
                (try rw [show 0 * 8 = 0 from rfl] at hx522_6)
                (try rw [Addr.add_zero'] at hx522_6)
                (try rw [show ((0 : Int)).toNat = 0 from rfl] at hx522_7)
                (try rw [show 0 * 8 = 0 from rfl] at hx522_7)
                (try rw [Addr.add_zero'] at hx522_7)
                replace p522 := eq_true p522
                replace q522 := eq_true q522
                have p523 : 0 ≤ (1 : Int) := (by omega)
                have q523 : 1 < (t515.length : Int) := of_decide_eq_true (by first | (with_reducible assumption) | assumption)
                obtain ⟨ad523, e523, hx523_0, hx523_1, hx523_2, hx523_3, hx523_4, hx523_5, hx523_6, hx523_7⟩ := at_T54 (Kd.R_reads' HO_11.out).2.2 1 p523 q523
                obtain rfl : ad522 = ad523 := (by injection e523)
                (try simp only [show (1 : Int).toNat = 1 from rfl, Nat.reduceMul, Nat.reduceEqDiff, Go.Addr.add, ↓reduceIte] at hx523_0)
                (try simp only [show (1 : Int).toNat = 1 from rfl, Nat.reduceMul, Nat.reduceEqDiff, Go.Addr.add, ↓reduceIte] at hx523_1)
                (try simp only [show (1 : Int).toNat = 1 from rfl, Nat.reduceMul, Nat.reduceEqDiff, Go.Addr.add, ↓reduceIte] at hx523_2)
                (try simp only [show (1 : Int).toNat = 1 from rfl, Nat.reduceMul, Nat.reduceEqDiff, Go.Addr.add, ↓reduceIte] at hx523_3)
                (try simp only [show (1 : Int).toNat = 1 from rfl, Nat.reduceMul, Nat.reduceEqDiff, Go.Addr.add, ↓reduceIte] at hx523_4)
                (try simp only [show (1 : Int).toNat = 1 from rfl, Nat.reduceMul, Nat.reduceEqDiff, Go.Addr.add, ↓reduceIte] at hx523_5)
                (try simp only [show (1 : Int).toNat = 1 from rfl, Nat.reduceMul, Nat.reduceEqDiff, Go.Addr.add, ↓reduceIte] at hx523_6)
                (try simp only [show (1 : Int).toNat = 1 from rfl, Nat.reduceMul, Nat.reduceEqDiff, Go.Addr.add, ↓reduceIte] at hx523_7)
                have qi523 : (1 < t515.length) = True := eq_true (by omega)
                (try rw [show ((1 : Int)).toNat = 1 from rfl] at hx523_0)
                (try rw [show 1 * 8 = 8 from rfl] at hx523_0)
                (try rw [show ((1 : Int)).toNat = 1 from rfl] at hx523_1)
                (try rw [show 1 * 8 = 8 from rfl] at hx523_1)
                (try rw [show ((1 : Int)).toNat = 1 from rfl] at hx523_2)
                (try rw [show 1 * 8 = 8 from rfl] at hx523_2)
                (try rw [show ((1 : Int)).toNat = 1 from rfl] at hx523_3)
                (try rw [show 1 * 8 = 8 from rfl] at hx523_3)
                (try rw [show ((1 : Int)).toNat = 1 from rfl] at hx523_4)
                (try rw [show 1 * 8 = 8 from rfl] at hx523_4)
                (try rw [show ((1 : Int)).toNat = 1 from rfl] at hx523_5)
                (try rw [show 1 * 8 = 8 from rfl] at hx523_5)
                (try rw [show ((1 : Int)).toNat = 1 from rfl] at hx523_6)
                (try rw [show 1 * 8 = 8 from rfl] at hx523_6)
                (try rw [show ((1 : Int)).toNat = 1 from rfl] at hx523_7)
                (try rw [show 1 * 8 = 8 from rfl] at hx523_7)
                replace p523 := eq_true p523
                replace q523 := eq_true q523
                go_wp2_with (first | (go_at_call 24; (refine (warpref1_Ints.calls k3 _ _ ([] : List Int) _ _ ([] : List Int) true _ ?side1 ?side2 ?side3 ?side4 A63.out).mono ?_); (case side1 => exact Kd.C_nil _ _); (case side2 => exact Nat.le_refl _); (case side3 => exact Kd.C_nil _ _); (case side4 => exact Nat.le_refl _); rintro e w' ⟨rfl, ⟨nd, rfl⟩⟩) | (go_at_call 19; (with_reducible refine (warplaw24_awake.calls  t525 _ A65.out).mono ?_); rintro e w67 ⟨rfl, hb⟩; have n0_ := Aside0.mk (Kd.R_below (by (with_reducible repeat (first | apply Kd.R_alloc | apply Kd.R_drewN | apply Kd.R_drew)); exact HO_9.out) hb); have n1_ := Aside0.mk (Kd.R_below (by (with_reducible repeat (first | apply Kd.R_alloc | apply Kd.R_drewN | apply Kd.R_drew)); exact HO_11.out) hb); have n2_ := Aside0.mk (below_step (by repeat (first | (with_reducible first | exact HB.out | apply below_alloc | apply pw_below_drewN | apply below_drew1) | exact HB.out)) hb); clear HO_9; clear HO_11; clear HB; have HO_9 := n0_; have HO_11 := n1_; have HB := n2_; clear n0_ n1_ n2_; (try clear hb); (try clear hb2); (try clear hk); (try clear hi)))
                go_ret
                exact ⟨by first | rfl | (simp [errW_none, errW_some] <;> rfl) | (simp [*, errW_none, errW_some] <;> rfl), by repeat (first | (with_reducible first | exact HB.out | apply below_alloc | apply pw_below_drewN | apply below_drew1) | exact HB.out)⟩
               ·
                replace c64 := Bool.eq_false_iff.mpr c64
                subst c64
                have H1 : (some false) = some r := by rw [if_neg (show ¬ (false = true) by decide)] at H; exact H
                clear H
                have H := H1
                clear H1
                exact absurd (hr_.symm.trans (Option.some.inj H).symm) (by decide)
              ·
               rw [if_neg c62] at H
               have c62b0 : (((rd_T54 t515 1).f2) == 3) = false := beq_eq_false_iff_ne.mpr c62
               have c62b1 : (((rd_T54 t515 1).f2) != 3) = true := bne_iff_ne.mpr c62
               exact absurd (hr_.symm.trans (Option.some.inj H).symm) (by decide)
             ·
              rw [if_neg c61] at H
              exact absurd H (by simp)
            ·
             rw [if_neg c60] at H
             have c60b0 : (((rd_T54 t515 0).f2) == 1) = false := beq_eq_false_iff_ne.mpr c60
             have c60b1 : (((rd_T54 t515 0).f2) != 1) = true := bne_iff_ne.mpr c60
             exact absurd (hr_.symm.trans (Option.some.inj H).symm) (by decide)
           ·
            rw [if_neg c59] at H
            exact absurd H (by simp)

/-- The one plain statement of warplaw24_PoolOne. -/
def warplaw24_PoolOne.Pure : Prop := ∀ (l0 : List Int) (l1 : List Int), ((fun l : List Int => l.length ≤ maxLen ∧ ∀ x ∈ l, (fun n : Int => (Lit.int .u8 n).wf = true) x) l0) → ((fun l : List Int => l.length ≤ maxLen ∧ ∀ x ∈ l, (fun n : Int => (Lit.int .i64 n).wf = true) x) l1) → ∃ k, warplaw24_PoolOne.f k l0 l1 = some true

end Go.Proofs.YtbkdnenlffiaeaaDoor.P
