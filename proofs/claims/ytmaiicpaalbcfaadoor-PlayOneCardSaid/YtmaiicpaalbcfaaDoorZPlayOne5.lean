/-
The proofs that YtmaiicpaalbcfaaDoorLawPlayOne needs, out of the texts of this seat; conditions: those named in each theorem.
-/
import Derived.Test.YtmaiicpaalbcfaaDoorZPlayOne4
section
namespace Go.Proofs.YtmaiicpaalbcfaaDoor.P
open Go.RowKit Go.Proofs.YtmaiicpaalbcfaaDoorW.PrintWords Go.Proofs.YtmaiicpaalbcfaaDoorW.PrintLast Go.Proofs.YtmaiicpaalbcfaaDoorW.PrintMore
attribute [local go_sem] max2_int min2_int max_two min_two max_three min_three max_four min_four   -- for this text's walks alone
set_option linter.unusedVariables false
set_option linter.unusedSimpArgs false
attribute [local go_sem high] eqA40
mutual
def warplaw5_PlayOne.j0 : Nat → List Int → List Int → List Int → Int → Bool → Option (Bool)
 | 0, _, _, _, _, _ => none
 | k + 1, x0, x1, x2, x7, x26 => if x26 = true then ((warplaw5_awake.f k).bind fun t273 => (some t273)) else ((warplaw4_Ops.f k x1 x7).bind fun t274 => ((warplaw4_Prio.f k x0 x7).bind fun t277 => ((play_Play.f t277 (([t274] : List (List (S40)))) x2).bind fun bt283 => (if (bt283.1.length : Int) = (t274.length : Int) then (warplaw5_PlayOne.j1 k x7 t274 bt283.1 ((bt283.2.1.length : Int) != x7)) else (warplaw5_PlayOne.j1 k x7 t274 bt283.1 true)))))
def warplaw5_PlayOne.j1 : Nat → Int → List (S40) → List (S42) → Bool → Option (Bool)
 | 0, _, _, _, _ => none
 | k + 1, x7, x8, x9, x52 => if x52 = true then (some false) else ((warpref1_NewPart.f k x7).bind fun t290 => (warplaw5_PlayOne.l0 k x8 x9 t290 0))
def warplaw5_PlayOne.l0 : Nat → List (S40) → List (S42) → List Int → Int → Option (Bool)
 | 0, _, _, _, _ => none
 | k + 1, x8, x9, x12, x13 => if x13 < (x8.length : Int) then (if 0 ≤ x13 then ((warpref1_Same.f x12 ((rd_T40 x8 x13).f1) ((rd_T40 x8 x13).f2)).bind fun t295 => (if t295 = true then (warplaw5_PlayOne.j3 k x8 x9 x12 x13 1) else (warplaw5_PlayOne.j3 k x8 x9 x12 x13 0))) else (none)) else ((warplaw5_awake.f k).bind fun t312 => (some t312))
def warplaw5_PlayOne.j3 : Nat → List (S40) → List (S42) → List Int → Int → Int → Option (Bool)
 | 0, _, _, _, _, _ => none
 | k + 1, x8, x9, x12, x13, x14 => if 0 ≤ x13 then (if x13 < (x8.length : Int) then (if ((rd_T40 x8 x13).f0) = 1 then (if x13 < (x9.length : Int) then ((warpref1_Same.f x12 ((rd_T40 x8 x13).f1) ((rd_T42 x9 x13).f2)).bind fun t299 => (if t299 = true then (warplaw5_PlayOne.j4 k x8 x9 x12 x13) else (some false))) else (none)) else (if ((rd_T40 x8 x13).f0) = 2 then (if x13 < (x9.length : Int) then (if ((rd_T42 x9 x13).f2) = x14 then (warplaw5_PlayOne.j4 k x8 x9 x12 x13) else (some false)) else (none)) else (if x13 < (x9.length : Int) then (if ((rd_T42 x9 x13).f2) = (wrap64 (1 - x14)) then ((warpref1_Unite.f k x12 ((rd_T40 x8 x13).f1) ((rd_T40 x8 x13).f2)).bind fun t304 => (warplaw5_PlayOne.j4 k x8 x9 t304 x13)) else (some false)) else (none)))) else (none)) else (none)
def warplaw5_PlayOne.j4 : Nat → List (S40) → List (S42) → List Int → Int → Option (Bool)
 | 0, _, _, _, _ => none
 | k + 1, x8, x9, x12, x13 => if 0 ≤ x13 then (if x13 < (x9.length : Int) then (if x13 < (x8.length : Int) then (if (!(((rd_T42 x9 x13).f1.f0) == ((rd_T40 x8 x13).f0)) || (!(((rd_T42 x9 x13).f1.f1) == ((rd_T40 x8 x13).f1)) || (!(((rd_T42 x9 x13).f1.f2) == ((rd_T40 x8 x13).f2))))) = true then (warplaw5_PlayOne.j5 k x8 x9 x12 x13 true) else (if ((rd_T42 x9 x13).f0) = 0 then (if x13 > 0 then (if 0 ≤ (wrap64 (x13 - 1)) then (if (wrap64 (x13 - 1)) < (x9.length : Int) then (warplaw5_PlayOne.j5 k x8 x9 x12 x13 (((rd_T42 x9 x13).f3) != (wrap64 (((rd_T42 x9 (wrap64 (x13 - 1))).f5) + 1)))) else (none)) else (none)) else (warplaw5_PlayOne.j5 k x8 x9 x12 x13 false)) else (warplaw5_PlayOne.j5 k x8 x9 x12 x13 true))) else (none)) else (none)) else (none)
def warplaw5_PlayOne.j5 : Nat → List (S40) → List (S42) → List Int → Int → Bool → Option (Bool)
 | 0, _, _, _, _, _ => none
 | k + 1, x8, x9, x12, x13, x158 => if x158 = true then (some false) else (warplaw5_PlayOne.l0 k x8 x9 x12 (wrap64 (x13 + 1)))
end
def warplaw5_PlayOne.f (k : Nat) (l0 : List Int) (l1 : List Int) (l2 : List Int) : Option (Bool) := if (l1.length : Int) > 90 then (warplaw5_PlayOne.j0 k l0 l1 l2 (1 + ((l0.length : Int) % 16)) true) else (warplaw5_PlayOne.j0 k l0 l1 l2 (1 + ((l0.length : Int) % 16)) (decide ((l2.length : Int) > 200)))
def warplaw5_PlayOne.T13 : Bool × List (List Nat × List Nat) := (true, [([], []), ([], []), ([], []), ([1, 2], [1, 2]), ([3], [3]), ([4], [4]), ([], []), ([], []), ([6, 7], [6, 7]), ([8], [8]), ([9], [9]), ([0, 5, 10], [0, 5, 10])])
def warplaw5_PlayOne.B13 : List Nat := [0, 0, 0, 6, 14, 30, 0, 0, 192, 448, 960, 2047]
theorem warplaw5_PlayOne.tab13 : rtab .any (opsOf Tryd.f7 13) = warplaw5_PlayOne.T13 := by kernel_rfl
theorem warplaw5_PlayOne.bits13 : waitsOk warplaw5_PlayOne.T13.2 warplaw5_PlayOne.B13 = true := by kernel_rfl
def warplaw5_PlayOne.T18 : Bool × List (List Nat × List Nat) := (true, [([], []), ([], []), ([], []), ([1, 2], [1, 2]), ([3], [3]), ([4], [4]), ([], []), ([], []), ([6, 7], [6, 7]), ([8], [8]), ([9], [9]), ([0, 5, 10], [0, 5, 10]), ([11, 11, 0, 1, 2, 3, 4, 5, 6, 7, 8, 9, 10, 11], [0, 11])])
def warplaw5_PlayOne.B18 : List Nat := [0, 0, 0, 6, 14, 30, 0, 0, 192, 448, 960, 2047, 4095]
theorem warplaw5_PlayOne.tab18 : rtab .any (opsOf Tryd.f7 18) = warplaw5_PlayOne.T18 := by kernel_rfl
theorem warplaw5_PlayOne.bits18 : waitsOk warplaw5_PlayOne.T18.2 warplaw5_PlayOne.B18 = true := by kernel_rfl
def warplaw5_PlayOne.T20 : Bool × List (List Nat × List Nat) := (true, [([], []), ([], []), ([], []), ([1, 2], [1, 2]), ([3], [3]), ([4], [4]), ([], []), ([], []), ([6, 7], [6, 7]), ([8], [8]), ([9], [9]), ([0, 5, 10], [0, 5, 10]), ([11], [11])])
def warplaw5_PlayOne.B20 : List Nat := [0, 0, 0, 6, 14, 30, 0, 0, 192, 448, 960, 2047, 4095]
theorem warplaw5_PlayOne.tab20 : rtab .any (opsOf Tryd.f7 20) = warplaw5_PlayOne.T20 := by kernel_rfl
theorem warplaw5_PlayOne.bits20 : waitsOk warplaw5_PlayOne.T20.2 warplaw5_PlayOne.B20 = true := by kernel_rfl
def warplaw5_PlayOne.T25 : Bool × List (List Nat × List Nat) := (true, [([], []), ([], []), ([0, 1], [0, 1]), ([2], [2]), ([3], [3]), ([], []), ([], []), ([5, 6], [5, 6]), ([7], [7]), ([4, 8], [4, 8]), ([9], [9]), ([10], [10]), ([10], [10]), ([11, 12, 10], [10, 11, 12]), ([13, 10], [10, 13]), ([14, 10], [10, 14]), ([15, 10], [10, 15]), ([10, 16], [10, 16]), ([17, 10], [17]), ([18], [18]), ([19, 18], [18, 19]), ([20, 18, 18], [18, 20]), ([21], [21]), ([21], [21]), ([22, 23, 21], [21, 22, 23]), ([24, 21], [21, 24]), ([25, 21], [21, 25]), ([21], [21]), ([21], [21]), ([28, 21], [21, 28]), ([27, 29, 21], [21, 27, 29]), ([30, 21], [21, 30]), ([31, 21], [21, 31]), ([32, 21], [21, 32]), ([26, 33, 21], [21, 26, 33]), ([21, 34, 18], [18, 21, 34]), ([18, 35], [18, 35])])
def warplaw5_PlayOne.B25 : List Nat := [0, 0, 3, 7, 15, 0, 0, 96, 224, 511, 1023, 2047, 2047, 8191, 16383, 32767, 65535, 131071, 262143, 524287, 1048575, 2097151, 4194303, 4194303, 16777215, 33554431, 67108863, 4194303, 4194303, 272629759, 943718399, 2017460223, 4164943871, 8459911167, 17179869183, 34359738367, 68719476735]
theorem warplaw5_PlayOne.tab25 : rtab .any (opsOf Tryd.f7 25) = warplaw5_PlayOne.T25 := by kernel_rfl
theorem warplaw5_PlayOne.bits25 : waitsOk warplaw5_PlayOne.T25.2 warplaw5_PlayOne.B25 = true := by kernel_rfl
set_option maxHeartbeats 8000000 in
set_option maxRecDepth 100000 in
theorem warplaw5_PlayOne.calls (k : Nat) (A0 : Option Addr) (c0 : Nat) (l0 : List Int) (A1 : Option Addr) (c1 : Nat) (l1 : List Int) (A2 : Option Addr) (c2 : Nat) (l2 : List Int) (r : Bool) (w : World) (hr0 : Kd.C (Kd.int .u8) w A0 l0.length l0) (hc0 : l0.length ≤ c0) (hr1 : Kd.C (Kd.int .u8) w A1 l1.length l1) (hc1 : l1.length ≤ c1) (hr2 : Kd.C (Kd.int .i64) w A2 l2.length l2) (hc2 : l2.length ≤ c2) (h : warplaw5_PlayOne.f k l0 l1 l2 = some r) (hT_ : Tab w := by first | exact hT_ | exact Tab.drewN hT_ _ | (refine Tab.below hT_ ?_; repeat (first | (with_reducible first | exact HB.out | apply below_alloc | apply pw_below_drewN | apply below_drew1) | exact HB.out))) :
 Calls Tryd.prog 7 #[.slice A0 l0.length c0, .slice A1 l1.length c1, .slice A2 l2.length c2] w fun e w' => e = .returned (.bool r) ∧ Below w.heap.size w w' := by
 have hu40 := Tryd.underlying40
 have HR0 := Aside0.mk hr0
 have HC0 := Aside0.mk hc0
 clear hr0 hc0
 have HR1 := Aside0.mk hr1
 have HC1 := Aside0.mk hc1
 clear hr1 hc1
 have HR2 := Aside0.mk hr2
 have HC2 := Aside0.mk hc2
 clear hr2 hc2
 have HB := Aside0.mk (Below.refl w.heap.size w)
 have H : (if (l1.length : Int) > 90 then (warplaw5_PlayOne.j0 k l0 l1 l2 (1 + ((l0.length : Int) % 16)) true) else (warplaw5_PlayOne.j0 k l0 l1 l2 (1 + ((l0.length : Int) % 16)) (decide ((l2.length : Int) > 200)))) = some r := h
 clear h
 have HC4 := Aside0.mk H
 clear H
 go_enter Tryd.func7, Tryd.ntmps7
 go_upto_region 2 with (fail)
 go_cut [26] (fun v26 wc => ∃ (kq : Nat) (x26_3 : Bool), v26 = .bool x26_3 ∧ Aside0 (warplaw5_PlayOne.j0 kq l0 l1 l2 (1 + ((l0.length : Int) % 16)) x26_3 = some r) ∧ Aside0 (kq ≤ k) ∧ Aside0 (Below w.heap.size w wc))
 case first =>
  have H := HC4.out
  clear HC4
  by_cases c5 : (l1.length : Int) > 90
  ·
   rw [if_pos c5] at H
   have c5b0 : decide (90 < (l1.length : Int)) = true := decide_eq_true c5
   have c5b1 : decide (90 < l1.length) = true := decide_eq_true (by omega)
   clear c5
   (first | rw [c5b0] | (simp only [i64_w, i32_w]; rw [c5b0]) | skip)
   have H' := Aside0.mk H
   clear H
   go_wp2
   go_meet
   case rel => exact ⟨_, (true), (by first | rfl | (simp; done) | (simp [*]; done)), H', ⟨by first | omega | exact Nat.le_refl _⟩, ⟨by repeat (first | (with_reducible first | exact HB.out | apply below_alloc | apply pw_below_drewN | apply below_drew1) | exact HB.out)⟩⟩
  ·
   rw [if_neg c5] at H
   have c5b0 : decide (90 < (l1.length : Int)) = false := decide_eq_false c5
   have c5b1 : decide (90 < l1.length) = false := decide_eq_false (by omega)
   clear c5
   (first | rw [c5b0] | (simp only [i64_w, i32_w]; rw [c5b0]) | skip)
   have H' := Aside0.mk H
   clear H
   go_wp2
   go_meet
   case rel => exact ⟨_, (decide ((l2.length : Int) > 200)), (by first | rfl | (simp; done) | (simp [*]; done)), H', ⟨by first | omega | exact Nat.le_refl _⟩, ⟨by repeat (first | (with_reducible first | exact HB.out | apply below_alloc | apply pw_below_drewN | apply below_drew1) | exact HB.out)⟩⟩
 case rest =>
  clear HC4
  (try clear c1); (try clear c2); (try clear p2); (try clear c5); (try clear c5b0); (try clear c5b1)
  obtain ⟨kq, x26_3, rfl, HA, HJ3, HB⟩ := hcut
  cases kq with
  | zero => exact absurd HA.out (by simp [warplaw5_PlayOne.j0])
  | succ kj3 =>
   have H := HA.out
   clear HA
   simp only [warplaw5_PlayOne.j0] at H
   by_cases c6 : x26_3 = true
   ·
    subst c6
    have H1 : ((warplaw5_awake.f kj3).bind fun t273 => (some t273)) = some r := by rw [if_pos rfl] at H; exact H
    clear H
    have H := H1
    clear H1
    replace H := Option.bind_eq_some_iff.mp H
    obtain ⟨t273, A70, H⟩ := H
    replace H : (some t273) = some r := H
    have A7 := Aside0.mk A70
    clear A70
    obtain rfl := Option.some.inj H
    go_wp2_with (first | ((with_reducible refine gate_callee (f := 10) rfl ?_); refine goesL_ (some 27) rfl rfl Tryd.func10 (by kernel_rfl) rfl #[] rfl (by (try simp only [List.map_toArray, List.map_cons, List.map_nil]); first | done | rfl | (simp only [List.length_drop, List.length_take]; rfl)) ?_; (with_reducible refine (warplaw5_awake.calls kj3  t273 _ A7.out).mono ?_); rintro e w8 ⟨rfl, hb⟩; refine ⟨_, rfl, ?_⟩; have n0_ := Aside0.mk (below_step (by repeat (first | (with_reducible first | exact HB.out | apply below_alloc | apply pw_below_drewN | apply below_drew1) | exact HB.out)) hb); clear HB; have HB := n0_; clear n0_; (try clear hb); (try clear hb2); (try clear hk); (try clear hi)))
    go_ret
    exact ⟨by first | rfl | (simp [errW_none, errW_some] <;> rfl) | (simp [*, errW_none, errW_some] <;> rfl), by repeat (first | (with_reducible first | exact HB.out | apply below_alloc | apply pw_below_drewN | apply below_drew1) | exact HB.out)⟩
   ·
    replace c6 := Bool.eq_false_iff.mpr c6
    subst c6
    have H1 : ((warplaw4_Ops.f kj3 l1 (1 + ((l0.length : Int) % 16))).bind fun t274 => ((warplaw4_Prio.f kj3 l0 (1 + ((l0.length : Int) % 16))).bind fun t277 => ((play_Play.f t277 (([t274] : List (List (S40)))) l2).bind fun bt283 => (if (bt283.1.length : Int) = (t274.length : Int) then (warplaw5_PlayOne.j1 kj3 (1 + ((l0.length : Int) % 16)) t274 bt283.1 ((bt283.2.1.length : Int) != (1 + ((l0.length : Int) % 16)))) else (warplaw5_PlayOne.j1 kj3 (1 + ((l0.length : Int) % 16)) t274 bt283.1 true))))) = some r := by rw [if_neg (show ¬ (false = true) by decide)] at H; exact H
    clear H
    have H := H1
    clear H1
    replace H := Option.bind_eq_some_iff.mp H
    obtain ⟨t274, A90, H⟩ := H
    replace H : ((warplaw4_Prio.f kj3 l0 (1 + ((l0.length : Int) % 16))).bind fun t277 => ((play_Play.f t277 (([t274] : List (List (S40)))) l2).bind fun bt283 => (if (bt283.1.length : Int) = (t274.length : Int) then (warplaw5_PlayOne.j1 kj3 (1 + ((l0.length : Int) % 16)) t274 bt283.1 ((bt283.2.1.length : Int) != (1 + ((l0.length : Int) % 16)))) else (warplaw5_PlayOne.j1 kj3 (1 + ((l0.length : Int) % 16)) t274 bt283.1 true)))) = some r := H
    have A9 := Aside0.mk A90
    clear A90
    replace H := Option.bind_eq_some_iff.mp H
    obtain ⟨t277, A100, H⟩ := H
    replace H : ((play_Play.f t277 (([t274] : List (List (S40)))) l2).bind fun bt283 => (if (bt283.1.length : Int) = (t274.length : Int) then (warplaw5_PlayOne.j1 kj3 (1 + ((l0.length : Int) % 16)) t274 bt283.1 ((bt283.2.1.length : Int) != (1 + ((l0.length : Int) % 16)))) else (warplaw5_PlayOne.j1 kj3 (1 + ((l0.length : Int) % 16)) t274 bt283.1 true))) = some r := H
    have A10 := Aside0.mk A100
    clear A100
    obtain ⟨y280, hy280⟩ : ∃ y_ : List (List (S40)), y_ = (([t274] : List (List (S40)))) := ⟨_, rfl⟩
    replace H : ((play_Play.f t277 y280 l2).bind fun bt283 => (if (bt283.1.length : Int) = (t274.length : Int) then (warplaw5_PlayOne.j1 kj3 (1 + ((l0.length : Int) % 16)) t274 bt283.1 ((bt283.2.1.length : Int) != (1 + ((l0.length : Int) % 16)))) else (warplaw5_PlayOne.j1 kj3 (1 + ((l0.length : Int) % 16)) t274 bt283.1 true))) = some r := by first | (rw [hy280]; with_reducible exact H) | (have H2_ := (Option.bind_some _ _).symm.trans H; rw [hy280]; with_reducible exact H2_) | (have H2_ := (Option.bind_some _ _).symm.trans H; with_reducible exact H2_) | with_reducible exact H | (rw [hy280]; exact H) | exact H
    have Ny280 := Aside0.mk hy280
    clear hy280
    replace H := Option.bind_eq_some_iff.mp H
    obtain ⟨⟨t283, t284, t285⟩, A110, H⟩ := H
    replace H : (if (t283.length : Int) = (t274.length : Int) then (warplaw5_PlayOne.j1 kj3 (1 + ((l0.length : Int) % 16)) t274 t283 ((t284.length : Int) != (1 + ((l0.length : Int) % 16)))) else (warplaw5_PlayOne.j1 kj3 (1 + ((l0.length : Int) % 16)) t274 t283 true)) = some r := H
    have A11 := Aside0.mk A110
    clear A110
    have HC12 := Aside0.mk H
    clear H
    go_upto_region 6 with (first | ((with_reducible refine gate_callee (f := 17) rfl ?_); refine goesL_ (some 30) rfl rfl Tryd.func17 (by kernel_rfl) rfl #[.slice A1 l1.length c1, .int .i64 (1 + ((l0.length : Int) % 16))] rfl (by (try simp only [List.map_toArray, List.map_cons, List.map_nil]); first | done | rfl | (simp only [List.length_drop, List.length_take]; rfl)) ?_; (with_reducible refine (warplaw4_Ops.calls kj3 _ _ l1 (1 + ((l0.length : Int) % 16)) t274 _ ?side1 ?side2 A9.out).mono ?_); (case side1 => repeat (first | exact (Kd.C_below HR1.out HB.out) | (with_reducible refine Kd.C_alloc ?_ _) | (with_reducible refine Kd.C_drewN ?_ _) | (with_reducible refine Kd.C_drew ?_))); (case side2 => exact HC1.out); rintro e w13 ⟨v275, rfl, ho0, hb⟩; refine ⟨_, rfl, ?_⟩; have n0_ := Aside0.mk (Kd.R_lower ho0 (below_size (by repeat (first | (with_reducible first | exact HB.out | apply below_alloc | apply pw_below_drewN | apply below_drew1) | exact HB.out)))); have n1_ := Aside0.mk (below_step (by repeat (first | (with_reducible first | exact HB.out | apply below_alloc | apply pw_below_drewN | apply below_drew1) | exact HB.out)) hb); clear HB; have HO276 := n0_; have HB := n1_; clear n0_ n1_; (try clear hb); (try clear hb2); (try clear hk); (try clear hi); (try clear ho0)) | ((with_reducible refine gate_callee (f := 15) rfl ?_); refine goesL_ (some 34) rfl rfl Tryd.func15 (by kernel_rfl) rfl #[.slice A0 l0.length c0, .int .i64 (1 + ((l0.length : Int) % 16))] rfl (by (try simp only [List.map_toArray, List.map_cons, List.map_nil]); first | done | rfl | (simp only [List.length_drop, List.length_take]; rfl)) ?_; (with_reducible refine (warplaw4_Prio.calls kj3 _ _ l0 (1 + ((l0.length : Int) % 16)) t277 _ ?side1 ?side2 A10.out).mono ?_); (case side1 => repeat (first | exact (Kd.C_below HR0.out HB.out) | (with_reducible refine Kd.C_alloc ?_ _) | (with_reducible refine Kd.C_drewN ?_ _) | (with_reducible refine Kd.C_drew ?_))); (case side2 => exact HC0.out); rintro e w14 ⟨v278, rfl, ho0, hb⟩; refine ⟨_, rfl, ?_⟩; have n0_ := Aside0.mk (Kd.R_below (by (with_reducible repeat (first | apply Kd.R_alloc | apply Kd.R_drewN | apply Kd.R_drew)); exact HO276.out) hb); have n1_ := Aside0.mk (Kd.R_lower ho0 (below_size (by repeat (first | (with_reducible first | exact HB.out | apply below_alloc | apply pw_below_drewN | apply below_drew1) | exact HB.out)))); have n2_ := Aside0.mk (below_step (by repeat (first | (with_reducible first | exact HB.out | apply below_alloc | apply pw_below_drewN | apply below_drew1) | exact HB.out)) hb); clear HO276; clear HB; have HO276 := n0_; have HO279 := n1_; have HB := n2_; clear n0_ n1_ n2_; (try clear hb); (try clear hb2); (try clear hk); (try clear hi); (try clear ho0); obtain ⟨Ao15, co15, eo15⟩ := Kd.R_slice HO276.out; subst eo15) | ((with_reducible refine gate_dst (N := 36) rfl ?_); (try (refine gate_guard (by rfl) ?_; dsimp only)); refine Kd.N_lit (Kd.slice 40 k40) _ 43 ?hg (N' := 36) ?hd (xs := ([t274] : List (List (S40)))) (inner := [.slice Ao15 t274.length co15]) (ok := (fun k_ => some k_ ≠ (v278 : Value).ownBlock)) (okp := (fun k_ => some k_ ≠ (v278 : Value).ownBlock)) ?hr ?hp (fun _ hk => hk) ((show ∀ k_, w14.heap.size ≤ k_ → (fun k_ => some k_ ≠ (v278 : Value).ownBlock) k_ from fun k_ hk => Kd.fresh' (Kd.R_lt (by (with_reducible repeat (first | apply Kd.R_alloc | apply Kd.R_drewN | apply Kd.R_drew)); exact HO279.out)) k_ hk) _ (Nat.le_refl _)) (Below.refl _ _) (Nat.le_refl _) (by simp) ?_; (case hd => rfl); (case hg => rfl); (case hr => first | (go_simp; done) | (go_simp; rfl)); (case hp => exact (Reps.one (show Kd.FK (Kd.slice 40 k40) _ _ t274 [.slice Ao15 t274.length co15] from (Kd.FK_slice_mk (Kd.R_reads' (Kd.R_mono (ok' := (fun k_ => some k_ ≠ (v278 : Value).ownBlock)) (Kd.R_apart' (HO276.out) (Kd.R_typed HO279.out) (by decide)) (fun k_ hk => hk.2))).2.1 (Kd.R_F (Kd.R_mono (ok' := (fun k_ => some k_ ≠ (v278 : Value).ownBlock)) (Kd.R_apart' (HO276.out) (Kd.R_typed HO279.out) (by decide)) (fun k_ hk => hk.2))))) (Reps.none _ _))); intro v281 w16 ho17 hb hg_ hnew_; clear hg_ hnew_; (first | rw [← Ny280.out] at ho17 | (simp only [Int.reduceToNat] at ho17; rw [← Ny280.out] at ho17)); have n9_ := Aside0.mk (Kd.R_below (by (with_reducible repeat (first | apply Kd.R_alloc | apply Kd.R_drewN | apply Kd.R_drew)); exact HO276.out) hb); have n0_ := Aside0.mk (Kd.R_below (by (with_reducible repeat (first | apply Kd.R_alloc | apply Kd.R_drewN | apply Kd.R_drew)); exact HO279.out) hb); have n1_ := Aside0.mk (Kd.N_lower ho17 (below_size (by repeat (first | (with_reducible first | exact HB.out | apply below_alloc | apply pw_below_drewN | apply below_drew1) | exact HB.out)))); have n2_ := Aside0.mk (below_step (by repeat (first | (with_reducible first | exact HB.out | apply below_alloc | apply pw_below_drewN | apply below_drew1) | exact HB.out)) hb); clear HO279; clear HB; clear HO276; have HO276 := n9_; clear n9_; have HO279 := n0_; have HO282 := n1_; have HB := n2_; clear n0_ n1_ n2_; clear hb ho17; obtain ⟨Ao18, co18, eo18⟩ := Kd.R_slice HO279.out; subst eo18; obtain ⟨Ao19, co19, eo19⟩ := Kd.N_slice HO282.out; subst eo19) | ((with_reducible refine gate_callee (f := 11) rfl ?_); refine goesL_ (some 38) rfl rfl Tryd.func11 (by kernel_rfl) rfl #[.slice Ao18 t277.length co18, .slice Ao19 y280.length co19, .slice A2 l2.length c2] rfl (by (try simp only [List.map_toArray, List.map_cons, List.map_nil]); first | done | rfl | (simp only [List.length_drop, List.length_take]; rfl)) ?_; (with_reducible refine (play_Play.calls _ _ t277 _ _ y280 _ _ l2 t283 t284 t285 _ ?side1 ?side2 ?side3 ?side4 ?side5 ?side6 A11.out).mono ?_); (case side1 => repeat (first | exact (Kd.R_reads' HO279.out).2.2 | (with_reducible refine Kd.C_alloc ?_ _) | (with_reducible refine Kd.C_drewN ?_ _) | (with_reducible refine Kd.C_drew ?_))); (case side2 => exact (Kd.R_reads' HO279.out).2.1); (case side3 => repeat (first | exact (Kd.N_reads' HO282.out).2.2 | (with_reducible refine Kd.C_alloc ?_ _) | (with_reducible refine Kd.C_drewN ?_ _) | (with_reducible refine Kd.C_drew ?_))); (case side4 => exact (Kd.N_reads' HO282.out).2.1); (case side5 => repeat (first | exact (Kd.C_below HR2.out HB.out) | (with_reducible refine Kd.C_alloc ?_ _) | (with_reducible refine Kd.C_drewN ?_ _) | (with_reducible refine Kd.C_drew ?_))); (case side6 => exact HC2.out); rintro e w20 ⟨v286, v288, rfl, ho0, ho1, hb⟩; refine ⟨_, rfl, ?_⟩; have n9_ := Aside0.mk (Kd.R_below (by (with_reducible repeat (first | apply Kd.R_alloc | apply Kd.R_drewN | apply Kd.R_drew)); exact HO276.out) hb); have n0_ := Aside0.mk (Kd.R_elder' (by (with_reducible repeat (first | apply Kd.R_alloc | apply Kd.R_drewN | apply Kd.R_drew)); exact HO279.out) (Kd.R_base ho1) hb); have n1_ := Aside0.mk (Kd.N_mono (Kd.N_told (Kd.N_told (Kd.N_old (by (with_reducible repeat (first | apply Kd.N_alloc | apply Kd.N_drewN | apply Kd.N_drew)); exact HO282.out) hb) (Kd.R_base ho0)) (Kd.R_base ho1)) (fun _ h_ => h_.1)); have n2_ := Aside0.mk (Kd.R_lower ho0 (below_size (by repeat (first | (with_reducible first | exact HB.out | apply below_alloc | apply pw_below_drewN | apply below_drew1) | exact HB.out)))); have n3_ := Aside0.mk (Kd.R_lower (Kd.R_new' ho1 (Kd.R_lt (by (with_reducible repeat (first | apply Kd.R_alloc | apply Kd.R_drewN | apply Kd.R_drew)); exact HO279.out))) (below_size (by repeat (first | (with_reducible first | exact HB.out | apply below_alloc | apply pw_below_drewN | apply below_drew1) | exact HB.out)))); have n4_ := Aside0.mk (below_step (by repeat (first | (with_reducible first | exact HB.out | apply below_alloc | apply pw_below_drewN | apply below_drew1) | exact HB.out)) hb); clear HO279; clear HO282; clear HB; clear HO276; have HO276 := n9_; clear n9_; have HO279 := n0_; have HO282 := n1_; have HO287 := n2_; have HO289 := n3_; have HB := n4_; clear n0_ n1_ n2_ n3_ n4_; (try clear hb); (try clear hb2); (try clear hk); (try clear hi); (try clear ho0); (try clear ho1)))
    (try simp only [Act.put, List.setIfInBounds_toArray, List.set_cons_zero, List.set_cons_succ])
    go_cut [52] (fun v52 wc => ∃ (kq : Nat) (x52_11 : Bool), v52 = .bool x52_11 ∧ Aside0 (warplaw5_PlayOne.j1 kq (1 + ((l0.length : Int) % 16)) t274 t283 x52_11 = some r) ∧ Aside0 (kq ≤ kj3) ∧ Aside0 (Kd.R k40 40 wc w.heap.size (fun _ => True) (.slice Ao15 t274.length co15) t274) ∧ Aside0 (Kd.R k42 42 wc w.heap.size (fun _ => True) v286 t283) ∧ Aside0 (Below w.heap.size w wc))
    case first =>
     have H := HC12.out
     clear HC12
     by_cases c21 : (t283.length : Int) = (t274.length : Int)
     ·
      rw [if_pos c21] at H
      have c21b0 : ((t283.length : Int) == (t274.length : Int)) = true := beq_iff_eq.mpr c21
      have c21b1 : ((t283.length : Int) != (t274.length : Int)) = false := bne_eq_false_iff_eq.mpr c21
      have c21b2 : (t283.length == t274.length) = true := by first | simpa using c21 | (simp at c21 ⊢; omega)
      clear c21
      (first | rw [c21b0] | (simp only [i64_w, i32_w]; rw [c21b0]) | skip)
      have H' := Aside0.mk H
      clear H
      obtain ⟨Ao22, co22, eo22⟩ := Kd.R_slice HO287.out
      subst eo22
      obtain ⟨Ao23, co23, eo23⟩ := Kd.R_slice HO289.out
      subst eo23
      go_wp2
      go_meet
      case rel => exact ⟨_, (((t284.length : Int) != (1 + ((l0.length : Int) % 16)))), (by first | rfl | (simp; done) | (simp [*]; done)), H', ⟨by have := HJ3.out; first | omega | exact Nat.le_refl _⟩, ⟨by (with_reducible repeat (first | apply Kd.R_alloc | apply Kd.R_drewN | apply Kd.R_drew)); exact HO276.out⟩, ⟨by (with_reducible repeat (first | apply Kd.R_alloc | apply Kd.R_drewN | apply Kd.R_drew)); exact HO287.out⟩, ⟨by repeat (first | (with_reducible first | exact HB.out | apply below_alloc | apply pw_below_drewN | apply below_drew1) | exact HB.out)⟩⟩
     ·
      rw [if_neg c21] at H
      have c21b0 : ((t283.length : Int) == (t274.length : Int)) = false := beq_eq_false_iff_ne.mpr c21
      have c21b1 : ((t283.length : Int) != (t274.length : Int)) = true := bne_iff_ne.mpr c21
      have c21b2 : (t283.length == t274.length) = false := by first | simpa using c21 | (simp at c21 ⊢; omega)
      (first | rw [c21b0] | (simp only [i64_w, i32_w]; rw [c21b0]) | skip)
      have H' := Aside0.mk H
      clear H
      obtain ⟨Ao24, co24, eo24⟩ := Kd.R_slice HO287.out
      subst eo24
      go_wp2
      go_meet
      case rel => exact ⟨_, (true), (by first | rfl | (simp; done) | (simp [*]; done)), H', ⟨by have := HJ3.out; first | omega | exact Nat.le_refl _⟩, ⟨by (with_reducible repeat (first | apply Kd.R_alloc | apply Kd.R_drewN | apply Kd.R_drew)); exact HO276.out⟩, ⟨by (with_reducible repeat (first | apply Kd.R_alloc | apply Kd.R_drewN | apply Kd.R_drew)); exact HO287.out⟩, ⟨by repeat (first | (with_reducible first | exact HB.out | apply below_alloc | apply pw_below_drewN | apply below_drew1) | exact HB.out)⟩⟩
    case rest =>
     clear HC12
     (try clear c1); (try clear c2); (try clear p2); (try clear c5); (try clear c5b0); (try clear c5b1); (try clear c6); (try clear c7); (try clear c10); (try clear c11); (try clear c15); (try clear c17); (try clear c21); (try clear c21b0); (try clear c21b1); (try clear c21b2); (try clear p2)
     obtain ⟨kq, x52_11, rfl, HA, HJ11, HO_8, HO_9, HB⟩ := hcut
     cases kq with
     | zero => exact absurd HA.out (by simp [warplaw5_PlayOne.j1])
     | succ kj11 =>
      have H := HA.out
      clear HA
      simp only [warplaw5_PlayOne.j1] at H
      by_cases c25 : x52_11 = true
      ·
       subst c25
       have H1 : (some false) = some r := by rw [if_pos rfl] at H; exact H
       clear H
       have H := H1
       clear H1
       obtain rfl := Option.some.inj H
       go_wp2
       go_ret
       exact ⟨by first | rfl | (simp [errW_none, errW_some] <;> rfl) | (simp [*, errW_none, errW_some] <;> rfl), by repeat (first | (with_reducible first | exact HB.out | apply below_alloc | apply pw_below_drewN | apply below_drew1) | exact HB.out)⟩
      ·
       replace c25 := Bool.eq_false_iff.mpr c25
       subst c25
       have H1 : ((warpref1_NewPart.f kj11 (1 + ((l0.length : Int) % 16))).bind fun t290 => (warplaw5_PlayOne.l0 kj11 t274 t283 t290 0)) = some r := by rw [if_neg (show ¬ (false = true) by decide)] at H; exact H
       clear H
       have H := H1
       clear H1
       replace H := Option.bind_eq_some_iff.mp H
       obtain ⟨t290, A260, H⟩ := H
       replace H : (warplaw5_PlayOne.l0 kj11 t274 t283 t290 0) = some r := H
       have A26 := Aside0.mk A260
       clear A260
       have H' := Aside0.mk H
       clear H
       go_wp2_with (first | ((with_reducible refine gate_callee (f := 18) rfl ?_); refine goesL_ (some 54) rfl rfl Tryd.func18 (by kernel_rfl) rfl #[.int .i64 (1 + ((l0.length : Int) % 16))] rfl (by (try simp only [List.map_toArray, List.map_cons, List.map_nil]); first | done | rfl | (simp only [List.length_drop, List.length_take]; rfl)) ?_; (with_reducible refine (warpref1_NewPart.calls kj11 (1 + ((l0.length : Int) % 16)) t290 _ A26.out).mono ?_); rintro e w27 ⟨v291, rfl, ho0, hb⟩; refine ⟨_, rfl, ?_⟩; have n0_ := Aside0.mk (Kd.R_below (by (with_reducible repeat (first | apply Kd.R_alloc | apply Kd.R_drewN | apply Kd.R_drew)); exact HO_8.out) hb); have n1_ := Aside0.mk (Kd.R_below (by (with_reducible repeat (first | apply Kd.R_alloc | apply Kd.R_drewN | apply Kd.R_drew)); exact HO_9.out) hb); have n2_ := Aside0.mk (Kd.R_lower ho0 (below_size (by repeat (first | (with_reducible first | exact HB.out | apply below_alloc | apply pw_below_drewN | apply below_drew1) | exact HB.out)))); have n3_ := Aside0.mk (below_step (by repeat (first | (with_reducible first | exact HB.out | apply below_alloc | apply pw_below_drewN | apply below_drew1) | exact HB.out)) hb); clear HO_8; clear HO_9; clear HB; have HO_8 := n0_; have HO_9 := n1_; have HO292 := n2_; have HB := n3_; clear n0_ n1_ n2_ n3_; (try clear hb); (try clear hb2); (try clear hk); (try clear hi); (try clear ho0)))
       go_loopg [12, 13] kj11 (fun kq v12 v13 w' => ∃ (x12_3 : List Int) (x13_3 : Int), v13 = .int .i64 x13_3 ∧ Aside0 (warplaw5_PlayOne.l0 kq t274 t283 x12_3 x13_3 = some r) ∧ Aside0 (kq ≤ kj11) ∧ Aside0 (Kd.R k40 40 w' w.heap.size (fun _ => True) (.slice Ao15 t274.length co15) t274) ∧ Aside0 (Kd.R k42 42 w' w.heap.size (fun _ => True) v286 t283) ∧ Aside0 (Kd.R (Kd.int .i64) 3 w' w.heap.size (fun _ => True) v12 x12_3) ∧ Aside0 (Below w.heap.size w w'))
       case atStart => exact ⟨(t290), (0), (by first | rfl | (simp; done) | (simp [*]; done)), H', ⟨Nat.le_refl _⟩, ⟨by (with_reducible repeat (first | apply Kd.R_alloc | apply Kd.R_drewN | apply Kd.R_drew)); exact HO_8.out⟩, ⟨by (with_reducible repeat (first | apply Kd.R_alloc | apply Kd.R_drewN | apply Kd.R_drew)); exact HO_9.out⟩, ⟨by (with_reducible repeat (first | apply Kd.R_alloc | apply Kd.R_drewN | apply Kd.R_drew)); exact HO292.out⟩, ⟨by repeat (first | (with_reducible first | exact HB.out | apply below_alloc | apply pw_below_drewN | apply below_drew1) | exact HB.out)⟩⟩
       case round =>
        clear H'
        (try clear c1); (try clear c2); (try clear p2); (try clear c5); (try clear c5b0); (try clear c5b1); (try clear c6); (try clear c7); (try clear c10); (try clear c11); (try clear c15); (try clear c17); (try clear c18); (try clear c21); (try clear c21b0); (try clear c21b1); (try clear c21b2); (try clear c25); (try clear p2)
        obtain ⟨x12_3, x13_3, rfl, HA, HK3, HO_8, HO_9, HO_12, HB⟩ := hrel
        cases gk with
        | zero => exact absurd HA.out (by simp [warplaw5_PlayOne.l0])
        | succ k3 =>
         have H := HA.out
         clear HA
         simp only [warplaw5_PlayOne.l0] at H
         by_cases c28 : x13_3 < (t274.length : Int)
         ·
          rw [if_pos c28] at H
          have c28b0 : decide (x13_3 < (t274.length : Int)) = true := decide_eq_true c28
          clear c28
          by_cases c29 : 0 ≤ x13_3
          ·
           rw [if_pos c29] at H
           have c29b0 : decide (0 ≤ x13_3) = true := decide_eq_true c29
           clear c29
           replace H := Option.bind_eq_some_iff.mp H
           obtain ⟨t295, A300, H⟩ := H
           replace H : (if t295 = true then (warplaw5_PlayOne.j3 k3 t274 t283 x12_3 x13_3 1) else (warplaw5_PlayOne.j3 k3 t274 t283 x12_3 x13_3 0)) = some r := H
           have A30 := Aside0.mk A300
           clear A300
           have HC31 := Aside0.mk H
           clear H
           try go_wp2
           have n0_ := Aside0.mk (Kd.R_drew HO_8.out)
           have n1_ := Aside0.mk (Kd.R_drew HO_9.out)
           have n2_ := Aside0.mk (Kd.R_drew HO_12.out)
           have n3_ := Aside0.mk (below_drew1 HB.out)
           clear HO_8
           clear HO_9
           clear HO_12
           clear HB
           have HO_8 := n0_
           have HO_9 := n1_
           have HO_12 := n2_
           have HB := n3_
           clear n0_ n1_ n2_ n3_
           have p293 : 0 ≤ (x13_3 : Int) := of_decide_eq_true (by first | (with_reducible assumption) | assumption)
           have q293 : x13_3 < (t274.length : Int) := of_decide_eq_true (by first | (with_reducible assumption) | assumption)
           obtain ⟨ad293, e293, hx293_0, hx293_1, hx293_2⟩ := at_T40 (Kd.R_reads' HO_8.out).2.2 x13_3 p293 q293
           cases e293
           replace p293 := eq_true p293
           replace q293 := eq_true q293
           have p294 : 0 ≤ (x13_3 : Int) := of_decide_eq_true (by first | (with_reducible assumption) | assumption)
           have q294 : x13_3 < (t274.length : Int) := of_decide_eq_true (by first | (with_reducible assumption) | assumption)
           obtain ⟨ad294, e294, hx294_0, hx294_1, hx294_2⟩ := at_T40 (Kd.R_reads' HO_8.out).2.2 x13_3 p294 q294
           obtain rfl : ad293 = ad294 := (by injection e294)
           replace p294 := eq_true p294
           replace q294 := eq_true q294
           obtain ⟨Ao33, co33, eo33⟩ := Kd.R_slice HO_12.out
           (first | subst eo33 | (injection eo33 with f1_ f2_ f3_; have f4_ := f1_.symm; have f5_ := f3_.symm; clear f1_ f2_ f3_; subst f4_; subst f5_))
           refine start_ (n := 12) (S := fun w' => w'.cell? (ad293.add ((x13_3).toNat * 3)) = some (.int .i64 ((rd_T40 t274 x13_3).f0)) ∧ w'.cell? ⟨(ad293.add ((x13_3).toNat * 3)).block, (ad293.add ((x13_3).toNat * 3)).off + 1, none⟩ = some (.int .i64 ((rd_T40 t274 x13_3).f1)) ∧ w'.cell? ⟨(ad293.add ((x13_3).toNat * 3)).block, (ad293.add ((x13_3).toNat * 3)).off + 2, none⟩ = some (.int .i64 ((rd_T40 t274 x13_3).f2)) ∧ w'.cell? (ad293.add ((x13_3).toNat * 3)) = some (.int .i64 ((rd_T40 t274 x13_3).f0)) ∧ w'.cell? ⟨(ad293.add ((x13_3).toNat * 3)).block, (ad293.add ((x13_3).toNat * 3)).off + 1, none⟩ = some (.int .i64 ((rd_T40 t274 x13_3).f1)) ∧ w'.cell? ⟨(ad293.add ((x13_3).toNat * 3)).block, (ad293.add ((x13_3).toNat * 3)).off + 2, none⟩ = some (.int .i64 ((rd_T40 t274 x13_3).f2))) (ds := []) #[false, false, false, false, false, false, false, false, false, false, false, false] (by kernel_rfl) rfl rfl ⟨hx293_0, hx293_1, hx293_2, hx294_0, hx294_1, hx294_2⟩ (fun hHeld => ?_); refine with_tabW warplaw5_PlayOne.tab13 warplaw5_PlayOne.bits13 (fun HT_ HW_ => ?_)
           generalize wr.drew = w32 at HO_8 HO_9 HO_12 HB hx293_0 hx293_1 hx293_2 hx294_0 hx294_1 hx294_2 hHeld ⊢
           refine pure_ (i := 0) (N := some 61) (v := ?_) (a' := ?_) #[true, false, false, false, false, false, false, false, false, false, false, false] rfl rfl (any_of HT_.out (by kernel_rfl)) (fun _ _ _ h => h) (Or.inl ⟨by rfl, ?_⟩) ?_ ?_
           rotate_left
           ·
            intro w'
            go_simp
            with_reducible rfl
           rotate_left
           ·
            simp only [Act.put, List.setIfInBounds_toArray, List.set_cons_zero, List.set_cons_succ, i64_w, i32_w]
            rfl
           refine pure_ (i := 1) (N := some 62) (v := ?_) (a' := ?_) #[true, true, false, false, false, false, false, false, false, false, false, false] rfl rfl (any_of HT_.out (by kernel_rfl)) (fun _ _ _ h => h) (Or.inl ⟨by rfl, ?_⟩) ?_ ?_
           rotate_left
           ·
            intro w'
            go_simp
            with_reducible rfl
           rotate_left
           ·
            simp only [Act.put, List.setIfInBounds_toArray, List.set_cons_zero, List.set_cons_succ, i64_w, i32_w]
            rfl
           refine pure_ (i := 2) (N := some 63) (v := ?_) (a' := ?_) #[true, true, true, false, false, false, false, false, false, false, false, false] rfl rfl (any_of HT_.out (by kernel_rfl)) (fun _ _ _ h => h) (Or.inl ⟨by rfl, ?_⟩) ?_ ?_
           rotate_left
           ·
            intro w'
            go_simp
            with_reducible rfl
           rotate_left
           ·
            simp only [Act.put, List.setIfInBounds_toArray, List.set_cons_zero, List.set_cons_succ, i64_w, i32_w]
            rfl
           refine pure_ (i := 3) (N := some 64) (v := ?_) (a' := ?_) #[true, true, true, true, false, false, false, false, false, false, false, false] rfl rfl (any_of HT_.out (by kernel_rfl)) (fun _ _ _ h => h) (Or.inl ⟨by rfl, ?_⟩) ?_ ?_
           rotate_left
           ·
            intro w'
            go_simp
            with_reducible rfl
           rotate_left
           ·
            simp only [Act.put, List.setIfInBounds_toArray, List.set_cons_zero, List.set_cons_succ, i64_w, i32_w]
            rfl
           refine pure_ (i := 4) (N := some 65) (v := ?_) (a' := ?_) #[true, true, true, true, true, false, false, false, false, false, false, false] rfl rfl (any_of HT_.out (by kernel_rfl)) (fun _ _ _ h => h) (Or.inl ⟨by rfl, ?_⟩) ?_ ?_
           rotate_left
           ·
            intro w'
            go_simp
            with_reducible rfl
           rotate_left
           ·
            simp only [Act.put, List.setIfInBounds_toArray, List.set_cons_zero, List.set_cons_succ, i64_w, i32_w]
            rfl
           refine pure_ (i := 6) (N := some 67) (v := ?_) (a' := ?_) #[true, true, true, true, true, false, true, false, false, false, false, false] rfl rfl (any_of HT_.out (by kernel_rfl)) (fun _ _ _ h => h) (Or.inl ⟨by rfl, ?_⟩) ?_ ?_
           rotate_left
           ·
            intro w'
            go_simp
            with_reducible rfl
           rotate_left
           ·
            simp only [Act.put, List.setIfInBounds_toArray, List.set_cons_zero, List.set_cons_succ, i64_w, i32_w]
            rfl
           refine pure_ (i := 7) (N := some 68) (v := ?_) (a' := ?_) #[true, true, true, true, true, false, true, true, false, false, false, false] rfl rfl (any_of HT_.out (by kernel_rfl)) (fun _ _ _ h => h) (Or.inl ⟨by rfl, ?_⟩) ?_ ?_
           rotate_left
           ·
            intro w'
            go_simp
            with_reducible rfl
           rotate_left
           ·
            simp only [Act.put, List.setIfInBounds_toArray, List.set_cons_zero, List.set_cons_succ, i64_w, i32_w]
            rfl
           refine pure_ (i := 8) (N := some 69) (v := ?_) (a' := ?_) #[true, true, true, true, true, false, true, true, true, false, false, false] rfl rfl (any_of HT_.out (by kernel_rfl)) (fun _ _ _ h => h) (Or.inl ⟨by rfl, ?_⟩) ?_ ?_
           rotate_left
           ·
            intro w'
            go_simp
            with_reducible rfl
           rotate_left
           ·
            simp only [Act.put, List.setIfInBounds_toArray, List.set_cons_zero, List.set_cons_succ, i64_w, i32_w]
            rfl
           refine pure_ (i := 9) (N := some 70) (v := ?_) (a' := ?_) #[true, true, true, true, true, false, true, true, true, true, false, false] rfl rfl (any_of HT_.out (by kernel_rfl)) (fun _ _ _ h => h) (Or.inl ⟨by rfl, ?_⟩) ?_ ?_
           rotate_left
           ·
            intro w'
            go_simp
            with_reducible rfl
           rotate_left
           ·
            simp only [Act.put, List.setIfInBounds_toArray, List.set_cons_zero, List.set_cons_succ, i64_w, i32_w]
            rfl
           refine take_ (i := 5) (N := some 66) (v := ?_) (a' := ?_) #[true, true, true, true, true, true, true, true, true, true, false, false] rfl rfl (take_ofW HT_.out HW_.out (by kernel_rfl)) (fun _ _ _ h => h) (Or.inl ⟨by rfl, ?_⟩) hHeld ?_ ?_
           rotate_left
           ·
            rintro w' ⟨s0, s1, s2, s3, s4, s5⟩
            go_simp
            with_reducible rfl
           rotate_left
           ·
            simp only [Act.put, List.setIfInBounds_toArray, List.set_cons_zero, List.set_cons_succ, i64_w, i32_w]
            rfl
           refine take_ (i := 10) (N := some 71) (v := ?_) (a' := ?_) #[true, true, true, true, true, true, true, true, true, true, true, false] rfl rfl (take_ofW HT_.out HW_.out (by kernel_rfl)) (fun _ _ _ h => h) (Or.inl ⟨by rfl, ?_⟩) hHeld ?_ ?_
           rotate_left
           ·
            rintro w' ⟨s0, s1, s2, s3, s4, s5⟩
            go_simp
            with_reducible rfl
           rotate_left
           ·
            simp only [Act.put, List.setIfInBounds_toArray, List.set_cons_zero, List.set_cons_succ, i64_w, i32_w]
            rfl
           refine one_ (i := 11) (N := some 72) #[true, true, true, true, true, true, true, true, true, true, true, true] rfl rfl (one_of HT_.out (by kernel_rfl)) (by decide) (fun K hK => ?_)
           refine goes_ Tryd.func19 (by kernel_rfl) rfl #[.slice Ao33 x12_3.length co33, .int .i64 ((rd_T40 t274 x13_3).f1), .int .i64 ((rd_T40 t274 x13_3).f2)] (by rfl) rfl rfl (by (try simp only [List.map_toArray, List.map_cons, List.map_nil]); first | done | rfl | (simp only [List.length_drop, List.length_take]; rfl)) ?_
           with_reducible refine (warpref1_Same.calls _ _ x12_3 ((rd_T40 t274 x13_3).f1) ((rd_T40 t274 x13_3).f2) t295 _ ?side1 ?side2 A30.out).mono ?_
           (case side1 => repeat (first | exact (Kd.R_reads' HO_12.out).2.2 | (with_reducible refine Kd.C_alloc ?_ _) | (with_reducible refine Kd.C_drewN ?_ _) | (with_reducible refine Kd.C_drew ?_)))
           (case side2 => exact (Kd.R_reads' HO_12.out).2.1)
           rintro e w' ⟨rfl, ⟨nd, rfl⟩⟩
           refine ⟨_, rfl, ?_⟩
           refine hK.out _ _ ⟨hHeld.1, hHeld.2.1, hHeld.2.2.1, hHeld.2.2.2.1, hHeld.2.2.2.2.1, hHeld.2.2.2.2.2⟩ (fun hHeld => ?_)
           clear hK K
           refine norm_ (a' := ?_) ?_ ?_
           rotate_left
           ·
            show Act.put _ (some 72) _ = _
            simp only [Act.put, List.setIfInBounds_toArray, List.set_cons_zero, List.set_cons_succ, i64_w, i32_w]
            rfl
           refine done_ (done_of HT_.out (by kernel_rfl)) ?_
           go_upto_if 72 with (fail)
           go_cut [14] (fun v14 wc => ∃ (kq : Nat) (x14_30 : Int), v14 = .int .i64 x14_30 ∧ Aside0 (warplaw5_PlayOne.j3 kq t274 t283 x12_3 x13_3 x14_30 = some r) ∧ Aside0 (kq ≤ k3) ∧ Aside0 (Kd.R k40 40 wc w.heap.size (fun _ => True) (.slice (some ad293) t274.length co15) t274) ∧ Aside0 (Kd.R k42 42 wc w.heap.size (fun _ => True) v286 t283) ∧ Aside0 (Kd.R (Kd.int .i64) 3 wc w.heap.size (fun _ => True) (.slice Ao33 x12_3.length co33) x12_3) ∧ Aside0 (Below w.heap.size w wc))
           case first =>
            have H := HC31.out
            clear HC31
            by_cases c34 : t295 = true
            ·
             subst c34
             have H1 : (warplaw5_PlayOne.j3 k3 t274 t283 x12_3 x13_3 1) = some r := by rw [if_pos rfl] at H; exact H
             clear H
             have H := H1
             clear H1
             have H' := Aside0.mk H
             clear H
             go_wp2
             go_meet
             case rel => exact ⟨_, (1), (by first | rfl | (simp; done) | (simp [*]; done)), H', ⟨by have := HJ3.out; have := HJ11.out; have := HK3.out; first | omega | exact Nat.le_refl _⟩, ⟨by (with_reducible repeat (first | apply Kd.R_alloc | apply Kd.R_drewN | apply Kd.R_drew)); exact HO_8.out⟩, ⟨by (with_reducible repeat (first | apply Kd.R_alloc | apply Kd.R_drewN | apply Kd.R_drew)); exact HO_9.out⟩, ⟨by (with_reducible repeat (first | apply Kd.R_alloc | apply Kd.R_drewN | apply Kd.R_drew)); exact HO_12.out⟩, ⟨by repeat (first | (with_reducible first | exact HB.out | apply below_alloc | apply pw_below_drewN | apply below_drew1) | exact HB.out)⟩⟩
            ·
             replace c34 := Bool.eq_false_iff.mpr c34
             subst c34
             have H1 : (warplaw5_PlayOne.j3 k3 t274 t283 x12_3 x13_3 0) = some r := by rw [if_neg (show ¬ (false = true) by decide)] at H; exact H
             clear H
             have H := H1
             clear H1
             have H' := Aside0.mk H
             clear H
             go_wp2
             go_meet
             case rel => exact ⟨_, (0), (by first | rfl | (simp; done) | (simp [*]; done)), H', ⟨by have := HJ3.out; have := HJ11.out; have := HK3.out; first | omega | exact Nat.le_refl _⟩, ⟨by (with_reducible repeat (first | apply Kd.R_alloc | apply Kd.R_drewN | apply Kd.R_drew)); exact HO_8.out⟩, ⟨by (with_reducible repeat (first | apply Kd.R_alloc | apply Kd.R_drewN | apply Kd.R_drew)); exact HO_9.out⟩, ⟨by (with_reducible repeat (first | apply Kd.R_alloc | apply Kd.R_drewN | apply Kd.R_drew)); exact HO_12.out⟩, ⟨by repeat (first | (with_reducible first | exact HB.out | apply below_alloc | apply pw_below_drewN | apply below_drew1) | exact HB.out)⟩⟩
           case rest =>
            clear HC31
            (try clear c1); (try clear c2); (try clear p2); (try clear q2); (try clear hx2); (try clear c3); (try clear c5); (try clear c5b0); (try clear c5b1); (try clear c6); (try clear c7); (try clear c10); (try clear c11); (try clear c15); (try clear c17); (try clear c18); (try clear c19); (try clear c21); (try clear c21b0); (try clear c21b1); (try clear c21b2); (try clear c25); (try clear c28); (try clear c28b0); (try clear c29); (try clear c29b0); (try clear p29); (try clear q29); (try clear hx29); (try clear c34); (try clear hx293_0); (try clear hx293_1); (try clear hx293_2); (try clear hx294_0); (try clear hx294_1); (try clear hx294_2); (try clear p2); (try clear p293); (try clear p294); (try clear q293); (try clear q294)
            obtain ⟨kq, x14_30, rfl, HA, HJ30, HO_8, HO_9, HO_12, HB⟩ := hcut
            cases kq with
            | zero => exact absurd HA.out (by simp [warplaw5_PlayOne.j3])
            | succ kj30 =>
             have H := HA.out
             clear HA
             simp only [warplaw5_PlayOne.j3] at H
             by_cases c35 : 0 ≤ x13_3
             ·
              rw [if_pos c35] at H
              have c35b0 : decide (0 ≤ x13_3) = true := decide_eq_true c35
              clear c35
              by_cases c36 : x13_3 < (t274.length : Int)
              ·
               rw [if_pos c36] at H
               have c36b0 : decide (x13_3 < (t274.length : Int)) = true := decide_eq_true c36
               clear c36
               have HC37 := Aside0.mk H
               clear H
               have p296 : 0 ≤ (x13_3 : Int) := of_decide_eq_true (by first | (with_reducible assumption) | assumption)
               have q296 : x13_3 < (t274.length : Int) := of_decide_eq_true (by first | (with_reducible assumption) | assumption)
               obtain ⟨ad296, e296, hx296_0, hx296_1, hx296_2⟩ := at_T40 (Kd.R_reads' HO_8.out).2.2 x13_3 p296 q296
               obtain rfl : ad293 = ad296 := (by injection e296)
               replace p296 := eq_true p296
               replace q296 := eq_true q296
               go_upto_block 2 with (fail)
               go_cut [12] (fun v12 wc => ∃ (kq : Nat) (x12_36 : List Int), Aside0 (warplaw5_PlayOne.j4 kq t274 t283 x12_36 x13_3 = some r) ∧ Aside0 (kq ≤ kj30) ∧ Aside0 (Kd.R k40 40 wc w.heap.size (fun _ => True) (.slice (some ad293) t274.length co15) t274) ∧ Aside0 (Kd.R k42 42 wc w.heap.size (fun _ => True) v286 t283) ∧ Aside0 (Kd.R (Kd.int .i64) 3 wc w.heap.size (fun _ => True) v12 x12_36) ∧ Aside0 (Below w.heap.size w wc))
               case first =>
                have H := HC37.out
                clear HC37
                by_cases c38 : ((rd_T40 t274 x13_3).f0) = 1
                ·
                 rw [if_pos c38] at H
                 have c38b0 : (((rd_T40 t274 x13_3).f0) == 1) = true := beq_iff_eq.mpr c38
                 have c38b1 : (((rd_T40 t274 x13_3).f0) != 1) = false := bne_eq_false_iff_eq.mpr c38
                 clear c38
                 (first | rw [c38b0] | (simp only [i64_w, i32_w]; rw [c38b0]) | skip)
                 by_cases c39 : x13_3 < (t283.length : Int)
                 ·
                  rw [if_pos c39] at H
                  have c39b0 : decide (x13_3 < (t283.length : Int)) = true := decide_eq_true c39
                  clear c39
                  replace H := Option.bind_eq_some_iff.mp H
                  obtain ⟨t299, A400, H⟩ := H
                  replace H : (if t299 = true then (warplaw5_PlayOne.j4 kj30 t274 t283 x12_3 x13_3) else (some false)) = some r := H
                  have A40 := Aside0.mk A400
                  clear A400
                  by_cases c41 : t299 = true
                  ·
                   subst c41
                   have H1 : (warplaw5_PlayOne.j4 kj30 t274 t283 x12_3 x13_3) = some r := by rw [if_pos rfl] at H; exact H
                   clear H
                   have H := H1
                   clear H1
                   have H' := Aside0.mk H
                   clear H
                   try go_wp2
                   have n0_ := Aside0.mk (Kd.R_drew HO_8.out)
                   have n1_ := Aside0.mk (Kd.R_drew HO_9.out)
                   have n2_ := Aside0.mk (Kd.R_drew HO_12.out)
                   have n3_ := Aside0.mk (below_drew1 HB.out)
                   clear HO_8
                   clear HO_9
                   clear HO_12
                   clear HB
                   have HO_8 := n0_
                   have HO_9 := n1_
                   have HO_12 := n2_
                   have HB := n3_
                   clear n0_ n1_ n2_ n3_
                   have p297 : 0 ≤ (x13_3 : Int) := of_decide_eq_true (by first | (with_reducible assumption) | assumption)
                   have q297 : x13_3 < (t274.length : Int) := of_decide_eq_true (by first | (with_reducible assumption) | assumption)
                   obtain ⟨ad297, e297, hx297_0, hx297_1, hx297_2⟩ := at_T40 (Kd.R_reads' HO_8.out).2.2 x13_3 p297 q297
                   obtain rfl : ad293 = ad297 := (by injection e297)
                   replace p297 := eq_true p297
                   replace q297 := eq_true q297
                   obtain ⟨Ao43, co43, eo43⟩ := Kd.R_slice HO_9.out
                   (first | subst eo43 | (injection eo43 with f1_ f2_ f3_; have f4_ := f1_.symm; have f5_ := f3_.symm; clear f1_ f2_ f3_; subst f4_; subst f5_))
                   have p298 : 0 ≤ (x13_3 : Int) := of_decide_eq_true (by first | (with_reducible assumption) | assumption)
                   have q298 : x13_3 < (t283.length : Int) := of_decide_eq_true (by first | (with_reducible assumption) | assumption)
                   obtain ⟨ad298, e298, hx298_0, hx298_1, hx298_2, hx298_3, hx298_4, hx298_5, hx298_6, hx298_7⟩ := at_T42 (Kd.R_reads' HO_9.out).2.2 x13_3 p298 q298
                   cases e298
                   replace p298 := eq_true p298
                   replace q298 := eq_true q298
                   refine start_ (n := 13) (S := fun w' => w'.cell? (ad293.add ((x13_3).toNat * 3)) = some (.int .i64 ((rd_T40 t274 x13_3).f0)) ∧ w'.cell? ⟨(ad293.add ((x13_3).toNat * 3)).block, (ad293.add ((x13_3).toNat * 3)).off + 1, none⟩ = some (.int .i64 ((rd_T40 t274 x13_3).f1)) ∧ w'.cell? ⟨(ad293.add ((x13_3).toNat * 3)).block, (ad293.add ((x13_3).toNat * 3)).off + 2, none⟩ = some (.int .i64 ((rd_T40 t274 x13_3).f2)) ∧ w'.cell? (ad298.add ((x13_3).toNat * 8)) = some (.int .i64 ((rd_T42 t283 x13_3).f0)) ∧ w'.cell? ⟨(ad298.add ((x13_3).toNat * 8)).block, (ad298.add ((x13_3).toNat * 8)).off + 1, none⟩ = some (.int .i64 ((rd_T42 t283 x13_3).f1.f0)) ∧ w'.cell? ⟨(ad298.add ((x13_3).toNat * 8)).block, (ad298.add ((x13_3).toNat * 8)).off + 2, none⟩ = some (.int .i64 ((rd_T42 t283 x13_3).f1.f1)) ∧ w'.cell? ⟨(ad298.add ((x13_3).toNat * 8)).block, (ad298.add ((x13_3).toNat * 8)).off + 3, none⟩ = some (.int .i64 ((rd_T42 t283 x13_3).f1.f2)) ∧ w'.cell? ⟨(ad298.add ((x13_3).toNat * 8)).block, (ad298.add ((x13_3).toNat * 8)).off + 4, none⟩ = some (.int .i64 ((rd_T42 t283 x13_3).f2)) ∧ w'.cell? ⟨(ad298.add ((x13_3).toNat * 8)).block, (ad298.add ((x13_3).toNat * 8)).off + 5, none⟩ = some (.int .i64 ((rd_T42 t283 x13_3).f3)) ∧ w'.cell? ⟨(ad298.add ((x13_3).toNat * 8)).block, (ad298.add ((x13_3).toNat * 8)).off + 6, none⟩ = some (.int .i64 ((rd_T42 t283 x13_3).f4)) ∧ w'.cell? ⟨(ad298.add ((x13_3).toNat * 8)).block, (ad298.add ((x13_3).toNat * 8)).off + 7, none⟩ = some (.int .i64 ((rd_T42 t283 x13_3).f5))) (ds := []) #[false, false, false, false, false, false, false, false, false, false, false, false, false] (by kernel_rfl) rfl rfl ⟨hx297_0, hx297_1, hx297_2, hx298_0, hx298_1, hx298_2, hx298_3, hx298_4, hx298_5, hx298_6, hx298_7⟩ (fun hHeld => ?_); refine with_tabW warplaw5_PlayOne.tab20 warplaw5_PlayOne.bits20 (fun HT_ HW_ => ?_)
                   generalize wc.drew = w42 at HO_8 HO_9 HO_12 HB hx297_0 hx297_1 hx297_2 hx298_0 hx298_1 hx298_2 hx298_3 hx298_4 hx298_5 hx298_6 hx298_7 hHeld ⊢
                   refine pure_ (i := 0) (N := some 100) (v := ?_) (a' := ?_) #[true, false, false, false, false, false, false, false, false, false, false, false, false] rfl rfl (any_of HT_.out (by kernel_rfl)) (fun _ _ _ h => h) (Or.inl ⟨by rfl, ?_⟩) ?_ ?_
                   rotate_left
                   ·
                    intro w'
                    go_simp
                    with_reducible rfl
                   rotate_left
                   ·
                    simp only [Act.put, List.setIfInBounds_toArray, List.set_cons_zero, List.set_cons_succ, i64_w, i32_w]
                    rfl
                   refine pure_ (i := 1) (N := some 101) (v := ?_) (a' := ?_) #[true, true, false, false, false, false, false, false, false, false, false, false, false] rfl rfl (any_of HT_.out (by kernel_rfl)) (fun _ _ _ h => h) (Or.inl ⟨by rfl, ?_⟩) ?_ ?_
                   rotate_left
                   ·
                    intro w'
                    go_simp
                    with_reducible rfl
                   rotate_left
                   ·
                    simp only [Act.put, List.setIfInBounds_toArray, List.set_cons_zero, List.set_cons_succ, i64_w, i32_w]
                    rfl
                   refine pure_ (i := 2) (N := some 102) (v := ?_) (a' := ?_) #[true, true, true, false, false, false, false, false, false, false, false, false, false] rfl rfl (any_of HT_.out (by kernel_rfl)) (fun _ _ _ h => h) (Or.inl ⟨by rfl, ?_⟩) ?_ ?_
                   rotate_left
                   ·
                    intro w'
                    go_simp
                    with_reducible rfl
                   rotate_left
                   ·
                    simp only [Act.put, List.setIfInBounds_toArray, List.set_cons_zero, List.set_cons_succ, i64_w, i32_w]
                    rfl
                   refine pure_ (i := 3) (N := some 103) (v := ?_) (a' := ?_) #[true, true, true, true, false, false, false, false, false, false, false, false, false] rfl rfl (any_of HT_.out (by kernel_rfl)) (fun _ _ _ h => h) (Or.inl ⟨by rfl, ?_⟩) ?_ ?_
                   rotate_left
                   ·
                    intro w'
                    go_simp
                    with_reducible rfl
                   rotate_left
                   ·
                    simp only [Act.put, List.setIfInBounds_toArray, List.set_cons_zero, List.set_cons_succ, i64_w, i32_w]
                    rfl
                   refine pure_ (i := 4) (N := some 104) (v := ?_) (a' := ?_) #[true, true, true, true, true, false, false, false, false, false, false, false, false] rfl rfl (any_of HT_.out (by kernel_rfl)) (fun _ _ _ h => h) (Or.inl ⟨by rfl, ?_⟩) ?_ ?_
                   rotate_left
                   ·
                    intro w'
                    go_simp
                    with_reducible rfl
                   rotate_left
                   ·
                    simp only [Act.put, List.setIfInBounds_toArray, List.set_cons_zero, List.set_cons_succ, i64_w, i32_w]
                    rfl
                   refine pure_ (i := 6) (N := some 106) (v := ?_) (a' := ?_) #[true, true, true, true, true, false, true, false, false, false, false, false, false] rfl rfl (any_of HT_.out (by kernel_rfl)) (fun _ _ _ h => h) (Or.inl ⟨by rfl, ?_⟩) ?_ ?_
                   rotate_left
                   ·
                    intro w'
                    go_simp
                    with_reducible rfl
                   rotate_left
                   ·
                    simp only [Act.put, List.setIfInBounds_toArray, List.set_cons_zero, List.set_cons_succ, i64_w, i32_w]
                    rfl
                   refine pure_ (i := 7) (N := some 107) (v := ?_) (a' := ?_) #[true, true, true, true, true, false, true, true, false, false, false, false, false] rfl rfl (any_of HT_.out (by kernel_rfl)) (fun _ _ _ h => h) (Or.inl ⟨by rfl, ?_⟩) ?_ ?_
                   rotate_left
                   ·
                    intro w'
                    go_simp
                    with_reducible rfl
                   rotate_left
                   ·
                    simp only [Act.put, List.setIfInBounds_toArray, List.set_cons_zero, List.set_cons_succ, i64_w, i32_w]
                    rfl
                   refine pure_ (i := 8) (N := some 108) (v := ?_) (a' := ?_) #[true, true, true, true, true, false, true, true, true, false, false, false, false] rfl rfl (any_of HT_.out (by kernel_rfl)) (fun _ _ _ h => h) (Or.inl ⟨by rfl, ?_⟩) ?_ ?_
                   rotate_left
                   ·
                    intro w'
                    go_simp
                    with_reducible rfl
                   rotate_left
                   ·
                    simp only [Act.put, List.setIfInBounds_toArray, List.set_cons_zero, List.set_cons_succ, i64_w, i32_w]
                    rfl
                   refine pure_ (i := 9) (N := some 109) (v := ?_) (a' := ?_) #[true, true, true, true, true, false, true, true, true, true, false, false, false] rfl rfl (any_of HT_.out (by kernel_rfl)) (fun _ _ _ h => h) (Or.inl ⟨by rfl, ?_⟩) ?_ ?_
                   rotate_left
                   ·
                    intro w'
                    go_simp
                    with_reducible rfl
                   rotate_left
                   ·
                    simp only [Act.put, List.setIfInBounds_toArray, List.set_cons_zero, List.set_cons_succ, i64_w, i32_w]
                    rfl
                   refine take_ (i := 5) (N := some 105) (v := ?_) (a' := ?_) #[true, true, true, true, true, true, true, true, true, true, false, false, false] rfl rfl (take_ofW HT_.out HW_.out (by kernel_rfl)) (fun _ _ _ h => h) (Or.inl ⟨by rfl, ?_⟩) hHeld ?_ ?_
                   rotate_left
                   ·
                    rintro w' ⟨s0, s1, s2, s3, s4, s5, s6, s7, s8, s9, s10⟩
                    go_simp
                    with_reducible rfl
                   rotate_left
                   ·
                    simp only [Act.put, List.setIfInBounds_toArray, List.set_cons_zero, List.set_cons_succ, i64_w, i32_w]
                    rfl
                   refine take_ (i := 10) (N := some 110) (v := ?_) (a' := ?_) #[true, true, true, true, true, true, true, true, true, true, true, false, false] rfl rfl (take_ofW HT_.out HW_.out (by kernel_rfl)) (fun _ _ _ h => h) (Or.inl ⟨by rfl, ?_⟩) hHeld ?_ ?_
                   rotate_left
                   ·
                    rintro w' ⟨s0, s1, s2, s3, s4, s5, s6, s7, s8, s9, s10⟩
                    go_simp
                    with_reducible rfl
                   rotate_left
                   ·
                    simp only [Act.put, List.setIfInBounds_toArray, List.set_cons_zero, List.set_cons_succ, i64_w, i32_w]
                    rfl
                   refine one_ (i := 11) (N := some 111) #[true, true, true, true, true, true, true, true, true, true, true, true, false] rfl rfl (one_of HT_.out (by kernel_rfl)) (by decide) (fun K hK => ?_)
                   refine goes_ Tryd.func19 (by kernel_rfl) rfl #[.slice Ao33 x12_3.length co33, .int .i64 ((rd_T40 t274 x13_3).f1), .int .i64 ((rd_T42 t283 x13_3).f2)] (by rfl) rfl rfl (by (try simp only [List.map_toArray, List.map_cons, List.map_nil]); first | done | rfl | (simp only [List.length_drop, List.length_take]; rfl)) ?_
                   with_reducible refine (warpref1_Same.calls _ _ x12_3 ((rd_T40 t274 x13_3).f1) ((rd_T42 t283 x13_3).f2) true _ ?side1 ?side2 A40.out).mono ?_
                   (case side1 => repeat (first | exact (Kd.R_reads' HO_12.out).2.2 | (with_reducible refine Kd.C_alloc ?_ _) | (with_reducible refine Kd.C_drewN ?_ _) | (with_reducible refine Kd.C_drew ?_)))
                   (case side2 => exact (Kd.R_reads' HO_12.out).2.1)
                   rintro e w' ⟨rfl, ⟨nd, rfl⟩⟩
                   refine ⟨_, rfl, ?_⟩
                   refine hK.out _ _ ⟨hHeld.1, hHeld.2.1, hHeld.2.2.1, hHeld.2.2.2.1, hHeld.2.2.2.2.1, hHeld.2.2.2.2.2.1, hHeld.2.2.2.2.2.2.1, hHeld.2.2.2.2.2.2.2.1, hHeld.2.2.2.2.2.2.2.2.1, hHeld.2.2.2.2.2.2.2.2.2.1, hHeld.2.2.2.2.2.2.2.2.2.2⟩ (fun hHeld => ?_)
                   clear hK K
                   refine norm_ (a' := ?_) ?_ ?_
                   rotate_left
                   ·
                    show Act.put _ (some 111) _ = _
                    simp only [Act.put, List.setIfInBounds_toArray, List.set_cons_zero, List.set_cons_succ, i64_w, i32_w]
                    rfl
                   refine pure_ (i := 12) (N := some 112) (v := ?_) (a' := ?_) #[true, true, true, true, true, true, true, true, true, true, true, true, true] rfl rfl (any_of HT_.out (by kernel_rfl)) (fun _ _ _ h => h) (Or.inl ⟨by rfl, ?_⟩) ?_ ?_
                   rotate_left
                   ·
                    intro w'
                    go_simp
                    with_reducible rfl
                   rotate_left
                   ·
                    simp only [Act.put, List.setIfInBounds_toArray, List.set_cons_zero, List.set_cons_succ, i64_w, i32_w]
                    rfl
                   refine done_ (done_of HT_.out (by kernel_rfl)) ?_
                   try go_wp2
                   go_meet
                   case rel => exact ⟨_, (x12_3), H', ⟨by have := HJ3.out; have := HJ11.out; have := HK3.out; have := HJ30.out; first | omega | exact Nat.le_refl _⟩, ⟨by (with_reducible repeat (first | apply Kd.R_alloc | apply Kd.R_drewN | apply Kd.R_drew)); exact HO_8.out⟩, ⟨by (with_reducible repeat (first | apply Kd.R_alloc | apply Kd.R_drewN | apply Kd.R_drew)); exact HO_9.out⟩, ⟨by (with_reducible repeat (first | apply Kd.R_alloc | apply Kd.R_drewN | apply Kd.R_drew)); exact HO_12.out⟩, ⟨by repeat (first | (with_reducible first | exact HB.out | apply below_alloc | apply pw_below_drewN | apply below_drew1) | exact HB.out)⟩⟩
                  ·
                   replace c41 := Bool.eq_false_iff.mpr c41
                   subst c41
                   have H1 : (some false) = some r := by rw [if_neg (show ¬ (false = true) by decide)] at H; exact H
                   clear H
                   have H := H1
                   clear H1
                   obtain rfl := Option.some.inj H
                   try go_wp2
                   have n0_ := Aside0.mk (Kd.R_drew HO_8.out)
                   have n1_ := Aside0.mk (Kd.R_drew HO_9.out)
                   have n2_ := Aside0.mk (Kd.R_drew HO_12.out)
                   have n3_ := Aside0.mk (below_drew1 HB.out)
                   clear HO_8
                   clear HO_9
                   clear HO_12
                   clear HB
                   have HO_8 := n0_
                   have HO_9 := n1_
                   have HO_12 := n2_
                   have HB := n3_
                   clear n0_ n1_ n2_ n3_
                   have p297 : 0 ≤ (x13_3 : Int) := of_decide_eq_true (by first | (with_reducible assumption) | assumption)
                   have q297 : x13_3 < (t274.length : Int) := of_decide_eq_true (by first | (with_reducible assumption) | assumption)
                   obtain ⟨ad297, e297, hx297_0, hx297_1, hx297_2⟩ := at_T40 (Kd.R_reads' HO_8.out).2.2 x13_3 p297 q297
                   obtain rfl : ad293 = ad297 := (by injection e297)
                   replace p297 := eq_true p297
                   replace q297 := eq_true q297
                   obtain ⟨Ao45, co45, eo45⟩ := Kd.R_slice HO_9.out
                   (first | subst eo45 | (injection eo45 with f1_ f2_ f3_; have f4_ := f1_.symm; have f5_ := f3_.symm; clear f1_ f2_ f3_; subst f4_; subst f5_))
                   have p298 : 0 ≤ (x13_3 : Int) := of_decide_eq_true (by first | (with_reducible assumption) | assumption)
                   have q298 : x13_3 < (t283.length : Int) := of_decide_eq_true (by first | (with_reducible assumption) | assumption)
                   obtain ⟨ad298, e298, hx298_0, hx298_1, hx298_2, hx298_3, hx298_4, hx298_5, hx298_6, hx298_7⟩ := at_T42 (Kd.R_reads' HO_9.out).2.2 x13_3 p298 q298
                   cases e298
                   replace p298 := eq_true p298
                   replace q298 := eq_true q298
                   refine start_ (n := 13) (S := fun w' => w'.cell? (ad293.add ((x13_3).toNat * 3)) = some (.int .i64 ((rd_T40 t274 x13_3).f0)) ∧ w'.cell? ⟨(ad293.add ((x13_3).toNat * 3)).block, (ad293.add ((x13_3).toNat * 3)).off + 1, none⟩ = some (.int .i64 ((rd_T40 t274 x13_3).f1)) ∧ w'.cell? ⟨(ad293.add ((x13_3).toNat * 3)).block, (ad293.add ((x13_3).toNat * 3)).off + 2, none⟩ = some (.int .i64 ((rd_T40 t274 x13_3).f2)) ∧ w'.cell? (ad298.add ((x13_3).toNat * 8)) = some (.int .i64 ((rd_T42 t283 x13_3).f0)) ∧ w'.cell? ⟨(ad298.add ((x13_3).toNat * 8)).block, (ad298.add ((x13_3).toNat * 8)).off + 1, none⟩ = some (.int .i64 ((rd_T42 t283 x13_3).f1.f0)) ∧ w'.cell? ⟨(ad298.add ((x13_3).toNat * 8)).block, (ad298.add ((x13_3).toNat * 8)).off + 2, none⟩ = some (.int .i64 ((rd_T42 t283 x13_3).f1.f1)) ∧ w'.cell? ⟨(ad298.add ((x13_3).toNat * 8)).block, (ad298.add ((x13_3).toNat * 8)).off + 3, none⟩ = some (.int .i64 ((rd_T42 t283 x13_3).f1.f2)) ∧ w'.cell? ⟨(ad298.add ((x13_3).toNat * 8)).block, (ad298.add ((x13_3).toNat * 8)).off + 4, none⟩ = some (.int .i64 ((rd_T42 t283 x13_3).f2)) ∧ w'.cell? ⟨(ad298.add ((x13_3).toNat * 8)).block, (ad298.add ((x13_3).toNat * 8)).off + 5, none⟩ = some (.int .i64 ((rd_T42 t283 x13_3).f3)) ∧ w'.cell? ⟨(ad298.add ((x13_3).toNat * 8)).block, (ad298.add ((x13_3).toNat * 8)).off + 6, none⟩ = some (.int .i64 ((rd_T42 t283 x13_3).f4)) ∧ w'.cell? ⟨(ad298.add ((x13_3).toNat * 8)).block, (ad298.add ((x13_3).toNat * 8)).off + 7, none⟩ = some (.int .i64 ((rd_T42 t283 x13_3).f5))) (ds := []) #[false, false, false, false, false, false, false, false, false, false, false, false, false] (by kernel_rfl) rfl rfl ⟨hx297_0, hx297_1, hx297_2, hx298_0, hx298_1, hx298_2, hx298_3, hx298_4, hx298_5, hx298_6, hx298_7⟩ (fun hHeld => ?_); refine with_tabW warplaw5_PlayOne.tab20 warplaw5_PlayOne.bits20 (fun HT_ HW_ => ?_)
                   generalize wc.drew = w44 at HO_8 HO_9 HO_12 HB hx297_0 hx297_1 hx297_2 hx298_0 hx298_1 hx298_2 hx298_3 hx298_4 hx298_5 hx298_6 hx298_7 hHeld ⊢
                   refine pure_ (i := 0) (N := some 100) (v := ?_) (a' := ?_) #[true, false, false, false, false, false, false, false, false, false, false, false, false] rfl rfl (any_of HT_.out (by kernel_rfl)) (fun _ _ _ h => h) (Or.inl ⟨by rfl, ?_⟩) ?_ ?_
                   rotate_left
                   ·
                    intro w'
                    go_simp
                    with_reducible rfl
                   rotate_left
                   ·
                    simp only [Act.put, List.setIfInBounds_toArray, List.set_cons_zero, List.set_cons_succ, i64_w, i32_w]
                    rfl
                   refine pure_ (i := 1) (N := some 101) (v := ?_) (a' := ?_) #[true, true, false, false, false, false, false, false, false, false, false, false, false] rfl rfl (any_of HT_.out (by kernel_rfl)) (fun _ _ _ h => h) (Or.inl ⟨by rfl, ?_⟩) ?_ ?_
                   rotate_left
                   ·
                    intro w'
                    go_simp
                    with_reducible rfl
                   rotate_left
                   ·
                    simp only [Act.put, List.setIfInBounds_toArray, List.set_cons_zero, List.set_cons_succ, i64_w, i32_w]
                    rfl
                   refine pure_ (i := 2) (N := some 102) (v := ?_) (a' := ?_) #[true, true, true, false, false, false, false, false, false, false, false, false, false] rfl rfl (any_of HT_.out (by kernel_rfl)) (fun _ _ _ h => h) (Or.inl ⟨by rfl, ?_⟩) ?_ ?_
                   rotate_left
                   ·
                    intro w'
                    go_simp
                    with_reducible rfl
                   rotate_left
                   ·
                    simp only [Act.put, List.setIfInBounds_toArray, List.set_cons_zero, List.set_cons_succ, i64_w, i32_w]
                    rfl
                   refine pure_ (i := 3) (N := some 103) (v := ?_) (a' := ?_) #[true, true, true, true, false, false, false, false, false, false, false, false, false] rfl rfl (any_of HT_.out (by kernel_rfl)) (fun _ _ _ h => h) (Or.inl ⟨by rfl, ?_⟩) ?_ ?_
                   rotate_left
                   ·
                    intro w'
                    go_simp
                    with_reducible rfl
                   rotate_left
                   ·
                    simp only [Act.put, List.setIfInBounds_toArray, List.set_cons_zero, List.set_cons_succ, i64_w, i32_w]
                    rfl
                   refine pure_ (i := 4) (N := some 104) (v := ?_) (a' := ?_) #[true, true, true, true, true, false, false, false, false, false, false, false, false] rfl rfl (any_of HT_.out (by kernel_rfl)) (fun _ _ _ h => h) (Or.inl ⟨by rfl, ?_⟩) ?_ ?_
                   rotate_left
                   ·
                    intro w'
                    go_simp
                    with_reducible rfl
                   rotate_left
                   ·
                    simp only [Act.put, List.setIfInBounds_toArray, List.set_cons_zero, List.set_cons_succ, i64_w, i32_w]
                    rfl
                   refine pure_ (i := 6) (N := some 106) (v := ?_) (a' := ?_) #[true, true, true, true, true, false, true, false, false, false, false, false, false] rfl rfl (any_of HT_.out (by kernel_rfl)) (fun _ _ _ h => h) (Or.inl ⟨by rfl, ?_⟩) ?_ ?_
                   rotate_left
                   ·
                    intro w'
                    go_simp
                    with_reducible rfl
                   rotate_left
                   ·
                    simp only [Act.put, List.setIfInBounds_toArray, List.set_cons_zero, List.set_cons_succ, i64_w, i32_w]
                    rfl
                   refine pure_ (i := 7) (N := some 107) (v := ?_) (a' := ?_) #[true, true, true, true, true, false, true, true, false, false, false, false, false] rfl rfl (any_of HT_.out (by kernel_rfl)) (fun _ _ _ h => h) (Or.inl ⟨by rfl, ?_⟩) ?_ ?_
                   rotate_left
                   ·
                    intro w'
                    go_simp
                    with_reducible rfl
                   rotate_left
                   ·
                    simp only [Act.put, List.setIfInBounds_toArray, List.set_cons_zero, List.set_cons_succ, i64_w, i32_w]
                    rfl
                   refine pure_ (i := 8) (N := some 108) (v := ?_) (a' := ?_) #[true, true, true, true, true, false, true, true, true, false, false, false, false] rfl rfl (any_of HT_.out (by kernel_rfl)) (fun _ _ _ h => h) (Or.inl ⟨by rfl, ?_⟩) ?_ ?_
                   rotate_left
                   ·
                    intro w'
                    go_simp
                    with_reducible rfl
                   rotate_left
                   ·
                    simp only [Act.put, List.setIfInBounds_toArray, List.set_cons_zero, List.set_cons_succ, i64_w, i32_w]
                    rfl
                   refine pure_ (i := 9) (N := some 109) (v := ?_) (a' := ?_) #[true, true, true, true, true, false, true, true, true, true, false, false, false] rfl rfl (any_of HT_.out (by kernel_rfl)) (fun _ _ _ h => h) (Or.inl ⟨by rfl, ?_⟩) ?_ ?_
                   rotate_left
                   ·
                    intro w'
                    go_simp
                    with_reducible rfl
                   rotate_left
                   ·
                    simp only [Act.put, List.setIfInBounds_toArray, List.set_cons_zero, List.set_cons_succ, i64_w, i32_w]
                    rfl
                   refine take_ (i := 5) (N := some 105) (v := ?_) (a' := ?_) #[true, true, true, true, true, true, true, true, true, true, false, false, false] rfl rfl (take_ofW HT_.out HW_.out (by kernel_rfl)) (fun _ _ _ h => h) (Or.inl ⟨by rfl, ?_⟩) hHeld ?_ ?_
                   rotate_left
                   ·
                    rintro w' ⟨s0, s1, s2, s3, s4, s5, s6, s7, s8, s9, s10⟩
                    go_simp
                    with_reducible rfl
                   rotate_left
                   ·
                    simp only [Act.put, List.setIfInBounds_toArray, List.set_cons_zero, List.set_cons_succ, i64_w, i32_w]
                    rfl
                   refine take_ (i := 10) (N := some 110) (v := ?_) (a' := ?_) #[true, true, true, true, true, true, true, true, true, true, true, false, false] rfl rfl (take_ofW HT_.out HW_.out (by kernel_rfl)) (fun _ _ _ h => h) (Or.inl ⟨by rfl, ?_⟩) hHeld ?_ ?_
                   rotate_left
                   ·
                    rintro w' ⟨s0, s1, s2, s3, s4, s5, s6, s7, s8, s9, s10⟩
                    go_simp
                    with_reducible rfl
                   rotate_left
                   ·
                    simp only [Act.put, List.setIfInBounds_toArray, List.set_cons_zero, List.set_cons_succ, i64_w, i32_w]
                    rfl
                   refine one_ (i := 11) (N := some 111) #[true, true, true, true, true, true, true, true, true, true, true, true, false] rfl rfl (one_of HT_.out (by kernel_rfl)) (by decide) (fun K hK => ?_)
                   refine goes_ Tryd.func19 (by kernel_rfl) rfl #[.slice Ao33 x12_3.length co33, .int .i64 ((rd_T40 t274 x13_3).f1), .int .i64 ((rd_T42 t283 x13_3).f2)] (by rfl) rfl rfl (by (try simp only [List.map_toArray, List.map_cons, List.map_nil]); first | done | rfl | (simp only [List.length_drop, List.length_take]; rfl)) ?_
                   with_reducible refine (warpref1_Same.calls _ _ x12_3 ((rd_T40 t274 x13_3).f1) ((rd_T42 t283 x13_3).f2) false _ ?side1 ?side2 A40.out).mono ?_
                   (case side1 => repeat (first | exact (Kd.R_reads' HO_12.out).2.2 | (with_reducible refine Kd.C_alloc ?_ _) | (with_reducible refine Kd.C_drewN ?_ _) | (with_reducible refine Kd.C_drew ?_)))
                   (case side2 => exact (Kd.R_reads' HO_12.out).2.1)
                   rintro e w' ⟨rfl, ⟨nd, rfl⟩⟩
                   refine ⟨_, rfl, ?_⟩
                   refine hK.out _ _ ⟨hHeld.1, hHeld.2.1, hHeld.2.2.1, hHeld.2.2.2.1, hHeld.2.2.2.2.1, hHeld.2.2.2.2.2.1, hHeld.2.2.2.2.2.2.1, hHeld.2.2.2.2.2.2.2.1, hHeld.2.2.2.2.2.2.2.2.1, hHeld.2.2.2.2.2.2.2.2.2.1, hHeld.2.2.2.2.2.2.2.2.2.2⟩ (fun hHeld => ?_)
                   clear hK K
                   refine norm_ (a' := ?_) ?_ ?_
                   rotate_left
                   ·
                    show Act.put _ (some 111) _ = _
                    simp only [Act.put, List.setIfInBounds_toArray, List.set_cons_zero, List.set_cons_succ, i64_w, i32_w]
                    rfl
                   refine pure_ (i := 12) (N := some 112) (v := ?_) (a' := ?_) #[true, true, true, true, true, true, true, true, true, true, true, true, true] rfl rfl (any_of HT_.out (by kernel_rfl)) (fun _ _ _ h => h) (Or.inl ⟨by rfl, ?_⟩) ?_ ?_
                   rotate_left
                   ·
                    intro w'
                    go_simp
                    with_reducible rfl
                   rotate_left
                   ·
                    simp only [Act.put, List.setIfInBounds_toArray, List.set_cons_zero, List.set_cons_succ, i64_w, i32_w]
                    rfl
                   refine done_ (done_of HT_.out (by kernel_rfl)) ?_
                   try go_wp2
                   go_ret
                   exact ⟨by first | rfl | (simp [errW_none, errW_some] <;> rfl) | (simp [*, errW_none, errW_some] <;> rfl), by repeat (first | (with_reducible first | exact HB.out | apply below_alloc | apply pw_below_drewN | apply below_drew1) | exact HB.out)⟩
                 ·
                  rw [if_neg c39] at H
                  exact absurd H (by simp)
                ·
                 rw [if_neg c38] at H
                 have c38b0 : (((rd_T40 t274 x13_3).f0) == 1) = false := beq_eq_false_iff_ne.mpr c38
                 have c38b1 : (((rd_T40 t274 x13_3).f0) != 1) = true := bne_iff_ne.mpr c38
                 (first | rw [c38b0] | (simp only [i64_w, i32_w]; rw [c38b0]) | skip)
                 by_cases c46 : ((rd_T40 t274 x13_3).f0) = 2
                 ·
                  rw [if_pos c46] at H
                  have c46b0 : (((rd_T40 t274 x13_3).f0) == 2) = true := beq_iff_eq.mpr c46
                  have c46b1 : (((rd_T40 t274 x13_3).f0) != 2) = false := bne_eq_false_iff_eq.mpr c46
                  clear c46
                  by_cases c47 : x13_3 < (t283.length : Int)
                  ·
                   rw [if_pos c47] at H
                   have c47b0 : decide (x13_3 < (t283.length : Int)) = true := decide_eq_true c47
                   clear c47
                   by_cases c48 : ((rd_T42 t283 x13_3).f2) = x14_30
                   ·
                    rw [if_pos c48] at H
                    have c48b0 : (((rd_T42 t283 x13_3).f2) == x14_30) = true := beq_iff_eq.mpr c48
                    have c48b1 : (((rd_T42 t283 x13_3).f2) != x14_30) = false := bne_eq_false_iff_eq.mpr c48
                    clear c48
                    have H' := Aside0.mk H
                    clear H
                    obtain ⟨Ao49, co49, eo49⟩ := Kd.R_slice HO_9.out
                    subst eo49
                    have p300 : 0 ≤ (x13_3 : Int) := of_decide_eq_true (by first | (with_reducible assumption) | assumption)
                    have q300 : x13_3 < (t283.length : Int) := of_decide_eq_true (by first | (with_reducible assumption) | assumption)
                    obtain ⟨ad300, e300, hx300_0, hx300_1, hx300_2, hx300_3, hx300_4, hx300_5, hx300_6, hx300_7⟩ := at_T42 (Kd.R_reads' HO_9.out).2.2 x13_3 p300 q300
                    cases e300
                    replace p300 := eq_true p300
                    replace q300 := eq_true q300
                    go_wp2
                    go_meet
                    case rel => exact ⟨_, (x12_3), H', ⟨by have := HJ3.out; have := HJ11.out; have := HK3.out; have := HJ30.out; first | omega | exact Nat.le_refl _⟩, ⟨by (with_reducible repeat (first | apply Kd.R_alloc | apply Kd.R_drewN | apply Kd.R_drew)); exact HO_8.out⟩, ⟨by (with_reducible repeat (first | apply Kd.R_alloc | apply Kd.R_drewN | apply Kd.R_drew)); exact HO_9.out⟩, ⟨by (with_reducible repeat (first | apply Kd.R_alloc | apply Kd.R_drewN | apply Kd.R_drew)); exact HO_12.out⟩, ⟨by repeat (first | (with_reducible first | exact HB.out | apply below_alloc | apply pw_below_drewN | apply below_drew1) | exact HB.out)⟩⟩
                   ·
                    rw [if_neg c48] at H
                    have c48b0 : (((rd_T42 t283 x13_3).f2) == x14_30) = false := beq_eq_false_iff_ne.mpr c48
                    have c48b1 : (((rd_T42 t283 x13_3).f2) != x14_30) = true := bne_iff_ne.mpr c48
                    obtain rfl := Option.some.inj H
                    obtain ⟨Ao50, co50, eo50⟩ := Kd.R_slice HO_9.out
                    subst eo50
                    have p300 : 0 ≤ (x13_3 : Int) := of_decide_eq_true (by first | (with_reducible assumption) | assumption)
                    have q300 : x13_3 < (t283.length : Int) := of_decide_eq_true (by first | (with_reducible assumption) | assumption)
                    obtain ⟨ad300, e300, hx300_0, hx300_1, hx300_2, hx300_3, hx300_4, hx300_5, hx300_6, hx300_7⟩ := at_T42 (Kd.R_reads' HO_9.out).2.2 x13_3 p300 q300
                    cases e300
                    replace p300 := eq_true p300
                    replace q300 := eq_true q300
                    go_wp2
                    go_ret
                    exact ⟨by first | rfl | (simp [errW_none, errW_some] <;> rfl) | (simp [*, errW_none, errW_some] <;> rfl), by repeat (first | (with_reducible first | exact HB.out | apply below_alloc | apply pw_below_drewN | apply below_drew1) | exact HB.out)⟩
                  ·
                   rw [if_neg c47] at H
                   exact absurd H (by simp)
                 ·
                  rw [if_neg c46] at H
                  have c46b0 : (((rd_T40 t274 x13_3).f0) == 2) = false := beq_eq_false_iff_ne.mpr c46
                  have c46b1 : (((rd_T40 t274 x13_3).f0) != 2) = true := bne_iff_ne.mpr c46
                  by_cases c51 : x13_3 < (t283.length : Int)
                  ·
                   rw [if_pos c51] at H
                   have c51b0 : decide (x13_3 < (t283.length : Int)) = true := decide_eq_true c51
                   clear c51
                   by_cases c52 : ((rd_T42 t283 x13_3).f2) = (wrap64 (1 - x14_30))
                   ·
                    rw [if_pos c52] at H
                    have c52b0 : (((rd_T42 t283 x13_3).f2) == (wrap64 (1 - x14_30))) = true := beq_iff_eq.mpr c52
                    have c52b1 : (((rd_T42 t283 x13_3).f2) != (wrap64 (1 - x14_30))) = false := bne_eq_false_iff_eq.mpr c52
                    clear c52
                    replace H := Option.bind_eq_some_iff.mp H
                    obtain ⟨t304, A530, H⟩ := H
                    replace H : (warplaw5_PlayOne.j4 kj30 t274 t283 t304 x13_3) = some r := H
                    have A53 := Aside0.mk A530
                    clear A530
                    have H' := Aside0.mk H
                    clear H
                    obtain ⟨Ao54, co54, eo54⟩ := Kd.R_slice HO_9.out
                    subst eo54
                    have p301 : 0 ≤ (x13_3 : Int) := of_decide_eq_true (by first | (with_reducible assumption) | assumption)
                    have q301 : x13_3 < (t283.length : Int) := of_decide_eq_true (by first | (with_reducible assumption) | assumption)
                    obtain ⟨ad301, e301, hx301_0, hx301_1, hx301_2, hx301_3, hx301_4, hx301_5, hx301_6, hx301_7⟩ := at_T42 (Kd.R_reads' HO_9.out).2.2 x13_3 p301 q301
                    cases e301
                    replace p301 := eq_true p301
                    replace q301 := eq_true q301
                    try go_wp2
                    have n0_ := Aside0.mk (Kd.R_drew HO_8.out)
                    have n1_ := Aside0.mk (Kd.R_drew HO_9.out)
                    have n2_ := Aside0.mk (Kd.R_drew HO_12.out)
                    have n3_ := Aside0.mk (below_drew1 HB.out)
                    clear HO_8
                    clear HO_9
                    clear HO_12
                    clear HB
                    have HO_8 := n0_
                    have HO_9 := n1_
                    have HO_12 := n2_
                    have HB := n3_
                    clear n0_ n1_ n2_ n3_
                    have p302 : 0 ≤ (x13_3 : Int) := of_decide_eq_true (by first | (with_reducible assumption) | assumption)
                    have q302 : x13_3 < (t274.length : Int) := of_decide_eq_true (by first | (with_reducible assumption) | assumption)
                    obtain ⟨ad302, e302, hx302_0, hx302_1, hx302_2⟩ := at_T40 (Kd.R_reads' HO_8.out).2.2 x13_3 p302 q302
                    obtain rfl : ad293 = ad302 := (by injection e302)
                    replace p302 := eq_true p302
                    replace q302 := eq_true q302
                    have p303 : 0 ≤ (x13_3 : Int) := of_decide_eq_true (by first | (with_reducible assumption) | assumption)
                    have q303 : x13_3 < (t274.length : Int) := of_decide_eq_true (by first | (with_reducible assumption) | assumption)
                    obtain ⟨ad303, e303, hx303_0, hx303_1, hx303_2⟩ := at_T40 (Kd.R_reads' HO_8.out).2.2 x13_3 p303 q303
                    obtain rfl : ad293 = ad303 := (by injection e303)
                    replace p303 := eq_true p303
                    replace q303 := eq_true q303
                    refine start_ (n := 13) (S := fun w' => w'.cell? (ad293.add ((x13_3).toNat * 3)) = some (.int .i64 ((rd_T40 t274 x13_3).f0)) ∧ w'.cell? ⟨(ad293.add ((x13_3).toNat * 3)).block, (ad293.add ((x13_3).toNat * 3)).off + 1, none⟩ = some (.int .i64 ((rd_T40 t274 x13_3).f1)) ∧ w'.cell? ⟨(ad293.add ((x13_3).toNat * 3)).block, (ad293.add ((x13_3).toNat * 3)).off + 2, none⟩ = some (.int .i64 ((rd_T40 t274 x13_3).f2)) ∧ w'.cell? (ad293.add ((x13_3).toNat * 3)) = some (.int .i64 ((rd_T40 t274 x13_3).f0)) ∧ w'.cell? ⟨(ad293.add ((x13_3).toNat * 3)).block, (ad293.add ((x13_3).toNat * 3)).off + 1, none⟩ = some (.int .i64 ((rd_T40 t274 x13_3).f1)) ∧ w'.cell? ⟨(ad293.add ((x13_3).toNat * 3)).block, (ad293.add ((x13_3).toNat * 3)).off + 2, none⟩ = some (.int .i64 ((rd_T40 t274 x13_3).f2))) (ds := []) #[false, false, false, false, false, false, false, false, false, false, false, false, false] (by kernel_rfl) rfl rfl ⟨hx302_0, hx302_1, hx302_2, hx303_0, hx303_1, hx303_2⟩ (fun hHeld => ?_); refine with_tabW warplaw5_PlayOne.tab18 warplaw5_PlayOne.bits18 (fun HT_ HW_ => ?_)
                    generalize wc.drew = w55 at HO_8 HO_9 HO_12 HB hx302_0 hx302_1 hx302_2 hx303_0 hx303_1 hx303_2 hHeld ⊢
                    refine pure_ (i := 0) (N := some 86) (v := ?_) (a' := ?_) #[true, false, false, false, false, false, false, false, false, false, false, false, false] rfl rfl (any_of HT_.out (by kernel_rfl)) (fun _ _ _ h => h) (Or.inl ⟨by rfl, ?_⟩) ?_ ?_
                    rotate_left
                    ·
                     intro w'
                     go_simp
                     with_reducible rfl
                    rotate_left
                    ·
                     simp only [Act.put, List.setIfInBounds_toArray, List.set_cons_zero, List.set_cons_succ, i64_w, i32_w]
                     rfl
                    refine pure_ (i := 1) (N := some 87) (v := ?_) (a' := ?_) #[true, true, false, false, false, false, false, false, false, false, false, false, false] rfl rfl (any_of HT_.out (by kernel_rfl)) (fun _ _ _ h => h) (Or.inl ⟨by rfl, ?_⟩) ?_ ?_
                    rotate_left
                    ·
                     intro w'
                     go_simp
                     with_reducible rfl
                    rotate_left
                    ·
                     simp only [Act.put, List.setIfInBounds_toArray, List.set_cons_zero, List.set_cons_succ, i64_w, i32_w]
                     rfl
                    refine pure_ (i := 2) (N := some 88) (v := ?_) (a' := ?_) #[true, true, true, false, false, false, false, false, false, false, false, false, false] rfl rfl (any_of HT_.out (by kernel_rfl)) (fun _ _ _ h => h) (Or.inl ⟨by rfl, ?_⟩) ?_ ?_
                    rotate_left
                    ·
                     intro w'
                     go_simp
                     with_reducible rfl
                    rotate_left
                    ·
                     simp only [Act.put, List.setIfInBounds_toArray, List.set_cons_zero, List.set_cons_succ, i64_w, i32_w]
                     rfl
                    refine pure_ (i := 3) (N := some 89) (v := ?_) (a' := ?_) #[true, true, true, true, false, false, false, false, false, false, false, false, false] rfl rfl (any_of HT_.out (by kernel_rfl)) (fun _ _ _ h => h) (Or.inl ⟨by rfl, ?_⟩) ?_ ?_
                    rotate_left
                    ·
                     intro w'
                     go_simp
                     with_reducible rfl
                    rotate_left
                    ·
                     simp only [Act.put, List.setIfInBounds_toArray, List.set_cons_zero, List.set_cons_succ, i64_w, i32_w]
                     rfl
                    refine pure_ (i := 4) (N := some 90) (v := ?_) (a' := ?_) #[true, true, true, true, true, false, false, false, false, false, false, false, false] rfl rfl (any_of HT_.out (by kernel_rfl)) (fun _ _ _ h => h) (Or.inl ⟨by rfl, ?_⟩) ?_ ?_
                    rotate_left
                    ·
                     intro w'
                     go_simp
                     with_reducible rfl
                    rotate_left
                    ·
                     simp only [Act.put, List.setIfInBounds_toArray, List.set_cons_zero, List.set_cons_succ, i64_w, i32_w]
                     rfl
                    refine pure_ (i := 6) (N := some 92) (v := ?_) (a' := ?_) #[true, true, true, true, true, false, true, false, false, false, false, false, false] rfl rfl (any_of HT_.out (by kernel_rfl)) (fun _ _ _ h => h) (Or.inl ⟨by rfl, ?_⟩) ?_ ?_
                    rotate_left
                    ·
                     intro w'
                     go_simp
                     with_reducible rfl
                    rotate_left
                    ·
                     simp only [Act.put, List.setIfInBounds_toArray, List.set_cons_zero, List.set_cons_succ, i64_w, i32_w]
                     rfl
                    refine pure_ (i := 7) (N := some 93) (v := ?_) (a' := ?_) #[true, true, true, true, true, false, true, true, false, false, false, false, false] rfl rfl (any_of HT_.out (by kernel_rfl)) (fun _ _ _ h => h) (Or.inl ⟨by rfl, ?_⟩) ?_ ?_
                    rotate_left
                    ·
                     intro w'
                     go_simp
                     with_reducible rfl
                    rotate_left
                    ·
                     simp only [Act.put, List.setIfInBounds_toArray, List.set_cons_zero, List.set_cons_succ, i64_w, i32_w]
                     rfl
                    refine pure_ (i := 8) (N := some 94) (v := ?_) (a' := ?_) #[true, true, true, true, true, false, true, true, true, false, false, false, false] rfl rfl (any_of HT_.out (by kernel_rfl)) (fun _ _ _ h => h) (Or.inl ⟨by rfl, ?_⟩) ?_ ?_
                    rotate_left
                    ·
                     intro w'
                     go_simp
                     with_reducible rfl
                    rotate_left
                    ·
                     simp only [Act.put, List.setIfInBounds_toArray, List.set_cons_zero, List.set_cons_succ, i64_w, i32_w]
                     rfl
                    refine pure_ (i := 9) (N := some 95) (v := ?_) (a' := ?_) #[true, true, true, true, true, false, true, true, true, true, false, false, false] rfl rfl (any_of HT_.out (by kernel_rfl)) (fun _ _ _ h => h) (Or.inl ⟨by rfl, ?_⟩) ?_ ?_
                    rotate_left
                    ·
                     intro w'
                     go_simp
                     with_reducible rfl
                    rotate_left
                    ·
                     simp only [Act.put, List.setIfInBounds_toArray, List.set_cons_zero, List.set_cons_succ, i64_w, i32_w]
                     rfl
                    refine take_ (i := 5) (N := some 91) (v := ?_) (a' := ?_) #[true, true, true, true, true, true, true, true, true, true, false, false, false] rfl rfl (take_ofW HT_.out HW_.out (by kernel_rfl)) (fun _ _ _ h => h) (Or.inl ⟨by rfl, ?_⟩) hHeld ?_ ?_
                    rotate_left
                    ·
                     rintro w' ⟨s0, s1, s2, s3, s4, s5⟩
                     go_simp
                     with_reducible rfl
                    rotate_left
                    ·
                     simp only [Act.put, List.setIfInBounds_toArray, List.set_cons_zero, List.set_cons_succ, i64_w, i32_w]
                     rfl
                    refine take_ (i := 10) (N := some 96) (v := ?_) (a' := ?_) #[true, true, true, true, true, true, true, true, true, true, true, false, false] rfl rfl (take_ofW HT_.out HW_.out (by kernel_rfl)) (fun _ _ _ h => h) (Or.inl ⟨by rfl, ?_⟩) hHeld ?_ ?_
                    rotate_left
                    ·
                     rintro w' ⟨s0, s1, s2, s3, s4, s5⟩
                     go_simp
                     with_reducible rfl
                    rotate_left
                    ·
                     simp only [Act.put, List.setIfInBounds_toArray, List.set_cons_zero, List.set_cons_succ, i64_w, i32_w]
                     rfl
                    refine one_ (i := 11) (N := some 97) #[true, true, true, true, true, true, true, true, true, true, true, true, false] rfl rfl (one_of HT_.out (by kernel_rfl)) (by decide) (fun K hK => ?_)
                    refine goes_ Tryd.func20 (by kernel_rfl) rfl #[.slice Ao33 x12_3.length co33, .int .i64 ((rd_T40 t274 x13_3).f1), .int .i64 ((rd_T40 t274 x13_3).f2)] (by rfl) rfl rfl (by (try simp only [List.map_toArray, List.map_cons, List.map_nil]); first | done | rfl | (simp only [List.length_drop, List.length_take]; rfl)) ?_
                    with_reducible refine (warpref1_Unite.calls kj30 _ _ x12_3 ((rd_T40 t274 x13_3).f1) ((rd_T40 t274 x13_3).f2) t304 _ ?side1 ?side2 A53.out).mono ?_
                    (case side1 => repeat (first | exact (Kd.R_reads' HO_12.out).2.2 | (with_reducible refine Kd.C_alloc ?_ _) | (with_reducible refine Kd.C_drewN ?_ _) | (with_reducible refine Kd.C_drew ?_)))
                    (case side2 => exact (Kd.R_reads' HO_12.out).2.1)
                    rintro e w56 ⟨v305, rfl, ho0, hb⟩
                    have HS0_ := (hb.cell (World.block_lt_of_cell? _ _ (hHeld.1))).trans (hHeld.1)
                    have HS1_ := (hb.cell (World.block_lt_of_cell? _ _ (hHeld.2.1))).trans (hHeld.2.1)
                    have HS2_ := (hb.cell (World.block_lt_of_cell? _ _ (hHeld.2.2.1))).trans (hHeld.2.2.1)
                    have HS3_ := (hb.cell (World.block_lt_of_cell? _ _ (hHeld.2.2.2.1))).trans (hHeld.2.2.2.1)
                    have HS4_ := (hb.cell (World.block_lt_of_cell? _ _ (hHeld.2.2.2.2.1))).trans (hHeld.2.2.2.2.1)
                    have HS5_ := (hb.cell (World.block_lt_of_cell? _ _ (hHeld.2.2.2.2.2))).trans (hHeld.2.2.2.2.2)
                    refine ⟨_, rfl, ?_⟩
                    have n0_ := Aside0.mk (Kd.R_below (by (with_reducible repeat (first | apply Kd.R_alloc | apply Kd.R_drewN | apply Kd.R_drew)); exact HO_8.out) hb)
                    have n1_ := Aside0.mk (Kd.R_below (by (with_reducible repeat (first | apply Kd.R_alloc | apply Kd.R_drewN | apply Kd.R_drew)); exact HO_9.out) hb)
                    have n2_ := Aside0.mk (Kd.R_elder' (by (with_reducible repeat (first | apply Kd.R_alloc | apply Kd.R_drewN | apply Kd.R_drew)); exact HO_12.out) (Kd.R_base ho0) hb)
                    have n3_ := Aside0.mk (Kd.R_lower (Kd.R_new' ho0 (Kd.R_lt (by (with_reducible repeat (first | apply Kd.R_alloc | apply Kd.R_drewN | apply Kd.R_drew)); exact HO_12.out))) (below_size (by repeat (first | (with_reducible first | exact HB.out | apply below_alloc | apply pw_below_drewN | apply below_drew1) | exact HB.out))))
                    have n4_ := Aside0.mk (below_step (by repeat (first | (with_reducible first | exact HB.out | apply below_alloc | apply pw_below_drewN | apply below_drew1) | exact HB.out)) hb)
                    clear HO_8
                    clear HO_9
                    clear HO_12
                    clear HB
                    have HO_8 := n0_
                    have HO_9 := n1_
                    have HO_12 := n2_
                    have HO306 := n3_
                    have HB := n4_
                    clear n0_ n1_ n2_ n3_ n4_
                    (try clear hb)
                    (try clear hb2)
                    (try clear hk)
                    (try clear hi)
                    (try clear ho0)
                    refine hK.out _ _ ⟨HS0_, HS1_, HS2_, HS3_, HS4_, HS5_⟩ (fun hHeld => ?_)
                    clear hK K
                    refine norm_ (a' := ?_) ?_ ?_
                    rotate_left
                    ·
                     show Act.put _ (some 97) _ = _
                     simp only [Act.put, List.setIfInBounds_toArray, List.set_cons_zero, List.set_cons_succ, i64_w, i32_w]
                     rfl
                    refine pure_ (i := 12) (N := some 12) (v := ?_) (a' := ?_) #[true, true, true, true, true, true, true, true, true, true, true, true, true] rfl rfl (any_of HT_.out (by kernel_rfl)) (fun _ _ _ h => h) (Or.inl ⟨by rfl, ?_⟩) ?_ ?_
                    rotate_left
                    ·
                     intro w'
                     go_simp
                     with_reducible rfl
                    rotate_left
                    ·
                     simp only [Act.put, List.setIfInBounds_toArray, List.set_cons_zero, List.set_cons_succ, i64_w, i32_w]
                     rfl
                    refine done_ (done_of HT_.out (by kernel_rfl)) ?_
                    try go_wp2
                    go_meet
                    case rel => exact ⟨_, (t304), H', ⟨by have := HJ3.out; have := HJ11.out; have := HK3.out; have := HJ30.out; first | omega | exact Nat.le_refl _⟩, ⟨by (with_reducible repeat (first | apply Kd.R_alloc | apply Kd.R_drewN | apply Kd.R_drew)); exact HO_8.out⟩, ⟨by (with_reducible repeat (first | apply Kd.R_alloc | apply Kd.R_drewN | apply Kd.R_drew)); exact HO_9.out⟩, ⟨by (with_reducible repeat (first | apply Kd.R_alloc | apply Kd.R_drewN | apply Kd.R_drew)); exact Kd.R_mono HO306.out (fun _ hk => trivial)⟩, ⟨by repeat (first | (with_reducible first | exact HB.out | apply below_alloc | apply pw_below_drewN | apply below_drew1) | exact HB.out)⟩⟩
                   ·
                    rw [if_neg c52] at H
                    have c52b0 : (((rd_T42 t283 x13_3).f2) == (wrap64 (1 - x14_30))) = false := beq_eq_false_iff_ne.mpr c52
                    have c52b1 : (((rd_T42 t283 x13_3).f2) != (wrap64 (1 - x14_30))) = true := bne_iff_ne.mpr c52
                    obtain rfl := Option.some.inj H
                    obtain ⟨Ao57, co57, eo57⟩ := Kd.R_slice HO_9.out
                    subst eo57
                    have p301 : 0 ≤ (x13_3 : Int) := of_decide_eq_true (by first | (with_reducible assumption) | assumption)
                    have q301 : x13_3 < (t283.length : Int) := of_decide_eq_true (by first | (with_reducible assumption) | assumption)
                    obtain ⟨ad301, e301, hx301_0, hx301_1, hx301_2, hx301_3, hx301_4, hx301_5, hx301_6, hx301_7⟩ := at_T42 (Kd.R_reads' HO_9.out).2.2 x13_3 p301 q301
                    cases e301
                    replace p301 := eq_true p301
                    replace q301 := eq_true q301
                    go_wp2
                    go_ret
                    exact ⟨by first | rfl | (simp [errW_none, errW_some] <;> rfl) | (simp [*, errW_none, errW_some] <;> rfl), by repeat (first | (with_reducible first | exact HB.out | apply below_alloc | apply pw_below_drewN | apply below_drew1) | exact HB.out)⟩
                  ·
                   rw [if_neg c51] at H
                   exact absurd H (by simp)
               case rest =>
                clear HC37
                (try clear c1); (try clear c2); (try clear p2); (try clear q2); (try clear hx2); (try clear c3); (try clear p3); (try clear q3); (try clear hx3); (try clear c4); (try clear c5); (try clear p6); (try clear c19); (try clear c20); (try clear p29); (try clear q29); (try clear hx29); (try clear p30); (try clear q30); (try clear hx30); (try clear c35); (try clear c36); (try clear c36b0); (try clear c38); (try clear c38b0); (try clear c38b1); (try clear c39); (try clear c39b0); (try clear c41); (try clear c46); (try clear c46b0); (try clear c46b1); (try clear c47); (try clear c47b0); (try clear c48); (try clear c48b0); (try clear c48b1); (try clear c51); (try clear c51b0); (try clear c52); (try clear c52b0); (try clear c52b1); (try clear hx296_0); (try clear hx296_1); (try clear hx296_2); (try clear hx297_0); (try clear hx297_1); (try clear hx297_2); (try clear hx298_0); (try clear hx298_1); (try clear hx298_2); (try clear hx298_3); (try clear hx298_4); (try clear hx298_5); (try clear hx298_6); (try clear hx298_7); (try clear hx300_0); (try clear hx300_1); (try clear hx300_2); (try clear hx300_3); (try clear hx300_4); (try clear hx300_5); (try clear hx300_6); (try clear hx300_7); (try clear hx301_0); (try clear hx301_1); (try clear hx301_2); (try clear hx301_3); (try clear hx301_4); (try clear hx301_5); (try clear hx301_6); (try clear hx301_7); (try clear hx302_0); (try clear hx302_1); (try clear hx302_2); (try clear hx303_0); (try clear hx303_1); (try clear hx303_2); (try clear p296); (try clear p297); (try clear p298); (try clear p300); (try clear p301); (try clear p302); (try clear p303); (try clear q296); (try clear q297); (try clear q298); (try clear q300); (try clear q301); (try clear q302); (try clear q303)
                obtain ⟨kq, x12_36, HA, HJ36, HO_8, HO_9, HO_12, HB⟩ := hcut
                cases kq with
                | zero => exact absurd HA.out (by simp [warplaw5_PlayOne.j4])
                | succ kj36 =>
                 have H := HA.out
                 clear HA
                 simp only [warplaw5_PlayOne.j4] at H
                 have HC58 := Aside0.mk H
                 clear H
                 go_upto_region 25 with (fail)
                 go_cut [158] (fun v158 wc => ∃ (kq : Nat) (x158_57 : Bool), v158 = .bool x158_57 ∧ Aside0 (warplaw5_PlayOne.j5 kq t274 t283 x12_36 x13_3 x158_57 = some r) ∧ Aside0 (kq ≤ kj36) ∧ Aside0 (Kd.R k40 40 wc w.heap.size (fun _ => True) (.slice (some ad293) t274.length co15) t274) ∧ Aside0 (Kd.R k42 42 wc w.heap.size (fun _ => True) v286 t283) ∧ Aside0 (Kd.R (Kd.int .i64) 3 wc w.heap.size (fun _ => True) u12 x12_36) ∧ Aside0 (Below w.heap.size w wc))
                 case first =>
                  have H := HC58.out
                  clear HC58
                  by_cases c59 : 0 ≤ x13_3
                  ·
                   rw [if_pos c59] at H
                   have c59b0 : decide (0 ≤ x13_3) = true := decide_eq_true c59
                   clear c59
                   (first | rw [c59b0] | (simp only [i64_w, i32_w]; rw [c59b0]) | skip)
                   by_cases c60 : x13_3 < (t283.length : Int)
                   ·
                    rw [if_pos c60] at H
                    have c60b0 : decide (x13_3 < (t283.length : Int)) = true := decide_eq_true c60
                    clear c60
                    by_cases c61 : x13_3 < (t274.length : Int)
                    ·
                     rw [if_pos c61] at H
                     have c61b0 : decide (x13_3 < (t274.length : Int)) = true := decide_eq_true c61
                     clear c61
                     by_cases c62 : (!(((rd_T42 t283 x13_3).f1.f0) == ((rd_T40 t274 x13_3).f0)) || (!(((rd_T42 t283 x13_3).f1.f1) == ((rd_T40 t274 x13_3).f1)) || (!(((rd_T42 t283 x13_3).f1.f2) == ((rd_T40 t274 x13_3).f2))))) = true
                     ·
                      rw [if_pos c62] at H
                      have c62b0 : (!(((rd_T42 t283 x13_3).f1.f0) == ((rd_T40 t274 x13_3).f0)) || (!(((rd_T42 t283 x13_3).f1.f1) == ((rd_T40 t274 x13_3).f1)) || (!(((rd_T42 t283 x13_3).f1.f2) == ((rd_T40 t274 x13_3).f2))))) = true := c62
                      clear c62
                      have H' := Aside0.mk H
                      clear H
                      try go_wp2
                      have n0_ := Aside0.mk (Kd.R_drew HO_8.out)
                      have n1_ := Aside0.mk (Kd.R_drew HO_9.out)
                      have n2_ := Aside0.mk (Kd.R_drew HO_12.out)
                      have n3_ := Aside0.mk (below_drew1 HB.out)
                      clear HO_8
                      clear HO_9
                      clear HO_12
                      clear HB
                      have HO_8 := n0_
                      have HO_9 := n1_
                      have HO_12 := n2_
                      have HB := n3_
                      clear n0_ n1_ n2_ n3_
                      obtain ⟨Ao64, co64, eo64⟩ := Kd.R_slice HO_9.out
                      (first | subst eo64 | (injection eo64 with f1_ f2_ f3_; have f4_ := f1_.symm; have f5_ := f3_.symm; clear f1_ f2_ f3_; subst f4_; subst f5_))
                      have p307 : 0 ≤ (x13_3 : Int) := of_decide_eq_true (by first | (with_reducible assumption) | assumption)
                      have q307 : x13_3 < (t283.length : Int) := of_decide_eq_true (by first | (with_reducible assumption) | assumption)
                      obtain ⟨ad307, e307, hx307_0, hx307_1, hx307_2, hx307_3, hx307_4, hx307_5, hx307_6, hx307_7⟩ := at_T42 (Kd.R_reads' HO_9.out).2.2 x13_3 p307 q307
                      cases e307
                      replace p307 := eq_true p307
                      replace q307 := eq_true q307
                      have p308 : 0 ≤ (x13_3 : Int) := of_decide_eq_true (by first | (with_reducible assumption) | assumption)
                      have q308 : x13_3 < (t274.length : Int) := of_decide_eq_true (by first | (with_reducible assumption) | assumption)
                      obtain ⟨ad308, e308, hx308_0, hx308_1, hx308_2⟩ := at_T40 (Kd.R_reads' HO_8.out).2.2 x13_3 p308 q308
                      obtain rfl : ad293 = ad308 := (by injection e308)
                      replace p308 := eq_true p308
                      replace q308 := eq_true q308
                      refine start_ (n := 37) (S := fun w' => w'.cell? (ad307.add ((x13_3).toNat * 8)) = some (.int .i64 ((rd_T42 t283 x13_3).f0)) ∧ w'.cell? ⟨(ad307.add ((x13_3).toNat * 8)).block, (ad307.add ((x13_3).toNat * 8)).off + 1, none⟩ = some (.int .i64 ((rd_T42 t283 x13_3).f1.f0)) ∧ w'.cell? ⟨(ad307.add ((x13_3).toNat * 8)).block, (ad307.add ((x13_3).toNat * 8)).off + 2, none⟩ = some (.int .i64 ((rd_T42 t283 x13_3).f1.f1)) ∧ w'.cell? ⟨(ad307.add ((x13_3).toNat * 8)).block, (ad307.add ((x13_3).toNat * 8)).off + 3, none⟩ = some (.int .i64 ((rd_T42 t283 x13_3).f1.f2)) ∧ w'.cell? ⟨(ad307.add ((x13_3).toNat * 8)).block, (ad307.add ((x13_3).toNat * 8)).off + 4, none⟩ = some (.int .i64 ((rd_T42 t283 x13_3).f2)) ∧ w'.cell? ⟨(ad307.add ((x13_3).toNat * 8)).block, (ad307.add ((x13_3).toNat * 8)).off + 5, none⟩ = some (.int .i64 ((rd_T42 t283 x13_3).f3)) ∧ w'.cell? ⟨(ad307.add ((x13_3).toNat * 8)).block, (ad307.add ((x13_3).toNat * 8)).off + 6, none⟩ = some (.int .i64 ((rd_T42 t283 x13_3).f4)) ∧ w'.cell? ⟨(ad307.add ((x13_3).toNat * 8)).block, (ad307.add ((x13_3).toNat * 8)).off + 7, none⟩ = some (.int .i64 ((rd_T42 t283 x13_3).f5)) ∧ w'.cell? (ad293.add ((x13_3).toNat * 3)) = some (.int .i64 ((rd_T40 t274 x13_3).f0)) ∧ w'.cell? ⟨(ad293.add ((x13_3).toNat * 3)).block, (ad293.add ((x13_3).toNat * 3)).off + 1, none⟩ = some (.int .i64 ((rd_T40 t274 x13_3).f1)) ∧ w'.cell? ⟨(ad293.add ((x13_3).toNat * 3)).block, (ad293.add ((x13_3).toNat * 3)).off + 2, none⟩ = some (.int .i64 ((rd_T40 t274 x13_3).f2))) (ds := []) #[false, false, false, false, false, false, false, false, false, false, false, false, false, false, false, false, false, false, false, false, false, false, false, false, false, false, false, false, false, false, false, false, false, false, false, false, false] (by kernel_rfl) rfl rfl ⟨hx307_0, hx307_1, hx307_2, hx307_3, hx307_4, hx307_5, hx307_6, hx307_7, hx308_0, hx308_1, hx308_2⟩ (fun hHeld => ?_); refine with_tabW warplaw5_PlayOne.tab25 warplaw5_PlayOne.bits25 (fun HT_ HW_ => ?_)
                      generalize wc.drew = w63 at HO_8 HO_9 HO_12 HB hx307_0 hx307_1 hx307_2 hx307_3 hx307_4 hx307_5 hx307_6 hx307_7 hx308_0 hx308_1 hx308_2 hHeld ⊢
                      refine pure_ (i := 0) (N := some 122) (v := ?_) (a' := ?_) #[true, false, false, false, false, false, false, false, false, false, false, false, false, false, false, false, false, false, false, false, false, false, false, false, false, false, false, false, false, false, false, false, false, false, false, false, false] rfl rfl (any_of HT_.out (by kernel_rfl)) (fun _ _ _ h => h) (Or.inl ⟨by rfl, ?_⟩) ?_ ?_
                      rotate_left
                      ·
                       intro w'
                       go_simp
                       with_reducible rfl
                      rotate_left
                      ·
                       simp only [Act.put, List.setIfInBounds_toArray, List.set_cons_zero, List.set_cons_succ, i64_w, i32_w]
                       rfl
                      refine pure_ (i := 1) (N := some 123) (v := ?_) (a' := ?_) #[true, true, false, false, false, false, false, false, false, false, false, false, false, false, false, false, false, false, false, false, false, false, false, false, false, false, false, false, false, false, false, false, false, false, false, false, false] rfl rfl (any_of HT_.out (by kernel_rfl)) (fun _ _ _ h => h) (Or.inl ⟨by rfl, ?_⟩) ?_ ?_
                      rotate_left
                      ·
                       intro w'
                       go_simp
                       with_reducible rfl
                      rotate_left
                      ·
                       simp only [Act.put, List.setIfInBounds_toArray, List.set_cons_zero, List.set_cons_succ, i64_w, i32_w]
                       rfl
                      refine pure_ (i := 2) (N := some 124) (v := ?_) (a' := ?_) #[true, true, true, false, false, false, false, false, false, false, false, false, false, false, false, false, false, false, false, false, false, false, false, false, false, false, false, false, false, false, false, false, false, false, false, false, false] rfl rfl (any_of HT_.out (by kernel_rfl)) (fun _ _ _ h => h) (Or.inl ⟨by rfl, ?_⟩) ?_ ?_
                      rotate_left
                      ·
                       intro w'
                       go_simp
                       with_reducible rfl
                      rotate_left
                      ·
                       simp only [Act.put, List.setIfInBounds_toArray, List.set_cons_zero, List.set_cons_succ, i64_w, i32_w]
                       rfl
                      refine pure_ (i := 3) (N := some 125) (v := ?_) (a' := ?_) #[true, true, true, true, false, false, false, false, false, false, false, false, false, false, false, false, false, false, false, false, false, false, false, false, false, false, false, false, false, false, false, false, false, false, false, false, false] rfl rfl (any_of HT_.out (by kernel_rfl)) (fun _ _ _ h => h) (Or.inl ⟨by rfl, ?_⟩) ?_ ?_
                      rotate_left
                      ·
                       intro w'
                       go_simp
                       with_reducible rfl
                      rotate_left
                      ·
                       simp only [Act.put, List.setIfInBounds_toArray, List.set_cons_zero, List.set_cons_succ, i64_w, i32_w]
                       rfl
                      refine pure_ (i := 5) (N := some 127) (v := ?_) (a' := ?_) #[true, true, true, true, false, true, false, false, false, false, false, false, false, false, false, false, false, false, false, false, false, false, false, false, false, false, false, false, false, false, false, false, false, false, false, false, false] rfl rfl (any_of HT_.out (by kernel_rfl)) (fun _ _ _ h => h) (Or.inl ⟨by rfl, ?_⟩) ?_ ?_
                      rotate_left
                      ·
                       intro w'
                       go_simp
                       with_reducible rfl
                      rotate_left
                      ·
                       simp only [Act.put, List.setIfInBounds_toArray, List.set_cons_zero, List.set_cons_succ, i64_w, i32_w]
                       rfl
                      refine pure_ (i := 6) (N := some 128) (v := ?_) (a' := ?_) #[true, true, true, true, false, true, true, false, false, false, false, false, false, false, false, false, false, false, false, false, false, false, false, false, false, false, false, false, false, false, false, false, false, false, false, false, false] rfl rfl (any_of HT_.out (by kernel_rfl)) (fun _ _ _ h => h) (Or.inl ⟨by rfl, ?_⟩) ?_ ?_
                      rotate_left
                      ·
                       intro w'
                       go_simp
                       with_reducible rfl
                      rotate_left
                      ·
                       simp only [Act.put, List.setIfInBounds_toArray, List.set_cons_zero, List.set_cons_succ, i64_w, i32_w]
                       rfl
                      refine pure_ (i := 7) (N := some 129) (v := ?_) (a' := ?_) #[true, true, true, true, false, true, true, true, false, false, false, false, false, false, false, false, false, false, false, false, false, false, false, false, false, false, false, false, false, false, false, false, false, false, false, false, false] rfl rfl (any_of HT_.out (by kernel_rfl)) (fun _ _ _ h => h) (Or.inl ⟨by rfl, ?_⟩) ?_ ?_
                      rotate_left
                      ·
                       intro w'
                       go_simp
                       with_reducible rfl
                      rotate_left
                      ·
                       simp only [Act.put, List.setIfInBounds_toArray, List.set_cons_zero, List.set_cons_succ, i64_w, i32_w]
                       rfl
                      refine take_ (i := 4) (N := some 126) (v := ?_) (a' := ?_) #[true, true, true, true, true, true, true, true, false, false, false, false, false, false, false, false, false, false, false, false, false, false, false, false, false, false, false, false, false, false, false, false, false, false, false, false, false] rfl rfl (take_ofW HT_.out HW_.out (by kernel_rfl)) (fun _ _ _ h => h) (Or.inl ⟨by rfl, ?_⟩) hHeld ?_ ?_
                      rotate_left
                      ·
                       rintro w' ⟨s0, s1, s2, s3, s4, s5, s6, s7, s8, s9, s10⟩
                       go_simp
                       with_reducible rfl
                      rotate_left
                      ·
                       simp only [Act.put, List.setIfInBounds_toArray, List.set_cons_zero, List.set_cons_succ, i64_w, i32_w]
                       rfl
                      refine take_ (i := 8) (N := some 130) (v := ?_) (a' := ?_) #[true, true, true, true, true, true, true, true, true, false, false, false, false, false, false, false, false, false, false, false, false, false, false, false, false, false, false, false, false, false, false, false, false, false, false, false, false] rfl rfl (take_ofW HT_.out HW_.out (by kernel_rfl)) (fun _ _ _ h => h) (Or.inl ⟨by rfl, ?_⟩) hHeld ?_ ?_
                      rotate_left
                      ·
                       rintro w' ⟨s0, s1, s2, s3, s4, s5, s6, s7, s8, s9, s10⟩
                       go_simp
                       with_reducible rfl
                      rotate_left
                      ·
                       simp only [Act.put, List.setIfInBounds_toArray, List.set_cons_zero, List.set_cons_succ, i64_w, i32_w]
                       rfl
                      refine pure_ (i := 9) (N := some 131) (v := ?_) (a' := ?_) #[true, true, true, true, true, true, true, true, true, true, false, false, false, false, false, false, false, false, false, false, false, false, false, false, false, false, false, false, false, false, false, false, false, false, false, false, false] rfl rfl (any_of HT_.out (by kernel_rfl)) (fun _ _ _ h => h) (Or.inl ⟨by rfl, ?_⟩) ?_ ?_
                      rotate_left
                      ·
                       intro w'
                       go_simp
                       with_reducible rfl
                      rotate_left
                      ·
                       simp only [Act.put, List.setIfInBounds_toArray, List.set_cons_zero, List.set_cons_succ, i64_w, i32_w]
                       rfl
                      refine pure_ (i := 10) (N := some 132) (v := ?_) (a' := ?_) #[true, true, true, true, true, true, true, true, true, true, true, false, false, false, false, false, false, false, false, false, false, false, false, false, false, false, false, false, false, false, false, false, false, false, false, false, false] rfl rfl (any_of HT_.out (by kernel_rfl)) (fun _ _ _ h => h) (Or.inl ⟨by rfl, ?_⟩) ?_ ?_
                      rotate_left
                      ·
                       intro w'
                       go_simp
                       with_reducible rfl
                      rotate_left
                      ·
                       simp only [Act.put, List.setIfInBounds_toArray, List.set_cons_zero, List.set_cons_succ, i64_w, i32_w]
                       rfl
                      refine pure_ (i := 11) (N := some 133) (v := undef) (a' := ?_) #[true, true, true, true, true, true, true, true, true, true, true, true, false, false, false, false, false, false, false, false, false, false, false, false, false, false, false, false, false, false, false, false, false, false, false, false, false] rfl rfl (any_of HT_.out (by kernel_rfl)) (fun _ _ _ h => h) (Or.inr ⟨by rfl, rfl⟩) ?_ ?_
                      rotate_left
                      ·
                       simp only [Act.put, List.setIfInBounds_toArray, List.set_cons_zero, List.set_cons_succ, i64_w, i32_w]
                       rfl
                      refine pure_ (i := 12) (N := some 134) (v := undef) (a' := ?_) #[true, true, true, true, true, true, true, true, true, true, true, true, true, false, false, false, false, false, false, false, false, false, false, false, false, false, false, false, false, false, false, false, false, false, false, false, false] rfl rfl (any_of HT_.out (by kernel_rfl)) (fun _ _ _ h => h) (Or.inr ⟨by rfl, rfl⟩) ?_ ?_
                      rotate_left
                      ·
                       simp only [Act.put, List.setIfInBounds_toArray, List.set_cons_zero, List.set_cons_succ, i64_w, i32_w]
                       rfl
                      refine pure_ (i := 13) (N := some 135) (v := undef) (a' := ?_) #[true, true, true, true, true, true, true, true, true, true, true, true, true, true, false, false, false, false, false, false, false, false, false, false, false, false, false, false, false, false, false, false, false, false, false, false, false] rfl rfl (any_of HT_.out (by kernel_rfl)) (fun _ _ _ h => h) (Or.inr ⟨by rfl, rfl⟩) ?_ ?_
                      rotate_left
                      ·
                       simp only [Act.put, List.setIfInBounds_toArray, List.set_cons_zero, List.set_cons_succ, i64_w, i32_w]
                       rfl
                      refine pure_ (i := 14) (N := some 136) (v := undef) (a' := ?_) #[true, true, true, true, true, true, true, true, true, true, true, true, true, true, true, false, false, false, false, false, false, false, false, false, false, false, false, false, false, false, false, false, false, false, false, false, false] rfl rfl (any_of HT_.out (by kernel_rfl)) (fun _ _ _ h => h) (Or.inr ⟨by rfl, rfl⟩) ?_ ?_
                      rotate_left
                      ·
                       simp only [Act.put, List.setIfInBounds_toArray, List.set_cons_zero, List.set_cons_succ, i64_w, i32_w]
                       rfl
                      refine pure_ (i := 15) (N := some 137) (v := undef) (a' := ?_) #[true, true, true, true, true, true, true, true, true, true, true, true, true, true, true, true, false, false, false, false, false, false, false, false, false, false, false, false, false, false, false, false, false, false, false, false, false] rfl rfl (any_of HT_.out (by kernel_rfl)) (fun _ _ _ h => h) (Or.inr ⟨by rfl, rfl⟩) ?_ ?_
                      rotate_left
                      ·
                       simp only [Act.put, List.setIfInBounds_toArray, List.set_cons_zero, List.set_cons_succ, i64_w, i32_w]
                       rfl
                      refine pure_ (i := 16) (N := some 138) (v := undef) (a' := ?_) #[true, true, true, true, true, true, true, true, true, true, true, true, true, true, true, true, true, false, false, false, false, false, false, false, false, false, false, false, false, false, false, false, false, false, false, false, false] rfl rfl (any_of HT_.out (by kernel_rfl)) (fun _ _ _ h => h) (Or.inr ⟨by rfl, rfl⟩) ?_ ?_
                      rotate_left
                      ·
                       simp only [Act.put, List.setIfInBounds_toArray, List.set_cons_zero, List.set_cons_succ, i64_w, i32_w]
                       rfl
                      refine pure_ (i := 17) (N := some 139) (v := ?_) (a' := ?_) #[true, true, true, true, true, true, true, true, true, true, true, true, true, true, true, true, true, true, false, false, false, false, false, false, false, false, false, false, false, false, false, false, false, false, false, false, false] rfl rfl (any_of HT_.out (by kernel_rfl)) (fun _ _ _ h => h) (Or.inl ⟨by rfl, ?_⟩) ?_ ?_
                      rotate_left
                      ·
                       intro w'
                       go_simp
                       with_reducible rfl
                      rotate_left
                      ·
                       simp only [Act.put, List.setIfInBounds_toArray, List.set_cons_zero, List.set_cons_succ, i64_w, i32_w]
                       rfl
                      refine pure_ (i := 18) (N := some 140) (v := ?_) (a' := ?_) #[true, true, true, true, true, true, true, true, true, true, true, true, true, true, true, true, true, true, true, false, false, false, false, false, false, false, false, false, false, false, false, false, false, false, false, false, false] rfl rfl (any_of HT_.out (by kernel_rfl)) (fun _ _ _ h => h) (Or.inl ⟨by rfl, ?_⟩) ?_ ?_
                      rotate_left
                      ·
                       intro w'
                       go_simp
                       with_reducible rfl
                      rotate_left
                      ·
                       simp only [Act.put, List.setIfInBounds_toArray, List.set_cons_zero, List.set_cons_succ, i64_w, i32_w]
                       rfl
                      refine pure_ (i := 19) (N := some 141) (v := undef) (a' := ?_) #[true, true, true, true, true, true, true, true, true, true, true, true, true, true, true, true, true, true, true, true, false, false, false, false, false, false, false, false, false, false, false, false, false, false, false, false, false] rfl rfl (any_of HT_.out (by kernel_rfl)) (fun _ _ _ h => h) (Or.inr ⟨by rfl, rfl⟩) ?_ ?_
                      rotate_left
                      ·
                       simp only [Act.put, List.setIfInBounds_toArray, List.set_cons_zero, List.set_cons_succ, i64_w, i32_w]
                       rfl
                      refine pure_ (i := 20) (N := some 142) (v := undef) (a' := ?_) #[true, true, true, true, true, true, true, true, true, true, true, true, true, true, true, true, true, true, true, true, true, false, false, false, false, false, false, false, false, false, false, false, false, false, false, false, false] rfl rfl (any_of HT_.out (by kernel_rfl)) (fun _ _ _ h => h) (Or.inr ⟨by rfl, rfl⟩) ?_ ?_
                      rotate_left
                      ·
                       simp only [Act.put, List.setIfInBounds_toArray, List.set_cons_zero, List.set_cons_succ, i64_w, i32_w]
                       rfl
                      refine pure_ (i := 21) (N := some 143) (v := undef) (a' := ?_) #[true, true, true, true, true, true, true, true, true, true, true, true, true, true, true, true, true, true, true, true, true, true, false, false, false, false, false, false, false, false, false, false, false, false, false, false, false] rfl rfl (any_of HT_.out (by kernel_rfl)) (fun _ _ _ h => h) (Or.inr ⟨by rfl, rfl⟩) ?_ ?_
                      rotate_left
                      ·
                       simp only [Act.put, List.setIfInBounds_toArray, List.set_cons_zero, List.set_cons_succ, i64_w, i32_w]
                       rfl
                      refine pure_ (i := 22) (N := some 144) (v := undef) (a' := ?_) #[true, true, true, true, true, true, true, true, true, true, true, true, true, true, true, true, true, true, true, true, true, true, true, false, false, false, false, false, false, false, false, false, false, false, false, false, false] rfl rfl (any_of HT_.out (by kernel_rfl)) (fun _ _ _ h => h) (Or.inr ⟨by rfl, rfl⟩) ?_ ?_
                      rotate_left
                      ·
                       simp only [Act.put, List.setIfInBounds_toArray, List.set_cons_zero, List.set_cons_succ, i64_w, i32_w]
                       rfl
                      refine pure_ (i := 23) (N := some 145) (v := undef) (a' := ?_) #[true, true, true, true, true, true, true, true, true, true, true, true, true, true, true, true, true, true, true, true, true, true, true, true, false, false, false, false, false, false, false, false, false, false, false, false, false] rfl rfl (any_of HT_.out (by kernel_rfl)) (fun _ _ _ h => h) (Or.inr ⟨by rfl, rfl⟩) ?_ ?_
                      rotate_left
                      ·
                       simp only [Act.put, List.setIfInBounds_toArray, List.set_cons_zero, List.set_cons_succ, i64_w, i32_w]
                       rfl
                      refine pure_ (i := 24) (N := some 146) (v := undef) (a' := ?_) #[true, true, true, true, true, true, true, true, true, true, true, true, true, true, true, true, true, true, true, true, true, true, true, true, true, false, false, false, false, false, false, false, false, false, false, false, false] rfl rfl (any_of HT_.out (by kernel_rfl)) (fun _ _ _ h => h) (Or.inr ⟨by rfl, rfl⟩) ?_ ?_
                      rotate_left
                      ·
                       simp only [Act.put, List.setIfInBounds_toArray, List.set_cons_zero, List.set_cons_succ, i64_w, i32_w]
                       rfl
                      refine pure_ (i := 25) (N := some 147) (v := undef) (a' := ?_) #[true, true, true, true, true, true, true, true, true, true, true, true, true, true, true, true, true, true, true, true, true, true, true, true, true, true, false, false, false, false, false, false, false, false, false, false, false] rfl rfl (any_of HT_.out (by kernel_rfl)) (fun _ _ _ h => h) (Or.inr ⟨by rfl, rfl⟩) ?_ ?_
                      rotate_left
                      ·
                       simp only [Act.put, List.setIfInBounds_toArray, List.set_cons_zero, List.set_cons_succ, i64_w, i32_w]
                       rfl
                      refine pure_ (i := 26) (N := some 148) (v := undef) (a' := ?_) #[true, true, true, true, true, true, true, true, true, true, true, true, true, true, true, true, true, true, true, true, true, true, true, true, true, true, true, false, false, false, false, false, false, false, false, false, false] rfl rfl (any_of HT_.out (by kernel_rfl)) (fun _ _ _ h => h) (Or.inr ⟨by rfl, rfl⟩) ?_ ?_
                      rotate_left
                      ·
                       simp only [Act.put, List.setIfInBounds_toArray, List.set_cons_zero, List.set_cons_succ, i64_w, i32_w]
                       rfl
                      refine pure_ (i := 27) (N := some 149) (v := undef) (a' := ?_) #[true, true, true, true, true, true, true, true, true, true, true, true, true, true, true, true, true, true, true, true, true, true, true, true, true, true, true, true, false, false, false, false, false, false, false, false, false] rfl rfl (any_of HT_.out (by kernel_rfl)) (fun _ _ _ h => h) (Or.inr ⟨by rfl, rfl⟩) ?_ ?_
                      rotate_left
                      ·
                       simp only [Act.put, List.setIfInBounds_toArray, List.set_cons_zero, List.set_cons_succ, i64_w, i32_w]
                       rfl
                      refine pure_ (i := 28) (N := some 150) (v := undef) (a' := ?_) #[true, true, true, true, true, true, true, true, true, true, true, true, true, true, true, true, true, true, true, true, true, true, true, true, true, true, true, true, true, false, false, false, false, false, false, false, false] rfl rfl (any_of HT_.out (by kernel_rfl)) (fun _ _ _ h => h) (Or.inr ⟨by rfl, rfl⟩) ?_ ?_
                      rotate_left
                      ·
                       simp only [Act.put, List.setIfInBounds_toArray, List.set_cons_zero, List.set_cons_succ, i64_w, i32_w]
                       rfl
                      refine pure_ (i := 29) (N := some 151) (v := undef) (a' := ?_) #[true, true, true, true, true, true, true, true, true, true, true, true, true, true, true, true, true, true, true, true, true, true, true, true, true, true, true, true, true, true, false, false, false, false, false, false, false] rfl rfl (any_of HT_.out (by kernel_rfl)) (fun _ _ _ h => h) (Or.inr ⟨by rfl, rfl⟩) ?_ ?_
                      rotate_left
                      ·
                       simp only [Act.put, List.setIfInBounds_toArray, List.set_cons_zero, List.set_cons_succ, i64_w, i32_w]
                       rfl
                      refine pure_ (i := 30) (N := some 152) (v := undef) (a' := ?_) #[true, true, true, true, true, true, true, true, true, true, true, true, true, true, true, true, true, true, true, true, true, true, true, true, true, true, true, true, true, true, true, false, false, false, false, false, false] rfl rfl (any_of HT_.out (by kernel_rfl)) (fun _ _ _ h => h) (Or.inr ⟨by rfl, rfl⟩) ?_ ?_
                      rotate_left
                      ·
                       simp only [Act.put, List.setIfInBounds_toArray, List.set_cons_zero, List.set_cons_succ, i64_w, i32_w]
                       rfl
                      refine pure_ (i := 31) (N := some 153) (v := undef) (a' := ?_) #[true, true, true, true, true, true, true, true, true, true, true, true, true, true, true, true, true, true, true, true, true, true, true, true, true, true, true, true, true, true, true, true, false, false, false, false, false] rfl rfl (any_of HT_.out (by kernel_rfl)) (fun _ _ _ h => h) (Or.inr ⟨by rfl, rfl⟩) ?_ ?_
                      rotate_left
                      ·
                       simp only [Act.put, List.setIfInBounds_toArray, List.set_cons_zero, List.set_cons_succ, i64_w, i32_w]
                       rfl
                      refine pure_ (i := 32) (N := some 154) (v := undef) (a' := ?_) #[true, true, true, true, true, true, true, true, true, true, true, true, true, true, true, true, true, true, true, true, true, true, true, true, true, true, true, true, true, true, true, true, true, false, false, false, false] rfl rfl (any_of HT_.out (by kernel_rfl)) (fun _ _ _ h => h) (Or.inr ⟨by rfl, rfl⟩) ?_ ?_
                      rotate_left
                      ·
                       simp only [Act.put, List.setIfInBounds_toArray, List.set_cons_zero, List.set_cons_succ, i64_w, i32_w]
                       rfl
                      refine pure_ (i := 33) (N := some 155) (v := undef) (a' := ?_) #[true, true, true, true, true, true, true, true, true, true, true, true, true, true, true, true, true, true, true, true, true, true, true, true, true, true, true, true, true, true, true, true, true, true, false, false, false] rfl rfl (any_of HT_.out (by kernel_rfl)) (fun _ _ _ h => h) (Or.inr ⟨by rfl, rfl⟩) ?_ ?_
                      rotate_left
                      ·
                       simp only [Act.put, List.setIfInBounds_toArray, List.set_cons_zero, List.set_cons_succ, i64_w, i32_w]
                       rfl
                      refine pure_ (i := 34) (N := some 156) (v := undef) (a' := ?_) #[true, true, true, true, true, true, true, true, true, true, true, true, true, true, true, true, true, true, true, true, true, true, true, true, true, true, true, true, true, true, true, true, true, true, true, false, false] rfl rfl (any_of HT_.out (by kernel_rfl)) (fun _ _ _ h => h) (Or.inr ⟨by rfl, rfl⟩) ?_ ?_
                      rotate_left
                      ·
                       simp only [Act.put, List.setIfInBounds_toArray, List.set_cons_zero, List.set_cons_succ, i64_w, i32_w]
                       rfl
                      refine pure_ (i := 35) (N := some 157) (v := undef) (a' := ?_) #[true, true, true, true, true, true, true, true, true, true, true, true, true, true, true, true, true, true, true, true, true, true, true, true, true, true, true, true, true, true, true, true, true, true, true, true, false] rfl rfl (any_of HT_.out (by kernel_rfl)) (fun _ _ _ h => h) (Or.inr ⟨by rfl, rfl⟩) ?_ ?_
                      rotate_left
                      ·
                       simp only [Act.put, List.setIfInBounds_toArray, List.set_cons_zero, List.set_cons_succ, i64_w, i32_w]
                       rfl
                      refine pure_ (i := 36) (N := some 158) (v := ?_) (a' := ?_) #[true, true, true, true, true, true, true, true, true, true, true, true, true, true, true, true, true, true, true, true, true, true, true, true, true, true, true, true, true, true, true, true, true, true, true, true, true] rfl rfl (any_of HT_.out (by kernel_rfl)) (fun _ _ _ h => h) (Or.inl ⟨by rfl, ?_⟩) ?_ ?_
                      rotate_left
                      ·
                       intro w'
                       go_simp
                       with_reducible rfl
                      rotate_left
                      ·
                       simp only [Act.put, List.setIfInBounds_toArray, List.set_cons_zero, List.set_cons_succ, i64_w, i32_w]
                       rfl
                      refine done_ (done_of HT_.out (by kernel_rfl)) ?_
                      try go_wp2
                      go_meet
                      case rel => exact ⟨_, (true), (by first | rfl | (simp; done) | (simp [*]; done)), H', ⟨by have := HJ3.out; have := HJ11.out; have := HK3.out; have := HJ30.out; have := HJ36.out; first | omega | exact Nat.le_refl _⟩, ⟨by (with_reducible repeat (first | apply Kd.R_alloc | apply Kd.R_drewN | apply Kd.R_drew)); exact HO_8.out⟩, ⟨by (with_reducible repeat (first | apply Kd.R_alloc | apply Kd.R_drewN | apply Kd.R_drew)); exact HO_9.out⟩, ⟨by (with_reducible repeat (first | apply Kd.R_alloc | apply Kd.R_drewN | apply Kd.R_drew)); exact HO_12.out⟩, ⟨by repeat (first | (with_reducible first | exact HB.out | apply below_alloc | apply pw_below_drewN | apply below_drew1) | exact HB.out)⟩⟩
                     ·
                      rw [if_neg c62] at H
                      have c62b0 : (!(((rd_T42 t283 x13_3).f1.f0) == ((rd_T40 t274 x13_3).f0)) || (!(((rd_T42 t283 x13_3).f1.f1) == ((rd_T40 t274 x13_3).f1)) || (!(((rd_T42 t283 x13_3).f1.f2) == ((rd_T40 t274 x13_3).f2))))) = false := by simpa using c62
                      clear c62
                      by_cases c65 : ((rd_T42 t283 x13_3).f0) = 0
                      ·
                       rw [if_pos c65] at H
                       have c65b0 : (((rd_T42 t283 x13_3).f0) == 0) = true := beq_iff_eq.mpr c65
                       have c65b1 : (((rd_T42 t283 x13_3).f0) != 0) = false := bne_eq_false_iff_eq.mpr c65
                       clear c65
                       by_cases c66 : x13_3 > 0
                       ·
                        rw [if_pos c66] at H
                        have c66b0 : decide (0 < x13_3) = true := decide_eq_true c66
                        clear c66
                        obtain ⟨ji67, hji67⟩ : ∃ j_ : Int, (wrap64 (x13_3 - 1)) = j_ := ⟨_, rfl⟩
                        replace H : (if 0 ≤ (ji67) then (if (ji67) < (t283.length : Int) then (warplaw5_PlayOne.j5 kj36 t274 t283 x12_36 x13_3 (((rd_T42 t283 x13_3).f3) != (wrap64 (((rd_T42 t283 (ji67)).f5) + 1)))) else (none)) else (none)) = some r := by first | (rw [hji67] at H; exact H) | (simp only [hji67] at H ⊢; exact H)
                        have hji67w : (IntKind.i64.wrap (x13_3 - 1)) = ji67 := (i64_w _).trans hji67
                        by_cases c68 : 0 ≤ (ji67)
                        ·
                         rw [if_pos c68] at H
                         have c68b0 : decide (0 ≤ (ji67)) = true := decide_eq_true c68
                         clear c68
                         by_cases c69 : (ji67) < (t283.length : Int)
                         ·
                          rw [if_pos c69] at H
                          have c69b0 : decide ((ji67) < (t283.length : Int)) = true := decide_eq_true c69
                          clear c69
                          have H' := Aside0.mk H
                          clear H
                          try go_wp2
                          have n0_ := Aside0.mk (Kd.R_drew HO_8.out)
                          have n1_ := Aside0.mk (Kd.R_drew HO_9.out)
                          have n2_ := Aside0.mk (Kd.R_drew HO_12.out)
                          have n3_ := Aside0.mk (below_drew1 HB.out)
                          clear HO_8
                          clear HO_9
                          clear HO_12
                          clear HB
                          have HO_8 := n0_
                          have HO_9 := n1_
                          have HO_12 := n2_
                          have HB := n3_
                          clear n0_ n1_ n2_ n3_
                          obtain ⟨Ao71, co71, eo71⟩ := Kd.R_slice HO_9.out
                          (first | subst eo71 | (injection eo71 with f1_ f2_ f3_; have f4_ := f1_.symm; have f5_ := f3_.symm; clear f1_ f2_ f3_; subst f4_; subst f5_))
                          have p307 : 0 ≤ (x13_3 : Int) := of_decide_eq_true (by first | (with_reducible assumption) | assumption)
                          have q307 : x13_3 < (t283.length : Int) := of_decide_eq_true (by first | (with_reducible assumption) | assumption)
                          obtain ⟨ad307, e307, hx307_0, hx307_1, hx307_2, hx307_3, hx307_4, hx307_5, hx307_6, hx307_7⟩ := at_T42 (Kd.R_reads' HO_9.out).2.2 x13_3 p307 q307
                          cases e307
                          replace p307 := eq_true p307
                          replace q307 := eq_true q307
                          have p308 : 0 ≤ (x13_3 : Int) := of_decide_eq_true (by first | (with_reducible assumption) | assumption)
                          have q308 : x13_3 < (t274.length : Int) := of_decide_eq_true (by first | (with_reducible assumption) | assumption)
                          obtain ⟨ad308, e308, hx308_0, hx308_1, hx308_2⟩ := at_T40 (Kd.R_reads' HO_8.out).2.2 x13_3 p308 q308
                          obtain rfl : ad293 = ad308 := (by injection e308)
                          replace p308 := eq_true p308
                          replace q308 := eq_true q308
                          have p309 : 0 ≤ (x13_3 : Int) := of_decide_eq_true (by first | (with_reducible assumption) | assumption)
                          have q309 : x13_3 < (t283.length : Int) := of_decide_eq_true (by first | (with_reducible assumption) | assumption)
                          obtain ⟨ad309, e309, hx309_0, hx309_1, hx309_2, hx309_3, hx309_4, hx309_5, hx309_6, hx309_7⟩ := at_T42 (Kd.R_reads' HO_9.out).2.2 x13_3 p309 q309
                          obtain rfl : ad307 = ad309 := (by injection e309)
                          replace p309 := eq_true p309
                          replace q309 := eq_true q309
                          have p310 : 0 ≤ (x13_3 : Int) := of_decide_eq_true (by first | (with_reducible assumption) | assumption)
                          have q310 : x13_3 < (t283.length : Int) := of_decide_eq_true (by first | (with_reducible assumption) | assumption)
                          obtain ⟨ad310, e310, hx310_0, hx310_1, hx310_2, hx310_3, hx310_4, hx310_5, hx310_6, hx310_7⟩ := at_T42 (Kd.R_reads' HO_9.out).2.2 x13_3 p310 q310
                          obtain rfl : ad307 = ad310 := (by injection e310)
                          replace p310 := eq_true p310
                          replace q310 := eq_true q310
                          have p311 : 0 ≤ ((ji67) : Int) := of_decide_eq_true (by first | (with_reducible assumption) | assumption)
                          have q311 : (ji67) < (t283.length : Int) := of_decide_eq_true (by first | (with_reducible assumption) | assumption)
                          obtain ⟨ad311, e311, hx311_0, hx311_1, hx311_2, hx311_3, hx311_4, hx311_5, hx311_6, hx311_7⟩ := at_T42 (Kd.R_reads' HO_9.out).2.2 (ji67) p311 q311
                          obtain rfl : ad307 = ad311 := (by injection e311)
                          replace p311 := eq_true p311
                          replace q311 := eq_true q311
                          refine start_ (n := 37) (S := fun w' => w'.cell? (ad307.add ((x13_3).toNat * 8)) = some (.int .i64 ((rd_T42 t283 x13_3).f0)) ∧ w'.cell? ⟨(ad307.add ((x13_3).toNat * 8)).block, (ad307.add ((x13_3).toNat * 8)).off + 1, none⟩ = some (.int .i64 ((rd_T42 t283 x13_3).f1.f0)) ∧ w'.cell? ⟨(ad307.add ((x13_3).toNat * 8)).block, (ad307.add ((x13_3).toNat * 8)).off + 2, none⟩ = some (.int .i64 ((rd_T42 t283 x13_3).f1.f1)) ∧ w'.cell? ⟨(ad307.add ((x13_3).toNat * 8)).block, (ad307.add ((x13_3).toNat * 8)).off + 3, none⟩ = some (.int .i64 ((rd_T42 t283 x13_3).f1.f2)) ∧ w'.cell? ⟨(ad307.add ((x13_3).toNat * 8)).block, (ad307.add ((x13_3).toNat * 8)).off + 4, none⟩ = some (.int .i64 ((rd_T42 t283 x13_3).f2)) ∧ w'.cell? ⟨(ad307.add ((x13_3).toNat * 8)).block, (ad307.add ((x13_3).toNat * 8)).off + 5, none⟩ = some (.int .i64 ((rd_T42 t283 x13_3).f3)) ∧ w'.cell? ⟨(ad307.add ((x13_3).toNat * 8)).block, (ad307.add ((x13_3).toNat * 8)).off + 6, none⟩ = some (.int .i64 ((rd_T42 t283 x13_3).f4)) ∧ w'.cell? ⟨(ad307.add ((x13_3).toNat * 8)).block, (ad307.add ((x13_3).toNat * 8)).off + 7, none⟩ = some (.int .i64 ((rd_T42 t283 x13_3).f5)) ∧ w'.cell? (ad293.add ((x13_3).toNat * 3)) = some (.int .i64 ((rd_T40 t274 x13_3).f0)) ∧ w'.cell? ⟨(ad293.add ((x13_3).toNat * 3)).block, (ad293.add ((x13_3).toNat * 3)).off + 1, none⟩ = some (.int .i64 ((rd_T40 t274 x13_3).f1)) ∧ w'.cell? ⟨(ad293.add ((x13_3).toNat * 3)).block, (ad293.add ((x13_3).toNat * 3)).off + 2, none⟩ = some (.int .i64 ((rd_T40 t274 x13_3).f2)) ∧ w'.cell? (ad307.add ((x13_3).toNat * 8)) = some (.int .i64 ((rd_T42 t283 x13_3).f0)) ∧ w'.cell? ⟨(ad307.add ((x13_3).toNat * 8)).block, (ad307.add ((x13_3).toNat * 8)).off + 1, none⟩ = some (.int .i64 ((rd_T42 t283 x13_3).f1.f0)) ∧ w'.cell? ⟨(ad307.add ((x13_3).toNat * 8)).block, (ad307.add ((x13_3).toNat * 8)).off + 2, none⟩ = some (.int .i64 ((rd_T42 t283 x13_3).f1.f1)) ∧ w'.cell? ⟨(ad307.add ((x13_3).toNat * 8)).block, (ad307.add ((x13_3).toNat * 8)).off + 3, none⟩ = some (.int .i64 ((rd_T42 t283 x13_3).f1.f2)) ∧ w'.cell? ⟨(ad307.add ((x13_3).toNat * 8)).block, (ad307.add ((x13_3).toNat * 8)).off + 4, none⟩ = some (.int .i64 ((rd_T42 t283 x13_3).f2)) ∧ w'.cell? ⟨(ad307.add ((x13_3).toNat * 8)).block, (ad307.add ((x13_3).toNat * 8)).off + 5, none⟩ = some (.int .i64 ((rd_T42 t283 x13_3).f3)) ∧ w'.cell? ⟨(ad307.add ((x13_3).toNat * 8)).block, (ad307.add ((x13_3).toNat * 8)).off + 6, none⟩ = some (.int .i64 ((rd_T42 t283 x13_3).f4)) ∧ w'.cell? ⟨(ad307.add ((x13_3).toNat * 8)).block, (ad307.add ((x13_3).toNat * 8)).off + 7, none⟩ = some (.int .i64 ((rd_T42 t283 x13_3).f5)) ∧ w'.cell? (ad307.add ((x13_3).toNat * 8)) = some (.int .i64 ((rd_T42 t283 x13_3).f0)) ∧ w'.cell? ⟨(ad307.add ((x13_3).toNat * 8)).block, (ad307.add ((x13_3).toNat * 8)).off + 1, none⟩ = some (.int .i64 ((rd_T42 t283 x13_3).f1.f0)) ∧ w'.cell? ⟨(ad307.add ((x13_3).toNat * 8)).block, (ad307.add ((x13_3).toNat * 8)).off + 2, none⟩ = some (.int .i64 ((rd_T42 t283 x13_3).f1.f1)) ∧ w'.cell? ⟨(ad307.add ((x13_3).toNat * 8)).block, (ad307.add ((x13_3).toNat * 8)).off + 3, none⟩ = some (.int .i64 ((rd_T42 t283 x13_3).f1.f2)) ∧ w'.cell? ⟨(ad307.add ((x13_3).toNat * 8)).block, (ad307.add ((x13_3).toNat * 8)).off + 4, none⟩ = some (.int .i64 ((rd_T42 t283 x13_3).f2)) ∧ w'.cell? ⟨(ad307.add ((x13_3).toNat * 8)).block, (ad307.add ((x13_3).toNat * 8)).off + 5, none⟩ = some (.int .i64 ((rd_T42 t283 x13_3).f3)) ∧ w'.cell? ⟨(ad307.add ((x13_3).toNat * 8)).block, (ad307.add ((x13_3).toNat * 8)).off + 6, none⟩ = some (.int .i64 ((rd_T42 t283 x13_3).f4)) ∧ w'.cell? ⟨(ad307.add ((x13_3).toNat * 8)).block, (ad307.add ((x13_3).toNat * 8)).off + 7, none⟩ = some (.int .i64 ((rd_T42 t283 x13_3).f5)) ∧ w'.cell? (ad307.add (((ji67)).toNat * 8)) = some (.int .i64 ((rd_T42 t283 (ji67)).f0)) ∧ w'.cell? ⟨(ad307.add (((ji67)).toNat * 8)).block, (ad307.add (((ji67)).toNat * 8)).off + 1, none⟩ = some (.int .i64 ((rd_T42 t283 (ji67)).f1.f0)) ∧ w'.cell? ⟨(ad307.add (((ji67)).toNat * 8)).block, (ad307.add (((ji67)).toNat * 8)).off + 2, none⟩ = some (.int .i64 ((rd_T42 t283 (ji67)).f1.f1)) ∧ w'.cell? ⟨(ad307.add (((ji67)).toNat * 8)).block, (ad307.add (((ji67)).toNat * 8)).off + 3, none⟩ = some (.int .i64 ((rd_T42 t283 (ji67)).f1.f2)) ∧ w'.cell? ⟨(ad307.add (((ji67)).toNat * 8)).block, (ad307.add (((ji67)).toNat * 8)).off + 4, none⟩ = some (.int .i64 ((rd_T42 t283 (ji67)).f2)) ∧ w'.cell? ⟨(ad307.add (((ji67)).toNat * 8)).block, (ad307.add (((ji67)).toNat * 8)).off + 5, none⟩ = some (.int .i64 ((rd_T42 t283 (ji67)).f3)) ∧ w'.cell? ⟨(ad307.add (((ji67)).toNat * 8)).block, (ad307.add (((ji67)).toNat * 8)).off + 6, none⟩ = some (.int .i64 ((rd_T42 t283 (ji67)).f4)) ∧ w'.cell? ⟨(ad307.add (((ji67)).toNat * 8)).block, (ad307.add (((ji67)).toNat * 8)).off + 7, none⟩ = some (.int .i64 ((rd_T42 t283 (ji67)).f5))) (ds := []) #[false, false, false, false, false, false, false, false, false, false, false, false, false, false, false, false, false, false, false, false, false, false, false, false, false, false, false, false, false, false, false, false, false, false, false, false, false] (by kernel_rfl) rfl rfl ⟨hx307_0, hx307_1, hx307_2, hx307_3, hx307_4, hx307_5, hx307_6, hx307_7, hx308_0, hx308_1, hx308_2, hx309_0, hx309_1, hx309_2, hx309_3, hx309_4, hx309_5, hx309_6, hx309_7, hx310_0, hx310_1, hx310_2, hx310_3, hx310_4, hx310_5, hx310_6, hx310_7, hx311_0, hx311_1, hx311_2, hx311_3, hx311_4, hx311_5, hx311_6, hx311_7⟩ (fun hHeld => ?_); refine with_tabW warplaw5_PlayOne.tab25 warplaw5_PlayOne.bits25 (fun HT_ HW_ => ?_)
                          generalize wc.drew = w70 at HO_8 HO_9 HO_12 HB hx307_0 hx307_1 hx307_2 hx307_3 hx307_4 hx307_5 hx307_6 hx307_7 hx308_0 hx308_1 hx308_2 hx309_0 hx309_1 hx309_2 hx309_3 hx309_4 hx309_5 hx309_6 hx309_7 hx310_0 hx310_1 hx310_2 hx310_3 hx310_4 hx310_5 hx310_6 hx310_7 hx311_0 hx311_1 hx311_2 hx311_3 hx311_4 hx311_5 hx311_6 hx311_7 hHeld ⊢
                          refine pure_ (i := 0) (N := some 122) (v := ?_) (a' := ?_) #[true, false, false, false, false, false, false, false, false, false, false, false, false, false, false, false, false, false, false, false, false, false, false, false, false, false, false, false, false, false, false, false, false, false, false, false, false] rfl rfl (any_of HT_.out (by kernel_rfl)) (fun _ _ _ h => h) (Or.inl ⟨by rfl, ?_⟩) ?_ ?_
                          rotate_left
                          ·
                           intro w'
                           go_simp
                           with_reducible rfl
                          rotate_left
                          ·
                           simp only [Act.put, List.setIfInBounds_toArray, List.set_cons_zero, List.set_cons_succ, i64_w, i32_w]
                           rfl
                          refine pure_ (i := 1) (N := some 123) (v := ?_) (a' := ?_) #[true, true, false, false, false, false, false, false, false, false, false, false, false, false, false, false, false, false, false, false, false, false, false, false, false, false, false, false, false, false, false, false, false, false, false, false, false] rfl rfl (any_of HT_.out (by kernel_rfl)) (fun _ _ _ h => h) (Or.inl ⟨by rfl, ?_⟩) ?_ ?_
                          rotate_left
                          ·
                           intro w'
                           go_simp
                           with_reducible rfl
                          rotate_left
                          ·
                           simp only [Act.put, List.setIfInBounds_toArray, List.set_cons_zero, List.set_cons_succ, i64_w, i32_w]
                           rfl
                          refine pure_ (i := 2) (N := some 124) (v := ?_) (a' := ?_) #[true, true, true, false, false, false, false, false, false, false, false, false, false, false, false, false, false, false, false, false, false, false, false, false, false, false, false, false, false, false, false, false, false, false, false, false, false] rfl rfl (any_of HT_.out (by kernel_rfl)) (fun _ _ _ h => h) (Or.inl ⟨by rfl, ?_⟩) ?_ ?_
                          rotate_left
                          ·
                           intro w'
                           go_simp
                           with_reducible rfl
                          rotate_left
                          ·
                           simp only [Act.put, List.setIfInBounds_toArray, List.set_cons_zero, List.set_cons_succ, i64_w, i32_w]
                           rfl
                          refine pure_ (i := 3) (N := some 125) (v := ?_) (a' := ?_) #[true, true, true, true, false, false, false, false, false, false, false, false, false, false, false, false, false, false, false, false, false, false, false, false, false, false, false, false, false, false, false, false, false, false, false, false, false] rfl rfl (any_of HT_.out (by kernel_rfl)) (fun _ _ _ h => h) (Or.inl ⟨by rfl, ?_⟩) ?_ ?_
                          rotate_left
                          ·
                           intro w'
                           go_simp
                           with_reducible rfl
                          rotate_left
                          ·
                           simp only [Act.put, List.setIfInBounds_toArray, List.set_cons_zero, List.set_cons_succ, i64_w, i32_w]
                           rfl
                          refine pure_ (i := 5) (N := some 127) (v := ?_) (a' := ?_) #[true, true, true, true, false, true, false, false, false, false, false, false, false, false, false, false, false, false, false, false, false, false, false, false, false, false, false, false, false, false, false, false, false, false, false, false, false] rfl rfl (any_of HT_.out (by kernel_rfl)) (fun _ _ _ h => h) (Or.inl ⟨by rfl, ?_⟩) ?_ ?_
                          rotate_left
                          ·
                           intro w'
                           go_simp
                           with_reducible rfl
                          rotate_left
                          ·
                           simp only [Act.put, List.setIfInBounds_toArray, List.set_cons_zero, List.set_cons_succ, i64_w, i32_w]
                           rfl
                          refine pure_ (i := 6) (N := some 128) (v := ?_) (a' := ?_) #[true, true, true, true, false, true, true, false, false, false, false, false, false, false, false, false, false, false, false, false, false, false, false, false, false, false, false, false, false, false, false, false, false, false, false, false, false] rfl rfl (any_of HT_.out (by kernel_rfl)) (fun _ _ _ h => h) (Or.inl ⟨by rfl, ?_⟩) ?_ ?_
                          rotate_left
                          ·
                           intro w'
                           go_simp
                           with_reducible rfl
                          rotate_left
                          ·
                           simp only [Act.put, List.setIfInBounds_toArray, List.set_cons_zero, List.set_cons_succ, i64_w, i32_w]
                           rfl
                          refine pure_ (i := 7) (N := some 129) (v := ?_) (a' := ?_) #[true, true, true, true, false, true, true, true, false, false, false, false, false, false, false, false, false, false, false, false, false, false, false, false, false, false, false, false, false, false, false, false, false, false, false, false, false] rfl rfl (any_of HT_.out (by kernel_rfl)) (fun _ _ _ h => h) (Or.inl ⟨by rfl, ?_⟩) ?_ ?_
                          rotate_left
                          ·
                           intro w'
                           go_simp
                           with_reducible rfl
                          rotate_left
                          ·
                           simp only [Act.put, List.setIfInBounds_toArray, List.set_cons_zero, List.set_cons_succ, i64_w, i32_w]
                           rfl
                          refine take_ (i := 4) (N := some 126) (v := ?_) (a' := ?_) #[true, true, true, true, true, true, true, true, false, false, false, false, false, false, false, false, false, false, false, false, false, false, false, false, false, false, false, false, false, false, false, false, false, false, false, false, false] rfl rfl (take_ofW HT_.out HW_.out (by kernel_rfl)) (fun _ _ _ h => h) (Or.inl ⟨by rfl, ?_⟩) hHeld ?_ ?_
                          rotate_left
                          ·
                           rintro w' ⟨s0, s1, s2, s3, s4, s5, s6, s7, s8, s9, s10, s11, s12, s13, s14, s15, s16, s17, s18, s19, s20, s21, s22, s23, s24, s25, s26, s27, s28, s29, s30, s31, s32, s33, s34⟩
                           go_simp
                           with_reducible rfl
                          rotate_left
                          ·
                           simp only [Act.put, List.setIfInBounds_toArray, List.set_cons_zero, List.set_cons_succ, i64_w, i32_w]
                           rfl
                          refine take_ (i := 8) (N := some 130) (v := ?_) (a' := ?_) #[true, true, true, true, true, true, true, true, true, false, false, false, false, false, false, false, false, false, false, false, false, false, false, false, false, false, false, false, false, false, false, false, false, false, false, false, false] rfl rfl (take_ofW HT_.out HW_.out (by kernel_rfl)) (fun _ _ _ h => h) (Or.inl ⟨by rfl, ?_⟩) hHeld ?_ ?_
                          rotate_left
                          ·
                           rintro w' ⟨s0, s1, s2, s3, s4, s5, s6, s7, s8, s9, s10, s11, s12, s13, s14, s15, s16, s17, s18, s19, s20, s21, s22, s23, s24, s25, s26, s27, s28, s29, s30, s31, s32, s33, s34⟩
                           go_simp
                           with_reducible rfl
                          rotate_left
                          ·
                           simp only [Act.put, List.setIfInBounds_toArray, List.set_cons_zero, List.set_cons_succ, i64_w, i32_w]
                           rfl
                          refine pure_ (i := 9) (N := some 131) (v := ?_) (a' := ?_) #[true, true, true, true, true, true, true, true, true, true, false, false, false, false, false, false, false, false, false, false, false, false, false, false, false, false, false, false, false, false, false, false, false, false, false, false, false] rfl rfl (any_of HT_.out (by kernel_rfl)) (fun _ _ _ h => h) (Or.inl ⟨by rfl, ?_⟩) ?_ ?_
                          rotate_left
                          ·
                           intro w'
                           go_simp
                           with_reducible rfl
                          rotate_left
                          ·
                           simp only [Act.put, List.setIfInBounds_toArray, List.set_cons_zero, List.set_cons_succ, i64_w, i32_w]
                           rfl
                          refine pure_ (i := 10) (N := some 132) (v := ?_) (a' := ?_) #[true, true, true, true, true, true, true, true, true, true, true, false, false, false, false, false, false, false, false, false, false, false, false, false, false, false, false, false, false, false, false, false, false, false, false, false, false] rfl rfl (any_of HT_.out (by kernel_rfl)) (fun _ _ _ h => h) (Or.inl ⟨by rfl, ?_⟩) ?_ ?_
                          rotate_left
                          ·
                           intro w'
                           go_simp
                           with_reducible rfl
                          rotate_left
                          ·
                           simp only [Act.put, List.setIfInBounds_toArray, List.set_cons_zero, List.set_cons_succ, i64_w, i32_w]
                           rfl
                          refine pure_ (i := 11) (N := some 133) (v := ?_) (a' := ?_) #[true, true, true, true, true, true, true, true, true, true, true, true, false, false, false, false, false, false, false, false, false, false, false, false, false, false, false, false, false, false, false, false, false, false, false, false, false] rfl rfl (any_of HT_.out (by kernel_rfl)) (fun _ _ _ h => h) (Or.inl ⟨by rfl, ?_⟩) ?_ ?_
                          rotate_left
                          ·
                           intro w'
                           go_simp
                           with_reducible rfl
                          rotate_left
                          ·
                           simp only [Act.put, List.setIfInBounds_toArray, List.set_cons_zero, List.set_cons_succ, i64_w, i32_w]
                           rfl
                          refine pure_ (i := 12) (N := some 134) (v := ?_) (a' := ?_) #[true, true, true, true, true, true, true, true, true, true, true, true, true, false, false, false, false, false, false, false, false, false, false, false, false, false, false, false, false, false, false, false, false, false, false, false, false] rfl rfl (any_of HT_.out (by kernel_rfl)) (fun _ _ _ h => h) (Or.inl ⟨by rfl, ?_⟩) ?_ ?_
                          rotate_left
                          ·
                           intro w'
                           go_simp
                           with_reducible rfl
                          rotate_left
                          ·
                           simp only [Act.put, List.setIfInBounds_toArray, List.set_cons_zero, List.set_cons_succ, i64_w, i32_w]
                           rfl
                          refine pure_ (i := 13) (N := some 135) (v := ?_) (a' := ?_) #[true, true, true, true, true, true, true, true, true, true, true, true, true, true, false, false, false, false, false, false, false, false, false, false, false, false, false, false, false, false, false, false, false, false, false, false, false] rfl rfl (any_of HT_.out (by kernel_rfl)) (fun _ _ _ h => h) (Or.inl ⟨by rfl, ?_⟩) ?_ ?_
                          rotate_left
                          ·
                           intro w'
                           go_simp
                           with_reducible rfl
                          rotate_left
                          ·
                           simp only [Act.put, List.setIfInBounds_toArray, List.set_cons_zero, List.set_cons_succ, i64_w, i32_w]
                           rfl
                          refine pure_ (i := 14) (N := some 136) (v := ?_) (a' := ?_) #[true, true, true, true, true, true, true, true, true, true, true, true, true, true, true, false, false, false, false, false, false, false, false, false, false, false, false, false, false, false, false, false, false, false, false, false, false] rfl rfl (any_of HT_.out (by kernel_rfl)) (fun _ _ _ h => h) (Or.inl ⟨by rfl, ?_⟩) ?_ ?_
                          rotate_left
                          ·
                           intro w'
                           go_simp
                           with_reducible rfl
                          rotate_left
                          ·
                           simp only [Act.put, List.setIfInBounds_toArray, List.set_cons_zero, List.set_cons_succ, i64_w, i32_w]
                           rfl
                          refine take_ (i := 15) (N := some 137) (v := ?_) (a' := ?_) #[true, true, true, true, true, true, true, true, true, true, true, true, true, true, true, true, false, false, false, false, false, false, false, false, false, false, false, false, false, false, false, false, false, false, false, false, false] rfl rfl (take_ofW HT_.out HW_.out (by kernel_rfl)) (fun _ _ _ h => h) (Or.inl ⟨by rfl, ?_⟩) hHeld ?_ ?_
                          rotate_left
                          ·
                           rintro w' ⟨s0, s1, s2, s3, s4, s5, s6, s7, s8, s9, s10, s11, s12, s13, s14, s15, s16, s17, s18, s19, s20, s21, s22, s23, s24, s25, s26, s27, s28, s29, s30, s31, s32, s33, s34⟩
                           go_simp
                           with_reducible rfl
                          rotate_left
                          ·
                           simp only [Act.put, List.setIfInBounds_toArray, List.set_cons_zero, List.set_cons_succ, i64_w, i32_w]
                           rfl
                          refine pure_ (i := 16) (N := some 138) (v := ?_) (a' := ?_) #[true, true, true, true, true, true, true, true, true, true, true, true, true, true, true, true, true, false, false, false, false, false, false, false, false, false, false, false, false, false, false, false, false, false, false, false, false] rfl rfl (any_of HT_.out (by kernel_rfl)) (fun _ _ _ h => h) (Or.inl ⟨by rfl, ?_⟩) ?_ ?_
                          rotate_left
                          ·
                           intro w'
                           go_simp
                           with_reducible rfl
                          rotate_left
                          ·
                           simp only [Act.put, List.setIfInBounds_toArray, List.set_cons_zero, List.set_cons_succ, i64_w, i32_w]
                           rfl
                          refine pure_ (i := 17) (N := some 139) (v := ?_) (a' := ?_) #[true, true, true, true, true, true, true, true, true, true, true, true, true, true, true, true, true, true, false, false, false, false, false, false, false, false, false, false, false, false, false, false, false, false, false, false, false] rfl rfl (any_of HT_.out (by kernel_rfl)) (fun _ _ _ h => h) (Or.inl ⟨by rfl, ?_⟩) ?_ ?_
                          rotate_left
                          ·
                           intro w'
                           go_simp
                           with_reducible rfl
                          rotate_left
                          ·
                           simp only [Act.put, List.setIfInBounds_toArray, List.set_cons_zero, List.set_cons_succ, i64_w, i32_w]
                           rfl
                          refine pure_ (i := 18) (N := some 140) (v := ?_) (a' := ?_) #[true, true, true, true, true, true, true, true, true, true, true, true, true, true, true, true, true, true, true, false, false, false, false, false, false, false, false, false, false, false, false, false, false, false, false, false, false] rfl rfl (any_of HT_.out (by kernel_rfl)) (fun _ _ _ h => h) (Or.inl ⟨by rfl, ?_⟩) ?_ ?_
                          rotate_left
                          ·
                           intro w'
                           go_simp
                           with_reducible rfl
                          rotate_left
                          ·
                           simp only [Act.put, List.setIfInBounds_toArray, List.set_cons_zero, List.set_cons_succ, i64_w, i32_w]
                           rfl
                          refine pure_ (i := 19) (N := some 141) (v := ?_) (a' := ?_) #[true, true, true, true, true, true, true, true, true, true, true, true, true, true, true, true, true, true, true, true, false, false, false, false, false, false, false, false, false, false, false, false, false, false, false, false, false] rfl rfl (any_of HT_.out (by kernel_rfl)) (fun _ _ _ h => h) (Or.inl ⟨by rfl, ?_⟩) ?_ ?_
                          rotate_left
                          ·
                           intro w'
                           go_simp
                           with_reducible rfl
                          rotate_left
                          ·
                           simp only [Act.put, List.setIfInBounds_toArray, List.set_cons_zero, List.set_cons_succ, i64_w, i32_w]
                           rfl
                          refine pure_ (i := 20) (N := some 142) (v := ?_) (a' := ?_) #[true, true, true, true, true, true, true, true, true, true, true, true, true, true, true, true, true, true, true, true, true, false, false, false, false, false, false, false, false, false, false, false, false, false, false, false, false] rfl rfl (any_of HT_.out (by kernel_rfl)) (fun _ _ _ h => h) (Or.inl ⟨by rfl, ?_⟩) ?_ ?_
                          rotate_left
                          ·
                           intro w'
                           go_simp
                           with_reducible rfl
                          rotate_left
                          ·
                           simp only [Act.put, List.setIfInBounds_toArray, List.set_cons_zero, List.set_cons_succ, i64_w, i32_w]
                           rfl
                          refine pure_ (i := 21) (N := some 143) (v := ?_) (a' := ?_) #[true, true, true, true, true, true, true, true, true, true, true, true, true, true, true, true, true, true, true, true, true, true, false, false, false, false, false, false, false, false, false, false, false, false, false, false, false] rfl rfl (any_of HT_.out (by kernel_rfl)) (fun _ _ _ h => h) (Or.inl ⟨by rfl, ?_⟩) ?_ ?_
                          rotate_left
                          ·
                           intro w'
                           go_simp
                           with_reducible rfl
                          rotate_left
                          ·
                           simp only [Act.put, List.setIfInBounds_toArray, List.set_cons_zero, List.set_cons_succ, i64_w, i32_w]
                           rfl
                          refine pure_ (i := 22) (N := some 144) (v := ?_) (a' := ?_) #[true, true, true, true, true, true, true, true, true, true, true, true, true, true, true, true, true, true, true, true, true, true, true, false, false, false, false, false, false, false, false, false, false, false, false, false, false] rfl rfl (any_of HT_.out (by kernel_rfl)) (fun _ _ _ h => h) (Or.inl ⟨by rfl, ?_⟩) ?_ ?_
                          rotate_left
                          ·
                           intro w'
                           go_simp
                           with_reducible rfl
                          rotate_left
                          ·
                           simp only [Act.put, List.setIfInBounds_toArray, List.set_cons_zero, List.set_cons_succ, i64_w, i32_w]
                           rfl
                          refine pure_ (i := 23) (N := some 145) (v := ?_) (a' := ?_) #[true, true, true, true, true, true, true, true, true, true, true, true, true, true, true, true, true, true, true, true, true, true, true, true, false, false, false, false, false, false, false, false, false, false, false, false, false] rfl rfl (any_of HT_.out (by kernel_rfl)) (fun _ _ _ h => h) (Or.inl ⟨by rfl, ?_⟩) ?_ ?_
                          rotate_left
                          ·
                           intro w'
                           go_simp
                           with_reducible rfl
                          rotate_left
                          ·
                           simp only [Act.put, List.setIfInBounds_toArray, List.set_cons_zero, List.set_cons_succ, i64_w, i32_w]
                           rfl
                          refine pure_ (i := 24) (N := some 146) (v := ?_) (a' := ?_) #[true, true, true, true, true, true, true, true, true, true, true, true, true, true, true, true, true, true, true, true, true, true, true, true, true, false, false, false, false, false, false, false, false, false, false, false, false] rfl rfl (any_of HT_.out (by kernel_rfl)) (fun _ _ _ h => h) (Or.inl ⟨by rfl, ?_⟩) ?_ ?_
                          rotate_left
                          ·
                           intro w'
                           go_simp
                           with_reducible rfl
                          rotate_left
                          ·
                           simp only [Act.put, List.setIfInBounds_toArray, List.set_cons_zero, List.set_cons_succ, i64_w, i32_w]
                           rfl
                          refine pure_ (i := 25) (N := some 147) (v := ?_) (a' := ?_) #[true, true, true, true, true, true, true, true, true, true, true, true, true, true, true, true, true, true, true, true, true, true, true, true, true, true, false, false, false, false, false, false, false, false, false, false, false] rfl rfl (any_of HT_.out (by kernel_rfl)) (fun _ _ _ h => h) (Or.inl ⟨by rfl, ?_⟩) ?_ ?_
                          rotate_left
                          ·
                           intro w'
                           go_simp
                           with_reducible rfl
                          rotate_left
                          ·
                           simp only [Act.put, List.setIfInBounds_toArray, List.set_cons_zero, List.set_cons_succ, i64_w, i32_w]
                           rfl
                          refine pure_ (i := 27) (N := some 149) (v := ?_) (a' := ?_) #[true, true, true, true, true, true, true, true, true, true, true, true, true, true, true, true, true, true, true, true, true, true, true, true, true, true, false, true, false, false, false, false, false, false, false, false, false] rfl rfl (any_of HT_.out (by kernel_rfl)) (fun _ _ _ h => h) (Or.inl ⟨by rfl, ?_⟩) ?_ ?_
                          rotate_left
                          ·
                           intro w'
                           go_simp
                           with_reducible rfl
                          rotate_left
                          ·
                           simp only [Act.put, List.setIfInBounds_toArray, List.set_cons_zero, List.set_cons_succ, i64_w, i32_w]
                           rfl
                          refine pure_ (i := 28) (N := some 150) (v := ?_) (a' := ?_) #[true, true, true, true, true, true, true, true, true, true, true, true, true, true, true, true, true, true, true, true, true, true, true, true, true, true, false, true, true, false, false, false, false, false, false, false, false] rfl rfl (any_of HT_.out (by kernel_rfl)) (fun _ _ _ h => h) (Or.inl ⟨by rfl, ?_⟩) ?_ ?_
                          rotate_left
                          ·
                           intro w'
                           go_simp
                           with_reducible rfl
                          rotate_left
                          ·
                           simp only [Act.put, List.setIfInBounds_toArray, List.set_cons_zero, List.set_cons_succ, i64_w, i32_w]
                           rfl
                          refine pure_ (i := 29) (N := some 151) (v := ?_) (a' := ?_) #[true, true, true, true, true, true, true, true, true, true, true, true, true, true, true, true, true, true, true, true, true, true, true, true, true, true, false, true, true, true, false, false, false, false, false, false, false] rfl rfl (any_of HT_.out (by kernel_rfl)) (fun _ _ _ h => h) (Or.inl ⟨by rfl, ?_⟩) ?_ ?_
                          rotate_left
                          ·
                           intro w'
                           go_simp
                           with_reducible rfl
                          rotate_left
                          ·
                           simp only [Act.put, List.setIfInBounds_toArray, List.set_cons_zero, List.set_cons_succ, i64_w, i32_w]
                           rfl
                          refine pure_ (i := 30) (N := some 152) (v := ?_) (a' := ?_) #[true, true, true, true, true, true, true, true, true, true, true, true, true, true, true, true, true, true, true, true, true, true, true, true, true, true, false, true, true, true, true, false, false, false, false, false, false] rfl rfl (any_of HT_.out (by kernel_rfl)) (fun _ _ _ h => h) (Or.inl ⟨by rfl, ?_⟩) ?_ ?_
                          rotate_left
                          ·
                           intro w'
                           go_simp
                           with_reducible rfl
                          rotate_left
                          ·
                           simp only [Act.put, List.setIfInBounds_toArray, List.set_cons_zero, List.set_cons_succ, i64_w, i32_w]
                           rfl
                          refine pure_ (i := 31) (N := some 153) (v := ?_) (a' := ?_) #[true, true, true, true, true, true, true, true, true, true, true, true, true, true, true, true, true, true, true, true, true, true, true, true, true, true, false, true, true, true, true, true, false, false, false, false, false] rfl rfl (any_of HT_.out (by kernel_rfl)) (fun _ _ _ h => h) (Or.inl ⟨by rfl, ?_⟩) ?_ ?_
                          rotate_left
                          ·
                           intro w'
                           go_simp
                           with_reducible rfl
                          rotate_left
                          ·
                           simp only [Act.put, List.setIfInBounds_toArray, List.set_cons_zero, List.set_cons_succ, i64_w, i32_w]
                           rfl
                          refine take_ (i := 26) (N := some 148) (v := ?_) (a' := ?_) #[true, true, true, true, true, true, true, true, true, true, true, true, true, true, true, true, true, true, true, true, true, true, true, true, true, true, true, true, true, true, true, true, false, false, false, false, false] rfl rfl (take_ofW HT_.out HW_.out (by kernel_rfl)) (fun _ _ _ h => h) (Or.inl ⟨by rfl, ?_⟩) hHeld ?_ ?_
                          rotate_left
                          ·
                           rintro w' ⟨s0, s1, s2, s3, s4, s5, s6, s7, s8, s9, s10, s11, s12, s13, s14, s15, s16, s17, s18, s19, s20, s21, s22, s23, s24, s25, s26, s27, s28, s29, s30, s31, s32, s33, s34⟩
                           go_simp
                           with_reducible rfl
                          rotate_left
                          ·
                           simp only [Act.put, List.setIfInBounds_toArray, List.set_cons_zero, List.set_cons_succ, i64_w, i32_w]
                           rfl
                          refine take_ (i := 32) (N := some 154) (v := ?_) (a' := ?_) #[true, true, true, true, true, true, true, true, true, true, true, true, true, true, true, true, true, true, true, true, true, true, true, true, true, true, true, true, true, true, true, true, true, false, false, false, false] rfl rfl (take_ofW HT_.out HW_.out (by kernel_rfl)) (fun _ _ _ h => h) (Or.inl ⟨by rfl, ?_⟩) hHeld ?_ ?_
                          rotate_left
                          ·
                           rintro w' ⟨s0, s1, s2, s3, s4, s5, s6, s7, s8, s9, s10, s11, s12, s13, s14, s15, s16, s17, s18, s19, s20, s21, s22, s23, s24, s25, s26, s27, s28, s29, s30, s31, s32, s33, s34⟩
                           go_simp
                           with_reducible rfl
                          rotate_left
                          ·
                           simp only [Act.put, List.setIfInBounds_toArray, List.set_cons_zero, List.set_cons_succ, i64_w, i32_w]
                           rfl
                          refine pure_ (i := 33) (N := some 155) (v := ?_) (a' := ?_) #[true, true, true, true, true, true, true, true, true, true, true, true, true, true, true, true, true, true, true, true, true, true, true, true, true, true, true, true, true, true, true, true, true, true, false, false, false] rfl rfl (any_of HT_.out (by kernel_rfl)) (fun _ _ _ h => h) (Or.inl ⟨by rfl, ?_⟩) ?_ ?_
                          rotate_left
                          ·
                           intro w'
                           go_simp
                           with_reducible rfl
                          rotate_left
                          ·
                           simp only [Act.put, List.setIfInBounds_toArray, List.set_cons_zero, List.set_cons_succ, i64_w, i32_w]
                           rfl
                          refine pure_ (i := 34) (N := some 156) (v := ?_) (a' := ?_) #[true, true, true, true, true, true, true, true, true, true, true, true, true, true, true, true, true, true, true, true, true, true, true, true, true, true, true, true, true, true, true, true, true, true, true, false, false] rfl rfl (any_of HT_.out (by kernel_rfl)) (fun _ _ _ h => h) (Or.inl ⟨by rfl, ?_⟩) ?_ ?_
                          rotate_left
                          ·
                           intro w'
                           go_simp
                           with_reducible rfl
                          rotate_left
                          ·
                           simp only [Act.put, List.setIfInBounds_toArray, List.set_cons_zero, List.set_cons_succ, i64_w, i32_w]
                           rfl
                          refine pure_ (i := 35) (N := some 157) (v := ?_) (a' := ?_) #[true, true, true, true, true, true, true, true, true, true, true, true, true, true, true, true, true, true, true, true, true, true, true, true, true, true, true, true, true, true, true, true, true, true, true, true, false] rfl rfl (any_of HT_.out (by kernel_rfl)) (fun _ _ _ h => h) (Or.inl ⟨by rfl, ?_⟩) ?_ ?_
                          rotate_left
                          ·
                           intro w'
                           go_simp
                           with_reducible rfl
                          rotate_left
                          ·
                           simp only [Act.put, List.setIfInBounds_toArray, List.set_cons_zero, List.set_cons_succ, i64_w, i32_w]
                           rfl
                          refine pure_ (i := 36) (N := some 158) (v := ?_) (a' := ?_) #[true, true, true, true, true, true, true, true, true, true, true, true, true, true, true, true, true, true, true, true, true, true, true, true, true, true, true, true, true, true, true, true, true, true, true, true, true] rfl rfl (any_of HT_.out (by kernel_rfl)) (fun _ _ _ h => h) (Or.inl ⟨by rfl, ?_⟩) ?_ ?_
                          rotate_left
                          ·
                           intro w'
                           go_simp
                           with_reducible rfl
                          rotate_left
                          ·
                           simp only [Act.put, List.setIfInBounds_toArray, List.set_cons_zero, List.set_cons_succ, i64_w, i32_w]
                           rfl
                          refine done_ (done_of HT_.out (by kernel_rfl)) ?_
                          try go_wp2
                          go_meet
                          case rel => exact ⟨_, ((((rd_T42 t283 x13_3).f3) != (wrap64 (((rd_T42 t283 (ji67)).f5) + 1)))), (by first | rfl | (simp; done) | (simp only [← hji67] <;> (first | rfl | simp)) | (simp [*]; done)), H', ⟨by have := HJ3.out; have := HJ11.out; have := HK3.out; have := HJ30.out; have := HJ36.out; first | omega | exact Nat.le_refl _⟩, ⟨by (with_reducible repeat (first | apply Kd.R_alloc | apply Kd.R_drewN | apply Kd.R_drew)); exact HO_8.out⟩, ⟨by (with_reducible repeat (first | apply Kd.R_alloc | apply Kd.R_drewN | apply Kd.R_drew)); exact HO_9.out⟩, ⟨by (with_reducible repeat (first | apply Kd.R_alloc | apply Kd.R_drewN | apply Kd.R_drew)); exact HO_12.out⟩, ⟨by repeat (first | (with_reducible first | exact HB.out | apply below_alloc | apply pw_below_drewN | apply below_drew1) | exact HB.out)⟩⟩
                         ·
                          rw [if_neg c69] at H
                          exact absurd H (by simp)
                        ·
                         rw [if_neg c68] at H
                         exact absurd H (by simp)
                       ·
                        rw [if_neg c66] at H
                        have c66b0 : decide (0 < x13_3) = false := decide_eq_false c66
                        clear c66
                        have H' := Aside0.mk H
                        clear H
                        try go_wp2
                        have n0_ := Aside0.mk (Kd.R_drew HO_8.out)
                        have n1_ := Aside0.mk (Kd.R_drew HO_9.out)
                        have n2_ := Aside0.mk (Kd.R_drew HO_12.out)
                        have n3_ := Aside0.mk (below_drew1 HB.out)
                        clear HO_8
                        clear HO_9
                        clear HO_12
                        clear HB
                        have HO_8 := n0_
                        have HO_9 := n1_
                        have HO_12 := n2_
                        have HB := n3_
                        clear n0_ n1_ n2_ n3_
                        obtain ⟨Ao73, co73, eo73⟩ := Kd.R_slice HO_9.out
                        (first | subst eo73 | (injection eo73 with f1_ f2_ f3_; have f4_ := f1_.symm; have f5_ := f3_.symm; clear f1_ f2_ f3_; subst f4_; subst f5_))
                        have p307 : 0 ≤ (x13_3 : Int) := of_decide_eq_true (by first | (with_reducible assumption) | assumption)
                        have q307 : x13_3 < (t283.length : Int) := of_decide_eq_true (by first | (with_reducible assumption) | assumption)
                        obtain ⟨ad307, e307, hx307_0, hx307_1, hx307_2, hx307_3, hx307_4, hx307_5, hx307_6, hx307_7⟩ := at_T42 (Kd.R_reads' HO_9.out).2.2 x13_3 p307 q307
                        cases e307
                        replace p307 := eq_true p307
                        replace q307 := eq_true q307
                        have p308 : 0 ≤ (x13_3 : Int) := of_decide_eq_true (by first | (with_reducible assumption) | assumption)
                        have q308 : x13_3 < (t274.length : Int) := of_decide_eq_true (by first | (with_reducible assumption) | assumption)
                        obtain ⟨ad308, e308, hx308_0, hx308_1, hx308_2⟩ := at_T40 (Kd.R_reads' HO_8.out).2.2 x13_3 p308 q308
                        obtain rfl : ad293 = ad308 := (by injection e308)
                        replace p308 := eq_true p308
                        replace q308 := eq_true q308
                        have p309 : 0 ≤ (x13_3 : Int) := of_decide_eq_true (by first | (with_reducible assumption) | assumption)
                        have q309 : x13_3 < (t283.length : Int) := of_decide_eq_true (by first | (with_reducible assumption) | assumption)
                        obtain ⟨ad309, e309, hx309_0, hx309_1, hx309_2, hx309_3, hx309_4, hx309_5, hx309_6, hx309_7⟩ := at_T42 (Kd.R_reads' HO_9.out).2.2 x13_3 p309 q309
                        obtain rfl : ad307 = ad309 := (by injection e309)
                        replace p309 := eq_true p309
                        replace q309 := eq_true q309
                        refine start_ (n := 37) (S := fun w' => w'.cell? (ad307.add ((x13_3).toNat * 8)) = some (.int .i64 ((rd_T42 t283 x13_3).f0)) ∧ w'.cell? ⟨(ad307.add ((x13_3).toNat * 8)).block, (ad307.add ((x13_3).toNat * 8)).off + 1, none⟩ = some (.int .i64 ((rd_T42 t283 x13_3).f1.f0)) ∧ w'.cell? ⟨(ad307.add ((x13_3).toNat * 8)).block, (ad307.add ((x13_3).toNat * 8)).off + 2, none⟩ = some (.int .i64 ((rd_T42 t283 x13_3).f1.f1)) ∧ w'.cell? ⟨(ad307.add ((x13_3).toNat * 8)).block, (ad307.add ((x13_3).toNat * 8)).off + 3, none⟩ = some (.int .i64 ((rd_T42 t283 x13_3).f1.f2)) ∧ w'.cell? ⟨(ad307.add ((x13_3).toNat * 8)).block, (ad307.add ((x13_3).toNat * 8)).off + 4, none⟩ = some (.int .i64 ((rd_T42 t283 x13_3).f2)) ∧ w'.cell? ⟨(ad307.add ((x13_3).toNat * 8)).block, (ad307.add ((x13_3).toNat * 8)).off + 5, none⟩ = some (.int .i64 ((rd_T42 t283 x13_3).f3)) ∧ w'.cell? ⟨(ad307.add ((x13_3).toNat * 8)).block, (ad307.add ((x13_3).toNat * 8)).off + 6, none⟩ = some (.int .i64 ((rd_T42 t283 x13_3).f4)) ∧ w'.cell? ⟨(ad307.add ((x13_3).toNat * 8)).block, (ad307.add ((x13_3).toNat * 8)).off + 7, none⟩ = some (.int .i64 ((rd_T42 t283 x13_3).f5)) ∧ w'.cell? (ad293.add ((x13_3).toNat * 3)) = some (.int .i64 ((rd_T40 t274 x13_3).f0)) ∧ w'.cell? ⟨(ad293.add ((x13_3).toNat * 3)).block, (ad293.add ((x13_3).toNat * 3)).off + 1, none⟩ = some (.int .i64 ((rd_T40 t274 x13_3).f1)) ∧ w'.cell? ⟨(ad293.add ((x13_3).toNat * 3)).block, (ad293.add ((x13_3).toNat * 3)).off + 2, none⟩ = some (.int .i64 ((rd_T40 t274 x13_3).f2)) ∧ w'.cell? (ad307.add ((x13_3).toNat * 8)) = some (.int .i64 ((rd_T42 t283 x13_3).f0)) ∧ w'.cell? ⟨(ad307.add ((x13_3).toNat * 8)).block, (ad307.add ((x13_3).toNat * 8)).off + 1, none⟩ = some (.int .i64 ((rd_T42 t283 x13_3).f1.f0)) ∧ w'.cell? ⟨(ad307.add ((x13_3).toNat * 8)).block, (ad307.add ((x13_3).toNat * 8)).off + 2, none⟩ = some (.int .i64 ((rd_T42 t283 x13_3).f1.f1)) ∧ w'.cell? ⟨(ad307.add ((x13_3).toNat * 8)).block, (ad307.add ((x13_3).toNat * 8)).off + 3, none⟩ = some (.int .i64 ((rd_T42 t283 x13_3).f1.f2)) ∧ w'.cell? ⟨(ad307.add ((x13_3).toNat * 8)).block, (ad307.add ((x13_3).toNat * 8)).off + 4, none⟩ = some (.int .i64 ((rd_T42 t283 x13_3).f2)) ∧ w'.cell? ⟨(ad307.add ((x13_3).toNat * 8)).block, (ad307.add ((x13_3).toNat * 8)).off + 5, none⟩ = some (.int .i64 ((rd_T42 t283 x13_3).f3)) ∧ w'.cell? ⟨(ad307.add ((x13_3).toNat * 8)).block, (ad307.add ((x13_3).toNat * 8)).off + 6, none⟩ = some (.int .i64 ((rd_T42 t283 x13_3).f4)) ∧ w'.cell? ⟨(ad307.add ((x13_3).toNat * 8)).block, (ad307.add ((x13_3).toNat * 8)).off + 7, none⟩ = some (.int .i64 ((rd_T42 t283 x13_3).f5))) (ds := []) #[false, false, false, false, false, false, false, false, false, false, false, false, false, false, false, false, false, false, false, false, false, false, false, false, false, false, false, false, false, false, false, false, false, false, false, false, false] (by kernel_rfl) rfl rfl ⟨hx307_0, hx307_1, hx307_2, hx307_3, hx307_4, hx307_5, hx307_6, hx307_7, hx308_0, hx308_1, hx308_2, hx309_0, hx309_1, hx309_2, hx309_3, hx309_4, hx309_5, hx309_6, hx309_7⟩ (fun hHeld => ?_); refine with_tabW warplaw5_PlayOne.tab25 warplaw5_PlayOne.bits25 (fun HT_ HW_ => ?_)
                        generalize wc.drew = w72 at HO_8 HO_9 HO_12 HB hx307_0 hx307_1 hx307_2 hx307_3 hx307_4 hx307_5 hx307_6 hx307_7 hx308_0 hx308_1 hx308_2 hx309_0 hx309_1 hx309_2 hx309_3 hx309_4 hx309_5 hx309_6 hx309_7 hHeld ⊢
                        refine pure_ (i := 0) (N := some 122) (v := ?_) (a' := ?_) #[true, false, false, false, false, false, false, false, false, false, false, false, false, false, false, false, false, false, false, false, false, false, false, false, false, false, false, false, false, false, false, false, false, false, false, false, false] rfl rfl (any_of HT_.out (by kernel_rfl)) (fun _ _ _ h => h) (Or.inl ⟨by rfl, ?_⟩) ?_ ?_
                        rotate_left
                        ·
                         intro w'
                         go_simp
                         with_reducible rfl
                        rotate_left
                        ·
                         simp only [Act.put, List.setIfInBounds_toArray, List.set_cons_zero, List.set_cons_succ, i64_w, i32_w]
                         rfl
                        refine pure_ (i := 1) (N := some 123) (v := ?_) (a' := ?_) #[true, true, false, false, false, false, false, false, false, false, false, false, false, false, false, false, false, false, false, false, false, false, false, false, false, false, false, false, false, false, false, false, false, false, false, false, false] rfl rfl (any_of HT_.out (by kernel_rfl)) (fun _ _ _ h => h) (Or.inl ⟨by rfl, ?_⟩) ?_ ?_
                        rotate_left
                        ·
                         intro w'
                         go_simp
                         with_reducible rfl
                        rotate_left
                        ·
                         simp only [Act.put, List.setIfInBounds_toArray, List.set_cons_zero, List.set_cons_succ, i64_w, i32_w]
                         rfl
                        refine pure_ (i := 2) (N := some 124) (v := ?_) (a' := ?_) #[true, true, true, false, false, false, false, false, false, false, false, false, false, false, false, false, false, false, false, false, false, false, false, false, false, false, false, false, false, false, false, false, false, false, false, false, false] rfl rfl (any_of HT_.out (by kernel_rfl)) (fun _ _ _ h => h) (Or.inl ⟨by rfl, ?_⟩) ?_ ?_
                        rotate_left
                        ·
                         intro w'
                         go_simp
                         with_reducible rfl
                        rotate_left
                        ·
                         simp only [Act.put, List.setIfInBounds_toArray, List.set_cons_zero, List.set_cons_succ, i64_w, i32_w]
                         rfl
                        refine pure_ (i := 3) (N := some 125) (v := ?_) (a' := ?_) #[true, true, true, true, false, false, false, false, false, false, false, false, false, false, false, false, false, false, false, false, false, false, false, false, false, false, false, false, false, false, false, false, false, false, false, false, false] rfl rfl (any_of HT_.out (by kernel_rfl)) (fun _ _ _ h => h) (Or.inl ⟨by rfl, ?_⟩) ?_ ?_
                        rotate_left
                        ·
                         intro w'
                         go_simp
                         with_reducible rfl
                        rotate_left
                        ·
                         simp only [Act.put, List.setIfInBounds_toArray, List.set_cons_zero, List.set_cons_succ, i64_w, i32_w]
                         rfl
                        refine pure_ (i := 5) (N := some 127) (v := ?_) (a' := ?_) #[true, true, true, true, false, true, false, false, false, false, false, false, false, false, false, false, false, false, false, false, false, false, false, false, false, false, false, false, false, false, false, false, false, false, false, false, false] rfl rfl (any_of HT_.out (by kernel_rfl)) (fun _ _ _ h => h) (Or.inl ⟨by rfl, ?_⟩) ?_ ?_
                        rotate_left
                        ·
                         intro w'
                         go_simp
                         with_reducible rfl
                        rotate_left
                        ·
                         simp only [Act.put, List.setIfInBounds_toArray, List.set_cons_zero, List.set_cons_succ, i64_w, i32_w]
                         rfl
                        refine pure_ (i := 6) (N := some 128) (v := ?_) (a' := ?_) #[true, true, true, true, false, true, true, false, false, false, false, false, false, false, false, false, false, false, false, false, false, false, false, false, false, false, false, false, false, false, false, false, false, false, false, false, false] rfl rfl (any_of HT_.out (by kernel_rfl)) (fun _ _ _ h => h) (Or.inl ⟨by rfl, ?_⟩) ?_ ?_
                        rotate_left
                        ·
                         intro w'
                         go_simp
                         with_reducible rfl
                        rotate_left
                        ·
                         simp only [Act.put, List.setIfInBounds_toArray, List.set_cons_zero, List.set_cons_succ, i64_w, i32_w]
                         rfl
                        refine pure_ (i := 7) (N := some 129) (v := ?_) (a' := ?_) #[true, true, true, true, false, true, true, true, false, false, false, false, false, false, false, false, false, false, false, false, false, false, false, false, false, false, false, false, false, false, false, false, false, false, false, false, false] rfl rfl (any_of HT_.out (by kernel_rfl)) (fun _ _ _ h => h) (Or.inl ⟨by rfl, ?_⟩) ?_ ?_
                        rotate_left
                        ·
                         intro w'
                         go_simp
                         with_reducible rfl
                        rotate_left
                        ·
                         simp only [Act.put, List.setIfInBounds_toArray, List.set_cons_zero, List.set_cons_succ, i64_w, i32_w]
                         rfl
                        refine take_ (i := 4) (N := some 126) (v := ?_) (a' := ?_) #[true, true, true, true, true, true, true, true, false, false, false, false, false, false, false, false, false, false, false, false, false, false, false, false, false, false, false, false, false, false, false, false, false, false, false, false, false] rfl rfl (take_ofW HT_.out HW_.out (by kernel_rfl)) (fun _ _ _ h => h) (Or.inl ⟨by rfl, ?_⟩) hHeld ?_ ?_
                        rotate_left
                        ·
                         rintro w' ⟨s0, s1, s2, s3, s4, s5, s6, s7, s8, s9, s10, s11, s12, s13, s14, s15, s16, s17, s18⟩
                         go_simp
                         with_reducible rfl
                        rotate_left
                        ·
                         simp only [Act.put, List.setIfInBounds_toArray, List.set_cons_zero, List.set_cons_succ, i64_w, i32_w]
                         rfl
                        refine take_ (i := 8) (N := some 130) (v := ?_) (a' := ?_) #[true, true, true, true, true, true, true, true, true, false, false, false, false, false, false, false, false, false, false, false, false, false, false, false, false, false, false, false, false, false, false, false, false, false, false, false, false] rfl rfl (take_ofW HT_.out HW_.out (by kernel_rfl)) (fun _ _ _ h => h) (Or.inl ⟨by rfl, ?_⟩) hHeld ?_ ?_
                        rotate_left
                        ·
                         rintro w' ⟨s0, s1, s2, s3, s4, s5, s6, s7, s8, s9, s10, s11, s12, s13, s14, s15, s16, s17, s18⟩
                         go_simp
                         with_reducible rfl
                        rotate_left
                        ·
                         simp only [Act.put, List.setIfInBounds_toArray, List.set_cons_zero, List.set_cons_succ, i64_w, i32_w]
                         rfl
                        refine pure_ (i := 9) (N := some 131) (v := ?_) (a' := ?_) #[true, true, true, true, true, true, true, true, true, true, false, false, false, false, false, false, false, false, false, false, false, false, false, false, false, false, false, false, false, false, false, false, false, false, false, false, false] rfl rfl (any_of HT_.out (by kernel_rfl)) (fun _ _ _ h => h) (Or.inl ⟨by rfl, ?_⟩) ?_ ?_
                        rotate_left
                        ·
                         intro w'
                         go_simp
                         with_reducible rfl
                        rotate_left
                        ·
                         simp only [Act.put, List.setIfInBounds_toArray, List.set_cons_zero, List.set_cons_succ, i64_w, i32_w]
                         rfl
                        refine pure_ (i := 10) (N := some 132) (v := ?_) (a' := ?_) #[true, true, true, true, true, true, true, true, true, true, true, false, false, false, false, false, false, false, false, false, false, false, false, false, false, false, false, false, false, false, false, false, false, false, false, false, false] rfl rfl (any_of HT_.out (by kernel_rfl)) (fun _ _ _ h => h) (Or.inl ⟨by rfl, ?_⟩) ?_ ?_
                        rotate_left
                        ·
                         intro w'
                         go_simp
                         with_reducible rfl
                        rotate_left
                        ·
                         simp only [Act.put, List.setIfInBounds_toArray, List.set_cons_zero, List.set_cons_succ, i64_w, i32_w]
                         rfl
                        refine pure_ (i := 11) (N := some 133) (v := ?_) (a' := ?_) #[true, true, true, true, true, true, true, true, true, true, true, true, false, false, false, false, false, false, false, false, false, false, false, false, false, false, false, false, false, false, false, false, false, false, false, false, false] rfl rfl (any_of HT_.out (by kernel_rfl)) (fun _ _ _ h => h) (Or.inl ⟨by rfl, ?_⟩) ?_ ?_
                        rotate_left
                        ·
                         intro w'
                         go_simp
                         with_reducible rfl
                        rotate_left
                        ·
                         simp only [Act.put, List.setIfInBounds_toArray, List.set_cons_zero, List.set_cons_succ, i64_w, i32_w]
                         rfl
                        refine pure_ (i := 12) (N := some 134) (v := ?_) (a' := ?_) #[true, true, true, true, true, true, true, true, true, true, true, true, true, false, false, false, false, false, false, false, false, false, false, false, false, false, false, false, false, false, false, false, false, false, false, false, false] rfl rfl (any_of HT_.out (by kernel_rfl)) (fun _ _ _ h => h) (Or.inl ⟨by rfl, ?_⟩) ?_ ?_
                        rotate_left
                        ·
                         intro w'
                         go_simp
                         with_reducible rfl
                        rotate_left
                        ·
                         simp only [Act.put, List.setIfInBounds_toArray, List.set_cons_zero, List.set_cons_succ, i64_w, i32_w]
                         rfl
                        refine pure_ (i := 13) (N := some 135) (v := ?_) (a' := ?_) #[true, true, true, true, true, true, true, true, true, true, true, true, true, true, false, false, false, false, false, false, false, false, false, false, false, false, false, false, false, false, false, false, false, false, false, false, false] rfl rfl (any_of HT_.out (by kernel_rfl)) (fun _ _ _ h => h) (Or.inl ⟨by rfl, ?_⟩) ?_ ?_
                        rotate_left
                        ·
                         intro w'
                         go_simp
                         with_reducible rfl
                        rotate_left
                        ·
                         simp only [Act.put, List.setIfInBounds_toArray, List.set_cons_zero, List.set_cons_succ, i64_w, i32_w]
                         rfl
                        refine pure_ (i := 14) (N := some 136) (v := ?_) (a' := ?_) #[true, true, true, true, true, true, true, true, true, true, true, true, true, true, true, false, false, false, false, false, false, false, false, false, false, false, false, false, false, false, false, false, false, false, false, false, false] rfl rfl (any_of HT_.out (by kernel_rfl)) (fun _ _ _ h => h) (Or.inl ⟨by rfl, ?_⟩) ?_ ?_
                        rotate_left
                        ·
                         intro w'
                         go_simp
                         with_reducible rfl
                        rotate_left
                        ·
                         simp only [Act.put, List.setIfInBounds_toArray, List.set_cons_zero, List.set_cons_succ, i64_w, i32_w]
                         rfl
                        refine take_ (i := 15) (N := some 137) (v := ?_) (a' := ?_) #[true, true, true, true, true, true, true, true, true, true, true, true, true, true, true, true, false, false, false, false, false, false, false, false, false, false, false, false, false, false, false, false, false, false, false, false, false] rfl rfl (take_ofW HT_.out HW_.out (by kernel_rfl)) (fun _ _ _ h => h) (Or.inl ⟨by rfl, ?_⟩) hHeld ?_ ?_
                        rotate_left
                        ·
                         rintro w' ⟨s0, s1, s2, s3, s4, s5, s6, s7, s8, s9, s10, s11, s12, s13, s14, s15, s16, s17, s18⟩
                         go_simp
                         with_reducible rfl
                        rotate_left
                        ·
                         simp only [Act.put, List.setIfInBounds_toArray, List.set_cons_zero, List.set_cons_succ, i64_w, i32_w]
                         rfl
                        refine pure_ (i := 16) (N := some 138) (v := ?_) (a' := ?_) #[true, true, true, true, true, true, true, true, true, true, true, true, true, true, true, true, true, false, false, false, false, false, false, false, false, false, false, false, false, false, false, false, false, false, false, false, false] rfl rfl (any_of HT_.out (by kernel_rfl)) (fun _ _ _ h => h) (Or.inl ⟨by rfl, ?_⟩) ?_ ?_
                        rotate_left
                        ·
                         intro w'
                         go_simp
                         with_reducible rfl
                        rotate_left
                        ·
                         simp only [Act.put, List.setIfInBounds_toArray, List.set_cons_zero, List.set_cons_succ, i64_w, i32_w]
                         rfl
                        refine pure_ (i := 17) (N := some 139) (v := ?_) (a' := ?_) #[true, true, true, true, true, true, true, true, true, true, true, true, true, true, true, true, true, true, false, false, false, false, false, false, false, false, false, false, false, false, false, false, false, false, false, false, false] rfl rfl (any_of HT_.out (by kernel_rfl)) (fun _ _ _ h => h) (Or.inl ⟨by rfl, ?_⟩) ?_ ?_
                        rotate_left
                        ·
                         intro w'
                         go_simp
                         with_reducible rfl
                        rotate_left
                        ·
                         simp only [Act.put, List.setIfInBounds_toArray, List.set_cons_zero, List.set_cons_succ, i64_w, i32_w]
                         rfl
                        refine pure_ (i := 18) (N := some 140) (v := ?_) (a' := ?_) #[true, true, true, true, true, true, true, true, true, true, true, true, true, true, true, true, true, true, true, false, false, false, false, false, false, false, false, false, false, false, false, false, false, false, false, false, false] rfl rfl (any_of HT_.out (by kernel_rfl)) (fun _ _ _ h => h) (Or.inl ⟨by rfl, ?_⟩) ?_ ?_
                        rotate_left
                        ·
                         intro w'
                         go_simp
                         with_reducible rfl
                        rotate_left
                        ·
                         simp only [Act.put, List.setIfInBounds_toArray, List.set_cons_zero, List.set_cons_succ, i64_w, i32_w]
                         rfl
                        refine pure_ (i := 19) (N := some 141) (v := ?_) (a' := ?_) #[true, true, true, true, true, true, true, true, true, true, true, true, true, true, true, true, true, true, true, true, false, false, false, false, false, false, false, false, false, false, false, false, false, false, false, false, false] rfl rfl (any_of HT_.out (by kernel_rfl)) (fun _ _ _ h => h) (Or.inl ⟨by rfl, ?_⟩) ?_ ?_
                        rotate_left
                        ·
                         intro w'
                         go_simp
                         with_reducible rfl
                        rotate_left
                        ·
                         simp only [Act.put, List.setIfInBounds_toArray, List.set_cons_zero, List.set_cons_succ, i64_w, i32_w]
                         rfl
                        refine pure_ (i := 20) (N := some 142) (v := ?_) (a' := ?_) #[true, true, true, true, true, true, true, true, true, true, true, true, true, true, true, true, true, true, true, true, true, false, false, false, false, false, false, false, false, false, false, false, false, false, false, false, false] rfl rfl (any_of HT_.out (by kernel_rfl)) (fun _ _ _ h => h) (Or.inl ⟨by rfl, ?_⟩) ?_ ?_
                        rotate_left
                        ·
                         intro w'
                         go_simp
                         with_reducible rfl
                        rotate_left
                        ·
                         simp only [Act.put, List.setIfInBounds_toArray, List.set_cons_zero, List.set_cons_succ, i64_w, i32_w]
                         rfl
                        refine pure_ (i := 21) (N := some 143) (v := ?_) (a' := ?_) #[true, true, true, true, true, true, true, true, true, true, true, true, true, true, true, true, true, true, true, true, true, true, false, false, false, false, false, false, false, false, false, false, false, false, false, false, false] rfl rfl (any_of HT_.out (by kernel_rfl)) (fun _ _ _ h => h) (Or.inl ⟨by rfl, ?_⟩) ?_ ?_
                        rotate_left
                        ·
                         intro w'
                         go_simp
                         with_reducible rfl
                        rotate_left
                        ·
                         simp only [Act.put, List.setIfInBounds_toArray, List.set_cons_zero, List.set_cons_succ, i64_w, i32_w]
                         rfl
                        refine pure_ (i := 22) (N := some 144) (v := undef) (a' := ?_) #[true, true, true, true, true, true, true, true, true, true, true, true, true, true, true, true, true, true, true, true, true, true, true, false, false, false, false, false, false, false, false, false, false, false, false, false, false] rfl rfl (any_of HT_.out (by kernel_rfl)) (fun _ _ _ h => h) (Or.inr ⟨by rfl, rfl⟩) ?_ ?_
                        rotate_left
                        ·
                         simp only [Act.put, List.setIfInBounds_toArray, List.set_cons_zero, List.set_cons_succ, i64_w, i32_w]
                         rfl
                        refine pure_ (i := 23) (N := some 145) (v := undef) (a' := ?_) #[true, true, true, true, true, true, true, true, true, true, true, true, true, true, true, true, true, true, true, true, true, true, true, true, false, false, false, false, false, false, false, false, false, false, false, false, false] rfl rfl (any_of HT_.out (by kernel_rfl)) (fun _ _ _ h => h) (Or.inr ⟨by rfl, rfl⟩) ?_ ?_
                        rotate_left
                        ·
                         simp only [Act.put, List.setIfInBounds_toArray, List.set_cons_zero, List.set_cons_succ, i64_w, i32_w]
                         rfl
                        refine pure_ (i := 24) (N := some 146) (v := undef) (a' := ?_) #[true, true, true, true, true, true, true, true, true, true, true, true, true, true, true, true, true, true, true, true, true, true, true, true, true, false, false, false, false, false, false, false, false, false, false, false, false] rfl rfl (any_of HT_.out (by kernel_rfl)) (fun _ _ _ h => h) (Or.inr ⟨by rfl, rfl⟩) ?_ ?_
                        rotate_left
                        ·
                         simp only [Act.put, List.setIfInBounds_toArray, List.set_cons_zero, List.set_cons_succ, i64_w, i32_w]
                         rfl
                        refine pure_ (i := 25) (N := some 147) (v := undef) (a' := ?_) #[true, true, true, true, true, true, true, true, true, true, true, true, true, true, true, true, true, true, true, true, true, true, true, true, true, true, false, false, false, false, false, false, false, false, false, false, false] rfl rfl (any_of HT_.out (by kernel_rfl)) (fun _ _ _ h => h) (Or.inr ⟨by rfl, rfl⟩) ?_ ?_
                        rotate_left
                        ·
                         simp only [Act.put, List.setIfInBounds_toArray, List.set_cons_zero, List.set_cons_succ, i64_w, i32_w]
                         rfl
                        refine pure_ (i := 26) (N := some 148) (v := undef) (a' := ?_) #[true, true, true, true, true, true, true, true, true, true, true, true, true, true, true, true, true, true, true, true, true, true, true, true, true, true, true, false, false, false, false, false, false, false, false, false, false] rfl rfl (any_of HT_.out (by kernel_rfl)) (fun _ _ _ h => h) (Or.inr ⟨by rfl, rfl⟩) ?_ ?_
                        rotate_left
                        ·
                         simp only [Act.put, List.setIfInBounds_toArray, List.set_cons_zero, List.set_cons_succ, i64_w, i32_w]
                         rfl
                        refine pure_ (i := 27) (N := some 149) (v := undef) (a' := ?_) #[true, true, true, true, true, true, true, true, true, true, true, true, true, true, true, true, true, true, true, true, true, true, true, true, true, true, true, true, false, false, false, false, false, false, false, false, false] rfl rfl (any_of HT_.out (by kernel_rfl)) (fun _ _ _ h => h) (Or.inr ⟨by rfl, rfl⟩) ?_ ?_
                        rotate_left
                        ·
                         simp only [Act.put, List.setIfInBounds_toArray, List.set_cons_zero, List.set_cons_succ, i64_w, i32_w]
                         rfl
                        refine pure_ (i := 28) (N := some 150) (v := undef) (a' := ?_) #[true, true, true, true, true, true, true, true, true, true, true, true, true, true, true, true, true, true, true, true, true, true, true, true, true, true, true, true, true, false, false, false, false, false, false, false, false] rfl rfl (any_of HT_.out (by kernel_rfl)) (fun _ _ _ h => h) (Or.inr ⟨by rfl, rfl⟩) ?_ ?_
                        rotate_left
                        ·
                         simp only [Act.put, List.setIfInBounds_toArray, List.set_cons_zero, List.set_cons_succ, i64_w, i32_w]
                         rfl
                        refine pure_ (i := 29) (N := some 151) (v := undef) (a' := ?_) #[true, true, true, true, true, true, true, true, true, true, true, true, true, true, true, true, true, true, true, true, true, true, true, true, true, true, true, true, true, true, false, false, false, false, false, false, false] rfl rfl (any_of HT_.out (by kernel_rfl)) (fun _ _ _ h => h) (Or.inr ⟨by rfl, rfl⟩) ?_ ?_
                        rotate_left
                        ·
                         simp only [Act.put, List.setIfInBounds_toArray, List.set_cons_zero, List.set_cons_succ, i64_w, i32_w]
                         rfl
                        refine pure_ (i := 30) (N := some 152) (v := undef) (a' := ?_) #[true, true, true, true, true, true, true, true, true, true, true, true, true, true, true, true, true, true, true, true, true, true, true, true, true, true, true, true, true, true, true, false, false, false, false, false, false] rfl rfl (any_of HT_.out (by kernel_rfl)) (fun _ _ _ h => h) (Or.inr ⟨by rfl, rfl⟩) ?_ ?_
                        rotate_left
                        ·
                         simp only [Act.put, List.setIfInBounds_toArray, List.set_cons_zero, List.set_cons_succ, i64_w, i32_w]
                         rfl
                        refine pure_ (i := 31) (N := some 153) (v := undef) (a' := ?_) #[true, true, true, true, true, true, true, true, true, true, true, true, true, true, true, true, true, true, true, true, true, true, true, true, true, true, true, true, true, true, true, true, false, false, false, false, false] rfl rfl (any_of HT_.out (by kernel_rfl)) (fun _ _ _ h => h) (Or.inr ⟨by rfl, rfl⟩) ?_ ?_
                        rotate_left
                        ·
                         simp only [Act.put, List.setIfInBounds_toArray, List.set_cons_zero, List.set_cons_succ, i64_w, i32_w]
                         rfl
                        refine pure_ (i := 32) (N := some 154) (v := undef) (a' := ?_) #[true, true, true, true, true, true, true, true, true, true, true, true, true, true, true, true, true, true, true, true, true, true, true, true, true, true, true, true, true, true, true, true, true, false, false, false, false] rfl rfl (any_of HT_.out (by kernel_rfl)) (fun _ _ _ h => h) (Or.inr ⟨by rfl, rfl⟩) ?_ ?_
                        rotate_left
                        ·
                         simp only [Act.put, List.setIfInBounds_toArray, List.set_cons_zero, List.set_cons_succ, i64_w, i32_w]
                         rfl
                        refine pure_ (i := 33) (N := some 155) (v := undef) (a' := ?_) #[true, true, true, true, true, true, true, true, true, true, true, true, true, true, true, true, true, true, true, true, true, true, true, true, true, true, true, true, true, true, true, true, true, true, false, false, false] rfl rfl (any_of HT_.out (by kernel_rfl)) (fun _ _ _ h => h) (Or.inr ⟨by rfl, rfl⟩) ?_ ?_
                        rotate_left
                        ·
                         simp only [Act.put, List.setIfInBounds_toArray, List.set_cons_zero, List.set_cons_succ, i64_w, i32_w]
                         rfl
                        refine pure_ (i := 34) (N := some 156) (v := undef) (a' := ?_) #[true, true, true, true, true, true, true, true, true, true, true, true, true, true, true, true, true, true, true, true, true, true, true, true, true, true, true, true, true, true, true, true, true, true, true, false, false] rfl rfl (any_of HT_.out (by kernel_rfl)) (fun _ _ _ h => h) (Or.inr ⟨by rfl, rfl⟩) ?_ ?_
                        rotate_left
                        ·
                         simp only [Act.put, List.setIfInBounds_toArray, List.set_cons_zero, List.set_cons_succ, i64_w, i32_w]
                         rfl
                        refine pure_ (i := 35) (N := some 157) (v := ?_) (a' := ?_) #[true, true, true, true, true, true, true, true, true, true, true, true, true, true, true, true, true, true, true, true, true, true, true, true, true, true, true, true, true, true, true, true, true, true, true, true, false] rfl rfl (any_of HT_.out (by kernel_rfl)) (fun _ _ _ h => h) (Or.inl ⟨by rfl, ?_⟩) ?_ ?_
                        rotate_left
                        ·
                         intro w'
                         go_simp
                         with_reducible rfl
                        rotate_left
                        ·
                         simp only [Act.put, List.setIfInBounds_toArray, List.set_cons_zero, List.set_cons_succ, i64_w, i32_w]
                         rfl
                        refine pure_ (i := 36) (N := some 158) (v := ?_) (a' := ?_) #[true, true, true, true, true, true, true, true, true, true, true, true, true, true, true, true, true, true, true, true, true, true, true, true, true, true, true, true, true, true, true, true, true, true, true, true, true] rfl rfl (any_of HT_.out (by kernel_rfl)) (fun _ _ _ h => h) (Or.inl ⟨by rfl, ?_⟩) ?_ ?_
                        rotate_left
                        ·
                         intro w'
                         go_simp
                         with_reducible rfl
                        rotate_left
                        ·
                         simp only [Act.put, List.setIfInBounds_toArray, List.set_cons_zero, List.set_cons_succ, i64_w, i32_w]
                         rfl
                        refine done_ (done_of HT_.out (by kernel_rfl)) ?_
                        try go_wp2
                        go_meet
                        case rel => exact ⟨_, (false), (by first | rfl | (simp; done) | (simp [*]; done)), H', ⟨by have := HJ3.out; have := HJ11.out; have := HK3.out; have := HJ30.out; have := HJ36.out; first | omega | exact Nat.le_refl _⟩, ⟨by (with_reducible repeat (first | apply Kd.R_alloc | apply Kd.R_drewN | apply Kd.R_drew)); exact HO_8.out⟩, ⟨by (with_reducible repeat (first | apply Kd.R_alloc | apply Kd.R_drewN | apply Kd.R_drew)); exact HO_9.out⟩, ⟨by (with_reducible repeat (first | apply Kd.R_alloc | apply Kd.R_drewN | apply Kd.R_drew)); exact HO_12.out⟩, ⟨by repeat (first | (with_reducible first | exact HB.out | apply below_alloc | apply pw_below_drewN | apply below_drew1) | exact HB.out)⟩⟩
                      ·
                       rw [if_neg c65] at H
                       have c65b0 : (((rd_T42 t283 x13_3).f0) == 0) = false := beq_eq_false_iff_ne.mpr c65
                       have c65b1 : (((rd_T42 t283 x13_3).f0) != 0) = true := bne_iff_ne.mpr c65
                       have H' := Aside0.mk H
                       clear H
                       try go_wp2
                       have n0_ := Aside0.mk (Kd.R_drew HO_8.out)
                       have n1_ := Aside0.mk (Kd.R_drew HO_9.out)
                       have n2_ := Aside0.mk (Kd.R_drew HO_12.out)
                       have n3_ := Aside0.mk (below_drew1 HB.out)
                       clear HO_8
                       clear HO_9
                       clear HO_12
                       clear HB
                       have HO_8 := n0_
                       have HO_9 := n1_
                       have HO_12 := n2_
                       have HB := n3_
                       clear n0_ n1_ n2_ n3_
                       obtain ⟨Ao75, co75, eo75⟩ := Kd.R_slice HO_9.out
                       (first | subst eo75 | (injection eo75 with f1_ f2_ f3_; have f4_ := f1_.symm; have f5_ := f3_.symm; clear f1_ f2_ f3_; subst f4_; subst f5_))
                       have p307 : 0 ≤ (x13_3 : Int) := of_decide_eq_true (by first | (with_reducible assumption) | assumption)
                       have q307 : x13_3 < (t283.length : Int) := of_decide_eq_true (by first | (with_reducible assumption) | assumption)
                       obtain ⟨ad307, e307, hx307_0, hx307_1, hx307_2, hx307_3, hx307_4, hx307_5, hx307_6, hx307_7⟩ := at_T42 (Kd.R_reads' HO_9.out).2.2 x13_3 p307 q307
                       cases e307
                       replace p307 := eq_true p307
                       replace q307 := eq_true q307
                       have p308 : 0 ≤ (x13_3 : Int) := of_decide_eq_true (by first | (with_reducible assumption) | assumption)
                       have q308 : x13_3 < (t274.length : Int) := of_decide_eq_true (by first | (with_reducible assumption) | assumption)
                       obtain ⟨ad308, e308, hx308_0, hx308_1, hx308_2⟩ := at_T40 (Kd.R_reads' HO_8.out).2.2 x13_3 p308 q308
                       obtain rfl : ad293 = ad308 := (by injection e308)
                       replace p308 := eq_true p308
                       replace q308 := eq_true q308
                       have p309 : 0 ≤ (x13_3 : Int) := of_decide_eq_true (by first | (with_reducible assumption) | assumption)
                       have q309 : x13_3 < (t283.length : Int) := of_decide_eq_true (by first | (with_reducible assumption) | assumption)
                       obtain ⟨ad309, e309, hx309_0, hx309_1, hx309_2, hx309_3, hx309_4, hx309_5, hx309_6, hx309_7⟩ := at_T42 (Kd.R_reads' HO_9.out).2.2 x13_3 p309 q309
                       obtain rfl : ad307 = ad309 := (by injection e309)
                       replace p309 := eq_true p309
                       replace q309 := eq_true q309
                       refine start_ (n := 37) (S := fun w' => w'.cell? (ad307.add ((x13_3).toNat * 8)) = some (.int .i64 ((rd_T42 t283 x13_3).f0)) ∧ w'.cell? ⟨(ad307.add ((x13_3).toNat * 8)).block, (ad307.add ((x13_3).toNat * 8)).off + 1, none⟩ = some (.int .i64 ((rd_T42 t283 x13_3).f1.f0)) ∧ w'.cell? ⟨(ad307.add ((x13_3).toNat * 8)).block, (ad307.add ((x13_3).toNat * 8)).off + 2, none⟩ = some (.int .i64 ((rd_T42 t283 x13_3).f1.f1)) ∧ w'.cell? ⟨(ad307.add ((x13_3).toNat * 8)).block, (ad307.add ((x13_3).toNat * 8)).off + 3, none⟩ = some (.int .i64 ((rd_T42 t283 x13_3).f1.f2)) ∧ w'.cell? ⟨(ad307.add ((x13_3).toNat * 8)).block, (ad307.add ((x13_3).toNat * 8)).off + 4, none⟩ = some (.int .i64 ((rd_T42 t283 x13_3).f2)) ∧ w'.cell? ⟨(ad307.add ((x13_3).toNat * 8)).block, (ad307.add ((x13_3).toNat * 8)).off + 5, none⟩ = some (.int .i64 ((rd_T42 t283 x13_3).f3)) ∧ w'.cell? ⟨(ad307.add ((x13_3).toNat * 8)).block, (ad307.add ((x13_3).toNat * 8)).off + 6, none⟩ = some (.int .i64 ((rd_T42 t283 x13_3).f4)) ∧ w'.cell? ⟨(ad307.add ((x13_3).toNat * 8)).block, (ad307.add ((x13_3).toNat * 8)).off + 7, none⟩ = some (.int .i64 ((rd_T42 t283 x13_3).f5)) ∧ w'.cell? (ad293.add ((x13_3).toNat * 3)) = some (.int .i64 ((rd_T40 t274 x13_3).f0)) ∧ w'.cell? ⟨(ad293.add ((x13_3).toNat * 3)).block, (ad293.add ((x13_3).toNat * 3)).off + 1, none⟩ = some (.int .i64 ((rd_T40 t274 x13_3).f1)) ∧ w'.cell? ⟨(ad293.add ((x13_3).toNat * 3)).block, (ad293.add ((x13_3).toNat * 3)).off + 2, none⟩ = some (.int .i64 ((rd_T40 t274 x13_3).f2)) ∧ w'.cell? (ad307.add ((x13_3).toNat * 8)) = some (.int .i64 ((rd_T42 t283 x13_3).f0)) ∧ w'.cell? ⟨(ad307.add ((x13_3).toNat * 8)).block, (ad307.add ((x13_3).toNat * 8)).off + 1, none⟩ = some (.int .i64 ((rd_T42 t283 x13_3).f1.f0)) ∧ w'.cell? ⟨(ad307.add ((x13_3).toNat * 8)).block, (ad307.add ((x13_3).toNat * 8)).off + 2, none⟩ = some (.int .i64 ((rd_T42 t283 x13_3).f1.f1)) ∧ w'.cell? ⟨(ad307.add ((x13_3).toNat * 8)).block, (ad307.add ((x13_3).toNat * 8)).off + 3, none⟩ = some (.int .i64 ((rd_T42 t283 x13_3).f1.f2)) ∧ w'.cell? ⟨(ad307.add ((x13_3).toNat * 8)).block, (ad307.add ((x13_3).toNat * 8)).off + 4, none⟩ = some (.int .i64 ((rd_T42 t283 x13_3).f2)) ∧ w'.cell? ⟨(ad307.add ((x13_3).toNat * 8)).block, (ad307.add ((x13_3).toNat * 8)).off + 5, none⟩ = some (.int .i64 ((rd_T42 t283 x13_3).f3)) ∧ w'.cell? ⟨(ad307.add ((x13_3).toNat * 8)).block, (ad307.add ((x13_3).toNat * 8)).off + 6, none⟩ = some (.int .i64 ((rd_T42 t283 x13_3).f4)) ∧ w'.cell? ⟨(ad307.add ((x13_3).toNat * 8)).block, (ad307.add ((x13_3).toNat * 8)).off + 7, none⟩ = some (.int .i64 ((rd_T42 t283 x13_3).f5))) (ds := []) #[false, false, false, false, false, false, false, false, false, false, false, false, false, false, false, false, false, false, false, false, false, false, false, false, false, false, false, false, false, false, false, false, false, false, false, false, false] (by kernel_rfl) rfl rfl ⟨hx307_0, hx307_1, hx307_2, hx307_3, hx307_4, hx307_5, hx307_6, hx307_7, hx308_0, hx308_1, hx308_2, hx309_0, hx309_1, hx309_2, hx309_3, hx309_4, hx309_5, hx309_6, hx309_7⟩ (fun hHeld => ?_); refine with_tabW warplaw5_PlayOne.tab25 warplaw5_PlayOne.bits25 (fun HT_ HW_ => ?_)
                       generalize wc.drew = w74 at HO_8 HO_9 HO_12 HB hx307_0 hx307_1 hx307_2 hx307_3 hx307_4 hx307_5 hx307_6 hx307_7 hx308_0 hx308_1 hx308_2 hx309_0 hx309_1 hx309_2 hx309_3 hx309_4 hx309_5 hx309_6 hx309_7 hHeld ⊢
                       refine pure_ (i := 0) (N := some 122) (v := ?_) (a' := ?_) #[true, false, false, false, false, false, false, false, false, false, false, false, false, false, false, false, false, false, false, false, false, false, false, false, false, false, false, false, false, false, false, false, false, false, false, false, false] rfl rfl (any_of HT_.out (by kernel_rfl)) (fun _ _ _ h => h) (Or.inl ⟨by rfl, ?_⟩) ?_ ?_
                       rotate_left
                       ·
                        intro w'
                        go_simp
                        with_reducible rfl
                       rotate_left
                       ·
                        simp only [Act.put, List.setIfInBounds_toArray, List.set_cons_zero, List.set_cons_succ, i64_w, i32_w]
                        rfl
                       refine pure_ (i := 1) (N := some 123) (v := ?_) (a' := ?_) #[true, true, false, false, false, false, false, false, false, false, false, false, false, false, false, false, false, false, false, false, false, false, false, false, false, false, false, false, false, false, false, false, false, false, false, false, false] rfl rfl (any_of HT_.out (by kernel_rfl)) (fun _ _ _ h => h) (Or.inl ⟨by rfl, ?_⟩) ?_ ?_
                       rotate_left
                       ·
                        intro w'
                        go_simp
                        with_reducible rfl
                       rotate_left
                       ·
                        simp only [Act.put, List.setIfInBounds_toArray, List.set_cons_zero, List.set_cons_succ, i64_w, i32_w]
                        rfl
                       refine pure_ (i := 2) (N := some 124) (v := ?_) (a' := ?_) #[true, true, true, false, false, false, false, false, false, false, false, false, false, false, false, false, false, false, false, false, false, false, false, false, false, false, false, false, false, false, false, false, false, false, false, false, false] rfl rfl (any_of HT_.out (by kernel_rfl)) (fun _ _ _ h => h) (Or.inl ⟨by rfl, ?_⟩) ?_ ?_
                       rotate_left
                       ·
                        intro w'
                        go_simp
                        with_reducible rfl
                       rotate_left
                       ·
                        simp only [Act.put, List.setIfInBounds_toArray, List.set_cons_zero, List.set_cons_succ, i64_w, i32_w]
                        rfl
                       refine pure_ (i := 3) (N := some 125) (v := ?_) (a' := ?_) #[true, true, true, true, false, false, false, false, false, false, false, false, false, false, false, false, false, false, false, false, false, false, false, false, false, false, false, false, false, false, false, false, false, false, false, false, false] rfl rfl (any_of HT_.out (by kernel_rfl)) (fun _ _ _ h => h) (Or.inl ⟨by rfl, ?_⟩) ?_ ?_
                       rotate_left
                       ·
                        intro w'
                        go_simp
                        with_reducible rfl
                       rotate_left
                       ·
                        simp only [Act.put, List.setIfInBounds_toArray, List.set_cons_zero, List.set_cons_succ, i64_w, i32_w]
                        rfl
                       refine pure_ (i := 5) (N := some 127) (v := ?_) (a' := ?_) #[true, true, true, true, false, true, false, false, false, false, false, false, false, false, false, false, false, false, false, false, false, false, false, false, false, false, false, false, false, false, false, false, false, false, false, false, false] rfl rfl (any_of HT_.out (by kernel_rfl)) (fun _ _ _ h => h) (Or.inl ⟨by rfl, ?_⟩) ?_ ?_
                       rotate_left
                       ·
                        intro w'
                        go_simp
                        with_reducible rfl
                       rotate_left
                       ·
                        simp only [Act.put, List.setIfInBounds_toArray, List.set_cons_zero, List.set_cons_succ, i64_w, i32_w]
                        rfl
                       refine pure_ (i := 6) (N := some 128) (v := ?_) (a' := ?_) #[true, true, true, true, false, true, true, false, false, false, false, false, false, false, false, false, false, false, false, false, false, false, false, false, false, false, false, false, false, false, false, false, false, false, false, false, false] rfl rfl (any_of HT_.out (by kernel_rfl)) (fun _ _ _ h => h) (Or.inl ⟨by rfl, ?_⟩) ?_ ?_
                       rotate_left
                       ·
                        intro w'
                        go_simp
                        with_reducible rfl
                       rotate_left
                       ·
                        simp only [Act.put, List.setIfInBounds_toArray, List.set_cons_zero, List.set_cons_succ, i64_w, i32_w]
                        rfl
                       refine pure_ (i := 7) (N := some 129) (v := ?_) (a' := ?_) #[true, true, true, true, false, true, true, true, false, false, false, false, false, false, false, false, false, false, false, false, false, false, false, false, false, false, false, false, false, false, false, false, false, false, false, false, false] rfl rfl (any_of HT_.out (by kernel_rfl)) (fun _ _ _ h => h) (Or.inl ⟨by rfl, ?_⟩) ?_ ?_
                       rotate_left
                       ·
                        intro w'
                        go_simp
                        with_reducible rfl
                       rotate_left
                       ·
                        simp only [Act.put, List.setIfInBounds_toArray, List.set_cons_zero, List.set_cons_succ, i64_w, i32_w]
                        rfl
                       refine take_ (i := 4) (N := some 126) (v := ?_) (a' := ?_) #[true, true, true, true, true, true, true, true, false, false, false, false, false, false, false, false, false, false, false, false, false, false, false, false, false, false, false, false, false, false, false, false, false, false, false, false, false] rfl rfl (take_ofW HT_.out HW_.out (by kernel_rfl)) (fun _ _ _ h => h) (Or.inl ⟨by rfl, ?_⟩) hHeld ?_ ?_
                       rotate_left
                       ·
                        rintro w' ⟨s0, s1, s2, s3, s4, s5, s6, s7, s8, s9, s10, s11, s12, s13, s14, s15, s16, s17, s18⟩
                        go_simp
                        with_reducible rfl
                       rotate_left
                       ·
                        simp only [Act.put, List.setIfInBounds_toArray, List.set_cons_zero, List.set_cons_succ, i64_w, i32_w]
                        rfl
                       refine take_ (i := 8) (N := some 130) (v := ?_) (a' := ?_) #[true, true, true, true, true, true, true, true, true, false, false, false, false, false, false, false, false, false, false, false, false, false, false, false, false, false, false, false, false, false, false, false, false, false, false, false, false] rfl rfl (take_ofW HT_.out HW_.out (by kernel_rfl)) (fun _ _ _ h => h) (Or.inl ⟨by rfl, ?_⟩) hHeld ?_ ?_
                       rotate_left
                       ·
                        rintro w' ⟨s0, s1, s2, s3, s4, s5, s6, s7, s8, s9, s10, s11, s12, s13, s14, s15, s16, s17, s18⟩
                        go_simp
                        with_reducible rfl
                       rotate_left
                       ·
                        simp only [Act.put, List.setIfInBounds_toArray, List.set_cons_zero, List.set_cons_succ, i64_w, i32_w]
                        rfl
                       refine pure_ (i := 9) (N := some 131) (v := ?_) (a' := ?_) #[true, true, true, true, true, true, true, true, true, true, false, false, false, false, false, false, false, false, false, false, false, false, false, false, false, false, false, false, false, false, false, false, false, false, false, false, false] rfl rfl (any_of HT_.out (by kernel_rfl)) (fun _ _ _ h => h) (Or.inl ⟨by rfl, ?_⟩) ?_ ?_
                       rotate_left
                       ·
                        intro w'
                        go_simp
                        with_reducible rfl
                       rotate_left
                       ·
                        simp only [Act.put, List.setIfInBounds_toArray, List.set_cons_zero, List.set_cons_succ, i64_w, i32_w]
                        rfl
                       refine pure_ (i := 10) (N := some 132) (v := ?_) (a' := ?_) #[true, true, true, true, true, true, true, true, true, true, true, false, false, false, false, false, false, false, false, false, false, false, false, false, false, false, false, false, false, false, false, false, false, false, false, false, false] rfl rfl (any_of HT_.out (by kernel_rfl)) (fun _ _ _ h => h) (Or.inl ⟨by rfl, ?_⟩) ?_ ?_
                       rotate_left
                       ·
                        intro w'
                        go_simp
                        with_reducible rfl
                       rotate_left
                       ·
                        simp only [Act.put, List.setIfInBounds_toArray, List.set_cons_zero, List.set_cons_succ, i64_w, i32_w]
                        rfl
                       refine pure_ (i := 11) (N := some 133) (v := ?_) (a' := ?_) #[true, true, true, true, true, true, true, true, true, true, true, true, false, false, false, false, false, false, false, false, false, false, false, false, false, false, false, false, false, false, false, false, false, false, false, false, false] rfl rfl (any_of HT_.out (by kernel_rfl)) (fun _ _ _ h => h) (Or.inl ⟨by rfl, ?_⟩) ?_ ?_
                       rotate_left
                       ·
                        intro w'
                        go_simp
                        with_reducible rfl
                       rotate_left
                       ·
                        simp only [Act.put, List.setIfInBounds_toArray, List.set_cons_zero, List.set_cons_succ, i64_w, i32_w]
                        rfl
                       refine pure_ (i := 12) (N := some 134) (v := ?_) (a' := ?_) #[true, true, true, true, true, true, true, true, true, true, true, true, true, false, false, false, false, false, false, false, false, false, false, false, false, false, false, false, false, false, false, false, false, false, false, false, false] rfl rfl (any_of HT_.out (by kernel_rfl)) (fun _ _ _ h => h) (Or.inl ⟨by rfl, ?_⟩) ?_ ?_
                       rotate_left
                       ·
                        intro w'
                        go_simp
                        with_reducible rfl
                       rotate_left
                       ·
                        simp only [Act.put, List.setIfInBounds_toArray, List.set_cons_zero, List.set_cons_succ, i64_w, i32_w]
                        rfl
                       refine pure_ (i := 13) (N := some 135) (v := ?_) (a' := ?_) #[true, true, true, true, true, true, true, true, true, true, true, true, true, true, false, false, false, false, false, false, false, false, false, false, false, false, false, false, false, false, false, false, false, false, false, false, false] rfl rfl (any_of HT_.out (by kernel_rfl)) (fun _ _ _ h => h) (Or.inl ⟨by rfl, ?_⟩) ?_ ?_
                       rotate_left
                       ·
                        intro w'
                        go_simp
                        with_reducible rfl
                       rotate_left
                       ·
                        simp only [Act.put, List.setIfInBounds_toArray, List.set_cons_zero, List.set_cons_succ, i64_w, i32_w]
                        rfl
                       refine pure_ (i := 14) (N := some 136) (v := ?_) (a' := ?_) #[true, true, true, true, true, true, true, true, true, true, true, true, true, true, true, false, false, false, false, false, false, false, false, false, false, false, false, false, false, false, false, false, false, false, false, false, false] rfl rfl (any_of HT_.out (by kernel_rfl)) (fun _ _ _ h => h) (Or.inl ⟨by rfl, ?_⟩) ?_ ?_
                       rotate_left
                       ·
                        intro w'
                        go_simp
                        with_reducible rfl
                       rotate_left
                       ·
                        simp only [Act.put, List.setIfInBounds_toArray, List.set_cons_zero, List.set_cons_succ, i64_w, i32_w]
                        rfl
                       refine take_ (i := 15) (N := some 137) (v := ?_) (a' := ?_) #[true, true, true, true, true, true, true, true, true, true, true, true, true, true, true, true, false, false, false, false, false, false, false, false, false, false, false, false, false, false, false, false, false, false, false, false, false] rfl rfl (take_ofW HT_.out HW_.out (by kernel_rfl)) (fun _ _ _ h => h) (Or.inl ⟨by rfl, ?_⟩) hHeld ?_ ?_
                       rotate_left
                       ·
                        rintro w' ⟨s0, s1, s2, s3, s4, s5, s6, s7, s8, s9, s10, s11, s12, s13, s14, s15, s16, s17, s18⟩
                        go_simp
                        with_reducible rfl
                       rotate_left
                       ·
                        simp only [Act.put, List.setIfInBounds_toArray, List.set_cons_zero, List.set_cons_succ, i64_w, i32_w]
                        rfl
                       refine pure_ (i := 16) (N := some 138) (v := ?_) (a' := ?_) #[true, true, true, true, true, true, true, true, true, true, true, true, true, true, true, true, true, false, false, false, false, false, false, false, false, false, false, false, false, false, false, false, false, false, false, false, false] rfl rfl (any_of HT_.out (by kernel_rfl)) (fun _ _ _ h => h) (Or.inl ⟨by rfl, ?_⟩) ?_ ?_
                       rotate_left
                       ·
                        intro w'
                        go_simp
                        with_reducible rfl
                       rotate_left
                       ·
                        simp only [Act.put, List.setIfInBounds_toArray, List.set_cons_zero, List.set_cons_succ, i64_w, i32_w]
                        rfl
                       refine pure_ (i := 17) (N := some 139) (v := ?_) (a' := ?_) #[true, true, true, true, true, true, true, true, true, true, true, true, true, true, true, true, true, true, false, false, false, false, false, false, false, false, false, false, false, false, false, false, false, false, false, false, false] rfl rfl (any_of HT_.out (by kernel_rfl)) (fun _ _ _ h => h) (Or.inl ⟨by rfl, ?_⟩) ?_ ?_
                       rotate_left
                       ·
                        intro w'
                        go_simp
                        with_reducible rfl
                       rotate_left
                       ·
                        simp only [Act.put, List.setIfInBounds_toArray, List.set_cons_zero, List.set_cons_succ, i64_w, i32_w]
                        rfl
                       refine pure_ (i := 18) (N := some 140) (v := ?_) (a' := ?_) #[true, true, true, true, true, true, true, true, true, true, true, true, true, true, true, true, true, true, true, false, false, false, false, false, false, false, false, false, false, false, false, false, false, false, false, false, false] rfl rfl (any_of HT_.out (by kernel_rfl)) (fun _ _ _ h => h) (Or.inl ⟨by rfl, ?_⟩) ?_ ?_
                       rotate_left
                       ·
                        intro w'
                        go_simp
                        with_reducible rfl
                       rotate_left
                       ·
                        simp only [Act.put, List.setIfInBounds_toArray, List.set_cons_zero, List.set_cons_succ, i64_w, i32_w]
                        rfl
                       refine pure_ (i := 19) (N := some 141) (v := undef) (a' := ?_) #[true, true, true, true, true, true, true, true, true, true, true, true, true, true, true, true, true, true, true, true, false, false, false, false, false, false, false, false, false, false, false, false, false, false, false, false, false] rfl rfl (any_of HT_.out (by kernel_rfl)) (fun _ _ _ h => h) (Or.inr ⟨by rfl, rfl⟩) ?_ ?_
                       rotate_left
                       ·
                        simp only [Act.put, List.setIfInBounds_toArray, List.set_cons_zero, List.set_cons_succ, i64_w, i32_w]
                        rfl
                       refine pure_ (i := 20) (N := some 142) (v := undef) (a' := ?_) #[true, true, true, true, true, true, true, true, true, true, true, true, true, true, true, true, true, true, true, true, true, false, false, false, false, false, false, false, false, false, false, false, false, false, false, false, false] rfl rfl (any_of HT_.out (by kernel_rfl)) (fun _ _ _ h => h) (Or.inr ⟨by rfl, rfl⟩) ?_ ?_
                       rotate_left
                       ·
                        simp only [Act.put, List.setIfInBounds_toArray, List.set_cons_zero, List.set_cons_succ, i64_w, i32_w]
                        rfl
                       refine pure_ (i := 21) (N := some 143) (v := undef) (a' := ?_) #[true, true, true, true, true, true, true, true, true, true, true, true, true, true, true, true, true, true, true, true, true, true, false, false, false, false, false, false, false, false, false, false, false, false, false, false, false] rfl rfl (any_of HT_.out (by kernel_rfl)) (fun _ _ _ h => h) (Or.inr ⟨by rfl, rfl⟩) ?_ ?_
                       rotate_left
                       ·
                        simp only [Act.put, List.setIfInBounds_toArray, List.set_cons_zero, List.set_cons_succ, i64_w, i32_w]
                        rfl
                       refine pure_ (i := 22) (N := some 144) (v := undef) (a' := ?_) #[true, true, true, true, true, true, true, true, true, true, true, true, true, true, true, true, true, true, true, true, true, true, true, false, false, false, false, false, false, false, false, false, false, false, false, false, false] rfl rfl (any_of HT_.out (by kernel_rfl)) (fun _ _ _ h => h) (Or.inr ⟨by rfl, rfl⟩) ?_ ?_
                       rotate_left
                       ·
                        simp only [Act.put, List.setIfInBounds_toArray, List.set_cons_zero, List.set_cons_succ, i64_w, i32_w]
                        rfl
                       refine pure_ (i := 23) (N := some 145) (v := undef) (a' := ?_) #[true, true, true, true, true, true, true, true, true, true, true, true, true, true, true, true, true, true, true, true, true, true, true, true, false, false, false, false, false, false, false, false, false, false, false, false, false] rfl rfl (any_of HT_.out (by kernel_rfl)) (fun _ _ _ h => h) (Or.inr ⟨by rfl, rfl⟩) ?_ ?_
                       rotate_left
                       ·
                        simp only [Act.put, List.setIfInBounds_toArray, List.set_cons_zero, List.set_cons_succ, i64_w, i32_w]
                        rfl
                       refine pure_ (i := 24) (N := some 146) (v := undef) (a' := ?_) #[true, true, true, true, true, true, true, true, true, true, true, true, true, true, true, true, true, true, true, true, true, true, true, true, true, false, false, false, false, false, false, false, false, false, false, false, false] rfl rfl (any_of HT_.out (by kernel_rfl)) (fun _ _ _ h => h) (Or.inr ⟨by rfl, rfl⟩) ?_ ?_
                       rotate_left
                       ·
                        simp only [Act.put, List.setIfInBounds_toArray, List.set_cons_zero, List.set_cons_succ, i64_w, i32_w]
                        rfl
                       refine pure_ (i := 25) (N := some 147) (v := undef) (a' := ?_) #[true, true, true, true, true, true, true, true, true, true, true, true, true, true, true, true, true, true, true, true, true, true, true, true, true, true, false, false, false, false, false, false, false, false, false, false, false] rfl rfl (any_of HT_.out (by kernel_rfl)) (fun _ _ _ h => h) (Or.inr ⟨by rfl, rfl⟩) ?_ ?_
                       rotate_left
                       ·
                        simp only [Act.put, List.setIfInBounds_toArray, List.set_cons_zero, List.set_cons_succ, i64_w, i32_w]
                        rfl
                       refine pure_ (i := 26) (N := some 148) (v := undef) (a' := ?_) #[true, true, true, true, true, true, true, true, true, true, true, true, true, true, true, true, true, true, true, true, true, true, true, true, true, true, true, false, false, false, false, false, false, false, false, false, false] rfl rfl (any_of HT_.out (by kernel_rfl)) (fun _ _ _ h => h) (Or.inr ⟨by rfl, rfl⟩) ?_ ?_
                       rotate_left
                       ·
                        simp only [Act.put, List.setIfInBounds_toArray, List.set_cons_zero, List.set_cons_succ, i64_w, i32_w]
                        rfl
                       refine pure_ (i := 27) (N := some 149) (v := undef) (a' := ?_) #[true, true, true, true, true, true, true, true, true, true, true, true, true, true, true, true, true, true, true, true, true, true, true, true, true, true, true, true, false, false, false, false, false, false, false, false, false] rfl rfl (any_of HT_.out (by kernel_rfl)) (fun _ _ _ h => h) (Or.inr ⟨by rfl, rfl⟩) ?_ ?_
                       rotate_left
                       ·
                        simp only [Act.put, List.setIfInBounds_toArray, List.set_cons_zero, List.set_cons_succ, i64_w, i32_w]
                        rfl
                       refine pure_ (i := 28) (N := some 150) (v := undef) (a' := ?_) #[true, true, true, true, true, true, true, true, true, true, true, true, true, true, true, true, true, true, true, true, true, true, true, true, true, true, true, true, true, false, false, false, false, false, false, false, false] rfl rfl (any_of HT_.out (by kernel_rfl)) (fun _ _ _ h => h) (Or.inr ⟨by rfl, rfl⟩) ?_ ?_
                       rotate_left
                       ·
                        simp only [Act.put, List.setIfInBounds_toArray, List.set_cons_zero, List.set_cons_succ, i64_w, i32_w]
                        rfl
                       refine pure_ (i := 29) (N := some 151) (v := undef) (a' := ?_) #[true, true, true, true, true, true, true, true, true, true, true, true, true, true, true, true, true, true, true, true, true, true, true, true, true, true, true, true, true, true, false, false, false, false, false, false, false] rfl rfl (any_of HT_.out (by kernel_rfl)) (fun _ _ _ h => h) (Or.inr ⟨by rfl, rfl⟩) ?_ ?_
                       rotate_left
                       ·
                        simp only [Act.put, List.setIfInBounds_toArray, List.set_cons_zero, List.set_cons_succ, i64_w, i32_w]
                        rfl
                       refine pure_ (i := 30) (N := some 152) (v := undef) (a' := ?_) #[true, true, true, true, true, true, true, true, true, true, true, true, true, true, true, true, true, true, true, true, true, true, true, true, true, true, true, true, true, true, true, false, false, false, false, false, false] rfl rfl (any_of HT_.out (by kernel_rfl)) (fun _ _ _ h => h) (Or.inr ⟨by rfl, rfl⟩) ?_ ?_
                       rotate_left
                       ·
                        simp only [Act.put, List.setIfInBounds_toArray, List.set_cons_zero, List.set_cons_succ, i64_w, i32_w]
                        rfl
                       refine pure_ (i := 31) (N := some 153) (v := undef) (a' := ?_) #[true, true, true, true, true, true, true, true, true, true, true, true, true, true, true, true, true, true, true, true, true, true, true, true, true, true, true, true, true, true, true, true, false, false, false, false, false] rfl rfl (any_of HT_.out (by kernel_rfl)) (fun _ _ _ h => h) (Or.inr ⟨by rfl, rfl⟩) ?_ ?_
                       rotate_left
                       ·
                        simp only [Act.put, List.setIfInBounds_toArray, List.set_cons_zero, List.set_cons_succ, i64_w, i32_w]
                        rfl
                       refine pure_ (i := 32) (N := some 154) (v := undef) (a' := ?_) #[true, true, true, true, true, true, true, true, true, true, true, true, true, true, true, true, true, true, true, true, true, true, true, true, true, true, true, true, true, true, true, true, true, false, false, false, false] rfl rfl (any_of HT_.out (by kernel_rfl)) (fun _ _ _ h => h) (Or.inr ⟨by rfl, rfl⟩) ?_ ?_
                       rotate_left
                       ·
                        simp only [Act.put, List.setIfInBounds_toArray, List.set_cons_zero, List.set_cons_succ, i64_w, i32_w]
                        rfl
                       refine pure_ (i := 33) (N := some 155) (v := undef) (a' := ?_) #[true, true, true, true, true, true, true, true, true, true, true, true, true, true, true, true, true, true, true, true, true, true, true, true, true, true, true, true, true, true, true, true, true, true, false, false, false] rfl rfl (any_of HT_.out (by kernel_rfl)) (fun _ _ _ h => h) (Or.inr ⟨by rfl, rfl⟩) ?_ ?_
                       rotate_left
                       ·
                        simp only [Act.put, List.setIfInBounds_toArray, List.set_cons_zero, List.set_cons_succ, i64_w, i32_w]
                        rfl
                       refine pure_ (i := 34) (N := some 156) (v := undef) (a' := ?_) #[true, true, true, true, true, true, true, true, true, true, true, true, true, true, true, true, true, true, true, true, true, true, true, true, true, true, true, true, true, true, true, true, true, true, true, false, false] rfl rfl (any_of HT_.out (by kernel_rfl)) (fun _ _ _ h => h) (Or.inr ⟨by rfl, rfl⟩) ?_ ?_
                       rotate_left
                       ·
                        simp only [Act.put, List.setIfInBounds_toArray, List.set_cons_zero, List.set_cons_succ, i64_w, i32_w]
                        rfl
                       refine pure_ (i := 35) (N := some 157) (v := undef) (a' := ?_) #[true, true, true, true, true, true, true, true, true, true, true, true, true, true, true, true, true, true, true, true, true, true, true, true, true, true, true, true, true, true, true, true, true, true, true, true, false] rfl rfl (any_of HT_.out (by kernel_rfl)) (fun _ _ _ h => h) (Or.inr ⟨by rfl, rfl⟩) ?_ ?_
                       rotate_left
                       ·
                        simp only [Act.put, List.setIfInBounds_toArray, List.set_cons_zero, List.set_cons_succ, i64_w, i32_w]
                        rfl
                       refine pure_ (i := 36) (N := some 158) (v := ?_) (a' := ?_) #[true, true, true, true, true, true, true, true, true, true, true, true, true, true, true, true, true, true, true, true, true, true, true, true, true, true, true, true, true, true, true, true, true, true, true, true, true] rfl rfl (any_of HT_.out (by kernel_rfl)) (fun _ _ _ h => h) (Or.inl ⟨by rfl, ?_⟩) ?_ ?_
                       rotate_left
                       ·
                        intro w'
                        go_simp
                        with_reducible rfl
                       rotate_left
                       ·
                        simp only [Act.put, List.setIfInBounds_toArray, List.set_cons_zero, List.set_cons_succ, i64_w, i32_w]
                        rfl
                       refine done_ (done_of HT_.out (by kernel_rfl)) ?_
                       try go_wp2
                       go_meet
                       case rel => exact ⟨_, (true), (by first | rfl | (simp; done) | (simp [*]; done)), H', ⟨by have := HJ3.out; have := HJ11.out; have := HK3.out; have := HJ30.out; have := HJ36.out; first | omega | exact Nat.le_refl _⟩, ⟨by (with_reducible repeat (first | apply Kd.R_alloc | apply Kd.R_drewN | apply Kd.R_drew)); exact HO_8.out⟩, ⟨by (with_reducible repeat (first | apply Kd.R_alloc | apply Kd.R_drewN | apply Kd.R_drew)); exact HO_9.out⟩, ⟨by (with_reducible repeat (first | apply Kd.R_alloc | apply Kd.R_drewN | apply Kd.R_drew)); exact HO_12.out⟩, ⟨by repeat (first | (with_reducible first | exact HB.out | apply below_alloc | apply pw_below_drewN | apply below_drew1) | exact HB.out)⟩⟩
                    ·
                     rw [if_neg c61] at H
                     exact absurd H (by simp)
                   ·
                    rw [if_neg c60] at H
                    exact absurd H (by simp)
                  ·
                   rw [if_neg c59] at H
                   exact absurd H (by simp)
                 case rest =>
                  clear HC58
                  (try clear p2); (try clear p3); (try clear q3); (try clear hx3); (try clear c5); (try clear c6); (try clear p6); (try clear p30); (try clear q30); (try clear hx30); (try clear c59); (try clear c60); (try clear c61); (try clear p64); (try clear c65); (try clear c65b0); (try clear c65b1); (try clear c66); (try clear c66b0); (try clear c68); (try clear c69); (try clear hx307_0); (try clear hx307_1); (try clear hx307_2); (try clear hx307_3); (try clear hx307_4); (try clear hx307_5); (try clear hx307_6); (try clear hx307_7); (try clear hx308_0); (try clear hx308_1); (try clear hx308_2); (try clear hx309_0); (try clear hx309_1); (try clear hx309_2); (try clear hx309_3); (try clear hx309_4); (try clear hx309_5); (try clear hx309_6); (try clear hx309_7); (try clear p307); (try clear p308); (try clear p309); (try clear q307); (try clear q308); (try clear q309)
                  obtain ⟨kq, x158_57, rfl, HA, HJ57, HO_8, HO_9, HO_12, HB⟩ := hcut
                  cases kq with
                  | zero => exact absurd HA.out (by simp [warplaw5_PlayOne.j5])
                  | succ kj57 =>
                   have H := HA.out
                   clear HA
                   simp only [warplaw5_PlayOne.j5] at H
                   by_cases c76 : x158_57 = true
                   ·
                    subst c76
                    have H1 : (some false) = some r := by rw [if_pos rfl] at H; exact H
                    clear H
                    have H := H1
                    clear H1
                    obtain rfl := Option.some.inj H
                    go_wp2
                    go_ret
                    exact ⟨by first | rfl | (simp [errW_none, errW_some] <;> rfl) | (simp [*, errW_none, errW_some] <;> rfl), by repeat (first | (with_reducible first | exact HB.out | apply below_alloc | apply pw_below_drewN | apply below_drew1) | exact HB.out)⟩
                   ·
                    replace c76 := Bool.eq_false_iff.mpr c76
                    subst c76
                    have H1 : (warplaw5_PlayOne.l0 kj57 t274 t283 x12_36 (wrap64 (x13_3 + 1))) = some r := by rw [if_neg (show ¬ (false = true) by decide)] at H; exact H
                    clear H
                    have H := H1
                    clear H1
                    have H' := Aside0.mk H
                    clear H
                    go_wp2
                    go_roundg kj57
                    case measure => have := HJ3.out; have := HJ11.out; have := HK3.out; have := HJ30.out; have := HJ36.out; have := HJ57.out; omega
                    case rel => exact ⟨(x12_36), (wrap64 (x13_3 + 1)), (by first | rfl | (simp; done) | (simp [*]; done)), H', ⟨by have := HJ3.out; have := HJ11.out; have := HK3.out; have := HJ30.out; have := HJ36.out; have := HJ57.out; omega⟩, ⟨by (with_reducible repeat (first | apply Kd.R_alloc | apply Kd.R_drewN | apply Kd.R_drew)); exact HO_8.out⟩, ⟨by (with_reducible repeat (first | apply Kd.R_alloc | apply Kd.R_drewN | apply Kd.R_drew)); exact HO_9.out⟩, ⟨by (with_reducible repeat (first | apply Kd.R_alloc | apply Kd.R_drewN | apply Kd.R_drew)); exact HO_12.out⟩, ⟨by repeat (first | (with_reducible first | exact HB.out | apply below_alloc | apply pw_below_drewN | apply below_drew1) | exact HB.out)⟩⟩
              ·
               rw [if_neg c36] at H
               exact absurd H (by simp)
             ·
              rw [if_neg c35] at H
              exact absurd H (by simp)
          ·
           rw [if_neg c29] at H
           exact absurd H (by simp)
         ·
          rw [if_neg c28] at H
          have c28b0 : decide (x13_3 < (t274.length : Int)) = false := decide_eq_false c28
          clear c28
          replace H := Option.bind_eq_some_iff.mp H
          obtain ⟨t312, A770, H⟩ := H
          replace H : (some t312) = some r := H
          have A77 := Aside0.mk A770
          clear A770
          obtain rfl := Option.some.inj H
          go_wp2_with (first | ((with_reducible refine gate_callee (f := 10) rfl ?_); refine goesL_ (some 159) rfl rfl Tryd.func10 (by kernel_rfl) rfl #[] rfl (by (try simp only [List.map_toArray, List.map_cons, List.map_nil]); first | done | rfl | (simp only [List.length_drop, List.length_take]; rfl)) ?_; (with_reducible refine (warplaw5_awake.calls k3  t312 _ A77.out).mono ?_); rintro e w78 ⟨rfl, hb⟩; refine ⟨_, rfl, ?_⟩; have n0_ := Aside0.mk (Kd.R_below (by (with_reducible repeat (first | apply Kd.R_alloc | apply Kd.R_drewN | apply Kd.R_drew)); exact HO_8.out) hb); have n1_ := Aside0.mk (Kd.R_below (by (with_reducible repeat (first | apply Kd.R_alloc | apply Kd.R_drewN | apply Kd.R_drew)); exact HO_9.out) hb); have n2_ := Aside0.mk (Kd.R_below (by (with_reducible repeat (first | apply Kd.R_alloc | apply Kd.R_drewN | apply Kd.R_drew)); exact HO_12.out) hb); have n3_ := Aside0.mk (below_step (by repeat (first | (with_reducible first | exact HB.out | apply below_alloc | apply pw_below_drewN | apply below_drew1) | exact HB.out)) hb); clear HO_8; clear HO_9; clear HO_12; clear HB; have HO_8 := n0_; have HO_9 := n1_; have HO_12 := n2_; have HB := n3_; clear n0_ n1_ n2_ n3_; (try clear hb); (try clear hb2); (try clear hk); (try clear hi)))
          go_ret
          exact ⟨by first | rfl | (simp [errW_none, errW_some] <;> rfl) | (simp [*, errW_none, errW_some] <;> rfl), by repeat (first | (with_reducible first | exact HB.out | apply below_alloc | apply pw_below_drewN | apply below_drew1) | exact HB.out)⟩
def warplaw5_PlayOne.Pure : Prop := ∀ (l0 : List Int) (l1 : List Int) (l2 : List Int), ((fun l : List Int => l.length ≤ maxLen ∧ ∀ x ∈ l, (fun n : Int => (Lit.int .u8 n).wf = true) x) l0) → ((fun l : List Int => l.length ≤ maxLen ∧ ∀ x ∈ l, (fun n : Int => (Lit.int .u8 n).wf = true) x) l1) → ((fun l : List Int => l.length ≤ maxLen ∧ ∀ x ∈ l, (fun n : Int => (Lit.int .i64 n).wf = true) x) l2) → ∃ k, warplaw5_PlayOne.f k l0 l1 l2 = some true
end Go.Proofs.YtmaiicpaalbcfaaDoor.P
end
section
namespace Go.Proofs.YtmaiicpaalbcfaaDoor.Pure
open Go.RowKit Go.Proofs.YtmaiicpaalbcfaaDoor.P Go.Proofs.YtmaiicpaalbcfaaDoorW.PrintWords Go.Proofs.YtmaiicpaalbcfaaDoorW.PrintLast Go.Proofs.YtmaiicpaalbcfaaDoor
theorem awake5_at : warplaw5_awake.f 5 = some true := by kernel_rfl
theorem awake5 : Ev (fun k => warplaw5_awake.f k) true := Ev.of warplaw5_awake.mono awake5_at
end Go.Proofs.YtmaiicpaalbcfaaDoor.Pure
end
section
namespace Go.Proofs.YtmaiicpaalbcfaaDoor
open Go.RowKit
def LT (p : List Int) (x y : Nat) : Prop := belowB p x y = true
theorem lt_iff (p : List Int) (x y : Nat) : LT p x y ↔ (p.getD x 0 < p.getD y 0 ∨ (p.getD x 0 = p.getD y 0 ∧ x < y)) := by
  simp [LT, belowB, lowB]
theorem lt_irrefl (p : List Int) (x : Nat) : ¬ LT p x x := by
  rw [lt_iff]
  omega
theorem lt_trans {p : List Int} {x y z : Nat} (h1 : LT p x y) (h2 : LT p y z) : LT p x z := by
  rw [lt_iff] at *
  omega
theorem lt_total (p : List Int) {x y : Nat} (h : x ≠ y) : LT p x y ∨ LT p y x := by
  simp only [lt_iff]
  omega
theorem lt_asymm {p : List Int} {x y : Nat} (h1 : LT p x y) (h2 : LT p y x) : False := lt_irrefl p x (lt_trans h1 h2)
theorem countP_le {q r : Nat → Bool} : ∀ (l : List Nat), (∀ z ∈ l, q z = true → r z = true) → l.countP q ≤ l.countP r
  | [], _ => by simp
  | z :: l, h => by
    have ih := countP_le l (fun y hy => h y (by simp [hy]))
    have h0 := h z (by simp)
    rw [List.countP_cons, List.countP_cons]
    by_cases e : q z = true
    · rw [if_pos e, if_pos (h0 e)]; omega
    · rw [if_neg e]
      split <;> omega
theorem countP_lt {q r : Nat → Bool} : ∀ (l : List Nat) (y : Nat), y ∈ l → q y = false → r y = true → (∀ z ∈ l, q z = true → r z = true) → l.countP q < l.countP r
  | [], _, h, _, _, _ => absurd h (by simp)
  | z :: l, y, hy, h1, h2, h => by
    rw [List.countP_cons, List.countP_cons]
    rcases List.mem_cons.1 hy with rfl | hy'
    · have := countP_le l (fun y hy => h y (by simp [hy]))
      simp only [h1, h2, if_true]
      simp
      omega
    · have ih := countP_lt l y hy' h1 h2 (fun y hy => h y (by simp [hy]))
      have h0 := h z (by simp)
      by_cases e : q z = true
      · rw [if_pos e, if_pos (h0 e)]; omega
      · rw [if_neg e]
        split <;> omega
def above (p : List Int) (n x : Nat) : Nat := (List.range n).countP fun (z : Nat) => belowB p x z
theorem above_lt {p : List Int} {n x y : Nat} (hy : y < n) (h : LT p x y) : above p n y < above p n x :=
  countP_lt (List.range n) y (by simpa using hy) (by have := lt_irrefl p y; unfold LT at this; simpa using this) h (fun _ _ hz => lt_trans h hz)
theorem above_n {p : List Int} {n x : Nat} (hx : x < n) : above p n x < n := by
  have h := countP_lt (q := fun (z : Nat) => belowB p x z) (r := fun _ => true) (List.range n) x (by simpa using hx) (by have := lt_irrefl p x; unfold LT at this; simpa using this) rfl (fun _ _ _ => rfl)
  have e : (List.range n).countP (fun _ => true) = n := by simp
  rw [e] at h
  exact h
def stepUp (up : List Int) (c : Nat) : Nat := if up.getD c 0 ≠ c ∧ 0 ≤ up.getD c 0 ∧ up.getD c 0 < up.length then (up.getD c 0).toNat else c
def climb (up : List Int) : Nat → Nat → Nat
  | 0, c => c
  | k + 1, c => climb up k (stepUp up c)
def rootN (up : List Int) (c : Nat) : Nat := climb up up.length c
theorem stepUp_lt {up : List Int} {c : Nat} (h : c < up.length) : stepUp up c < up.length := by unfold stepUp; split <;> omega
def Ok (up p : List Int) : Prop := up.length = p.length ∧ up.length ≤ 65536 ∧ ∀ j, j < up.length → ∃ y : Nat, up.getD j 0 = y ∧ y < up.length ∧ (y = j ∨ LT p j y)
theorem Ok.step {up p : List Int} (h : Ok up p) {c : Nat} (hc : c < up.length) : up.getD c 0 = stepUp up c ∧ (stepUp up c = c ∨ LT p c (stepUp up c)) := by
  obtain ⟨y, hy, h1, h2⟩ := h.2.2 c hc
  unfold stepUp
  rw [hy]
  by_cases e : (y : Int) = c
  · rw [if_neg (by omega)]
    exact ⟨e, .inl rfl⟩
  · rw [if_pos (by omega)]
    refine ⟨by simp, ?_⟩
    simp only [Int.toNat_natCast]
    rcases h2 with h2 | h2
    · omega
    · exact .inr h2
theorem climb_fix {up : List Int} {c : Nat} (h : stepUp up c = c) : ∀ k, climb up k c = c
  | 0 => rfl
  | k + 1 => by rw [climb, h, climb_fix h k]
theorem climb_lt {up : List Int} : ∀ (k : Nat) {c : Nat}, c < up.length → climb up k c < up.length
  | 0, _, h => h
  | k + 1, _, h => climb_lt k (stepUp_lt h)
theorem climb_ends {up p : List Int} (h : Ok up p) : ∀ (k : Nat) {c : Nat}, c < up.length → above p up.length c ≤ k → stepUp up (climb up k c) = climb up k c
  | 0, c, hc, ha => by
    rcases (h.step hc).2 with e | e
    · exact e
    · have := above_lt (stepUp_lt hc) e
      omega
  | k + 1, c, hc, ha => by
    rcases (h.step hc).2 with e | e
    · rw [climb_fix e]; exact e
    · rw [climb]
      exact climb_ends h k (stepUp_lt hc) (by have := above_lt (stepUp_lt hc) e; omega)
theorem root_fix {up p : List Int} (h : Ok up p) {c : Nat} (hc : c < up.length) : stepUp up (rootN up c) = rootN up c :=
  climb_ends h _ hc (Nat.le_of_lt (above_n hc))
theorem climb_succ (up : List Int) : ∀ (k c : Nat), climb up (k + 1) c = stepUp up (climb up k c)
  | 0, _ => rfl
  | k + 1, c => by rw [climb, climb_succ up k, climb]
theorem root_up {up p : List Int} (h : Ok up p) {c : Nat} (hc : c < up.length) : rootN up (stepUp up c) = rootN up c := by
  have : climb up (up.length + 1) c = rootN up c := by rw [climb_succ]; exact root_fix h hc
  rw [← this]
  rfl
theorem root_of_fix {up : List Int} {c : Nat} (h : stepUp up c = c) : rootN up c = c := climb_fix h _
theorem root_lt {up : List Int} {c : Nat} (hc : c < up.length) : rootN up c < up.length := climb_lt _ hc
theorem root_root {up p : List Int} (h : Ok up p) {c : Nat} (hc : c < up.length) : rootN up (rootN up c) = rootN up c := root_of_fix (root_fix h hc)
end Go.Proofs.YtmaiicpaalbcfaaDoor
end
section
namespace Go.Proofs.YtmaiicpaalbcfaaDoor
open Go.RowKit
structure Ord (p : List Int) (t : T) : Prop where
  a : t.is = false → (t.s = 2 ∨ t.s = 3) → LT p t.u.toNat t.w.toNat
  b : t.is = false → t.s = 3 → LT p t.w.toNat t.r.toNat
  c : t.is = false → (t.s = 5 ∨ t.s = 6) → LT p t.v.toNat t.w.toNat
  d : t.is = false → t.s = 6 → LT p t.w.toNat t.r.toNat
  e : t.is = false → (t.s = 7 ∨ t.s = 8) → t.u ≠ t.v
theorem at_nat (up : List Int) (j : Nat) : at_ up (j : Int) = up.getD j 0 := by simp [at_]
theorem Ok.at {up p : List Int} (h : Ok up p) {x : Int} (hx : In up.length x) : In up.length (at_ up x) ∧ (at_ up x ≠ x → LT p x.toNat (at_ up x).toNat) := by
  obtain ⟨j, rfl⟩ := Int.eq_ofNat_of_zero_le hx.1
  have hj : j < up.length := by have := hx.2; omega
  have hs := h.step hj
  rw [at_nat, hs.1]
  have := stepUp_lt hj
  refine ⟨⟨by omega, by omega⟩, fun hne => ?_⟩
  simp only [Int.toNat_natCast]
  rcases hs.2 with e | e
  · omega
  · exact e
theorem getD_set (l : List Int) (i j : Nat) (x : Int) (hj : j < l.length) : (l.set i x).getD j 0 = if i = j then x else l.getD j 0 := by
  rw [List.getD_eq_getElem?_getD, List.getD_eq_getElem?_getD, List.getElem?_set]
  split
  · rename_i h
    subst h
    rw [if_pos hj]
    rfl
  · rfl
theorem Ok.set {up p : List Int} (h : Ok up p) {x y : Nat} (hy : y < up.length) (hl : LT p x y) : Ok (up.set x (y : Int)) p := by
  refine ⟨by rw [List.length_set]; exact h.1, by rw [List.length_set]; exact h.2.1, fun j hj => ?_⟩
  rw [List.length_set] at hj ⊢
  rw [getD_set _ _ _ _ hj]
  split
  · rename_i e
    subst e
    exact ⟨y, rfl, hy, .inr hl⟩
  · exact h.2.2 j hj
theorem in_nat {n : Nat} {x : Int} (h : In n x) : ∃ j : Nat, x = (j : Int) ∧ j < n := by
  obtain ⟨j, rfl⟩ := Int.eq_ofNat_of_zero_le h.1
  exact ⟨j, rfl, by have := h.2; omega⟩
theorem Ok.swap {up p : List Int} (h : Ok up p) {x was now : Int} (hx : In up.length x) (hn : In up.length now) (hl : LT p x.toNat now.toNat) : Ok (swapL up x was now) p := by
  obtain ⟨i, rfl, _⟩ := in_nat hx
  obtain ⟨j, rfl, hj⟩ := in_nat hn
  unfold swapL
  split
  · exact h.set hj hl
  · exact h
theorem swapL_len (up : List Int) (a b c : Int) : (swapL up a b c).length = up.length := by unfold swapL; split <;> simp
structure Keeps (n : Int) (p : List Int) (t : T) : Prop where
  fit : Fit n t
  ord : Ord p t
theorem keep_first {n : Int} {p : List Int} {t : T} (k0 : 1 ≤ t.k) (k1 : t.k ≤ 3) (hu : In n t.u) (hv : t.k ≠ 1 → In n t.v) (hs : t.s = 1 ∨ t.s = 2) (hw : t.s = 2 → In n t.w) : Keeps n p (firstT t) := by
  unfold firstT
  split
  · rename_i hk
    refine ⟨⟨k0, k1, hu, hv, ?_, ?_, ?_, ?_, ?_, ?_, ?_⟩, ⟨?_, ?_, ?_, ?_, ?_⟩⟩ <;> simp only [finish] <;> intros <;> first | omega | (exact hw (by omega)) | contradiction
  · rename_i hk
    refine ⟨⟨k0, k1, hu, hv, ?_, ?_, ?_, ?_, ?_, ?_, ?_⟩, ⟨?_, ?_, ?_, ?_, ?_⟩⟩ <;> simp only <;> intros <;> omega
theorem keep_second {n : Int} {p : List Int} {t : T} (k0 : 1 ≤ t.k) (k1 : t.k ≤ 3) (kk : t.k ≠ 1) (hu : In n t.u) (hv : t.k ≠ 1 → In n t.v) (hs : t.s = 4 ∨ t.s = 5) (hw : t.s = 5 → In n t.w) : Keeps n p (secondT t) := by
  unfold secondT
  split
  · refine ⟨⟨k0, k1, hu, hv, ?_, ?_, ?_, ?_, ?_, ?_, ?_⟩, ⟨?_, ?_, ?_, ?_, ?_⟩⟩ <;> simp only [finish] <;> intros <;> first | omega | (exact hw (by omega)) | contradiction
  · rename_i hne
    by_cases h2 : t.k = 2
    · rw [if_pos h2]
      refine ⟨⟨k0, k1, hu, hv, ?_, ?_, ?_, ?_, ?_, ?_, ?_⟩, ⟨?_, ?_, ?_, ?_, ?_⟩⟩ <;> simp only <;> intros <;> first | omega | exact hne
    · rw [if_neg h2]
      refine ⟨⟨k0, k1, hu, hv, ?_, ?_, ?_, ?_, ?_, ?_, ?_⟩, ⟨?_, ?_, ?_, ?_, ?_⟩⟩ <;> simp only <;> intros <;> first | omega | exact hne
theorem step_keeps {up p : List Int} {t : T} (h : Ok up p) (hk : Keeps up.length p t) : Ok (stepL up p t).1 p ∧ (stepL up p t).1.length = up.length ∧ Keeps up.length p (stepL up p t).2 := by
  obtain ⟨k, x, y, s, u, v, w, r, is, res⟩ := t
  obtain ⟨⟨k0, k1, u0, v0, s0, s1, k2, k7, k8, w0, r0⟩, ⟨oa, ob, oc, od, oe⟩⟩ := hk
  simp only at k0 k1 u0 v0 s0 s1 k2 k7 k8 w0 r0 oa ob oc od oe
  rcases is with _ | _
  · have au := h.at u0
    have av := fun hk => h.at (v0 hk)
    rcases (show s = 1 ∨ s = 2 ∨ s = 3 ∨ s = 4 ∨ s = 5 ∨ s = 6 ∨ s = 7 ∨ s = 8 by omega) with rfl | rfl | rfl | rfl | rfl | rfl | rfl | rfl
    · refine ⟨by simpa [stepL] using h, by simp [stepL], ?_⟩
      simp only [stepL, if_neg Bool.false_ne_true, if_true]
      split
      · exact keep_first k0 k1 u0 v0 (.inl rfl) (by intro h; simp at h)
      · rename_i hne
        refine ⟨⟨k0, k1, u0, v0, ?_, ?_, ?_, ?_, ?_, ?_, ?_⟩, ⟨?_, ?_, ?_, ?_, ?_⟩⟩ <;> simp only <;> intros <;> first | omega | exact au.1 | exact au.2 hne
    · have w1 := w0 (by omega)
      have aw := h.at w1
      refine ⟨by simpa [stepL] using h, by simp [stepL], ?_⟩
      simp only [stepL, if_neg Bool.false_ne_true, if_true]
      simp only [show ((2 : Int) = 1) = False by simp, if_false]
      split
      · exact keep_first k0 k1 w1 v0 (.inr rfl) (fun _ => w1)
      · rename_i hne
        refine ⟨⟨k0, k1, u0, v0, ?_, ?_, ?_, ?_, ?_, ?_, ?_⟩, ⟨?_, ?_, ?_, ?_, ?_⟩⟩ <;> simp only <;> intros <;> first | omega | exact w1 | exact aw.1 | exact oa rfl (.inl rfl) | exact aw.2 hne
    · have w1 := w0 (by omega)
      have r1 := r0 (by omega)
      have hl := lt_trans (oa rfl (.inr rfl)) (ob rfl rfl)
      refine ⟨by simpa [stepL] using h.swap u0 r1 hl, by simp [stepL, swapL_len], ?_⟩
      simp only [stepL, if_neg Bool.false_ne_true, show ((3 : Int) = 1) = False by simp, show ((3 : Int) = 2) = False by simp, if_false, if_true]
      refine ⟨⟨k0, k1, w1, v0, ?_, ?_, ?_, ?_, ?_, ?_, ?_⟩, ⟨?_, ?_, ?_, ?_, ?_⟩⟩ <;> simp only <;> intros <;> first | omega
    · refine ⟨by simpa [stepL] using h, by simp [stepL], ?_⟩
      simp only [stepL, if_neg Bool.false_ne_true, show ((4 : Int) = 1) = False by simp, show ((4 : Int) = 2) = False by simp, show ((4 : Int) = 3) = False by simp, if_false, if_true]
      split
      · exact keep_second k0 k1 (k2 (by omega)) u0 v0 (.inl rfl) (by intro h; simp at h)
      · rename_i hne
        refine ⟨⟨k0, k1, u0, v0, ?_, ?_, ?_, ?_, ?_, ?_, ?_⟩, ⟨?_, ?_, ?_, ?_, ?_⟩⟩ <;> simp only <;> intros <;> first | omega | exact (av (k2 (by omega))).1 | exact (av (k2 (by omega))).2 hne | exact k2 (by omega)
    · have w1 := w0 (by omega)
      have aw := h.at w1
      refine ⟨by simpa [stepL] using h, by simp [stepL], ?_⟩
      simp only [stepL, if_neg Bool.false_ne_true, show ((5 : Int) = 1) = False by simp, show ((5 : Int) = 2) = False by simp, show ((5 : Int) = 3) = False by simp, show ((5 : Int) = 4) = False by simp, if_false, if_true]
      split
      · exact keep_second k0 k1 (k2 (by omega)) u0 (fun _ => w1) (.inr rfl) (fun _ => w1)
      · rename_i hne
        refine ⟨⟨k0, k1, u0, v0, ?_, ?_, ?_, ?_, ?_, ?_, ?_⟩, ⟨?_, ?_, ?_, ?_, ?_⟩⟩ <;> simp only <;> intros <;> first | omega | exact w1 | exact aw.1 | exact oc rfl (.inl rfl) | exact aw.2 hne | exact k2 (by omega)
    · have w1 := w0 (by omega)
      have r1 := r0 (by omega)
      have hl := lt_trans (oc rfl (.inr rfl)) (od rfl rfl)
      refine ⟨by simpa [stepL] using h.swap (v0 (k2 (by omega))) r1 hl, by simp [stepL, swapL_len], ?_⟩
      simp only [stepL, if_neg Bool.false_ne_true, show ((6 : Int) = 1) = False by simp, show ((6 : Int) = 2) = False by simp, show ((6 : Int) = 3) = False by simp, show ((6 : Int) = 4) = False by simp, show ((6 : Int) = 5) = False by simp, if_false, if_true]
      refine ⟨⟨k0, k1, u0, (fun _ => w1), ?_, ?_, ?_, ?_, ?_, ?_, ?_⟩, ⟨?_, ?_, ?_, ?_, ?_⟩⟩ <;> simp only <;> intros <;> first | omega | exact k2 (by omega)
    · refine ⟨by simpa [stepL] using h, by simp [stepL], ?_⟩
      simp only [stepL, if_neg Bool.false_ne_true, show ((7 : Int) = 1) = False by simp, show ((7 : Int) = 2) = False by simp, show ((7 : Int) = 3) = False by simp, show ((7 : Int) = 4) = False by simp, show ((7 : Int) = 5) = False by simp, show ((7 : Int) = 6) = False by simp, if_false, if_true]
      split
      · refine ⟨⟨k0, k1, u0, v0, ?_, ?_, ?_, ?_, ?_, ?_, ?_⟩, ⟨?_, ?_, ?_, ?_, ?_⟩⟩ <;> simp only [finish] <;> intros <;> first | omega | contradiction | exact k2 (by omega) | exact k7 rfl
      · refine ⟨⟨k0, k1, u0, v0, ?_, ?_, ?_, ?_, ?_, ?_, ?_⟩, ⟨?_, ?_, ?_, ?_, ?_⟩⟩ <;> simp only <;> intros <;> first | omega | exact au.1
    · obtain ⟨i, rfl, hi⟩ := in_nat u0
      obtain ⟨j, rfl, hj⟩ := in_nat (v0 (k2 (by omega)))
      have hne := oe rfl (.inr rfl)
      have hij : i ≠ j := fun e => hne (by rw [e])
      simp only [stepL, if_neg Bool.false_ne_true, show ((8 : Int) = 1) = False by simp, show ((8 : Int) = 2) = False by simp, show ((8 : Int) = 3) = False by simp, show ((8 : Int) = 4) = False by simp, show ((8 : Int) = 5) = False by simp, show ((8 : Int) = 6) = False by simp, show ((8 : Int) = 7) = False by simp, if_false]
      have K1 : Keeps up.length p (finish ⟨k, x, y, 8, (i : Int), (j : Int), w, r, false, res⟩ 1) := by
        refine ⟨⟨k0, k1, u0, v0, ?_, ?_, ?_, ?_, ?_, ?_, ?_⟩, ⟨?_, ?_, ?_, ?_, ?_⟩⟩ <;> simp only [finish] <;> intros <;> first | omega | contradiction | exact k2 (by omega) | exact k8 rfl
      have K2 : Keeps up.length p ⟨k, x, y, 1, (i : Int), (j : Int), w, r, false, res⟩ := by
        refine ⟨⟨k0, k1, u0, v0, ?_, ?_, ?_, ?_, ?_, ?_, ?_⟩, ⟨?_, ?_, ?_, ?_, ?_⟩⟩ <;> simp only <;> intros <;> first | omega
      split
      · rename_i hb
        split
        · exact ⟨by simpa using h.set hj hb, by simp, K1⟩
        · exact ⟨h, rfl, K2⟩
      · rename_i hb
        split
        · exact ⟨by simpa using h.set hi ((lt_total p hij).resolve_left hb), by simp, K1⟩
        · exact ⟨h, rfl, K2⟩
  · refine ⟨by simpa [stepL] using h, by simp [stepL], ?_⟩
    simp only [stepL, if_true]
    exact ⟨⟨k0, k1, u0, v0, s0, s1, k2, k7, k8, w0, r0⟩, ⟨oa, ob, oc, od, oe⟩⟩
end Go.Proofs.YtmaiicpaalbcfaaDoor
end
section
namespace Go.Proofs.YtmaiicpaalbcfaaDoor
open Go.RowKit
theorem above_ind {p : List Int} {n : Nat} {M : Nat → Prop} (h : ∀ x, x < n → (∀ y, y < n → LT p x y → M y) → M x) : ∀ x, x < n → M x := by
  have key : ∀ k x, x < n → above p n x ≤ k → M x := by
    intro k
    induction k with
    | zero =>
      intro x hx ha
      exact h x hx (fun y hy hl => by have := above_lt hy hl; omega)
    | succ k ih =>
      intro x hx ha
      exact h x hx (fun y hy hl => ih y hy (by have := above_lt hy hl; omega))
  exact fun x hx => key _ x hx (Nat.le_refl _)
theorem step_getD {up p : List Int} (h : Ok up p) {c : Nat} (hc : c < up.length) : up.getD c 0 = (stepUp up c : Int) := (h.step hc).1
theorem stepUp_of {up p : List Int} (h : Ok up p) {c y : Nat} (hc : c < up.length) (e : up.getD c 0 = (y : Int)) : stepUp up c = y := by
  have := step_getD h hc
  rw [e] at this
  omega
theorem root_above {up p : List Int} (h : Ok up p) : ∀ x, x < up.length → (rootN up x = x ∨ LT p x (rootN up x)) :=
  above_ind (p := p) (fun x hx ih => by
    rcases (h.step hx).2 with e | e
    · exact .inl (root_of_fix e)
    · rw [← root_up h hx]
      rcases ih _ (stepUp_lt hx) e with e2 | e2
      · rw [e2]
        exact .inr e
      · exact .inr (lt_trans e e2))
theorem root_split {up p : List Int} (h : Ok up p) {u w r : Nat} (hu : u < up.length) (hr : r < up.length) (he : up.getD u 0 = (w : Int)) (h1 : LT p u w) (h2 : LT p w r) (hroot : rootN up r = rootN up w) :
    ∀ x, x < up.length → rootN (up.set u (r : Int)) x = rootN up x := by
  have ho := h.set hr (lt_trans h1 h2)
  have hl : (up.set u (r : Int)).length = up.length := by simp
  have hw : stepUp up u = w := stepUp_of h hu he
  refine above_ind (p := p) (fun x hx ih => ?_)
  have hx' : x < (up.set u (r : Int)).length := by omega
  by_cases e : u = x
  · subst e
    have hs : stepUp (up.set u (r : Int)) u = r := stepUp_of ho hx' (by rw [getD_set _ _ _ _ hu, if_pos rfl])
    rw [← root_up ho hx', hs, ih r hr (lt_trans h1 h2), hroot, ← hw, root_up h hu]
  · have hs : stepUp (up.set u (r : Int)) x = stepUp up x := stepUp_of ho hx' (by rw [getD_set _ _ _ _ hx, if_neg e]; exact step_getD h hx)
    rcases (h.step hx).2 with f | f
    · rw [root_of_fix f, root_of_fix (by rw [hs]; exact f)]
    · rw [← root_up ho hx', hs, ih _ (stepUp_lt hx) f, root_up h hx]
theorem root_link {up p : List Int} (h : Ok up p) {a b : Nat} (ha : a < up.length) (hb : b < up.length) (he : up.getD a 0 = (a : Int)) (h1 : LT p a b) :
    ∀ x, x < up.length → rootN (up.set a (b : Int)) x = if rootN up x = a then rootN up b else rootN up x := by
  have ho := h.set hb h1
  have hl : (up.set a (b : Int)).length = up.length := by simp
  have hfix : stepUp up a = a := stepUp_of h ha he
  have hra : rootN up a = a := root_of_fix hfix
  have hrb : rootN up b ≠ a := by
    intro e
    rcases root_above h b hb with f | f
    · rw [e] at f
      rw [← f] at h1
      exact lt_irrefl p _ h1
    · rw [e] at f
      exact lt_asymm h1 f
  refine above_ind (p := p) (fun x hx ih => ?_)
  have hx' : x < (up.set a (b : Int)).length := by omega
  by_cases e : a = x
  · subst e
    have hs : stepUp (up.set a (b : Int)) a = b := stepUp_of ho hx' (by rw [getD_set _ _ _ _ ha, if_pos rfl])
    rw [← root_up ho hx', hs, ih b hb h1, if_neg hrb, hra, if_pos rfl]
  · have hs : stepUp (up.set a (b : Int)) x = stepUp up x := stepUp_of ho hx' (by rw [getD_set _ _ _ _ hx, if_neg e]; exact step_getD h hx)
    rcases (h.step hx).2 with f | f
    · rw [root_of_fix f, root_of_fix (by rw [hs]; exact f), if_neg (Ne.symm e)]
    · rw [← root_up ho hx', hs, ih _ (stepUp_lt hx) f, root_up h hx]
structure RI (up : List Int) (t : T) : Prop where
  a : t.is = false → (t.s = 2 ∨ t.s = 3) → rootN up t.w.toNat = rootN up t.u.toNat
  b : t.is = false → t.s = 3 → rootN up t.r.toNat = rootN up t.w.toNat
  c : t.is = false → (t.s = 5 ∨ t.s = 6) → rootN up t.w.toNat = rootN up t.v.toNat
  d : t.is = false → t.s = 6 → rootN up t.r.toNat = rootN up t.w.toNat
def Goes (n : Nat) (up up' : List Int) : Prop := ∃ f : Nat → Nat, ∀ x, x < n → rootN up' x = f (rootN up x)
theorem Goes.refl (n : Nat) (up : List Int) : Goes n up up := ⟨id, fun _ _ => rfl⟩
theorem Goes.same {n : Nat} {up up' : List Int} (h : Goes n up up') {x y : Nat} (hx : x < n) (hy : y < n) (e : rootN up x = rootN up y) : rootN up' x = rootN up' y := by
  obtain ⟨f, hf⟩ := h
  rw [hf x hx, hf y hy, e]
theorem RI.goes {n : Nat} {up up' : List Int} {t : T} (h : RI up t) (hf : Fit n t) (hg : Goes n up up') : RI up' t := by
  have lt : ∀ {x : Int}, In n x → x.toNat < n := fun {x} hx => by have := hx.1; have := hx.2; omega
  refine ⟨fun h1 h2 => hg.same (lt (hf.w0 (by omega))) (lt hf.u0) (h.a h1 h2), fun h1 h2 => hg.same (lt (hf.r0 (by omega))) (lt (hf.w0 (by omega))) (h.b h1 h2),
    fun h1 h2 => hg.same (lt (hf.w0 (by omega))) (lt (hf.v0 (hf.k2 (by omega)))) (h.c h1 h2), fun h1 h2 => hg.same (lt (hf.r0 (by omega))) (lt (hf.w0 (by omega))) (h.d h1 h2)⟩
end Go.Proofs.YtmaiicpaalbcfaaDoor
end
