/-
The plain Lean functions of Go functions of this seat, and proofs that the calls of the machine come to them; no condition beside those named in each theorem.
-/
import Derived.Test.YtbkdnenlffiaeaaDoorPx0
import Derived.Test.YtbkdnenlffiaeaaDoorPx3
import Derived.Test.YtbkdnenlffiaeaaDoorPx4
import Derived.Test.YtbkdnenlffiaeaaDoorPx5
namespace Go.Proofs.YtbkdnenlffiaeaaDoor.P
open Go.RowKit Go.Proofs.YtbkdnenlffiaeaaDoorW.PrintWords Go.Proofs.YtbkdnenlffiaeaaDoorW.PrintLast Go.Proofs.YtbkdnenlffiaeaaDoorW.PrintMore
attribute [local go_sem] max2_int min2_int max_two min_two max_three min_three max_four min_four   -- for this text's walks alone
set_option linter.unusedVariables false
set_option linter.unusedSimpArgs false

/-! ### warplaw2_PickRuns: function 4 -/
mutual
def warplaw2_PickRuns.j0 : Nat → List Int → List (List Bool) → Bool → Option (Bool)
 | 0, _, _, _ => none
 | k + 1, x0, x1, x18 => if x18 = true then ((warplaw2_awake.f k).bind fun t204 => (some t204)) else ((pick_Start.f x0).bind fun bt205 => ((warpref1_Start.f x0).bind fun bt211 => (warplaw2_PickRuns.l0 k x1 0 bt205.1 bt205.2.1 bt205.2.2 bt211.1 bt211.2.1 bt211.2.2)))
def warplaw2_PickRuns.l0 : Nat → List (List Bool) → Int → List Int → Int → Int → List Int → Int → Int → Option (Bool)
 | 0, _, _, _, _, _, _, _, _ => none
 | k + 1, x1, x7, x211000, x211001, x211002, x217000, x217001, x217002 => if x7 < (x1.length : Int) then (if 0 ≤ x7 then (if ((rd_L3 x1 x7).length : Int) > 70 then ((warplaw2_awake.f k).bind fun t218 => (some t218)) else ((pick_Next.f k x211000 x211001 x211002 (rd_L3 x1 x7)).bind fun bt220 => ((warpref1_Pick.f k x217000 x217001 x217002 (rd_L3 x1 x7)).bind fun bt228 => (if bt220.1 = bt228.1 then ((warplaw2_same.f k bt220.2.1 bt220.2.2.1 bt220.2.2.2 bt228.2.1 bt228.2.2.1 bt228.2.2.2).bind fun t235 => (if t235 = true then (if bt220.1 ≥ 0 then (if bt220.1 ≥ ((rd_L3 x1 x7).length : Int) then (warplaw2_PickRuns.j2 k x1 x7 true bt220.2.1 bt220.2.2.1 bt220.2.2.2 bt228.1 bt228.2.1 bt228.2.2.1 bt228.2.2.2) else (if 0 ≤ bt220.1 then (if bt220.1 < ((rd_L3 x1 x7).length : Int) then (warplaw2_PickRuns.j2 k x1 x7 (!(rdOf false (rd_L3 x1 x7) bt220.1)) bt220.2.1 bt220.2.2.1 bt220.2.2.2 bt228.1 bt228.2.1 bt228.2.2.1 bt228.2.2.2) else (none)) else (none))) else (warplaw2_PickRuns.j2 k x1 x7 false bt220.2.1 bt220.2.2.1 bt220.2.2.2 bt228.1 bt228.2.1 bt228.2.2.1 bt228.2.2.2)) else (warplaw2_PickRuns.j2 k x1 x7 true bt220.2.1 bt220.2.2.1 bt220.2.2.2 bt228.1 bt228.2.1 bt228.2.2.1 bt228.2.2.2))) else (warplaw2_PickRuns.j2 k x1 x7 true bt220.2.1 bt220.2.2.1 bt220.2.2.2 bt228.1 bt228.2.1 bt228.2.2.1 bt228.2.2.2))))) else (none)) else ((warplaw2_awake.f k).bind fun t239 => (some t239))
def warplaw2_PickRuns.j2 : Nat → List (List Bool) → Int → Bool → List Int → Int → Int → Int → List Int → Int → Int → Option (Bool)
 | 0, _, _, _, _, _, _, _, _, _, _ => none
 | k + 1, x1, x7, x85, x227000, x227001, x227002, x235000, x235001, x235002, x235003 => if x85 = true then (some false) else (warplaw2_PickRuns.l0 k x1 (wrap64 (x7 + 1)) x227000 x227001 x227002 x235001 x235002 x235003)
end
def warplaw2_PickRuns.f (k : Nat) (l0 : List Int) (l1 : List (List Bool)) : Option (Bool) := if (l0.length : Int) > 60 then (warplaw2_PickRuns.j0 k l0 l1 true) else (warplaw2_PickRuns.j0 k l0 l1 (decide ((l1.length : Int) > 80)))
theorem warplaw2_PickRuns.mono_l : ∀ k, (∀ y0 y1 y2, LeO (warplaw2_PickRuns.j0 k y0 y1 y2) (warplaw2_PickRuns.j0 (k + 1) y0 y1 y2)) ∧ (∀ y0 y1 y2 y3 y4 y5 y6 y7, LeO (warplaw2_PickRuns.l0 k y0 y1 y2 y3 y4 y5 y6 y7) (warplaw2_PickRuns.l0 (k + 1) y0 y1 y2 y3 y4 y5 y6 y7)) ∧ (∀ y0 y1 y2 y3 y4 y5 y6 y7 y8 y9, LeO (warplaw2_PickRuns.j2 k y0 y1 y2 y3 y4 y5 y6 y7 y8 y9) (warplaw2_PickRuns.j2 (k + 1) y0 y1 y2 y3 y4 y5 y6 y7 y8 y9))
 | 0 => ⟨fun _ _ _ r h => by simp [warplaw2_PickRuns.j0] at h, fun _ _ _ _ _ _ _ _ r h => by simp [warplaw2_PickRuns.l0] at h, fun _ _ _ _ _ _ _ _ _ _ r h => by simp [warplaw2_PickRuns.j2] at h⟩
 | k + 1 => by
  obtain ⟨ih0, ih1, ih2⟩ := warplaw2_PickRuns.mono_l k
  refine ⟨?_, ?_, ?_⟩
  ·
   intro y0 y1 y2
   unfold warplaw2_PickRuns.j0
   repeat' first
   | (with_reducible exact ih0 _ _ _)
   | (with_reducible exact ih1 _ _ _ _ _ _ _ _)
   | (with_reducible exact ih2 _ _ _ _ _ _ _ _ _ _)
   | (with_reducible exact pick_Next.mono _ _ _ _ _)
   | (with_reducible exact warplaw2_awake.mono _)
   | (with_reducible exact warplaw2_same.mono _ _ _ _ _ _ _)
   | (with_reducible exact warpref1_Pick.mono _ _ _ _ _)
   | (with_reducible exact LeO.refl _)
   | (with_reducible exact LeO.none _)
   | (with_reducible refine LeO.ite ?_ ?_)
   | (with_reducible refine LeO.bind ?_ (fun _ => ?_))
   | exact ih0 _ _ _
   | exact ih1 _ _ _ _ _ _ _ _
   | exact ih2 _ _ _ _ _ _ _ _ _ _
   | exact pick_Next.mono _ _ _ _ _
   | exact warplaw2_awake.mono _
   | exact warplaw2_same.mono _ _ _ _ _ _ _
   | exact warpref1_Pick.mono _ _ _ _ _
   | exact LeO.none _
   | refine LeO.ite ?_ ?_
   | refine LeO.bind ?_ (fun _ => ?_)
  ·
   intro y0 y1 y2 y3 y4 y5 y6 y7
   unfold warplaw2_PickRuns.l0
   repeat' first
   | (with_reducible exact ih0 _ _ _)
   | (with_reducible exact ih1 _ _ _ _ _ _ _ _)
   | (with_reducible exact ih2 _ _ _ _ _ _ _ _ _ _)
   | (with_reducible exact pick_Next.mono _ _ _ _ _)
   | (with_reducible exact warplaw2_awake.mono _)
   | (with_reducible exact warplaw2_same.mono _ _ _ _ _ _ _)
   | (with_reducible exact warpref1_Pick.mono _ _ _ _ _)
   | (with_reducible exact LeO.refl _)
   | (with_reducible exact LeO.none _)
   | (with_reducible refine LeO.ite ?_ ?_)
   | (with_reducible refine LeO.bind ?_ (fun _ => ?_))
   | exact ih0 _ _ _
   | exact ih1 _ _ _ _ _ _ _ _
   | exact ih2 _ _ _ _ _ _ _ _ _ _
   | exact pick_Next.mono _ _ _ _ _
   | exact warplaw2_awake.mono _
   | exact warplaw2_same.mono _ _ _ _ _ _ _
   | exact warpref1_Pick.mono _ _ _ _ _
   | exact LeO.none _
   | refine LeO.ite ?_ ?_
   | refine LeO.bind ?_ (fun _ => ?_)
  ·
   intro y0 y1 y2 y3 y4 y5 y6 y7 y8 y9
   unfold warplaw2_PickRuns.j2
   repeat' first
   | (with_reducible exact ih0 _ _ _)
   | (with_reducible exact ih1 _ _ _ _ _ _ _ _)
   | (with_reducible exact ih2 _ _ _ _ _ _ _ _ _ _)
   | (with_reducible exact pick_Next.mono _ _ _ _ _)
   | (with_reducible exact warplaw2_awake.mono _)
   | (with_reducible exact warplaw2_same.mono _ _ _ _ _ _ _)
   | (with_reducible exact warpref1_Pick.mono _ _ _ _ _)
   | (with_reducible exact LeO.refl _)
   | (with_reducible exact LeO.none _)
   | (with_reducible refine LeO.ite ?_ ?_)
   | (with_reducible refine LeO.bind ?_ (fun _ => ?_))
   | exact ih0 _ _ _
   | exact ih1 _ _ _ _ _ _ _ _
   | exact ih2 _ _ _ _ _ _ _ _ _ _
   | exact pick_Next.mono _ _ _ _ _
   | exact warplaw2_awake.mono _
   | exact warplaw2_same.mono _ _ _ _ _ _ _
   | exact warpref1_Pick.mono _ _ _ _ _
   | exact LeO.none _
   | refine LeO.ite ?_ ?_
   | refine LeO.bind ?_ (fun _ => ?_)
theorem warplaw2_PickRuns.mono : ∀ a0 a1 k, LeO (warplaw2_PickRuns.f k a0 a1) (warplaw2_PickRuns.f (k + 1) a0 a1) := by
 intro a0 a1 k
 obtain ⟨ih0, ih1, ih2⟩ := warplaw2_PickRuns.mono_l k
 unfold warplaw2_PickRuns.f
 repeat' first
  | (with_reducible exact ih0 _ _ _)
  | (with_reducible exact ih1 _ _ _ _ _ _ _ _)
  | (with_reducible exact ih2 _ _ _ _ _ _ _ _ _ _)
  | (with_reducible exact pick_Next.mono _ _ _ _ _)
  | (with_reducible exact warplaw2_awake.mono _)
  | (with_reducible exact warplaw2_same.mono _ _ _ _ _ _ _)
  | (with_reducible exact warpref1_Pick.mono _ _ _ _ _)
  | (with_reducible exact LeO.refl _)
  | (with_reducible exact LeO.none _)
  | (with_reducible refine LeO.ite ?_ ?_)
  | (with_reducible refine LeO.bind ?_ (fun _ => ?_))
  | exact ih0 _ _ _
  | exact ih1 _ _ _ _ _ _ _ _
  | exact ih2 _ _ _ _ _ _ _ _ _ _
  | exact pick_Next.mono _ _ _ _ _
  | exact warplaw2_awake.mono _
  | exact warplaw2_same.mono _ _ _ _ _ _ _
  | exact warpref1_Pick.mono _ _ _ _ _
  | exact LeO.none _
  | refine LeO.ite ?_ ?_
  | refine LeO.bind ?_ (fun _ => ?_)
def warplaw2_PickRuns.T10 : Bool × List (List Nat × List Nat) := (true, [([], []), ([], []), ([], []), ([1, 2], [1, 2]), ([3], [3]), ([0, 4], [0, 4]), ([5], [5]), ([6], [6]), ([6], [6]), ([], []), ([7, 5, 0, 1, 2, 3, 4, 5, 6, 7, 9], [7]), ([9, 8, 10, 0, 1, 2, 3, 4, 5, 6, 7, 8, 9, 10], [8, 9])])
def warplaw2_PickRuns.B10 : List Nat := [0, 0, 0, 6, 14, 31, 63, 127, 127, 0, 767, 2047]
theorem warplaw2_PickRuns.tab10 : rtab .any (opsOf Tryd.f4 10) = warplaw2_PickRuns.T10 := by kernel_rfl
theorem warplaw2_PickRuns.bits10 : waitsOk warplaw2_PickRuns.T10.2 warplaw2_PickRuns.B10 = true := by kernel_rfl
def warplaw2_PickRuns.T11 : Bool × List (List Nat × List Nat) := (true, [([], []), ([], []), ([], []), ([1, 2], [1, 2]), ([3], [3]), ([0, 4], [0, 4]), ([], []), ([6, 5, 5, 0, 1, 2, 3, 4, 5, 6], [5, 6])])
def warplaw2_PickRuns.B11 : List Nat := [0, 0, 0, 6, 14, 31, 0, 127]
theorem warplaw2_PickRuns.tab11 : rtab .any (opsOf Tryd.f4 11) = warplaw2_PickRuns.T11 := by kernel_rfl
theorem warplaw2_PickRuns.bits11 : waitsOk warplaw2_PickRuns.T11.2 warplaw2_PickRuns.B11 = true := by kernel_rfl
set_option maxHeartbeats 8000000 in
set_option maxRecDepth 100000 in
theorem warplaw2_PickRuns.calls (k : Nat) (A0 : Option Addr) (c0 : Nat) (l0 : List Int) (A1 : Option Addr) (c1 : Nat) (l1 : List (List Bool)) (r : Bool) (w : World) (hr0 : Kd.C (Kd.int .i64) w A0 l0.length l0) (hc0 : l0.length ≤ c0) (hr1 : Kd.C (Kd.slice 4 Kd.bool) w A1 l1.length l1) (hc1 : l1.length ≤ c1) (h : warplaw2_PickRuns.f k l0 l1 = some r) (hT_ : Tab w := by first | exact hT_ | exact Tab.drewN hT_ _ | (refine Tab.below hT_ ?_; repeat (first | (with_reducible first | exact HB.out | apply below_alloc | apply pw_below_drewN | apply below_drew1) | exact HB.out))) :
 Calls Tryd.prog 4 #[.slice A0 l0.length c0, .slice A1 l1.length c1] w fun e w' => e = .returned (.bool r) ∧ Below w.heap.size w w' := by
 have hu24 := Tryd.underlying24
 have hu30 := Tryd.underlying30
 have HR0 := Aside0.mk hr0
 have HC0 := Aside0.mk hc0
 clear hr0 hc0
 have HR1 := Aside0.mk hr1
 have HC1 := Aside0.mk hc1
 clear hr1 hc1
 have HB := Aside0.mk (Below.refl w.heap.size w)
 have H : (if (l0.length : Int) > 60 then (warplaw2_PickRuns.j0 k l0 l1 true) else (warplaw2_PickRuns.j0 k l0 l1 (decide ((l1.length : Int) > 80)))) = some r := h
 clear h
 have HC3 := Aside0.mk H
 clear H
 go_enter Tryd.func4, Tryd.ntmps4
 go_upto_region 1 with (fail)
 go_cut [18] (fun v18 wc => ∃ (kq : Nat) (x18_2 : Bool), v18 = .bool x18_2 ∧ Aside0 (warplaw2_PickRuns.j0 kq l0 l1 x18_2 = some r) ∧ Aside0 (kq ≤ k) ∧ Aside0 (Below w.heap.size w wc))
 case first =>
  have H := HC3.out
  clear HC3
  by_cases c4 : (l0.length : Int) > 60
  ·
   rw [if_pos c4] at H
   have c4b0 : decide (60 < (l0.length : Int)) = true := decide_eq_true c4
   have c4b1 : decide (60 < l0.length) = true := decide_eq_true (by omega)
   clear c4
   (first | rw [c4b0] | (simp only [i64_w, i32_w]; rw [c4b0]) | skip)
   have H' := Aside0.mk H
   clear H
   go_wp2
   go_meet
   case rel => exact ⟨_, (true), (by first | rfl | (simp; done) | (simp [*]; done)), H', ⟨by first | omega | exact Nat.le_refl _⟩, ⟨by repeat (first | (with_reducible first | exact HB.out | apply below_alloc | apply pw_below_drewN | apply below_drew1) | exact HB.out)⟩⟩
  ·
   rw [if_neg c4] at H
   have c4b0 : decide (60 < (l0.length : Int)) = false := decide_eq_false c4
   have c4b1 : decide (60 < l0.length) = false := decide_eq_false (by omega)
   clear c4
   (first | rw [c4b0] | (simp only [i64_w, i32_w]; rw [c4b0]) | skip)
   have H' := Aside0.mk H
   clear H
   go_wp2
   go_meet
   case rel => exact ⟨_, (decide ((l1.length : Int) > 80)), (by first | rfl | (simp; done) | (simp [*]; done)), H', ⟨by first | omega | exact Nat.le_refl _⟩, ⟨by repeat (first | (with_reducible first | exact HB.out | apply below_alloc | apply pw_below_drewN | apply below_drew1) | exact HB.out)⟩⟩
 case rest =>
  clear HC3
  (try clear c1); (try clear p2); (try clear c4); (try clear c4b0); (try clear c4b1)
  obtain ⟨kq, x18_2, rfl, HA, HJ2, HB⟩ := hcut
  cases kq with
  | zero => exact absurd HA.out (by simp [warplaw2_PickRuns.j0])
  | succ kj2 =>
   have H := HA.out
   clear HA
   simp only [warplaw2_PickRuns.j0] at H
   by_cases c5 : x18_2 = true
   ·
    subst c5
    have H1 : ((warplaw2_awake.f kj2).bind fun t204 => (some t204)) = some r := by rw [if_pos rfl] at H; exact H
    clear H
    have H := H1
    clear H1
    replace H := Option.bind_eq_some_iff.mp H
    obtain ⟨t204, A60, H⟩ := H
    replace H : (some t204) = some r := H
    have A6 := Aside0.mk A60
    clear A60
    obtain rfl := Option.some.inj H
    go_wp2_with (first | ((with_reducible refine gate_callee (f := 12) rfl ?_); refine goesL_ (some 19) rfl rfl Tryd.func12 (by kernel_rfl) rfl #[] rfl (by (try simp only [List.map_toArray, List.map_cons, List.map_nil]); first | done | rfl | (simp only [List.length_drop, List.length_take]; rfl)) ?_; (with_reducible refine (warplaw2_awake.calls kj2  t204 _ A6.out).mono ?_); rintro e w7 ⟨rfl, hb⟩; refine ⟨_, rfl, ?_⟩; have n0_ := Aside0.mk (below_step (by repeat (first | (with_reducible first | exact HB.out | apply below_alloc | apply pw_below_drewN | apply below_drew1) | exact HB.out)) hb); clear HB; have HB := n0_; clear n0_; (try clear hb); (try clear hb2); (try clear hk); (try clear hi)))
    go_ret
    exact ⟨by first | rfl | (simp [errW_none, errW_some] <;> rfl) | (simp [*, errW_none, errW_some] <;> rfl), by repeat (first | (with_reducible first | exact HB.out | apply below_alloc | apply pw_below_drewN | apply below_drew1) | exact HB.out)⟩
   ·
    replace c5 := Bool.eq_false_iff.mpr c5
    subst c5
    have H1 : ((pick_Start.f l0).bind fun bt205 => ((warpref1_Start.f l0).bind fun bt211 => (warplaw2_PickRuns.l0 kj2 l1 0 bt205.1 bt205.2.1 bt205.2.2 bt211.1 bt211.2.1 bt211.2.2))) = some r := by rw [if_neg (show ¬ (false = true) by decide)] at H; exact H
    clear H
    have H := H1
    clear H1
    replace H := Option.bind_eq_some_iff.mp H
    obtain ⟨⟨t205, t208, t209⟩, A80, H⟩ := H
    replace H : ((warpref1_Start.f l0).bind fun bt211 => (warplaw2_PickRuns.l0 kj2 l1 0 t205 t208 t209 bt211.1 bt211.2.1 bt211.2.2)) = some r := H
    have A8 := Aside0.mk A80
    clear A80
    replace H := Option.bind_eq_some_iff.mp H
    obtain ⟨⟨t211, t214, t215⟩, A90, H⟩ := H
    replace H : (warplaw2_PickRuns.l0 kj2 l1 0 t205 t208 t209 t211 t214 t215) = some r := H
    have A9 := Aside0.mk A90
    clear A90
    have H' := Aside0.mk H
    clear H
    go_wp2_with (first | ((with_reducible refine gate_callee (f := 15) rfl ?_); refine goesL_ (some 21) rfl rfl Tryd.func15 (by kernel_rfl) rfl #[.slice A0 l0.length c0] rfl (by (try simp only [List.map_toArray, List.map_cons, List.map_nil]); first | done | rfl | (simp only [List.length_drop, List.length_take]; rfl)) ?_; (with_reducible refine (pick_Start.calls _ _ l0 t205 t208 t209 _ ?side1 ?side2 A8.out).mono ?_); (case side1 => repeat (first | exact (Kd.C_below HR0.out HB.out) | (with_reducible refine Kd.C_alloc ?_ _) | (with_reducible refine Kd.C_drewN ?_ _) | (with_reducible refine Kd.C_drew ?_))); (case side2 => exact HC0.out); rintro e w10 ⟨v206, rfl, ho0, hb⟩; refine ⟨_, rfl, ?_⟩; have n0_ := Aside0.mk (Kd.R_lower ho0 (below_size (by repeat (first | (with_reducible first | exact HB.out | apply below_alloc | apply pw_below_drewN | apply below_drew1) | exact HB.out)))); have n1_ := Aside0.mk (below_step (by repeat (first | (with_reducible first | exact HB.out | apply below_alloc | apply pw_below_drewN | apply below_drew1) | exact HB.out)) hb); clear HB; have HO207 := n0_; have HB := n1_; clear n0_ n1_; (try clear hb); (try clear hb2); (try clear hk); (try clear hi); (try clear ho0)) | ((with_reducible refine gate_dst (N := 5) rfl ?_); (try (refine gate_guard (by rfl) ?_; dsimp only)); refine box_event ?hg (N := 5) ?hd (cs := #[.slice none 0 0, .int .i64 0, .int .i64 0]) (t := 24) ?hr ?_; (case hd => rfl); (case hg => rfl); (case hr => first | (go_simp; done) | (go_simp; rfl)); intro gb210 hg w11 hbox hb; have n0_ := Aside0.mk (Kd.R_below (by (with_reducible repeat (first | apply Kd.R_alloc | apply Kd.R_drewN | apply Kd.R_drew)); exact HO207.out) hb); have n1_ := Aside0.mk (below_step (by repeat (first | (with_reducible first | exact HB.out | apply below_alloc | apply pw_below_drewN | apply below_drew1) | exact HB.out)) hb); have n2_ := Aside0.mk (hbox); have n3_ := Aside0.mk ((by rw [hg]; exact (below_size (by repeat (first | (with_reducible first | exact HB.out | apply below_alloc | apply pw_below_drewN | apply below_drew1) | exact HB.out))) : w.heap.size ≤ gb210)); have n4_ := Aside0.mk ((by rw [hg]; exact (below_size (by repeat (first | (with_reducible first | exact HB.out | apply below_alloc | apply pw_below_drewN | apply below_drew1) | exact HB.out))) : w.heap.size ≤ gb210)); clear HO207; clear HB; have HO207 := n0_; have HB := n1_; have BK210 := n2_; have GW210 := n3_; have GE210 := n4_; clear n0_ n1_ n2_ n3_ n4_; clear hb hbox hg; obtain ⟨Ao12, co12, eo12⟩ := Kd.R_slice HO207.out; subst eo12; have hcz13_0 : w11.cell? ⟨gb210, 0, none⟩ = some (.slice none 0 0) := (blk_cell BK210.out 0).trans rfl; have hcz13_1 : w11.cell? ⟨gb210, 1, none⟩ = some (.int .i64 0) := (blk_cell BK210.out 1).trans rfl; have hcz13_2 : w11.cell? ⟨gb210, 2, none⟩ = some (.int .i64 0) := (blk_cell BK210.out 2).trans rfl; have hfz13_0 := blk_frozen BK210.out 0; have hfz13_1 := blk_frozen BK210.out 1; have hfz13_2 := blk_frozen BK210.out 2) | ((with_reducible refine gate_store (t := 24) (p := 5) rfl ?_); refine store_event (t := 24) (p := 5) (v := ?vo_w14) (w1 := (((w11.setCell ⟨gb210, 0, none⟩ (.slice Ao12 t205.length co12)).setCell ⟨gb210, 1, none⟩ (.int .i64 t208)).setCell ⟨gb210, 2, none⟩ (.int .i64 t209))) ?hg ?ho ?hn ?hr ?_; (case ho => rfl); (case hg => rfl); (case hn => rfl); (case hr => first | (go_simp; done) | (go_simp; rfl)); intro w14 hw; have n0_ : Aside0 (Kd.R (Kd.int .i64) 3 w14 w.heap.size (fun _ => True) (.slice Ao12 t205.length co12) t205) := ⟨(by rw [hw]; exact (by (with_reducible repeat (first | apply Kd.R_alloc | apply Kd.R_drewN | apply Kd.R_drew)); exact Kd.R_mono (Kd.R_far (p := ⟨gb210, 2, none⟩) (Kd.R_far (p := ⟨gb210, 1, none⟩) (Kd.R_far (p := ⟨gb210, 0, none⟩) (Kd.R_types HO207.out BK210.out (by decide)) (fun _ hk => hk.2) (.slice Ao12 t205.length co12)) (fun _ hk => hk.2) (.int .i64 t208)) (fun _ hk => hk.2) (.int .i64 t209)) (fun _ hk => trivial)))⟩; have n1_ : Aside0 (w14.heap[gb210]? = some (.cells #[.slice Ao12 t205.length co12, .int .i64 t208, .int .i64 t209] 24 (0, 0))) := ⟨(by rw [hw]; exact (by (with_reducible repeat (first | refine blk_drewN ?_ _ | refine blk_drew ?_ | refine blk_alloc ?_ _)); refine blk_put (cs := #[.slice Ao12 t205.length co12, .int .i64 t208, .int .i64 0]) ?_ 2 _ rfl; (with_reducible repeat (first | refine blk_drewN ?_ _ | refine blk_drew ?_ | refine blk_alloc ?_ _)); refine blk_put (cs := #[.slice Ao12 t205.length co12, .int .i64 0, .int .i64 0]) ?_ 1 _ rfl; (with_reducible repeat (first | refine blk_drewN ?_ _ | refine blk_drew ?_ | refine blk_alloc ?_ _)); refine blk_put (cs := #[.slice none 0 0, .int .i64 0, .int .i64 0]) ?_ 0 _ rfl; (with_reducible repeat (first | refine blk_drewN ?_ _ | refine blk_drew ?_ | refine blk_alloc ?_ _)); exact BK210.out))⟩; have n2_ : Aside0 (Below w.heap.size w w14) := ⟨(by rw [hw]; exact (by repeat (first | (with_reducible first | exact HB.out | apply below_alloc | apply pw_below_drewN | apply below_drew1 | refine below_set ?_ GE210.out) | exact HB.out)))⟩; clear hw; clear HO207; clear BK210; clear HB; have HO207 := n0_; have BK210 := n1_; have HB := n2_; clear n0_ n1_ n2_) | ((with_reducible refine gate_callee (f := 17) rfl ?_); refine goesL_ (some 23) rfl rfl Tryd.func17 (by kernel_rfl) rfl #[.slice A0 l0.length c0] rfl (by (try simp only [List.map_toArray, List.map_cons, List.map_nil]); first | done | rfl | (simp only [List.length_drop, List.length_take]; rfl)) ?_; (with_reducible refine (warpref1_Start.calls (fun k_ => k_ < w.heap.size) _ _ l0 t211 t214 t215 _ ?side1 A9.out).mono ?_); (case side1 => exact Kd.V_mk HC0.out (Kd.F_below (Kd.C_F (Kd.heap_int .i64) HR0.out) (by repeat (first | (with_reducible first | exact HB.out | apply below_alloc | apply pw_below_drewN | apply below_drew1 | refine below_set ?_ GE210.out) | exact HB.out)))); rintro e w15 ⟨v212, rfl, ho0, hb⟩; refine ⟨_, rfl, ?_⟩; have n0_ := Aside0.mk (Kd.R_below (by (with_reducible repeat (first | apply Kd.R_alloc | apply Kd.R_drewN | apply Kd.R_drew)); exact HO207.out) hb); have n1_ := Aside0.mk (Kd.V_lower (Kd.V_mono (ok' := fun k_ => some k_ ≠ (.slice Ao12 t205.length co12 : Value).ownBlock ∧ k_ ≠ gb210) ho0 (fun k_ hk_ => ⟨Or.elim hk_ (fun hs_ => fun e_ => Nat.not_le.2 hs_ (Kd.R_base HO207.out k_ e_.symm)) (fun hn_ => (Kd.fresh' (Kd.R_lt (by (with_reducible repeat (first | apply Kd.R_alloc | apply Kd.R_drewN | apply Kd.R_drew)); exact HO207.out)) k_ hn_)), Or.elim hk_ (fun hs_ => fun e_ => Nat.not_le.2 hs_ (by rw [e_]; exact GW210.out)) (fun hn_ => (Kd.freshB (g := gb210) (o := .cells #[.slice Ao12 t205.length co12, .int .i64 t208, .int .i64 t209] 24 (0, 0)) (by (with_reducible repeat (first | refine blk_drewN ?_ _ | refine blk_drew ?_ | refine blk_alloc ?_ _)); exact BK210.out) k_ hn_))⟩)) (below_size (by repeat (first | (with_reducible first | exact HB.out | apply below_alloc | apply pw_below_drewN | apply below_drew1 | refine below_set ?_ GE210.out) | exact HB.out)))); have n2_ := Aside0.mk (blk_below (g := gb210) (o := .cells #[.slice Ao12 t205.length co12, .int .i64 t208, .int .i64 t209] 24 (0, 0)) (by (with_reducible repeat (first | refine blk_drewN ?_ _ | refine blk_drew ?_ | refine blk_alloc ?_ _)); exact BK210.out) hb); have n3_ := Aside0.mk (below_step (by repeat (first | (with_reducible first | exact HB.out | apply below_alloc | apply pw_below_drewN | apply below_drew1 | refine below_set ?_ GE210.out) | exact HB.out)) hb); clear HO207; clear BK210; clear HB; have HO207 := n0_; have HO213 := n1_; have BK210 := n2_; have HB := n3_; clear n0_ n1_ n2_ n3_; (try clear hb); (try clear hb2); (try clear hk); (try clear hi); (try clear ho0)) | ((with_reducible refine gate_dst (N := 6) rfl ?_); (try (refine gate_guard (by rfl) ?_; dsimp only)); refine box_event ?hg (N := 6) ?hd (cs := #[.slice none 0 0, .int .i64 0, .int .i64 0]) (t := 24) ?hr ?_; (case hd => rfl); (case hg => rfl); (case hr => first | (go_simp; done) | (go_simp; rfl)); intro gb216 hg w16 hbox hb; have n0_ := Aside0.mk (Kd.R_below (by (with_reducible repeat (first | apply Kd.R_alloc | apply Kd.R_drewN | apply Kd.R_drew)); exact HO207.out) hb); have n1_ := Aside0.mk (Kd.V_below (Kd.V_elderB (by (with_reducible repeat (first | apply Kd.V_alloc | apply Kd.V_drewN | apply Kd.V_drew)); exact HO213.out) gb216 (Nat.le_of_eq hg.symm)) hb); have n2_ := Aside0.mk (blk_below (g := gb210) (o := .cells #[.slice Ao12 t205.length co12, .int .i64 t208, .int .i64 t209] 24 (0, 0)) (by (with_reducible repeat (first | refine blk_drewN ?_ _ | refine blk_drew ?_ | refine blk_alloc ?_ _)); exact BK210.out) hb); have n3_ := Aside0.mk (below_step (by repeat (first | (with_reducible first | exact HB.out | apply below_alloc | apply pw_below_drewN | apply below_drew1 | refine below_set ?_ GE210.out) | exact HB.out)) hb); have n4_ := Aside0.mk (hbox); have n5_ := Aside0.mk ((by rw [hg]; exact (below_size (by repeat (first | (with_reducible first | exact HB.out | apply below_alloc | apply pw_below_drewN | apply below_drew1 | refine below_set ?_ GE210.out) | exact HB.out))) : w.heap.size ≤ gb216)); have n6_ := Aside0.mk ((by rw [hg]; exact (below_size (by repeat (first | (with_reducible first | exact HB.out | apply below_alloc | apply pw_below_drewN | apply below_drew1 | refine below_set ?_ GE210.out) | exact HB.out))) : w.heap.size ≤ gb216)); have n7_ := Aside0.mk ((by rw [hg]; exact Nat.ne_of_lt (blk_lt (g := gb210) (o := .cells #[.slice Ao12 t205.length co12, .int .i64 t208, .int .i64 t209] 24 (0, 0)) (by (with_reducible repeat (first | refine blk_drewN ?_ _ | refine blk_drew ?_ | refine blk_alloc ?_ _)); exact BK210.out)) : gb210 ≠ gb216)); have n8_ := Aside0.mk ((by rw [hg]; exact Nat.ne_of_gt (blk_lt (g := gb210) (o := .cells #[.slice Ao12 t205.length co12, .int .i64 t208, .int .i64 t209] 24 (0, 0)) (by (with_reducible repeat (first | refine blk_drewN ?_ _ | refine blk_drew ?_ | refine blk_alloc ?_ _)); exact BK210.out)) : gb216 ≠ gb210)); clear HO207; clear HO213; clear BK210; clear HB; have HO207 := n0_; have HO213 := n1_; have BK210 := n2_; have HB := n3_; have BK216 := n4_; have GW216 := n5_; have GE216 := n6_; have NB210_216 := n7_; have NB216_210 := n8_; clear n0_ n1_ n2_ n3_ n4_ n5_ n6_ n7_ n8_; clear hb hbox hg; obtain ⟨Ao17, co17, eo17⟩ := Kd.V_slice HO213.out; subst eo17; have hnb18 := NB216_210.out; have hnc18 := NB210_216.out; have hcz19_0 : w16.cell? ⟨gb216, 0, none⟩ = some (.slice none 0 0) := (blk_cell BK216.out 0).trans rfl; have hcz19_1 : w16.cell? ⟨gb216, 1, none⟩ = some (.int .i64 0) := (blk_cell BK216.out 1).trans rfl; have hcz19_2 : w16.cell? ⟨gb216, 2, none⟩ = some (.int .i64 0) := (blk_cell BK216.out 2).trans rfl; have hfz19_0 := blk_frozen BK216.out 0; have hfz19_1 := blk_frozen BK216.out 1; have hfz19_2 := blk_frozen BK216.out 2))
    go_loopg [7] kj2 (fun kq v7 w' => ∃ (x7_2 : Int) (x211000_2 : List Int) (x211001_2 : Int) (x211002_2 : Int) (x217000_2 : List Int) (x217001_2 : Int) (x217002_2 : Int) (u211000 : Value) (u217000 : Value), v7 = .int .i64 x7_2 ∧ Aside0 (warplaw2_PickRuns.l0 kq l1 x7_2 x211000_2 x211001_2 x211002_2 x217000_2 x217001_2 x217002_2 = some r) ∧ Aside0 (kq ≤ kj2) ∧ Aside0 (Kd.V (Kd.int .i64) 3 w' w.heap.size (fun k_ => k_ ≠ gb210 ∧ k_ ≠ gb216) u211000 x211000_2) ∧ Aside0 (Kd.V (Kd.int .i64) 3 w' w.heap.size (fun k_ => k_ ≠ gb210 ∧ k_ ≠ gb216) u217000 x217000_2) ∧ Aside0 (w'.heap[gb210]? = some (.cells #[u211000, .int .i64 x211001_2, .int .i64 x211002_2] 24 (0, 0))) ∧ Aside0 (w'.heap[gb216]? = some (.cells #[u217000, .int .i64 x217001_2, .int .i64 x217002_2] 24 (0, 0))) ∧ Aside0 (Below w.heap.size w w'))
    case atStart => exact ⟨(0), (t205), (t208), (t209), (t211), (t214), (t215), (.slice Ao12 t205.length co12), (.slice Ao17 t211.length co17), (by first | rfl | (simp; done) | (simp [*]; done)), H', ⟨Nat.le_refl _⟩, ⟨Kd.R_V (by (with_reducible repeat (first | apply Kd.R_alloc | apply Kd.R_drewN | apply Kd.R_drew)); exact Kd.R_mono (Kd.R_far (p := ⟨gb216, 2, none⟩) (Kd.R_far (p := ⟨gb216, 1, none⟩) (Kd.R_far (p := ⟨gb216, 0, none⟩) (Kd.R_types (Kd.R_types (Kd.R_types HO207.out BK210.out (by decide)) BK216.out (by decide)) BK216.out (by decide)) (fun _ hk => hk.2) (.slice Ao17 t211.length co17)) (fun _ hk => hk.2) (.int .i64 t214)) (fun _ hk => hk.2) (.int .i64 t215)) (fun _ hk => ⟨hk.1.1.2, hk.1.2⟩))⟩, ⟨by (with_reducible repeat (first | apply Kd.V_alloc | apply Kd.V_drewN | apply Kd.V_drew)); exact Kd.V_mono (Kd.V_far (p := ⟨gb216, 2, none⟩) (Kd.V_far (p := ⟨gb216, 1, none⟩) (Kd.V_far (p := ⟨gb216, 0, none⟩) (Kd.V_mono HO213.out (fun k_ hk => (⟨hk, hk.2⟩ : _ ∧ k_ ≠ gb216))) (fun _ hk => hk.2) (.slice Ao17 t211.length co17)) (fun _ hk => hk.2) (.int .i64 t214)) (fun _ hk => hk.2) (.int .i64 t215)) (fun _ hk => ⟨hk.1.1.2, hk.1.2⟩)⟩, ⟨by (with_reducible repeat (first | refine blk_drewN ?_ _ | refine blk_drew ?_ | refine blk_alloc ?_ _)); refine blk_far ?_ NB210_216.out _; (with_reducible repeat (first | refine blk_drewN ?_ _ | refine blk_drew ?_ | refine blk_alloc ?_ _)); refine blk_far ?_ NB210_216.out _; (with_reducible repeat (first | refine blk_drewN ?_ _ | refine blk_drew ?_ | refine blk_alloc ?_ _)); refine blk_far ?_ NB210_216.out _; (with_reducible repeat (first | refine blk_drewN ?_ _ | refine blk_drew ?_ | refine blk_alloc ?_ _)); exact BK210.out⟩, ⟨by (with_reducible repeat (first | refine blk_drewN ?_ _ | refine blk_drew ?_ | refine blk_alloc ?_ _)); refine blk_put (cs := #[.slice Ao17 t211.length co17, .int .i64 t214, .int .i64 0]) ?_ 2 _ rfl; (with_reducible repeat (first | refine blk_drewN ?_ _ | refine blk_drew ?_ | refine blk_alloc ?_ _)); refine blk_put (cs := #[.slice Ao17 t211.length co17, .int .i64 0, .int .i64 0]) ?_ 1 _ rfl; (with_reducible repeat (first | refine blk_drewN ?_ _ | refine blk_drew ?_ | refine blk_alloc ?_ _)); refine blk_put (cs := #[.slice none 0 0, .int .i64 0, .int .i64 0]) ?_ 0 _ rfl; (with_reducible repeat (first | refine blk_drewN ?_ _ | refine blk_drew ?_ | refine blk_alloc ?_ _)); exact BK216.out⟩, ⟨by repeat (first | (with_reducible first | exact HB.out | apply below_alloc | apply pw_below_drewN | apply below_drew1 | refine below_set ?_ GE210.out | refine below_set ?_ GE216.out) | exact HB.out)⟩⟩
    case round =>
     clear H'
     (try clear c1); (try clear p2); (try clear c4); (try clear c4b0); (try clear c4b1); (try clear c5); (try clear c12); (try clear c15); (try clear c17); (try clear c18); (try clear hcz13_0); (try clear hcz13_1); (try clear hcz13_2); (try clear hcz19_0); (try clear hcz19_1); (try clear hcz19_2); (try clear hfz13_0); (try clear hfz13_1); (try clear hfz13_2); (try clear hfz19_0); (try clear hfz19_1); (try clear hfz19_2); (try clear p2)
     obtain ⟨x7_2, x211000_2, x211001_2, x211002_2, x217000_2, x217001_2, x217002_2, u211000, u217000, rfl, HA, HK2, HO_211000, HO_217000, BK210, BK216, HB⟩ := hrel
     cases gk with
     | zero => exact absurd HA.out (by simp [warplaw2_PickRuns.l0])
     | succ k2 =>
      have H := HA.out
      clear HA
      simp only [warplaw2_PickRuns.l0] at H
      by_cases c20 : x7_2 < (l1.length : Int)
      ·
       rw [if_pos c20] at H
       have c20b0 : decide (x7_2 < (l1.length : Int)) = true := decide_eq_true c20
       clear c20
       by_cases c21 : 0 ≤ x7_2
       ·
        rw [if_pos c21] at H
        have c21b0 : decide (0 ≤ x7_2) = true := decide_eq_true c21
        clear c21
        by_cases c22 : ((rd_L3 l1 x7_2).length : Int) > 70
        ·
         rw [if_pos c22] at H
         have c22b0 : decide (70 < ((rd_L3 l1 x7_2).length : Int)) = true := decide_eq_true c22
         have c22b1 : decide (70 < (rd_L3 l1 x7_2).length) = true := decide_eq_true (by omega)
         clear c22
         replace H := Option.bind_eq_some_iff.mp H
         obtain ⟨t218, A230, H⟩ := H
         replace H : (some t218) = some r := H
         have A23 := Aside0.mk A230
         clear A230
         obtain rfl := Option.some.inj H
         have p217 : 0 ≤ (x7_2 : Int) := of_decide_eq_true (by first | (with_reducible assumption) | assumption)
         have q217 : x7_2 < (l1.length : Int) := of_decide_eq_true (by first | (with_reducible assumption) | assumption)
         obtain ⟨ad217, A217_0, c217_0, e217, hx217_0, hl217_0, hi217_0⟩ := at_L3 HR1.out x7_2 p217 q217
         cases e217
         replace hx217_0 := (HB.out.cell (World.block_lt_of_cell? w _ hx217_0)).trans hx217_0
         have HR217_0 := Aside0.mk hi217_0
         have HC217_0 := Aside0.mk hl217_0
         clear hi217_0 hl217_0
         replace p217 := eq_true p217
         replace q217 := eq_true q217
         go_wp2_with (first | ((with_reducible refine gate_callee (f := 12) rfl ?_); refine goesL_ (some 36) rfl rfl Tryd.func12 (by kernel_rfl) rfl #[] rfl (by (try simp only [List.map_toArray, List.map_cons, List.map_nil]); first | done | rfl | (simp only [List.length_drop, List.length_take]; rfl)) ?_; (with_reducible refine (warplaw2_awake.calls k2  t218 _ A23.out).mono ?_); rintro e w24 ⟨rfl, hb⟩; refine ⟨_, rfl, ?_⟩; have n0_ := Aside0.mk (Kd.V_below (by (with_reducible repeat (first | apply Kd.V_alloc | apply Kd.V_drewN | apply Kd.V_drew)); exact HO_211000.out) hb); have n1_ := Aside0.mk (Kd.V_below (by (with_reducible repeat (first | apply Kd.V_alloc | apply Kd.V_drewN | apply Kd.V_drew)); exact HO_217000.out) hb); have n2_ := Aside0.mk (blk_below (g := gb210) (o := .cells #[u211000, .int .i64 x211001_2, .int .i64 x211002_2] 24 (0, 0)) (by (with_reducible repeat (first | refine blk_drewN ?_ _ | refine blk_drew ?_ | refine blk_alloc ?_ _)); exact BK210.out) hb); have n3_ := Aside0.mk (blk_below (g := gb216) (o := .cells #[u217000, .int .i64 x217001_2, .int .i64 x217002_2] 24 (0, 0)) (by (with_reducible repeat (first | refine blk_drewN ?_ _ | refine blk_drew ?_ | refine blk_alloc ?_ _)); exact BK216.out) hb); have n4_ := Aside0.mk (below_step (by repeat (first | (with_reducible first | exact HB.out | apply below_alloc | apply pw_below_drewN | apply below_drew1 | refine below_set ?_ GE210.out | refine below_set ?_ GE216.out) | exact HB.out)) hb); clear HO_211000; clear HO_217000; clear BK210; clear BK216; clear HB; have HO_211000 := n0_; have HO_217000 := n1_; have BK210 := n2_; have BK216 := n3_; have HB := n4_; clear n0_ n1_ n2_ n3_ n4_; (try clear hb); (try clear hb2); (try clear hk); (try clear hi)))
         go_ret
         exact ⟨by first | rfl | (simp [errW_none, errW_some] <;> rfl) | (simp [*, errW_none, errW_some] <;> rfl), by repeat (first | (with_reducible first | exact HB.out | apply below_alloc | apply pw_below_drewN | apply below_drew1 | refine below_set ?_ GE210.out | refine below_set ?_ GE216.out) | exact HB.out)⟩
        ·
         rw [if_neg c22] at H
         have c22b0 : decide (70 < ((rd_L3 l1 x7_2).length : Int)) = false := decide_eq_false c22
         have c22b1 : decide (70 < (rd_L3 l1 x7_2).length) = false := decide_eq_false (by omega)
         clear c22
         replace H := Option.bind_eq_some_iff.mp H
         obtain ⟨⟨t220, t221, t224, t225⟩, A250, H⟩ := H
         replace H : ((warpref1_Pick.f k2 x217000_2 x217001_2 x217002_2 (rd_L3 l1 x7_2)).bind fun bt228 => (if t220 = bt228.1 then ((warplaw2_same.f k2 t221 t224 t225 bt228.2.1 bt228.2.2.1 bt228.2.2.2).bind fun t235 => (if t235 = true then (if t220 ≥ 0 then (if t220 ≥ ((rd_L3 l1 x7_2).length : Int) then (warplaw2_PickRuns.j2 k2 l1 x7_2 true t221 t224 t225 bt228.1 bt228.2.1 bt228.2.2.1 bt228.2.2.2) else (if 0 ≤ t220 then (if t220 < ((rd_L3 l1 x7_2).length : Int) then (warplaw2_PickRuns.j2 k2 l1 x7_2 (!(rdOf false (rd_L3 l1 x7_2) t220)) t221 t224 t225 bt228.1 bt228.2.1 bt228.2.2.1 bt228.2.2.2) else (none)) else (none))) else (warplaw2_PickRuns.j2 k2 l1 x7_2 false t221 t224 t225 bt228.1 bt228.2.1 bt228.2.2.1 bt228.2.2.2)) else (warplaw2_PickRuns.j2 k2 l1 x7_2 true t221 t224 t225 bt228.1 bt228.2.1 bt228.2.2.1 bt228.2.2.2))) else (warplaw2_PickRuns.j2 k2 l1 x7_2 true t221 t224 t225 bt228.1 bt228.2.1 bt228.2.2.1 bt228.2.2.2))) = some r := H
         have A25 := Aside0.mk A250
         clear A250
         replace H := Option.bind_eq_some_iff.mp H
         obtain ⟨⟨t228, t229, t232, t233⟩, A260, H⟩ := H
         replace H : (if t220 = t228 then ((warplaw2_same.f k2 t221 t224 t225 t229 t232 t233).bind fun t235 => (if t235 = true then (if t220 ≥ 0 then (if t220 ≥ ((rd_L3 l1 x7_2).length : Int) then (warplaw2_PickRuns.j2 k2 l1 x7_2 true t221 t224 t225 t228 t229 t232 t233) else (if 0 ≤ t220 then (if t220 < ((rd_L3 l1 x7_2).length : Int) then (warplaw2_PickRuns.j2 k2 l1 x7_2 (!(rdOf false (rd_L3 l1 x7_2) t220)) t221 t224 t225 t228 t229 t232 t233) else (none)) else (none))) else (warplaw2_PickRuns.j2 k2 l1 x7_2 false t221 t224 t225 t228 t229 t232 t233)) else (warplaw2_PickRuns.j2 k2 l1 x7_2 true t221 t224 t225 t228 t229 t232 t233))) else (warplaw2_PickRuns.j2 k2 l1 x7_2 true t221 t224 t225 t228 t229 t232 t233)) = some r := H
         have A26 := Aside0.mk A260
         clear A260
         have HC27 := Aside0.mk H
         clear H
         have p217 : 0 ≤ (x7_2 : Int) := of_decide_eq_true (by first | (with_reducible assumption) | assumption)
         have q217 : x7_2 < (l1.length : Int) := of_decide_eq_true (by first | (with_reducible assumption) | assumption)
         obtain ⟨ad217, A217_0, c217_0, e217, hx217_0, hl217_0, hi217_0⟩ := at_L3 HR1.out x7_2 p217 q217
         cases e217
         replace hx217_0 := (HB.out.cell (World.block_lt_of_cell? w _ hx217_0)).trans hx217_0
         have HR217_0 := Aside0.mk hi217_0
         have HC217_0 := Aside0.mk hl217_0
         clear hi217_0 hl217_0
         replace p217 := eq_true p217
         replace q217 := eq_true q217
         obtain ⟨Ao28, co28, eo28⟩ := Kd.V_slice HO_211000.out
         subst eo28
         try go_wp2
         have n0_ := Aside0.mk (Kd.V_drew HO_211000.out)
         have n1_ := Aside0.mk (Kd.V_drew HO_217000.out)
         have n2_ := Aside0.mk (blk_drew BK210.out)
         have n3_ := Aside0.mk (blk_drew BK216.out)
         have n4_ := Aside0.mk (below_drew1 HB.out)
         clear HO_211000
         clear HO_217000
         clear BK210
         clear BK216
         clear HB
         have HO_211000 := n0_
         have HO_217000 := n1_
         have BK210 := n2_
         have BK216 := n3_
         have HB := n4_
         clear n0_ n1_ n2_ n3_ n4_
         have p219 : 0 ≤ (x7_2 : Int) := of_decide_eq_true (by first | (with_reducible assumption) | assumption)
         have q219 : x7_2 < (l1.length : Int) := of_decide_eq_true (by first | (with_reducible assumption) | assumption)
         obtain ⟨ad219, A219_0, c219_0, e219, hx219_0, hl219_0, hi219_0⟩ := at_L3 HR1.out x7_2 p219 q219
         have hw219_0 := hx219_0
         obtain rfl : ad217 = ad219 := (by injection e219)
         replace hx219_0 := (HB.out.cell (World.block_lt_of_cell? w _ hx219_0)).trans hx219_0
         have HR219_0 := Aside0.mk hi219_0
         have HC219_0 := Aside0.mk hl219_0
         clear hi219_0 hl219_0
         replace p219 := eq_true p219
         replace q219 := eq_true q219
         refine start_ (n := 12) (S := fun w' => w'.cell? ⟨gb210, 0, none⟩ = some (.slice Ao28 x211000_2.length co28) ∧ w'.cell? ⟨gb210, 1, none⟩ = some (.int .i64 x211001_2) ∧ w'.cell? ⟨gb210, 2, none⟩ = some (.int .i64 x211002_2) ∧ w'.cell? (ad217.add (x7_2).toNat) = some (.slice A219_0 (rd_L3 l1 x7_2).length c219_0)) (ds := []) #[false, false, false, false, false, false, false, false, false, false, false, false] (by kernel_rfl) rfl rfl ⟨(blk_cell BK210.out 0).trans rfl, (blk_cell BK210.out 1).trans rfl, (blk_cell BK210.out 2).trans rfl, ((HB.out.cell (World.block_lt_of_cell? w _ hw219_0)).trans hw219_0)⟩ (fun hHeld => ?_); refine with_tabW warplaw2_PickRuns.tab10 warplaw2_PickRuns.bits10 (fun HT_ HW_ => ?_)
         generalize wr.drew = w29 at HO_211000 HO_217000 BK210 BK216 HB HR219_0 hx219_0 hHeld ⊢
         refine pure_ (i := 1) (N := some 39) (v := ?_) (a' := ?_) #[false, true, false, false, false, false, false, false, false, false, false, false] rfl rfl (any_of HT_.out (by kernel_rfl)) (fun _ _ _ h => h) (Or.inl ⟨by rfl, ?_⟩) ?_ ?_
         rotate_left
         ·
          intro w'
          go_simp
          with_reducible rfl
         rotate_left
         ·
          simp only [Act.put, List.setIfInBounds_toArray, List.set_cons_zero, List.set_cons_succ, i64_w, i32_w]
          rfl
         refine pure_ (i := 2) (N := some 40) (v := ?_) (a' := ?_) #[false, true, true, false, false, false, false, false, false, false, false, false] rfl rfl (any_of HT_.out (by kernel_rfl)) (fun _ _ _ h => h) (Or.inl ⟨by rfl, ?_⟩) ?_ ?_
         rotate_left
         ·
          intro w'
          go_simp
          with_reducible rfl
         rotate_left
         ·
          simp only [Act.put, List.setIfInBounds_toArray, List.set_cons_zero, List.set_cons_succ, i64_w, i32_w]
          rfl
         refine pure_ (i := 3) (N := some 41) (v := ?_) (a' := ?_) #[false, true, true, true, false, false, false, false, false, false, false, false] rfl rfl (any_of HT_.out (by kernel_rfl)) (fun _ _ _ h => h) (Or.inl ⟨by rfl, ?_⟩) ?_ ?_
         rotate_left
         ·
          intro w'
          go_simp
          with_reducible rfl
         rotate_left
         ·
          simp only [Act.put, List.setIfInBounds_toArray, List.set_cons_zero, List.set_cons_succ, i64_w, i32_w]
          rfl
         refine take_ (i := 0) (N := some 38) (v := ?_) (a' := ?_) #[true, true, true, true, false, false, false, false, false, false, false, false] rfl rfl (take_ofW HT_.out HW_.out (by kernel_rfl)) (fun _ _ _ h => h) (Or.inl ⟨by rfl, ?_⟩) hHeld ?_ ?_
         rotate_left
         ·
          rintro w' ⟨s0, s1, s2, s3⟩
          go_simp
          with_reducible rfl
         rotate_left
         ·
          simp only [Act.put, List.setIfInBounds_toArray, List.set_cons_zero, List.set_cons_succ, i64_w, i32_w]
          rfl
         refine take_ (i := 4) (N := some 42) (v := ?_) (a' := ?_) #[true, true, true, true, true, false, false, false, false, false, false, false] rfl rfl (take_ofW HT_.out HW_.out (by kernel_rfl)) (fun _ _ _ h => h) (Or.inl ⟨by rfl, ?_⟩) hHeld ?_ ?_
         rotate_left
         ·
          rintro w' ⟨s0, s1, s2, s3⟩
          go_simp
          with_reducible rfl
         rotate_left
         ·
          simp only [Act.put, List.setIfInBounds_toArray, List.set_cons_zero, List.set_cons_succ, i64_w, i32_w]
          rfl
         refine join_ (σ := Value × Nat) 2 #[true, true, true, true, true, true, true, true, true, true, false, false] (fun s_ => [(43, .tuple #[.int .i64 t220, .agg #[s_.1, .int .i64 t224, .int .i64 t225]]), (9, .pointer (some ⟨s_.2, 0, none⟩)), (37, .tuple #[.int .i64 t220, .agg #[s_.1, .int .i64 t224, .int .i64 t225]]), (44, .int .i64 t220), (45, .agg #[s_.1, .int .i64 t224, .int .i64 t225])]) (fun s_ w' => (w'.cell? ⟨gb210, 0, none⟩ = some (.slice Ao28 x211000_2.length co28) ∧ w'.cell? ⟨gb210, 1, none⟩ = some (.int .i64 x211001_2) ∧ w'.cell? ⟨gb210, 2, none⟩ = some (.int .i64 x211002_2) ∧ w'.cell? (ad217.add (x7_2).toNat) = some (.slice A219_0 (rd_L3 l1 x7_2).length c219_0)) ∧ (Kd.V (Kd.int .i64) 3 w' w.heap.size (fun k_ => k_ ≠ gb210 ∧ k_ ≠ gb216 ∧ k_ ≠ s_.2) s_.1 t221) ∧ (Kd.V (Kd.int .i64) 3 w' w.heap.size (fun k_ => k_ ≠ gb210 ∧ k_ ≠ gb216 ∧ k_ ≠ s_.2) (.slice Ao28 x211000_2.length co28) x211000_2) ∧ (Kd.V (Kd.int .i64) 3 w' w.heap.size (fun k_ => k_ ≠ gb210 ∧ k_ ≠ gb216 ∧ k_ ≠ s_.2) u217000 x217000_2) ∧ (w'.heap[gb210]? = some (.cells #[.slice Ao28 x211000_2.length co28, .int .i64 x211001_2, .int .i64 x211002_2] 24 (0, 0))) ∧ (w'.heap[gb216]? = some (.cells #[u217000, .int .i64 x217001_2, .int .i64 x217002_2] 24 (0, 0))) ∧ (w'.heap[s_.2]? = some (.cells #[.slice none 0 0, .int .i64 0, .int .i64 0] 24 (0, 0))) ∧ (w.heap.size ≤ s_.2) ∧ (w.heap.size ≤ s_.2) ∧ (gb210 ≠ s_.2) ∧ (s_.2 ≠ gb210) ∧ (gb216 ≠ s_.2) ∧ (s_.2 ≠ gb216) ∧ (Below w.heap.size w w')) ?_ ?_
         rotate_left
         ·
          intro hCont
          refine two_ (i := 5) (j := 9) (Ni := some 43) (Nj := some 9) #[true, true, true, true, true, true, false, false, false, false, false, false] #[true, true, true, true, true, false, false, false, false, true, false, false] rfl rfl rfl rfl (two_of HT_.out (by kernel_rfl)) (by decide) (by decide) (fun K hK => ?_) (fun K hK => ?_)
          ·
           skip
           refine goes_ Tryd.func13 (by kernel_rfl) rfl #[.agg #[.slice Ao28 x211000_2.length co28, .int .i64 x211001_2, .int .i64 x211002_2], .slice A219_0 (rd_L3 l1 x7_2).length c219_0] (by rfl) rfl rfl (by (try simp only [List.map_toArray, List.map_cons, List.map_nil]); first | done | rfl | (simp only [List.length_drop, List.length_take]; rfl)) ?_
           with_reducible refine (pick_Next.calls k2 (fun k_ => (k_ ≠ gb210 ∧ k_ ≠ gb216)) _ _ x211000_2 x211001_2 x211002_2 _ _ (rd_L3 l1 x7_2) t220 t221 t224 t225 _ ?side1 ?side2 ?side3 A25.out).mono ?_
           (case side1 => exact HO_211000.out)
           (case side2 => repeat (first | exact (Kd.C_below HR219_0.out HB.out) | (with_reducible refine Kd.C_alloc ?_ _) | (with_reducible refine Kd.C_drewN ?_ _) | (with_reducible refine Kd.C_drew ?_)))
           (case side3 => exact HC219_0.out)
           rintro e w30 ⟨v222, rfl, ho0, hb⟩
           refine ⟨_, rfl, ?_⟩
           have n0_ := Aside0.mk (Kd.V_below (by (with_reducible repeat (first | apply Kd.V_alloc | apply Kd.V_drewN | apply Kd.V_drew)); exact HO_211000.out) hb)
           have n1_ := Aside0.mk (Kd.V_below (by (with_reducible repeat (first | apply Kd.V_alloc | apply Kd.V_drewN | apply Kd.V_drew)); exact HO_217000.out) hb)
           have n2_ := Aside0.mk (Kd.V_lower (Kd.V_mono (ok' := fun k_ => k_ ≠ gb210 ∧ k_ ≠ gb216) ho0 (fun k_ hk_ => ⟨Or.elim hk_ (fun hs_ => hs_.1) (fun hn_ => (Kd.freshB (g := gb210) (o := .cells #[.slice Ao28 x211000_2.length co28, .int .i64 x211001_2, .int .i64 x211002_2] 24 (0, 0)) (by (with_reducible repeat (first | refine blk_drewN ?_ _ | refine blk_drew ?_ | refine blk_alloc ?_ _)); exact BK210.out) k_ hn_)), Or.elim hk_ (fun hs_ => hs_.2) (fun hn_ => (Kd.freshB (g := gb216) (o := .cells #[u217000, .int .i64 x217001_2, .int .i64 x217002_2] 24 (0, 0)) (by (with_reducible repeat (first | refine blk_drewN ?_ _ | refine blk_drew ?_ | refine blk_alloc ?_ _)); exact BK216.out) k_ hn_))⟩)) (below_size (by repeat (first | (with_reducible first | exact HB.out | apply below_alloc | apply pw_below_drewN | apply below_drew1 | refine below_set ?_ GE210.out | refine below_set ?_ GE216.out) | exact HB.out))))
           have n3_ := Aside0.mk (blk_below (g := gb210) (o := .cells #[.slice Ao28 x211000_2.length co28, .int .i64 x211001_2, .int .i64 x211002_2] 24 (0, 0)) (by (with_reducible repeat (first | refine blk_drewN ?_ _ | refine blk_drew ?_ | refine blk_alloc ?_ _)); exact BK210.out) hb)
           have n4_ := Aside0.mk (blk_below (g := gb216) (o := .cells #[u217000, .int .i64 x217001_2, .int .i64 x217002_2] 24 (0, 0)) (by (with_reducible repeat (first | refine blk_drewN ?_ _ | refine blk_drew ?_ | refine blk_alloc ?_ _)); exact BK216.out) hb)
           have n5_ := Aside0.mk (below_step (by repeat (first | (with_reducible first | exact HB.out | apply below_alloc | apply pw_below_drewN | apply below_drew1 | refine below_set ?_ GE210.out | refine below_set ?_ GE216.out) | exact HB.out)) hb)
           clear HO_211000
           clear HO_217000
           clear BK210
           clear BK216
           clear HB
           have HO_211000 := n0_
           have HO_217000 := n1_
           have HO223 := n2_
           have BK210 := n3_
           have BK216 := n4_
           have HB := n5_
           clear n0_ n1_ n2_ n3_ n4_ n5_
           (try clear hb)
           (try clear hb2)
           (try clear hk)
           (try clear hi)
           (try clear ho0)
           refine hK.out _ _ ⟨(blk_cell BK210.out 0).trans rfl, (blk_cell BK210.out 1).trans rfl, (blk_cell BK210.out 2).trans rfl, ((HB.out.cell (World.block_lt_of_cell? w _ hw219_0)).trans hw219_0)⟩ (fun hHeld => ?_)
           clear hK K
           refine norm_ (a' := ?_) ?_ ?_
           rotate_left
           ·
            show Act.put _ (some 43) _ = _
            simp only [Act.put, List.setIfInBounds_toArray, List.set_cons_zero, List.set_cons_succ, i64_w, i32_w]
            rfl
           refine pure_ (i := 6) (N := some 37) (v := ?_) (a' := ?_) #[true, true, true, true, true, true, true, false, false, false, false, false] rfl rfl (any_of HT_.out (by kernel_rfl)) (fun _ _ _ h => h) (Or.inl ⟨by rfl, ?_⟩) ?_ ?_
           rotate_left
           ·
            intro w'
            go_simp
            with_reducible rfl
           rotate_left
           ·
            simp only [Act.put, List.setIfInBounds_toArray, List.set_cons_zero, List.set_cons_succ, i64_w, i32_w]
            rfl
           refine pure_ (i := 7) (N := some 44) (v := ?_) (a' := ?_) #[true, true, true, true, true, true, true, true, false, false, false, false] rfl rfl (any_of HT_.out (by kernel_rfl)) (fun _ _ _ h => h) (Or.inl ⟨by rfl, ?_⟩) ?_ ?_
           rotate_left
           ·
            intro w'
            go_simp
            with_reducible rfl
           rotate_left
           ·
            simp only [Act.put, List.setIfInBounds_toArray, List.set_cons_zero, List.set_cons_succ, i64_w, i32_w]
            rfl
           refine pure_ (i := 8) (N := some 45) (v := ?_) (a' := ?_) #[true, true, true, true, true, true, true, true, true, false, false, false] rfl rfl (any_of HT_.out (by kernel_rfl)) (fun _ _ _ h => h) (Or.inl ⟨by rfl, ?_⟩) ?_ ?_
           rotate_left
           ·
            intro w'
            go_simp
            with_reducible rfl
           rotate_left
           ·
            simp only [Act.put, List.setIfInBounds_toArray, List.set_cons_zero, List.set_cons_succ, i64_w, i32_w]
            rfl
           refine one_ (i := 9) (N := some 9) #[true, true, true, true, true, true, true, true, true, true, false, false] rfl rfl (one_of HT_.out (by kernel_rfl)) (by decide) (fun K hK => ?_)
           refine box_step ?hg (N := 9) ?hd (cs := #[.slice none 0 0, .int .i64 0, .int .i64 0]) (t := 24) ?hr ?_; (case hd => rfl); (case hg => rfl); (case hr => first | (go_simp; done) | (go_simp; rfl))
           intro gb226 hg w31 hbox hb
           have n0_ := Aside0.mk (Kd.V_below (Kd.V_elderB (by (with_reducible repeat (first | apply Kd.V_alloc | apply Kd.V_drewN | apply Kd.V_drew)); exact HO_211000.out) gb226 (Nat.le_of_eq hg.symm)) hb)
           have n1_ := Aside0.mk (Kd.V_below (Kd.V_elderB (by (with_reducible repeat (first | apply Kd.V_alloc | apply Kd.V_drewN | apply Kd.V_drew)); exact HO_217000.out) gb226 (Nat.le_of_eq hg.symm)) hb)
           have n2_ := Aside0.mk (Kd.V_below (Kd.V_elderB (by (with_reducible repeat (first | apply Kd.V_alloc | apply Kd.V_drewN | apply Kd.V_drew)); exact HO223.out) gb226 (Nat.le_of_eq hg.symm)) hb)
           have n3_ := Aside0.mk (blk_below (g := gb210) (o := .cells #[.slice Ao28 x211000_2.length co28, .int .i64 x211001_2, .int .i64 x211002_2] 24 (0, 0)) (by (with_reducible repeat (first | refine blk_drewN ?_ _ | refine blk_drew ?_ | refine blk_alloc ?_ _)); exact BK210.out) hb)
           have n4_ := Aside0.mk (blk_below (g := gb216) (o := .cells #[u217000, .int .i64 x217001_2, .int .i64 x217002_2] 24 (0, 0)) (by (with_reducible repeat (first | refine blk_drewN ?_ _ | refine blk_drew ?_ | refine blk_alloc ?_ _)); exact BK216.out) hb)
           have n5_ := Aside0.mk (below_step (by repeat (first | (with_reducible first | exact HB.out | apply below_alloc | apply pw_below_drewN | apply below_drew1 | refine below_set ?_ GE210.out | refine below_set ?_ GE216.out) | exact HB.out)) hb)
           have n6_ := Aside0.mk (hbox)
           have n7_ := Aside0.mk ((by rw [hg]; exact (below_size (by repeat (first | (with_reducible first | exact HB.out | apply below_alloc | apply pw_below_drewN | apply below_drew1 | refine below_set ?_ GE210.out | refine below_set ?_ GE216.out) | exact HB.out))) : w.heap.size ≤ gb226))
           have n8_ := Aside0.mk ((by rw [hg]; exact (below_size (by repeat (first | (with_reducible first | exact HB.out | apply below_alloc | apply pw_below_drewN | apply below_drew1 | refine below_set ?_ GE210.out | refine below_set ?_ GE216.out) | exact HB.out))) : w.heap.size ≤ gb226))
           have n9_ := Aside0.mk ((by rw [hg]; exact Nat.ne_of_lt (blk_lt (g := gb210) (o := .cells #[.slice Ao28 x211000_2.length co28, .int .i64 x211001_2, .int .i64 x211002_2] 24 (0, 0)) (by (with_reducible repeat (first | refine blk_drewN ?_ _ | refine blk_drew ?_ | refine blk_alloc ?_ _)); exact BK210.out)) : gb210 ≠ gb226))
           have n10_ := Aside0.mk ((by rw [hg]; exact Nat.ne_of_gt (blk_lt (g := gb210) (o := .cells #[.slice Ao28 x211000_2.length co28, .int .i64 x211001_2, .int .i64 x211002_2] 24 (0, 0)) (by (with_reducible repeat (first | refine blk_drewN ?_ _ | refine blk_drew ?_ | refine blk_alloc ?_ _)); exact BK210.out)) : gb226 ≠ gb210))
           have n11_ := Aside0.mk ((by rw [hg]; exact Nat.ne_of_lt (blk_lt (g := gb216) (o := .cells #[u217000, .int .i64 x217001_2, .int .i64 x217002_2] 24 (0, 0)) (by (with_reducible repeat (first | refine blk_drewN ?_ _ | refine blk_drew ?_ | refine blk_alloc ?_ _)); exact BK216.out)) : gb216 ≠ gb226))
           have n12_ := Aside0.mk ((by rw [hg]; exact Nat.ne_of_gt (blk_lt (g := gb216) (o := .cells #[u217000, .int .i64 x217001_2, .int .i64 x217002_2] 24 (0, 0)) (by (with_reducible repeat (first | refine blk_drewN ?_ _ | refine blk_drew ?_ | refine blk_alloc ?_ _)); exact BK216.out)) : gb226 ≠ gb216))
           clear HO_211000
           clear HO_217000
           clear HO223
           clear BK210
           clear BK216
           clear HB
           have HO_211000 := n0_
           have HO_217000 := n1_
           have HO223 := n2_
           have BK210 := n3_
           have BK216 := n4_
           have HB := n5_
           have BK226 := n6_
           have GW226 := n7_
           have GE226 := n8_
           have NB210_226 := n9_
           have NB226_210 := n10_
           have NB216_226 := n11_
           have NB226_216 := n12_
           clear n0_ n1_ n2_ n3_ n4_ n5_ n6_ n7_ n8_ n9_ n10_ n11_ n12_
           clear hb hbox hg
           refine hK.out _ _ ⟨(blk_cell BK210.out 0).trans rfl, (blk_cell BK210.out 1).trans rfl, (blk_cell BK210.out 2).trans rfl, ((HB.out.cell (World.block_lt_of_cell? w _ hw219_0)).trans hw219_0)⟩ (fun hHeld => ?_)
           clear hK K
           refine norm_ (a' := ?_) ?_ ?_
           rotate_left
           ·
            show Act.put _ (some 9) _ = _
            simp only [Act.put, List.setIfInBounds_toArray, List.set_cons_zero, List.set_cons_succ, i64_w, i32_w]
            rfl
           exact norm_ (by simp only [putAll, Act.put, List.setIfInBounds_toArray, List.set_cons_zero, List.set_cons_succ]) (hCont (v222, gb226) _ ⟨hHeld, (by (with_reducible repeat (first | apply Kd.V_alloc | apply Kd.V_drewN | apply Kd.V_drew)); exact Kd.V_mono HO223.out (fun _ hk => ⟨hk.1.1, ⟨hk.1.2, hk.2⟩⟩)), (by (with_reducible repeat (first | apply Kd.V_alloc | apply Kd.V_drewN | apply Kd.V_drew)); exact Kd.V_mono HO_211000.out (fun _ hk => ⟨hk.1.1, ⟨hk.1.2, hk.2⟩⟩)), (by (with_reducible repeat (first | apply Kd.V_alloc | apply Kd.V_drewN | apply Kd.V_drew)); exact Kd.V_mono HO_217000.out (fun _ hk => ⟨hk.1.1, ⟨hk.1.2, hk.2⟩⟩)), (by (with_reducible repeat (first | refine blk_drewN ?_ _ | refine blk_drew ?_ | refine blk_alloc ?_ _)); exact BK210.out), (by (with_reducible repeat (first | refine blk_drewN ?_ _ | refine blk_drew ?_ | refine blk_alloc ?_ _)); exact BK216.out), (by (with_reducible repeat (first | refine blk_drewN ?_ _ | refine blk_drew ?_ | refine blk_alloc ?_ _)); exact BK226.out), GW226.out, GE226.out, NB210_226.out, NB226_210.out, NB216_226.out, NB226_216.out, (by repeat (first | (with_reducible first | exact HB.out | apply below_alloc | apply pw_below_drewN | apply below_drew1 | refine below_set ?_ GE210.out | refine below_set ?_ GE216.out | refine below_set ?_ GE226.out) | exact HB.out))⟩)
          ·
           skip
           refine box_step ?hg (N := 9) ?hd (cs := #[.slice none 0 0, .int .i64 0, .int .i64 0]) (t := 24) ?hr ?_; (case hd => rfl); (case hg => rfl); (case hr => first | (go_simp; done) | (go_simp; rfl))
           intro gb226 hg w30 hbox hb
           have n0_ := Aside0.mk (Kd.V_below (Kd.V_elderB (by (with_reducible repeat (first | apply Kd.V_alloc | apply Kd.V_drewN | apply Kd.V_drew)); exact HO_211000.out) gb226 (Nat.le_of_eq hg.symm)) hb)
           have n1_ := Aside0.mk (Kd.V_below (Kd.V_elderB (by (with_reducible repeat (first | apply Kd.V_alloc | apply Kd.V_drewN | apply Kd.V_drew)); exact HO_217000.out) gb226 (Nat.le_of_eq hg.symm)) hb)
           have n2_ := Aside0.mk (blk_below (g := gb210) (o := .cells #[.slice Ao28 x211000_2.length co28, .int .i64 x211001_2, .int .i64 x211002_2] 24 (0, 0)) (by (with_reducible repeat (first | refine blk_drewN ?_ _ | refine blk_drew ?_ | refine blk_alloc ?_ _)); exact BK210.out) hb)
           have n3_ := Aside0.mk (blk_below (g := gb216) (o := .cells #[u217000, .int .i64 x217001_2, .int .i64 x217002_2] 24 (0, 0)) (by (with_reducible repeat (first | refine blk_drewN ?_ _ | refine blk_drew ?_ | refine blk_alloc ?_ _)); exact BK216.out) hb)
           have n4_ := Aside0.mk (below_step (by repeat (first | (with_reducible first | exact HB.out | apply below_alloc | apply pw_below_drewN | apply below_drew1 | refine below_set ?_ GE210.out | refine below_set ?_ GE216.out) | exact HB.out)) hb)
           have n5_ := Aside0.mk (hbox)
           have n6_ := Aside0.mk ((by rw [hg]; exact (below_size (by repeat (first | (with_reducible first | exact HB.out | apply below_alloc | apply pw_below_drewN | apply below_drew1 | refine below_set ?_ GE210.out | refine below_set ?_ GE216.out) | exact HB.out))) : w.heap.size ≤ gb226))
           have n7_ := Aside0.mk ((by rw [hg]; exact (below_size (by repeat (first | (with_reducible first | exact HB.out | apply below_alloc | apply pw_below_drewN | apply below_drew1 | refine below_set ?_ GE210.out | refine below_set ?_ GE216.out) | exact HB.out))) : w.heap.size ≤ gb226))
           have n8_ := Aside0.mk ((by rw [hg]; exact Nat.ne_of_lt (blk_lt (g := gb210) (o := .cells #[.slice Ao28 x211000_2.length co28, .int .i64 x211001_2, .int .i64 x211002_2] 24 (0, 0)) (by (with_reducible repeat (first | refine blk_drewN ?_ _ | refine blk_drew ?_ | refine blk_alloc ?_ _)); exact BK210.out)) : gb210 ≠ gb226))
           have n9_ := Aside0.mk ((by rw [hg]; exact Nat.ne_of_gt (blk_lt (g := gb210) (o := .cells #[.slice Ao28 x211000_2.length co28, .int .i64 x211001_2, .int .i64 x211002_2] 24 (0, 0)) (by (with_reducible repeat (first | refine blk_drewN ?_ _ | refine blk_drew ?_ | refine blk_alloc ?_ _)); exact BK210.out)) : gb226 ≠ gb210))
           have n10_ := Aside0.mk ((by rw [hg]; exact Nat.ne_of_lt (blk_lt (g := gb216) (o := .cells #[u217000, .int .i64 x217001_2, .int .i64 x217002_2] 24 (0, 0)) (by (with_reducible repeat (first | refine blk_drewN ?_ _ | refine blk_drew ?_ | refine blk_alloc ?_ _)); exact BK216.out)) : gb216 ≠ gb226))
           have n11_ := Aside0.mk ((by rw [hg]; exact Nat.ne_of_gt (blk_lt (g := gb216) (o := .cells #[u217000, .int .i64 x217001_2, .int .i64 x217002_2] 24 (0, 0)) (by (with_reducible repeat (first | refine blk_drewN ?_ _ | refine blk_drew ?_ | refine blk_alloc ?_ _)); exact BK216.out)) : gb226 ≠ gb216))
           clear HO_211000
           clear HO_217000
           clear BK210
           clear BK216
           clear HB
           have HO_211000 := n0_
           have HO_217000 := n1_
           have BK210 := n2_
           have BK216 := n3_
           have HB := n4_
           have BK226 := n5_
           have GW226 := n6_
           have GE226 := n7_
           have NB210_226 := n8_
           have NB226_210 := n9_
           have NB216_226 := n10_
           have NB226_216 := n11_
           clear n0_ n1_ n2_ n3_ n4_ n5_ n6_ n7_ n8_ n9_ n10_ n11_
           clear hb hbox hg
           refine hK.out _ _ ⟨(blk_cell BK210.out 0).trans rfl, (blk_cell BK210.out 1).trans rfl, (blk_cell BK210.out 2).trans rfl, ((HB.out.cell (World.block_lt_of_cell? w _ hw219_0)).trans hw219_0)⟩ (fun hHeld => ?_)
           clear hK K
           refine norm_ (a' := ?_) ?_ ?_
           rotate_left
           ·
            show Act.put _ (some 9) _ = _
            simp only [Act.put, List.setIfInBounds_toArray, List.set_cons_zero, List.set_cons_succ, i64_w, i32_w]
            rfl
           refine one_ (i := 5) (N := some 43) #[true, true, true, true, true, true, false, false, false, true, false, false] rfl rfl (one_of HT_.out (by kernel_rfl)) (by decide) (fun K hK => ?_)
           refine goes_ Tryd.func13 (by kernel_rfl) rfl #[.agg #[.slice Ao28 x211000_2.length co28, .int .i64 x211001_2, .int .i64 x211002_2], .slice A219_0 (rd_L3 l1 x7_2).length c219_0] (by rfl) rfl rfl (by (try simp only [List.map_toArray, List.map_cons, List.map_nil]); first | done | rfl | (simp only [List.length_drop, List.length_take]; rfl)) ?_
           with_reducible refine (pick_Next.calls k2 (fun k_ => ((k_ ≠ gb210 ∧ k_ ≠ gb216) ∧ k_ ≠ gb226)) _ _ x211000_2 x211001_2 x211002_2 _ _ (rd_L3 l1 x7_2) t220 t221 t224 t225 _ ?side1 ?side2 ?side3 A25.out).mono ?_
           (case side1 => exact HO_211000.out)
           (case side2 => repeat (first | exact (Kd.C_below HR219_0.out HB.out) | (with_reducible refine Kd.C_alloc ?_ _) | (with_reducible refine Kd.C_drewN ?_ _) | (with_reducible refine Kd.C_drew ?_)))
           (case side3 => exact HC219_0.out)
           rintro e w31 ⟨v222, rfl, ho0, hb⟩
           refine ⟨_, rfl, ?_⟩
           have n0_ := Aside0.mk (Kd.V_below (by (with_reducible repeat (first | apply Kd.V_alloc | apply Kd.V_drewN | apply Kd.V_drew)); exact HO_211000.out) hb)
           have n1_ := Aside0.mk (Kd.V_below (by (with_reducible repeat (first | apply Kd.V_alloc | apply Kd.V_drewN | apply Kd.V_drew)); exact HO_217000.out) hb)
           have n2_ := Aside0.mk (Kd.V_lower (Kd.V_mono (ok' := fun k_ => k_ ≠ gb210 ∧ k_ ≠ gb216 ∧ k_ ≠ gb226) ho0 (fun k_ hk_ => ⟨Or.elim hk_ (fun hs_ => hs_.1.1) (fun hn_ => (Kd.freshB (g := gb210) (o := .cells #[.slice Ao28 x211000_2.length co28, .int .i64 x211001_2, .int .i64 x211002_2] 24 (0, 0)) (by (with_reducible repeat (first | refine blk_drewN ?_ _ | refine blk_drew ?_ | refine blk_alloc ?_ _)); exact BK210.out) k_ hn_)), Or.elim hk_ (fun hs_ => hs_.1.2) (fun hn_ => (Kd.freshB (g := gb216) (o := .cells #[u217000, .int .i64 x217001_2, .int .i64 x217002_2] 24 (0, 0)) (by (with_reducible repeat (first | refine blk_drewN ?_ _ | refine blk_drew ?_ | refine blk_alloc ?_ _)); exact BK216.out) k_ hn_)), Or.elim hk_ (fun hs_ => hs_.2) (fun hn_ => (Kd.freshB (g := gb226) (o := .cells #[.slice none 0 0, .int .i64 0, .int .i64 0] 24 (0, 0)) (by (with_reducible repeat (first | refine blk_drewN ?_ _ | refine blk_drew ?_ | refine blk_alloc ?_ _)); exact BK226.out) k_ hn_))⟩)) (below_size (by repeat (first | (with_reducible first | exact HB.out | apply below_alloc | apply pw_below_drewN | apply below_drew1 | refine below_set ?_ GE210.out | refine below_set ?_ GE216.out | refine below_set ?_ GE226.out) | exact HB.out))))
           have n3_ := Aside0.mk (blk_below (g := gb210) (o := .cells #[.slice Ao28 x211000_2.length co28, .int .i64 x211001_2, .int .i64 x211002_2] 24 (0, 0)) (by (with_reducible repeat (first | refine blk_drewN ?_ _ | refine blk_drew ?_ | refine blk_alloc ?_ _)); exact BK210.out) hb)
           have n4_ := Aside0.mk (blk_below (g := gb216) (o := .cells #[u217000, .int .i64 x217001_2, .int .i64 x217002_2] 24 (0, 0)) (by (with_reducible repeat (first | refine blk_drewN ?_ _ | refine blk_drew ?_ | refine blk_alloc ?_ _)); exact BK216.out) hb)
           have n5_ := Aside0.mk (blk_below (g := gb226) (o := .cells #[.slice none 0 0, .int .i64 0, .int .i64 0] 24 (0, 0)) (by (with_reducible repeat (first | refine blk_drewN ?_ _ | refine blk_drew ?_ | refine blk_alloc ?_ _)); exact BK226.out) hb)
           have n6_ := Aside0.mk (below_step (by repeat (first | (with_reducible first | exact HB.out | apply below_alloc | apply pw_below_drewN | apply below_drew1 | refine below_set ?_ GE210.out | refine below_set ?_ GE216.out | refine below_set ?_ GE226.out) | exact HB.out)) hb)
           clear HO_211000
           clear HO_217000
           clear BK210
           clear BK216
           clear BK226
           clear HB
           have HO_211000 := n0_
           have HO_217000 := n1_
           have HO223 := n2_
           have BK210 := n3_
           have BK216 := n4_
           have BK226 := n5_
           have HB := n6_
           clear n0_ n1_ n2_ n3_ n4_ n5_ n6_
           (try clear hb)
           (try clear hb2)
           (try clear hk)
           (try clear hi)
           (try clear ho0)
           refine hK.out _ _ ⟨(blk_cell BK210.out 0).trans rfl, (blk_cell BK210.out 1).trans rfl, (blk_cell BK210.out 2).trans rfl, ((HB.out.cell (World.block_lt_of_cell? w _ hw219_0)).trans hw219_0)⟩ (fun hHeld => ?_)
           clear hK K
           refine norm_ (a' := ?_) ?_ ?_
           rotate_left
           ·
            show Act.put _ (some 43) _ = _
            simp only [Act.put, List.setIfInBounds_toArray, List.set_cons_zero, List.set_cons_succ, i64_w, i32_w]
            rfl
           refine pure_ (i := 6) (N := some 37) (v := ?_) (a' := ?_) #[true, true, true, true, true, true, true, false, false, true, false, false] rfl rfl (any_of HT_.out (by kernel_rfl)) (fun _ _ _ h => h) (Or.inl ⟨by rfl, ?_⟩) ?_ ?_
           rotate_left
           ·
            intro w'
            go_simp
            with_reducible rfl
           rotate_left
           ·
            simp only [Act.put, List.setIfInBounds_toArray, List.set_cons_zero, List.set_cons_succ, i64_w, i32_w]
            rfl
           refine pure_ (i := 7) (N := some 44) (v := ?_) (a' := ?_) #[true, true, true, true, true, true, true, true, false, true, false, false] rfl rfl (any_of HT_.out (by kernel_rfl)) (fun _ _ _ h => h) (Or.inl ⟨by rfl, ?_⟩) ?_ ?_
           rotate_left
           ·
            intro w'
            go_simp
            with_reducible rfl
           rotate_left
           ·
            simp only [Act.put, List.setIfInBounds_toArray, List.set_cons_zero, List.set_cons_succ, i64_w, i32_w]
            rfl
           refine pure_ (i := 8) (N := some 45) (v := ?_) (a' := ?_) #[true, true, true, true, true, true, true, true, true, true, false, false] rfl rfl (any_of HT_.out (by kernel_rfl)) (fun _ _ _ h => h) (Or.inl ⟨by rfl, ?_⟩) ?_ ?_
           rotate_left
           ·
            intro w'
            go_simp
            with_reducible rfl
           rotate_left
           ·
            simp only [Act.put, List.setIfInBounds_toArray, List.set_cons_zero, List.set_cons_succ, i64_w, i32_w]
            rfl
           exact norm_ (by simp only [putAll, Act.put, List.setIfInBounds_toArray, List.set_cons_zero, List.set_cons_succ]) (hCont (v222, gb226) _ ⟨hHeld, (by (with_reducible repeat (first | apply Kd.V_alloc | apply Kd.V_drewN | apply Kd.V_drew)); exact HO223.out), (by (with_reducible repeat (first | apply Kd.V_alloc | apply Kd.V_drewN | apply Kd.V_drew)); exact Kd.V_mono HO_211000.out (fun _ hk => ⟨hk.1.1, ⟨hk.1.2, hk.2⟩⟩)), (by (with_reducible repeat (first | apply Kd.V_alloc | apply Kd.V_drewN | apply Kd.V_drew)); exact Kd.V_mono HO_217000.out (fun _ hk => ⟨hk.1.1, ⟨hk.1.2, hk.2⟩⟩)), (by (with_reducible repeat (first | refine blk_drewN ?_ _ | refine blk_drew ?_ | refine blk_alloc ?_ _)); exact BK210.out), (by (with_reducible repeat (first | refine blk_drewN ?_ _ | refine blk_drew ?_ | refine blk_alloc ?_ _)); exact BK216.out), (by (with_reducible repeat (first | refine blk_drewN ?_ _ | refine blk_drew ?_ | refine blk_alloc ?_ _)); exact BK226.out), GW226.out, GE226.out, NB210_226.out, NB226_210.out, NB216_226.out, NB226_216.out, (by repeat (first | (with_reducible first | exact HB.out | apply below_alloc | apply pw_below_drewN | apply below_drew1 | refine below_set ?_ GE210.out | refine below_set ?_ GE216.out | refine below_set ?_ GE226.out) | exact HB.out))⟩)
         rintro ⟨v222, gb226⟩ w32 ⟨hS_, h0_, h1_, h2_, h3_, h4_, h5_, h6_, h7_, h8_, h9_, h10_, h11_, h12_⟩
         have n0_ : Aside0 (Kd.V (Kd.int .i64) 3 w32 w.heap.size (fun k_ => k_ ≠ gb210 ∧ k_ ≠ gb216 ∧ k_ ≠ gb226) v222 t221) := ⟨h0_⟩
         have n1_ : Aside0 (Kd.V (Kd.int .i64) 3 w32 w.heap.size (fun k_ => k_ ≠ gb210 ∧ k_ ≠ gb216 ∧ k_ ≠ gb226) (.slice Ao28 x211000_2.length co28) x211000_2) := ⟨h1_⟩
         have n2_ : Aside0 (Kd.V (Kd.int .i64) 3 w32 w.heap.size (fun k_ => k_ ≠ gb210 ∧ k_ ≠ gb216 ∧ k_ ≠ gb226) u217000 x217000_2) := ⟨h2_⟩
         have n3_ : Aside0 (w32.heap[gb210]? = some (.cells #[.slice Ao28 x211000_2.length co28, .int .i64 x211001_2, .int .i64 x211002_2] 24 (0, 0))) := ⟨h3_⟩
         have n4_ : Aside0 (w32.heap[gb216]? = some (.cells #[u217000, .int .i64 x217001_2, .int .i64 x217002_2] 24 (0, 0))) := ⟨h4_⟩
         have n5_ : Aside0 (w32.heap[gb226]? = some (.cells #[.slice none 0 0, .int .i64 0, .int .i64 0] 24 (0, 0))) := ⟨h5_⟩
         have n6_ : Aside0 (w.heap.size ≤ gb226) := ⟨h6_⟩
         have n7_ : Aside0 (w.heap.size ≤ gb226) := ⟨h7_⟩
         have n8_ : Aside0 (gb210 ≠ gb226) := ⟨h8_⟩
         have n9_ : Aside0 (gb226 ≠ gb210) := ⟨h9_⟩
         have n10_ : Aside0 (gb216 ≠ gb226) := ⟨h10_⟩
         have n11_ : Aside0 (gb226 ≠ gb216) := ⟨h11_⟩
         have n12_ : Aside0 (Below w.heap.size w w32) := ⟨h12_⟩
         clear HO_211000
         clear HO_217000
         clear BK210
         clear BK216
         clear HB
         clear h0_ h1_ h2_ h3_ h4_ h5_ h6_ h7_ h8_ h9_ h10_ h11_ h12_
         have HO223 := n0_
         have HO_211000 := n1_
         have HO_217000 := n2_
         have BK210 := n3_
         have BK216 := n4_
         have BK226 := n5_
         have GW226 := n6_
         have GE226 := n7_
         have NB210_226 := n8_
         have NB226_210 := n9_
         have NB216_226 := n10_
         have NB226_216 := n11_
         have HB := n12_
         clear n0_ n1_ n2_ n3_ n4_ n5_ n6_ n7_ n8_ n9_ n10_ n11_ n12_
         have hHeld : w32.cell? ⟨gb210, 0, none⟩ = some (.slice Ao28 x211000_2.length co28) ∧ w32.cell? ⟨gb210, 1, none⟩ = some (.int .i64 x211001_2) ∧ w32.cell? ⟨gb210, 2, none⟩ = some (.int .i64 x211002_2) ∧ w32.cell? (ad217.add (x7_2).toNat) = some (.slice A219_0 (rd_L3 l1 x7_2).length c219_0) := hS_
         obtain ⟨Ao33, co33, eo33⟩ := Kd.V_slice HO223.out
         (first | subst eo33 | (injection eo33 with f1_ f2_ f3_; have f4_ := f1_.symm; have f5_ := f3_.symm; clear f1_ f2_ f3_; subst f4_; subst f5_))
         refine norm_ (a' := ?_) ?_ ?_
         rotate_left
         ·
          simp only [putAll, Act.put, List.setIfInBounds_toArray, List.set_cons_zero, List.set_cons_succ]
          rfl
         refine pure_ (i := 10) (N := some 8) (v := ?_) (a' := ?_) #[true, true, true, true, true, true, true, true, true, true, true, false] rfl rfl (any_of HT_.out (by kernel_rfl)) (fun _ _ _ h => h) (Or.inl ⟨by rfl, ?_⟩) ?_ ?_
         rotate_left
         ·
          intro w'
          go_simp
          with_reducible rfl
         rotate_left
         ·
          simp only [Act.put, List.setIfInBounds_toArray, List.set_cons_zero, List.set_cons_succ, i64_w, i32_w]
          rfl
         refine one_ (i := 11) (N := none) #[true, true, true, true, true, true, true, true, true, true, true, true] rfl rfl (one_of HT_.out (by kernel_rfl)) (by decide) (fun K hK => ?_)
         have hs34 : w32.cell? ⟨gb226, 0, none⟩ = some (.slice none 0 0) := (blk_cell BK226.out 0).trans rfl
         have hfs34 := blk_frozen BK226.out 0
         have hns34_0 := NB210_226.out
         have hns34_1 := NB216_226.out
         have hms34_0 := NB226_210.out
         have hms34_1 := NB226_216.out
         have hs35 : w32.cell? ⟨gb226, 1, none⟩ = some (.int .i64 0) := (blk_cell BK226.out 1).trans rfl
         have hfs35 := blk_frozen BK226.out 1
         have hns35_0 := NB210_226.out
         have hns35_1 := NB216_226.out
         have hms35_0 := NB226_210.out
         have hms35_1 := NB226_216.out
         have hs36 : w32.cell? ⟨gb226, 2, none⟩ = some (.int .i64 0) := (blk_cell BK226.out 2).trans rfl
         have hfs36 := blk_frozen BK226.out 2
         have hns36_0 := NB210_226.out
         have hns36_1 := NB216_226.out
         have hms36_0 := NB226_210.out
         have hms36_1 := NB226_216.out
         refine skip_ (w1 := ?_) (by rfl) rfl ?_ ?_
         rotate_left
         ·
          go_simp
          rfl
         refine hK.out _ _ ⟨((cell_far (p := ⟨gb226, _, none⟩) NB210_226.out _).trans (((cell_far (p := ⟨gb226, _, none⟩) NB210_226.out _).trans (((cell_far (p := ⟨gb226, _, none⟩) NB210_226.out _).trans (hHeld.1)))))), ((cell_far (p := ⟨gb226, _, none⟩) NB210_226.out _).trans (((cell_far (p := ⟨gb226, _, none⟩) NB210_226.out _).trans (((cell_far (p := ⟨gb226, _, none⟩) NB210_226.out _).trans (hHeld.2.1)))))), ((cell_far (p := ⟨gb226, _, none⟩) NB210_226.out _).trans (((cell_far (p := ⟨gb226, _, none⟩) NB210_226.out _).trans (((cell_far (p := ⟨gb226, _, none⟩) NB210_226.out _).trans (hHeld.2.2.1)))))), (by (iterate 3 refine (cell_far (p := ⟨gb226, _, none⟩) (by (first | (show (Addr.add _ _).block ≠ _; rw [add_block]) | rw [add_block] | skip); exact Nat.ne_of_lt (Nat.lt_of_lt_of_le (by have := World.block_lt_of_cell? _ _ hw219_0; first | rwa [add_block] at this | exact this) GW226.out)) _).trans ?_); exact hHeld.2.2.2)⟩ (fun hHeld => ?_)
         clear hK K
         refine done_ (done_of HT_.out (by kernel_rfl)) ?_
         obtain ⟨Ao37, co37, eo37⟩ := Kd.V_slice HO_217000.out
         subst eo37
         try go_wp2
         have n0_ : Aside0 (Kd.V (Kd.int .i64) 3 (((w32.setCell ⟨gb226, 0, none⟩ (.slice Ao33 t221.length co33)).setCell ⟨gb226, 1, none⟩ (.int .i64 t224)).setCell ⟨gb226, 2, none⟩ (.int .i64 t225)) w.heap.size (fun k_ => k_ ≠ gb210 ∧ k_ ≠ gb216 ∧ k_ ≠ gb226) (.slice Ao28 x211000_2.length co28) x211000_2) := ⟨by (with_reducible repeat (first | apply Kd.V_alloc | apply Kd.V_drewN | apply Kd.V_drew)); exact Kd.V_mono (Kd.V_far (p := ⟨gb226, 2, none⟩) (Kd.V_far (p := ⟨gb226, 1, none⟩) (Kd.V_far (p := ⟨gb226, 0, none⟩) (Kd.V_mono HO_211000.out (fun k_ hk => (⟨hk, hk.2.2⟩ : _ ∧ k_ ≠ gb226))) (fun _ hk => hk.2) (.slice Ao33 t221.length co33)) (fun _ hk => hk.2) (.int .i64 t224)) (fun _ hk => hk.2) (.int .i64 t225)) (fun _ hk => ⟨hk.1.1, ⟨hk.1.2.1, hk.1.2.2⟩⟩)⟩
         have n1_ : Aside0 (Kd.V (Kd.int .i64) 3 (((w32.setCell ⟨gb226, 0, none⟩ (.slice Ao33 t221.length co33)).setCell ⟨gb226, 1, none⟩ (.int .i64 t224)).setCell ⟨gb226, 2, none⟩ (.int .i64 t225)) w.heap.size (fun k_ => k_ ≠ gb210 ∧ k_ ≠ gb216 ∧ k_ ≠ gb226) (.slice Ao37 x217000_2.length co37) x217000_2) := ⟨by (with_reducible repeat (first | apply Kd.V_alloc | apply Kd.V_drewN | apply Kd.V_drew)); exact Kd.V_mono (Kd.V_far (p := ⟨gb226, 2, none⟩) (Kd.V_far (p := ⟨gb226, 1, none⟩) (Kd.V_far (p := ⟨gb226, 0, none⟩) (Kd.V_mono HO_217000.out (fun k_ hk => (⟨hk, hk.2.2⟩ : _ ∧ k_ ≠ gb226))) (fun _ hk => hk.2) (.slice Ao33 t221.length co33)) (fun _ hk => hk.2) (.int .i64 t224)) (fun _ hk => hk.2) (.int .i64 t225)) (fun _ hk => ⟨hk.1.1, ⟨hk.1.2.1, hk.1.2.2⟩⟩)⟩
         have n2_ : Aside0 (Kd.V (Kd.int .i64) 3 (((w32.setCell ⟨gb226, 0, none⟩ (.slice Ao33 t221.length co33)).setCell ⟨gb226, 1, none⟩ (.int .i64 t224)).setCell ⟨gb226, 2, none⟩ (.int .i64 t225)) w.heap.size (fun k_ => k_ ≠ gb210 ∧ k_ ≠ gb216 ∧ k_ ≠ gb226) (.slice Ao33 t221.length co33) t221) := ⟨by (with_reducible repeat (first | apply Kd.V_alloc | apply Kd.V_drewN | apply Kd.V_drew)); exact Kd.V_mono (Kd.V_far (p := ⟨gb226, 2, none⟩) (Kd.V_far (p := ⟨gb226, 1, none⟩) (Kd.V_far (p := ⟨gb226, 0, none⟩) (Kd.V_mono HO223.out (fun k_ hk => (⟨hk, hk.2.2⟩ : _ ∧ k_ ≠ gb226))) (fun _ hk => hk.2) (.slice Ao33 t221.length co33)) (fun _ hk => hk.2) (.int .i64 t224)) (fun _ hk => hk.2) (.int .i64 t225)) (fun _ hk => ⟨hk.1.1, ⟨hk.1.2.1, hk.1.2.2⟩⟩)⟩
         have n3_ : Aside0 ((((w32.setCell ⟨gb226, 0, none⟩ (.slice Ao33 t221.length co33)).setCell ⟨gb226, 1, none⟩ (.int .i64 t224)).setCell ⟨gb226, 2, none⟩ (.int .i64 t225)).heap[gb210]? = some (.cells #[.slice Ao28 x211000_2.length co28, .int .i64 x211001_2, .int .i64 x211002_2] 24 (0, 0))) := ⟨by (with_reducible repeat (first | refine blk_drewN ?_ _ | refine blk_drew ?_ | refine blk_alloc ?_ _)); refine blk_far ?_ NB210_226.out _; (with_reducible repeat (first | refine blk_drewN ?_ _ | refine blk_drew ?_ | refine blk_alloc ?_ _)); refine blk_far ?_ NB210_226.out _; (with_reducible repeat (first | refine blk_drewN ?_ _ | refine blk_drew ?_ | refine blk_alloc ?_ _)); refine blk_far ?_ NB210_226.out _; (with_reducible repeat (first | refine blk_drewN ?_ _ | refine blk_drew ?_ | refine blk_alloc ?_ _)); exact BK210.out⟩
         have n4_ : Aside0 ((((w32.setCell ⟨gb226, 0, none⟩ (.slice Ao33 t221.length co33)).setCell ⟨gb226, 1, none⟩ (.int .i64 t224)).setCell ⟨gb226, 2, none⟩ (.int .i64 t225)).heap[gb216]? = some (.cells #[.slice Ao37 x217000_2.length co37, .int .i64 x217001_2, .int .i64 x217002_2] 24 (0, 0))) := ⟨by (with_reducible repeat (first | refine blk_drewN ?_ _ | refine blk_drew ?_ | refine blk_alloc ?_ _)); refine blk_far ?_ NB216_226.out _; (with_reducible repeat (first | refine blk_drewN ?_ _ | refine blk_drew ?_ | refine blk_alloc ?_ _)); refine blk_far ?_ NB216_226.out _; (with_reducible repeat (first | refine blk_drewN ?_ _ | refine blk_drew ?_ | refine blk_alloc ?_ _)); refine blk_far ?_ NB216_226.out _; (with_reducible repeat (first | refine blk_drewN ?_ _ | refine blk_drew ?_ | refine blk_alloc ?_ _)); exact BK216.out⟩
         have n5_ : Aside0 ((((w32.setCell ⟨gb226, 0, none⟩ (.slice Ao33 t221.length co33)).setCell ⟨gb226, 1, none⟩ (.int .i64 t224)).setCell ⟨gb226, 2, none⟩ (.int .i64 t225)).heap[gb226]? = some (.cells #[.slice Ao33 t221.length co33, .int .i64 t224, .int .i64 t225] 24 (0, 0))) := ⟨by (with_reducible repeat (first | refine blk_drewN ?_ _ | refine blk_drew ?_ | refine blk_alloc ?_ _)); refine blk_put (cs := #[.slice Ao33 t221.length co33, .int .i64 t224, .int .i64 0]) ?_ 2 _ rfl; (with_reducible repeat (first | refine blk_drewN ?_ _ | refine blk_drew ?_ | refine blk_alloc ?_ _)); refine blk_put (cs := #[.slice Ao33 t221.length co33, .int .i64 0, .int .i64 0]) ?_ 1 _ rfl; (with_reducible repeat (first | refine blk_drewN ?_ _ | refine blk_drew ?_ | refine blk_alloc ?_ _)); refine blk_put (cs := #[.slice none 0 0, .int .i64 0, .int .i64 0]) ?_ 0 _ rfl; (with_reducible repeat (first | refine blk_drewN ?_ _ | refine blk_drew ?_ | refine blk_alloc ?_ _)); exact BK226.out⟩
         have n6_ : Aside0 (Below w.heap.size w (((w32.setCell ⟨gb226, 0, none⟩ (.slice Ao33 t221.length co33)).setCell ⟨gb226, 1, none⟩ (.int .i64 t224)).setCell ⟨gb226, 2, none⟩ (.int .i64 t225))) := ⟨by repeat (first | (with_reducible first | exact HB.out | apply below_alloc | apply pw_below_drewN | apply below_drew1 | refine below_set ?_ GE210.out | refine below_set ?_ GE216.out | refine below_set ?_ GE226.out) | exact HB.out)⟩
         (try clear HO_211000)
         (try clear HO_217000)
         (try clear HO223)
         (try clear BK210)
         (try clear BK216)
         (try clear BK226)
         (try clear HB)
         generalize (((w32.setCell ⟨gb226, 0, none⟩ (.slice Ao33 t221.length co33)).setCell ⟨gb226, 1, none⟩ (.int .i64 t224)).setCell ⟨gb226, 2, none⟩ (.int .i64 t225)) = w38 at n0_ n1_ n2_ n3_ n4_ n5_ n6_ ⊢
         have HO_211000 := n0_
         have HO_217000 := n1_
         have HO223 := n2_
         have BK210 := n3_
         have BK216 := n4_
         have BK226 := n5_
         have HB := n6_
         clear n0_ n1_ n2_ n3_ n4_ n5_ n6_
         have n0_ := Aside0.mk (Kd.V_drew HO_211000.out)
         have n1_ := Aside0.mk (Kd.V_drew HO_217000.out)
         have n2_ := Aside0.mk (Kd.V_drew HO223.out)
         have n3_ := Aside0.mk (blk_drew BK210.out)
         have n4_ := Aside0.mk (blk_drew BK216.out)
         have n5_ := Aside0.mk (blk_drew BK226.out)
         have n6_ := Aside0.mk (below_drew1 HB.out)
         clear HO_211000
         clear HO_217000
         clear HO223
         clear BK210
         clear BK216
         clear BK226
         clear HB
         have HO_211000 := n0_
         have HO_217000 := n1_
         have HO223 := n2_
         have BK210 := n3_
         have BK216 := n4_
         have BK226 := n5_
         have HB := n6_
         clear n0_ n1_ n2_ n3_ n4_ n5_ n6_
         have p227 : 0 ≤ (x7_2 : Int) := of_decide_eq_true (by first | (with_reducible assumption) | assumption)
         have q227 : x7_2 < (l1.length : Int) := of_decide_eq_true (by first | (with_reducible assumption) | assumption)
         obtain ⟨ad227, A227_0, c227_0, e227, hx227_0, hl227_0, hi227_0⟩ := at_L3 HR1.out x7_2 p227 q227
         have hw227_0 := hx227_0
         obtain rfl : ad217 = ad227 := (by injection e227)
         replace hx227_0 := (HB.out.cell (World.block_lt_of_cell? w _ hx227_0)).trans hx227_0
         have HR227_0 := Aside0.mk hi227_0
         have HC227_0 := Aside0.mk hl227_0
         clear hi227_0 hl227_0
         replace p227 := eq_true p227
         replace q227 := eq_true q227
         refine start_ (n := 8) (S := fun w' => w'.cell? ⟨gb216, 0, none⟩ = some (.slice Ao37 x217000_2.length co37) ∧ w'.cell? ⟨gb216, 1, none⟩ = some (.int .i64 x217001_2) ∧ w'.cell? ⟨gb216, 2, none⟩ = some (.int .i64 x217002_2) ∧ w'.cell? (ad217.add (x7_2).toNat) = some (.slice A227_0 (rd_L3 l1 x7_2).length c227_0)) (ds := []) #[false, false, false, false, false, false, false, false] (by kernel_rfl) rfl rfl ⟨(blk_cell BK216.out 0).trans rfl, (blk_cell BK216.out 1).trans rfl, (blk_cell BK216.out 2).trans rfl, ((HB.out.cell (World.block_lt_of_cell? w _ hw227_0)).trans hw227_0)⟩ (fun hHeld => ?_); refine with_tabW warplaw2_PickRuns.tab11 warplaw2_PickRuns.bits11 (fun HT_ HW_ => ?_)
         generalize w38.drew = w39 at HO_211000 HO_217000 HO223 BK210 BK216 BK226 HB HR227_0 hx227_0 hHeld ⊢
         refine pure_ (i := 1) (N := some 47) (v := ?_) (a' := ?_) #[false, true, false, false, false, false, false, false] rfl rfl (any_of HT_.out (by kernel_rfl)) (fun _ _ _ h => h) (Or.inl ⟨by rfl, ?_⟩) ?_ ?_
         rotate_left
         ·
          intro w'
          go_simp
          with_reducible rfl
         rotate_left
         ·
          simp only [Act.put, List.setIfInBounds_toArray, List.set_cons_zero, List.set_cons_succ, i64_w, i32_w]
          rfl
         refine pure_ (i := 2) (N := some 48) (v := ?_) (a' := ?_) #[false, true, true, false, false, false, false, false] rfl rfl (any_of HT_.out (by kernel_rfl)) (fun _ _ _ h => h) (Or.inl ⟨by rfl, ?_⟩) ?_ ?_
         rotate_left
         ·
          intro w'
          go_simp
          with_reducible rfl
         rotate_left
         ·
          simp only [Act.put, List.setIfInBounds_toArray, List.set_cons_zero, List.set_cons_succ, i64_w, i32_w]
          rfl
         refine pure_ (i := 3) (N := some 49) (v := ?_) (a' := ?_) #[false, true, true, true, false, false, false, false] rfl rfl (any_of HT_.out (by kernel_rfl)) (fun _ _ _ h => h) (Or.inl ⟨by rfl, ?_⟩) ?_ ?_
         rotate_left
         ·
          intro w'
          go_simp
          with_reducible rfl
         rotate_left
         ·
          simp only [Act.put, List.setIfInBounds_toArray, List.set_cons_zero, List.set_cons_succ, i64_w, i32_w]
          rfl
         refine take_ (i := 0) (N := some 46) (v := ?_) (a' := ?_) #[true, true, true, true, false, false, false, false] rfl rfl (take_ofW HT_.out HW_.out (by kernel_rfl)) (fun _ _ _ h => h) (Or.inl ⟨by rfl, ?_⟩) hHeld ?_ ?_
         rotate_left
         ·
          rintro w' ⟨s0, s1, s2, s3⟩
          go_simp
          with_reducible rfl
         rotate_left
         ·
          simp only [Act.put, List.setIfInBounds_toArray, List.set_cons_zero, List.set_cons_succ, i64_w, i32_w]
          rfl
         refine take_ (i := 4) (N := some 50) (v := ?_) (a' := ?_) #[true, true, true, true, true, false, false, false] rfl rfl (take_ofW HT_.out HW_.out (by kernel_rfl)) (fun _ _ _ h => h) (Or.inl ⟨by rfl, ?_⟩) hHeld ?_ ?_
         rotate_left
         ·
          rintro w' ⟨s0, s1, s2, s3⟩
          go_simp
          with_reducible rfl
         rotate_left
         ·
          simp only [Act.put, List.setIfInBounds_toArray, List.set_cons_zero, List.set_cons_succ, i64_w, i32_w]
          rfl
         refine join_ (σ := Value × Nat) 1 #[true, true, true, true, true, true, true, false] (fun s_ => [(51, .agg #[.int .i64 t228, s_.1, .int .i64 t232, .int .i64 t233]), (10, .pointer (some ⟨s_.2, 0, none⟩))]) (fun s_ w' => (w'.cell? ⟨gb216, 0, none⟩ = some (.slice Ao37 x217000_2.length co37) ∧ w'.cell? ⟨gb216, 1, none⟩ = some (.int .i64 x217001_2) ∧ w'.cell? ⟨gb216, 2, none⟩ = some (.int .i64 x217002_2) ∧ w'.cell? (ad217.add (x7_2).toNat) = some (.slice A227_0 (rd_L3 l1 x7_2).length c227_0)) ∧ (Kd.V (Kd.int .i64) 3 w' w.heap.size (fun k_ => k_ ≠ gb210 ∧ k_ ≠ gb216 ∧ k_ ≠ gb226 ∧ k_ ≠ s_.2) (.slice Ao33 t221.length co33) t221) ∧ (Kd.V (Kd.int .i64) 3 w' w.heap.size (fun k_ => k_ ≠ gb210 ∧ k_ ≠ gb216 ∧ k_ ≠ gb226 ∧ k_ ≠ s_.2) s_.1 t229) ∧ (Kd.V (Kd.int .i64) 3 w' w.heap.size (fun k_ => k_ ≠ gb210 ∧ k_ ≠ gb216 ∧ k_ ≠ gb226 ∧ k_ ≠ s_.2) (.slice Ao28 x211000_2.length co28) x211000_2) ∧ (Kd.V (Kd.int .i64) 3 w' w.heap.size (fun k_ => k_ ≠ gb210 ∧ k_ ≠ gb216 ∧ k_ ≠ gb226 ∧ k_ ≠ s_.2) (.slice Ao37 x217000_2.length co37) x217000_2) ∧ (w'.heap[gb210]? = some (.cells #[.slice Ao28 x211000_2.length co28, .int .i64 x211001_2, .int .i64 x211002_2] 24 (0, 0))) ∧ (w'.heap[gb216]? = some (.cells #[.slice Ao37 x217000_2.length co37, .int .i64 x217001_2, .int .i64 x217002_2] 24 (0, 0))) ∧ (w'.heap[gb226]? = some (.cells #[.slice Ao33 t221.length co33, .int .i64 t224, .int .i64 t225] 24 (0, 0))) ∧ (w'.heap[s_.2]? = some (.cells #[.int .i64 0, .slice none 0 0, .int .i64 0, .int .i64 0] 30 (0, 0))) ∧ (w.heap.size ≤ s_.2) ∧ (w.heap.size ≤ s_.2) ∧ (gb210 ≠ s_.2) ∧ (s_.2 ≠ gb210) ∧ (gb216 ≠ s_.2) ∧ (s_.2 ≠ gb216) ∧ (gb226 ≠ s_.2) ∧ (s_.2 ≠ gb226) ∧ (Below w.heap.size w w')) ?_ ?_
         rotate_left
         ·
          intro hCont
          refine two_ (i := 5) (j := 6) (Ni := some 51) (Nj := some 10) #[true, true, true, true, true, true, false, false] #[true, true, true, true, true, false, true, false] rfl rfl rfl rfl (two_of HT_.out (by kernel_rfl)) (by decide) (by decide) (fun K hK => ?_) (fun K hK => ?_)
          ·
           skip
           refine goes_ Tryd.func14 (by kernel_rfl) rfl #[.agg #[.slice Ao37 x217000_2.length co37, .int .i64 x217001_2, .int .i64 x217002_2], .slice A227_0 (rd_L3 l1 x7_2).length c227_0] (by rfl) rfl rfl (by (try simp only [List.map_toArray, List.map_cons, List.map_nil]); first | done | rfl | (simp only [List.length_drop, List.length_take]; rfl)) ?_
           with_reducible refine (warpref1_Pick.calls k2 (fun k_ => (k_ ≠ gb210 ∧ (k_ ≠ gb216 ∧ k_ ≠ gb226))) _ _ x217000_2 x217001_2 x217002_2 _ _ (rd_L3 l1 x7_2) t228 t229 t232 t233 _ ?side1 ?side2 ?side3 A26.out).mono ?_
           (case side1 => exact HO_217000.out)
           (case side2 => repeat (first | exact (Kd.C_below HR227_0.out HB.out) | (with_reducible refine Kd.C_alloc ?_ _) | (with_reducible refine Kd.C_drewN ?_ _) | (with_reducible refine Kd.C_drew ?_)))
           (case side3 => exact HC227_0.out)
           rintro e w40 ⟨v230, rfl, ho0, hb⟩
           refine ⟨_, rfl, ?_⟩
           have n0_ := Aside0.mk (Kd.V_below (by (with_reducible repeat (first | apply Kd.V_alloc | apply Kd.V_drewN | apply Kd.V_drew)); exact HO_211000.out) hb)
           have n1_ := Aside0.mk (Kd.V_below (by (with_reducible repeat (first | apply Kd.V_alloc | apply Kd.V_drewN | apply Kd.V_drew)); exact HO_217000.out) hb)
           have n2_ := Aside0.mk (Kd.V_below (by (with_reducible repeat (first | apply Kd.V_alloc | apply Kd.V_drewN | apply Kd.V_drew)); exact HO223.out) hb)
           have n3_ := Aside0.mk (Kd.V_lower (Kd.V_mono (ok' := fun k_ => k_ ≠ gb210 ∧ k_ ≠ gb216 ∧ k_ ≠ gb226) ho0 (fun k_ hk_ => ⟨Or.elim hk_ (fun hs_ => hs_.1) (fun hn_ => (Kd.freshB (g := gb210) (o := .cells #[.slice Ao28 x211000_2.length co28, .int .i64 x211001_2, .int .i64 x211002_2] 24 (0, 0)) (by (with_reducible repeat (first | refine blk_drewN ?_ _ | refine blk_drew ?_ | refine blk_alloc ?_ _)); exact BK210.out) k_ hn_)), Or.elim hk_ (fun hs_ => hs_.2.1) (fun hn_ => (Kd.freshB (g := gb216) (o := .cells #[.slice Ao37 x217000_2.length co37, .int .i64 x217001_2, .int .i64 x217002_2] 24 (0, 0)) (by (with_reducible repeat (first | refine blk_drewN ?_ _ | refine blk_drew ?_ | refine blk_alloc ?_ _)); exact BK216.out) k_ hn_)), Or.elim hk_ (fun hs_ => hs_.2.2) (fun hn_ => (Kd.freshB (g := gb226) (o := .cells #[.slice Ao33 t221.length co33, .int .i64 t224, .int .i64 t225] 24 (0, 0)) (by (with_reducible repeat (first | refine blk_drewN ?_ _ | refine blk_drew ?_ | refine blk_alloc ?_ _)); exact BK226.out) k_ hn_))⟩)) (below_size (by repeat (first | (with_reducible first | exact HB.out | apply below_alloc | apply pw_below_drewN | apply below_drew1 | refine below_set ?_ GE210.out | refine below_set ?_ GE216.out | refine below_set ?_ GE226.out) | exact HB.out))))
           have n4_ := Aside0.mk (blk_below (g := gb210) (o := .cells #[.slice Ao28 x211000_2.length co28, .int .i64 x211001_2, .int .i64 x211002_2] 24 (0, 0)) (by (with_reducible repeat (first | refine blk_drewN ?_ _ | refine blk_drew ?_ | refine blk_alloc ?_ _)); exact BK210.out) hb)
           have n5_ := Aside0.mk (blk_below (g := gb216) (o := .cells #[.slice Ao37 x217000_2.length co37, .int .i64 x217001_2, .int .i64 x217002_2] 24 (0, 0)) (by (with_reducible repeat (first | refine blk_drewN ?_ _ | refine blk_drew ?_ | refine blk_alloc ?_ _)); exact BK216.out) hb)
           have n6_ := Aside0.mk (blk_below (g := gb226) (o := .cells #[.slice Ao33 t221.length co33, .int .i64 t224, .int .i64 t225] 24 (0, 0)) (by (with_reducible repeat (first | refine blk_drewN ?_ _ | refine blk_drew ?_ | refine blk_alloc ?_ _)); exact BK226.out) hb)
           have n7_ := Aside0.mk (below_step (by repeat (first | (with_reducible first | exact HB.out | apply below_alloc | apply pw_below_drewN | apply below_drew1 | refine below_set ?_ GE210.out | refine below_set ?_ GE216.out | refine below_set ?_ GE226.out) | exact HB.out)) hb)
           clear HO_211000
           clear HO_217000
           clear HO223
           clear BK210
           clear BK216
           clear BK226
           clear HB
           have HO_211000 := n0_
           have HO_217000 := n1_
           have HO223 := n2_
           have HO231 := n3_
           have BK210 := n4_
           have BK216 := n5_
           have BK226 := n6_
           have HB := n7_
           clear n0_ n1_ n2_ n3_ n4_ n5_ n6_ n7_
           (try clear hb)
           (try clear hb2)
           (try clear hk)
           (try clear hi)
           (try clear ho0)
           refine hK.out _ _ ⟨(blk_cell BK216.out 0).trans rfl, (blk_cell BK216.out 1).trans rfl, (blk_cell BK216.out 2).trans rfl, ((HB.out.cell (World.block_lt_of_cell? w _ hw227_0)).trans hw227_0)⟩ (fun hHeld => ?_)
           clear hK K
           refine norm_ (a' := ?_) ?_ ?_
           rotate_left
           ·
            show Act.put _ (some 51) _ = _
            simp only [Act.put, List.setIfInBounds_toArray, List.set_cons_zero, List.set_cons_succ, i64_w, i32_w]
            rfl
           refine one_ (i := 6) (N := some 10) #[true, true, true, true, true, true, true, false] rfl rfl (one_of HT_.out (by kernel_rfl)) (by decide) (fun K hK => ?_)
           refine box_step ?hg (N := 10) ?hd (cs := #[.int .i64 0, .slice none 0 0, .int .i64 0, .int .i64 0]) (t := 30) ?hr ?_; (case hd => rfl); (case hg => rfl); (case hr => first | (go_simp; done) | (go_simp; rfl))
           intro gb234 hg w41 hbox hb
           have n0_ := Aside0.mk (Kd.V_below (Kd.V_elderB (by (with_reducible repeat (first | apply Kd.V_alloc | apply Kd.V_drewN | apply Kd.V_drew)); exact HO_211000.out) gb234 (Nat.le_of_eq hg.symm)) hb)
           have n1_ := Aside0.mk (Kd.V_below (Kd.V_elderB (by (with_reducible repeat (first | apply Kd.V_alloc | apply Kd.V_drewN | apply Kd.V_drew)); exact HO_217000.out) gb234 (Nat.le_of_eq hg.symm)) hb)
           have n2_ := Aside0.mk (Kd.V_below (Kd.V_elderB (by (with_reducible repeat (first | apply Kd.V_alloc | apply Kd.V_drewN | apply Kd.V_drew)); exact HO223.out) gb234 (Nat.le_of_eq hg.symm)) hb)
           have n3_ := Aside0.mk (Kd.V_below (Kd.V_elderB (by (with_reducible repeat (first | apply Kd.V_alloc | apply Kd.V_drewN | apply Kd.V_drew)); exact HO231.out) gb234 (Nat.le_of_eq hg.symm)) hb)
           have n4_ := Aside0.mk (blk_below (g := gb210) (o := .cells #[.slice Ao28 x211000_2.length co28, .int .i64 x211001_2, .int .i64 x211002_2] 24 (0, 0)) (by (with_reducible repeat (first | refine blk_drewN ?_ _ | refine blk_drew ?_ | refine blk_alloc ?_ _)); exact BK210.out) hb)
           have n5_ := Aside0.mk (blk_below (g := gb216) (o := .cells #[.slice Ao37 x217000_2.length co37, .int .i64 x217001_2, .int .i64 x217002_2] 24 (0, 0)) (by (with_reducible repeat (first | refine blk_drewN ?_ _ | refine blk_drew ?_ | refine blk_alloc ?_ _)); exact BK216.out) hb)
           have n6_ := Aside0.mk (blk_below (g := gb226) (o := .cells #[.slice Ao33 t221.length co33, .int .i64 t224, .int .i64 t225] 24 (0, 0)) (by (with_reducible repeat (first | refine blk_drewN ?_ _ | refine blk_drew ?_ | refine blk_alloc ?_ _)); exact BK226.out) hb)
           have n7_ := Aside0.mk (below_step (by repeat (first | (with_reducible first | exact HB.out | apply below_alloc | apply pw_below_drewN | apply below_drew1 | refine below_set ?_ GE210.out | refine below_set ?_ GE216.out | refine below_set ?_ GE226.out) | exact HB.out)) hb)
           have n8_ := Aside0.mk (hbox)
           have n9_ := Aside0.mk ((by rw [hg]; exact (below_size (by repeat (first | (with_reducible first | exact HB.out | apply below_alloc | apply pw_below_drewN | apply below_drew1 | refine below_set ?_ GE210.out | refine below_set ?_ GE216.out | refine below_set ?_ GE226.out) | exact HB.out))) : w.heap.size ≤ gb234))
           have n10_ := Aside0.mk ((by rw [hg]; exact (below_size (by repeat (first | (with_reducible first | exact HB.out | apply below_alloc | apply pw_below_drewN | apply below_drew1 | refine below_set ?_ GE210.out | refine below_set ?_ GE216.out | refine below_set ?_ GE226.out) | exact HB.out))) : w.heap.size ≤ gb234))
           have n11_ := Aside0.mk ((by rw [hg]; exact Nat.ne_of_lt (blk_lt (g := gb210) (o := .cells #[.slice Ao28 x211000_2.length co28, .int .i64 x211001_2, .int .i64 x211002_2] 24 (0, 0)) (by (with_reducible repeat (first | refine blk_drewN ?_ _ | refine blk_drew ?_ | refine blk_alloc ?_ _)); exact BK210.out)) : gb210 ≠ gb234))
           have n12_ := Aside0.mk ((by rw [hg]; exact Nat.ne_of_gt (blk_lt (g := gb210) (o := .cells #[.slice Ao28 x211000_2.length co28, .int .i64 x211001_2, .int .i64 x211002_2] 24 (0, 0)) (by (with_reducible repeat (first | refine blk_drewN ?_ _ | refine blk_drew ?_ | refine blk_alloc ?_ _)); exact BK210.out)) : gb234 ≠ gb210))
           have n13_ := Aside0.mk ((by rw [hg]; exact Nat.ne_of_lt (blk_lt (g := gb216) (o := .cells #[.slice Ao37 x217000_2.length co37, .int .i64 x217001_2, .int .i64 x217002_2] 24 (0, 0)) (by (with_reducible repeat (first | refine blk_drewN ?_ _ | refine blk_drew ?_ | refine blk_alloc ?_ _)); exact BK216.out)) : gb216 ≠ gb234))
           have n14_ := Aside0.mk ((by rw [hg]; exact Nat.ne_of_gt (blk_lt (g := gb216) (o := .cells #[.slice Ao37 x217000_2.length co37, .int .i64 x217001_2, .int .i64 x217002_2] 24 (0, 0)) (by (with_reducible repeat (first | refine blk_drewN ?_ _ | refine blk_drew ?_ | refine blk_alloc ?_ _)); exact BK216.out)) : gb234 ≠ gb216))
           have n15_ := Aside0.mk ((by rw [hg]; exact Nat.ne_of_lt (blk_lt (g := gb226) (o := .cells #[.slice Ao33 t221.length co33, .int .i64 t224, .int .i64 t225] 24 (0, 0)) (by (with_reducible repeat (first | refine blk_drewN ?_ _ | refine blk_drew ?_ | refine blk_alloc ?_ _)); exact BK226.out)) : gb226 ≠ gb234))
           have n16_ := Aside0.mk ((by rw [hg]; exact Nat.ne_of_gt (blk_lt (g := gb226) (o := .cells #[.slice Ao33 t221.length co33, .int .i64 t224, .int .i64 t225] 24 (0, 0)) (by (with_reducible repeat (first | refine blk_drewN ?_ _ | refine blk_drew ?_ | refine blk_alloc ?_ _)); exact BK226.out)) : gb234 ≠ gb226))
           clear HO_211000
           clear HO_217000
           clear HO223
           clear HO231
           clear BK210
           clear BK216
           clear BK226
           clear HB
           have HO_211000 := n0_
           have HO_217000 := n1_
           have HO223 := n2_
           have HO231 := n3_
           have BK210 := n4_
           have BK216 := n5_
           have BK226 := n6_
           have HB := n7_
           have BK234 := n8_
           have GW234 := n9_
           have GE234 := n10_
           have NB210_234 := n11_
           have NB234_210 := n12_
           have NB216_234 := n13_
           have NB234_216 := n14_
           have NB226_234 := n15_
           have NB234_226 := n16_
           clear n0_ n1_ n2_ n3_ n4_ n5_ n6_ n7_ n8_ n9_ n10_ n11_ n12_ n13_ n14_ n15_ n16_
           clear hb hbox hg
           refine hK.out _ _ ⟨(blk_cell BK216.out 0).trans rfl, (blk_cell BK216.out 1).trans rfl, (blk_cell BK216.out 2).trans rfl, ((HB.out.cell (World.block_lt_of_cell? w _ hw227_0)).trans hw227_0)⟩ (fun hHeld => ?_)
           clear hK K
           refine norm_ (a' := ?_) ?_ ?_
           rotate_left
           ·
            show Act.put _ (some 10) _ = _
            simp only [Act.put, List.setIfInBounds_toArray, List.set_cons_zero, List.set_cons_succ, i64_w, i32_w]
            rfl
           exact norm_ (by simp only [putAll, Act.put, List.setIfInBounds_toArray, List.set_cons_zero, List.set_cons_succ]) (hCont (v230, gb234) _ ⟨hHeld, (by (with_reducible repeat (first | apply Kd.V_alloc | apply Kd.V_drewN | apply Kd.V_drew)); exact Kd.V_mono HO223.out (fun _ hk => ⟨hk.1.1, ⟨hk.1.2.1, ⟨hk.1.2.2, hk.2⟩⟩⟩)), (by (with_reducible repeat (first | apply Kd.V_alloc | apply Kd.V_drewN | apply Kd.V_drew)); exact Kd.V_mono HO231.out (fun _ hk => ⟨hk.1.1, ⟨hk.1.2.1, ⟨hk.1.2.2, hk.2⟩⟩⟩)), (by (with_reducible repeat (first | apply Kd.V_alloc | apply Kd.V_drewN | apply Kd.V_drew)); exact Kd.V_mono HO_211000.out (fun _ hk => ⟨hk.1.1, ⟨hk.1.2.1, ⟨hk.1.2.2, hk.2⟩⟩⟩)), (by (with_reducible repeat (first | apply Kd.V_alloc | apply Kd.V_drewN | apply Kd.V_drew)); exact Kd.V_mono HO_217000.out (fun _ hk => ⟨hk.1.1, ⟨hk.1.2.1, ⟨hk.1.2.2, hk.2⟩⟩⟩)), (by (with_reducible repeat (first | refine blk_drewN ?_ _ | refine blk_drew ?_ | refine blk_alloc ?_ _)); exact BK210.out), (by (with_reducible repeat (first | refine blk_drewN ?_ _ | refine blk_drew ?_ | refine blk_alloc ?_ _)); exact BK216.out), (by (with_reducible repeat (first | refine blk_drewN ?_ _ | refine blk_drew ?_ | refine blk_alloc ?_ _)); exact BK226.out), (by (with_reducible repeat (first | refine blk_drewN ?_ _ | refine blk_drew ?_ | refine blk_alloc ?_ _)); exact BK234.out), GW234.out, GE234.out, NB210_234.out, NB234_210.out, NB216_234.out, NB234_216.out, NB226_234.out, NB234_226.out, (by repeat (first | (with_reducible first | exact HB.out | apply below_alloc | apply pw_below_drewN | apply below_drew1 | refine below_set ?_ GE210.out | refine below_set ?_ GE216.out | refine below_set ?_ GE226.out | refine below_set ?_ GE234.out) | exact HB.out))⟩)
          ·
           skip
           refine box_step ?hg (N := 10) ?hd (cs := #[.int .i64 0, .slice none 0 0, .int .i64 0, .int .i64 0]) (t := 30) ?hr ?_; (case hd => rfl); (case hg => rfl); (case hr => first | (go_simp; done) | (go_simp; rfl))
           intro gb234 hg w40 hbox hb
           have n0_ := Aside0.mk (Kd.V_below (Kd.V_elderB (by (with_reducible repeat (first | apply Kd.V_alloc | apply Kd.V_drewN | apply Kd.V_drew)); exact HO_211000.out) gb234 (Nat.le_of_eq hg.symm)) hb)
           have n1_ := Aside0.mk (Kd.V_below (Kd.V_elderB (by (with_reducible repeat (first | apply Kd.V_alloc | apply Kd.V_drewN | apply Kd.V_drew)); exact HO_217000.out) gb234 (Nat.le_of_eq hg.symm)) hb)
           have n2_ := Aside0.mk (Kd.V_below (Kd.V_elderB (by (with_reducible repeat (first | apply Kd.V_alloc | apply Kd.V_drewN | apply Kd.V_drew)); exact HO223.out) gb234 (Nat.le_of_eq hg.symm)) hb)
           have n3_ := Aside0.mk (blk_below (g := gb210) (o := .cells #[.slice Ao28 x211000_2.length co28, .int .i64 x211001_2, .int .i64 x211002_2] 24 (0, 0)) (by (with_reducible repeat (first | refine blk_drewN ?_ _ | refine blk_drew ?_ | refine blk_alloc ?_ _)); exact BK210.out) hb)
           have n4_ := Aside0.mk (blk_below (g := gb216) (o := .cells #[.slice Ao37 x217000_2.length co37, .int .i64 x217001_2, .int .i64 x217002_2] 24 (0, 0)) (by (with_reducible repeat (first | refine blk_drewN ?_ _ | refine blk_drew ?_ | refine blk_alloc ?_ _)); exact BK216.out) hb)
           have n5_ := Aside0.mk (blk_below (g := gb226) (o := .cells #[.slice Ao33 t221.length co33, .int .i64 t224, .int .i64 t225] 24 (0, 0)) (by (with_reducible repeat (first | refine blk_drewN ?_ _ | refine blk_drew ?_ | refine blk_alloc ?_ _)); exact BK226.out) hb)
           have n6_ := Aside0.mk (below_step (by repeat (first | (with_reducible first | exact HB.out | apply below_alloc | apply pw_below_drewN | apply below_drew1 | refine below_set ?_ GE210.out | refine below_set ?_ GE216.out | refine below_set ?_ GE226.out) | exact HB.out)) hb)
           have n7_ := Aside0.mk (hbox)
           have n8_ := Aside0.mk ((by rw [hg]; exact (below_size (by repeat (first | (with_reducible first | exact HB.out | apply below_alloc | apply pw_below_drewN | apply below_drew1 | refine below_set ?_ GE210.out | refine below_set ?_ GE216.out | refine below_set ?_ GE226.out) | exact HB.out))) : w.heap.size ≤ gb234))
           have n9_ := Aside0.mk ((by rw [hg]; exact (below_size (by repeat (first | (with_reducible first | exact HB.out | apply below_alloc | apply pw_below_drewN | apply below_drew1 | refine below_set ?_ GE210.out | refine below_set ?_ GE216.out | refine below_set ?_ GE226.out) | exact HB.out))) : w.heap.size ≤ gb234))
           have n10_ := Aside0.mk ((by rw [hg]; exact Nat.ne_of_lt (blk_lt (g := gb210) (o := .cells #[.slice Ao28 x211000_2.length co28, .int .i64 x211001_2, .int .i64 x211002_2] 24 (0, 0)) (by (with_reducible repeat (first | refine blk_drewN ?_ _ | refine blk_drew ?_ | refine blk_alloc ?_ _)); exact BK210.out)) : gb210 ≠ gb234))
           have n11_ := Aside0.mk ((by rw [hg]; exact Nat.ne_of_gt (blk_lt (g := gb210) (o := .cells #[.slice Ao28 x211000_2.length co28, .int .i64 x211001_2, .int .i64 x211002_2] 24 (0, 0)) (by (with_reducible repeat (first | refine blk_drewN ?_ _ | refine blk_drew ?_ | refine blk_alloc ?_ _)); exact BK210.out)) : gb234 ≠ gb210))
           have n12_ := Aside0.mk ((by rw [hg]; exact Nat.ne_of_lt (blk_lt (g := gb216) (o := .cells #[.slice Ao37 x217000_2.length co37, .int .i64 x217001_2, .int .i64 x217002_2] 24 (0, 0)) (by (with_reducible repeat (first | refine blk_drewN ?_ _ | refine blk_drew ?_ | refine blk_alloc ?_ _)); exact BK216.out)) : gb216 ≠ gb234))
           have n13_ := Aside0.mk ((by rw [hg]; exact Nat.ne_of_gt (blk_lt (g := gb216) (o := .cells #[.slice Ao37 x217000_2.length co37, .int .i64 x217001_2, .int .i64 x217002_2] 24 (0, 0)) (by (with_reducible repeat (first | refine blk_drewN ?_ _ | refine blk_drew ?_ | refine blk_alloc ?_ _)); exact BK216.out)) : gb234 ≠ gb216))
           have n14_ := Aside0.mk ((by rw [hg]; exact Nat.ne_of_lt (blk_lt (g := gb226) (o := .cells #[.slice Ao33 t221.length co33, .int .i64 t224, .int .i64 t225] 24 (0, 0)) (by (with_reducible repeat (first | refine blk_drewN ?_ _ | refine blk_drew ?_ | refine blk_alloc ?_ _)); exact BK226.out)) : gb226 ≠ gb234))
           have n15_ := Aside0.mk ((by rw [hg]; exact Nat.ne_of_gt (blk_lt (g := gb226) (o := .cells #[.slice Ao33 t221.length co33, .int .i64 t224, .int .i64 t225] 24 (0, 0)) (by (with_reducible repeat (first | refine blk_drewN ?_ _ | refine blk_drew ?_ | refine blk_alloc ?_ _)); exact BK226.out)) : gb234 ≠ gb226))
           clear HO_211000
           clear HO_217000
           clear HO223
           clear BK210
           clear BK216
           clear BK226
           clear HB
           have HO_211000 := n0_
           have HO_217000 := n1_
           have HO223 := n2_
           have BK210 := n3_
           have BK216 := n4_
           have BK226 := n5_
           have HB := n6_
           have BK234 := n7_
           have GW234 := n8_
           have GE234 := n9_
           have NB210_234 := n10_
           have NB234_210 := n11_
           have NB216_234 := n12_
           have NB234_216 := n13_
           have NB226_234 := n14_
           have NB234_226 := n15_
           clear n0_ n1_ n2_ n3_ n4_ n5_ n6_ n7_ n8_ n9_ n10_ n11_ n12_ n13_ n14_ n15_
           clear hb hbox hg
           refine hK.out _ _ ⟨(blk_cell BK216.out 0).trans rfl, (blk_cell BK216.out 1).trans rfl, (blk_cell BK216.out 2).trans rfl, ((HB.out.cell (World.block_lt_of_cell? w _ hw227_0)).trans hw227_0)⟩ (fun hHeld => ?_)
           clear hK K
           refine norm_ (a' := ?_) ?_ ?_
           rotate_left
           ·
            show Act.put _ (some 10) _ = _
            simp only [Act.put, List.setIfInBounds_toArray, List.set_cons_zero, List.set_cons_succ, i64_w, i32_w]
            rfl
           refine one_ (i := 5) (N := some 51) #[true, true, true, true, true, true, true, false] rfl rfl (one_of HT_.out (by kernel_rfl)) (by decide) (fun K hK => ?_)
           refine goes_ Tryd.func14 (by kernel_rfl) rfl #[.agg #[.slice Ao37 x217000_2.length co37, .int .i64 x217001_2, .int .i64 x217002_2], .slice A227_0 (rd_L3 l1 x7_2).length c227_0] (by rfl) rfl rfl (by (try simp only [List.map_toArray, List.map_cons, List.map_nil]); first | done | rfl | (simp only [List.length_drop, List.length_take]; rfl)) ?_
           with_reducible refine (warpref1_Pick.calls k2 (fun k_ => ((k_ ≠ gb210 ∧ (k_ ≠ gb216 ∧ k_ ≠ gb226)) ∧ k_ ≠ gb234)) _ _ x217000_2 x217001_2 x217002_2 _ _ (rd_L3 l1 x7_2) t228 t229 t232 t233 _ ?side1 ?side2 ?side3 A26.out).mono ?_
           (case side1 => exact HO_217000.out)
           (case side2 => repeat (first | exact (Kd.C_below HR227_0.out HB.out) | (with_reducible refine Kd.C_alloc ?_ _) | (with_reducible refine Kd.C_drewN ?_ _) | (with_reducible refine Kd.C_drew ?_)))
           (case side3 => exact HC227_0.out)
           rintro e w41 ⟨v230, rfl, ho0, hb⟩
           refine ⟨_, rfl, ?_⟩
           have n0_ := Aside0.mk (Kd.V_below (by (with_reducible repeat (first | apply Kd.V_alloc | apply Kd.V_drewN | apply Kd.V_drew)); exact HO_211000.out) hb)
           have n1_ := Aside0.mk (Kd.V_below (by (with_reducible repeat (first | apply Kd.V_alloc | apply Kd.V_drewN | apply Kd.V_drew)); exact HO_217000.out) hb)
           have n2_ := Aside0.mk (Kd.V_below (by (with_reducible repeat (first | apply Kd.V_alloc | apply Kd.V_drewN | apply Kd.V_drew)); exact HO223.out) hb)
           have n3_ := Aside0.mk (Kd.V_lower (Kd.V_mono (ok' := fun k_ => k_ ≠ gb210 ∧ k_ ≠ gb216 ∧ k_ ≠ gb226 ∧ k_ ≠ gb234) ho0 (fun k_ hk_ => ⟨Or.elim hk_ (fun hs_ => hs_.1.1) (fun hn_ => (Kd.freshB (g := gb210) (o := .cells #[.slice Ao28 x211000_2.length co28, .int .i64 x211001_2, .int .i64 x211002_2] 24 (0, 0)) (by (with_reducible repeat (first | refine blk_drewN ?_ _ | refine blk_drew ?_ | refine blk_alloc ?_ _)); exact BK210.out) k_ hn_)), Or.elim hk_ (fun hs_ => hs_.1.2.1) (fun hn_ => (Kd.freshB (g := gb216) (o := .cells #[.slice Ao37 x217000_2.length co37, .int .i64 x217001_2, .int .i64 x217002_2] 24 (0, 0)) (by (with_reducible repeat (first | refine blk_drewN ?_ _ | refine blk_drew ?_ | refine blk_alloc ?_ _)); exact BK216.out) k_ hn_)), Or.elim hk_ (fun hs_ => hs_.1.2.2) (fun hn_ => (Kd.freshB (g := gb226) (o := .cells #[.slice Ao33 t221.length co33, .int .i64 t224, .int .i64 t225] 24 (0, 0)) (by (with_reducible repeat (first | refine blk_drewN ?_ _ | refine blk_drew ?_ | refine blk_alloc ?_ _)); exact BK226.out) k_ hn_)), Or.elim hk_ (fun hs_ => hs_.2) (fun hn_ => (Kd.freshB (g := gb234) (o := .cells #[.int .i64 0, .slice none 0 0, .int .i64 0, .int .i64 0] 30 (0, 0)) (by (with_reducible repeat (first | refine blk_drewN ?_ _ | refine blk_drew ?_ | refine blk_alloc ?_ _)); exact BK234.out) k_ hn_))⟩)) (below_size (by repeat (first | (with_reducible first | exact HB.out | apply below_alloc | apply pw_below_drewN | apply below_drew1 | refine below_set ?_ GE210.out | refine below_set ?_ GE216.out | refine below_set ?_ GE226.out | refine below_set ?_ GE234.out) | exact HB.out))))
           have n4_ := Aside0.mk (blk_below (g := gb210) (o := .cells #[.slice Ao28 x211000_2.length co28, .int .i64 x211001_2, .int .i64 x211002_2] 24 (0, 0)) (by (with_reducible repeat (first | refine blk_drewN ?_ _ | refine blk_drew ?_ | refine blk_alloc ?_ _)); exact BK210.out) hb)
           have n5_ := Aside0.mk (blk_below (g := gb216) (o := .cells #[.slice Ao37 x217000_2.length co37, .int .i64 x217001_2, .int .i64 x217002_2] 24 (0, 0)) (by (with_reducible repeat (first | refine blk_drewN ?_ _ | refine blk_drew ?_ | refine blk_alloc ?_ _)); exact BK216.out) hb)
           have n6_ := Aside0.mk (blk_below (g := gb226) (o := .cells #[.slice Ao33 t221.length co33, .int .i64 t224, .int .i64 t225] 24 (0, 0)) (by (with_reducible repeat (first | refine blk_drewN ?_ _ | refine blk_drew ?_ | refine blk_alloc ?_ _)); exact BK226.out) hb)
           have n7_ := Aside0.mk (blk_below (g := gb234) (o := .cells #[.int .i64 0, .slice none 0 0, .int .i64 0, .int .i64 0] 30 (0, 0)) (by (with_reducible repeat (first | refine blk_drewN ?_ _ | refine blk_drew ?_ | refine blk_alloc ?_ _)); exact BK234.out) hb)
           have n8_ := Aside0.mk (below_step (by repeat (first | (with_reducible first | exact HB.out | apply below_alloc | apply pw_below_drewN | apply below_drew1 | refine below_set ?_ GE210.out | refine below_set ?_ GE216.out | refine below_set ?_ GE226.out | refine below_set ?_ GE234.out) | exact HB.out)) hb)
           clear HO_211000
           clear HO_217000
           clear HO223
           clear BK210
           clear BK216
           clear BK226
           clear BK234
           clear HB
           have HO_211000 := n0_
           have HO_217000 := n1_
           have HO223 := n2_
           have HO231 := n3_
           have BK210 := n4_
           have BK216 := n5_
           have BK226 := n6_
           have BK234 := n7_
           have HB := n8_
           clear n0_ n1_ n2_ n3_ n4_ n5_ n6_ n7_ n8_
           (try clear hb)
           (try clear hb2)
           (try clear hk)
           (try clear hi)
           (try clear ho0)
           refine hK.out _ _ ⟨(blk_cell BK216.out 0).trans rfl, (blk_cell BK216.out 1).trans rfl, (blk_cell BK216.out 2).trans rfl, ((HB.out.cell (World.block_lt_of_cell? w _ hw227_0)).trans hw227_0)⟩ (fun hHeld => ?_)
           clear hK K
           refine norm_ (a' := ?_) ?_ ?_
           rotate_left
           ·
            show Act.put _ (some 51) _ = _
            simp only [Act.put, List.setIfInBounds_toArray, List.set_cons_zero, List.set_cons_succ, i64_w, i32_w]
            rfl
           exact norm_ (by simp only [putAll, Act.put, List.setIfInBounds_toArray, List.set_cons_zero, List.set_cons_succ]) (hCont (v230, gb234) _ ⟨hHeld, (by (with_reducible repeat (first | apply Kd.V_alloc | apply Kd.V_drewN | apply Kd.V_drew)); exact Kd.V_mono HO223.out (fun _ hk => ⟨hk.1.1, ⟨hk.1.2.1, ⟨hk.1.2.2, hk.2⟩⟩⟩)), (by (with_reducible repeat (first | apply Kd.V_alloc | apply Kd.V_drewN | apply Kd.V_drew)); exact HO231.out), (by (with_reducible repeat (first | apply Kd.V_alloc | apply Kd.V_drewN | apply Kd.V_drew)); exact Kd.V_mono HO_211000.out (fun _ hk => ⟨hk.1.1, ⟨hk.1.2.1, ⟨hk.1.2.2, hk.2⟩⟩⟩)), (by (with_reducible repeat (first | apply Kd.V_alloc | apply Kd.V_drewN | apply Kd.V_drew)); exact Kd.V_mono HO_217000.out (fun _ hk => ⟨hk.1.1, ⟨hk.1.2.1, ⟨hk.1.2.2, hk.2⟩⟩⟩)), (by (with_reducible repeat (first | refine blk_drewN ?_ _ | refine blk_drew ?_ | refine blk_alloc ?_ _)); exact BK210.out), (by (with_reducible repeat (first | refine blk_drewN ?_ _ | refine blk_drew ?_ | refine blk_alloc ?_ _)); exact BK216.out), (by (with_reducible repeat (first | refine blk_drewN ?_ _ | refine blk_drew ?_ | refine blk_alloc ?_ _)); exact BK226.out), (by (with_reducible repeat (first | refine blk_drewN ?_ _ | refine blk_drew ?_ | refine blk_alloc ?_ _)); exact BK234.out), GW234.out, GE234.out, NB210_234.out, NB234_210.out, NB216_234.out, NB234_216.out, NB226_234.out, NB234_226.out, (by repeat (first | (with_reducible first | exact HB.out | apply below_alloc | apply pw_below_drewN | apply below_drew1 | refine below_set ?_ GE210.out | refine below_set ?_ GE216.out | refine below_set ?_ GE226.out | refine below_set ?_ GE234.out) | exact HB.out))⟩)
         rintro ⟨v230, gb234⟩ w42 ⟨hS_, h0_, h1_, h2_, h3_, h4_, h5_, h6_, h7_, h8_, h9_, h10_, h11_, h12_, h13_, h14_, h15_, h16_⟩
         have n0_ : Aside0 (Kd.V (Kd.int .i64) 3 w42 w.heap.size (fun k_ => k_ ≠ gb210 ∧ k_ ≠ gb216 ∧ k_ ≠ gb226 ∧ k_ ≠ gb234) (.slice Ao33 t221.length co33) t221) := ⟨h0_⟩
         have n1_ : Aside0 (Kd.V (Kd.int .i64) 3 w42 w.heap.size (fun k_ => k_ ≠ gb210 ∧ k_ ≠ gb216 ∧ k_ ≠ gb226 ∧ k_ ≠ gb234) v230 t229) := ⟨h1_⟩
         have n2_ : Aside0 (Kd.V (Kd.int .i64) 3 w42 w.heap.size (fun k_ => k_ ≠ gb210 ∧ k_ ≠ gb216 ∧ k_ ≠ gb226 ∧ k_ ≠ gb234) (.slice Ao28 x211000_2.length co28) x211000_2) := ⟨h2_⟩
         have n3_ : Aside0 (Kd.V (Kd.int .i64) 3 w42 w.heap.size (fun k_ => k_ ≠ gb210 ∧ k_ ≠ gb216 ∧ k_ ≠ gb226 ∧ k_ ≠ gb234) (.slice Ao37 x217000_2.length co37) x217000_2) := ⟨h3_⟩
         have n4_ : Aside0 (w42.heap[gb210]? = some (.cells #[.slice Ao28 x211000_2.length co28, .int .i64 x211001_2, .int .i64 x211002_2] 24 (0, 0))) := ⟨h4_⟩
         have n5_ : Aside0 (w42.heap[gb216]? = some (.cells #[.slice Ao37 x217000_2.length co37, .int .i64 x217001_2, .int .i64 x217002_2] 24 (0, 0))) := ⟨h5_⟩
         have n6_ : Aside0 (w42.heap[gb226]? = some (.cells #[.slice Ao33 t221.length co33, .int .i64 t224, .int .i64 t225] 24 (0, 0))) := ⟨h6_⟩
         have n7_ : Aside0 (w42.heap[gb234]? = some (.cells #[.int .i64 0, .slice none 0 0, .int .i64 0, .int .i64 0] 30 (0, 0))) := ⟨h7_⟩
         have n8_ : Aside0 (w.heap.size ≤ gb234) := ⟨h8_⟩
         have n9_ : Aside0 (w.heap.size ≤ gb234) := ⟨h9_⟩
         have n10_ : Aside0 (gb210 ≠ gb234) := ⟨h10_⟩
         have n11_ : Aside0 (gb234 ≠ gb210) := ⟨h11_⟩
         have n12_ : Aside0 (gb216 ≠ gb234) := ⟨h12_⟩
         have n13_ : Aside0 (gb234 ≠ gb216) := ⟨h13_⟩
         have n14_ : Aside0 (gb226 ≠ gb234) := ⟨h14_⟩
         have n15_ : Aside0 (gb234 ≠ gb226) := ⟨h15_⟩
         have n16_ : Aside0 (Below w.heap.size w w42) := ⟨h16_⟩
         clear HO_211000
         clear HO_217000
         clear HO223
         clear BK210
         clear BK216
         clear BK226
         clear HB
         clear h0_ h1_ h2_ h3_ h4_ h5_ h6_ h7_ h8_ h9_ h10_ h11_ h12_ h13_ h14_ h15_ h16_
         have HO223 := n0_
         have HO231 := n1_
         have HO_211000 := n2_
         have HO_217000 := n3_
         have BK210 := n4_
         have BK216 := n5_
         have BK226 := n6_
         have BK234 := n7_
         have GW234 := n8_
         have GE234 := n9_
         have NB210_234 := n10_
         have NB234_210 := n11_
         have NB216_234 := n12_
         have NB234_216 := n13_
         have NB226_234 := n14_
         have NB234_226 := n15_
         have HB := n16_
         clear n0_ n1_ n2_ n3_ n4_ n5_ n6_ n7_ n8_ n9_ n10_ n11_ n12_ n13_ n14_ n15_ n16_
         have hHeld : w42.cell? ⟨gb216, 0, none⟩ = some (.slice Ao37 x217000_2.length co37) ∧ w42.cell? ⟨gb216, 1, none⟩ = some (.int .i64 x217001_2) ∧ w42.cell? ⟨gb216, 2, none⟩ = some (.int .i64 x217002_2) ∧ w42.cell? (ad217.add (x7_2).toNat) = some (.slice A227_0 (rd_L3 l1 x7_2).length c227_0) := hS_
         obtain ⟨Ao44, co44, eo44⟩ := Kd.V_slice HO231.out
         (first | subst eo44 | (injection eo44 with f1_ f2_ f3_; have f4_ := f1_.symm; have f5_ := f3_.symm; clear f1_ f2_ f3_; subst f4_; subst f5_))
         refine norm_ (a' := ?_) ?_ ?_
         rotate_left
         ·
          simp only [putAll, Act.put, List.setIfInBounds_toArray, List.set_cons_zero, List.set_cons_succ]
          rfl
         refine one_ (i := 7) (N := none) #[true, true, true, true, true, true, true, true] rfl rfl (one_of HT_.out (by kernel_rfl)) (by decide) (fun K hK => ?_)
         have hs43 : w42.cell? ⟨gb234, 0, none⟩ = some (.int .i64 0) := (blk_cell BK234.out 0).trans rfl
         have hfs43 := blk_frozen BK234.out 0
         have hns43_0 := NB210_234.out
         have hns43_1 := NB216_234.out
         have hns43_2 := NB226_234.out
         have hms43_0 := NB234_210.out
         have hms43_1 := NB234_216.out
         have hms43_2 := NB234_226.out
         have hs45 : w42.cell? ⟨gb234, 1, none⟩ = some (.slice none 0 0) := (blk_cell BK234.out 1).trans rfl
         have hfs45 := blk_frozen BK234.out 1
         have hns45_0 := NB210_234.out
         have hns45_1 := NB216_234.out
         have hns45_2 := NB226_234.out
         have hms45_0 := NB234_210.out
         have hms45_1 := NB234_216.out
         have hms45_2 := NB234_226.out
         have hs46 : w42.cell? ⟨gb234, 2, none⟩ = some (.int .i64 0) := (blk_cell BK234.out 2).trans rfl
         have hfs46 := blk_frozen BK234.out 2
         have hns46_0 := NB210_234.out
         have hns46_1 := NB216_234.out
         have hns46_2 := NB226_234.out
         have hms46_0 := NB234_210.out
         have hms46_1 := NB234_216.out
         have hms46_2 := NB234_226.out
         have hs47 : w42.cell? ⟨gb234, 3, none⟩ = some (.int .i64 0) := (blk_cell BK234.out 3).trans rfl
         have hfs47 := blk_frozen BK234.out 3
         have hns47_0 := NB210_234.out
         have hns47_1 := NB216_234.out
         have hns47_2 := NB226_234.out
         have hms47_0 := NB234_210.out
         have hms47_1 := NB234_216.out
         have hms47_2 := NB234_226.out
         refine skip_ (w1 := ?_) (by rfl) rfl ?_ ?_
         rotate_left
         ·
          go_simp
          rfl
         refine hK.out _ _ ⟨((cell_far (p := ⟨gb234, _, none⟩) NB216_234.out _).trans (((cell_far (p := ⟨gb234, _, none⟩) NB216_234.out _).trans (((cell_far (p := ⟨gb234, _, none⟩) NB216_234.out _).trans (((cell_far (p := ⟨gb234, _, none⟩) NB216_234.out _).trans (hHeld.1)))))))), ((cell_far (p := ⟨gb234, _, none⟩) NB216_234.out _).trans (((cell_far (p := ⟨gb234, _, none⟩) NB216_234.out _).trans (((cell_far (p := ⟨gb234, _, none⟩) NB216_234.out _).trans (((cell_far (p := ⟨gb234, _, none⟩) NB216_234.out _).trans (hHeld.2.1)))))))), ((cell_far (p := ⟨gb234, _, none⟩) NB216_234.out _).trans (((cell_far (p := ⟨gb234, _, none⟩) NB216_234.out _).trans (((cell_far (p := ⟨gb234, _, none⟩) NB216_234.out _).trans (((cell_far (p := ⟨gb234, _, none⟩) NB216_234.out _).trans (hHeld.2.2.1)))))))), (by (iterate 4 refine (cell_far (p := ⟨gb234, _, none⟩) (by (first | (show (Addr.add _ _).block ≠ _; rw [add_block]) | rw [add_block] | skip); exact Nat.ne_of_lt (Nat.lt_of_lt_of_le (by have := World.block_lt_of_cell? _ _ hw227_0; first | rwa [add_block] at this | exact this) GW234.out)) _).trans ?_); exact hHeld.2.2.2)⟩ (fun hHeld => ?_)
         clear hK K
         refine done_ (done_of HT_.out (by kernel_rfl)) ?_
         go_upto_region 12 with (fail)
         go_cut [85] (fun v85 wc => ∃ (kq : Nat) (x85_26 : Bool), v85 = .bool x85_26 ∧ Aside0 (warplaw2_PickRuns.j2 kq l1 x7_2 x85_26 t221 t224 t225 t228 t229 t232 t233 = some r) ∧ Aside0 (kq ≤ k2) ∧ Aside0 (Kd.V (Kd.int .i64) 3 wc w.heap.size (fun k_ => k_ ≠ gb210 ∧ k_ ≠ gb216 ∧ k_ ≠ gb226 ∧ k_ ≠ gb234) (.slice Ao28 x211000_2.length co28) x211000_2) ∧ Aside0 (Kd.V (Kd.int .i64) 3 wc w.heap.size (fun k_ => k_ ≠ gb210 ∧ k_ ≠ gb216 ∧ k_ ≠ gb226 ∧ k_ ≠ gb234) (.slice Ao37 x217000_2.length co37) x217000_2) ∧ Aside0 (Kd.V (Kd.int .i64) 3 wc w.heap.size (fun k_ => k_ ≠ gb210 ∧ k_ ≠ gb216 ∧ k_ ≠ gb226 ∧ k_ ≠ gb234) (.slice Ao33 t221.length co33) t221) ∧ Aside0 (Kd.V (Kd.int .i64) 3 wc w.heap.size (fun k_ => k_ ≠ gb210 ∧ k_ ≠ gb216 ∧ k_ ≠ gb226 ∧ k_ ≠ gb234) (.slice Ao44 t229.length co44) t229) ∧ Aside0 (wc.heap[gb210]? = some (.cells #[(.slice Ao28 x211000_2.length co28), .int .i64 x211001_2, .int .i64 x211002_2] 24 (0, 0))) ∧ Aside0 (wc.heap[gb216]? = some (.cells #[(.slice Ao37 x217000_2.length co37), .int .i64 x217001_2, .int .i64 x217002_2] 24 (0, 0))) ∧ Aside0 (wc.heap[gb226]? = some (.cells #[(.slice Ao33 t221.length co33), .int .i64 t224, .int .i64 t225] 24 (0, 0))) ∧ Aside0 (wc.heap[gb234]? = some (.cells #[.int .i64 t228, (.slice Ao44 t229.length co44), .int .i64 t232, .int .i64 t233] 30 (0, 0))) ∧ Aside0 (Below w.heap.size w wc))
         case first =>
          have H := HC27.out
          clear HC27
          by_cases c48 : t220 = t228
          ·
           rw [if_pos c48] at H
           have c48b0 : (t220 == t228) = true := beq_iff_eq.mpr c48
           have c48b1 : (t220 != t228) = false := bne_eq_false_iff_eq.mpr c48
           clear c48
           (first | rw [c48b0] | (simp only [i64_w, i32_w]; rw [c48b0]) | skip)
           replace H := Option.bind_eq_some_iff.mp H
           obtain ⟨t235, A490, H⟩ := H
           replace H : (if t235 = true then (if t220 ≥ 0 then (if t220 ≥ ((rd_L3 l1 x7_2).length : Int) then (warplaw2_PickRuns.j2 k2 l1 x7_2 true t221 t224 t225 t228 t229 t232 t233) else (if 0 ≤ t220 then (if t220 < ((rd_L3 l1 x7_2).length : Int) then (warplaw2_PickRuns.j2 k2 l1 x7_2 (!(rdOf false (rd_L3 l1 x7_2) t220)) t221 t224 t225 t228 t229 t232 t233) else (none)) else (none))) else (warplaw2_PickRuns.j2 k2 l1 x7_2 false t221 t224 t225 t228 t229 t232 t233)) else (warplaw2_PickRuns.j2 k2 l1 x7_2 true t221 t224 t225 t228 t229 t232 t233)) = some r := H
           have A49 := Aside0.mk A490
           clear A490
           by_cases c50 : t235 = true
           ·
            subst c50
            have H1 : (if t220 ≥ 0 then (if t220 ≥ ((rd_L3 l1 x7_2).length : Int) then (warplaw2_PickRuns.j2 k2 l1 x7_2 true t221 t224 t225 t228 t229 t232 t233) else (if 0 ≤ t220 then (if t220 < ((rd_L3 l1 x7_2).length : Int) then (warplaw2_PickRuns.j2 k2 l1 x7_2 (!(rdOf false (rd_L3 l1 x7_2) t220)) t221 t224 t225 t228 t229 t232 t233) else (none)) else (none))) else (warplaw2_PickRuns.j2 k2 l1 x7_2 false t221 t224 t225 t228 t229 t232 t233)) = some r := by rw [if_pos rfl] at H; exact H
            clear H
            have H := H1
            clear H1
            by_cases c51 : t220 ≥ 0
            ·
             rw [if_pos c51] at H
             have c51b0 : decide (0 ≤ t220) = true := decide_eq_true c51
             clear c51
             by_cases c52 : t220 ≥ ((rd_L3 l1 x7_2).length : Int)
             ·
              rw [if_pos c52] at H
              have c52b0 : decide (((rd_L3 l1 x7_2).length : Int) ≤ t220) = true := decide_eq_true c52
              clear c52
              have H' := Aside0.mk H
              clear H
              have hnb53 := NB234_210.out
              have hnc53 := NB210_234.out
              have hnb54 := NB234_216.out
              have hnc54 := NB216_234.out
              have hnb55 := NB234_226.out
              have hnc55 := NB226_234.out
              have hcz56_0 : w42.cell? ⟨gb234, 0, none⟩ = some (.int .i64 0) := (blk_cell BK234.out 0).trans rfl
              have hcz56_1 : w42.cell? ⟨gb234, 1, none⟩ = some (.slice none 0 0) := (blk_cell BK234.out 1).trans rfl
              have hcz56_2 : w42.cell? ⟨gb234, 2, none⟩ = some (.int .i64 0) := (blk_cell BK234.out 2).trans rfl
              have hcz56_3 : w42.cell? ⟨gb234, 3, none⟩ = some (.int .i64 0) := (blk_cell BK234.out 3).trans rfl
              have hfz56_0 := blk_frozen BK234.out 0
              have hfz56_1 := blk_frozen BK234.out 1
              have hfz56_2 := blk_frozen BK234.out 2
              have hfz56_3 := blk_frozen BK234.out 3
              have hnb57 := NB226_210.out
              have hnc57 := NB210_226.out
              have hnb58 := NB226_216.out
              have hnc58 := NB216_226.out
              have hcz59_0 : w42.cell? ⟨gb226, 0, none⟩ = some (.slice Ao33 t221.length co33) := (blk_cell BK226.out 0).trans rfl
              have hcz59_1 : w42.cell? ⟨gb226, 1, none⟩ = some (.int .i64 t224) := (blk_cell BK226.out 1).trans rfl
              have hcz59_2 : w42.cell? ⟨gb226, 2, none⟩ = some (.int .i64 t225) := (blk_cell BK226.out 2).trans rfl
              have hfz59_0 := blk_frozen BK226.out 0
              have hfz59_1 := blk_frozen BK226.out 1
              have hfz59_2 := blk_frozen BK226.out 2
              go_wp2_with (first | (go_at_call 16; (with_reducible refine (warplaw2_same.calls k2 _ _ t221 t224 t225 _ _ t229 t232 t233 true _ ?side1 ?side2 ?side3 ?side4 A49.out).mono ?_); (case side1 => refine (Kd.V_reads' (e := 3) (base := w.heap.size) (ok := fun k_ => (k_ ≠ gb210 ∧ (k_ ≠ gb216 ∧ (k_ ≠ gb226 ∧ k_ ≠ gb234)))) (n := t221.length) (c := co33) ?_).2.2; exact (by (with_reducible repeat (first | apply Kd.V_alloc | apply Kd.V_drewN | apply Kd.V_drew)); exact (Kd.V_mono (Kd.V_far (p := ⟨gb234, 3, none⟩) (Kd.V_far (p := ⟨gb234, 2, none⟩) (Kd.V_far (p := ⟨gb234, 1, none⟩) (Kd.V_far (p := ⟨gb234, 0, none⟩) (Kd.V_mono HO223.out (fun k_ hk => (⟨hk, hk.2.2.2⟩ : _ ∧ k_ ≠ gb234))) (fun _ hk => hk.2) (.int .i64 t228)) (fun _ hk => hk.2) (.slice Ao44 t229.length co44)) (fun _ hk => hk.2) (.int .i64 t232)) (fun _ hk => hk.2) (.int .i64 t233)) (fun _ h_ => h_.1)))); (case side2 => exact (Kd.V_reads' HO223.out).2.1); (case side3 => refine (Kd.V_reads' (e := 3) (base := w.heap.size) (ok := fun k_ => (k_ ≠ gb210 ∧ (k_ ≠ gb216 ∧ (k_ ≠ gb226 ∧ k_ ≠ gb234)))) (n := t229.length) (c := co44) ?_).2.2; exact (by (with_reducible repeat (first | apply Kd.V_alloc | apply Kd.V_drewN | apply Kd.V_drew)); exact (Kd.V_mono (Kd.V_far (p := ⟨gb234, 3, none⟩) (Kd.V_far (p := ⟨gb234, 2, none⟩) (Kd.V_far (p := ⟨gb234, 1, none⟩) (Kd.V_far (p := ⟨gb234, 0, none⟩) (Kd.V_mono HO231.out (fun k_ hk => (⟨hk, hk.2.2.2⟩ : _ ∧ k_ ≠ gb234))) (fun _ hk => hk.2) (.int .i64 t228)) (fun _ hk => hk.2) (.slice Ao44 t229.length co44)) (fun _ hk => hk.2) (.int .i64 t232)) (fun _ hk => hk.2) (.int .i64 t233)) (fun _ h_ => h_.1)))); (case side4 => exact (Kd.V_reads' HO231.out).2.1); rintro e w60 ⟨rfl, hb⟩; have n0_ := Aside0.mk (Kd.V_below (by (with_reducible repeat (first | apply Kd.V_alloc | apply Kd.V_drewN | apply Kd.V_drew)); exact (Kd.V_mono (Kd.V_far (p := ⟨gb234, 3, none⟩) (Kd.V_far (p := ⟨gb234, 2, none⟩) (Kd.V_far (p := ⟨gb234, 1, none⟩) (Kd.V_far (p := ⟨gb234, 0, none⟩) (Kd.V_mono HO_211000.out (fun k_ hk => (⟨hk, hk.2.2.2⟩ : _ ∧ k_ ≠ gb234))) (fun _ hk => hk.2) (.int .i64 t228)) (fun _ hk => hk.2) (.slice Ao44 t229.length co44)) (fun _ hk => hk.2) (.int .i64 t232)) (fun _ hk => hk.2) (.int .i64 t233)) (fun _ h_ => h_.1))) hb); have n1_ := Aside0.mk (Kd.V_below (by (with_reducible repeat (first | apply Kd.V_alloc | apply Kd.V_drewN | apply Kd.V_drew)); exact (Kd.V_mono (Kd.V_far (p := ⟨gb234, 3, none⟩) (Kd.V_far (p := ⟨gb234, 2, none⟩) (Kd.V_far (p := ⟨gb234, 1, none⟩) (Kd.V_far (p := ⟨gb234, 0, none⟩) (Kd.V_mono HO_217000.out (fun k_ hk => (⟨hk, hk.2.2.2⟩ : _ ∧ k_ ≠ gb234))) (fun _ hk => hk.2) (.int .i64 t228)) (fun _ hk => hk.2) (.slice Ao44 t229.length co44)) (fun _ hk => hk.2) (.int .i64 t232)) (fun _ hk => hk.2) (.int .i64 t233)) (fun _ h_ => h_.1))) hb); have n2_ := Aside0.mk (Kd.V_below (by (with_reducible repeat (first | apply Kd.V_alloc | apply Kd.V_drewN | apply Kd.V_drew)); exact (Kd.V_mono (Kd.V_far (p := ⟨gb234, 3, none⟩) (Kd.V_far (p := ⟨gb234, 2, none⟩) (Kd.V_far (p := ⟨gb234, 1, none⟩) (Kd.V_far (p := ⟨gb234, 0, none⟩) (Kd.V_mono HO223.out (fun k_ hk => (⟨hk, hk.2.2.2⟩ : _ ∧ k_ ≠ gb234))) (fun _ hk => hk.2) (.int .i64 t228)) (fun _ hk => hk.2) (.slice Ao44 t229.length co44)) (fun _ hk => hk.2) (.int .i64 t232)) (fun _ hk => hk.2) (.int .i64 t233)) (fun _ h_ => h_.1))) hb); have n3_ := Aside0.mk (Kd.V_below (by (with_reducible repeat (first | apply Kd.V_alloc | apply Kd.V_drewN | apply Kd.V_drew)); exact (Kd.V_mono (Kd.V_far (p := ⟨gb234, 3, none⟩) (Kd.V_far (p := ⟨gb234, 2, none⟩) (Kd.V_far (p := ⟨gb234, 1, none⟩) (Kd.V_far (p := ⟨gb234, 0, none⟩) (Kd.V_mono HO231.out (fun k_ hk => (⟨hk, hk.2.2.2⟩ : _ ∧ k_ ≠ gb234))) (fun _ hk => hk.2) (.int .i64 t228)) (fun _ hk => hk.2) (.slice Ao44 t229.length co44)) (fun _ hk => hk.2) (.int .i64 t232)) (fun _ hk => hk.2) (.int .i64 t233)) (fun _ h_ => h_.1))) hb); have n4_ := Aside0.mk (blk_below (g := gb210) (o := .cells #[.slice Ao28 x211000_2.length co28, .int .i64 x211001_2, .int .i64 x211002_2] 24 (0, 0)) (by (with_reducible repeat (first | refine blk_drewN ?_ _ | refine blk_drew ?_ | refine blk_alloc ?_ _)); refine blk_far ?_ NB210_234.out _; (with_reducible repeat (first | refine blk_drewN ?_ _ | refine blk_drew ?_ | refine blk_alloc ?_ _)); refine blk_far ?_ NB210_234.out _; (with_reducible repeat (first | refine blk_drewN ?_ _ | refine blk_drew ?_ | refine blk_alloc ?_ _)); refine blk_far ?_ NB210_234.out _; (with_reducible repeat (first | refine blk_drewN ?_ _ | refine blk_drew ?_ | refine blk_alloc ?_ _)); refine blk_far ?_ NB210_234.out _; (with_reducible repeat (first | refine blk_drewN ?_ _ | refine blk_drew ?_ | refine blk_alloc ?_ _)); exact BK210.out) hb); have n5_ := Aside0.mk (blk_below (g := gb216) (o := .cells #[.slice Ao37 x217000_2.length co37, .int .i64 x217001_2, .int .i64 x217002_2] 24 (0, 0)) (by (with_reducible repeat (first | refine blk_drewN ?_ _ | refine blk_drew ?_ | refine blk_alloc ?_ _)); refine blk_far ?_ NB216_234.out _; (with_reducible repeat (first | refine blk_drewN ?_ _ | refine blk_drew ?_ | refine blk_alloc ?_ _)); refine blk_far ?_ NB216_234.out _; (with_reducible repeat (first | refine blk_drewN ?_ _ | refine blk_drew ?_ | refine blk_alloc ?_ _)); refine blk_far ?_ NB216_234.out _; (with_reducible repeat (first | refine blk_drewN ?_ _ | refine blk_drew ?_ | refine blk_alloc ?_ _)); refine blk_far ?_ NB216_234.out _; (with_reducible repeat (first | refine blk_drewN ?_ _ | refine blk_drew ?_ | refine blk_alloc ?_ _)); exact BK216.out) hb); have n6_ := Aside0.mk (blk_below (g := gb226) (o := .cells #[.slice Ao33 t221.length co33, .int .i64 t224, .int .i64 t225] 24 (0, 0)) (by (with_reducible repeat (first | refine blk_drewN ?_ _ | refine blk_drew ?_ | refine blk_alloc ?_ _)); refine blk_far ?_ NB226_234.out _; (with_reducible repeat (first | refine blk_drewN ?_ _ | refine blk_drew ?_ | refine blk_alloc ?_ _)); refine blk_far ?_ NB226_234.out _; (with_reducible repeat (first | refine blk_drewN ?_ _ | refine blk_drew ?_ | refine blk_alloc ?_ _)); refine blk_far ?_ NB226_234.out _; (with_reducible repeat (first | refine blk_drewN ?_ _ | refine blk_drew ?_ | refine blk_alloc ?_ _)); refine blk_far ?_ NB226_234.out _; (with_reducible repeat (first | refine blk_drewN ?_ _ | refine blk_drew ?_ | refine blk_alloc ?_ _)); exact BK226.out) hb); have n7_ := Aside0.mk (blk_below (g := gb234) (o := .cells #[.int .i64 t228, .slice Ao44 t229.length co44, .int .i64 t232, .int .i64 t233] 30 (0, 0)) (by (with_reducible repeat (first | refine blk_drewN ?_ _ | refine blk_drew ?_ | refine blk_alloc ?_ _)); refine blk_put (cs := #[.int .i64 t228, .slice Ao44 t229.length co44, .int .i64 t232, .int .i64 0]) ?_ 3 _ rfl; (with_reducible repeat (first | refine blk_drewN ?_ _ | refine blk_drew ?_ | refine blk_alloc ?_ _)); refine blk_put (cs := #[.int .i64 t228, .slice Ao44 t229.length co44, .int .i64 0, .int .i64 0]) ?_ 2 _ rfl; (with_reducible repeat (first | refine blk_drewN ?_ _ | refine blk_drew ?_ | refine blk_alloc ?_ _)); refine blk_put (cs := #[.int .i64 t228, .slice none 0 0, .int .i64 0, .int .i64 0]) ?_ 1 _ rfl; (with_reducible repeat (first | refine blk_drewN ?_ _ | refine blk_drew ?_ | refine blk_alloc ?_ _)); refine blk_put (cs := #[.int .i64 0, .slice none 0 0, .int .i64 0, .int .i64 0]) ?_ 0 _ rfl; (with_reducible repeat (first | refine blk_drewN ?_ _ | refine blk_drew ?_ | refine blk_alloc ?_ _)); exact BK234.out) hb); have n8_ := Aside0.mk (below_step (by repeat (first | (with_reducible first | exact HB.out | apply below_alloc | apply pw_below_drewN | apply below_drew1 | refine below_set ?_ GE210.out | refine below_set ?_ GE216.out | refine below_set ?_ GE226.out | refine below_set ?_ GE234.out) | exact HB.out)) hb); clear HO_211000; clear HO_217000; clear HO223; clear HO231; clear BK210; clear BK216; clear BK226; clear BK234; clear HB; have HO_211000 := n0_; have HO_217000 := n1_; have HO223 := n2_; have HO231 := n3_; have BK210 := n4_; have BK216 := n5_; have BK226 := n6_; have BK234 := n7_; have HB := n8_; clear n0_ n1_ n2_ n3_ n4_ n5_ n6_ n7_ n8_; (try clear hb); (try clear hb2); (try clear hk); (try clear hi); have p236 : 0 ≤ (x7_2 : Int) := of_decide_eq_true (by first | (with_reducible assumption) | assumption); have q236 : x7_2 < (l1.length : Int) := of_decide_eq_true (by first | (with_reducible assumption) | assumption); obtain ⟨ad236, A236_0, c236_0, e236, hx236_0, hl236_0, hi236_0⟩ := at_L3 HR1.out x7_2 p236 q236; obtain rfl : ad217 = ad236 := (by injection e236); replace hx236_0 := (HB.out.cell (World.block_lt_of_cell? w _ hx236_0)).trans hx236_0; have HR236_0 := Aside0.mk hi236_0; have HC236_0 := Aside0.mk hl236_0; clear hi236_0 hl236_0; replace p236 := eq_true p236; replace q236 := eq_true q236))
              go_meet
              case rel => exact ⟨_, (true), (by first | rfl | (simp; done) | (simp [*]; done)), H', ⟨by have := HJ2.out; have := HK2.out; first | omega | exact Nat.le_refl _⟩, ⟨by (with_reducible repeat (first | apply Kd.V_alloc | apply Kd.V_drewN | apply Kd.V_drew)); exact HO_211000.out⟩, ⟨by (with_reducible repeat (first | apply Kd.V_alloc | apply Kd.V_drewN | apply Kd.V_drew)); exact HO_217000.out⟩, ⟨by (with_reducible repeat (first | apply Kd.V_alloc | apply Kd.V_drewN | apply Kd.V_drew)); exact HO223.out⟩, ⟨by (with_reducible repeat (first | apply Kd.V_alloc | apply Kd.V_drewN | apply Kd.V_drew)); exact HO231.out⟩, ⟨by (with_reducible repeat (first | refine blk_drewN ?_ _ | refine blk_drew ?_ | refine blk_alloc ?_ _)); exact BK210.out⟩, ⟨by (with_reducible repeat (first | refine blk_drewN ?_ _ | refine blk_drew ?_ | refine blk_alloc ?_ _)); exact BK216.out⟩, ⟨by (with_reducible repeat (first | refine blk_drewN ?_ _ | refine blk_drew ?_ | refine blk_alloc ?_ _)); exact BK226.out⟩, ⟨by (with_reducible repeat (first | refine blk_drewN ?_ _ | refine blk_drew ?_ | refine blk_alloc ?_ _)); exact BK234.out⟩, ⟨by repeat (first | (with_reducible first | exact HB.out | apply below_alloc | apply pw_below_drewN | apply below_drew1 | refine below_set ?_ GE210.out | refine below_set ?_ GE216.out | refine below_set ?_ GE226.out | refine below_set ?_ GE234.out) | exact HB.out)⟩⟩
             ·
              rw [if_neg c52] at H
              have c52b0 : decide (((rd_L3 l1 x7_2).length : Int) ≤ t220) = false := decide_eq_false c52
              clear c52
              by_cases c61 : 0 ≤ t220
              ·
               rw [if_pos c61] at H
               have c61b0 : decide (0 ≤ t220) = true := decide_eq_true c61
               clear c61
               by_cases c62 : t220 < ((rd_L3 l1 x7_2).length : Int)
               ·
                rw [if_pos c62] at H
                have c62b0 : decide (t220 < ((rd_L3 l1 x7_2).length : Int)) = true := decide_eq_true c62
                clear c62
                have H' := Aside0.mk H
                clear H
                have hnb63 := NB234_210.out
                have hnc63 := NB210_234.out
                have hnb64 := NB234_216.out
                have hnc64 := NB216_234.out
                have hnb65 := NB234_226.out
                have hnc65 := NB226_234.out
                have hcz66_0 : w42.cell? ⟨gb234, 0, none⟩ = some (.int .i64 0) := (blk_cell BK234.out 0).trans rfl
                have hcz66_1 : w42.cell? ⟨gb234, 1, none⟩ = some (.slice none 0 0) := (blk_cell BK234.out 1).trans rfl
                have hcz66_2 : w42.cell? ⟨gb234, 2, none⟩ = some (.int .i64 0) := (blk_cell BK234.out 2).trans rfl
                have hcz66_3 : w42.cell? ⟨gb234, 3, none⟩ = some (.int .i64 0) := (blk_cell BK234.out 3).trans rfl
                have hfz66_0 := blk_frozen BK234.out 0
                have hfz66_1 := blk_frozen BK234.out 1
                have hfz66_2 := blk_frozen BK234.out 2
                have hfz66_3 := blk_frozen BK234.out 3
                have hnb67 := NB226_210.out
                have hnc67 := NB210_226.out
                have hnb68 := NB226_216.out
                have hnc68 := NB216_226.out
                have hcz69_0 : w42.cell? ⟨gb226, 0, none⟩ = some (.slice Ao33 t221.length co33) := (blk_cell BK226.out 0).trans rfl
                have hcz69_1 : w42.cell? ⟨gb226, 1, none⟩ = some (.int .i64 t224) := (blk_cell BK226.out 1).trans rfl
                have hcz69_2 : w42.cell? ⟨gb226, 2, none⟩ = some (.int .i64 t225) := (blk_cell BK226.out 2).trans rfl
                have hfz69_0 := blk_frozen BK226.out 0
                have hfz69_1 := blk_frozen BK226.out 1
                have hfz69_2 := blk_frozen BK226.out 2
                go_wp2_with (first | (go_at_call 16; (with_reducible refine (warplaw2_same.calls k2 _ _ t221 t224 t225 _ _ t229 t232 t233 true _ ?side1 ?side2 ?side3 ?side4 A49.out).mono ?_); (case side1 => refine (Kd.V_reads' (e := 3) (base := w.heap.size) (ok := fun k_ => (k_ ≠ gb210 ∧ (k_ ≠ gb216 ∧ (k_ ≠ gb226 ∧ k_ ≠ gb234)))) (n := t221.length) (c := co33) ?_).2.2; exact (by (with_reducible repeat (first | apply Kd.V_alloc | apply Kd.V_drewN | apply Kd.V_drew)); exact (Kd.V_mono (Kd.V_far (p := ⟨gb234, 3, none⟩) (Kd.V_far (p := ⟨gb234, 2, none⟩) (Kd.V_far (p := ⟨gb234, 1, none⟩) (Kd.V_far (p := ⟨gb234, 0, none⟩) (Kd.V_mono HO223.out (fun k_ hk => (⟨hk, hk.2.2.2⟩ : _ ∧ k_ ≠ gb234))) (fun _ hk => hk.2) (.int .i64 t228)) (fun _ hk => hk.2) (.slice Ao44 t229.length co44)) (fun _ hk => hk.2) (.int .i64 t232)) (fun _ hk => hk.2) (.int .i64 t233)) (fun _ h_ => h_.1)))); (case side2 => exact (Kd.V_reads' HO223.out).2.1); (case side3 => refine (Kd.V_reads' (e := 3) (base := w.heap.size) (ok := fun k_ => (k_ ≠ gb210 ∧ (k_ ≠ gb216 ∧ (k_ ≠ gb226 ∧ k_ ≠ gb234)))) (n := t229.length) (c := co44) ?_).2.2; exact (by (with_reducible repeat (first | apply Kd.V_alloc | apply Kd.V_drewN | apply Kd.V_drew)); exact (Kd.V_mono (Kd.V_far (p := ⟨gb234, 3, none⟩) (Kd.V_far (p := ⟨gb234, 2, none⟩) (Kd.V_far (p := ⟨gb234, 1, none⟩) (Kd.V_far (p := ⟨gb234, 0, none⟩) (Kd.V_mono HO231.out (fun k_ hk => (⟨hk, hk.2.2.2⟩ : _ ∧ k_ ≠ gb234))) (fun _ hk => hk.2) (.int .i64 t228)) (fun _ hk => hk.2) (.slice Ao44 t229.length co44)) (fun _ hk => hk.2) (.int .i64 t232)) (fun _ hk => hk.2) (.int .i64 t233)) (fun _ h_ => h_.1)))); (case side4 => exact (Kd.V_reads' HO231.out).2.1); rintro e w70 ⟨rfl, hb⟩; have n0_ := Aside0.mk (Kd.V_below (by (with_reducible repeat (first | apply Kd.V_alloc | apply Kd.V_drewN | apply Kd.V_drew)); exact (Kd.V_mono (Kd.V_far (p := ⟨gb234, 3, none⟩) (Kd.V_far (p := ⟨gb234, 2, none⟩) (Kd.V_far (p := ⟨gb234, 1, none⟩) (Kd.V_far (p := ⟨gb234, 0, none⟩) (Kd.V_mono HO_211000.out (fun k_ hk => (⟨hk, hk.2.2.2⟩ : _ ∧ k_ ≠ gb234))) (fun _ hk => hk.2) (.int .i64 t228)) (fun _ hk => hk.2) (.slice Ao44 t229.length co44)) (fun _ hk => hk.2) (.int .i64 t232)) (fun _ hk => hk.2) (.int .i64 t233)) (fun _ h_ => h_.1))) hb); have n1_ := Aside0.mk (Kd.V_below (by (with_reducible repeat (first | apply Kd.V_alloc | apply Kd.V_drewN | apply Kd.V_drew)); exact (Kd.V_mono (Kd.V_far (p := ⟨gb234, 3, none⟩) (Kd.V_far (p := ⟨gb234, 2, none⟩) (Kd.V_far (p := ⟨gb234, 1, none⟩) (Kd.V_far (p := ⟨gb234, 0, none⟩) (Kd.V_mono HO_217000.out (fun k_ hk => (⟨hk, hk.2.2.2⟩ : _ ∧ k_ ≠ gb234))) (fun _ hk => hk.2) (.int .i64 t228)) (fun _ hk => hk.2) (.slice Ao44 t229.length co44)) (fun _ hk => hk.2) (.int .i64 t232)) (fun _ hk => hk.2) (.int .i64 t233)) (fun _ h_ => h_.1))) hb); have n2_ := Aside0.mk (Kd.V_below (by (with_reducible repeat (first | apply Kd.V_alloc | apply Kd.V_drewN | apply Kd.V_drew)); exact (Kd.V_mono (Kd.V_far (p := ⟨gb234, 3, none⟩) (Kd.V_far (p := ⟨gb234, 2, none⟩) (Kd.V_far (p := ⟨gb234, 1, none⟩) (Kd.V_far (p := ⟨gb234, 0, none⟩) (Kd.V_mono HO223.out (fun k_ hk => (⟨hk, hk.2.2.2⟩ : _ ∧ k_ ≠ gb234))) (fun _ hk => hk.2) (.int .i64 t228)) (fun _ hk => hk.2) (.slice Ao44 t229.length co44)) (fun _ hk => hk.2) (.int .i64 t232)) (fun _ hk => hk.2) (.int .i64 t233)) (fun _ h_ => h_.1))) hb); have n3_ := Aside0.mk (Kd.V_below (by (with_reducible repeat (first | apply Kd.V_alloc | apply Kd.V_drewN | apply Kd.V_drew)); exact (Kd.V_mono (Kd.V_far (p := ⟨gb234, 3, none⟩) (Kd.V_far (p := ⟨gb234, 2, none⟩) (Kd.V_far (p := ⟨gb234, 1, none⟩) (Kd.V_far (p := ⟨gb234, 0, none⟩) (Kd.V_mono HO231.out (fun k_ hk => (⟨hk, hk.2.2.2⟩ : _ ∧ k_ ≠ gb234))) (fun _ hk => hk.2) (.int .i64 t228)) (fun _ hk => hk.2) (.slice Ao44 t229.length co44)) (fun _ hk => hk.2) (.int .i64 t232)) (fun _ hk => hk.2) (.int .i64 t233)) (fun _ h_ => h_.1))) hb); have n4_ := Aside0.mk (blk_below (g := gb210) (o := .cells #[.slice Ao28 x211000_2.length co28, .int .i64 x211001_2, .int .i64 x211002_2] 24 (0, 0)) (by (with_reducible repeat (first | refine blk_drewN ?_ _ | refine blk_drew ?_ | refine blk_alloc ?_ _)); refine blk_far ?_ NB210_234.out _; (with_reducible repeat (first | refine blk_drewN ?_ _ | refine blk_drew ?_ | refine blk_alloc ?_ _)); refine blk_far ?_ NB210_234.out _; (with_reducible repeat (first | refine blk_drewN ?_ _ | refine blk_drew ?_ | refine blk_alloc ?_ _)); refine blk_far ?_ NB210_234.out _; (with_reducible repeat (first | refine blk_drewN ?_ _ | refine blk_drew ?_ | refine blk_alloc ?_ _)); refine blk_far ?_ NB210_234.out _; (with_reducible repeat (first | refine blk_drewN ?_ _ | refine blk_drew ?_ | refine blk_alloc ?_ _)); exact BK210.out) hb); have n5_ := Aside0.mk (blk_below (g := gb216) (o := .cells #[.slice Ao37 x217000_2.length co37, .int .i64 x217001_2, .int .i64 x217002_2] 24 (0, 0)) (by (with_reducible repeat (first | refine blk_drewN ?_ _ | refine blk_drew ?_ | refine blk_alloc ?_ _)); refine blk_far ?_ NB216_234.out _; (with_reducible repeat (first | refine blk_drewN ?_ _ | refine blk_drew ?_ | refine blk_alloc ?_ _)); refine blk_far ?_ NB216_234.out _; (with_reducible repeat (first | refine blk_drewN ?_ _ | refine blk_drew ?_ | refine blk_alloc ?_ _)); refine blk_far ?_ NB216_234.out _; (with_reducible repeat (first | refine blk_drewN ?_ _ | refine blk_drew ?_ | refine blk_alloc ?_ _)); refine blk_far ?_ NB216_234.out _; (with_reducible repeat (first | refine blk_drewN ?_ _ | refine blk_drew ?_ | refine blk_alloc ?_ _)); exact BK216.out) hb); have n6_ := Aside0.mk (blk_below (g := gb226) (o := .cells #[.slice Ao33 t221.length co33, .int .i64 t224, .int .i64 t225] 24 (0, 0)) (by (with_reducible repeat (first | refine blk_drewN ?_ _ | refine blk_drew ?_ | refine blk_alloc ?_ _)); refine blk_far ?_ NB226_234.out _; (with_reducible repeat (first | refine blk_drewN ?_ _ | refine blk_drew ?_ | refine blk_alloc ?_ _)); refine blk_far ?_ NB226_234.out _; (with_reducible repeat (first | refine blk_drewN ?_ _ | refine blk_drew ?_ | refine blk_alloc ?_ _)); refine blk_far ?_ NB226_234.out _; (with_reducible repeat (first | refine blk_drewN ?_ _ | refine blk_drew ?_ | refine blk_alloc ?_ _)); refine blk_far ?_ NB226_234.out _; (with_reducible repeat (first | refine blk_drewN ?_ _ | refine blk_drew ?_ | refine blk_alloc ?_ _)); exact BK226.out) hb); have n7_ := Aside0.mk (blk_below (g := gb234) (o := .cells #[.int .i64 t228, .slice Ao44 t229.length co44, .int .i64 t232, .int .i64 t233] 30 (0, 0)) (by (with_reducible repeat (first | refine blk_drewN ?_ _ | refine blk_drew ?_ | refine blk_alloc ?_ _)); refine blk_put (cs := #[.int .i64 t228, .slice Ao44 t229.length co44, .int .i64 t232, .int .i64 0]) ?_ 3 _ rfl; (with_reducible repeat (first | refine blk_drewN ?_ _ | refine blk_drew ?_ | refine blk_alloc ?_ _)); refine blk_put (cs := #[.int .i64 t228, .slice Ao44 t229.length co44, .int .i64 0, .int .i64 0]) ?_ 2 _ rfl; (with_reducible repeat (first | refine blk_drewN ?_ _ | refine blk_drew ?_ | refine blk_alloc ?_ _)); refine blk_put (cs := #[.int .i64 t228, .slice none 0 0, .int .i64 0, .int .i64 0]) ?_ 1 _ rfl; (with_reducible repeat (first | refine blk_drewN ?_ _ | refine blk_drew ?_ | refine blk_alloc ?_ _)); refine blk_put (cs := #[.int .i64 0, .slice none 0 0, .int .i64 0, .int .i64 0]) ?_ 0 _ rfl; (with_reducible repeat (first | refine blk_drewN ?_ _ | refine blk_drew ?_ | refine blk_alloc ?_ _)); exact BK234.out) hb); have n8_ := Aside0.mk (below_step (by repeat (first | (with_reducible first | exact HB.out | apply below_alloc | apply pw_below_drewN | apply below_drew1 | refine below_set ?_ GE210.out | refine below_set ?_ GE216.out | refine below_set ?_ GE226.out | refine below_set ?_ GE234.out) | exact HB.out)) hb); clear HO_211000; clear HO_217000; clear HO223; clear HO231; clear BK210; clear BK216; clear BK226; clear BK234; clear HB; have HO_211000 := n0_; have HO_217000 := n1_; have HO223 := n2_; have HO231 := n3_; have BK210 := n4_; have BK216 := n5_; have BK226 := n6_; have BK234 := n7_; have HB := n8_; clear n0_ n1_ n2_ n3_ n4_ n5_ n6_ n7_ n8_; (try clear hb); (try clear hb2); (try clear hk); (try clear hi); have p236 : 0 ≤ (x7_2 : Int) := of_decide_eq_true (by first | (with_reducible assumption) | assumption); have q236 : x7_2 < (l1.length : Int) := of_decide_eq_true (by first | (with_reducible assumption) | assumption); obtain ⟨ad236, A236_0, c236_0, e236, hx236_0, hl236_0, hi236_0⟩ := at_L3 HR1.out x7_2 p236 q236; obtain rfl : ad217 = ad236 := (by injection e236); replace hx236_0 := (HB.out.cell (World.block_lt_of_cell? w _ hx236_0)).trans hx236_0; have HR236_0 := Aside0.mk hi236_0; have HC236_0 := Aside0.mk hl236_0; clear hi236_0 hl236_0; replace p236 := eq_true p236; replace q236 := eq_true q236; have p237 : 0 ≤ (x7_2 : Int) := of_decide_eq_true (by first | (with_reducible assumption) | assumption); have q237 : x7_2 < (l1.length : Int) := of_decide_eq_true (by first | (with_reducible assumption) | assumption); obtain ⟨ad237, A237_0, c237_0, e237, hx237_0, hl237_0, hi237_0⟩ := at_L3 HR1.out x7_2 p237 q237; obtain rfl : ad217 = ad237 := (by injection e237); replace hx237_0 := (HB.out.cell (World.block_lt_of_cell? w _ hx237_0)).trans hx237_0; have HR237_0 := Aside0.mk hi237_0; have HC237_0 := Aside0.mk hl237_0; clear hi237_0 hl237_0; replace p237 := eq_true p237; replace q237 := eq_true q237; have ea_ := Option.some.inj (hx236_0.symm.trans hx237_0); injection ea_ with ea_ en_ ec_; subst ea_; subst ec_; clear en_; have p238 : 0 ≤ (t220 : Int) := of_decide_eq_true (by first | (with_reducible assumption) | assumption); have q238 : t220 < ((rd_L3 l1 x7_2).length : Int) := of_decide_eq_true (by first | (with_reducible assumption) | assumption); obtain ⟨ad238, e238, hx238_0⟩ := Kd.at_bool HR237_0.out t220 p238 q238; cases e238; replace hx238_0 := (HB.out.cell (World.block_lt_of_cell? w _ hx238_0)).trans hx238_0; replace p238 := eq_true p238; replace q238 := eq_true q238))
                go_meet
                case rel => exact ⟨_, (!(rdOf false (rd_L3 l1 x7_2) t220)), (by first | rfl | (simp; done) | (simp [*]; done)), H', ⟨by have := HJ2.out; have := HK2.out; first | omega | exact Nat.le_refl _⟩, ⟨by (with_reducible repeat (first | apply Kd.V_alloc | apply Kd.V_drewN | apply Kd.V_drew)); exact HO_211000.out⟩, ⟨by (with_reducible repeat (first | apply Kd.V_alloc | apply Kd.V_drewN | apply Kd.V_drew)); exact HO_217000.out⟩, ⟨by (with_reducible repeat (first | apply Kd.V_alloc | apply Kd.V_drewN | apply Kd.V_drew)); exact HO223.out⟩, ⟨by (with_reducible repeat (first | apply Kd.V_alloc | apply Kd.V_drewN | apply Kd.V_drew)); exact HO231.out⟩, ⟨by (with_reducible repeat (first | refine blk_drewN ?_ _ | refine blk_drew ?_ | refine blk_alloc ?_ _)); exact BK210.out⟩, ⟨by (with_reducible repeat (first | refine blk_drewN ?_ _ | refine blk_drew ?_ | refine blk_alloc ?_ _)); exact BK216.out⟩, ⟨by (with_reducible repeat (first | refine blk_drewN ?_ _ | refine blk_drew ?_ | refine blk_alloc ?_ _)); exact BK226.out⟩, ⟨by (with_reducible repeat (first | refine blk_drewN ?_ _ | refine blk_drew ?_ | refine blk_alloc ?_ _)); exact BK234.out⟩, ⟨by repeat (first | (with_reducible first | exact HB.out | apply below_alloc | apply pw_below_drewN | apply below_drew1 | refine below_set ?_ GE210.out | refine below_set ?_ GE216.out | refine below_set ?_ GE226.out | refine below_set ?_ GE234.out) | exact HB.out)⟩⟩
               ·
                rw [if_neg c62] at H
                exact absurd H (by simp)
              ·
               rw [if_neg c61] at H
               exact absurd H (by simp)
            ·
             rw [if_neg c51] at H
             have c51b0 : decide (0 ≤ t220) = false := decide_eq_false c51
             clear c51
             have H' := Aside0.mk H
             clear H
             have hnb71 := NB234_210.out
             have hnc71 := NB210_234.out
             have hnb72 := NB234_216.out
             have hnc72 := NB216_234.out
             have hnb73 := NB234_226.out
             have hnc73 := NB226_234.out
             have hcz74_0 : w42.cell? ⟨gb234, 0, none⟩ = some (.int .i64 0) := (blk_cell BK234.out 0).trans rfl
             have hcz74_1 : w42.cell? ⟨gb234, 1, none⟩ = some (.slice none 0 0) := (blk_cell BK234.out 1).trans rfl
             have hcz74_2 : w42.cell? ⟨gb234, 2, none⟩ = some (.int .i64 0) := (blk_cell BK234.out 2).trans rfl
             have hcz74_3 : w42.cell? ⟨gb234, 3, none⟩ = some (.int .i64 0) := (blk_cell BK234.out 3).trans rfl
             have hfz74_0 := blk_frozen BK234.out 0
             have hfz74_1 := blk_frozen BK234.out 1
             have hfz74_2 := blk_frozen BK234.out 2
             have hfz74_3 := blk_frozen BK234.out 3
             have hnb75 := NB226_210.out
             have hnc75 := NB210_226.out
             have hnb76 := NB226_216.out
             have hnc76 := NB216_226.out
             have hcz77_0 : w42.cell? ⟨gb226, 0, none⟩ = some (.slice Ao33 t221.length co33) := (blk_cell BK226.out 0).trans rfl
             have hcz77_1 : w42.cell? ⟨gb226, 1, none⟩ = some (.int .i64 t224) := (blk_cell BK226.out 1).trans rfl
             have hcz77_2 : w42.cell? ⟨gb226, 2, none⟩ = some (.int .i64 t225) := (blk_cell BK226.out 2).trans rfl
             have hfz77_0 := blk_frozen BK226.out 0
             have hfz77_1 := blk_frozen BK226.out 1
             have hfz77_2 := blk_frozen BK226.out 2
             go_wp2_with (first | (go_at_call 16; (with_reducible refine (warplaw2_same.calls k2 _ _ t221 t224 t225 _ _ t229 t232 t233 true _ ?side1 ?side2 ?side3 ?side4 A49.out).mono ?_); (case side1 => refine (Kd.V_reads' (e := 3) (base := w.heap.size) (ok := fun k_ => (k_ ≠ gb210 ∧ (k_ ≠ gb216 ∧ (k_ ≠ gb226 ∧ k_ ≠ gb234)))) (n := t221.length) (c := co33) ?_).2.2; exact (by (with_reducible repeat (first | apply Kd.V_alloc | apply Kd.V_drewN | apply Kd.V_drew)); exact (Kd.V_mono (Kd.V_far (p := ⟨gb234, 3, none⟩) (Kd.V_far (p := ⟨gb234, 2, none⟩) (Kd.V_far (p := ⟨gb234, 1, none⟩) (Kd.V_far (p := ⟨gb234, 0, none⟩) (Kd.V_mono HO223.out (fun k_ hk => (⟨hk, hk.2.2.2⟩ : _ ∧ k_ ≠ gb234))) (fun _ hk => hk.2) (.int .i64 t228)) (fun _ hk => hk.2) (.slice Ao44 t229.length co44)) (fun _ hk => hk.2) (.int .i64 t232)) (fun _ hk => hk.2) (.int .i64 t233)) (fun _ h_ => h_.1)))); (case side2 => exact (Kd.V_reads' HO223.out).2.1); (case side3 => refine (Kd.V_reads' (e := 3) (base := w.heap.size) (ok := fun k_ => (k_ ≠ gb210 ∧ (k_ ≠ gb216 ∧ (k_ ≠ gb226 ∧ k_ ≠ gb234)))) (n := t229.length) (c := co44) ?_).2.2; exact (by (with_reducible repeat (first | apply Kd.V_alloc | apply Kd.V_drewN | apply Kd.V_drew)); exact (Kd.V_mono (Kd.V_far (p := ⟨gb234, 3, none⟩) (Kd.V_far (p := ⟨gb234, 2, none⟩) (Kd.V_far (p := ⟨gb234, 1, none⟩) (Kd.V_far (p := ⟨gb234, 0, none⟩) (Kd.V_mono HO231.out (fun k_ hk => (⟨hk, hk.2.2.2⟩ : _ ∧ k_ ≠ gb234))) (fun _ hk => hk.2) (.int .i64 t228)) (fun _ hk => hk.2) (.slice Ao44 t229.length co44)) (fun _ hk => hk.2) (.int .i64 t232)) (fun _ hk => hk.2) (.int .i64 t233)) (fun _ h_ => h_.1)))); (case side4 => exact (Kd.V_reads' HO231.out).2.1); rintro e w78 ⟨rfl, hb⟩; have n0_ := Aside0.mk (Kd.V_below (by (with_reducible repeat (first | apply Kd.V_alloc | apply Kd.V_drewN | apply Kd.V_drew)); exact (Kd.V_mono (Kd.V_far (p := ⟨gb234, 3, none⟩) (Kd.V_far (p := ⟨gb234, 2, none⟩) (Kd.V_far (p := ⟨gb234, 1, none⟩) (Kd.V_far (p := ⟨gb234, 0, none⟩) (Kd.V_mono HO_211000.out (fun k_ hk => (⟨hk, hk.2.2.2⟩ : _ ∧ k_ ≠ gb234))) (fun _ hk => hk.2) (.int .i64 t228)) (fun _ hk => hk.2) (.slice Ao44 t229.length co44)) (fun _ hk => hk.2) (.int .i64 t232)) (fun _ hk => hk.2) (.int .i64 t233)) (fun _ h_ => h_.1))) hb); have n1_ := Aside0.mk (Kd.V_below (by (with_reducible repeat (first | apply Kd.V_alloc | apply Kd.V_drewN | apply Kd.V_drew)); exact (Kd.V_mono (Kd.V_far (p := ⟨gb234, 3, none⟩) (Kd.V_far (p := ⟨gb234, 2, none⟩) (Kd.V_far (p := ⟨gb234, 1, none⟩) (Kd.V_far (p := ⟨gb234, 0, none⟩) (Kd.V_mono HO_217000.out (fun k_ hk => (⟨hk, hk.2.2.2⟩ : _ ∧ k_ ≠ gb234))) (fun _ hk => hk.2) (.int .i64 t228)) (fun _ hk => hk.2) (.slice Ao44 t229.length co44)) (fun _ hk => hk.2) (.int .i64 t232)) (fun _ hk => hk.2) (.int .i64 t233)) (fun _ h_ => h_.1))) hb); have n2_ := Aside0.mk (Kd.V_below (by (with_reducible repeat (first | apply Kd.V_alloc | apply Kd.V_drewN | apply Kd.V_drew)); exact (Kd.V_mono (Kd.V_far (p := ⟨gb234, 3, none⟩) (Kd.V_far (p := ⟨gb234, 2, none⟩) (Kd.V_far (p := ⟨gb234, 1, none⟩) (Kd.V_far (p := ⟨gb234, 0, none⟩) (Kd.V_mono HO223.out (fun k_ hk => (⟨hk, hk.2.2.2⟩ : _ ∧ k_ ≠ gb234))) (fun _ hk => hk.2) (.int .i64 t228)) (fun _ hk => hk.2) (.slice Ao44 t229.length co44)) (fun _ hk => hk.2) (.int .i64 t232)) (fun _ hk => hk.2) (.int .i64 t233)) (fun _ h_ => h_.1))) hb); have n3_ := Aside0.mk (Kd.V_below (by (with_reducible repeat (first | apply Kd.V_alloc | apply Kd.V_drewN | apply Kd.V_drew)); exact (Kd.V_mono (Kd.V_far (p := ⟨gb234, 3, none⟩) (Kd.V_far (p := ⟨gb234, 2, none⟩) (Kd.V_far (p := ⟨gb234, 1, none⟩) (Kd.V_far (p := ⟨gb234, 0, none⟩) (Kd.V_mono HO231.out (fun k_ hk => (⟨hk, hk.2.2.2⟩ : _ ∧ k_ ≠ gb234))) (fun _ hk => hk.2) (.int .i64 t228)) (fun _ hk => hk.2) (.slice Ao44 t229.length co44)) (fun _ hk => hk.2) (.int .i64 t232)) (fun _ hk => hk.2) (.int .i64 t233)) (fun _ h_ => h_.1))) hb); have n4_ := Aside0.mk (blk_below (g := gb210) (o := .cells #[.slice Ao28 x211000_2.length co28, .int .i64 x211001_2, .int .i64 x211002_2] 24 (0, 0)) (by (with_reducible repeat (first | refine blk_drewN ?_ _ | refine blk_drew ?_ | refine blk_alloc ?_ _)); refine blk_far ?_ NB210_234.out _; (with_reducible repeat (first | refine blk_drewN ?_ _ | refine blk_drew ?_ | refine blk_alloc ?_ _)); refine blk_far ?_ NB210_234.out _; (with_reducible repeat (first | refine blk_drewN ?_ _ | refine blk_drew ?_ | refine blk_alloc ?_ _)); refine blk_far ?_ NB210_234.out _; (with_reducible repeat (first | refine blk_drewN ?_ _ | refine blk_drew ?_ | refine blk_alloc ?_ _)); refine blk_far ?_ NB210_234.out _; (with_reducible repeat (first | refine blk_drewN ?_ _ | refine blk_drew ?_ | refine blk_alloc ?_ _)); exact BK210.out) hb); have n5_ := Aside0.mk (blk_below (g := gb216) (o := .cells #[.slice Ao37 x217000_2.length co37, .int .i64 x217001_2, .int .i64 x217002_2] 24 (0, 0)) (by (with_reducible repeat (first | refine blk_drewN ?_ _ | refine blk_drew ?_ | refine blk_alloc ?_ _)); refine blk_far ?_ NB216_234.out _; (with_reducible repeat (first | refine blk_drewN ?_ _ | refine blk_drew ?_ | refine blk_alloc ?_ _)); refine blk_far ?_ NB216_234.out _; (with_reducible repeat (first | refine blk_drewN ?_ _ | refine blk_drew ?_ | refine blk_alloc ?_ _)); refine blk_far ?_ NB216_234.out _; (with_reducible repeat (first | refine blk_drewN ?_ _ | refine blk_drew ?_ | refine blk_alloc ?_ _)); refine blk_far ?_ NB216_234.out _; (with_reducible repeat (first | refine blk_drewN ?_ _ | refine blk_drew ?_ | refine blk_alloc ?_ _)); exact BK216.out) hb); have n6_ := Aside0.mk (blk_below (g := gb226) (o := .cells #[.slice Ao33 t221.length co33, .int .i64 t224, .int .i64 t225] 24 (0, 0)) (by (with_reducible repeat (first | refine blk_drewN ?_ _ | refine blk_drew ?_ | refine blk_alloc ?_ _)); refine blk_far ?_ NB226_234.out _; (with_reducible repeat (first | refine blk_drewN ?_ _ | refine blk_drew ?_ | refine blk_alloc ?_ _)); refine blk_far ?_ NB226_234.out _; (with_reducible repeat (first | refine blk_drewN ?_ _ | refine blk_drew ?_ | refine blk_alloc ?_ _)); refine blk_far ?_ NB226_234.out _; (with_reducible repeat (first | refine blk_drewN ?_ _ | refine blk_drew ?_ | refine blk_alloc ?_ _)); refine blk_far ?_ NB226_234.out _; (with_reducible repeat (first | refine blk_drewN ?_ _ | refine blk_drew ?_ | refine blk_alloc ?_ _)); exact BK226.out) hb); have n7_ := Aside0.mk (blk_below (g := gb234) (o := .cells #[.int .i64 t228, .slice Ao44 t229.length co44, .int .i64 t232, .int .i64 t233] 30 (0, 0)) (by (with_reducible repeat (first | refine blk_drewN ?_ _ | refine blk_drew ?_ | refine blk_alloc ?_ _)); refine blk_put (cs := #[.int .i64 t228, .slice Ao44 t229.length co44, .int .i64 t232, .int .i64 0]) ?_ 3 _ rfl; (with_reducible repeat (first | refine blk_drewN ?_ _ | refine blk_drew ?_ | refine blk_alloc ?_ _)); refine blk_put (cs := #[.int .i64 t228, .slice Ao44 t229.length co44, .int .i64 0, .int .i64 0]) ?_ 2 _ rfl; (with_reducible repeat (first | refine blk_drewN ?_ _ | refine blk_drew ?_ | refine blk_alloc ?_ _)); refine blk_put (cs := #[.int .i64 t228, .slice none 0 0, .int .i64 0, .int .i64 0]) ?_ 1 _ rfl; (with_reducible repeat (first | refine blk_drewN ?_ _ | refine blk_drew ?_ | refine blk_alloc ?_ _)); refine blk_put (cs := #[.int .i64 0, .slice none 0 0, .int .i64 0, .int .i64 0]) ?_ 0 _ rfl; (with_reducible repeat (first | refine blk_drewN ?_ _ | refine blk_drew ?_ | refine blk_alloc ?_ _)); exact BK234.out) hb); have n8_ := Aside0.mk (below_step (by repeat (first | (with_reducible first | exact HB.out | apply below_alloc | apply pw_below_drewN | apply below_drew1 | refine below_set ?_ GE210.out | refine below_set ?_ GE216.out | refine below_set ?_ GE226.out | refine below_set ?_ GE234.out) | exact HB.out)) hb); clear HO_211000; clear HO_217000; clear HO223; clear HO231; clear BK210; clear BK216; clear BK226; clear BK234; clear HB; have HO_211000 := n0_; have HO_217000 := n1_; have HO223 := n2_; have HO231 := n3_; have BK210 := n4_; have BK216 := n5_; have BK226 := n6_; have BK234 := n7_; have HB := n8_; clear n0_ n1_ n2_ n3_ n4_ n5_ n6_ n7_ n8_; (try clear hb); (try clear hb2); (try clear hk); (try clear hi)))
             go_meet
             case rel => exact ⟨_, (false), (by first | rfl | (simp; done) | (simp [*]; done)), H', ⟨by have := HJ2.out; have := HK2.out; first | omega | exact Nat.le_refl _⟩, ⟨by (with_reducible repeat (first | apply Kd.V_alloc | apply Kd.V_drewN | apply Kd.V_drew)); exact HO_211000.out⟩, ⟨by (with_reducible repeat (first | apply Kd.V_alloc | apply Kd.V_drewN | apply Kd.V_drew)); exact HO_217000.out⟩, ⟨by (with_reducible repeat (first | apply Kd.V_alloc | apply Kd.V_drewN | apply Kd.V_drew)); exact HO223.out⟩, ⟨by (with_reducible repeat (first | apply Kd.V_alloc | apply Kd.V_drewN | apply Kd.V_drew)); exact HO231.out⟩, ⟨by (with_reducible repeat (first | refine blk_drewN ?_ _ | refine blk_drew ?_ | refine blk_alloc ?_ _)); exact BK210.out⟩, ⟨by (with_reducible repeat (first | refine blk_drewN ?_ _ | refine blk_drew ?_ | refine blk_alloc ?_ _)); exact BK216.out⟩, ⟨by (with_reducible repeat (first | refine blk_drewN ?_ _ | refine blk_drew ?_ | refine blk_alloc ?_ _)); exact BK226.out⟩, ⟨by (with_reducible repeat (first | refine blk_drewN ?_ _ | refine blk_drew ?_ | refine blk_alloc ?_ _)); exact BK234.out⟩, ⟨by repeat (first | (with_reducible first | exact HB.out | apply below_alloc | apply pw_below_drewN | apply below_drew1 | refine below_set ?_ GE210.out | refine below_set ?_ GE216.out | refine below_set ?_ GE226.out | refine below_set ?_ GE234.out) | exact HB.out)⟩⟩
           ·
            replace c50 := Bool.eq_false_iff.mpr c50
            subst c50
            have H1 : (warplaw2_PickRuns.j2 k2 l1 x7_2 true t221 t224 t225 t228 t229 t232 t233) = some r := by rw [if_neg (show ¬ (false = true) by decide)] at H; exact H
            clear H
            have H := H1
            clear H1
            have H' := Aside0.mk H
            clear H
            have hnb79 := NB234_210.out
            have hnc79 := NB210_234.out
            have hnb80 := NB234_216.out
            have hnc80 := NB216_234.out
            have hnb81 := NB234_226.out
            have hnc81 := NB226_234.out
            have hcz82_0 : w42.cell? ⟨gb234, 0, none⟩ = some (.int .i64 0) := (blk_cell BK234.out 0).trans rfl
            have hcz82_1 : w42.cell? ⟨gb234, 1, none⟩ = some (.slice none 0 0) := (blk_cell BK234.out 1).trans rfl
            have hcz82_2 : w42.cell? ⟨gb234, 2, none⟩ = some (.int .i64 0) := (blk_cell BK234.out 2).trans rfl
            have hcz82_3 : w42.cell? ⟨gb234, 3, none⟩ = some (.int .i64 0) := (blk_cell BK234.out 3).trans rfl
            have hfz82_0 := blk_frozen BK234.out 0
            have hfz82_1 := blk_frozen BK234.out 1
            have hfz82_2 := blk_frozen BK234.out 2
            have hfz82_3 := blk_frozen BK234.out 3
            have hnb83 := NB226_210.out
            have hnc83 := NB210_226.out
            have hnb84 := NB226_216.out
            have hnc84 := NB216_226.out
            have hcz85_0 : w42.cell? ⟨gb226, 0, none⟩ = some (.slice Ao33 t221.length co33) := (blk_cell BK226.out 0).trans rfl
            have hcz85_1 : w42.cell? ⟨gb226, 1, none⟩ = some (.int .i64 t224) := (blk_cell BK226.out 1).trans rfl
            have hcz85_2 : w42.cell? ⟨gb226, 2, none⟩ = some (.int .i64 t225) := (blk_cell BK226.out 2).trans rfl
            have hfz85_0 := blk_frozen BK226.out 0
            have hfz85_1 := blk_frozen BK226.out 1
            have hfz85_2 := blk_frozen BK226.out 2
            go_wp2_with (first | (go_at_call 16; (with_reducible refine (warplaw2_same.calls k2 _ _ t221 t224 t225 _ _ t229 t232 t233 false _ ?side1 ?side2 ?side3 ?side4 A49.out).mono ?_); (case side1 => refine (Kd.V_reads' (e := 3) (base := w.heap.size) (ok := fun k_ => (k_ ≠ gb210 ∧ (k_ ≠ gb216 ∧ (k_ ≠ gb226 ∧ k_ ≠ gb234)))) (n := t221.length) (c := co33) ?_).2.2; exact (by (with_reducible repeat (first | apply Kd.V_alloc | apply Kd.V_drewN | apply Kd.V_drew)); exact (Kd.V_mono (Kd.V_far (p := ⟨gb234, 3, none⟩) (Kd.V_far (p := ⟨gb234, 2, none⟩) (Kd.V_far (p := ⟨gb234, 1, none⟩) (Kd.V_far (p := ⟨gb234, 0, none⟩) (Kd.V_mono HO223.out (fun k_ hk => (⟨hk, hk.2.2.2⟩ : _ ∧ k_ ≠ gb234))) (fun _ hk => hk.2) (.int .i64 t228)) (fun _ hk => hk.2) (.slice Ao44 t229.length co44)) (fun _ hk => hk.2) (.int .i64 t232)) (fun _ hk => hk.2) (.int .i64 t233)) (fun _ h_ => h_.1)))); (case side2 => exact (Kd.V_reads' HO223.out).2.1); (case side3 => refine (Kd.V_reads' (e := 3) (base := w.heap.size) (ok := fun k_ => (k_ ≠ gb210 ∧ (k_ ≠ gb216 ∧ (k_ ≠ gb226 ∧ k_ ≠ gb234)))) (n := t229.length) (c := co44) ?_).2.2; exact (by (with_reducible repeat (first | apply Kd.V_alloc | apply Kd.V_drewN | apply Kd.V_drew)); exact (Kd.V_mono (Kd.V_far (p := ⟨gb234, 3, none⟩) (Kd.V_far (p := ⟨gb234, 2, none⟩) (Kd.V_far (p := ⟨gb234, 1, none⟩) (Kd.V_far (p := ⟨gb234, 0, none⟩) (Kd.V_mono HO231.out (fun k_ hk => (⟨hk, hk.2.2.2⟩ : _ ∧ k_ ≠ gb234))) (fun _ hk => hk.2) (.int .i64 t228)) (fun _ hk => hk.2) (.slice Ao44 t229.length co44)) (fun _ hk => hk.2) (.int .i64 t232)) (fun _ hk => hk.2) (.int .i64 t233)) (fun _ h_ => h_.1)))); (case side4 => exact (Kd.V_reads' HO231.out).2.1); rintro e w86 ⟨rfl, hb⟩; have n0_ := Aside0.mk (Kd.V_below (by (with_reducible repeat (first | apply Kd.V_alloc | apply Kd.V_drewN | apply Kd.V_drew)); exact (Kd.V_mono (Kd.V_far (p := ⟨gb234, 3, none⟩) (Kd.V_far (p := ⟨gb234, 2, none⟩) (Kd.V_far (p := ⟨gb234, 1, none⟩) (Kd.V_far (p := ⟨gb234, 0, none⟩) (Kd.V_mono HO_211000.out (fun k_ hk => (⟨hk, hk.2.2.2⟩ : _ ∧ k_ ≠ gb234))) (fun _ hk => hk.2) (.int .i64 t228)) (fun _ hk => hk.2) (.slice Ao44 t229.length co44)) (fun _ hk => hk.2) (.int .i64 t232)) (fun _ hk => hk.2) (.int .i64 t233)) (fun _ h_ => h_.1))) hb); have n1_ := Aside0.mk (Kd.V_below (by (with_reducible repeat (first | apply Kd.V_alloc | apply Kd.V_drewN | apply Kd.V_drew)); exact (Kd.V_mono (Kd.V_far (p := ⟨gb234, 3, none⟩) (Kd.V_far (p := ⟨gb234, 2, none⟩) (Kd.V_far (p := ⟨gb234, 1, none⟩) (Kd.V_far (p := ⟨gb234, 0, none⟩) (Kd.V_mono HO_217000.out (fun k_ hk => (⟨hk, hk.2.2.2⟩ : _ ∧ k_ ≠ gb234))) (fun _ hk => hk.2) (.int .i64 t228)) (fun _ hk => hk.2) (.slice Ao44 t229.length co44)) (fun _ hk => hk.2) (.int .i64 t232)) (fun _ hk => hk.2) (.int .i64 t233)) (fun _ h_ => h_.1))) hb); have n2_ := Aside0.mk (Kd.V_below (by (with_reducible repeat (first | apply Kd.V_alloc | apply Kd.V_drewN | apply Kd.V_drew)); exact (Kd.V_mono (Kd.V_far (p := ⟨gb234, 3, none⟩) (Kd.V_far (p := ⟨gb234, 2, none⟩) (Kd.V_far (p := ⟨gb234, 1, none⟩) (Kd.V_far (p := ⟨gb234, 0, none⟩) (Kd.V_mono HO223.out (fun k_ hk => (⟨hk, hk.2.2.2⟩ : _ ∧ k_ ≠ gb234))) (fun _ hk => hk.2) (.int .i64 t228)) (fun _ hk => hk.2) (.slice Ao44 t229.length co44)) (fun _ hk => hk.2) (.int .i64 t232)) (fun _ hk => hk.2) (.int .i64 t233)) (fun _ h_ => h_.1))) hb); have n3_ := Aside0.mk (Kd.V_below (by (with_reducible repeat (first | apply Kd.V_alloc | apply Kd.V_drewN | apply Kd.V_drew)); exact (Kd.V_mono (Kd.V_far (p := ⟨gb234, 3, none⟩) (Kd.V_far (p := ⟨gb234, 2, none⟩) (Kd.V_far (p := ⟨gb234, 1, none⟩) (Kd.V_far (p := ⟨gb234, 0, none⟩) (Kd.V_mono HO231.out (fun k_ hk => (⟨hk, hk.2.2.2⟩ : _ ∧ k_ ≠ gb234))) (fun _ hk => hk.2) (.int .i64 t228)) (fun _ hk => hk.2) (.slice Ao44 t229.length co44)) (fun _ hk => hk.2) (.int .i64 t232)) (fun _ hk => hk.2) (.int .i64 t233)) (fun _ h_ => h_.1))) hb); have n4_ := Aside0.mk (blk_below (g := gb210) (o := .cells #[.slice Ao28 x211000_2.length co28, .int .i64 x211001_2, .int .i64 x211002_2] 24 (0, 0)) (by (with_reducible repeat (first | refine blk_drewN ?_ _ | refine blk_drew ?_ | refine blk_alloc ?_ _)); refine blk_far ?_ NB210_234.out _; (with_reducible repeat (first | refine blk_drewN ?_ _ | refine blk_drew ?_ | refine blk_alloc ?_ _)); refine blk_far ?_ NB210_234.out _; (with_reducible repeat (first | refine blk_drewN ?_ _ | refine blk_drew ?_ | refine blk_alloc ?_ _)); refine blk_far ?_ NB210_234.out _; (with_reducible repeat (first | refine blk_drewN ?_ _ | refine blk_drew ?_ | refine blk_alloc ?_ _)); refine blk_far ?_ NB210_234.out _; (with_reducible repeat (first | refine blk_drewN ?_ _ | refine blk_drew ?_ | refine blk_alloc ?_ _)); exact BK210.out) hb); have n5_ := Aside0.mk (blk_below (g := gb216) (o := .cells #[.slice Ao37 x217000_2.length co37, .int .i64 x217001_2, .int .i64 x217002_2] 24 (0, 0)) (by (with_reducible repeat (first | refine blk_drewN ?_ _ | refine blk_drew ?_ | refine blk_alloc ?_ _)); refine blk_far ?_ NB216_234.out _; (with_reducible repeat (first | refine blk_drewN ?_ _ | refine blk_drew ?_ | refine blk_alloc ?_ _)); refine blk_far ?_ NB216_234.out _; (with_reducible repeat (first | refine blk_drewN ?_ _ | refine blk_drew ?_ | refine blk_alloc ?_ _)); refine blk_far ?_ NB216_234.out _; (with_reducible repeat (first | refine blk_drewN ?_ _ | refine blk_drew ?_ | refine blk_alloc ?_ _)); refine blk_far ?_ NB216_234.out _; (with_reducible repeat (first | refine blk_drewN ?_ _ | refine blk_drew ?_ | refine blk_alloc ?_ _)); exact BK216.out) hb); have n6_ := Aside0.mk (blk_below (g := gb226) (o := .cells #[.slice Ao33 t221.length co33, .int .i64 t224, .int .i64 t225] 24 (0, 0)) (by (with_reducible repeat (first | refine blk_drewN ?_ _ | refine blk_drew ?_ | refine blk_alloc ?_ _)); refine blk_far ?_ NB226_234.out _; (with_reducible repeat (first | refine blk_drewN ?_ _ | refine blk_drew ?_ | refine blk_alloc ?_ _)); refine blk_far ?_ NB226_234.out _; (with_reducible repeat (first | refine blk_drewN ?_ _ | refine blk_drew ?_ | refine blk_alloc ?_ _)); refine blk_far ?_ NB226_234.out _; (with_reducible repeat (first | refine blk_drewN ?_ _ | refine blk_drew ?_ | refine blk_alloc ?_ _)); refine blk_far ?_ NB226_234.out _; (with_reducible repeat (first | refine blk_drewN ?_ _ | refine blk_drew ?_ | refine blk_alloc ?_ _)); exact BK226.out) hb); have n7_ := Aside0.mk (blk_below (g := gb234) (o := .cells #[.int .i64 t228, .slice Ao44 t229.length co44, .int .i64 t232, .int .i64 t233] 30 (0, 0)) (by (with_reducible repeat (first | refine blk_drewN ?_ _ | refine blk_drew ?_ | refine blk_alloc ?_ _)); refine blk_put (cs := #[.int .i64 t228, .slice Ao44 t229.length co44, .int .i64 t232, .int .i64 0]) ?_ 3 _ rfl; (with_reducible repeat (first | refine blk_drewN ?_ _ | refine blk_drew ?_ | refine blk_alloc ?_ _)); refine blk_put (cs := #[.int .i64 t228, .slice Ao44 t229.length co44, .int .i64 0, .int .i64 0]) ?_ 2 _ rfl; (with_reducible repeat (first | refine blk_drewN ?_ _ | refine blk_drew ?_ | refine blk_alloc ?_ _)); refine blk_put (cs := #[.int .i64 t228, .slice none 0 0, .int .i64 0, .int .i64 0]) ?_ 1 _ rfl; (with_reducible repeat (first | refine blk_drewN ?_ _ | refine blk_drew ?_ | refine blk_alloc ?_ _)); refine blk_put (cs := #[.int .i64 0, .slice none 0 0, .int .i64 0, .int .i64 0]) ?_ 0 _ rfl; (with_reducible repeat (first | refine blk_drewN ?_ _ | refine blk_drew ?_ | refine blk_alloc ?_ _)); exact BK234.out) hb); have n8_ := Aside0.mk (below_step (by repeat (first | (with_reducible first | exact HB.out | apply below_alloc | apply pw_below_drewN | apply below_drew1 | refine below_set ?_ GE210.out | refine below_set ?_ GE216.out | refine below_set ?_ GE226.out | refine below_set ?_ GE234.out) | exact HB.out)) hb); clear HO_211000; clear HO_217000; clear HO223; clear HO231; clear BK210; clear BK216; clear BK226; clear BK234; clear HB; have HO_211000 := n0_; have HO_217000 := n1_; have HO223 := n2_; have HO231 := n3_; have BK210 := n4_; have BK216 := n5_; have BK226 := n6_; have BK234 := n7_; have HB := n8_; clear n0_ n1_ n2_ n3_ n4_ n5_ n6_ n7_ n8_; (try clear hb); (try clear hb2); (try clear hk); (try clear hi)))
            go_meet
            case rel => exact ⟨_, (true), (by first | rfl | (simp; done) | (simp [*]; done)), H', ⟨by have := HJ2.out; have := HK2.out; first | omega | exact Nat.le_refl _⟩, ⟨by (with_reducible repeat (first | apply Kd.V_alloc | apply Kd.V_drewN | apply Kd.V_drew)); exact HO_211000.out⟩, ⟨by (with_reducible repeat (first | apply Kd.V_alloc | apply Kd.V_drewN | apply Kd.V_drew)); exact HO_217000.out⟩, ⟨by (with_reducible repeat (first | apply Kd.V_alloc | apply Kd.V_drewN | apply Kd.V_drew)); exact HO223.out⟩, ⟨by (with_reducible repeat (first | apply Kd.V_alloc | apply Kd.V_drewN | apply Kd.V_drew)); exact HO231.out⟩, ⟨by (with_reducible repeat (first | refine blk_drewN ?_ _ | refine blk_drew ?_ | refine blk_alloc ?_ _)); exact BK210.out⟩, ⟨by (with_reducible repeat (first | refine blk_drewN ?_ _ | refine blk_drew ?_ | refine blk_alloc ?_ _)); exact BK216.out⟩, ⟨by (with_reducible repeat (first | refine blk_drewN ?_ _ | refine blk_drew ?_ | refine blk_alloc ?_ _)); exact BK226.out⟩, ⟨by (with_reducible repeat (first | refine blk_drewN ?_ _ | refine blk_drew ?_ | refine blk_alloc ?_ _)); exact BK234.out⟩, ⟨by repeat (first | (with_reducible first | exact HB.out | apply below_alloc | apply pw_below_drewN | apply below_drew1 | refine below_set ?_ GE210.out | refine below_set ?_ GE216.out | refine below_set ?_ GE226.out | refine below_set ?_ GE234.out) | exact HB.out)⟩⟩
          ·
           rw [if_neg c48] at H
           have c48b0 : (t220 == t228) = false := beq_eq_false_iff_ne.mpr c48
           have c48b1 : (t220 != t228) = true := bne_iff_ne.mpr c48
           (first | rw [c48b0] | (simp only [i64_w, i32_w]; rw [c48b0]) | skip)
           have H' := Aside0.mk H
           clear H
           have hnb87 := NB234_210.out
           have hnc87 := NB210_234.out
           have hnb88 := NB234_216.out
           have hnc88 := NB216_234.out
           have hnb89 := NB234_226.out
           have hnc89 := NB226_234.out
           have hcz90_0 : w42.cell? ⟨gb234, 0, none⟩ = some (.int .i64 0) := (blk_cell BK234.out 0).trans rfl
           have hcz90_1 : w42.cell? ⟨gb234, 1, none⟩ = some (.slice none 0 0) := (blk_cell BK234.out 1).trans rfl
           have hcz90_2 : w42.cell? ⟨gb234, 2, none⟩ = some (.int .i64 0) := (blk_cell BK234.out 2).trans rfl
           have hcz90_3 : w42.cell? ⟨gb234, 3, none⟩ = some (.int .i64 0) := (blk_cell BK234.out 3).trans rfl
           have hfz90_0 := blk_frozen BK234.out 0
           have hfz90_1 := blk_frozen BK234.out 1
           have hfz90_2 := blk_frozen BK234.out 2
           have hfz90_3 := blk_frozen BK234.out 3
           go_wp2
           go_meet
           case rel => exact ⟨_, (true), (by first | rfl | (simp; done) | (simp [*]; done)), H', ⟨by have := HJ2.out; have := HK2.out; first | omega | exact Nat.le_refl _⟩, ⟨by (with_reducible repeat (first | apply Kd.V_alloc | apply Kd.V_drewN | apply Kd.V_drew)); exact Kd.V_mono (Kd.V_far (p := ⟨gb234, 3, none⟩) (Kd.V_far (p := ⟨gb234, 2, none⟩) (Kd.V_far (p := ⟨gb234, 1, none⟩) (Kd.V_far (p := ⟨gb234, 0, none⟩) (Kd.V_mono HO_211000.out (fun k_ hk => (⟨hk, hk.2.2.2⟩ : _ ∧ k_ ≠ gb234))) (fun _ hk => hk.2) (.int .i64 t228)) (fun _ hk => hk.2) (.slice Ao44 t229.length co44)) (fun _ hk => hk.2) (.int .i64 t232)) (fun _ hk => hk.2) (.int .i64 t233)) (fun _ hk => ⟨hk.1.1, ⟨hk.1.2.1, ⟨hk.1.2.2.1, hk.1.2.2.2⟩⟩⟩)⟩, ⟨by (with_reducible repeat (first | apply Kd.V_alloc | apply Kd.V_drewN | apply Kd.V_drew)); exact Kd.V_mono (Kd.V_far (p := ⟨gb234, 3, none⟩) (Kd.V_far (p := ⟨gb234, 2, none⟩) (Kd.V_far (p := ⟨gb234, 1, none⟩) (Kd.V_far (p := ⟨gb234, 0, none⟩) (Kd.V_mono HO_217000.out (fun k_ hk => (⟨hk, hk.2.2.2⟩ : _ ∧ k_ ≠ gb234))) (fun _ hk => hk.2) (.int .i64 t228)) (fun _ hk => hk.2) (.slice Ao44 t229.length co44)) (fun _ hk => hk.2) (.int .i64 t232)) (fun _ hk => hk.2) (.int .i64 t233)) (fun _ hk => ⟨hk.1.1, ⟨hk.1.2.1, ⟨hk.1.2.2.1, hk.1.2.2.2⟩⟩⟩)⟩, ⟨by (with_reducible repeat (first | apply Kd.V_alloc | apply Kd.V_drewN | apply Kd.V_drew)); exact Kd.V_mono (Kd.V_far (p := ⟨gb234, 3, none⟩) (Kd.V_far (p := ⟨gb234, 2, none⟩) (Kd.V_far (p := ⟨gb234, 1, none⟩) (Kd.V_far (p := ⟨gb234, 0, none⟩) (Kd.V_mono HO223.out (fun k_ hk => (⟨hk, hk.2.2.2⟩ : _ ∧ k_ ≠ gb234))) (fun _ hk => hk.2) (.int .i64 t228)) (fun _ hk => hk.2) (.slice Ao44 t229.length co44)) (fun _ hk => hk.2) (.int .i64 t232)) (fun _ hk => hk.2) (.int .i64 t233)) (fun _ hk => ⟨hk.1.1, ⟨hk.1.2.1, ⟨hk.1.2.2.1, hk.1.2.2.2⟩⟩⟩)⟩, ⟨by (with_reducible repeat (first | apply Kd.V_alloc | apply Kd.V_drewN | apply Kd.V_drew)); exact Kd.V_mono (Kd.V_far (p := ⟨gb234, 3, none⟩) (Kd.V_far (p := ⟨gb234, 2, none⟩) (Kd.V_far (p := ⟨gb234, 1, none⟩) (Kd.V_far (p := ⟨gb234, 0, none⟩) (Kd.V_mono HO231.out (fun k_ hk => (⟨hk, hk.2.2.2⟩ : _ ∧ k_ ≠ gb234))) (fun _ hk => hk.2) (.int .i64 t228)) (fun _ hk => hk.2) (.slice Ao44 t229.length co44)) (fun _ hk => hk.2) (.int .i64 t232)) (fun _ hk => hk.2) (.int .i64 t233)) (fun _ hk => ⟨hk.1.1, ⟨hk.1.2.1, ⟨hk.1.2.2.1, hk.1.2.2.2⟩⟩⟩)⟩, ⟨by (with_reducible repeat (first | refine blk_drewN ?_ _ | refine blk_drew ?_ | refine blk_alloc ?_ _)); refine blk_far ?_ NB210_234.out _; (with_reducible repeat (first | refine blk_drewN ?_ _ | refine blk_drew ?_ | refine blk_alloc ?_ _)); refine blk_far ?_ NB210_234.out _; (with_reducible repeat (first | refine blk_drewN ?_ _ | refine blk_drew ?_ | refine blk_alloc ?_ _)); refine blk_far ?_ NB210_234.out _; (with_reducible repeat (first | refine blk_drewN ?_ _ | refine blk_drew ?_ | refine blk_alloc ?_ _)); refine blk_far ?_ NB210_234.out _; (with_reducible repeat (first | refine blk_drewN ?_ _ | refine blk_drew ?_ | refine blk_alloc ?_ _)); exact BK210.out⟩, ⟨by (with_reducible repeat (first | refine blk_drewN ?_ _ | refine blk_drew ?_ | refine blk_alloc ?_ _)); refine blk_far ?_ NB216_234.out _; (with_reducible repeat (first | refine blk_drewN ?_ _ | refine blk_drew ?_ | refine blk_alloc ?_ _)); refine blk_far ?_ NB216_234.out _; (with_reducible repeat (first | refine blk_drewN ?_ _ | refine blk_drew ?_ | refine blk_alloc ?_ _)); refine blk_far ?_ NB216_234.out _; (with_reducible repeat (first | refine blk_drewN ?_ _ | refine blk_drew ?_ | refine blk_alloc ?_ _)); refine blk_far ?_ NB216_234.out _; (with_reducible repeat (first | refine blk_drewN ?_ _ | refine blk_drew ?_ | refine blk_alloc ?_ _)); exact BK216.out⟩, ⟨by (with_reducible repeat (first | refine blk_drewN ?_ _ | refine blk_drew ?_ | refine blk_alloc ?_ _)); refine blk_far ?_ NB226_234.out _; (with_reducible repeat (first | refine blk_drewN ?_ _ | refine blk_drew ?_ | refine blk_alloc ?_ _)); refine blk_far ?_ NB226_234.out _; (with_reducible repeat (first | refine blk_drewN ?_ _ | refine blk_drew ?_ | refine blk_alloc ?_ _)); refine blk_far ?_ NB226_234.out _; (with_reducible repeat (first | refine blk_drewN ?_ _ | refine blk_drew ?_ | refine blk_alloc ?_ _)); refine blk_far ?_ NB226_234.out _; (with_reducible repeat (first | refine blk_drewN ?_ _ | refine blk_drew ?_ | refine blk_alloc ?_ _)); exact BK226.out⟩, ⟨by (with_reducible repeat (first | refine blk_drewN ?_ _ | refine blk_drew ?_ | refine blk_alloc ?_ _)); refine blk_put (cs := #[.int .i64 t228, .slice Ao44 t229.length co44, .int .i64 t232, .int .i64 0]) ?_ 3 _ rfl; (with_reducible repeat (first | refine blk_drewN ?_ _ | refine blk_drew ?_ | refine blk_alloc ?_ _)); refine blk_put (cs := #[.int .i64 t228, .slice Ao44 t229.length co44, .int .i64 0, .int .i64 0]) ?_ 2 _ rfl; (with_reducible repeat (first | refine blk_drewN ?_ _ | refine blk_drew ?_ | refine blk_alloc ?_ _)); refine blk_put (cs := #[.int .i64 t228, .slice none 0 0, .int .i64 0, .int .i64 0]) ?_ 1 _ rfl; (with_reducible repeat (first | refine blk_drewN ?_ _ | refine blk_drew ?_ | refine blk_alloc ?_ _)); refine blk_put (cs := #[.int .i64 0, .slice none 0 0, .int .i64 0, .int .i64 0]) ?_ 0 _ rfl; (with_reducible repeat (first | refine blk_drewN ?_ _ | refine blk_drew ?_ | refine blk_alloc ?_ _)); exact BK234.out⟩, ⟨by repeat (first | (with_reducible first | exact HB.out | apply below_alloc | apply pw_below_drewN | apply below_drew1 | refine below_set ?_ GE210.out | refine below_set ?_ GE216.out | refine below_set ?_ GE226.out | refine below_set ?_ GE234.out) | exact HB.out)⟩⟩
         case rest =>
          clear HC27
          (try clear c1); (try clear c2); (try clear p2); (try clear q2); (try clear hx2); (try clear c4); (try clear c5); (try clear c6); (try clear c7); (try clear c8); (try clear c14); (try clear c22); (try clear p22); (try clear q22); (try clear hx22); (try clear c23); (try clear p23); (try clear q23); (try clear hx23); (try clear c48); (try clear c48b0); (try clear c48b1); (try clear c50); (try clear c51); (try clear c51b0); (try clear c52); (try clear c52b0); (try clear c53); (try clear c54); (try clear c55); (try clear c57); (try clear c58); (try clear c61); (try clear c61b0); (try clear c62); (try clear c62b0); (try clear c63); (try clear c64); (try clear c65); (try clear c67); (try clear c68); (try clear c71); (try clear c72); (try clear c73); (try clear c75); (try clear c76); (try clear c79); (try clear c80); (try clear c81); (try clear c83); (try clear c84); (try clear c87); (try clear c88); (try clear c89); (try clear hcz56_0); (try clear hcz56_1); (try clear hcz56_2); (try clear hcz56_3); (try clear hcz59_0); (try clear hcz59_1); (try clear hcz59_2); (try clear hcz66_0); (try clear hcz66_1); (try clear hcz66_2); (try clear hcz66_3); (try clear hcz69_0); (try clear hcz69_1); (try clear hcz69_2); (try clear hcz74_0); (try clear hcz74_1); (try clear hcz74_2); (try clear hcz74_3); (try clear hcz77_0); (try clear hcz77_1); (try clear hcz77_2); (try clear hcz82_0); (try clear hcz82_1); (try clear hcz82_2); (try clear hcz82_3); (try clear hcz85_0); (try clear hcz85_1); (try clear hcz85_2); (try clear hcz90_0); (try clear hcz90_1); (try clear hcz90_2); (try clear hcz90_3); (try clear hfz56_0); (try clear hfz56_1); (try clear hfz56_2); (try clear hfz56_3); (try clear hfz59_0); (try clear hfz59_1); (try clear hfz59_2); (try clear hfz66_0); (try clear hfz66_1); (try clear hfz66_2); (try clear hfz66_3); (try clear hfz69_0); (try clear hfz69_1); (try clear hfz69_2); (try clear hfz74_0); (try clear hfz74_1); (try clear hfz74_2); (try clear hfz74_3); (try clear hfz77_0); (try clear hfz77_1); (try clear hfz77_2); (try clear hfz82_0); (try clear hfz82_1); (try clear hfz82_2); (try clear hfz82_3); (try clear hfz85_0); (try clear hfz85_1); (try clear hfz85_2); (try clear hfz90_0); (try clear hfz90_1); (try clear hfz90_2); (try clear hfz90_3); (try clear hx227_0); (try clear hx236_0); (try clear hx237_0); (try clear hx238_0); (try clear p227); (try clear p236); (try clear p237); (try clear p238); (try clear q227); (try clear q236); (try clear q237); (try clear q238)
          obtain ⟨kq, x85_26, rfl, HA, HJ26, HO_211000, HO_217000, HO_227000, HO_235001, BK210, BK216, BK226, BK234, HB⟩ := hcut
          cases kq with
          | zero => exact absurd HA.out (by simp [warplaw2_PickRuns.j2])
          | succ kj26 =>
           have H := HA.out
           clear HA
           simp only [warplaw2_PickRuns.j2] at H
           by_cases c91 : x85_26 = true
           ·
            subst c91
            have H1 : (some false) = some r := by rw [if_pos rfl] at H; exact H
            clear H
            have H := H1
            clear H1
            obtain rfl := Option.some.inj H
            go_wp2
            go_ret
            exact ⟨by first | rfl | (simp [errW_none, errW_some] <;> rfl) | (simp [*, errW_none, errW_some] <;> rfl), by repeat (first | (with_reducible first | exact HB.out | apply below_alloc | apply pw_below_drewN | apply below_drew1 | refine below_set ?_ GE210.out | refine below_set ?_ GE216.out | refine below_set ?_ GE226.out | refine below_set ?_ GE234.out) | exact HB.out)⟩
           ·
            replace c91 := Bool.eq_false_iff.mpr c91
            subst c91
            have H1 : (warplaw2_PickRuns.l0 kj26 l1 (wrap64 (x7_2 + 1)) t221 t224 t225 t229 t232 t233) = some r := by rw [if_neg (show ¬ (false = true) by decide)] at H; exact H
            clear H
            have H := H1
            clear H1
            have H' := Aside0.mk H
            clear H
            have hnb92 := NB226_210.out
            have hnc92 := NB210_226.out
            have hnb93 := NB226_216.out
            have hnc93 := NB216_226.out
            have hnb94 := NB226_234.out
            have hnc94 := NB234_226.out
            have hcz95_0 : wc.cell? ⟨gb226, 0, none⟩ = some (.slice Ao33 t221.length co33) := (blk_cell BK226.out 0).trans rfl
            have hcz95_1 : wc.cell? ⟨gb226, 1, none⟩ = some (.int .i64 t224) := (blk_cell BK226.out 1).trans rfl
            have hcz95_2 : wc.cell? ⟨gb226, 2, none⟩ = some (.int .i64 t225) := (blk_cell BK226.out 2).trans rfl
            have hfz95_0 := blk_frozen BK226.out 0
            have hfz95_1 := blk_frozen BK226.out 1
            have hfz95_2 := blk_frozen BK226.out 2
            have hnb96 := NB210_216.out
            have hnc96 := NB216_210.out
            have hnb97 := NB210_234.out
            have hnc97 := NB234_210.out
            have hcz98_0 : wc.cell? ⟨gb210, 0, none⟩ = some (.slice Ao28 x211000_2.length co28) := (blk_cell BK210.out 0).trans rfl
            have hcz98_1 : wc.cell? ⟨gb210, 1, none⟩ = some (.int .i64 x211001_2) := (blk_cell BK210.out 1).trans rfl
            have hcz98_2 : wc.cell? ⟨gb210, 2, none⟩ = some (.int .i64 x211002_2) := (blk_cell BK210.out 2).trans rfl
            have hfz98_0 := blk_frozen BK210.out 0
            have hfz98_1 := blk_frozen BK210.out 1
            have hfz98_2 := blk_frozen BK210.out 2
            have hnb99 := NB234_216.out
            have hnc99 := NB216_234.out
            have hcz100_0 : wc.cell? ⟨gb234, 0, none⟩ = some (.int .i64 t228) := (blk_cell BK234.out 0).trans rfl
            have hcz100_1 : wc.cell? ⟨gb234, 1, none⟩ = some (.slice Ao44 t229.length co44) := (blk_cell BK234.out 1).trans rfl
            have hcz100_2 : wc.cell? ⟨gb234, 2, none⟩ = some (.int .i64 t232) := (blk_cell BK234.out 2).trans rfl
            have hcz100_3 : wc.cell? ⟨gb234, 3, none⟩ = some (.int .i64 t233) := (blk_cell BK234.out 3).trans rfl
            have hfz100_0 := blk_frozen BK234.out 0
            have hfz100_1 := blk_frozen BK234.out 1
            have hfz100_2 := blk_frozen BK234.out 2
            have hfz100_3 := blk_frozen BK234.out 3
            have hcz101_0 : wc.cell? ⟨gb216, 0, none⟩ = some (.slice Ao37 x217000_2.length co37) := (blk_cell BK216.out 0).trans rfl
            have hcz101_1 : wc.cell? ⟨gb216, 1, none⟩ = some (.int .i64 x217001_2) := (blk_cell BK216.out 1).trans rfl
            have hcz101_2 : wc.cell? ⟨gb216, 2, none⟩ = some (.int .i64 x217002_2) := (blk_cell BK216.out 2).trans rfl
            have hfz101_0 := blk_frozen BK216.out 0
            have hfz101_1 := blk_frozen BK216.out 1
            have hfz101_2 := blk_frozen BK216.out 2
            go_wp2
            go_roundg kj26
            case measure => have := HJ2.out; have := HK2.out; have := HJ26.out; omega
            case rel => exact ⟨(wrap64 (x7_2 + 1)), (t221), (t224), (t225), (t229), (t232), (t233), (.slice Ao33 t221.length co33), (.slice Ao44 t229.length co44), (by first | rfl | (simp; done) | (simp [*]; done)), H', ⟨by have := HJ2.out; have := HK2.out; have := HJ26.out; omega⟩, ⟨by (with_reducible repeat (first | apply Kd.V_alloc | apply Kd.V_drewN | apply Kd.V_drew)); exact Kd.V_mono (Kd.V_far (p := ⟨gb216, 2, none⟩) (Kd.V_far (p := ⟨gb216, 1, none⟩) (Kd.V_far (p := ⟨gb216, 0, none⟩) (Kd.V_far (p := ⟨gb210, 2, none⟩) (Kd.V_far (p := ⟨gb210, 1, none⟩) (Kd.V_far (p := ⟨gb210, 0, none⟩) (Kd.V_mono (Kd.V_mono HO_227000.out (fun k_ hk => (⟨hk, hk.1⟩ : _ ∧ k_ ≠ gb210))) (fun k_ hk => (⟨hk, hk.1.2.1⟩ : _ ∧ k_ ≠ gb216))) (fun _ hk => hk.1.2) (.slice Ao33 t221.length co33)) (fun _ hk => hk.1.2) (.int .i64 t224)) (fun _ hk => hk.1.2) (.int .i64 t225)) (fun _ hk => hk.2) (.slice Ao44 t229.length co44)) (fun _ hk => hk.2) (.int .i64 t232)) (fun _ hk => hk.2) (.int .i64 t233)) (fun _ hk => ⟨hk.1.1.1, hk.1.1.2.1⟩)⟩, ⟨by (with_reducible repeat (first | apply Kd.V_alloc | apply Kd.V_drewN | apply Kd.V_drew)); exact Kd.V_mono (Kd.V_far (p := ⟨gb216, 2, none⟩) (Kd.V_far (p := ⟨gb216, 1, none⟩) (Kd.V_far (p := ⟨gb216, 0, none⟩) (Kd.V_far (p := ⟨gb210, 2, none⟩) (Kd.V_far (p := ⟨gb210, 1, none⟩) (Kd.V_far (p := ⟨gb210, 0, none⟩) (Kd.V_mono (Kd.V_mono HO_235001.out (fun k_ hk => (⟨hk, hk.1⟩ : _ ∧ k_ ≠ gb210))) (fun k_ hk => (⟨hk, hk.1.2.1⟩ : _ ∧ k_ ≠ gb216))) (fun _ hk => hk.1.2) (.slice Ao33 t221.length co33)) (fun _ hk => hk.1.2) (.int .i64 t224)) (fun _ hk => hk.1.2) (.int .i64 t225)) (fun _ hk => hk.2) (.slice Ao44 t229.length co44)) (fun _ hk => hk.2) (.int .i64 t232)) (fun _ hk => hk.2) (.int .i64 t233)) (fun _ hk => ⟨hk.1.1.1, hk.1.1.2.1⟩)⟩, ⟨by (with_reducible repeat (first | refine blk_drewN ?_ _ | refine blk_drew ?_ | refine blk_alloc ?_ _)); refine blk_far ?_ NB210_216.out _; (with_reducible repeat (first | refine blk_drewN ?_ _ | refine blk_drew ?_ | refine blk_alloc ?_ _)); refine blk_far ?_ NB210_216.out _; (with_reducible repeat (first | refine blk_drewN ?_ _ | refine blk_drew ?_ | refine blk_alloc ?_ _)); refine blk_far ?_ NB210_216.out _; (with_reducible repeat (first | refine blk_drewN ?_ _ | refine blk_drew ?_ | refine blk_alloc ?_ _)); refine blk_put (cs := #[.slice Ao33 t221.length co33, .int .i64 t224, .int .i64 x211002_2]) ?_ 2 _ rfl; (with_reducible repeat (first | refine blk_drewN ?_ _ | refine blk_drew ?_ | refine blk_alloc ?_ _)); refine blk_put (cs := #[.slice Ao33 t221.length co33, .int .i64 x211001_2, .int .i64 x211002_2]) ?_ 1 _ rfl; (with_reducible repeat (first | refine blk_drewN ?_ _ | refine blk_drew ?_ | refine blk_alloc ?_ _)); refine blk_put (cs := #[.slice Ao28 x211000_2.length co28, .int .i64 x211001_2, .int .i64 x211002_2]) ?_ 0 _ rfl; (with_reducible repeat (first | refine blk_drewN ?_ _ | refine blk_drew ?_ | refine blk_alloc ?_ _)); exact BK210.out⟩, ⟨by (with_reducible repeat (first | refine blk_drewN ?_ _ | refine blk_drew ?_ | refine blk_alloc ?_ _)); refine blk_put (cs := #[.slice Ao44 t229.length co44, .int .i64 t232, .int .i64 x217002_2]) ?_ 2 _ rfl; (with_reducible repeat (first | refine blk_drewN ?_ _ | refine blk_drew ?_ | refine blk_alloc ?_ _)); refine blk_put (cs := #[.slice Ao44 t229.length co44, .int .i64 x217001_2, .int .i64 x217002_2]) ?_ 1 _ rfl; (with_reducible repeat (first | refine blk_drewN ?_ _ | refine blk_drew ?_ | refine blk_alloc ?_ _)); refine blk_put (cs := #[.slice Ao37 x217000_2.length co37, .int .i64 x217001_2, .int .i64 x217002_2]) ?_ 0 _ rfl; (with_reducible repeat (first | refine blk_drewN ?_ _ | refine blk_drew ?_ | refine blk_alloc ?_ _)); refine blk_far ?_ NB216_210.out _; (with_reducible repeat (first | refine blk_drewN ?_ _ | refine blk_drew ?_ | refine blk_alloc ?_ _)); refine blk_far ?_ NB216_210.out _; (with_reducible repeat (first | refine blk_drewN ?_ _ | refine blk_drew ?_ | refine blk_alloc ?_ _)); refine blk_far ?_ NB216_210.out _; (with_reducible repeat (first | refine blk_drewN ?_ _ | refine blk_drew ?_ | refine blk_alloc ?_ _)); exact BK216.out⟩, ⟨by repeat (first | (with_reducible first | exact HB.out | apply below_alloc | apply pw_below_drewN | apply below_drew1 | refine below_set ?_ GE210.out | refine below_set ?_ GE216.out | refine below_set ?_ GE226.out | refine below_set ?_ GE234.out) | exact HB.out)⟩⟩
       ·
        rw [if_neg c21] at H
        exact absurd H (by simp)
      ·
       rw [if_neg c20] at H
       have c20b0 : decide (x7_2 < (l1.length : Int)) = false := decide_eq_false c20
       clear c20
       replace H := Option.bind_eq_some_iff.mp H
       obtain ⟨t239, A1020, H⟩ := H
       replace H : (some t239) = some r := H
       have A102 := Aside0.mk A1020
       clear A1020
       obtain rfl := Option.some.inj H
       go_wp2_with (first | ((with_reducible refine gate_callee (f := 12) rfl ?_); refine goesL_ (some 89) rfl rfl Tryd.func12 (by kernel_rfl) rfl #[] rfl (by (try simp only [List.map_toArray, List.map_cons, List.map_nil]); first | done | rfl | (simp only [List.length_drop, List.length_take]; rfl)) ?_; (with_reducible refine (warplaw2_awake.calls k2  t239 _ A102.out).mono ?_); rintro e w103 ⟨rfl, hb⟩; refine ⟨_, rfl, ?_⟩; have n0_ := Aside0.mk (Kd.V_below (by (with_reducible repeat (first | apply Kd.V_alloc | apply Kd.V_drewN | apply Kd.V_drew)); exact HO_211000.out) hb); have n1_ := Aside0.mk (Kd.V_below (by (with_reducible repeat (first | apply Kd.V_alloc | apply Kd.V_drewN | apply Kd.V_drew)); exact HO_217000.out) hb); have n2_ := Aside0.mk (blk_below (g := gb210) (o := .cells #[u211000, .int .i64 x211001_2, .int .i64 x211002_2] 24 (0, 0)) (by (with_reducible repeat (first | refine blk_drewN ?_ _ | refine blk_drew ?_ | refine blk_alloc ?_ _)); exact BK210.out) hb); have n3_ := Aside0.mk (blk_below (g := gb216) (o := .cells #[u217000, .int .i64 x217001_2, .int .i64 x217002_2] 24 (0, 0)) (by (with_reducible repeat (first | refine blk_drewN ?_ _ | refine blk_drew ?_ | refine blk_alloc ?_ _)); exact BK216.out) hb); have n4_ := Aside0.mk (below_step (by repeat (first | (with_reducible first | exact HB.out | apply below_alloc | apply pw_below_drewN | apply below_drew1 | refine below_set ?_ GE210.out | refine below_set ?_ GE216.out) | exact HB.out)) hb); clear HO_211000; clear HO_217000; clear BK210; clear BK216; clear HB; have HO_211000 := n0_; have HO_217000 := n1_; have BK210 := n2_; have BK216 := n3_; have HB := n4_; clear n0_ n1_ n2_ n3_ n4_; (try clear hb); (try clear hb2); (try clear hk); (try clear hi)))
       go_ret
       exact ⟨by first | rfl | (simp [errW_none, errW_some] <;> rfl) | (simp [*, errW_none, errW_some] <;> rfl), by repeat (first | (with_reducible first | exact HB.out | apply below_alloc | apply pw_below_drewN | apply below_drew1 | refine below_set ?_ GE210.out | refine below_set ?_ GE216.out) | exact HB.out)⟩

/-- The one plain statement of warplaw2_PickRuns. -/
def warplaw2_PickRuns.Pure : Prop := ∀ (l0 : List Int) (l1 : List (List Bool)), ((fun l : List Int => l.length ≤ maxLen ∧ ∀ x ∈ l, (fun n : Int => (Lit.int .i64 n).wf = true) x) l0) → ((fun l : List (List Bool) => l.length ≤ maxLen ∧ ∀ x ∈ l, (fun l : List Bool => l.length ≤ maxLen ∧ ∀ x ∈ l, (fun _ : Bool => True) x) x) l1) → ∃ k, warplaw2_PickRuns.f k l0 l1 = some true

end Go.Proofs.YtbkdnenlffiaeaaDoor.P
