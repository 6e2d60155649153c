/-
The plain Lean functions of Go functions of this seat, and proofs that the calls of the machine come to them; no condition beside those named in each theorem.
-/
import Derived.Test.YtbkdnenlffiaeaaDoorPx0
import Derived.Test.YtbkdnenlffiaeaaDoorPx10
import Derived.Test.YtbkdnenlffiaeaaDoorStubB
namespace Go.Proofs.YtbkdnenlffiaeaaDoor.P
open Go.RowKit Go.Proofs.YtbkdnenlffiaeaaDoorW.PrintWords Go.Proofs.YtbkdnenlffiaeaaDoorW.PrintLast Go.Proofs.YtbkdnenlffiaeaaDoorW.PrintMore
attribute [local go_sem] max2_int min2_int max_two min_two max_three min_three max_four min_four   -- for this text's walks alone
set_option linter.unusedVariables false
set_option linter.unusedSimpArgs false

/-! ### warplaw24_PoolLimits: function 10 -/
mutual
def warplaw24_PoolLimits.j0 : Nat → Int → Int → Bool → Option (Bool)
 | 0, _, _, _ => none
 | k + 1, x1, x5, x16 => if x16 = true then (warplaw24_PoolLimits.j1 k x1 30) else (warplaw24_PoolLimits.j1 k x1 x5)
def warplaw24_PoolLimits.j1 : Nat → Int → Int → Option (Bool)
 | 0, _, _ => none
 | k + 1, x1, x5 => if 0 ≤ x5 then (if (x5 : Int).toNat ≤ 35184372088832 then ((pool_Play.f (([(List.replicate (x5 : Int).toNat 0)] : List (List Int))) x1 ([] : List Int)).bind fun bt479 => (if x5 > 4096 then (warplaw24_PoolLimits.j2 k x5 bt479.1 bt479.2 true) else (if x1 < 1 then (warplaw24_PoolLimits.j2 k x5 bt479.1 bt479.2 true) else (warplaw24_PoolLimits.j2 k x5 bt479.1 bt479.2 (decide (x1 > 64)))))) else (none)) else (none)
def warplaw24_PoolLimits.j2 : Nat → Int → List (S54) → Int → Bool → Option (Bool)
 | 0, _, _, _, _ => none
 | k + 1, x5, x6, x7, x34 => if x34 = true then (if (x6.length : Int) = 0 then (if x7 = 0 then ((warplaw24_awake.f).bind fun t483 => (some t483)) else (some false)) else (some false)) else (if (x6.length : Int) = x5 then (if x7 = (wrap64 (2 * x5)) then ((warplaw24_awake.f).bind fun t484 => (some t484)) else (some false)) else (some false))
end
def warplaw24_PoolLimits.f (k : Nat) (a0 : Int) (a1 : Int) : Option (Bool) := if (Int.tmod (wrap64 (a0)) 6000) > 30 then (warplaw24_PoolLimits.j0 k a1 (Int.tmod (wrap64 (a0)) 6000) (decide ((Int.tmod (wrap64 (a0)) 6000) ≤ 4096))) else (warplaw24_PoolLimits.j0 k a1 (Int.tmod (wrap64 (a0)) 6000) false)
theorem warplaw24_PoolLimits.mono_l : ∀ k, (∀ y0 y1 y2, LeO (warplaw24_PoolLimits.j0 k y0 y1 y2) (warplaw24_PoolLimits.j0 (k + 1) y0 y1 y2)) ∧ (∀ y0 y1, LeO (warplaw24_PoolLimits.j1 k y0 y1) (warplaw24_PoolLimits.j1 (k + 1) y0 y1)) ∧ (∀ y0 y1 y2 y3, LeO (warplaw24_PoolLimits.j2 k y0 y1 y2 y3) (warplaw24_PoolLimits.j2 (k + 1) y0 y1 y2 y3))
 | 0 => ⟨fun _ _ _ r h => by simp [warplaw24_PoolLimits.j0] at h, fun _ _ r h => by simp [warplaw24_PoolLimits.j1] at h, fun _ _ _ _ r h => by simp [warplaw24_PoolLimits.j2] at h⟩
 | k + 1 => by
  obtain ⟨ih0, ih1, ih2⟩ := warplaw24_PoolLimits.mono_l k
  refine ⟨?_, ?_, ?_⟩
  ·
   intro y0 y1 y2
   unfold warplaw24_PoolLimits.j0
   repeat' first
   | (with_reducible exact ih0 _ _ _)
   | (with_reducible exact ih1 _ _)
   | (with_reducible exact ih2 _ _ _ _)
   | (with_reducible exact LeO.refl _)
   | (with_reducible exact LeO.none _)
   | (with_reducible refine LeO.ite ?_ ?_)
   | (with_reducible refine LeO.bind ?_ (fun _ => ?_))
   | exact ih0 _ _ _
   | exact ih1 _ _
   | exact ih2 _ _ _ _
   | exact LeO.none _
   | refine LeO.ite ?_ ?_
   | refine LeO.bind ?_ (fun _ => ?_)
  ·
   intro y0 y1
   unfold warplaw24_PoolLimits.j1
   repeat' first
   | (with_reducible exact ih0 _ _ _)
   | (with_reducible exact ih1 _ _)
   | (with_reducible exact ih2 _ _ _ _)
   | (with_reducible exact LeO.refl _)
   | (with_reducible exact LeO.none _)
   | (with_reducible refine LeO.ite ?_ ?_)
   | (with_reducible refine LeO.bind ?_ (fun _ => ?_))
   | exact ih0 _ _ _
   | exact ih1 _ _
   | exact ih2 _ _ _ _
   | exact LeO.none _
   | refine LeO.ite ?_ ?_
   | refine LeO.bind ?_ (fun _ => ?_)
  ·
   intro y0 y1 y2 y3
   unfold warplaw24_PoolLimits.j2
   repeat' first
   | (with_reducible exact ih0 _ _ _)
   | (with_reducible exact ih1 _ _)
   | (with_reducible exact ih2 _ _ _ _)
   | (with_reducible exact LeO.refl _)
   | (with_reducible exact LeO.none _)
   | (with_reducible refine LeO.ite ?_ ?_)
   | (with_reducible refine LeO.bind ?_ (fun _ => ?_))
   | exact ih0 _ _ _
   | exact ih1 _ _
   | exact ih2 _ _ _ _
   | exact LeO.none _
   | refine LeO.ite ?_ ?_
   | refine LeO.bind ?_ (fun _ => ?_)
theorem warplaw24_PoolLimits.mono : ∀ a0 a1 k, LeO (warplaw24_PoolLimits.f k a0 a1) (warplaw24_PoolLimits.f (k + 1) a0 a1) := by
 intro a0 a1 k
 obtain ⟨ih0, ih1, ih2⟩ := warplaw24_PoolLimits.mono_l k
 unfold warplaw24_PoolLimits.f
 repeat' first
  | (with_reducible exact ih0 _ _ _)
  | (with_reducible exact ih1 _ _)
  | (with_reducible exact ih2 _ _ _ _)
  | (with_reducible exact LeO.refl _)
  | (with_reducible exact LeO.none _)
  | (with_reducible refine LeO.ite ?_ ?_)
  | (with_reducible refine LeO.bind ?_ (fun _ => ?_))
  | exact ih0 _ _ _
  | exact ih1 _ _
  | exact ih2 _ _ _ _
  | exact LeO.none _
  | refine LeO.ite ?_ ?_
  | refine LeO.bind ?_ (fun _ => ?_)
set_option maxHeartbeats 8000000 in
set_option maxRecDepth 100000 in
theorem warplaw24_PoolLimits.calls (k : Nat) (a0 : Int) (a1 : Int) (r : Bool) (w : World) (h : warplaw24_PoolLimits.f k a0 a1 = some r) (hT_ : Tab w := by first | exact hT_ | exact Tab.drewN hT_ _ | (refine Tab.below hT_ ?_; repeat (first | (with_reducible first | exact HB.out | apply below_alloc | apply pw_below_drewN | apply below_drew1) | exact HB.out))) (hr_ : r = true := by rfl) :
 Calls Tryd.prog 10 #[.int .u16 a0, .int .i64 a1] w fun e w' => e = .returned (.bool r) ∧ Below w.heap.size w w' := by
 have HB := Aside0.mk (Below.refl w.heap.size w)
 have H : (if (Int.tmod (wrap64 (a0)) 6000) > 30 then (warplaw24_PoolLimits.j0 k a1 (Int.tmod (wrap64 (a0)) 6000) (decide ((Int.tmod (wrap64 (a0)) 6000) ≤ 4096))) else (warplaw24_PoolLimits.j0 k a1 (Int.tmod (wrap64 (a0)) 6000) false)) = some r := h
 clear h
 have HC3 := Aside0.mk H
 clear H
 go_enter Tryd.func10, Tryd.ntmps10
 go_upto_region 2 with (fail)
 go_cut [16] (fun v16 wc => ∃ (kq : Nat) (x16_2 : Bool), v16 = .bool x16_2 ∧ Aside0 (warplaw24_PoolLimits.j0 kq a1 (Int.tmod (wrap64 (a0)) 6000) x16_2 = some r) ∧ Aside0 (kq ≤ k) ∧ Aside0 (Below w.heap.size w wc))
 case first =>
  have H := HC3.out
  clear HC3
  by_cases c4 : (Int.tmod (wrap64 (a0)) 6000) > 30
  ·
   rw [if_pos c4] at H
   have c4b0 : decide (30 < (Int.tmod (wrap64 (a0)) 6000)) = true := decide_eq_true c4
   clear c4
   (first | rw [c4b0] | (simp only [i64_w, i32_w]; rw [c4b0]) | skip)
   have H' := Aside0.mk H
   clear H
   go_wp2
   go_meet
   case rel => exact ⟨_, (decide ((Int.tmod (wrap64 (a0)) 6000) ≤ 4096)), (by first | rfl | (simp; done) | (simp [*]; done)), H', ⟨by first | omega | exact Nat.le_refl _⟩, ⟨by repeat (first | (with_reducible first | exact HB.out | apply below_alloc | apply pw_below_drewN | apply below_drew1) | exact HB.out)⟩⟩
  ·
   rw [if_neg c4] at H
   have c4b0 : decide (30 < (Int.tmod (wrap64 (a0)) 6000)) = false := decide_eq_false c4
   clear c4
   (first | rw [c4b0] | (simp only [i64_w, i32_w]; rw [c4b0]) | skip)
   have H' := Aside0.mk H
   clear H
   go_wp2
   go_meet
   case rel => exact ⟨_, (false), (by first | rfl | (simp; done) | (simp [*]; done)), H', ⟨by first | omega | exact Nat.le_refl _⟩, ⟨by repeat (first | (with_reducible first | exact HB.out | apply below_alloc | apply pw_below_drewN | apply below_drew1) | exact HB.out)⟩⟩
 case rest =>
  clear HC3
  (try clear c1); (try clear p2); (try clear c4); (try clear c4b0)
  obtain ⟨kq, x16_2, rfl, HA, HJ2, HB⟩ := hcut
  cases kq with
  | zero => exact absurd HA.out (by simp [warplaw24_PoolLimits.j0])
  | succ kj2 =>
   have H := HA.out
   clear HA
   simp only [warplaw24_PoolLimits.j0] at H
   have HC5 := Aside0.mk H
   clear H
   go_upto_if 16 with (fail)
   go_cut [5] (fun v5 wc => ∃ (kq : Nat) (x5_4 : Int), v5 = .int .i64 x5_4 ∧ Aside0 (warplaw24_PoolLimits.j1 kq a1 x5_4 = some r) ∧ Aside0 (kq ≤ kj2) ∧ Aside0 (Below w.heap.size w wc))
   case first =>
    have H := HC5.out
    clear HC5
    by_cases c6 : x16_2 = true
    ·
     subst c6
     have H1 : (warplaw24_PoolLimits.j1 kj2 a1 30) = some r := by rw [if_pos rfl] at H; exact H
     clear H
     have H := H1
     clear H1
     have H' := Aside0.mk H
     clear H
     go_wp2
     go_meet
     case rel => exact ⟨_, (30), (by first | rfl | (simp; done) | (simp [*]; done)), H', ⟨by have := HJ2.out; first | omega | exact Nat.le_refl _⟩, ⟨by repeat (first | (with_reducible first | exact HB.out | apply below_alloc | apply pw_below_drewN | apply below_drew1) | exact HB.out)⟩⟩
    ·
     replace c6 := Bool.eq_false_iff.mpr c6
     subst c6
     have H1 : (warplaw24_PoolLimits.j1 kj2 a1 (Int.tmod (wrap64 (a0)) 6000)) = some r := by rw [if_neg (show ¬ (false = true) by decide)] at H; exact H
     clear H
     have H := H1
     clear H1
     have H' := Aside0.mk H
     clear H
     go_wp2
     go_meet
     case rel => exact ⟨_, ((Int.tmod (wrap64 (a0)) 6000)), (by first | rfl | (simp; done) | (simp [*]; done)), H', ⟨by have := HJ2.out; first | omega | exact Nat.le_refl _⟩, ⟨by repeat (first | (with_reducible first | exact HB.out | apply below_alloc | apply pw_below_drewN | apply below_drew1) | exact HB.out)⟩⟩
   case rest =>
    clear HC5
    (try clear c1); (try clear p2); (try clear c4); (try clear c4b0); (try clear c6); (try clear p6); (try clear p2)
    obtain ⟨kq, x5_4, rfl, HA, HJ4, HB⟩ := hcut
    cases kq with
    | zero => exact absurd HA.out (by simp [warplaw24_PoolLimits.j1])
    | succ kj4 =>
     have H := HA.out
     clear HA
     simp only [warplaw24_PoolLimits.j1] at H
     by_cases c7 : 0 ≤ x5_4
     ·
      rw [if_pos c7] at H
      have c7b0 := eq_true c7
      have c7b1 : decide (0 ≤ x5_4) = true := decide_eq_true c7
      clear c7
      by_cases c8 : (x5_4 : Int).toNat ≤ 35184372088832
      ·
       rw [if_pos c8] at H
       have c8b0 := eq_true c8
       have c8b1 : decide ((x5_4 : Int).toNat ≤ 35184372088832) = true := decide_eq_true c8
       clear c8
       obtain ⟨y473, hy473⟩ : ∃ y_ : List Int, y_ = (List.replicate (x5_4 : Int).toNat 0) := ⟨_, rfl⟩
       replace H : ((pool_Play.f (([y473] : List (List Int))) a1 ([] : List Int)).bind fun bt479 => (if x5_4 > 4096 then (warplaw24_PoolLimits.j2 kj4 x5_4 bt479.1 bt479.2 true) else (if a1 < 1 then (warplaw24_PoolLimits.j2 kj4 x5_4 bt479.1 bt479.2 true) else (warplaw24_PoolLimits.j2 kj4 x5_4 bt479.1 bt479.2 (decide (a1 > 64)))))) = some r := by first | (rw [hy473]; with_reducible exact H) | (have H2_ := (Option.bind_some _ _).symm.trans H; rw [hy473]; with_reducible exact H2_) | (have H2_ := (Option.bind_some _ _).symm.trans H; with_reducible exact H2_) | with_reducible exact H | (rw [hy473]; exact H) | exact H
       have Ny473 := Aside0.mk hy473
       clear hy473
       obtain ⟨y476, hy476⟩ : ∃ y_ : List (List Int), y_ = (([y473] : List (List Int))) := ⟨_, rfl⟩
       replace H : ((pool_Play.f y476 a1 ([] : List Int)).bind fun bt479 => (if x5_4 > 4096 then (warplaw24_PoolLimits.j2 kj4 x5_4 bt479.1 bt479.2 true) else (if a1 < 1 then (warplaw24_PoolLimits.j2 kj4 x5_4 bt479.1 bt479.2 true) else (warplaw24_PoolLimits.j2 kj4 x5_4 bt479.1 bt479.2 (decide (a1 > 64)))))) = some r := by first | (rw [hy476]; with_reducible exact H) | (have H2_ := (Option.bind_some _ _).symm.trans H; rw [hy476]; with_reducible exact H2_) | (have H2_ := (Option.bind_some _ _).symm.trans H; with_reducible exact H2_) | with_reducible exact H | (rw [hy476]; exact H) | exact H
       have Ny476 := Aside0.mk hy476
       clear hy476
       replace H := Option.bind_eq_some_iff.mp H
       obtain ⟨⟨t479, t480⟩, A90, H⟩ := H
       replace H : (if x5_4 > 4096 then (warplaw24_PoolLimits.j2 kj4 x5_4 t479 t480 true) else (if a1 < 1 then (warplaw24_PoolLimits.j2 kj4 x5_4 t479 t480 true) else (warplaw24_PoolLimits.j2 kj4 x5_4 t479 t480 (decide (a1 > 64))))) = some r := H
       have A9 := Aside0.mk A90
       clear A90
       have HC10 := Aside0.mk H
       clear H
       go_upto_region 5 with (first | ((with_reducible refine gate_dst (N := 19) rfl ?_); refine Kd.R_make (Kd.int .i64) _ 3 rfl (N := 19) rfl 22 _ _ rfl x5_4 rfl rfl Tryd.underlying22 (.int .i64 0) 8 info3 rfl (by decide) (by omega) 0 (ok := fun _ => True) (okp := fun _ => True) rfl (fun _ hk => hk) trivial (of_decide_eq_true (by first | (with_reducible assumption) | assumption)) (Nat.le_trans (Nat.mul_le_mul_right _ (of_decide_eq_true (by first | (with_reducible assumption) | assumption) : x5_4.toNat ≤ 35184372088832)) (by omega)) (Below.refl _ _) (Nat.le_refl _) ?_; intro v474 w11 ho12 hb hg_ hnew_; clear hg_ hnew_; (first | rw [← Ny473.out] at ho12 | (simp only [Int.reduceToNat] at ho12; rw [← Ny473.out] at ho12)); have n0_ := Aside0.mk (Kd.R_lower ho12 (below_size (by repeat (first | (with_reducible first | exact HB.out | apply below_alloc | apply pw_below_drewN | apply below_drew1) | exact HB.out)))); have n1_ := Aside0.mk (below_step (by repeat (first | (with_reducible first | exact HB.out | apply below_alloc | apply pw_below_drewN | apply below_drew1) | exact HB.out)) hb); clear HB; have HO475 := n0_; have HB := n1_; clear n0_ n1_; clear hb ho12; obtain ⟨Ao13, co13, eo13⟩ := Kd.R_slice HO475.out; subst eo13) | ((with_reducible refine gate_dst (N := 20) rfl ?_); refine Kd.N_lit (Kd.slice 3 (Kd.int .i64)) _ 22 ?hg (N' := 20) ?hd (xs := ([y473] : List (List Int))) (inner := [.slice Ao13 y473.length co13]) (ok := (fun _ => True)) (okp := (fun _ => True)) ?hr ?hp (fun _ hk => hk) ((show ∀ k_, w11.heap.size ≤ k_ → (fun _ => True) k_ from fun k_ hk => trivial) _ (Nat.le_refl _)) (Below.refl _ _) (Nat.le_refl _) (by simp) ?_; (case hd => rfl); (case hg => rfl); (case hr => first | (go_simp; done) | (go_simp; rfl)); (case hp => exact (Reps.one (show Kd.FK (Kd.slice 3 (Kd.int .i64)) _ _ y473 [.slice Ao13 y473.length co13] from (Kd.FK_slice_mk (Kd.R_reads' (Kd.R_mono (ok' := (fun _ => True)) (HO475.out) (fun k_ hk => trivial))).2.1 (Kd.R_F (Kd.R_mono (ok' := (fun _ => True)) (HO475.out) (fun k_ hk => trivial))))) (Reps.none _ _))); intro v477 w14 ho15 hb hg_ hnew_; clear hg_ hnew_; (first | rw [← Ny476.out] at ho15 | (simp only [Int.reduceToNat] at ho15; rw [← Ny476.out] at ho15)); have n0_ := Aside0.mk (Kd.N_lower ho15 (below_size (by repeat (first | (with_reducible first | exact HB.out | apply below_alloc | apply pw_below_drewN | apply below_drew1) | exact HB.out)))); have n1_ := Aside0.mk (below_step (by repeat (first | (with_reducible first | exact HB.out | apply below_alloc | apply pw_below_drewN | apply below_drew1) | exact HB.out)) hb); clear HB; clear HO475; have HO478 := n0_; have HB := n1_; clear n0_ n1_; clear hb ho15; obtain ⟨Ao16, co16, eo16⟩ := Kd.N_slice HO478.out; subst eo16) | ((with_reducible refine gate_callee (f := 20) rfl ?_); refine goesL_ (some 22) rfl rfl Tryd.func20 (by kernel_rfl) rfl #[.slice Ao16 y476.length co16, .int .i64 a1, .slice none 0 0] rfl (by (try simp only [List.map_toArray, List.map_cons, List.map_nil]); first | done | rfl | (simp only [List.length_drop, List.length_take]; rfl)) ?_; (refine (pool_Play.calls _ _ y476 a1 _ _ ([] : List Int) t479 t480 _ ?side1 ?side2 ?side3 ?side4 A9.out).mono ?_); (case side1 => repeat (first | exact (Kd.N_reads' HO478.out).2.2 | (with_reducible refine Kd.C_alloc ?_ _) | (with_reducible refine Kd.C_drewN ?_ _) | (with_reducible refine Kd.C_drew ?_))); (case side2 => exact (Kd.N_reads' HO478.out).2.1); (case side3 => exact Kd.C_nil _ _); (case side4 => exact Nat.le_refl _); rintro e w17 ⟨v481, rfl, ho0, hb⟩; refine ⟨_, rfl, ?_⟩; have n0_ := Aside0.mk (Kd.N_elder' (by (with_reducible repeat (first | apply Kd.N_alloc | apply Kd.N_drewN | apply Kd.N_drew)); exact HO478.out) (Kd.R_base ho0) hb); have n1_ := Aside0.mk (Kd.R_lower ho0 (below_size (by repeat (first | (with_reducible first | exact HB.out | apply below_alloc | apply pw_below_drewN | apply below_drew1) | exact HB.out)))); have n2_ := Aside0.mk (below_step (by repeat (first | (with_reducible first | exact HB.out | apply below_alloc | apply pw_below_drewN | apply below_drew1) | exact HB.out)) hb); clear HO478; clear HB; have HO478 := n0_; have HO482 := n1_; have HB := n2_; clear n0_ n1_ n2_; (try clear hb); (try clear hb2); (try clear hk); (try clear hi); (try clear ho0)))
       (try simp only [Act.put, List.setIfInBounds_toArray, List.set_cons_zero, List.set_cons_succ])
       go_cut [34] (fun v34 wc => ∃ (kq : Nat) (x34_9 : Bool), v34 = .bool x34_9 ∧ Aside0 (warplaw24_PoolLimits.j2 kq x5_4 t479 t480 x34_9 = some r) ∧ Aside0 (kq ≤ kj4) ∧ Aside0 (Kd.R k54 54 wc w.heap.size (fun _ => True) v481 t479) ∧ Aside0 (Below w.heap.size w wc))
       case first =>
        have H := HC10.out
        clear HC10
        by_cases c18 : x5_4 > 4096
        ·
         rw [if_pos c18] at H
         have c18b0 : decide (4096 < x5_4) = true := decide_eq_true c18
         clear c18
         (first | rw [c18b0] | (simp only [i64_w, i32_w]; rw [c18b0]) | skip)
         have H' := Aside0.mk H
         clear H
         go_wp2
         go_meet
         case rel => exact ⟨_, (true), (by first | rfl | (simp; done) | (simp [*]; done)), H', ⟨by have := HJ2.out; have := HJ4.out; first | omega | exact Nat.le_refl _⟩, ⟨by (with_reducible repeat (first | apply Kd.R_alloc | apply Kd.R_drewN | apply Kd.R_drew)); exact HO482.out⟩, ⟨by repeat (first | (with_reducible first | exact HB.out | apply below_alloc | apply pw_below_drewN | apply below_drew1) | exact HB.out)⟩⟩
        ·
         rw [if_neg c18] at H
         have c18b0 : decide (4096 < x5_4) = false := decide_eq_false c18
         clear c18
         (first | rw [c18b0] | (simp only [i64_w, i32_w]; rw [c18b0]) | skip)
         by_cases c19 : a1 < 1
         ·
          rw [if_pos c19] at H
          have c19b0 : decide (a1 < 1) = true := decide_eq_true c19
          clear c19
          have H' := Aside0.mk H
          clear H
          go_wp2
          go_meet
          case rel => exact ⟨_, (true), (by first | rfl | (simp; done) | (simp [*]; done)), H', ⟨by have := HJ2.out; have := HJ4.out; first | omega | exact Nat.le_refl _⟩, ⟨by (with_reducible repeat (first | apply Kd.R_alloc | apply Kd.R_drewN | apply Kd.R_drew)); exact HO482.out⟩, ⟨by repeat (first | (with_reducible first | exact HB.out | apply below_alloc | apply pw_below_drewN | apply below_drew1) | exact HB.out)⟩⟩
         ·
          rw [if_neg c19] at H
          have c19b0 : decide (a1 < 1) = false := decide_eq_false c19
          clear c19
          have H' := Aside0.mk H
          clear H
          go_wp2
          go_meet
          case rel => exact ⟨_, (decide (a1 > 64)), (by first | rfl | (simp; done) | (simp [*]; done)), H', ⟨by have := HJ2.out; have := HJ4.out; first | omega | exact Nat.le_refl _⟩, ⟨by (with_reducible repeat (first | apply Kd.R_alloc | apply Kd.R_drewN | apply Kd.R_drew)); exact HO482.out⟩, ⟨by repeat (first | (with_reducible first | exact HB.out | apply below_alloc | apply pw_below_drewN | apply below_drew1) | exact HB.out)⟩⟩
       case rest =>
        clear HC10
        (try clear c1); (try clear c2); (try clear p2); (try clear c4); (try clear c4b0); (try clear c6); (try clear p6); (try clear c7); (try clear c7b0); (try clear c7b1); (try clear c8); (try clear c8b0); (try clear c8b1); (try clear c10); (try clear c18); (try clear c18b0); (try clear c19); (try clear c19b0); (try clear p2); (try clear p6)
        obtain ⟨kq, x34_9, rfl, HA, HJ9, HO_6, HB⟩ := hcut
        cases kq with
        | zero => exact absurd HA.out (by simp [warplaw24_PoolLimits.j2])
        | succ kj9 =>
         have H := HA.out
         clear HA
         simp only [warplaw24_PoolLimits.j2] at H
         by_cases c20 : x34_9 = true
         ·
          subst c20
          have H1 : (if (t479.length : Int) = 0 then (if t480 = 0 then ((warplaw24_awake.f).bind fun t483 => (some t483)) else (some false)) else (some false)) = some r := by rw [if_pos rfl] at H; exact H
          clear H
          have H := H1
          clear H1
          by_cases c21 : (t479.length : Int) = 0
          ·
           rw [if_pos c21] at H
           have c21b0 : ((t479.length : Int) == 0) = true := beq_iff_eq.mpr c21
           have c21b1 : ((t479.length : Int) != 0) = false := bne_eq_false_iff_eq.mpr c21
           clear c21
           by_cases c22 : t480 = 0
           ·
            rw [if_pos c22] at H
            have c22b0 : (t480 == 0) = true := beq_iff_eq.mpr c22
            have c22b1 : (t480 != 0) = false := bne_eq_false_iff_eq.mpr c22
            clear c22
            replace H := Option.bind_eq_some_iff.mp H
            obtain ⟨t483, A230, H⟩ := H
            replace H : (some t483) = some r := H
            have A23 := Aside0.mk A230
            clear A230
            obtain rfl := Option.some.inj H
            obtain ⟨Ao24, co24, eo24⟩ := Kd.R_slice HO_6.out
            subst eo24
            go_wp2_with (first | (go_at_call 19; (with_reducible refine (warplaw24_awake.calls  t483 _ A23.out).mono ?_); rintro e w25 ⟨rfl, hb⟩; have n0_ := Aside0.mk (Kd.R_below (by (with_reducible repeat (first | apply Kd.R_alloc | apply Kd.R_drewN | apply Kd.R_drew)); exact HO_6.out) hb); have n1_ := Aside0.mk (below_step (by repeat (first | (with_reducible first | exact HB.out | apply below_alloc | apply pw_below_drewN | apply below_drew1) | exact HB.out)) hb); clear HO_6; clear HB; have HO_6 := n0_; have HB := n1_; clear n0_ n1_; (try clear hb); (try clear hb2); (try clear hk); (try clear hi)))
            go_ret
            exact ⟨by first | rfl | (simp [errW_none, errW_some] <;> rfl) | (simp [*, errW_none, errW_some] <;> rfl), by repeat (first | (with_reducible first | exact HB.out | apply below_alloc | apply pw_below_drewN | apply below_drew1) | exact HB.out)⟩
           ·
            rw [if_neg c22] at H
            have c22b0 : (t480 == 0) = false := beq_eq_false_iff_ne.mpr c22
            have c22b1 : (t480 != 0) = true := bne_iff_ne.mpr c22
            exact absurd (hr_.symm.trans (Option.some.inj H).symm) (by decide)
          ·
           rw [if_neg c21] at H
           have c21b0 : ((t479.length : Int) == 0) = false := beq_eq_false_iff_ne.mpr c21
           have c21b1 : ((t479.length : Int) != 0) = true := bne_iff_ne.mpr c21
           have c21b2 : ¬ (t479 = []) := fun h_ => c21 (by rw [h_]; rfl)
           exact absurd (hr_.symm.trans (Option.some.inj H).symm) (by decide)
         ·
          replace c20 := Bool.eq_false_iff.mpr c20
          subst c20
          have H1 : (if (t479.length : Int) = x5_4 then (if t480 = (wrap64 (2 * x5_4)) then ((warplaw24_awake.f).bind fun t484 => (some t484)) else (some false)) else (some false)) = some r := by rw [if_neg (show ¬ (false = true) by decide)] at H; exact H
          clear H
          have H := H1
          clear H1
          by_cases c28 : (t479.length : Int) = x5_4
          ·
           rw [if_pos c28] at H
           have c28b0 : ((t479.length : Int) == x5_4) = true := beq_iff_eq.mpr c28
           have c28b1 : ((t479.length : Int) != x5_4) = false := bne_eq_false_iff_eq.mpr c28
           clear c28
           by_cases c29 : t480 = (wrap64 (2 * x5_4))
           ·
            rw [if_pos c29] at H
            have c29b0 : (t480 == (wrap64 (2 * x5_4))) = true := beq_iff_eq.mpr c29
            have c29b1 : (t480 != (wrap64 (2 * x5_4))) = false := bne_eq_false_iff_eq.mpr c29
            clear c29
            replace H := Option.bind_eq_some_iff.mp H
            obtain ⟨t484, A300, H⟩ := H
            replace H : (some t484) = some r := H
            have A30 := Aside0.mk A300
            clear A300
            obtain rfl := Option.some.inj H
            obtain ⟨Ao31, co31, eo31⟩ := Kd.R_slice HO_6.out
            subst eo31
            go_wp2_with (first | (go_at_call 19; (with_reducible refine (warplaw24_awake.calls  t484 _ A30.out).mono ?_); rintro e w32 ⟨rfl, hb⟩; have n0_ := Aside0.mk (Kd.R_below (by (with_reducible repeat (first | apply Kd.R_alloc | apply Kd.R_drewN | apply Kd.R_drew)); exact HO_6.out) hb); have n1_ := Aside0.mk (below_step (by repeat (first | (with_reducible first | exact HB.out | apply below_alloc | apply pw_below_drewN | apply below_drew1) | exact HB.out)) hb); clear HO_6; clear HB; have HO_6 := n0_; have HB := n1_; clear n0_ n1_; (try clear hb); (try clear hb2); (try clear hk); (try clear hi)))
            go_ret
            exact ⟨by first | rfl | (simp [errW_none, errW_some] <;> rfl) | (simp [*, errW_none, errW_some] <;> rfl), by repeat (first | (with_reducible first | exact HB.out | apply below_alloc | apply pw_below_drewN | apply below_drew1) | exact HB.out)⟩
           ·
            rw [if_neg c29] at H
            have c29b0 : (t480 == (wrap64 (2 * x5_4))) = false := beq_eq_false_iff_ne.mpr c29
            have c29b1 : (t480 != (wrap64 (2 * x5_4))) = true := bne_iff_ne.mpr c29
            exact absurd (hr_.symm.trans (Option.some.inj H).symm) (by decide)
          ·
           rw [if_neg c28] at H
           have c28b0 : ((t479.length : Int) == x5_4) = false := beq_eq_false_iff_ne.mpr c28
           have c28b1 : ((t479.length : Int) != x5_4) = true := bne_iff_ne.mpr c28
           exact absurd (hr_.symm.trans (Option.some.inj H).symm) (by decide)
      ·
       rw [if_neg c8] at H
       exact absurd H (by simp)
     ·
      rw [if_neg c7] at H
      exact absurd H (by simp)

/-- The one plain statement of warplaw24_PoolLimits. -/
def warplaw24_PoolLimits.Pure : Prop := ∀ (a0 : Int) (a1 : Int), ((fun n : Int => (Lit.int .u16 n).wf = true) a0) → ((fun n : Int => (Lit.int .i64 n).wf = true) a1) → ∃ k, warplaw24_PoolLimits.f k a0 a1 = some true

end Go.Proofs.YtbkdnenlffiaeaaDoor.P
