/-
The plain Lean functions of Go functions of this seat, and proofs that the calls of the machine come to them; no condition beside those named in each theorem.
-/
import Derived.Test.YtmaiicpaalbcfaaDoorPx0
import Derived.Test.YtmaiicpaalbcfaaDoorPx14
namespace Go.Proofs.YtmaiicpaalbcfaaDoor.P
open Go.RowKit Go.Proofs.YtmaiicpaalbcfaaDoorW.PrintWords Go.Proofs.YtmaiicpaalbcfaaDoorW.PrintLast Go.Proofs.YtmaiicpaalbcfaaDoorW.PrintMore
attribute [local go_sem] max2_int min2_int max_two min_two max_three min_three max_four min_four   -- for this text's walks alone
set_option linter.unusedVariables false
set_option linter.unusedSimpArgs false

/-! ### pick_Next: function 24 -/
def pick_Next.j0 : Nat → List Int → Int → List Int → Int → Int → Option (Int × List Int × Int × Int)
 | 0, _, _, _, _, _ => none
 | k + 1, x6, x8, x375000, x375001, x375002 => (pick_set_at.f k x6 x8).bind fun t382 => (some (t382, x375000, x375001, t382))
def pick_Next.f (k : Nat) (l0_0 : List Int) (a0_1 : Int) (a0_2 : Int) (l1 : List Bool) : Option (Int × List Int × Int × Int) := (pick_of.f k l1).bind fun t376 => ((pick_set_count.f k t376).bind fun t379 => (if t379 = 0 then (some ((-1), l0_0, a0_1, a0_2)) else ((pick_set_below.f k t376 a0_2).bind fun t380 => (if a0_1 ≥ 0 then (if a0_1 < (l0_0.length : Int) then (if 0 ≤ a0_1 then (pick_Next.j0 k t376 (Int.tmod (wrap64 ((Int.tmod (rd l0_0 a0_1) t379) + t379)) t379) l0_0 (wrap64 (a0_1 + 1)) a0_2) else (none)) else (pick_Next.j0 k t376 (Int.tmod t380 t379) l0_0 a0_1 a0_2)) else ((pick_set_at.f k t376 (Int.tmod t380 t379)).bind fun t383 => (some (t383, l0_0, a0_1, t383)))))))
theorem pick_Next.mono_l : ∀ k, (∀ y0 y1 y2 y3 y4, LeO (pick_Next.j0 k y0 y1 y2 y3 y4) (pick_Next.j0 (k + 1) y0 y1 y2 y3 y4))
 | 0 => fun _ _ _ _ _ r h => by simp [pick_Next.j0] at h
 | k + 1 => by
  have ih0 := pick_Next.mono_l k
  ·
   intro y0 y1 y2 y3 y4
   unfold pick_Next.j0
   repeat' first
   | (with_reducible exact ih0 _ _ _ _ _)
   | (with_reducible exact pick_of.mono _ _)
   | (with_reducible exact pick_set_at.mono _ _ _)
   | (with_reducible exact pick_set_below.mono _ _ _)
   | (with_reducible exact pick_set_count.mono _ _)
   | (with_reducible exact LeO.refl _)
   | (with_reducible exact LeO.none _)
   | (with_reducible refine LeO.ite ?_ ?_)
   | (with_reducible refine LeO.bind ?_ (fun _ => ?_))
   | exact ih0 _ _ _ _ _
   | exact pick_of.mono _ _
   | exact pick_set_at.mono _ _ _
   | exact pick_set_below.mono _ _ _
   | exact pick_set_count.mono _ _
   | exact LeO.none _
   | refine LeO.ite ?_ ?_
   | refine LeO.bind ?_ (fun _ => ?_)
theorem pick_Next.mono : ∀ a0 a1 a2 a3 k, LeO (pick_Next.f k a0 a1 a2 a3) (pick_Next.f (k + 1) a0 a1 a2 a3) := by
 intro a0 a1 a2 a3 k
 have ih0 := pick_Next.mono_l k
 unfold pick_Next.f
 repeat' first
  | (with_reducible exact ih0 _ _ _ _ _)
  | (with_reducible exact pick_of.mono _ _)
  | (with_reducible exact pick_set_at.mono _ _ _)
  | (with_reducible exact pick_set_below.mono _ _ _)
  | (with_reducible exact pick_set_count.mono _ _)
  | (with_reducible exact LeO.refl _)
  | (with_reducible exact LeO.none _)
  | (with_reducible refine LeO.ite ?_ ?_)
  | (with_reducible refine LeO.bind ?_ (fun _ => ?_))
  | exact ih0 _ _ _ _ _
  | exact pick_of.mono _ _
  | exact pick_set_at.mono _ _ _
  | exact pick_set_below.mono _ _ _
  | exact pick_set_count.mono _ _
  | exact LeO.none _
  | refine LeO.ite ?_ ?_
  | refine LeO.bind ?_ (fun _ => ?_)
set_option maxHeartbeats 8000000 in
set_option maxRecDepth 100000 in
theorem pick_Next.calls (k : Nat) (P0_0_ : Nat → Prop) (A0_0 : Option Addr) (c0_0 : Nat) (l0_0 : List Int) (a0_1 : Int) (a0_2 : Int) (A1 : Option Addr) (c1 : Nat) (l1 : List Bool) (r1 : Int) (r2 : List Int) (r3 : Int) (r4 : Int) (w : World) (hs0_0 : Kd.V (Kd.int .i64) 3 w w.heap.size (fun k_ => P0_0_ k_) (.slice A0_0 l0_0.length c0_0) l0_0) (hr1 : Kd.C Kd.bool w A1 l1.length l1) (hc1 : l1.length ≤ c1) (h : pick_Next.f k l0_0 a0_1 a0_2 l1 = some (r1, r2, r3, r4)) (hT_ : Tab w := by first | exact hT_ | exact Tab.drewN hT_ _ | (refine Tab.below hT_ ?_; repeat (first | (with_reducible first | exact HB.out | apply below_alloc | apply pw_below_drewN | apply below_drew1) | exact HB.out))) :
 Calls Tryd.prog 24 #[.agg #[.slice A0_0 l0_0.length c0_0, .int .i64 a0_1, .int .i64 a0_2], .slice A1 l1.length c1] w fun e w' => ∃ v1_ : Value, e = .returned (.tuple #[.int .i64 r1, .agg #[v1_, .int .i64 r3, .int .i64 r4]]) ∧ Kd.V (Kd.int .i64) 3 w' w.heap.size (fun k_ => (P0_0_ k_ ∨ w.heap.size ≤ k_)) v1_ r2 ∧ Below w.heap.size w w' := by
 have hu58 := Tryd.underlying58
 have HO0_0 := Aside0.mk (show Kd.V (Kd.int .i64) 3 w w.heap.size (fun k_ => (P0_0_ k_ ∨ w.heap.size ≤ k_)) (.slice A0_0 l0_0.length c0_0) l0_0 from Kd.V_mono hs0_0 (fun k_ hk => .inl hk))
 have HR1 := Aside0.mk hr1
 have HC1 := Aside0.mk hc1
 clear hr1 hc1
 have HB := Aside0.mk (Below.refl w.heap.size w)
 have H : ((pick_of.f k l1).bind fun t376 => ((pick_set_count.f k t376).bind fun t379 => (if t379 = 0 then (some ((-1), l0_0, a0_1, a0_2)) else ((pick_set_below.f k t376 a0_2).bind fun t380 => (if a0_1 ≥ 0 then (if a0_1 < (l0_0.length : Int) then (if 0 ≤ a0_1 then (pick_Next.j0 k t376 (Int.tmod (wrap64 ((Int.tmod (rd l0_0 a0_1) t379) + t379)) t379) l0_0 (wrap64 (a0_1 + 1)) a0_2) else (none)) else (pick_Next.j0 k t376 (Int.tmod t380 t379) l0_0 a0_1 a0_2)) else ((pick_set_at.f k t376 (Int.tmod t380 t379)).bind fun t383 => (some (t383, l0_0, a0_1, t383)))))))) = some (r1, r2, r3, r4) := h
 clear h
 replace H := Option.bind_eq_some_iff.mp H
 obtain ⟨t376, A30, H⟩ := H
 replace H : ((pick_set_count.f k t376).bind fun t379 => (if t379 = 0 then (some ((-1), l0_0, a0_1, a0_2)) else ((pick_set_below.f k t376 a0_2).bind fun t380 => (if a0_1 ≥ 0 then (if a0_1 < (l0_0.length : Int) then (if 0 ≤ a0_1 then (pick_Next.j0 k t376 (Int.tmod (wrap64 ((Int.tmod (rd l0_0 a0_1) t379) + t379)) t379) l0_0 (wrap64 (a0_1 + 1)) a0_2) else (none)) else (pick_Next.j0 k t376 (Int.tmod t380 t379) l0_0 a0_1 a0_2)) else ((pick_set_at.f k t376 (Int.tmod t380 t379)).bind fun t383 => (some (t383, l0_0, a0_1, t383))))))) = some (r1, r2, r3, r4) := H
 have A3 := Aside0.mk A30
 clear A30
 replace H := Option.bind_eq_some_iff.mp H
 obtain ⟨t379, A40, H⟩ := H
 replace H : (if t379 = 0 then (some ((-1), l0_0, a0_1, a0_2)) else ((pick_set_below.f k t376 a0_2).bind fun t380 => (if a0_1 ≥ 0 then (if a0_1 < (l0_0.length : Int) then (if 0 ≤ a0_1 then (pick_Next.j0 k t376 (Int.tmod (wrap64 ((Int.tmod (rd l0_0 a0_1) t379) + t379)) t379) l0_0 (wrap64 (a0_1 + 1)) a0_2) else (none)) else (pick_Next.j0 k t376 (Int.tmod t380 t379) l0_0 a0_1 a0_2)) else ((pick_set_at.f k t376 (Int.tmod t380 t379)).bind fun t383 => (some (t383, l0_0, a0_1, t383)))))) = some (r1, r2, r3, r4) := H
 have A4 := Aside0.mk A40
 clear A40
 by_cases c5 : t379 = 0
 ·
  rw [if_pos c5] at H
  have c5b0 : (t379 == 0) = true := beq_iff_eq.mpr c5
  have c5b1 : (t379 != 0) = false := bne_eq_false_iff_eq.mpr c5
  clear c5
  simp only [Option.some.injEq, Prod.mk.injEq] at H
  obtain ⟨rfl, rfl, rfl, rfl⟩ := H
  go_enter Tryd.func24, Tryd.ntmps24
  try go_wp2_with (first | ((with_reducible refine gate_dst (N := 2) rfl ?_); (try (refine gate_guard (by rfl) ?_; dsimp only)); refine box_event ?hg (N := 2) ?hd (cs := #[.slice A0_0 l0_0.length c0_0, .int .i64 a0_1, .int .i64 a0_2]) (t := 58) ?hr ?_; (case hd => rfl); (case hg => rfl); (case hr => first | (go_simp; done) | (go_simp; rfl)); intro gb374 hg w6 hbox hb; have n0_ := Aside0.mk (Kd.V_below (Kd.V_elderB (by (with_reducible repeat (first | apply Kd.V_alloc | apply Kd.V_drewN | apply Kd.V_drew)); exact HO0_0.out) gb374 (Nat.le_of_eq hg.symm)) hb); have n1_ := Aside0.mk (below_step (by repeat (first | (with_reducible first | exact HB.out | apply below_alloc | apply pw_below_drewN | apply below_drew1) | exact HB.out)) hb); have n2_ := Aside0.mk (hbox); have n3_ := Aside0.mk ((by rw [hg]; exact (below_size (by repeat (first | (with_reducible first | exact HB.out | apply below_alloc | apply pw_below_drewN | apply below_drew1) | exact HB.out))) : w.heap.size ≤ gb374)); have n4_ := Aside0.mk ((by rw [hg]; exact (below_size (by repeat (first | (with_reducible first | exact HB.out | apply below_alloc | apply pw_below_drewN | apply below_drew1) | exact HB.out))) : w.heap.size ≤ gb374)); clear HO0_0; clear HB; have HO0_0 := n0_; have HB := n1_; have BK374 := n2_; have GW374 := n3_; have GE374 := n4_; clear n0_ n1_ n2_ n3_ n4_; clear hb hbox hg) | ((with_reducible refine gate_dst (N := 5) rfl ?_); (try (refine gate_guard (by rfl) ?_; dsimp only)); refine box_event ?hg (N := 5) ?hd (cs := #[.slice none 0 0, .int .i64 0, .int .i64 0]) (t := 58) ?hr ?_; (case hd => rfl); (case hg => rfl); (case hr => first | (go_simp; done) | (go_simp; rfl)); intro gb375 hg w7 hbox hb; have n0_ := Aside0.mk (Kd.V_below (Kd.V_elderB (by (with_reducible repeat (first | apply Kd.V_alloc | apply Kd.V_drewN | apply Kd.V_drew)); exact HO0_0.out) gb375 (Nat.le_of_eq hg.symm)) hb); have n1_ := Aside0.mk (blk_below (g := gb374) (o := .cells #[.slice A0_0 l0_0.length c0_0, .int .i64 a0_1, .int .i64 a0_2] 58 (0, 0)) (by (with_reducible repeat (first | refine blk_drewN ?_ _ | refine blk_drew ?_ | refine blk_alloc ?_ _)); exact BK374.out) hb); have n2_ := Aside0.mk (below_step (by repeat (first | (with_reducible first | exact HB.out | apply below_alloc | apply pw_below_drewN | apply below_drew1 | refine below_set ?_ GE374.out) | exact HB.out)) hb); have n3_ := Aside0.mk (hbox); have n4_ := Aside0.mk ((by rw [hg]; exact (below_size (by repeat (first | (with_reducible first | exact HB.out | apply below_alloc | apply pw_below_drewN | apply below_drew1 | refine below_set ?_ GE374.out) | exact HB.out))) : w.heap.size ≤ gb375)); have n5_ := Aside0.mk ((by rw [hg]; exact (below_size (by repeat (first | (with_reducible first | exact HB.out | apply below_alloc | apply pw_below_drewN | apply below_drew1 | refine below_set ?_ GE374.out) | exact HB.out))) : w.heap.size ≤ gb375)); have n6_ := Aside0.mk ((by rw [hg]; exact Nat.ne_of_lt (blk_lt (g := gb374) (o := .cells #[.slice A0_0 l0_0.length c0_0, .int .i64 a0_1, .int .i64 a0_2] 58 (0, 0)) (by (with_reducible repeat (first | refine blk_drewN ?_ _ | refine blk_drew ?_ | refine blk_alloc ?_ _)); exact BK374.out)) : gb374 ≠ gb375)); have n7_ := Aside0.mk ((by rw [hg]; exact Nat.ne_of_gt (blk_lt (g := gb374) (o := .cells #[.slice A0_0 l0_0.length c0_0, .int .i64 a0_1, .int .i64 a0_2] 58 (0, 0)) (by (with_reducible repeat (first | refine blk_drewN ?_ _ | refine blk_drew ?_ | refine blk_alloc ?_ _)); exact BK374.out)) : gb375 ≠ gb374)); clear HO0_0; clear BK374; clear HB; have HO0_0 := n0_; have BK374 := n1_; have HB := n2_; have BK375 := n3_; have GW375 := n4_; have GE375 := n5_; have NB374_375 := n6_; have NB375_374 := n7_; clear n0_ n1_ n2_ n3_ n4_ n5_ n6_ n7_; clear hb hbox hg) | ((with_reducible refine gate_callee (f := 34) rfl ?_); refine goesL_ (some 10) rfl rfl Tryd.func34 (by kernel_rfl) rfl #[.slice A1 l1.length c1] rfl (by (try simp only [List.map_toArray, List.map_cons, List.map_nil]); first | done | rfl | (simp only [List.length_drop, List.length_take]; rfl)) ?_; (with_reducible refine (pick_of.calls k _ _ l1 t376 _ ?side1 ?side2 A3.out).mono ?_); (case side1 => repeat (first | exact (Kd.C_below HR1.out HB.out) | (with_reducible refine Kd.C_alloc ?_ _) | (with_reducible refine Kd.C_drewN ?_ _) | (with_reducible refine Kd.C_drew ?_))); (case side2 => exact HC1.out); rintro e w8 ⟨v377, rfl, ho0, hb⟩; refine ⟨_, rfl, ?_⟩; have n0_ := Aside0.mk (Kd.V_elder' (by (with_reducible repeat (first | apply Kd.V_alloc | apply Kd.V_drewN | apply Kd.V_drew)); exact HO0_0.out) (Kd.R_base ho0) hb); have n1_ := Aside0.mk (Kd.R_lower (Kd.R_newM (M := fun k_ => (w.heap.size ≤ k_)) ho0 (below_size (by repeat (first | (with_reducible first | exact HB.out | apply below_alloc | apply pw_below_drewN | apply below_drew1 | refine below_set ?_ GE374.out | refine below_set ?_ GE375.out) | exact HB.out))) (fun k_ h_ => h_)) (below_size (by repeat (first | (with_reducible first | exact HB.out | apply below_alloc | apply pw_below_drewN | apply below_drew1 | refine below_set ?_ GE374.out | refine below_set ?_ GE375.out) | exact HB.out)))); have n2_ := Aside0.mk (blk_below (g := gb374) (o := .cells #[.slice A0_0 l0_0.length c0_0, .int .i64 a0_1, .int .i64 a0_2] 58 (0, 0)) (by (with_reducible repeat (first | refine blk_drewN ?_ _ | refine blk_drew ?_ | refine blk_alloc ?_ _)); exact BK374.out) hb); have n3_ := Aside0.mk (blk_below (g := gb375) (o := .cells #[.slice none 0 0, .int .i64 0, .int .i64 0] 58 (0, 0)) (by (with_reducible repeat (first | refine blk_drewN ?_ _ | refine blk_drew ?_ | refine blk_alloc ?_ _)); exact BK375.out) hb); have n4_ := Aside0.mk (below_step (by repeat (first | (with_reducible first | exact HB.out | apply below_alloc | apply pw_below_drewN | apply below_drew1 | refine below_set ?_ GE374.out | refine below_set ?_ GE375.out) | exact HB.out)) hb); clear HO0_0; clear BK374; clear BK375; clear HB; have HO0_0 := n0_; have HO378 := n1_; have BK374 := n2_; have BK375 := n3_; have HB := n4_; clear n0_ n1_ n2_ n3_ n4_; (try clear hb); (try clear hb2); (try clear hk); (try clear hi); (try clear ho0); obtain ⟨Ao9, co9, eo9⟩ := Kd.R_slice HO378.out; subst eo9) | ((with_reducible refine gate_callee (f := 35) rfl ?_); refine goesL_ (some 12) rfl rfl Tryd.func35 (by kernel_rfl) rfl #[.slice Ao9 t376.length co9] rfl (by (try simp only [List.map_toArray, List.map_cons, List.map_nil]); first | done | rfl | (simp only [List.length_drop, List.length_take]; rfl)) ?_; (with_reducible refine (pick_set_count.calls k _ _ t376 t379 _ ?side1 ?side2 A4.out).mono ?_); (case side1 => repeat (first | exact (Kd.R_reads' HO378.out).2.2 | (with_reducible refine Kd.C_alloc ?_ _) | (with_reducible refine Kd.C_drewN ?_ _) | (with_reducible refine Kd.C_drew ?_))); (case side2 => exact (Kd.R_reads' HO378.out).2.1); rintro e w' ⟨rfl, ⟨nd, rfl⟩⟩; refine ⟨_, rfl, ?_⟩; (try (rw [drewN_self w8]; generalize hq_ : World.drewN w8 _ = w8; have n0_ : Aside0 (Kd.V (Kd.int .i64) 3 w8 w.heap.size (fun k_ => (((((P0_0_ k_ ∨ w.heap.size ≤ k_)) ∧ k_ ≠ gb374) ∧ k_ ≠ gb375) ∧ some k_ ≠ (.slice Ao9 t376.length co9 : Value).ownBlock)) (.slice A0_0 l0_0.length c0_0) l0_0) := ⟨by rw [← hq_]; exact (by (with_reducible repeat (first | apply Kd.V_alloc | apply Kd.V_drewN | apply Kd.V_drew)); exact HO0_0.out)⟩; have n1_ : Aside0 (Kd.R (Kd.int .u64) 61 w8 w.heap.size (fun k_ => (((w.heap.size ≤ k_)) ∧ True)) (.slice Ao9 t376.length co9) t376) := ⟨by rw [← hq_]; exact (by (with_reducible repeat (first | apply Kd.R_alloc | apply Kd.R_drewN | apply Kd.R_drew)); exact HO378.out)⟩; have n2_ : Aside0 (w8.heap[gb374]? = some (.cells #[.slice A0_0 l0_0.length c0_0, .int .i64 a0_1, .int .i64 a0_2] 58 (0, 0))) := ⟨by rw [← hq_]; exact (by (with_reducible repeat (first | refine blk_drewN ?_ _ | refine blk_drew ?_ | refine blk_alloc ?_ _)); exact BK374.out)⟩; have n3_ : Aside0 (w8.heap[gb375]? = some (.cells #[.slice none 0 0, .int .i64 0, .int .i64 0] 58 (0, 0))) := ⟨by rw [← hq_]; exact (by (with_reducible repeat (first | refine blk_drewN ?_ _ | refine blk_drew ?_ | refine blk_alloc ?_ _)); exact BK375.out)⟩; have n4_ : Aside0 (Below w.heap.size w w8) := ⟨by rw [← hq_]; exact (by repeat (first | (with_reducible first | exact HB.out | apply below_alloc | apply pw_below_drewN | apply below_drew1 | refine below_set ?_ GE374.out | refine below_set ?_ GE375.out) | exact HB.out))⟩; clear HO0_0 HO378 BK374 BK375 HB hq_; have HO0_0 := n0_; have HO378 := n1_; have BK374 := n2_; have BK375 := n3_; have HB := n4_; clear n0_ n1_ n2_ n3_ n4_))))
  have n0_ := Aside0.mk (Kd.V_drew HO0_0.out)
  have n1_ := Aside0.mk (Kd.R_drew HO378.out)
  have n2_ := Aside0.mk (blk_drew BK374.out)
  have n3_ := Aside0.mk (blk_drew BK375.out)
  have n4_ := Aside0.mk (below_drew1 HB.out)
  clear HO0_0
  clear HO378
  clear BK374
  clear BK375
  clear HB
  have HO0_0 := n0_
  have HO378 := n1_
  have BK374 := n2_
  have BK375 := n3_
  have HB := n4_
  clear n0_ n1_ n2_ n3_ n4_
  refine start_ (n := 3) (S := fun w' => w'.cell? ⟨gb374, 0, none⟩ = some (.slice A0_0 l0_0.length c0_0) ∧ w'.cell? ⟨gb374, 1, none⟩ = some (.int .i64 a0_1) ∧ w'.cell? ⟨gb374, 2, none⟩ = some (.int .i64 a0_2)) (ds := []) #[false, false, false] (by kernel_rfl) rfl rfl ⟨(blk_cell BK374.out 0).trans rfl, (blk_cell BK374.out 1).trans rfl, (blk_cell BK374.out 2).trans rfl⟩ (fun hHeld => ?_)
  generalize w8.drew = w10 at HO0_0 HO378 BK374 BK375 HB hHeld ⊢
  refine pure_ (i := 1) (N := some 4) (v := ?_) (a' := ?_) #[false, true, false] rfl rfl (by kernel_rfl) (fun _ _ _ h => h) (Or.inl ⟨by rfl, ?_⟩) ?_ ?_
  rotate_left
  ·
   intro w'
   go_simp
   with_reducible rfl
  rotate_left
  ·
   simp only [Act.put, List.setIfInBounds_toArray, List.set_cons_zero, List.set_cons_succ, i64_w, i32_w]
   rfl
  refine take_ (i := 0) (N := some 15) (v := ?_) (a' := ?_) #[true, true, false] rfl rfl (by kernel_rfl) (fun _ _ _ h => h) (Or.inl ⟨by rfl, ?_⟩) hHeld ?_ ?_
  rotate_left
  ·
   rintro w' ⟨s0, s1, s2⟩
   go_simp
   with_reducible rfl
  rotate_left
  ·
   simp only [Act.put, List.setIfInBounds_toArray, List.set_cons_zero, List.set_cons_succ, i64_w, i32_w]
   rfl
  refine one_ (i := 2) (N := none) #[true, true, true] rfl rfl (by kernel_rfl) (by decide) (fun K hK => ?_)
  have hs11 : w10.cell? ⟨gb375, 0, none⟩ = some (.slice none 0 0) := (blk_cell BK375.out 0).trans rfl
  have hfs11 := blk_frozen BK375.out 0
  have hns11_0 := NB374_375.out
  have hms11_0 := NB375_374.out
  have hs12 : w10.cell? ⟨gb375, 1, none⟩ = some (.int .i64 0) := (blk_cell BK375.out 1).trans rfl
  have hfs12 := blk_frozen BK375.out 1
  have hns12_0 := NB374_375.out
  have hms12_0 := NB375_374.out
  have hs13 : w10.cell? ⟨gb375, 2, none⟩ = some (.int .i64 0) := (blk_cell BK375.out 2).trans rfl
  have hfs13 := blk_frozen BK375.out 2
  have hns13_0 := NB374_375.out
  have hms13_0 := NB375_374.out
  refine skip_ (w1 := ?_) (by rfl) rfl ?_ ?_
  rotate_left
  ·
   go_simp
   rfl
  refine hK.out _ _ ⟨((cell_far (p := ⟨gb375, _, none⟩) NB374_375.out _).trans (((cell_far (p := ⟨gb375, _, none⟩) NB374_375.out _).trans (((cell_far (p := ⟨gb375, _, none⟩) NB374_375.out _).trans (hHeld.1)))))), ((cell_far (p := ⟨gb375, _, none⟩) NB374_375.out _).trans (((cell_far (p := ⟨gb375, _, none⟩) NB374_375.out _).trans (((cell_far (p := ⟨gb375, _, none⟩) NB374_375.out _).trans (hHeld.2.1)))))), ((cell_far (p := ⟨gb375, _, none⟩) NB374_375.out _).trans (((cell_far (p := ⟨gb375, _, none⟩) NB374_375.out _).trans (((cell_far (p := ⟨gb375, _, none⟩) NB374_375.out _).trans (hHeld.2.2))))))⟩ (fun hHeld => ?_)
  clear hK K
  refine done_ (by kernel_rfl) ?_
  try go_wp2
  refine bodyPost_ret (results_tc rfl _ _ gb375 58 #[.slice A0_0 l0_0.length c0_0, .int .i64 a0_1, .int .i64 a0_2] (0, 0) _ rfl (by (with_reducible repeat (first | refine blk_drewN ?_ _ | refine blk_drew ?_ | refine blk_alloc ?_ _)); refine blk_put (cs := #[.slice A0_0 l0_0.length c0_0, .int .i64 a0_1, .int .i64 0]) ?_ 2 _ rfl; (with_reducible repeat (first | refine blk_drewN ?_ _ | refine blk_drew ?_ | refine blk_alloc ?_ _)); refine blk_put (cs := #[.slice A0_0 l0_0.length c0_0, .int .i64 0, .int .i64 0]) ?_ 1 _ rfl; (with_reducible repeat (first | refine blk_drewN ?_ _ | refine blk_drew ?_ | refine blk_alloc ?_ _)); refine blk_put (cs := #[.slice none 0 0, .int .i64 0, .int .i64 0]) ?_ 0 _ rfl; (with_reducible repeat (first | refine blk_drewN ?_ _ | refine blk_drew ?_ | refine blk_alloc ?_ _)); exact BK375.out) Tryd.underlying58 rfl (by kernel_rfl)) rfl ?_
  exact ⟨_, by first | rfl | (simp [errW_none, errW_some] <;> rfl) | (simp [*, errW_none, errW_some] <;> rfl), by (with_reducible repeat (first | apply Kd.V_alloc | apply Kd.V_drewN | apply Kd.V_drew)); exact Kd.V_mono (Kd.V_far (p := ⟨gb375, 2, none⟩) (Kd.V_far (p := ⟨gb375, 1, none⟩) (Kd.V_far (p := ⟨gb375, 0, none⟩) (Kd.V_mono HO0_0.out (fun k_ hk => (⟨hk, hk.1.2⟩ : _ ∧ k_ ≠ gb375))) (fun _ hk => hk.2) (.slice A0_0 l0_0.length c0_0)) (fun _ hk => hk.2) (.int .i64 a0_1)) (fun _ hk => hk.2) (.int .i64 a0_2)) (fun _ hk => hk.1.1.1.1), by repeat (first | (with_reducible first | exact HB.out | apply below_alloc | apply pw_below_drewN | apply below_drew1 | refine below_set ?_ GE374.out | refine below_set ?_ GE375.out) | exact HB.out)⟩
 ·
  rw [if_neg c5] at H
  have c5b0 : (t379 == 0) = false := beq_eq_false_iff_ne.mpr c5
  have c5b1 : (t379 != 0) = true := bne_iff_ne.mpr c5
  replace H := Option.bind_eq_some_iff.mp H
  obtain ⟨t380, A140, H⟩ := H
  replace H : (if a0_1 ≥ 0 then (if a0_1 < (l0_0.length : Int) then (if 0 ≤ a0_1 then (pick_Next.j0 k t376 (Int.tmod (wrap64 ((Int.tmod (rd l0_0 a0_1) t379) + t379)) t379) l0_0 (wrap64 (a0_1 + 1)) a0_2) else (none)) else (pick_Next.j0 k t376 (Int.tmod t380 t379) l0_0 a0_1 a0_2)) else ((pick_set_at.f k t376 (Int.tmod t380 t379)).bind fun t383 => (some (t383, l0_0, a0_1, t383)))) = some (r1, r2, r3, r4) := H
  have A14 := Aside0.mk A140
  clear A140
  by_cases c15 : a0_1 ≥ 0
  ·
   rw [if_pos c15] at H
   have c15b0 : decide (0 ≤ a0_1) = true := decide_eq_true c15
   clear c15
   have HC16 := Aside0.mk H
   clear H
   go_enter Tryd.func24, Tryd.ntmps24
   go_upto_if 32 with (first | ((with_reducible refine gate_dst (N := 2) rfl ?_); (try (refine gate_guard (by rfl) ?_; dsimp only)); refine box_event ?hg (N := 2) ?hd (cs := #[.slice A0_0 l0_0.length c0_0, .int .i64 a0_1, .int .i64 a0_2]) (t := 58) ?hr ?_; (case hd => rfl); (case hg => rfl); (case hr => first | (go_simp; done) | (go_simp; rfl)); intro gb374 hg w17 hbox hb; have n0_ := Aside0.mk (Kd.V_below (Kd.V_elderB (by (with_reducible repeat (first | apply Kd.V_alloc | apply Kd.V_drewN | apply Kd.V_drew)); exact HO0_0.out) gb374 (Nat.le_of_eq hg.symm)) hb); have n1_ := Aside0.mk (below_step (by repeat (first | (with_reducible first | exact HB.out | apply below_alloc | apply pw_below_drewN | apply below_drew1) | exact HB.out)) hb); have n2_ := Aside0.mk (hbox); have n3_ := Aside0.mk ((by rw [hg]; exact (below_size (by repeat (first | (with_reducible first | exact HB.out | apply below_alloc | apply pw_below_drewN | apply below_drew1) | exact HB.out))) : w.heap.size ≤ gb374)); have n4_ := Aside0.mk ((by rw [hg]; exact (below_size (by repeat (first | (with_reducible first | exact HB.out | apply below_alloc | apply pw_below_drewN | apply below_drew1) | exact HB.out))) : w.heap.size ≤ gb374)); clear HO0_0; clear HB; have HO0_0 := n0_; have HB := n1_; have BK374 := n2_; have GW374 := n3_; have GE374 := n4_; clear n0_ n1_ n2_ n3_ n4_; clear hb hbox hg) | ((with_reducible refine gate_dst (N := 5) rfl ?_); (try (refine gate_guard (by rfl) ?_; dsimp only)); refine box_event ?hg (N := 5) ?hd (cs := #[.slice none 0 0, .int .i64 0, .int .i64 0]) (t := 58) ?hr ?_; (case hd => rfl); (case hg => rfl); (case hr => first | (go_simp; done) | (go_simp; rfl)); intro gb375 hg w18 hbox hb; have n0_ := Aside0.mk (Kd.V_below (Kd.V_elderB (by (with_reducible repeat (first | apply Kd.V_alloc | apply Kd.V_drewN | apply Kd.V_drew)); exact HO0_0.out) gb375 (Nat.le_of_eq hg.symm)) hb); have n1_ := Aside0.mk (blk_below (g := gb374) (o := .cells #[.slice A0_0 l0_0.length c0_0, .int .i64 a0_1, .int .i64 a0_2] 58 (0, 0)) (by (with_reducible repeat (first | refine blk_drewN ?_ _ | refine blk_drew ?_ | refine blk_alloc ?_ _)); exact BK374.out) hb); have n2_ := Aside0.mk (below_step (by repeat (first | (with_reducible first | exact HB.out | apply below_alloc | apply pw_below_drewN | apply below_drew1 | refine below_set ?_ GE374.out) | exact HB.out)) hb); have n3_ := Aside0.mk (hbox); have n4_ := Aside0.mk ((by rw [hg]; exact (below_size (by repeat (first | (with_reducible first | exact HB.out | apply below_alloc | apply pw_below_drewN | apply below_drew1 | refine below_set ?_ GE374.out) | exact HB.out))) : w.heap.size ≤ gb375)); have n5_ := Aside0.mk ((by rw [hg]; exact (below_size (by repeat (first | (with_reducible first | exact HB.out | apply below_alloc | apply pw_below_drewN | apply below_drew1 | refine below_set ?_ GE374.out) | exact HB.out))) : w.heap.size ≤ gb375)); have n6_ := Aside0.mk ((by rw [hg]; exact Nat.ne_of_lt (blk_lt (g := gb374) (o := .cells #[.slice A0_0 l0_0.length c0_0, .int .i64 a0_1, .int .i64 a0_2] 58 (0, 0)) (by (with_reducible repeat (first | refine blk_drewN ?_ _ | refine blk_drew ?_ | refine blk_alloc ?_ _)); exact BK374.out)) : gb374 ≠ gb375)); have n7_ := Aside0.mk ((by rw [hg]; exact Nat.ne_of_gt (blk_lt (g := gb374) (o := .cells #[.slice A0_0 l0_0.length c0_0, .int .i64 a0_1, .int .i64 a0_2] 58 (0, 0)) (by (with_reducible repeat (first | refine blk_drewN ?_ _ | refine blk_drew ?_ | refine blk_alloc ?_ _)); exact BK374.out)) : gb375 ≠ gb374)); clear HO0_0; clear BK374; clear HB; have HO0_0 := n0_; have BK374 := n1_; have HB := n2_; have BK375 := n3_; have GW375 := n4_; have GE375 := n5_; have NB374_375 := n6_; have NB375_374 := n7_; clear n0_ n1_ n2_ n3_ n4_ n5_ n6_ n7_; clear hb hbox hg) | ((with_reducible refine gate_callee (f := 34) rfl ?_); refine goesL_ (some 10) rfl rfl Tryd.func34 (by kernel_rfl) rfl #[.slice A1 l1.length c1] rfl (by (try simp only [List.map_toArray, List.map_cons, List.map_nil]); first | done | rfl | (simp only [List.length_drop, List.length_take]; rfl)) ?_; (with_reducible refine (pick_of.calls k _ _ l1 t376 _ ?side1 ?side2 A3.out).mono ?_); (case side1 => repeat (first | exact (Kd.C_below HR1.out HB.out) | (with_reducible refine Kd.C_alloc ?_ _) | (with_reducible refine Kd.C_drewN ?_ _) | (with_reducible refine Kd.C_drew ?_))); (case side2 => exact HC1.out); rintro e w19 ⟨v377, rfl, ho0, hb⟩; refine ⟨_, rfl, ?_⟩; have n0_ := Aside0.mk (Kd.V_elder' (by (with_reducible repeat (first | apply Kd.V_alloc | apply Kd.V_drewN | apply Kd.V_drew)); exact HO0_0.out) (Kd.R_base ho0) hb); have n1_ := Aside0.mk (Kd.R_lower (Kd.R_newM (M := fun k_ => (w.heap.size ≤ k_)) ho0 (below_size (by repeat (first | (with_reducible first | exact HB.out | apply below_alloc | apply pw_below_drewN | apply below_drew1 | refine below_set ?_ GE374.out | refine below_set ?_ GE375.out) | exact HB.out))) (fun k_ h_ => h_)) (below_size (by repeat (first | (with_reducible first | exact HB.out | apply below_alloc | apply pw_below_drewN | apply below_drew1 | refine below_set ?_ GE374.out | refine below_set ?_ GE375.out) | exact HB.out)))); have n2_ := Aside0.mk (blk_below (g := gb374) (o := .cells #[.slice A0_0 l0_0.length c0_0, .int .i64 a0_1, .int .i64 a0_2] 58 (0, 0)) (by (with_reducible repeat (first | refine blk_drewN ?_ _ | refine blk_drew ?_ | refine blk_alloc ?_ _)); exact BK374.out) hb); have n3_ := Aside0.mk (blk_below (g := gb375) (o := .cells #[.slice none 0 0, .int .i64 0, .int .i64 0] 58 (0, 0)) (by (with_reducible repeat (first | refine blk_drewN ?_ _ | refine blk_drew ?_ | refine blk_alloc ?_ _)); exact BK375.out) hb); have n4_ := Aside0.mk (below_step (by repeat (first | (with_reducible first | exact HB.out | apply below_alloc | apply pw_below_drewN | apply below_drew1 | refine below_set ?_ GE374.out | refine below_set ?_ GE375.out) | exact HB.out)) hb); clear HO0_0; clear BK374; clear BK375; clear HB; have HO0_0 := n0_; have HO378 := n1_; have BK374 := n2_; have BK375 := n3_; have HB := n4_; clear n0_ n1_ n2_ n3_ n4_; (try clear hb); (try clear hb2); (try clear hk); (try clear hi); (try clear ho0); obtain ⟨Ao20, co20, eo20⟩ := Kd.R_slice HO378.out; subst eo20) | ((with_reducible refine gate_callee (f := 35) rfl ?_); refine goesL_ (some 12) rfl rfl Tryd.func35 (by kernel_rfl) rfl #[.slice Ao20 t376.length co20] rfl (by (try simp only [List.map_toArray, List.map_cons, List.map_nil]); first | done | rfl | (simp only [List.length_drop, List.length_take]; rfl)) ?_; (with_reducible refine (pick_set_count.calls k _ _ t376 t379 _ ?side1 ?side2 A4.out).mono ?_); (case side1 => repeat (first | exact (Kd.R_reads' HO378.out).2.2 | (with_reducible refine Kd.C_alloc ?_ _) | (with_reducible refine Kd.C_drewN ?_ _) | (with_reducible refine Kd.C_drew ?_))); (case side2 => exact (Kd.R_reads' HO378.out).2.1); rintro e w' ⟨rfl, ⟨nd, rfl⟩⟩; refine ⟨_, rfl, ?_⟩; have hnb21 := NB374_375.out; have hnc21 := NB375_374.out; have hcz22_0 : w19.cell? ⟨gb374, 0, none⟩ = some (.slice A0_0 l0_0.length c0_0) := (blk_cell BK374.out 0).trans rfl; have hcz22_1 : w19.cell? ⟨gb374, 1, none⟩ = some (.int .i64 a0_1) := (blk_cell BK374.out 1).trans rfl; have hcz22_2 : w19.cell? ⟨gb374, 2, none⟩ = some (.int .i64 a0_2) := (blk_cell BK374.out 2).trans rfl; have hfz22_0 := blk_frozen BK374.out 0; have hfz22_1 := blk_frozen BK374.out 1; have hfz22_2 := blk_frozen BK374.out 2) | ((with_reducible refine gate_callee (f := 36) rfl ?_); refine goesL_ (some 19) rfl rfl Tryd.func36 (by kernel_rfl) rfl #[.slice Ao20 t376.length co20, .int .i64 a0_2] rfl (by (try simp only [List.map_toArray, List.map_cons, List.map_nil]); first | done | rfl | (simp only [List.length_drop, List.length_take]; rfl)) ?_; (with_reducible refine (pick_set_below.calls k _ _ t376 a0_2 t380 _ ?side1 ?side2 A14.out).mono ?_); (case side1 => repeat (first | exact (Kd.R_reads' HO378.out).2.2 | (with_reducible refine Kd.C_alloc ?_ _) | (with_reducible refine Kd.C_drewN ?_ _) | (with_reducible refine Kd.C_drew ?_))); (case side2 => exact (Kd.R_reads' HO378.out).2.1); rintro e w' ⟨rfl, ⟨nd, rfl⟩⟩; refine ⟨_, rfl, ?_⟩))
   (try simp only [Act.put, List.setIfInBounds_toArray, List.set_cons_zero, List.set_cons_succ])
   go_cut [8] (fun v8 wc => ∃ (kq : Nat) (x8_15 : Int) (x375001_15 : Int), v8 = .int .i64 x8_15 ∧ Aside0 (pick_Next.j0 kq t376 x8_15 l0_0 x375001_15 a0_2 = some (r1, r2, r3, r4)) ∧ Aside0 (kq ≤ k) ∧ Aside0 (Kd.R (Kd.int .u64) 61 wc w.heap.size (fun k_ => (w.heap.size ≤ k_)) (.slice Ao20 t376.length co20) t376) ∧ Aside0 (Kd.V (Kd.int .i64) 3 wc w.heap.size (fun k_ => (P0_0_ k_ ∨ w.heap.size ≤ k_) ∧ some k_ ≠ ((.slice Ao20 t376.length co20) : Value).ownBlock ∧ k_ ≠ gb374 ∧ k_ ≠ gb375) (.slice A0_0 l0_0.length c0_0) l0_0) ∧ Aside0 (wc.heap[gb374]? = some (.cells #[(.slice A0_0 l0_0.length c0_0), .int .i64 x375001_15, .int .i64 a0_2] 58 (0, 0))) ∧ Aside0 (wc.heap[gb375]? = some (.cells #[(.slice none 0 0), .int .i64 0, .int .i64 0] 58 (0, 0))) ∧ Aside0 (Below w.heap.size w wc))
   case first =>
    have H := HC16.out
    clear HC16
    by_cases c23 : a0_1 < (l0_0.length : Int)
    ·
     rw [if_pos c23] at H
     have c23b0 : decide (a0_1 < (l0_0.length : Int)) = true := decide_eq_true c23
     clear c23
     (first | rw [c23b0] | (simp only [i64_w, i32_w]; rw [c23b0]) | skip)
     by_cases c24 : 0 ≤ a0_1
     ·
      rw [if_pos c24] at H
      have c24b0 : decide (0 ≤ a0_1) = true := decide_eq_true c24
      clear c24
      have H' := Aside0.mk H
      clear H
      have hnb25 := NB374_375.out
      have hnc25 := NB375_374.out
      have hcz26_0 : w19.cell? ⟨gb374, 0, none⟩ = some (.slice A0_0 l0_0.length c0_0) := (blk_cell BK374.out 0).trans rfl
      have hcz26_1 : w19.cell? ⟨gb374, 1, none⟩ = some (.int .i64 a0_1) := (blk_cell BK374.out 1).trans rfl
      have hcz26_2 : w19.cell? ⟨gb374, 2, none⟩ = some (.int .i64 a0_2) := (blk_cell BK374.out 2).trans rfl
      have hfz26_0 := blk_frozen BK374.out 0
      have hfz26_1 := blk_frozen BK374.out 1
      have hfz26_2 := blk_frozen BK374.out 2
      have p381 : 0 ≤ (a0_1 : Int) := of_decide_eq_true (by first | (with_reducible assumption) | assumption)
      have q381 : a0_1 < (l0_0.length : Int) := of_decide_eq_true (by first | (with_reducible assumption) | assumption)
      obtain ⟨ad381, e381, hx381_0⟩ := Kd.at_int (Kd.V_reads' HO0_0.out).2.2 a0_1 p381 q381
      cases e381
      replace p381 := eq_true p381
      replace q381 := eq_true q381
      go_wp2
      go_meet
      case rel => exact ⟨_, (Int.tmod (wrap64 ((Int.tmod (rd l0_0 a0_1) t379) + t379)) t379), (wrap64 (a0_1 + 1)), (by first | rfl | (simp; done) | (simp [*]; done)), H', ⟨by first | omega | exact Nat.le_refl _⟩, ⟨by (with_reducible repeat (first | apply Kd.R_alloc | apply Kd.R_drewN | apply Kd.R_drew)); exact Kd.R_mono (Kd.R_far (p := ⟨gb374, 1, none⟩) (Kd.R_types HO378.out BK374.out (by decide)) (fun _ hk => hk.2) (.int .i64 (wrap64 (a0_1 + 1)))) (fun _ hk => hk.1.1)⟩, ⟨by (with_reducible repeat (first | apply Kd.V_alloc | apply Kd.V_drewN | apply Kd.V_drew)); exact Kd.V_mono (Kd.V_far (p := ⟨gb374, 1, none⟩) (Kd.V_mono HO0_0.out (fun k_ hk => (⟨hk, hk.1.1.2⟩ : _ ∧ k_ ≠ gb374))) (fun _ hk => hk.2) (.int .i64 (wrap64 (a0_1 + 1)))) (fun _ hk => ⟨hk.1.1.1.1, ⟨hk.1.2, ⟨hk.1.1.1.2, hk.1.1.2⟩⟩⟩)⟩, ⟨by (with_reducible repeat (first | refine blk_drewN ?_ _ | refine blk_drew ?_ | refine blk_alloc ?_ _)); refine blk_put (cs := #[.slice (some ad381) l0_0.length c0_0, .int .i64 a0_1, .int .i64 a0_2]) ?_ 1 _ rfl; (with_reducible repeat (first | refine blk_drewN ?_ _ | refine blk_drew ?_ | refine blk_alloc ?_ _)); exact BK374.out⟩, ⟨by (with_reducible repeat (first | refine blk_drewN ?_ _ | refine blk_drew ?_ | refine blk_alloc ?_ _)); refine blk_far ?_ NB375_374.out _; (with_reducible repeat (first | refine blk_drewN ?_ _ | refine blk_drew ?_ | refine blk_alloc ?_ _)); exact BK375.out⟩, ⟨by repeat (first | (with_reducible first | exact HB.out | apply below_alloc | apply pw_below_drewN | apply below_drew1 | refine below_set ?_ GE374.out | refine below_set ?_ GE375.out) | exact HB.out)⟩⟩
     ·
      rw [if_neg c24] at H
      exact absurd H (by simp)
    ·
     rw [if_neg c23] at H
     have c23b0 : decide (a0_1 < (l0_0.length : Int)) = false := decide_eq_false c23
     clear c23
     (first | rw [c23b0] | (simp only [i64_w, i32_w]; rw [c23b0]) | skip)
     have H' := Aside0.mk H
     clear H
     go_wp2
     go_meet
     case rel => exact ⟨_, (Int.tmod t380 t379), (a0_1), (by first | rfl | (simp; done) | (simp [*]; done)), H', ⟨by first | omega | exact Nat.le_refl _⟩, ⟨by (with_reducible repeat (first | apply Kd.R_alloc | apply Kd.R_drewN | apply Kd.R_drew)); exact Kd.R_mono HO378.out (fun _ hk => hk.1)⟩, ⟨by (with_reducible repeat (first | apply Kd.V_alloc | apply Kd.V_drewN | apply Kd.V_drew)); exact Kd.V_mono HO0_0.out (fun _ hk => ⟨hk.1.1.1, ⟨hk.2, ⟨hk.1.1.2, hk.1.2⟩⟩⟩)⟩, ⟨by (with_reducible repeat (first | refine blk_drewN ?_ _ | refine blk_drew ?_ | refine blk_alloc ?_ _)); exact BK374.out⟩, ⟨by (with_reducible repeat (first | refine blk_drewN ?_ _ | refine blk_drew ?_ | refine blk_alloc ?_ _)); exact BK375.out⟩, ⟨by repeat (first | (with_reducible first | exact HB.out | apply below_alloc | apply pw_below_drewN | apply below_drew1 | refine below_set ?_ GE374.out | refine below_set ?_ GE375.out) | exact HB.out)⟩⟩
   case rest =>
    clear HC16
    (try clear c1); (try clear c2); (try clear p2); (try clear c3); (try clear p3); (try clear q3); (try clear hx3); (try clear c5); (try clear c5b0); (try clear c5b1); (try clear p6); (try clear c15); (try clear c15b0); (try clear c21); (try clear c23); (try clear c23b0); (try clear c24); (try clear c24b0); (try clear c25); (try clear hcz22_0); (try clear hcz22_1); (try clear hcz22_2); (try clear hcz26_0); (try clear hcz26_1); (try clear hcz26_2); (try clear hfz22_0); (try clear hfz22_1); (try clear hfz22_2); (try clear hfz26_0); (try clear hfz26_1); (try clear hfz26_2); (try clear hx381_0); (try clear p381); (try clear q381)
    obtain ⟨kq, x8_15, x375001_15, rfl, HA, HJ15, HO_6, HO_375000, BK374, BK375, HB⟩ := hcut
    cases kq with
    | zero => exact absurd HA.out (by simp [pick_Next.j0])
    | succ kj15 =>
     have H := HA.out
     clear HA
     simp only [pick_Next.j0] at H
     replace H := Option.bind_eq_some_iff.mp H
     obtain ⟨t382, A270, H⟩ := H
     replace H : (some (t382, l0_0, x375001_15, t382)) = some (r1, r2, r3, r4) := H
     have A27 := Aside0.mk A270
     clear A270
     simp only [Option.some.injEq, Prod.mk.injEq] at H
     obtain ⟨rfl, rfl, rfl, rfl⟩ := H
     try go_wp2_with (first | ((with_reducible refine gate_callee (f := 37) rfl ?_); refine goesL_ (some 51) rfl rfl Tryd.func37 (by kernel_rfl) rfl #[.slice Ao20 t376.length co20, .int .i64 x8_15] rfl (by (try simp only [List.map_toArray, List.map_cons, List.map_nil]); first | done | rfl | (simp only [List.length_drop, List.length_take]; rfl)) ?_; (with_reducible refine (pick_set_at.calls kj15 _ _ t376 x8_15 t382 _ ?side1 ?side2 A27.out).mono ?_); (case side1 => repeat (first | exact (Kd.R_reads' HO_6.out).2.2 | (with_reducible refine Kd.C_alloc ?_ _) | (with_reducible refine Kd.C_drewN ?_ _) | (with_reducible refine Kd.C_drew ?_))); (case side2 => exact (Kd.R_reads' HO_6.out).2.1); rintro e w' ⟨rfl, ⟨nd, rfl⟩⟩; refine ⟨_, rfl, ?_⟩; (try (rw [drewN_self wc]; generalize hq_ : World.drewN wc _ = wc; have n0_ : Aside0 (Kd.V (Kd.int .i64) 3 wc w.heap.size (fun k_ => (((P0_0_ k_ ∨ w.heap.size ≤ k_)) ∧ (some k_ ≠ (.slice Ao20 t376.length co20 : Value).ownBlock ∧ (k_ ≠ gb374 ∧ k_ ≠ gb375)))) (.slice A0_0 l0_0.length c0_0) l0_0) := ⟨by rw [← hq_]; exact (by (with_reducible repeat (first | apply Kd.V_alloc | apply Kd.V_drewN | apply Kd.V_drew)); exact HO_375000.out)⟩; have n1_ : Aside0 (Kd.R (Kd.int .u64) 61 wc w.heap.size (fun k_ => ((w.heap.size ≤ k_))) (.slice Ao20 t376.length co20) t376) := ⟨by rw [← hq_]; exact (by (with_reducible repeat (first | apply Kd.R_alloc | apply Kd.R_drewN | apply Kd.R_drew)); exact HO_6.out)⟩; have n2_ : Aside0 (wc.heap[gb374]? = some (.cells #[.slice A0_0 l0_0.length c0_0, .int .i64 x375001_15, .int .i64 a0_2] 58 (0, 0))) := ⟨by rw [← hq_]; exact (by (with_reducible repeat (first | refine blk_drewN ?_ _ | refine blk_drew ?_ | refine blk_alloc ?_ _)); exact BK374.out)⟩; have n3_ : Aside0 (wc.heap[gb375]? = some (.cells #[.slice none 0 0, .int .i64 0, .int .i64 0] 58 (0, 0))) := ⟨by rw [← hq_]; exact (by (with_reducible repeat (first | refine blk_drewN ?_ _ | refine blk_drew ?_ | refine blk_alloc ?_ _)); exact BK375.out)⟩; have n4_ : Aside0 (Below w.heap.size w wc) := ⟨by rw [← hq_]; exact (by repeat (first | (with_reducible first | exact HB.out | apply below_alloc | apply pw_below_drewN | apply below_drew1 | refine below_set ?_ GE374.out | refine below_set ?_ GE375.out) | exact HB.out))⟩; clear HO_375000 HO_6 BK374 BK375 HB hq_; have HO_375000 := n0_; have HO_6 := n1_; have BK374 := n2_; have BK375 := n3_; have HB := n4_; clear n0_ n1_ n2_ n3_ n4_)); have hnb28 := NB374_375.out; have hnc28 := NB375_374.out; have hcz29_0 : wc.cell? ⟨gb374, 0, none⟩ = some (.slice A0_0 l0_0.length c0_0) := (blk_cell BK374.out 0).trans rfl; have hcz29_1 : wc.cell? ⟨gb374, 1, none⟩ = some (.int .i64 x375001_15) := (blk_cell BK374.out 1).trans rfl; have hcz29_2 : wc.cell? ⟨gb374, 2, none⟩ = some (.int .i64 a0_2) := (blk_cell BK374.out 2).trans rfl; have hfz29_0 := blk_frozen BK374.out 0; have hfz29_1 := blk_frozen BK374.out 1; have hfz29_2 := blk_frozen BK374.out 2))
     have n0_ : Aside0 (Kd.R (Kd.int .u64) 61 (wc.setCell ⟨gb374, 2, none⟩ (.int .i64 t382)) w.heap.size (fun k_ => (w.heap.size ≤ k_)) (.slice Ao20 t376.length co20) t376) := ⟨by (with_reducible repeat (first | apply Kd.R_alloc | apply Kd.R_drewN | apply Kd.R_drew)); exact Kd.R_mono (Kd.R_far (p := ⟨gb374, 2, none⟩) (Kd.R_types HO_6.out BK374.out (by decide)) (fun _ hk => hk.2) (.int .i64 t382)) (fun _ hk => hk.1)⟩
     have n1_ : Aside0 (Kd.V (Kd.int .i64) 3 (wc.setCell ⟨gb374, 2, none⟩ (.int .i64 t382)) w.heap.size (fun k_ => (P0_0_ k_ ∨ w.heap.size ≤ k_) ∧ some k_ ≠ (.slice Ao20 t376.length co20 : Value).ownBlock ∧ k_ ≠ gb374 ∧ k_ ≠ gb375) (.slice A0_0 l0_0.length c0_0) l0_0) := ⟨by (with_reducible repeat (first | apply Kd.V_alloc | apply Kd.V_drewN | apply Kd.V_drew)); exact Kd.V_mono (Kd.V_far (p := ⟨gb374, 2, none⟩) (Kd.V_mono HO_375000.out (fun k_ hk => (⟨hk, hk.2.2.1⟩ : _ ∧ k_ ≠ gb374))) (fun _ hk => hk.2) (.int .i64 t382)) (fun _ hk => ⟨hk.1.1, ⟨hk.1.2.1, ⟨hk.1.2.2.1, hk.1.2.2.2⟩⟩⟩)⟩
     have n2_ : Aside0 ((wc.setCell ⟨gb374, 2, none⟩ (.int .i64 t382)).heap[gb374]? = some (.cells #[.slice A0_0 l0_0.length c0_0, .int .i64 x375001_15, .int .i64 t382] 58 (0, 0))) := ⟨by (with_reducible repeat (first | refine blk_drewN ?_ _ | refine blk_drew ?_ | refine blk_alloc ?_ _)); refine blk_put (cs := #[.slice A0_0 l0_0.length c0_0, .int .i64 x375001_15, .int .i64 a0_2]) ?_ 2 _ rfl; (with_reducible repeat (first | refine blk_drewN ?_ _ | refine blk_drew ?_ | refine blk_alloc ?_ _)); exact BK374.out⟩
     have n3_ : Aside0 ((wc.setCell ⟨gb374, 2, none⟩ (.int .i64 t382)).heap[gb375]? = some (.cells #[.slice none 0 0, .int .i64 0, .int .i64 0] 58 (0, 0))) := ⟨by (with_reducible repeat (first | refine blk_drewN ?_ _ | refine blk_drew ?_ | refine blk_alloc ?_ _)); refine blk_far ?_ NB375_374.out _; (with_reducible repeat (first | refine blk_drewN ?_ _ | refine blk_drew ?_ | refine blk_alloc ?_ _)); exact BK375.out⟩
     have n4_ : Aside0 (Below w.heap.size w (wc.setCell ⟨gb374, 2, none⟩ (.int .i64 t382))) := ⟨by repeat (first | (with_reducible first | exact HB.out | apply below_alloc | apply pw_below_drewN | apply below_drew1 | refine below_set ?_ GE374.out | refine below_set ?_ GE375.out) | exact HB.out)⟩
     (try clear HO_6)
     (try clear HO_375000)
     (try clear BK374)
     (try clear BK375)
     (try clear HB)
     generalize (wc.setCell ⟨gb374, 2, none⟩ (.int .i64 t382)) = w30 at n0_ n1_ n2_ n3_ n4_ ⊢
     have HO_6 := n0_
     have HO_375000 := n1_
     have BK374 := n2_
     have BK375 := n3_
     have HB := n4_
     clear n0_ n1_ n2_ n3_ n4_
     have n0_ := Aside0.mk (Kd.R_drew HO_6.out)
     have n1_ := Aside0.mk (Kd.V_drew HO_375000.out)
     have n2_ := Aside0.mk (blk_drew BK374.out)
     have n3_ := Aside0.mk (blk_drew BK375.out)
     have n4_ := Aside0.mk (below_drew1 HB.out)
     clear HO_6
     clear HO_375000
     clear BK374
     clear BK375
     clear HB
     have HO_6 := n0_
     have HO_375000 := n1_
     have BK374 := n2_
     have BK375 := n3_
     have HB := n4_
     clear n0_ n1_ n2_ n3_ n4_
     refine start_ (n := 5) (S := fun w' => w'.cell? ⟨gb374, 0, none⟩ = some (.slice A0_0 l0_0.length c0_0) ∧ w'.cell? ⟨gb374, 1, none⟩ = some (.int .i64 x375001_15) ∧ w'.cell? ⟨gb374, 2, none⟩ = some (.int .i64 t382)) (ds := []) #[false, false, false, false, false] (by kernel_rfl) rfl rfl ⟨(blk_cell BK374.out 0).trans rfl, (blk_cell BK374.out 1).trans rfl, (blk_cell BK374.out 2).trans rfl⟩ (fun hHeld => ?_)
     generalize w30.drew = w31 at HO_6 HO_375000 BK374 BK375 HB hHeld ⊢
     refine pure_ (i := 0) (N := some 53) (v := ?_) (a' := ?_) #[true, false, false, false, false] rfl rfl (by kernel_rfl) (fun _ _ _ h => h) (Or.inl ⟨by rfl, ?_⟩) ?_ ?_
     rotate_left
     ·
      intro w'
      go_simp
      with_reducible rfl
     rotate_left
     ·
      simp only [Act.put, List.setIfInBounds_toArray, List.set_cons_zero, List.set_cons_succ, i64_w, i32_w]
      rfl
     refine take_ (i := 1) (N := some 54) (v := ?_) (a' := ?_) #[true, true, false, false, false] rfl rfl (by kernel_rfl) (fun _ _ _ h => h) (Or.inl ⟨by rfl, ?_⟩) hHeld ?_ ?_
     rotate_left
     ·
      rintro w' ⟨s0, s1, s2⟩
      go_simp
      with_reducible rfl
     rotate_left
     ·
      simp only [Act.put, List.setIfInBounds_toArray, List.set_cons_zero, List.set_cons_succ, i64_w, i32_w]
      rfl
     refine pure_ (i := 3) (N := some 4) (v := ?_) (a' := ?_) #[true, true, false, true, false] rfl rfl (by kernel_rfl) (fun _ _ _ h => h) (Or.inl ⟨by rfl, ?_⟩) ?_ ?_
     rotate_left
     ·
      intro w'
      go_simp
      with_reducible rfl
     rotate_left
     ·
      simp only [Act.put, List.setIfInBounds_toArray, List.set_cons_zero, List.set_cons_succ, i64_w, i32_w]
      rfl
     refine take_ (i := 2) (N := some 55) (v := ?_) (a' := ?_) #[true, true, true, true, false] rfl rfl (by kernel_rfl) (fun _ _ _ h => h) (Or.inl ⟨by rfl, ?_⟩) hHeld ?_ ?_
     rotate_left
     ·
      rintro w' ⟨s0, s1, s2⟩
      go_simp
      with_reducible rfl
     rotate_left
     ·
      simp only [Act.put, List.setIfInBounds_toArray, List.set_cons_zero, List.set_cons_succ, i64_w, i32_w]
      rfl
     refine one_ (i := 4) (N := none) #[true, true, true, true, true] rfl rfl (by kernel_rfl) (by decide) (fun K hK => ?_)
     have hs32 : w31.cell? ⟨gb375, 0, none⟩ = some (.slice none 0 0) := (blk_cell BK375.out 0).trans rfl
     have hfs32 := blk_frozen BK375.out 0
     have hns32_0 := NB374_375.out
     have hms32_0 := NB375_374.out
     have hs33 : w31.cell? ⟨gb375, 1, none⟩ = some (.int .i64 0) := (blk_cell BK375.out 1).trans rfl
     have hfs33 := blk_frozen BK375.out 1
     have hns33_0 := NB374_375.out
     have hms33_0 := NB375_374.out
     have hs34 : w31.cell? ⟨gb375, 2, none⟩ = some (.int .i64 0) := (blk_cell BK375.out 2).trans rfl
     have hfs34 := blk_frozen BK375.out 2
     have hns34_0 := NB374_375.out
     have hms34_0 := NB375_374.out
     refine skip_ (w1 := ?_) (by rfl) rfl ?_ ?_
     rotate_left
     ·
      go_simp
      rfl
     refine hK.out _ _ ⟨((cell_far (p := ⟨gb375, _, none⟩) NB374_375.out _).trans (((cell_far (p := ⟨gb375, _, none⟩) NB374_375.out _).trans (((cell_far (p := ⟨gb375, _, none⟩) NB374_375.out _).trans (hHeld.1)))))), ((cell_far (p := ⟨gb375, _, none⟩) NB374_375.out _).trans (((cell_far (p := ⟨gb375, _, none⟩) NB374_375.out _).trans (((cell_far (p := ⟨gb375, _, none⟩) NB374_375.out _).trans (hHeld.2.1)))))), ((cell_far (p := ⟨gb375, _, none⟩) NB374_375.out _).trans (((cell_far (p := ⟨gb375, _, none⟩) NB374_375.out _).trans (((cell_far (p := ⟨gb375, _, none⟩) NB374_375.out _).trans (hHeld.2.2))))))⟩ (fun hHeld => ?_)
     clear hK K
     refine done_ (by kernel_rfl) ?_
     try go_wp2
     refine bodyPost_ret (results_tc rfl _ _ gb375 58 #[.slice A0_0 l0_0.length c0_0, .int .i64 x375001_15, .int .i64 t382] (0, 0) _ rfl (by (with_reducible repeat (first | refine blk_drewN ?_ _ | refine blk_drew ?_ | refine blk_alloc ?_ _)); refine blk_put (cs := #[.slice A0_0 l0_0.length c0_0, .int .i64 x375001_15, .int .i64 0]) ?_ 2 _ rfl; (with_reducible repeat (first | refine blk_drewN ?_ _ | refine blk_drew ?_ | refine blk_alloc ?_ _)); refine blk_put (cs := #[.slice A0_0 l0_0.length c0_0, .int .i64 0, .int .i64 0]) ?_ 1 _ rfl; (with_reducible repeat (first | refine blk_drewN ?_ _ | refine blk_drew ?_ | refine blk_alloc ?_ _)); refine blk_put (cs := #[.slice none 0 0, .int .i64 0, .int .i64 0]) ?_ 0 _ rfl; (with_reducible repeat (first | refine blk_drewN ?_ _ | refine blk_drew ?_ | refine blk_alloc ?_ _)); exact BK375.out) Tryd.underlying58 rfl (by kernel_rfl)) rfl ?_
     exact ⟨_, by first | rfl | (simp [errW_none, errW_some] <;> rfl) | (simp [*, errW_none, errW_some] <;> rfl), by (with_reducible repeat (first | apply Kd.V_alloc | apply Kd.V_drewN | apply Kd.V_drew)); exact Kd.V_mono (Kd.V_far (p := ⟨gb375, 2, none⟩) (Kd.V_far (p := ⟨gb375, 1, none⟩) (Kd.V_far (p := ⟨gb375, 0, none⟩) (Kd.V_mono HO_375000.out (fun k_ hk => (⟨hk, hk.2.2.2⟩ : _ ∧ k_ ≠ gb375))) (fun _ hk => hk.2) (.slice A0_0 l0_0.length c0_0)) (fun _ hk => hk.2) (.int .i64 x375001_15)) (fun _ hk => hk.2) (.int .i64 t382)) (fun _ hk => hk.1.1), by repeat (first | (with_reducible first | exact HB.out | apply below_alloc | apply pw_below_drewN | apply below_drew1 | refine below_set ?_ GE374.out | refine below_set ?_ GE375.out) | exact HB.out)⟩
  ·
   rw [if_neg c15] at H
   have c15b0 : decide (0 ≤ a0_1) = false := decide_eq_false c15
   clear c15
   replace H := Option.bind_eq_some_iff.mp H
   obtain ⟨t383, A350, H⟩ := H
   replace H : (some (t383, l0_0, a0_1, t383)) = some (r1, r2, r3, r4) := H
   have A35 := Aside0.mk A350
   clear A350
   simp only [Option.some.injEq, Prod.mk.injEq] at H
   obtain ⟨rfl, rfl, rfl, rfl⟩ := H
   go_enter Tryd.func24, Tryd.ntmps24
   try go_wp2_with (first | ((with_reducible refine gate_dst (N := 2) rfl ?_); (try (refine gate_guard (by rfl) ?_; dsimp only)); refine box_event ?hg (N := 2) ?hd (cs := #[.slice A0_0 l0_0.length c0_0, .int .i64 a0_1, .int .i64 a0_2]) (t := 58) ?hr ?_; (case hd => rfl); (case hg => rfl); (case hr => first | (go_simp; done) | (go_simp; rfl)); intro gb374 hg w36 hbox hb; have n0_ := Aside0.mk (Kd.V_below (Kd.V_elderB (by (with_reducible repeat (first | apply Kd.V_alloc | apply Kd.V_drewN | apply Kd.V_drew)); exact HO0_0.out) gb374 (Nat.le_of_eq hg.symm)) hb); have n1_ := Aside0.mk (below_step (by repeat (first | (with_reducible first | exact HB.out | apply below_alloc | apply pw_below_drewN | apply below_drew1) | exact HB.out)) hb); have n2_ := Aside0.mk (hbox); have n3_ := Aside0.mk ((by rw [hg]; exact (below_size (by repeat (first | (with_reducible first | exact HB.out | apply below_alloc | apply pw_below_drewN | apply below_drew1) | exact HB.out))) : w.heap.size ≤ gb374)); have n4_ := Aside0.mk ((by rw [hg]; exact (below_size (by repeat (first | (with_reducible first | exact HB.out | apply below_alloc | apply pw_below_drewN | apply below_drew1) | exact HB.out))) : w.heap.size ≤ gb374)); clear HO0_0; clear HB; have HO0_0 := n0_; have HB := n1_; have BK374 := n2_; have GW374 := n3_; have GE374 := n4_; clear n0_ n1_ n2_ n3_ n4_; clear hb hbox hg) | ((with_reducible refine gate_dst (N := 5) rfl ?_); (try (refine gate_guard (by rfl) ?_; dsimp only)); refine box_event ?hg (N := 5) ?hd (cs := #[.slice none 0 0, .int .i64 0, .int .i64 0]) (t := 58) ?hr ?_; (case hd => rfl); (case hg => rfl); (case hr => first | (go_simp; done) | (go_simp; rfl)); intro gb375 hg w37 hbox hb; have n0_ := Aside0.mk (Kd.V_below (Kd.V_elderB (by (with_reducible repeat (first | apply Kd.V_alloc | apply Kd.V_drewN | apply Kd.V_drew)); exact HO0_0.out) gb375 (Nat.le_of_eq hg.symm)) hb); have n1_ := Aside0.mk (blk_below (g := gb374) (o := .cells #[.slice A0_0 l0_0.length c0_0, .int .i64 a0_1, .int .i64 a0_2] 58 (0, 0)) (by (with_reducible repeat (first | refine blk_drewN ?_ _ | refine blk_drew ?_ | refine blk_alloc ?_ _)); exact BK374.out) hb); have n2_ := Aside0.mk (below_step (by repeat (first | (with_reducible first | exact HB.out | apply below_alloc | apply pw_below_drewN | apply below_drew1 | refine below_set ?_ GE374.out) | exact HB.out)) hb); have n3_ := Aside0.mk (hbox); have n4_ := Aside0.mk ((by rw [hg]; exact (below_size (by repeat (first | (with_reducible first | exact HB.out | apply below_alloc | apply pw_below_drewN | apply below_drew1 | refine below_set ?_ GE374.out) | exact HB.out))) : w.heap.size ≤ gb375)); have n5_ := Aside0.mk ((by rw [hg]; exact (below_size (by repeat (first | (with_reducible first | exact HB.out | apply below_alloc | apply pw_below_drewN | apply below_drew1 | refine below_set ?_ GE374.out) | exact HB.out))) : w.heap.size ≤ gb375)); have n6_ := Aside0.mk ((by rw [hg]; exact Nat.ne_of_lt (blk_lt (g := gb374) (o := .cells #[.slice A0_0 l0_0.length c0_0, .int .i64 a0_1, .int .i64 a0_2] 58 (0, 0)) (by (with_reducible repeat (first | refine blk_drewN ?_ _ | refine blk_drew ?_ | refine blk_alloc ?_ _)); exact BK374.out)) : gb374 ≠ gb375)); have n7_ := Aside0.mk ((by rw [hg]; exact Nat.ne_of_gt (blk_lt (g := gb374) (o := .cells #[.slice A0_0 l0_0.length c0_0, .int .i64 a0_1, .int .i64 a0_2] 58 (0, 0)) (by (with_reducible repeat (first | refine blk_drewN ?_ _ | refine blk_drew ?_ | refine blk_alloc ?_ _)); exact BK374.out)) : gb375 ≠ gb374)); clear HO0_0; clear BK374; clear HB; have HO0_0 := n0_; have BK374 := n1_; have HB := n2_; have BK375 := n3_; have GW375 := n4_; have GE375 := n5_; have NB374_375 := n6_; have NB375_374 := n7_; clear n0_ n1_ n2_ n3_ n4_ n5_ n6_ n7_; clear hb hbox hg) | ((with_reducible refine gate_callee (f := 34) rfl ?_); refine goesL_ (some 10) rfl rfl Tryd.func34 (by kernel_rfl) rfl #[.slice A1 l1.length c1] rfl (by (try simp only [List.map_toArray, List.map_cons, List.map_nil]); first | done | rfl | (simp only [List.length_drop, List.length_take]; rfl)) ?_; (with_reducible refine (pick_of.calls k _ _ l1 t376 _ ?side1 ?side2 A3.out).mono ?_); (case side1 => repeat (first | exact (Kd.C_below HR1.out HB.out) | (with_reducible refine Kd.C_alloc ?_ _) | (with_reducible refine Kd.C_drewN ?_ _) | (with_reducible refine Kd.C_drew ?_))); (case side2 => exact HC1.out); rintro e w38 ⟨v377, rfl, ho0, hb⟩; refine ⟨_, rfl, ?_⟩; have n0_ := Aside0.mk (Kd.V_elder' (by (with_reducible repeat (first | apply Kd.V_alloc | apply Kd.V_drewN | apply Kd.V_drew)); exact HO0_0.out) (Kd.R_base ho0) hb); have n1_ := Aside0.mk (Kd.R_lower (Kd.R_newM (M := fun k_ => (w.heap.size ≤ k_)) ho0 (below_size (by repeat (first | (with_reducible first | exact HB.out | apply below_alloc | apply pw_below_drewN | apply below_drew1 | refine below_set ?_ GE374.out | refine below_set ?_ GE375.out) | exact HB.out))) (fun k_ h_ => h_)) (below_size (by repeat (first | (with_reducible first | exact HB.out | apply below_alloc | apply pw_below_drewN | apply below_drew1 | refine below_set ?_ GE374.out | refine below_set ?_ GE375.out) | exact HB.out)))); have n2_ := Aside0.mk (blk_below (g := gb374) (o := .cells #[.slice A0_0 l0_0.length c0_0, .int .i64 a0_1, .int .i64 a0_2] 58 (0, 0)) (by (with_reducible repeat (first | refine blk_drewN ?_ _ | refine blk_drew ?_ | refine blk_alloc ?_ _)); exact BK374.out) hb); have n3_ := Aside0.mk (blk_below (g := gb375) (o := .cells #[.slice none 0 0, .int .i64 0, .int .i64 0] 58 (0, 0)) (by (with_reducible repeat (first | refine blk_drewN ?_ _ | refine blk_drew ?_ | refine blk_alloc ?_ _)); exact BK375.out) hb); have n4_ := Aside0.mk (below_step (by repeat (first | (with_reducible first | exact HB.out | apply below_alloc | apply pw_below_drewN | apply below_drew1 | refine below_set ?_ GE374.out | refine below_set ?_ GE375.out) | exact HB.out)) hb); clear HO0_0; clear BK374; clear BK375; clear HB; have HO0_0 := n0_; have HO378 := n1_; have BK374 := n2_; have BK375 := n3_; have HB := n4_; clear n0_ n1_ n2_ n3_ n4_; (try clear hb); (try clear hb2); (try clear hk); (try clear hi); (try clear ho0); obtain ⟨Ao39, co39, eo39⟩ := Kd.R_slice HO378.out; subst eo39) | ((with_reducible refine gate_callee (f := 35) rfl ?_); refine goesL_ (some 12) rfl rfl Tryd.func35 (by kernel_rfl) rfl #[.slice Ao39 t376.length co39] rfl (by (try simp only [List.map_toArray, List.map_cons, List.map_nil]); first | done | rfl | (simp only [List.length_drop, List.length_take]; rfl)) ?_; (with_reducible refine (pick_set_count.calls k _ _ t376 t379 _ ?side1 ?side2 A4.out).mono ?_); (case side1 => repeat (first | exact (Kd.R_reads' HO378.out).2.2 | (with_reducible refine Kd.C_alloc ?_ _) | (with_reducible refine Kd.C_drewN ?_ _) | (with_reducible refine Kd.C_drew ?_))); (case side2 => exact (Kd.R_reads' HO378.out).2.1); rintro e w' ⟨rfl, ⟨nd, rfl⟩⟩; refine ⟨_, rfl, ?_⟩; (try (rw [drewN_self w38]; generalize hq_ : World.drewN w38 _ = w38; have n0_ : Aside0 (Kd.V (Kd.int .i64) 3 w38 w.heap.size (fun k_ => (((((P0_0_ k_ ∨ w.heap.size ≤ k_)) ∧ k_ ≠ gb374) ∧ k_ ≠ gb375) ∧ some k_ ≠ (.slice Ao39 t376.length co39 : Value).ownBlock)) (.slice A0_0 l0_0.length c0_0) l0_0) := ⟨by rw [← hq_]; exact (by (with_reducible repeat (first | apply Kd.V_alloc | apply Kd.V_drewN | apply Kd.V_drew)); exact HO0_0.out)⟩; have n1_ : Aside0 (Kd.R (Kd.int .u64) 61 w38 w.heap.size (fun k_ => (((w.heap.size ≤ k_)) ∧ True)) (.slice Ao39 t376.length co39) t376) := ⟨by rw [← hq_]; exact (by (with_reducible repeat (first | apply Kd.R_alloc | apply Kd.R_drewN | apply Kd.R_drew)); exact HO378.out)⟩; have n2_ : Aside0 (w38.heap[gb374]? = some (.cells #[.slice A0_0 l0_0.length c0_0, .int .i64 a0_1, .int .i64 a0_2] 58 (0, 0))) := ⟨by rw [← hq_]; exact (by (with_reducible repeat (first | refine blk_drewN ?_ _ | refine blk_drew ?_ | refine blk_alloc ?_ _)); exact BK374.out)⟩; have n3_ : Aside0 (w38.heap[gb375]? = some (.cells #[.slice none 0 0, .int .i64 0, .int .i64 0] 58 (0, 0))) := ⟨by rw [← hq_]; exact (by (with_reducible repeat (first | refine blk_drewN ?_ _ | refine blk_drew ?_ | refine blk_alloc ?_ _)); exact BK375.out)⟩; have n4_ : Aside0 (Below w.heap.size w w38) := ⟨by rw [← hq_]; exact (by repeat (first | (with_reducible first | exact HB.out | apply below_alloc | apply pw_below_drewN | apply below_drew1 | refine below_set ?_ GE374.out | refine below_set ?_ GE375.out) | exact HB.out))⟩; clear HO0_0 HO378 BK374 BK375 HB hq_; have HO0_0 := n0_; have HO378 := n1_; have BK374 := n2_; have BK375 := n3_; have HB := n4_; clear n0_ n1_ n2_ n3_ n4_)); have hnb40 := NB374_375.out; have hnc40 := NB375_374.out; have hcz41_0 : w38.cell? ⟨gb374, 0, none⟩ = some (.slice A0_0 l0_0.length c0_0) := (blk_cell BK374.out 0).trans rfl; have hcz41_1 : w38.cell? ⟨gb374, 1, none⟩ = some (.int .i64 a0_1) := (blk_cell BK374.out 1).trans rfl; have hcz41_2 : w38.cell? ⟨gb374, 2, none⟩ = some (.int .i64 a0_2) := (blk_cell BK374.out 2).trans rfl; have hfz41_0 := blk_frozen BK374.out 0; have hfz41_1 := blk_frozen BK374.out 1; have hfz41_2 := blk_frozen BK374.out 2) | ((with_reducible refine gate_callee (f := 36) rfl ?_); refine goesL_ (some 19) rfl rfl Tryd.func36 (by kernel_rfl) rfl #[.slice Ao39 t376.length co39, .int .i64 a0_2] rfl (by (try simp only [List.map_toArray, List.map_cons, List.map_nil]); first | done | rfl | (simp only [List.length_drop, List.length_take]; rfl)) ?_; (with_reducible refine (pick_set_below.calls k _ _ t376 a0_2 t380 _ ?side1 ?side2 A14.out).mono ?_); (case side1 => repeat (first | exact (Kd.R_reads' HO378.out).2.2 | (with_reducible refine Kd.C_alloc ?_ _) | (with_reducible refine Kd.C_drewN ?_ _) | (with_reducible refine Kd.C_drew ?_))); (case side2 => exact (Kd.R_reads' HO378.out).2.1); rintro e w' ⟨rfl, ⟨nd, rfl⟩⟩; refine ⟨_, rfl, ?_⟩; (try (rw [drewN_self w38]; generalize hq_ : World.drewN w38 _ = w38; have n0_ : Aside0 (Kd.V (Kd.int .i64) 3 w38 w.heap.size (fun k_ => (((((P0_0_ k_ ∨ w.heap.size ≤ k_)) ∧ k_ ≠ gb374) ∧ k_ ≠ gb375) ∧ some k_ ≠ (.slice Ao39 t376.length co39 : Value).ownBlock)) (.slice A0_0 l0_0.length c0_0) l0_0) := ⟨by rw [← hq_]; exact (by (with_reducible repeat (first | apply Kd.V_alloc | apply Kd.V_drewN | apply Kd.V_drew)); exact HO0_0.out)⟩; have n1_ : Aside0 (Kd.R (Kd.int .u64) 61 w38 w.heap.size (fun k_ => (((w.heap.size ≤ k_)) ∧ True)) (.slice Ao39 t376.length co39) t376) := ⟨by rw [← hq_]; exact (by (with_reducible repeat (first | apply Kd.R_alloc | apply Kd.R_drewN | apply Kd.R_drew)); exact HO378.out)⟩; have n2_ : Aside0 (w38.heap[gb374]? = some (.cells #[.slice A0_0 l0_0.length c0_0, .int .i64 a0_1, .int .i64 a0_2] 58 (0, 0))) := ⟨by rw [← hq_]; exact (by (with_reducible repeat (first | refine blk_drewN ?_ _ | refine blk_drew ?_ | refine blk_alloc ?_ _)); exact BK374.out)⟩; have n3_ : Aside0 (w38.heap[gb375]? = some (.cells #[.slice none 0 0, .int .i64 0, .int .i64 0] 58 (0, 0))) := ⟨by rw [← hq_]; exact (by (with_reducible repeat (first | refine blk_drewN ?_ _ | refine blk_drew ?_ | refine blk_alloc ?_ _)); exact BK375.out)⟩; have n4_ : Aside0 (Below w.heap.size w w38) := ⟨by rw [← hq_]; exact (by repeat (first | (with_reducible first | exact HB.out | apply below_alloc | apply pw_below_drewN | apply below_drew1 | refine below_set ?_ GE374.out | refine below_set ?_ GE375.out) | exact HB.out))⟩; clear HO0_0 HO378 BK374 BK375 HB hq_; have HO0_0 := n0_; have HO378 := n1_; have BK374 := n2_; have BK375 := n3_; have HB := n4_; clear n0_ n1_ n2_ n3_ n4_)); have hcz42_0 : w38.cell? ⟨gb374, 0, none⟩ = some (.slice A0_0 l0_0.length c0_0) := (blk_cell BK374.out 0).trans rfl; have hcz42_1 : w38.cell? ⟨gb374, 1, none⟩ = some (.int .i64 a0_1) := (blk_cell BK374.out 1).trans rfl; have hcz42_2 : w38.cell? ⟨gb374, 2, none⟩ = some (.int .i64 a0_2) := (blk_cell BK374.out 2).trans rfl; have hfz42_0 := blk_frozen BK374.out 0; have hfz42_1 := blk_frozen BK374.out 1; have hfz42_2 := blk_frozen BK374.out 2) | ((with_reducible refine gate_callee (f := 37) rfl ?_); refine goesL_ (some 51) rfl rfl Tryd.func37 (by kernel_rfl) rfl #[.slice Ao39 t376.length co39, .int .i64 (Int.tmod t380 t379)] rfl (by (try simp only [List.map_toArray, List.map_cons, List.map_nil]); first | done | rfl | (simp only [List.length_drop, List.length_take]; rfl)) ?_; (with_reducible refine (pick_set_at.calls k _ _ t376 (Int.tmod t380 t379) t383 _ ?side1 ?side2 A35.out).mono ?_); (case side1 => repeat (first | exact (Kd.R_reads' HO378.out).2.2 | (with_reducible refine Kd.C_alloc ?_ _) | (with_reducible refine Kd.C_drewN ?_ _) | (with_reducible refine Kd.C_drew ?_))); (case side2 => exact (Kd.R_reads' HO378.out).2.1); rintro e w' ⟨rfl, ⟨nd, rfl⟩⟩; refine ⟨_, rfl, ?_⟩; (try (rw [drewN_self w38]; generalize hq_ : World.drewN w38 _ = w38; have n0_ : Aside0 (Kd.V (Kd.int .i64) 3 w38 w.heap.size (fun k_ => (((((P0_0_ k_ ∨ w.heap.size ≤ k_)) ∧ k_ ≠ gb374) ∧ k_ ≠ gb375) ∧ some k_ ≠ (.slice Ao39 t376.length co39 : Value).ownBlock)) (.slice A0_0 l0_0.length c0_0) l0_0) := ⟨by rw [← hq_]; exact (by (with_reducible repeat (first | apply Kd.V_alloc | apply Kd.V_drewN | apply Kd.V_drew)); exact HO0_0.out)⟩; have n1_ : Aside0 (Kd.R (Kd.int .u64) 61 w38 w.heap.size (fun k_ => (((w.heap.size ≤ k_)) ∧ True)) (.slice Ao39 t376.length co39) t376) := ⟨by rw [← hq_]; exact (by (with_reducible repeat (first | apply Kd.R_alloc | apply Kd.R_drewN | apply Kd.R_drew)); exact HO378.out)⟩; have n2_ : Aside0 (w38.heap[gb374]? = some (.cells #[.slice A0_0 l0_0.length c0_0, .int .i64 a0_1, .int .i64 a0_2] 58 (0, 0))) := ⟨by rw [← hq_]; exact (by (with_reducible repeat (first | refine blk_drewN ?_ _ | refine blk_drew ?_ | refine blk_alloc ?_ _)); exact BK374.out)⟩; have n3_ : Aside0 (w38.heap[gb375]? = some (.cells #[.slice none 0 0, .int .i64 0, .int .i64 0] 58 (0, 0))) := ⟨by rw [← hq_]; exact (by (with_reducible repeat (first | refine blk_drewN ?_ _ | refine blk_drew ?_ | refine blk_alloc ?_ _)); exact BK375.out)⟩; have n4_ : Aside0 (Below w.heap.size w w38) := ⟨by rw [← hq_]; exact (by repeat (first | (with_reducible first | exact HB.out | apply below_alloc | apply pw_below_drewN | apply below_drew1 | refine below_set ?_ GE374.out | refine below_set ?_ GE375.out) | exact HB.out))⟩; clear HO0_0 HO378 BK374 BK375 HB hq_; have HO0_0 := n0_; have HO378 := n1_; have BK374 := n2_; have BK375 := n3_; have HB := n4_; clear n0_ n1_ n2_ n3_ n4_)); have hcz43_0 : w38.cell? ⟨gb374, 0, none⟩ = some (.slice A0_0 l0_0.length c0_0) := (blk_cell BK374.out 0).trans rfl; have hcz43_1 : w38.cell? ⟨gb374, 1, none⟩ = some (.int .i64 a0_1) := (blk_cell BK374.out 1).trans rfl; have hcz43_2 : w38.cell? ⟨gb374, 2, none⟩ = some (.int .i64 a0_2) := (blk_cell BK374.out 2).trans rfl; have hfz43_0 := blk_frozen BK374.out 0; have hfz43_1 := blk_frozen BK374.out 1; have hfz43_2 := blk_frozen BK374.out 2))
   have n0_ : Aside0 (Kd.V (Kd.int .i64) 3 (w38.setCell ⟨gb374, 2, none⟩ (.int .i64 t383)) w.heap.size (fun k_ => (P0_0_ k_ ∨ w.heap.size ≤ k_) ∧ some k_ ≠ (.slice Ao39 t376.length co39 : Value).ownBlock ∧ k_ ≠ gb374 ∧ k_ ≠ gb375) (.slice A0_0 l0_0.length c0_0) l0_0) := ⟨by (with_reducible repeat (first | apply Kd.V_alloc | apply Kd.V_drewN | apply Kd.V_drew)); exact Kd.V_mono (Kd.V_far (p := ⟨gb374, 2, none⟩) (Kd.V_mono HO0_0.out (fun k_ hk => (⟨hk, hk.1.1.2⟩ : _ ∧ k_ ≠ gb374))) (fun _ hk => hk.2) (.int .i64 t383)) (fun _ hk => ⟨hk.1.1.1.1, ⟨hk.1.2, ⟨hk.1.1.1.2, hk.1.1.2⟩⟩⟩)⟩
   have n1_ : Aside0 (Kd.R (Kd.int .u64) 61 (w38.setCell ⟨gb374, 2, none⟩ (.int .i64 t383)) w.heap.size (fun k_ => (w.heap.size ≤ k_)) (.slice Ao39 t376.length co39) t376) := ⟨by (with_reducible repeat (first | apply Kd.R_alloc | apply Kd.R_drewN | apply Kd.R_drew)); exact Kd.R_mono (Kd.R_far (p := ⟨gb374, 2, none⟩) (Kd.R_types HO378.out BK374.out (by decide)) (fun _ hk => hk.2) (.int .i64 t383)) (fun _ hk => hk.1.1)⟩
   have n2_ : Aside0 ((w38.setCell ⟨gb374, 2, none⟩ (.int .i64 t383)).heap[gb374]? = some (.cells #[.slice A0_0 l0_0.length c0_0, .int .i64 a0_1, .int .i64 t383] 58 (0, 0))) := ⟨by (with_reducible repeat (first | refine blk_drewN ?_ _ | refine blk_drew ?_ | refine blk_alloc ?_ _)); refine blk_put (cs := #[.slice A0_0 l0_0.length c0_0, .int .i64 a0_1, .int .i64 a0_2]) ?_ 2 _ rfl; (with_reducible repeat (first | refine blk_drewN ?_ _ | refine blk_drew ?_ | refine blk_alloc ?_ _)); exact BK374.out⟩
   have n3_ : Aside0 ((w38.setCell ⟨gb374, 2, none⟩ (.int .i64 t383)).heap[gb375]? = some (.cells #[.slice none 0 0, .int .i64 0, .int .i64 0] 58 (0, 0))) := ⟨by (with_reducible repeat (first | refine blk_drewN ?_ _ | refine blk_drew ?_ | refine blk_alloc ?_ _)); refine blk_far ?_ NB375_374.out _; (with_reducible repeat (first | refine blk_drewN ?_ _ | refine blk_drew ?_ | refine blk_alloc ?_ _)); exact BK375.out⟩
   have n4_ : Aside0 (Below w.heap.size w (w38.setCell ⟨gb374, 2, none⟩ (.int .i64 t383))) := ⟨by repeat (first | (with_reducible first | exact HB.out | apply below_alloc | apply pw_below_drewN | apply below_drew1 | refine below_set ?_ GE374.out | refine below_set ?_ GE375.out) | exact HB.out)⟩
   (try clear HO0_0)
   (try clear HO378)
   (try clear BK374)
   (try clear BK375)
   (try clear HB)
   generalize (w38.setCell ⟨gb374, 2, none⟩ (.int .i64 t383)) = w44 at n0_ n1_ n2_ n3_ n4_ ⊢
   have HO0_0 := n0_
   have HO378 := n1_
   have BK374 := n2_
   have BK375 := n3_
   have HB := n4_
   clear n0_ n1_ n2_ n3_ n4_
   have n0_ := Aside0.mk (Kd.V_drew HO0_0.out)
   have n1_ := Aside0.mk (Kd.R_drew HO378.out)
   have n2_ := Aside0.mk (blk_drew BK374.out)
   have n3_ := Aside0.mk (blk_drew BK375.out)
   have n4_ := Aside0.mk (below_drew1 HB.out)
   clear HO0_0
   clear HO378
   clear BK374
   clear BK375
   clear HB
   have HO0_0 := n0_
   have HO378 := n1_
   have BK374 := n2_
   have BK375 := n3_
   have HB := n4_
   clear n0_ n1_ n2_ n3_ n4_
   refine start_ (n := 5) (S := fun w' => w'.cell? ⟨gb374, 0, none⟩ = some (.slice A0_0 l0_0.length c0_0) ∧ w'.cell? ⟨gb374, 1, none⟩ = some (.int .i64 a0_1) ∧ w'.cell? ⟨gb374, 2, none⟩ = some (.int .i64 t383)) (ds := []) #[false, false, false, false, false] (by kernel_rfl) rfl rfl ⟨(blk_cell BK374.out 0).trans rfl, (blk_cell BK374.out 1).trans rfl, (blk_cell BK374.out 2).trans rfl⟩ (fun hHeld => ?_)
   generalize w44.drew = w45 at HO0_0 HO378 BK374 BK375 HB hHeld ⊢
   refine pure_ (i := 0) (N := some 53) (v := ?_) (a' := ?_) #[true, false, false, false, false] rfl rfl (by kernel_rfl) (fun _ _ _ h => h) (Or.inl ⟨by rfl, ?_⟩) ?_ ?_
   rotate_left
   ·
    intro w'
    go_simp
    with_reducible rfl
   rotate_left
   ·
    simp only [Act.put, List.setIfInBounds_toArray, List.set_cons_zero, List.set_cons_succ, i64_w, i32_w]
    rfl
   refine take_ (i := 1) (N := some 54) (v := ?_) (a' := ?_) #[true, true, false, false, false] rfl rfl (by kernel_rfl) (fun _ _ _ h => h) (Or.inl ⟨by rfl, ?_⟩) hHeld ?_ ?_
   rotate_left
   ·
    rintro w' ⟨s0, s1, s2⟩
    go_simp
    with_reducible rfl
   rotate_left
   ·
    simp only [Act.put, List.setIfInBounds_toArray, List.set_cons_zero, List.set_cons_succ, i64_w, i32_w]
    rfl
   refine pure_ (i := 3) (N := some 4) (v := ?_) (a' := ?_) #[true, true, false, true, false] rfl rfl (by kernel_rfl) (fun _ _ _ h => h) (Or.inl ⟨by rfl, ?_⟩) ?_ ?_
   rotate_left
   ·
    intro w'
    go_simp
    with_reducible rfl
   rotate_left
   ·
    simp only [Act.put, List.setIfInBounds_toArray, List.set_cons_zero, List.set_cons_succ, i64_w, i32_w]
    rfl
   refine take_ (i := 2) (N := some 55) (v := ?_) (a' := ?_) #[true, true, true, true, false] rfl rfl (by kernel_rfl) (fun _ _ _ h => h) (Or.inl ⟨by rfl, ?_⟩) hHeld ?_ ?_
   rotate_left
   ·
    rintro w' ⟨s0, s1, s2⟩
    go_simp
    with_reducible rfl
   rotate_left
   ·
    simp only [Act.put, List.setIfInBounds_toArray, List.set_cons_zero, List.set_cons_succ, i64_w, i32_w]
    rfl
   refine one_ (i := 4) (N := none) #[true, true, true, true, true] rfl rfl (by kernel_rfl) (by decide) (fun K hK => ?_)
   have hs46 : w45.cell? ⟨gb375, 0, none⟩ = some (.slice none 0 0) := (blk_cell BK375.out 0).trans rfl
   have hfs46 := blk_frozen BK375.out 0
   have hns46_0 := NB374_375.out
   have hms46_0 := NB375_374.out
   have hs47 : w45.cell? ⟨gb375, 1, none⟩ = some (.int .i64 0) := (blk_cell BK375.out 1).trans rfl
   have hfs47 := blk_frozen BK375.out 1
   have hns47_0 := NB374_375.out
   have hms47_0 := NB375_374.out
   have hs48 : w45.cell? ⟨gb375, 2, none⟩ = some (.int .i64 0) := (blk_cell BK375.out 2).trans rfl
   have hfs48 := blk_frozen BK375.out 2
   have hns48_0 := NB374_375.out
   have hms48_0 := NB375_374.out
   refine skip_ (w1 := ?_) (by rfl) rfl ?_ ?_
   rotate_left
   ·
    go_simp
    rfl
   refine hK.out _ _ ⟨((cell_far (p := ⟨gb375, _, none⟩) NB374_375.out _).trans (((cell_far (p := ⟨gb375, _, none⟩) NB374_375.out _).trans (((cell_far (p := ⟨gb375, _, none⟩) NB374_375.out _).trans (hHeld.1)))))), ((cell_far (p := ⟨gb375, _, none⟩) NB374_375.out _).trans (((cell_far (p := ⟨gb375, _, none⟩) NB374_375.out _).trans (((cell_far (p := ⟨gb375, _, none⟩) NB374_375.out _).trans (hHeld.2.1)))))), ((cell_far (p := ⟨gb375, _, none⟩) NB374_375.out _).trans (((cell_far (p := ⟨gb375, _, none⟩) NB374_375.out _).trans (((cell_far (p := ⟨gb375, _, none⟩) NB374_375.out _).trans (hHeld.2.2))))))⟩ (fun hHeld => ?_)
   clear hK K
   refine done_ (by kernel_rfl) ?_
   try go_wp2
   refine bodyPost_ret (results_tc rfl _ _ gb375 58 #[.slice A0_0 l0_0.length c0_0, .int .i64 a0_1, .int .i64 t383] (0, 0) _ rfl (by (with_reducible repeat (first | refine blk_drewN ?_ _ | refine blk_drew ?_ | refine blk_alloc ?_ _)); refine blk_put (cs := #[.slice A0_0 l0_0.length c0_0, .int .i64 a0_1, .int .i64 0]) ?_ 2 _ rfl; (with_reducible repeat (first | refine blk_drewN ?_ _ | refine blk_drew ?_ | refine blk_alloc ?_ _)); refine blk_put (cs := #[.slice A0_0 l0_0.length c0_0, .int .i64 0, .int .i64 0]) ?_ 1 _ rfl; (with_reducible repeat (first | refine blk_drewN ?_ _ | refine blk_drew ?_ | refine blk_alloc ?_ _)); refine blk_put (cs := #[.slice none 0 0, .int .i64 0, .int .i64 0]) ?_ 0 _ rfl; (with_reducible repeat (first | refine blk_drewN ?_ _ | refine blk_drew ?_ | refine blk_alloc ?_ _)); exact BK375.out) Tryd.underlying58 rfl (by kernel_rfl)) rfl ?_
   exact ⟨_, by first | rfl | (simp [errW_none, errW_some] <;> rfl) | (simp [*, errW_none, errW_some] <;> rfl), by (with_reducible repeat (first | apply Kd.V_alloc | apply Kd.V_drewN | apply Kd.V_drew)); exact Kd.V_mono (Kd.V_far (p := ⟨gb375, 2, none⟩) (Kd.V_far (p := ⟨gb375, 1, none⟩) (Kd.V_far (p := ⟨gb375, 0, none⟩) (Kd.V_mono HO0_0.out (fun k_ hk => (⟨hk, hk.2.2.2⟩ : _ ∧ k_ ≠ gb375))) (fun _ hk => hk.2) (.slice A0_0 l0_0.length c0_0)) (fun _ hk => hk.2) (.int .i64 a0_1)) (fun _ hk => hk.2) (.int .i64 t383)) (fun _ hk => hk.1.1), by repeat (first | (with_reducible first | exact HB.out | apply below_alloc | apply pw_below_drewN | apply below_drew1 | refine below_set ?_ GE374.out | refine below_set ?_ GE375.out) | exact HB.out)⟩

/-! ### pick_Start: function 23 -/
def pick_Start.f (l0 : List Int) : Option (List Int × Int × Int) := if ([] : List Int).length + l0.length < 17592186044416 then (some ((([] : List Int) ++ l0), 0, (-1))) else (none)
set_option maxHeartbeats 8000000 in
set_option maxRecDepth 100000 in
theorem pick_Start.calls (A0 : Option Addr) (c0 : Nat) (l0 : List Int) (r1 : List Int) (r2 : Int) (r3 : Int) (w : World) (hr0 : Kd.C (Kd.int .i64) w A0 l0.length l0) (hc0 : l0.length ≤ c0) (h : pick_Start.f l0 = some (r1, r2, r3)) :
 Calls Tryd.prog 23 #[.slice A0 l0.length c0] w fun e w' => ∃ v0_ : Value, e = .returned (.agg #[v0_, .int .i64 r2, .int .i64 r3]) ∧ Kd.R (Kd.int .i64) 3 w' w.heap.size (fun _ => True) v0_ r1 ∧ Below w.heap.size w w' := by
 have hu58 := Tryd.underlying58
 have HR0 := Aside0.mk hr0
 have HC0 := Aside0.mk hc0
 clear hr0 hc0
 have HB := Aside0.mk (Below.refl w.heap.size w)
 have H : (if ([] : List Int).length + l0.length < 17592186044416 then (some ((([] : List Int) ++ l0), 0, (-1))) else (none)) = some (r1, r2, r3) := h
 clear h
 by_cases c2 : ([] : List Int).length + l0.length < 17592186044416
 ·
  rw [if_pos c2] at H
  have LMc2 := Aside0.mk c2
  clear c2
  obtain ⟨y385, hy385⟩ : ∃ y_ : List Int, y_ = (([] : List Int) ++ l0) := ⟨_, rfl⟩
  replace H : (some (y385, 0, (-1))) = some (r1, r2, r3) := by first | (rw [hy385]; with_reducible exact H) | (have H2_ := (Option.bind_some _ _).symm.trans H; rw [hy385]; with_reducible exact H2_) | (have H2_ := (Option.bind_some _ _).symm.trans H; with_reducible exact H2_) | with_reducible exact H | (rw [hy385]; exact H) | exact H
  have Ny385 := Aside0.mk hy385
  clear hy385
  simp only [Option.some.injEq, Prod.mk.injEq] at H
  obtain ⟨rfl, rfl, rfl⟩ := H
  go_enter Tryd.func23, Tryd.ntmps23
  go_wp2_with (first | ((with_reducible refine gate_dst (N := 2) rfl ?_); refine box_event ?hg (N := 2) ?hd (cs := #[.slice none 0 0, .int .i64 0, .int .i64 0]) (t := 58) ?hr ?_; (case hd => rfl); (case hg => rfl); (case hr => first | (go_simp; done) | (go_simp; rfl)); intro gb384 hg w3 hbox hb; have n0_ := Aside0.mk (below_step (by repeat (first | (with_reducible first | exact HB.out | apply below_alloc | apply pw_below_drewN | apply below_drew1) | exact HB.out)) hb); have n1_ := Aside0.mk (hbox); have n2_ := Aside0.mk ((by rw [hg]; exact (below_size (by repeat (first | (with_reducible first | exact HB.out | apply below_alloc | apply pw_below_drewN | apply below_drew1) | exact HB.out))) : w.heap.size ≤ gb384)); have n3_ := Aside0.mk ((by rw [hg]; exact (below_size (by repeat (first | (with_reducible first | exact HB.out | apply below_alloc | apply pw_below_drewN | apply below_drew1) | exact HB.out))) : w.heap.size ≤ gb384)); clear HB; have HB := n0_; have BK384 := n1_; have GW384 := n2_; have GE384 := n3_; clear n0_ n1_ n2_ n3_; clear hb hbox hg) | ((with_reducible refine gate_builtin (b := .append) (xs := #[.const (.slice none 0 0), .tmp 3]) rfl ?_); at_builtin; refine Kd.R_append_rows (Kd.int .i64) (w0 := w) w.heap.size rfl (.const (.slice none 0 0)) (.tmp 3) 22 3 (.int .i64 0) 8 rfl Tryd.underlying22 info3 rfl (by decide) (by omega) (.slice none 0 0) ([] : List Int) l0 _ _ _ (fun _ => True) (fun _ => False) rfl rfl ?aO ?aR (fun _ _ h => h) (fun _ h => h.elim) ?aF ?aB ?aS ?aL ?_; (case aR => repeat (first | exact (Kd.C_below HR0.out HB.out) | (with_reducible refine Kd.C_alloc ?_ _) | (with_reducible refine Kd.C_drewN ?_ _) | (with_reducible refine Kd.C_drew ?_))); (case aB => exact (by repeat (first | (with_reducible first | exact HB.out | apply below_alloc | apply pw_below_drewN | apply below_drew1 | refine below_set ?_ GE384.out) | exact HB.out))); (case aF => exact (fun _ _ => trivial)); (case aO => exact ((Kd.R_nil _ _ _ _ (fun _ => True)))); (case aS => exact (below_size (by repeat (first | (with_reducible first | exact HB.out | apply below_alloc | apply pw_below_drewN | apply below_drew1 | refine below_set ?_ GE384.out) | exact HB.out)))); (case aL => have := LMc2.out; omega); intro v386 w4 ho hb hg hat; rw [← Ny385.out] at ho; have n0_ := Aside0.mk (blk_grown (g := gb384) (o := .cells #[.slice none 0 0, .int .i64 0, .int .i64 0] 58 (0, 0)) (by (with_reducible repeat (first | refine blk_drewN ?_ _ | refine blk_drew ?_ | refine blk_alloc ?_ _)); exact BK384.out) hg (by simp [Value.ownBlock])); have n1_ := Aside0.mk (hb); have n2_ := Aside0.mk (ho); clear BK384; clear HB; have BK384 := n0_; have HB := n1_; have HO387 := n2_; clear n0_ n1_ n2_; clear ho hb hg hat; obtain ⟨Ao5, co5, eo5⟩ := Kd.R_slice HO387.out; subst eo5; have hcz6_0 : w4.cell? ⟨gb384, 0, none⟩ = some (.slice none 0 0) := (blk_cell BK384.out 0).trans rfl; have hcz6_1 : w4.cell? ⟨gb384, 1, none⟩ = some (.int .i64 0) := (blk_cell BK384.out 1).trans rfl; have hcz6_2 : w4.cell? ⟨gb384, 2, none⟩ = some (.int .i64 0) := (blk_cell BK384.out 2).trans rfl; have hfz6_0 := blk_frozen BK384.out 0; have hfz6_1 := blk_frozen BK384.out 1; have hfz6_2 := blk_frozen BK384.out 2))
  refine bodyPost_ret (results_cell_row rfl _ _ gb384 58 #[.slice Ao5 y385.length co5, .int .i64 0, .int .i64 (-1)] (0, 0) _ rfl (by (with_reducible repeat (first | refine blk_drewN ?_ _ | refine blk_drew ?_ | refine blk_alloc ?_ _)); refine blk_put (cs := #[.slice Ao5 y385.length co5, .int .i64 0, .int .i64 0]) ?_ 2 _ rfl; (with_reducible repeat (first | refine blk_drewN ?_ _ | refine blk_drew ?_ | refine blk_alloc ?_ _)); refine blk_put (cs := #[.slice Ao5 y385.length co5, .int .i64 0, .int .i64 0]) ?_ 1 _ rfl; (with_reducible repeat (first | refine blk_drewN ?_ _ | refine blk_drew ?_ | refine blk_alloc ?_ _)); refine blk_put (cs := #[.slice none 0 0, .int .i64 0, .int .i64 0]) ?_ 0 _ rfl; (with_reducible repeat (first | refine blk_drewN ?_ _ | refine blk_drew ?_ | refine blk_alloc ?_ _)); exact BK384.out) Tryd.underlying58 rfl (by kernel_rfl)) rfl ?_
  exact ⟨_, by first | rfl | (simp [errW_none, errW_some] <;> rfl) | (simp [*, errW_none, errW_some] <;> rfl), by (with_reducible repeat (first | apply Kd.R_alloc | apply Kd.R_drewN | apply Kd.R_drew)); exact Kd.R_mono (Kd.R_far (p := ⟨gb384, 2, none⟩) (Kd.R_far (p := ⟨gb384, 1, none⟩) (Kd.R_far (p := ⟨gb384, 0, none⟩) (Kd.R_types HO387.out BK384.out (by decide)) (fun _ hk => hk.2) (.slice Ao5 y385.length co5)) (fun _ hk => hk.2) (.int .i64 0)) (fun _ hk => hk.2) (.int .i64 (-1))) (fun _ hk => trivial), by repeat (first | (with_reducible first | exact HB.out | apply below_alloc | apply pw_below_drewN | apply below_drew1 | refine below_set ?_ GE384.out) | exact HB.out)⟩
 ·
  rw [if_neg c2] at H
  exact absurd H (by simp)

end Go.Proofs.YtmaiicpaalbcfaaDoor.P
