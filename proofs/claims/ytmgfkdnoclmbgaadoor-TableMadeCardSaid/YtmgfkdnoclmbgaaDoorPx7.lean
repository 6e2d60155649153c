/-
The plain Lean functions of Go functions of this seat, and proofs that the calls of the machine come to them; no condition beside those named in each theorem.
-/
import Derived.Test.YtmgfkdnoclmbgaaDoorPx0
import Derived.Test.YtmgfkdnoclmbgaaDoorAw
import Derived.Test.YtmgfkdnoclmbgaaDoorPx4
import Derived.Test.YtmgfkdnoclmbgaaDoorPx6
import Derived.Test.YtmgfkdnoclmbgaaDoorStubB
import Derived.Test.YtmgfkdnoclmbgaaDoorStubC
namespace Go.Proofs.YtmgfkdnoclmbgaaDoor.P
open Go.RowKit Go.Proofs.YtmgfkdnoclmbgaaDoorW.PrintWords Go.Proofs.YtmgfkdnoclmbgaaDoorW.PrintLast Go.Proofs.YtmgfkdnoclmbgaaDoorW.PrintMore
attribute [local go_sem] max2_int min2_int max_two min_two max_three min_three max_four min_four   -- for this text's walks alone
set_option linter.unusedVariables false
set_option linter.unusedSimpArgs false

/-! ### warplaw8_TableMade: function 4 -/
def warplaw8_TableMade.l0 : Nat → List (List (S26)) → List (List Int) → List (S26) → Int → Int → Int → Int → List (List Int) → List (S26) → Int → Int → Option (Bool)
 | 0, _, _, _, _, _, _, _, _, _, _, _ => none
 | k + 1, x9, x10, x11, x12, x13, x15, x16, x192000, x192001, x192002, x192003 => if x16 < (x9.length : Int) then (if x16 ≥ (x10.length : Int) then (some false) else (if 0 ≤ x16 then (if x16 < (x10.length : Int) then (if ((rd_L4 x10 x16).length : Int) = ((rd_L3 x9 x16).length : Int) then (warplaw8_TableMade.l0 k x9 x10 x11 x12 x13 (wrap64 (x15 + ((rd_L3 x9 x16).length : Int))) (wrap64 (x16 + 1)) x192000 x192001 x192002 x192003) else (some false)) else (none)) else (none))) else ((warplaw8_lists.f k x10 x192000).bind fun t195 => (if t195 = true then ((warplaw8_same.f k x11 x192001).bind fun t196 => (if t196 = true then (if x12 = (wrap64 (3 * x15)) then (if x13 = 0 then ((warplaw8_awake.f k).bind fun t197 => (some t197)) else (some false)) else (some false)) else (some false))) else (some false)))
def warplaw8_TableMade.f (k : Nat) (l0 : List (List Int)) (a1 : Int) (a2 : Int) (l3 : List Int) : Option (Bool) := if (l3.length : Int) > 500 then ((warplaw8_awake.f k).bind fun t171 => (some t171)) else ((warplaw8_Keys.f k l0).bind fun t172 => ((table_Play.f t172 (Int.tmod (wrap64 (a1)) 40) (Int.tmod (wrap64 (a2)) 70) l3).bind fun bt175 => ((warpref1_Table.f t172 (Int.tmod (wrap64 (a1)) 40) (Int.tmod (wrap64 (a2)) 70) l3).bind fun bt183 => (warplaw8_TableMade.l0 k t172 bt175.1 bt175.2.1 bt175.2.2.1 bt175.2.2.2 0 0 bt183.1 bt183.2.1 bt183.2.2.1 bt183.2.2.2))))
theorem warplaw8_TableMade.mono_l : ∀ k, (∀ y0 y1 y2 y3 y4 y5 y6 y7 y8 y9 y10, LeO (warplaw8_TableMade.l0 k y0 y1 y2 y3 y4 y5 y6 y7 y8 y9 y10) (warplaw8_TableMade.l0 (k + 1) y0 y1 y2 y3 y4 y5 y6 y7 y8 y9 y10))
 | 0 => fun _ _ _ _ _ _ _ _ _ _ _ r h => by simp [warplaw8_TableMade.l0] at h
 | k + 1 => by
  have ih0 := warplaw8_TableMade.mono_l k
  ·
   intro y0 y1 y2 y3 y4 y5 y6 y7 y8 y9 y10
   unfold warplaw8_TableMade.l0
   repeat' first
   | (with_reducible exact ih0 _ _ _ _ _ _ _ _ _ _ _)
   | (with_reducible exact warplaw8_Keys.mono _ _)
   | (with_reducible exact warplaw8_awake.mono _)
   | (with_reducible exact warplaw8_lists.mono _ _ _)
   | (with_reducible exact warplaw8_same.mono _ _ _)
   | (with_reducible exact LeO.refl _)
   | (with_reducible exact LeO.none _)
   | (with_reducible refine LeO.ite ?_ ?_)
   | (with_reducible refine LeO.bind ?_ (fun _ => ?_))
   | exact ih0 _ _ _ _ _ _ _ _ _ _ _
   | exact warplaw8_Keys.mono _ _
   | exact warplaw8_awake.mono _
   | exact warplaw8_lists.mono _ _ _
   | exact warplaw8_same.mono _ _ _
   | exact LeO.none _
   | refine LeO.ite ?_ ?_
   | refine LeO.bind ?_ (fun _ => ?_)
theorem warplaw8_TableMade.mono : ∀ a0 a1 a2 a3 k, LeO (warplaw8_TableMade.f k a0 a1 a2 a3) (warplaw8_TableMade.f (k + 1) a0 a1 a2 a3) := by
 intro a0 a1 a2 a3 k
 have ih0 := warplaw8_TableMade.mono_l k
 unfold warplaw8_TableMade.f
 repeat' first
  | (with_reducible exact ih0 _ _ _ _ _ _ _ _ _ _ _)
  | (with_reducible exact warplaw8_Keys.mono _ _)
  | (with_reducible exact warplaw8_awake.mono _)
  | (with_reducible exact warplaw8_lists.mono _ _ _)
  | (with_reducible exact warplaw8_same.mono _ _ _)
  | (with_reducible exact LeO.refl _)
  | (with_reducible exact LeO.none _)
  | (with_reducible refine LeO.ite ?_ ?_)
  | (with_reducible refine LeO.bind ?_ (fun _ => ?_))
  | exact ih0 _ _ _ _ _ _ _ _ _ _ _
  | exact warplaw8_Keys.mono _ _
  | exact warplaw8_awake.mono _
  | exact warplaw8_lists.mono _ _ _
  | exact warplaw8_same.mono _ _ _
  | exact LeO.none _
  | refine LeO.ite ?_ ?_
  | refine LeO.bind ?_ (fun _ => ?_)
set_option maxHeartbeats 8000000 in
set_option maxRecDepth 100000 in
theorem warplaw8_TableMade.calls (k : Nat) (A0 : Option Addr) (c0 : Nat) (l0 : List (List Int)) (a1 : Int) (a2 : Int) (A3 : Option Addr) (c3 : Nat) (l3 : List Int) (r : Bool) (w : World) (hr0 : Kd.C (Kd.slice 5 (Kd.int .u8)) w A0 l0.length l0) (hc0 : l0.length ≤ c0) (hr3 : Kd.C (Kd.int .i64) w A3 l3.length l3) (hc3 : l3.length ≤ c3) (h : warplaw8_TableMade.f k l0 a1 a2 l3 = some r) (hT_ : Tab w := by first | exact hT_ | exact Tab.drewN hT_ _ | (refine Tab.below hT_ ?_; repeat (first | (with_reducible first | exact HB.out | apply below_alloc | apply pw_below_drewN | apply below_drew1) | exact HB.out))) (hr_ : r = true := by rfl) :
 Calls Tryd.prog 4 #[.slice A0 l0.length c0, .int .u8 a1, .int .u8 a2, .slice A3 l3.length c3] w fun e w' => e = .returned (.bool r) ∧ Below w.heap.size w w' := by
 have hu32 := Tryd.underlying32
 have HR0 := Aside0.mk hr0
 have HC0 := Aside0.mk hc0
 clear hr0 hc0
 have HR3 := Aside0.mk hr3
 have HC3 := Aside0.mk hc3
 clear hr3 hc3
 have HB := Aside0.mk (Below.refl w.heap.size w)
 have H : (if (l3.length : Int) > 500 then ((warplaw8_awake.f k).bind fun t171 => (some t171)) else ((warplaw8_Keys.f k l0).bind fun t172 => ((table_Play.f t172 (Int.tmod (wrap64 (a1)) 40) (Int.tmod (wrap64 (a2)) 70) l3).bind fun bt175 => ((warpref1_Table.f t172 (Int.tmod (wrap64 (a1)) 40) (Int.tmod (wrap64 (a2)) 70) l3).bind fun bt183 => (warplaw8_TableMade.l0 k t172 bt175.1 bt175.2.1 bt175.2.2.1 bt175.2.2.2 0 0 bt183.1 bt183.2.1 bt183.2.2.1 bt183.2.2.2))))) = some r := h
 clear h
 by_cases c5 : (l3.length : Int) > 500
 ·
  rw [if_pos c5] at H
  have c5b0 : decide (500 < (l3.length : Int)) = true := decide_eq_true c5
  have c5b1 : decide (500 < l3.length) = true := decide_eq_true (by omega)
  clear c5
  replace H := Option.bind_eq_some_iff.mp H
  obtain ⟨t171, A60, H⟩ := H
  replace H : (some t171) = some r := H
  have A6 := Aside0.mk A60
  clear A60
  obtain rfl := Option.some.inj H
  go_enter Tryd.func4, Tryd.ntmps4
  go_wp2_with (first | (go_at_call 8; (with_reducible refine (warplaw8_awake.calls k  t171 _ A6.out).mono ?_); rintro e w7 ⟨rfl, hb⟩; have n0_ := Aside0.mk (below_step (by repeat (first | (with_reducible first | exact HB.out | apply below_alloc | apply pw_below_drewN | apply below_drew1) | exact HB.out)) hb); clear HB; have HB := n0_; clear n0_; (try clear hb); (try clear hb2); (try clear hk); (try clear hi)))
  repeat (go_quiet (first | (go_at_call 8; (with_reducible refine (warplaw8_awake.calls k  t171 _ A6.out).mono ?_); rintro e w7 ⟨rfl, hb⟩; have n0_ := Aside0.mk (below_step (by repeat (first | (with_reducible first | exact HB.out | apply below_alloc | apply pw_below_drewN | apply below_drew1) | exact HB.out)) hb); clear HB; have HB := n0_; clear n0_; (try clear hb); (try clear hb2); (try clear hk); (try clear hi))); try go_wp2_with (first | (go_at_call 8; (with_reducible refine (warplaw8_awake.calls k  t171 _ A6.out).mono ?_); rintro e w7 ⟨rfl, hb⟩; have n0_ := Aside0.mk (below_step (by repeat (first | (with_reducible first | exact HB.out | apply below_alloc | apply pw_below_drewN | apply below_drew1) | exact HB.out)) hb); clear HB; have HB := n0_; clear n0_; (try clear hb); (try clear hb2); (try clear hk); (try clear hi))))
  go_ret
  exact ⟨by first | rfl | (simp [errW_none, errW_some] <;> rfl) | (simp [*, errW_none, errW_some] <;> rfl), by repeat (first | (with_reducible first | exact HB.out | apply below_alloc | apply pw_below_drewN | apply below_drew1) | exact HB.out)⟩
 ·
  rw [if_neg c5] at H
  have c5b0 : decide (500 < (l3.length : Int)) = false := decide_eq_false c5
  have c5b1 : decide (500 < l3.length) = false := decide_eq_false (by omega)
  clear c5
  replace H := Option.bind_eq_some_iff.mp H
  obtain ⟨t172, A80, H⟩ := H
  replace H : ((table_Play.f t172 (Int.tmod (wrap64 (a1)) 40) (Int.tmod (wrap64 (a2)) 70) l3).bind fun bt175 => ((warpref1_Table.f t172 (Int.tmod (wrap64 (a1)) 40) (Int.tmod (wrap64 (a2)) 70) l3).bind fun bt183 => (warplaw8_TableMade.l0 k t172 bt175.1 bt175.2.1 bt175.2.2.1 bt175.2.2.2 0 0 bt183.1 bt183.2.1 bt183.2.2.1 bt183.2.2.2))) = some r := H
  have A8 := Aside0.mk A80
  clear A80
  replace H := Option.bind_eq_some_iff.mp H
  obtain ⟨⟨t175, t176, t177, t178⟩, A90, H⟩ := H
  replace H : ((warpref1_Table.f t172 (Int.tmod (wrap64 (a1)) 40) (Int.tmod (wrap64 (a2)) 70) l3).bind fun bt183 => (warplaw8_TableMade.l0 k t172 t175 t176 t177 t178 0 0 bt183.1 bt183.2.1 bt183.2.2.1 bt183.2.2.2)) = some r := H
  have A9 := Aside0.mk A90
  clear A90
  replace H := Option.bind_eq_some_iff.mp H
  obtain ⟨⟨t183, t186, t189, t190⟩, A100, H⟩ := H
  replace H : (warplaw8_TableMade.l0 k t172 t175 t176 t177 t178 0 0 t183 t186 t189 t190) = some r := H
  have A10 := Aside0.mk A100
  clear A100
  have H' := Aside0.mk H
  clear H
  go_enter Tryd.func4, Tryd.ntmps4
  go_wp2_with (first | (go_at_call 13; (with_reducible refine (warplaw8_Keys.calls k _ _ l0 t172 _ ?side1 ?side2 A8.out).mono ?_); (case side1 => repeat (first | exact HR0.out | (with_reducible refine Kd.C_alloc ?_ _) | (with_reducible refine Kd.C_drewN ?_ _) | (with_reducible refine Kd.C_drew ?_))); (case side2 => exact HC0.out); rintro e w11 ⟨v173, rfl, ho0, hb⟩; have n0_ := Aside0.mk (Kd.S_lower ho0 (below_size (by repeat (first | (with_reducible first | exact HB.out | apply below_alloc | apply pw_below_drewN | apply below_drew1) | exact HB.out)))); have n1_ := Aside0.mk (below_step (by repeat (first | (with_reducible first | exact HB.out | apply below_alloc | apply pw_below_drewN | apply below_drew1) | exact HB.out)) hb); clear HB; have HO174 := n0_; have HB := n1_; clear n0_ n1_; (try clear hb); (try clear hb2); (try clear hk); (try clear hi); (try clear ho0); obtain ⟨Ao12, co12, eo12⟩ := Kd.S_slice HO174.out; subst eo12) | (go_at_call 9; (with_reducible refine (table_Play.calls _ _ t172 (Int.tmod (wrap64 (a1)) 40) (Int.tmod (wrap64 (a2)) 70) _ _ l3 t175 t176 t177 t178 _ ?side1 ?side2 ?side3 ?side4 A9.out).mono ?_); (case side1 => repeat (first | exact (Kd.S_reads' HO174.out).2.2 | (with_reducible refine Kd.C_alloc ?_ _) | (with_reducible refine Kd.C_drewN ?_ _) | (with_reducible refine Kd.C_drew ?_))); (case side2 => exact (Kd.S_reads' HO174.out).2.1); (case side3 => repeat (first | exact (Kd.C_below HR3.out HB.out) | (with_reducible refine Kd.C_alloc ?_ _) | (with_reducible refine Kd.C_drewN ?_ _) | (with_reducible refine Kd.C_drew ?_))); (case side4 => exact HC3.out); rintro e w13 ⟨v179, v181, rfl, ho0, ho1, hb⟩; have n0_ := Aside0.mk (Kd.S_elder' (by (with_reducible repeat (first | apply Kd.S_alloc | apply Kd.S_drewN | apply Kd.S_drew)); exact HO174.out) (Kd.R_base ho1) hb); have n1_ := Aside0.mk (Kd.S_lower ho0 (below_size (by repeat (first | (with_reducible first | exact HB.out | apply below_alloc | apply pw_below_drewN | apply below_drew1) | exact HB.out)))); have n2_ := Aside0.mk (Kd.R_lower ho1 (below_size (by repeat (first | (with_reducible first | exact HB.out | apply below_alloc | apply pw_below_drewN | apply below_drew1) | exact HB.out)))); have n3_ := Aside0.mk (below_step (by repeat (first | (with_reducible first | exact HB.out | apply below_alloc | apply pw_below_drewN | apply below_drew1) | exact HB.out)) hb); clear HO174; clear HB; have HO174 := n0_; have HO180 := n1_; have HO182 := n2_; have HB := n3_; clear n0_ n1_ n2_ n3_; (try clear hb); (try clear hb2); (try clear hk); (try clear hi); (try clear ho0); (try clear ho1)) | (go_at_call 10; (with_reducible refine (warpref1_Table.calls _ _ t172 (Int.tmod (wrap64 (a1)) 40) (Int.tmod (wrap64 (a2)) 70) _ _ l3 t183 t186 t189 t190 _ ?side1 ?side2 ?side3 ?side4 A10.out).mono ?_); (case side1 => repeat (first | exact (Kd.S_reads' HO174.out).2.2 | (with_reducible refine Kd.C_alloc ?_ _) | (with_reducible refine Kd.C_drewN ?_ _) | (with_reducible refine Kd.C_drew ?_))); (case side2 => exact (Kd.S_reads' HO174.out).2.1); (case side3 => repeat (first | exact (Kd.C_below HR3.out HB.out) | (with_reducible refine Kd.C_alloc ?_ _) | (with_reducible refine Kd.C_drewN ?_ _) | (with_reducible refine Kd.C_drew ?_))); (case side4 => exact HC3.out); rintro e w14 ⟨v184, v187, rfl, ho0, ho1, hb⟩; have n0_ := Aside0.mk (Kd.S_elder' (by (with_reducible repeat (first | apply Kd.S_alloc | apply Kd.S_drewN | apply Kd.S_drew)); exact HO174.out) (Kd.R_base ho1) hb); have n1_ := Aside0.mk (Kd.S_elder' (by (with_reducible repeat (first | apply Kd.S_alloc | apply Kd.S_drewN | apply Kd.S_drew)); exact HO180.out) (Kd.S_base ho0) hb); have n2_ := Aside0.mk (Kd.R_elder' (by (with_reducible repeat (first | apply Kd.R_alloc | apply Kd.R_drewN | apply Kd.R_drew)); exact HO182.out) (Kd.R_base ho1) hb); have n3_ := Aside0.mk (Kd.S_lower (Kd.S_new' ho0 (Kd.S_lt (by (with_reducible repeat (first | apply Kd.S_alloc | apply Kd.S_drewN | apply Kd.S_drew)); exact HO180.out))) (below_size (by repeat (first | (with_reducible first | exact HB.out | apply below_alloc | apply pw_below_drewN | apply below_drew1) | exact HB.out)))); have n4_ := Aside0.mk (Kd.R_lower (Kd.R_new' ho1 (Kd.R_lt (by (with_reducible repeat (first | apply Kd.R_alloc | apply Kd.R_drewN | apply Kd.R_drew)); exact HO182.out))) (below_size (by repeat (first | (with_reducible first | exact HB.out | apply below_alloc | apply pw_below_drewN | apply below_drew1) | exact HB.out)))); have n5_ := Aside0.mk (below_step (by repeat (first | (with_reducible first | exact HB.out | apply below_alloc | apply pw_below_drewN | apply below_drew1) | exact HB.out)) hb); clear HO174; clear HO180; clear HO182; clear HB; have HO174 := n0_; have HO180 := n1_; have HO182 := n2_; have HO185 := n3_; have HO188 := n4_; have HB := n5_; clear n0_ n1_ n2_ n3_ n4_ n5_; (try clear hb); (try clear hb2); (try clear hk); (try clear hi); (try clear ho0); (try clear ho1)) | ((with_reducible refine gate_dst (N := 14) rfl ?_); (try (refine gate_guard (by rfl) ?_; dsimp only)); refine box_event ?hg (N := 14) ?hd (cs := #[.slice none 0 0, .slice none 0 0, .int .i64 0, .int .i64 0]) (t := 32) ?hr ?_; (case hd => rfl); (case hg => rfl); (case hr => first | (go_simp; done) | (go_simp; rfl)); intro gb191 hg w15 hbox hb; have n0_ := Aside0.mk (Kd.S_below (by (with_reducible repeat (first | apply Kd.S_alloc | apply Kd.S_drewN | apply Kd.S_drew)); exact HO174.out) hb); have n1_ := Aside0.mk (Kd.S_below (by (with_reducible repeat (first | apply Kd.S_alloc | apply Kd.S_drewN | apply Kd.S_drew)); exact HO180.out) hb); have n2_ := Aside0.mk (Kd.R_below (by (with_reducible repeat (first | apply Kd.R_alloc | apply Kd.R_drewN | apply Kd.R_drew)); exact HO182.out) hb); have n3_ := Aside0.mk (Kd.S_below (by (with_reducible repeat (first | apply Kd.S_alloc | apply Kd.S_drewN | apply Kd.S_drew)); exact HO185.out) hb); have n4_ := Aside0.mk (Kd.R_below (by (with_reducible repeat (first | apply Kd.R_alloc | apply Kd.R_drewN | apply Kd.R_drew)); exact HO188.out) hb); have n5_ := Aside0.mk (below_step (by repeat (first | (with_reducible first | exact HB.out | apply below_alloc | apply pw_below_drewN | apply below_drew1) | exact HB.out)) hb); have n6_ := Aside0.mk (hbox); have n7_ := Aside0.mk ((by rw [hg]; exact (below_size (by repeat (first | (with_reducible first | exact HB.out | apply below_alloc | apply pw_below_drewN | apply below_drew1) | exact HB.out))) : w.heap.size ≤ gb191)); have n8_ := Aside0.mk ((by rw [hg]; exact (below_size (by repeat (first | (with_reducible first | exact HB.out | apply below_alloc | apply pw_below_drewN | apply below_drew1) | exact HB.out))) : w.heap.size ≤ gb191)); clear HO174; clear HO180; clear HO182; clear HO185; clear HO188; clear HB; have HO174 := n0_; have HO180 := n1_; have HO182 := n2_; have HO185 := n3_; have HO188 := n4_; have HB := n5_; have BK191 := n6_; have GW191 := n7_; have GE191 := n8_; clear n0_ n1_ n2_ n3_ n4_ n5_ n6_ n7_ n8_; clear hb hbox hg; obtain ⟨Ao16, co16, eo16⟩ := Kd.S_slice HO185.out; subst eo16; have hcz17_0 : w15.cell? ⟨gb191, 0, none⟩ = some (.slice none 0 0) := (blk_cell BK191.out 0).trans rfl; have hcz17_1 : w15.cell? ⟨gb191, 1, none⟩ = some (.slice none 0 0) := (blk_cell BK191.out 1).trans rfl; have hcz17_2 : w15.cell? ⟨gb191, 2, none⟩ = some (.int .i64 0) := (blk_cell BK191.out 2).trans rfl; have hcz17_3 : w15.cell? ⟨gb191, 3, none⟩ = some (.int .i64 0) := (blk_cell BK191.out 3).trans rfl; have hfz17_0 := blk_frozen BK191.out 0; have hfz17_1 := blk_frozen BK191.out 1; have hfz17_2 := blk_frozen BK191.out 2; have hfz17_3 := blk_frozen BK191.out 3; obtain ⟨Ao18, co18, eo18⟩ := Kd.R_slice HO188.out; subst eo18))
  repeat (go_quiet (first | (go_at_call 13; (with_reducible refine (warplaw8_Keys.calls k _ _ l0 t172 _ ?side1 ?side2 A8.out).mono ?_); (case side1 => repeat (first | exact HR0.out | (with_reducible refine Kd.C_alloc ?_ _) | (with_reducible refine Kd.C_drewN ?_ _) | (with_reducible refine Kd.C_drew ?_))); (case side2 => exact HC0.out); rintro e w11 ⟨v173, rfl, ho0, hb⟩; have n0_ := Aside0.mk (Kd.S_lower ho0 (below_size (by repeat (first | (with_reducible first | exact HB.out | apply below_alloc | apply pw_below_drewN | apply below_drew1) | exact HB.out)))); have n1_ := Aside0.mk (below_step (by repeat (first | (with_reducible first | exact HB.out | apply below_alloc | apply pw_below_drewN | apply below_drew1) | exact HB.out)) hb); clear HB; have HO174 := n0_; have HB := n1_; clear n0_ n1_; (try clear hb); (try clear hb2); (try clear hk); (try clear hi); (try clear ho0); obtain ⟨Ao12, co12, eo12⟩ := Kd.S_slice HO174.out; subst eo12) | (go_at_call 9; (with_reducible refine (table_Play.calls _ _ t172 (Int.tmod (wrap64 (a1)) 40) (Int.tmod (wrap64 (a2)) 70) _ _ l3 t175 t176 t177 t178 _ ?side1 ?side2 ?side3 ?side4 A9.out).mono ?_); (case side1 => repeat (first | exact (Kd.S_reads' HO174.out).2.2 | (with_reducible refine Kd.C_alloc ?_ _) | (with_reducible refine Kd.C_drewN ?_ _) | (with_reducible refine Kd.C_drew ?_))); (case side2 => exact (Kd.S_reads' HO174.out).2.1); (case side3 => repeat (first | exact (Kd.C_below HR3.out HB.out) | (with_reducible refine Kd.C_alloc ?_ _) | (with_reducible refine Kd.C_drewN ?_ _) | (with_reducible refine Kd.C_drew ?_))); (case side4 => exact HC3.out); rintro e w13 ⟨v179, v181, rfl, ho0, ho1, hb⟩; have n0_ := Aside0.mk (Kd.S_elder' (by (with_reducible repeat (first | apply Kd.S_alloc | apply Kd.S_drewN | apply Kd.S_drew)); exact HO174.out) (Kd.R_base ho1) hb); have n1_ := Aside0.mk (Kd.S_lower ho0 (below_size (by repeat (first | (with_reducible first | exact HB.out | apply below_alloc | apply pw_below_drewN | apply below_drew1) | exact HB.out)))); have n2_ := Aside0.mk (Kd.R_lower ho1 (below_size (by repeat (first | (with_reducible first | exact HB.out | apply below_alloc | apply pw_below_drewN | apply below_drew1) | exact HB.out)))); have n3_ := Aside0.mk (below_step (by repeat (first | (with_reducible first | exact HB.out | apply below_alloc | apply pw_below_drewN | apply below_drew1) | exact HB.out)) hb); clear HO174; clear HB; have HO174 := n0_; have HO180 := n1_; have HO182 := n2_; have HB := n3_; clear n0_ n1_ n2_ n3_; (try clear hb); (try clear hb2); (try clear hk); (try clear hi); (try clear ho0); (try clear ho1)) | (go_at_call 10; (with_reducible refine (warpref1_Table.calls _ _ t172 (Int.tmod (wrap64 (a1)) 40) (Int.tmod (wrap64 (a2)) 70) _ _ l3 t183 t186 t189 t190 _ ?side1 ?side2 ?side3 ?side4 A10.out).mono ?_); (case side1 => repeat (first | exact (Kd.S_reads' HO174.out).2.2 | (with_reducible refine Kd.C_alloc ?_ _) | (with_reducible refine Kd.C_drewN ?_ _) | (with_reducible refine Kd.C_drew ?_))); (case side2 => exact (Kd.S_reads' HO174.out).2.1); (case side3 => repeat (first | exact (Kd.C_below HR3.out HB.out) | (with_reducible refine Kd.C_alloc ?_ _) | (with_reducible refine Kd.C_drewN ?_ _) | (with_reducible refine Kd.C_drew ?_))); (case side4 => exact HC3.out); rintro e w14 ⟨v184, v187, rfl, ho0, ho1, hb⟩; have n0_ := Aside0.mk (Kd.S_elder' (by (with_reducible repeat (first | apply Kd.S_alloc | apply Kd.S_drewN | apply Kd.S_drew)); exact HO174.out) (Kd.R_base ho1) hb); have n1_ := Aside0.mk (Kd.S_elder' (by (with_reducible repeat (first | apply Kd.S_alloc | apply Kd.S_drewN | apply Kd.S_drew)); exact HO180.out) (Kd.S_base ho0) hb); have n2_ := Aside0.mk (Kd.R_elder' (by (with_reducible repeat (first | apply Kd.R_alloc | apply Kd.R_drewN | apply Kd.R_drew)); exact HO182.out) (Kd.R_base ho1) hb); have n3_ := Aside0.mk (Kd.S_lower (Kd.S_new' ho0 (Kd.S_lt (by (with_reducible repeat (first | apply Kd.S_alloc | apply Kd.S_drewN | apply Kd.S_drew)); exact HO180.out))) (below_size (by repeat (first | (with_reducible first | exact HB.out | apply below_alloc | apply pw_below_drewN | apply below_drew1) | exact HB.out)))); have n4_ := Aside0.mk (Kd.R_lower (Kd.R_new' ho1 (Kd.R_lt (by (with_reducible repeat (first | apply Kd.R_alloc | apply Kd.R_drewN | apply Kd.R_drew)); exact HO182.out))) (below_size (by repeat (first | (with_reducible first | exact HB.out | apply below_alloc | apply pw_below_drewN | apply below_drew1) | exact HB.out)))); have n5_ := Aside0.mk (below_step (by repeat (first | (with_reducible first | exact HB.out | apply below_alloc | apply pw_below_drewN | apply below_drew1) | exact HB.out)) hb); clear HO174; clear HO180; clear HO182; clear HB; have HO174 := n0_; have HO180 := n1_; have HO182 := n2_; have HO185 := n3_; have HO188 := n4_; have HB := n5_; clear n0_ n1_ n2_ n3_ n4_ n5_; (try clear hb); (try clear hb2); (try clear hk); (try clear hi); (try clear ho0); (try clear ho1)) | ((with_reducible refine gate_dst (N := 14) rfl ?_); (try (refine gate_guard (by rfl) ?_; dsimp only)); refine box_event ?hg (N := 14) ?hd (cs := #[.slice none 0 0, .slice none 0 0, .int .i64 0, .int .i64 0]) (t := 32) ?hr ?_; (case hd => rfl); (case hg => rfl); (case hr => first | (go_simp; done) | (go_simp; rfl)); intro gb191 hg w15 hbox hb; have n0_ := Aside0.mk (Kd.S_below (by (with_reducible repeat (first | apply Kd.S_alloc | apply Kd.S_drewN | apply Kd.S_drew)); exact HO174.out) hb); have n1_ := Aside0.mk (Kd.S_below (by (with_reducible repeat (first | apply Kd.S_alloc | apply Kd.S_drewN | apply Kd.S_drew)); exact HO180.out) hb); have n2_ := Aside0.mk (Kd.R_below (by (with_reducible repeat (first | apply Kd.R_alloc | apply Kd.R_drewN | apply Kd.R_drew)); exact HO182.out) hb); have n3_ := Aside0.mk (Kd.S_below (by (with_reducible repeat (first | apply Kd.S_alloc | apply Kd.S_drewN | apply Kd.S_drew)); exact HO185.out) hb); have n4_ := Aside0.mk (Kd.R_below (by (with_reducible repeat (first | apply Kd.R_alloc | apply Kd.R_drewN | apply Kd.R_drew)); exact HO188.out) hb); have n5_ := Aside0.mk (below_step (by repeat (first | (with_reducible first | exact HB.out | apply below_alloc | apply pw_below_drewN | apply below_drew1) | exact HB.out)) hb); have n6_ := Aside0.mk (hbox); have n7_ := Aside0.mk ((by rw [hg]; exact (below_size (by repeat (first | (with_reducible first | exact HB.out | apply below_alloc | apply pw_below_drewN | apply below_drew1) | exact HB.out))) : w.heap.size ≤ gb191)); have n8_ := Aside0.mk ((by rw [hg]; exact (below_size (by repeat (first | (with_reducible first | exact HB.out | apply below_alloc | apply pw_below_drewN | apply below_drew1) | exact HB.out))) : w.heap.size ≤ gb191)); clear HO174; clear HO180; clear HO182; clear HO185; clear HO188; clear HB; have HO174 := n0_; have HO180 := n1_; have HO182 := n2_; have HO185 := n3_; have HO188 := n4_; have HB := n5_; have BK191 := n6_; have GW191 := n7_; have GE191 := n8_; clear n0_ n1_ n2_ n3_ n4_ n5_ n6_ n7_ n8_; clear hb hbox hg; obtain ⟨Ao16, co16, eo16⟩ := Kd.S_slice HO185.out; subst eo16; have hcz17_0 : w15.cell? ⟨gb191, 0, none⟩ = some (.slice none 0 0) := (blk_cell BK191.out 0).trans rfl; have hcz17_1 : w15.cell? ⟨gb191, 1, none⟩ = some (.slice none 0 0) := (blk_cell BK191.out 1).trans rfl; have hcz17_2 : w15.cell? ⟨gb191, 2, none⟩ = some (.int .i64 0) := (blk_cell BK191.out 2).trans rfl; have hcz17_3 : w15.cell? ⟨gb191, 3, none⟩ = some (.int .i64 0) := (blk_cell BK191.out 3).trans rfl; have hfz17_0 := blk_frozen BK191.out 0; have hfz17_1 := blk_frozen BK191.out 1; have hfz17_2 := blk_frozen BK191.out 2; have hfz17_3 := blk_frozen BK191.out 3; obtain ⟨Ao18, co18, eo18⟩ := Kd.R_slice HO188.out; subst eo18)); try go_wp2_with (first | (go_at_call 13; (with_reducible refine (warplaw8_Keys.calls k _ _ l0 t172 _ ?side1 ?side2 A8.out).mono ?_); (case side1 => repeat (first | exact HR0.out | (with_reducible refine Kd.C_alloc ?_ _) | (with_reducible refine Kd.C_drewN ?_ _) | (with_reducible refine Kd.C_drew ?_))); (case side2 => exact HC0.out); rintro e w11 ⟨v173, rfl, ho0, hb⟩; have n0_ := Aside0.mk (Kd.S_lower ho0 (below_size (by repeat (first | (with_reducible first | exact HB.out | apply below_alloc | apply pw_below_drewN | apply below_drew1) | exact HB.out)))); have n1_ := Aside0.mk (below_step (by repeat (first | (with_reducible first | exact HB.out | apply below_alloc | apply pw_below_drewN | apply below_drew1) | exact HB.out)) hb); clear HB; have HO174 := n0_; have HB := n1_; clear n0_ n1_; (try clear hb); (try clear hb2); (try clear hk); (try clear hi); (try clear ho0); obtain ⟨Ao12, co12, eo12⟩ := Kd.S_slice HO174.out; subst eo12) | (go_at_call 9; (with_reducible refine (table_Play.calls _ _ t172 (Int.tmod (wrap64 (a1)) 40) (Int.tmod (wrap64 (a2)) 70) _ _ l3 t175 t176 t177 t178 _ ?side1 ?side2 ?side3 ?side4 A9.out).mono ?_); (case side1 => repeat (first | exact (Kd.S_reads' HO174.out).2.2 | (with_reducible refine Kd.C_alloc ?_ _) | (with_reducible refine Kd.C_drewN ?_ _) | (with_reducible refine Kd.C_drew ?_))); (case side2 => exact (Kd.S_reads' HO174.out).2.1); (case side3 => repeat (first | exact (Kd.C_below HR3.out HB.out) | (with_reducible refine Kd.C_alloc ?_ _) | (with_reducible refine Kd.C_drewN ?_ _) | (with_reducible refine Kd.C_drew ?_))); (case side4 => exact HC3.out); rintro e w13 ⟨v179, v181, rfl, ho0, ho1, hb⟩; have n0_ := Aside0.mk (Kd.S_elder' (by (with_reducible repeat (first | apply Kd.S_alloc | apply Kd.S_drewN | apply Kd.S_drew)); exact HO174.out) (Kd.R_base ho1) hb); have n1_ := Aside0.mk (Kd.S_lower ho0 (below_size (by repeat (first | (with_reducible first | exact HB.out | apply below_alloc | apply pw_below_drewN | apply below_drew1) | exact HB.out)))); have n2_ := Aside0.mk (Kd.R_lower ho1 (below_size (by repeat (first | (with_reducible first | exact HB.out | apply below_alloc | apply pw_below_drewN | apply below_drew1) | exact HB.out)))); have n3_ := Aside0.mk (below_step (by repeat (first | (with_reducible first | exact HB.out | apply below_alloc | apply pw_below_drewN | apply below_drew1) | exact HB.out)) hb); clear HO174; clear HB; have HO174 := n0_; have HO180 := n1_; have HO182 := n2_; have HB := n3_; clear n0_ n1_ n2_ n3_; (try clear hb); (try clear hb2); (try clear hk); (try clear hi); (try clear ho0); (try clear ho1)) | (go_at_call 10; (with_reducible refine (warpref1_Table.calls _ _ t172 (Int.tmod (wrap64 (a1)) 40) (Int.tmod (wrap64 (a2)) 70) _ _ l3 t183 t186 t189 t190 _ ?side1 ?side2 ?side3 ?side4 A10.out).mono ?_); (case side1 => repeat (first | exact (Kd.S_reads' HO174.out).2.2 | (with_reducible refine Kd.C_alloc ?_ _) | (with_reducible refine Kd.C_drewN ?_ _) | (with_reducible refine Kd.C_drew ?_))); (case side2 => exact (Kd.S_reads' HO174.out).2.1); (case side3 => repeat (first | exact (Kd.C_below HR3.out HB.out) | (with_reducible refine Kd.C_alloc ?_ _) | (with_reducible refine Kd.C_drewN ?_ _) | (with_reducible refine Kd.C_drew ?_))); (case side4 => exact HC3.out); rintro e w14 ⟨v184, v187, rfl, ho0, ho1, hb⟩; have n0_ := Aside0.mk (Kd.S_elder' (by (with_reducible repeat (first | apply Kd.S_alloc | apply Kd.S_drewN | apply Kd.S_drew)); exact HO174.out) (Kd.R_base ho1) hb); have n1_ := Aside0.mk (Kd.S_elder' (by (with_reducible repeat (first | apply Kd.S_alloc | apply Kd.S_drewN | apply Kd.S_drew)); exact HO180.out) (Kd.S_base ho0) hb); have n2_ := Aside0.mk (Kd.R_elder' (by (with_reducible repeat (first | apply Kd.R_alloc | apply Kd.R_drewN | apply Kd.R_drew)); exact HO182.out) (Kd.R_base ho1) hb); have n3_ := Aside0.mk (Kd.S_lower (Kd.S_new' ho0 (Kd.S_lt (by (with_reducible repeat (first | apply Kd.S_alloc | apply Kd.S_drewN | apply Kd.S_drew)); exact HO180.out))) (below_size (by repeat (first | (with_reducible first | exact HB.out | apply below_alloc | apply pw_below_drewN | apply below_drew1) | exact HB.out)))); have n4_ := Aside0.mk (Kd.R_lower (Kd.R_new' ho1 (Kd.R_lt (by (with_reducible repeat (first | apply Kd.R_alloc | apply Kd.R_drewN | apply Kd.R_drew)); exact HO182.out))) (below_size (by repeat (first | (with_reducible first | exact HB.out | apply below_alloc | apply pw_below_drewN | apply below_drew1) | exact HB.out)))); have n5_ := Aside0.mk (below_step (by repeat (first | (with_reducible first | exact HB.out | apply below_alloc | apply pw_below_drewN | apply below_drew1) | exact HB.out)) hb); clear HO174; clear HO180; clear HO182; clear HB; have HO174 := n0_; have HO180 := n1_; have HO182 := n2_; have HO185 := n3_; have HO188 := n4_; have HB := n5_; clear n0_ n1_ n2_ n3_ n4_ n5_; (try clear hb); (try clear hb2); (try clear hk); (try clear hi); (try clear ho0); (try clear ho1)) | ((with_reducible refine gate_dst (N := 14) rfl ?_); (try (refine gate_guard (by rfl) ?_; dsimp only)); refine box_event ?hg (N := 14) ?hd (cs := #[.slice none 0 0, .slice none 0 0, .int .i64 0, .int .i64 0]) (t := 32) ?hr ?_; (case hd => rfl); (case hg => rfl); (case hr => first | (go_simp; done) | (go_simp; rfl)); intro gb191 hg w15 hbox hb; have n0_ := Aside0.mk (Kd.S_below (by (with_reducible repeat (first | apply Kd.S_alloc | apply Kd.S_drewN | apply Kd.S_drew)); exact HO174.out) hb); have n1_ := Aside0.mk (Kd.S_below (by (with_reducible repeat (first | apply Kd.S_alloc | apply Kd.S_drewN | apply Kd.S_drew)); exact HO180.out) hb); have n2_ := Aside0.mk (Kd.R_below (by (with_reducible repeat (first | apply Kd.R_alloc | apply Kd.R_drewN | apply Kd.R_drew)); exact HO182.out) hb); have n3_ := Aside0.mk (Kd.S_below (by (with_reducible repeat (first | apply Kd.S_alloc | apply Kd.S_drewN | apply Kd.S_drew)); exact HO185.out) hb); have n4_ := Aside0.mk (Kd.R_below (by (with_reducible repeat (first | apply Kd.R_alloc | apply Kd.R_drewN | apply Kd.R_drew)); exact HO188.out) hb); have n5_ := Aside0.mk (below_step (by repeat (first | (with_reducible first | exact HB.out | apply below_alloc | apply pw_below_drewN | apply below_drew1) | exact HB.out)) hb); have n6_ := Aside0.mk (hbox); have n7_ := Aside0.mk ((by rw [hg]; exact (below_size (by repeat (first | (with_reducible first | exact HB.out | apply below_alloc | apply pw_below_drewN | apply below_drew1) | exact HB.out))) : w.heap.size ≤ gb191)); have n8_ := Aside0.mk ((by rw [hg]; exact (below_size (by repeat (first | (with_reducible first | exact HB.out | apply below_alloc | apply pw_below_drewN | apply below_drew1) | exact HB.out))) : w.heap.size ≤ gb191)); clear HO174; clear HO180; clear HO182; clear HO185; clear HO188; clear HB; have HO174 := n0_; have HO180 := n1_; have HO182 := n2_; have HO185 := n3_; have HO188 := n4_; have HB := n5_; have BK191 := n6_; have GW191 := n7_; have GE191 := n8_; clear n0_ n1_ n2_ n3_ n4_ n5_ n6_ n7_ n8_; clear hb hbox hg; obtain ⟨Ao16, co16, eo16⟩ := Kd.S_slice HO185.out; subst eo16; have hcz17_0 : w15.cell? ⟨gb191, 0, none⟩ = some (.slice none 0 0) := (blk_cell BK191.out 0).trans rfl; have hcz17_1 : w15.cell? ⟨gb191, 1, none⟩ = some (.slice none 0 0) := (blk_cell BK191.out 1).trans rfl; have hcz17_2 : w15.cell? ⟨gb191, 2, none⟩ = some (.int .i64 0) := (blk_cell BK191.out 2).trans rfl; have hcz17_3 : w15.cell? ⟨gb191, 3, none⟩ = some (.int .i64 0) := (blk_cell BK191.out 3).trans rfl; have hfz17_0 := blk_frozen BK191.out 0; have hfz17_1 := blk_frozen BK191.out 1; have hfz17_2 := blk_frozen BK191.out 2; have hfz17_3 := blk_frozen BK191.out 3; obtain ⟨Ao18, co18, eo18⟩ := Kd.R_slice HO188.out; subst eo18)))
  go_loopg [15, 16] k (fun kq v15 v16 w' => ∃ (x15_1 : Int) (x16_1 : Int), v15 = .int .i64 x15_1 ∧ v16 = .int .i64 x16_1 ∧ Aside0 (warplaw8_TableMade.l0 kq t172 t175 t176 t177 t178 x15_1 x16_1 t183 t186 t189 t190 = some r) ∧ Aside0 (kq ≤ k) ∧ Aside0 (Kd.S (Kd.slice 26 k26) 24 w' w.heap.size (fun k_ => some k_ ≠ (v181 : Value).ownBlock ∧ some k_ ≠ ((.slice Ao18 t186.length co18) : Value).ownBlock) (.slice Ao12 t172.length co12) t172) ∧ Aside0 (Kd.S (Kd.slice 3 (Kd.int .i64)) 23 w' w.heap.size (fun k_ => some k_ ≠ ((.slice Ao16 t183.length co16) : Value).ownBlock) v179 t175) ∧ Aside0 (Kd.R k26 26 w' w.heap.size (fun k_ => some k_ ≠ ((.slice Ao18 t186.length co18) : Value).ownBlock) v181 t176) ∧ Aside0 (Kd.S (Kd.slice 3 (Kd.int .i64)) 23 w' w.heap.size (fun k_ => some k_ ≠ (v179 : Value).ownBlock) (.slice Ao16 t183.length co16) t183) ∧ Aside0 (Kd.R k26 26 w' w.heap.size (fun k_ => some k_ ≠ (v181 : Value).ownBlock) (.slice Ao18 t186.length co18) t186) ∧ Aside0 (w'.heap[gb191]? = some (.cells #[(.slice Ao16 t183.length co16), (.slice Ao18 t186.length co18), .int .i64 t189, .int .i64 t190] 32 (0, 0))) ∧ Aside0 (Below w.heap.size w w'))
  case atStart => exact ⟨(0), (0), (by first | rfl | (simp; done) | (simp [*]; done)), (by first | rfl | (simp; done) | (simp [*]; done)), H', ⟨Nat.le_refl _⟩, ⟨by (with_reducible repeat (first | apply Kd.S_alloc | apply Kd.S_drewN | apply Kd.S_drew)); exact Kd.S_mono (Kd.S_far (p := ⟨gb191, 3, none⟩) (Kd.S_far (p := ⟨gb191, 2, none⟩) (Kd.S_far (p := ⟨gb191, 1, none⟩) (Kd.S_far (p := ⟨gb191, 0, none⟩) (Kd.S_types HO174.out BK191.out (by decide)) (fun _ hk => hk.2) (.slice Ao16 t183.length co16)) (fun _ hk => hk.2) (.slice Ao18 t186.length co18)) (fun _ hk => hk.2) (.int .i64 t189)) (fun _ hk => hk.2) (.int .i64 t190)) (fun _ hk => ⟨hk.1.1.2, hk.1.2⟩)⟩, ⟨by (with_reducible repeat (first | apply Kd.S_alloc | apply Kd.S_drewN | apply Kd.S_drew)); exact Kd.S_mono (Kd.S_far (p := ⟨gb191, 3, none⟩) (Kd.S_far (p := ⟨gb191, 2, none⟩) (Kd.S_far (p := ⟨gb191, 1, none⟩) (Kd.S_far (p := ⟨gb191, 0, none⟩) (Kd.S_types HO180.out BK191.out (by decide)) (fun _ hk => hk.2) (.slice Ao16 t183.length co16)) (fun _ hk => hk.2) (.slice Ao18 t186.length co18)) (fun _ hk => hk.2) (.int .i64 t189)) (fun _ hk => hk.2) (.int .i64 t190)) (fun _ hk => hk.1.2)⟩, ⟨by (with_reducible repeat (first | apply Kd.R_alloc | apply Kd.R_drewN | apply Kd.R_drew)); exact Kd.R_mono (Kd.R_far (p := ⟨gb191, 3, none⟩) (Kd.R_far (p := ⟨gb191, 2, none⟩) (Kd.R_far (p := ⟨gb191, 1, none⟩) (Kd.R_far (p := ⟨gb191, 0, none⟩) (Kd.R_types HO182.out BK191.out (by decide)) (fun _ hk => hk.2) (.slice Ao16 t183.length co16)) (fun _ hk => hk.2) (.slice Ao18 t186.length co18)) (fun _ hk => hk.2) (.int .i64 t189)) (fun _ hk => hk.2) (.int .i64 t190)) (fun _ hk => hk.1.2)⟩, ⟨by (with_reducible repeat (first | apply Kd.S_alloc | apply Kd.S_drewN | apply Kd.S_drew)); exact Kd.S_mono (Kd.S_far (p := ⟨gb191, 3, none⟩) (Kd.S_far (p := ⟨gb191, 2, none⟩) (Kd.S_far (p := ⟨gb191, 1, none⟩) (Kd.S_far (p := ⟨gb191, 0, none⟩) (Kd.S_types HO185.out BK191.out (by decide)) (fun _ hk => hk.2) (.slice Ao16 t183.length co16)) (fun _ hk => hk.2) (.slice Ao18 t186.length co18)) (fun _ hk => hk.2) (.int .i64 t189)) (fun _ hk => hk.2) (.int .i64 t190)) (fun _ hk => hk.1.2)⟩, ⟨by (with_reducible repeat (first | apply Kd.R_alloc | apply Kd.R_drewN | apply Kd.R_drew)); exact Kd.R_mono (Kd.R_far (p := ⟨gb191, 3, none⟩) (Kd.R_far (p := ⟨gb191, 2, none⟩) (Kd.R_far (p := ⟨gb191, 1, none⟩) (Kd.R_far (p := ⟨gb191, 0, none⟩) (Kd.R_types HO188.out BK191.out (by decide)) (fun _ hk => hk.2) (.slice Ao16 t183.length co16)) (fun _ hk => hk.2) (.slice Ao18 t186.length co18)) (fun _ hk => hk.2) (.int .i64 t189)) (fun _ hk => hk.2) (.int .i64 t190)) (fun _ hk => hk.1.2)⟩, ⟨by (with_reducible repeat (first | refine blk_drewN ?_ _ | refine blk_drew ?_ | refine blk_alloc ?_ _)); refine blk_put (cs := #[.slice Ao16 t183.length co16, .slice Ao18 t186.length co18, .int .i64 t189, .int .i64 0]) ?_ 3 _ rfl; (with_reducible repeat (first | refine blk_drewN ?_ _ | refine blk_drew ?_ | refine blk_alloc ?_ _)); refine blk_put (cs := #[.slice Ao16 t183.length co16, .slice Ao18 t186.length co18, .int .i64 0, .int .i64 0]) ?_ 2 _ rfl; (with_reducible repeat (first | refine blk_drewN ?_ _ | refine blk_drew ?_ | refine blk_alloc ?_ _)); refine blk_put (cs := #[.slice Ao16 t183.length co16, .slice none 0 0, .int .i64 0, .int .i64 0]) ?_ 1 _ rfl; (with_reducible repeat (first | refine blk_drewN ?_ _ | refine blk_drew ?_ | refine blk_alloc ?_ _)); refine blk_put (cs := #[.slice none 0 0, .slice none 0 0, .int .i64 0, .int .i64 0]) ?_ 0 _ rfl; (with_reducible repeat (first | refine blk_drewN ?_ _ | refine blk_drew ?_ | refine blk_alloc ?_ _)); exact BK191.out⟩, ⟨by repeat (first | (with_reducible first | exact HB.out | apply below_alloc | apply pw_below_drewN | apply below_drew1 | refine below_set ?_ GE191.out) | exact HB.out)⟩⟩
  case round =>
   clear H'
   (try clear p2); (try clear c3); (try clear c4); (try clear c5); (try clear c5b0); (try clear c5b1); (try clear p6); (try clear hcz17_0); (try clear hcz17_1); (try clear hcz17_2); (try clear hcz17_3); (try clear hfz17_0); (try clear hfz17_1); (try clear hfz17_2); (try clear hfz17_3)
   obtain ⟨x15_1, x16_1, rfl, rfl, HA, HK1, HO_9, HO_10, HO_11, HO_192000, HO_192001, BK191, HB⟩ := hrel
   cases gk with
   | zero => exact absurd HA.out (by simp [warplaw8_TableMade.l0])
   | succ k1 =>
    have H := HA.out
    clear HA
    simp only [warplaw8_TableMade.l0] at H
    by_cases c19 : x16_1 < (t172.length : Int)
    ·
     rw [if_pos c19] at H
     have c19b0 : decide (x16_1 < (t172.length : Int)) = true := decide_eq_true c19
     clear c19
     by_cases c20 : x16_1 ≥ (t175.length : Int)
     ·
      rw [if_pos c20] at H
      have c20b0 : decide ((t175.length : Int) ≤ x16_1) = true := decide_eq_true c20
      clear c20
      exact absurd (hr_.symm.trans (Option.some.inj H).symm) (by decide)
     ·
      rw [if_neg c20] at H
      have c20b0 : decide ((t175.length : Int) ≤ x16_1) = false := decide_eq_false c20
      clear c20
      by_cases c22 : 0 ≤ x16_1
      ·
       rw [if_pos c22] at H
       have c22b0 : decide (0 ≤ x16_1) = true := decide_eq_true c22
       clear c22
       by_cases c23 : x16_1 < (t175.length : Int)
       ·
        rw [if_pos c23] at H
        have c23b0 : decide (x16_1 < (t175.length : Int)) = true := decide_eq_true c23
        clear c23
        by_cases c24 : ((rd_L4 t175 x16_1).length : Int) = ((rd_L3 t172 x16_1).length : Int)
        ·
         rw [if_pos c24] at H
         have c24b0 : (((rd_L4 t175 x16_1).length : Int) == ((rd_L3 t172 x16_1).length : Int)) = true := beq_iff_eq.mpr c24
         have c24b1 : (((rd_L4 t175 x16_1).length : Int) != ((rd_L3 t172 x16_1).length : Int)) = false := bne_eq_false_iff_eq.mpr c24
         have c24b2 : ((rd_L4 t175 x16_1).length == (rd_L3 t172 x16_1).length) = true := by first | simpa using c24 | (simp at c24 ⊢; omega)
         clear c24
         have H' := Aside0.mk H
         clear H
         obtain ⟨Ao25, co25, eo25⟩ := Kd.S_slice HO_10.out
         subst eo25
         have p192 : 0 ≤ (x16_1 : Int) := of_decide_eq_true (by first | (with_reducible assumption) | assumption)
         have q192 : x16_1 < (t175.length : Int) := of_decide_eq_true (by first | (with_reducible assumption) | assumption)
         obtain ⟨ad192, A192_0, c192_0, e192, hx192_0, hl192_0, hi192_0⟩ := at_L4 (Kd.S_reads' HO_10.out).2.2 x16_1 p192 q192
         cases e192
         obtain ⟨ce192, hce192, hMe192, hcc192⟩ := Kd.S_get HO_10.out [] x16_1 p192 (by first | exact q192 | exact of_decide_eq_true (by first | (with_reducible assumption) | assumption) | (have e_ := (Kd.S_reads' HO_10.out).1; omega))
         obtain ⟨ve192_0, rfl, ge192_0⟩ := hMe192
         have hv192_0 := hcc192 0 _ rfl
         rw [Nat.add_zero, show ((Kd.slice 3 (Kd.int .i64))).sz = 1 from rfl, Nat.mul_one] at hv192_0
         replace hv192_0 := Option.some.inj (hv192_0.symm.trans hx192_0)
         rw [hv192_0] at ge192_0
         have HL192_0 := Aside0.mk (show Kd.R (Kd.int .i64) 3 _ _ _ _ (rd_L4 t175 x16_1) from ge192_0)
         clear hv192_0 ge192_0
         clear hcc192 hce192
         have HR192_0 := Aside0.mk hi192_0
         have HC192_0 := Aside0.mk hl192_0
         clear hi192_0 hl192_0
         replace p192 := eq_true p192
         replace q192 := eq_true q192
         have p193 : 0 ≤ (x16_1 : Int) := of_decide_eq_true (by first | (with_reducible assumption) | assumption)
         have q193 : x16_1 < (t172.length : Int) := of_decide_eq_true (by first | (with_reducible assumption) | assumption)
         obtain ⟨ad193, A193_0, c193_0, e193, hx193_0, hl193_0, hi193_0⟩ := at_L3 (Kd.S_reads' HO_9.out).2.2 x16_1 p193 q193
         cases e193
         obtain ⟨ce193, hce193, hMe193, hcc193⟩ := Kd.S_get HO_9.out [] x16_1 p193 (by first | exact q193 | exact of_decide_eq_true (by first | (with_reducible assumption) | assumption) | (have e_ := (Kd.S_reads' HO_9.out).1; omega))
         obtain ⟨ve193_0, rfl, ge193_0⟩ := hMe193
         have hv193_0 := hcc193 0 _ rfl
         rw [Nat.add_zero, show ((Kd.slice 26 k26)).sz = 1 from rfl, Nat.mul_one] at hv193_0
         replace hv193_0 := Option.some.inj (hv193_0.symm.trans hx193_0)
         rw [hv193_0] at ge193_0
         have HL193_0 := Aside0.mk (show Kd.R k26 26 _ _ _ _ (rd_L3 t172 x16_1) from ge193_0)
         clear hv193_0 ge193_0
         clear hcc193 hce193
         have HR193_0 := Aside0.mk hi193_0
         have HC193_0 := Aside0.mk hl193_0
         clear hi193_0 hl193_0
         replace p193 := eq_true p193
         replace q193 := eq_true q193
         have p194 : 0 ≤ (x16_1 : Int) := of_decide_eq_true (by first | (with_reducible assumption) | assumption)
         have q194 : x16_1 < (t172.length : Int) := of_decide_eq_true (by first | (with_reducible assumption) | assumption)
         obtain ⟨ad194, A194_0, c194_0, e194, hx194_0, hl194_0, hi194_0⟩ := at_L3 (Kd.S_reads' HO_9.out).2.2 x16_1 p194 q194
         obtain rfl : ad193 = ad194 := (by injection e194)
         obtain ⟨ce194, hce194, hMe194, hcc194⟩ := Kd.S_get HO_9.out [] x16_1 p194 (by first | exact q194 | exact of_decide_eq_true (by first | (with_reducible assumption) | assumption) | (have e_ := (Kd.S_reads' HO_9.out).1; omega))
         obtain ⟨ve194_0, rfl, ge194_0⟩ := hMe194
         have hv194_0 := hcc194 0 _ rfl
         rw [Nat.add_zero, show ((Kd.slice 26 k26)).sz = 1 from rfl, Nat.mul_one] at hv194_0
         replace hv194_0 := Option.some.inj (hv194_0.symm.trans hx194_0)
         rw [hv194_0] at ge194_0
         have HL194_0 := Aside0.mk (show Kd.R k26 26 _ _ _ _ (rd_L3 t172 x16_1) from ge194_0)
         clear hv194_0 ge194_0
         clear hcc194 hce194
         have HR194_0 := Aside0.mk hi194_0
         have HC194_0 := Aside0.mk hl194_0
         clear hi194_0 hl194_0
         replace p194 := eq_true p194
         replace q194 := eq_true q194
         have ea_ := Option.some.inj (hx193_0.symm.trans hx194_0)
         injection ea_ with ea_ en_ ec_
         subst ea_
         subst ec_
         clear en_
         go_wp2
         repeat (go_quiet (fail); try go_wp2)
         go_roundg k1
         case measure => have := HK1.out; omega
         case rel => exact ⟨(wrap64 (x15_1 + ((rd_L3 t172 x16_1).length : Int))), (wrap64 (x16_1 + 1)), (by first | rfl | (simp; done) | (simp [*]; done)), (by first | rfl | (simp; done) | (simp [*]; done)), H', ⟨by have := HK1.out; omega⟩, ⟨by (with_reducible repeat (first | apply Kd.S_alloc | apply Kd.S_drewN | apply Kd.S_drew)); exact HO_9.out⟩, ⟨by (with_reducible repeat (first | apply Kd.S_alloc | apply Kd.S_drewN | apply Kd.S_drew)); exact HO_10.out⟩, ⟨by (with_reducible repeat (first | apply Kd.R_alloc | apply Kd.R_drewN | apply Kd.R_drew)); exact HO_11.out⟩, ⟨by (with_reducible repeat (first | apply Kd.S_alloc | apply Kd.S_drewN | apply Kd.S_drew)); exact HO_192000.out⟩, ⟨by (with_reducible repeat (first | apply Kd.R_alloc | apply Kd.R_drewN | apply Kd.R_drew)); exact HO_192001.out⟩, ⟨by (with_reducible repeat (first | refine blk_drewN ?_ _ | refine blk_drew ?_ | refine blk_alloc ?_ _)); exact BK191.out⟩, ⟨by repeat (first | (with_reducible first | exact HB.out | apply below_alloc | apply pw_below_drewN | apply below_drew1 | refine below_set ?_ GE191.out) | exact HB.out)⟩⟩
        ·
         rw [if_neg c24] at H
         have c24b0 : (((rd_L4 t175 x16_1).length : Int) == ((rd_L3 t172 x16_1).length : Int)) = false := beq_eq_false_iff_ne.mpr c24
         have c24b1 : (((rd_L4 t175 x16_1).length : Int) != ((rd_L3 t172 x16_1).length : Int)) = true := bne_iff_ne.mpr c24
         have c24b2 : ((rd_L4 t175 x16_1).length == (rd_L3 t172 x16_1).length) = false := by first | simpa using c24 | (simp at c24 ⊢; omega)
         exact absurd (hr_.symm.trans (Option.some.inj H).symm) (by decide)
       ·
        rw [if_neg c23] at H
        exact absurd H (by simp)
      ·
       rw [if_neg c22] at H
       exact absurd H (by simp)
    ·
     rw [if_neg c19] at H
     have c19b0 : decide (x16_1 < (t172.length : Int)) = false := decide_eq_false c19
     clear c19
     replace H := Option.bind_eq_some_iff.mp H
     obtain ⟨t195, A270, H⟩ := H
     replace H : (if t195 = true then ((warplaw8_same.f k1 t176 t186).bind fun t196 => (if t196 = true then (if t177 = (wrap64 (3 * x15_1)) then (if t178 = 0 then ((warplaw8_awake.f k1).bind fun t197 => (some t197)) else (some false)) else (some false)) else (some false))) else (some false)) = some r := H
     have A27 := Aside0.mk A270
     clear A270
     by_cases c28 : t195 = true
     ·
      subst c28
      have H1 : ((warplaw8_same.f k1 t176 t186).bind fun t196 => (if t196 = true then (if t177 = (wrap64 (3 * x15_1)) then (if t178 = 0 then ((warplaw8_awake.f k1).bind fun t197 => (some t197)) else (some false)) else (some false)) else (some false))) = some r := by rw [if_pos rfl] at H; exact H
      clear H
      have H := H1
      clear H1
      replace H := Option.bind_eq_some_iff.mp H
      obtain ⟨t196, A290, H⟩ := H
      replace H : (if t196 = true then (if t177 = (wrap64 (3 * x15_1)) then (if t178 = 0 then ((warplaw8_awake.f k1).bind fun t197 => (some t197)) else (some false)) else (some false)) else (some false)) = some r := H
      have A29 := Aside0.mk A290
      clear A290
      by_cases c30 : t196 = true
      ·
       subst c30
       have H1 : (if t177 = (wrap64 (3 * x15_1)) then (if t178 = 0 then ((warplaw8_awake.f k1).bind fun t197 => (some t197)) else (some false)) else (some false)) = some r := by rw [if_pos rfl] at H; exact H
       clear H
       have H := H1
       clear H1
       by_cases c31 : t177 = (wrap64 (3 * x15_1))
       ·
        rw [if_pos c31] at H
        have c31b0 : (t177 == (wrap64 (3 * x15_1))) = true := beq_iff_eq.mpr c31
        have c31b1 : (t177 != (wrap64 (3 * x15_1))) = false := bne_eq_false_iff_eq.mpr c31
        clear c31
        by_cases c32 : t178 = 0
        ·
         rw [if_pos c32] at H
         have c32b0 : (t178 == 0) = true := beq_iff_eq.mpr c32
         have c32b1 : (t178 != 0) = false := bne_eq_false_iff_eq.mpr c32
         clear c32
         replace H := Option.bind_eq_some_iff.mp H
         obtain ⟨t197, A330, H⟩ := H
         replace H : (some t197) = some r := H
         have A33 := Aside0.mk A330
         clear A330
         obtain rfl := Option.some.inj H
         have hcz34_0 : wr.cell? ⟨gb191, 0, none⟩ = some (.slice Ao16 t183.length co16) := (blk_cell BK191.out 0).trans rfl
         have hcz34_1 : wr.cell? ⟨gb191, 1, none⟩ = some (.slice Ao18 t186.length co18) := (blk_cell BK191.out 1).trans rfl
         have hcz34_2 : wr.cell? ⟨gb191, 2, none⟩ = some (.int .i64 t189) := (blk_cell BK191.out 2).trans rfl
         have hcz34_3 : wr.cell? ⟨gb191, 3, none⟩ = some (.int .i64 t190) := (blk_cell BK191.out 3).trans rfl
         have hfz34_0 := blk_frozen BK191.out 0
         have hfz34_1 := blk_frozen BK191.out 1
         have hfz34_2 := blk_frozen BK191.out 2
         have hfz34_3 := blk_frozen BK191.out 3
         obtain ⟨Ao35, co35, eo35⟩ := Kd.S_slice HO_10.out
         subst eo35
         go_wp2_with (first | (go_at_call 11; (with_reducible refine (warplaw8_lists.calls k1 _ _ t175 _ _ t183 true _ ?side1 ?side2 ?side3 ?side4 A27.out).mono ?_); (case side1 => repeat (first | exact (Kd.S_reads' HO_10.out).2.2 | (with_reducible refine Kd.C_alloc ?_ _) | (with_reducible refine Kd.C_drewN ?_ _) | (with_reducible refine Kd.C_drew ?_))); (case side2 => exact (Kd.S_reads' HO_10.out).2.1); (case side3 => repeat (first | exact (Kd.S_reads' HO_192000.out).2.2 | (with_reducible refine Kd.C_alloc ?_ _) | (with_reducible refine Kd.C_drewN ?_ _) | (with_reducible refine Kd.C_drew ?_))); (case side4 => exact (Kd.S_reads' HO_192000.out).2.1); rintro e w' ⟨rfl, ⟨nd, rfl⟩⟩; (try first | exact ⟨rfl, _, World.drewN_drewN _ _ _⟩ | exact ⟨rfl, _, Eq.trans (World.drewN_drewN _ _ _) (congrArg (World.drewN _) (Nat.add_assoc _ _ _))⟩); obtain ⟨Ao36, co36, eo36⟩ := Kd.R_slice HO_11.out; subst eo36) | (go_at_call 12; (with_reducible refine (warplaw8_same.calls k1 _ _ t176 _ _ t186 true _ ?side1 ?side2 ?side3 ?side4 A29.out).mono ?_); (case side1 => repeat (first | exact (Kd.R_reads' HO_11.out).2.2 | (with_reducible refine Kd.C_alloc ?_ _) | (with_reducible refine Kd.C_drewN ?_ _) | (with_reducible refine Kd.C_drew ?_))); (case side2 => exact (Kd.R_reads' HO_11.out).2.1); (case side3 => repeat (first | exact (Kd.R_reads' HO_192001.out).2.2 | (with_reducible refine Kd.C_alloc ?_ _) | (with_reducible refine Kd.C_drewN ?_ _) | (with_reducible refine Kd.C_drew ?_))); (case side4 => exact (Kd.R_reads' HO_192001.out).2.1); rintro e w' ⟨rfl, ⟨nd, rfl⟩⟩; (try first | exact ⟨rfl, _, World.drewN_drewN _ _ _⟩ | exact ⟨rfl, _, Eq.trans (World.drewN_drewN _ _ _) (congrArg (World.drewN _) (Nat.add_assoc _ _ _))⟩)) | (go_at_call 8; (with_reducible refine (warplaw8_awake.calls k1  t197 _ A33.out).mono ?_); rintro e w37 ⟨rfl, hb⟩; have n0_ := Aside0.mk (Kd.S_below (by (with_reducible repeat (first | apply Kd.S_alloc | apply Kd.S_drewN | apply Kd.S_drew)); exact HO_9.out) hb); have n1_ := Aside0.mk (Kd.S_below (by (with_reducible repeat (first | apply Kd.S_alloc | apply Kd.S_drewN | apply Kd.S_drew)); exact HO_10.out) hb); have n2_ := Aside0.mk (Kd.R_below (by (with_reducible repeat (first | apply Kd.R_alloc | apply Kd.R_drewN | apply Kd.R_drew)); exact HO_11.out) hb); have n3_ := Aside0.mk (Kd.S_below (by (with_reducible repeat (first | apply Kd.S_alloc | apply Kd.S_drewN | apply Kd.S_drew)); exact HO_192000.out) hb); have n4_ := Aside0.mk (Kd.R_below (by (with_reducible repeat (first | apply Kd.R_alloc | apply Kd.R_drewN | apply Kd.R_drew)); exact HO_192001.out) hb); have n5_ := Aside0.mk (blk_below (g := gb191) (o := .cells #[.slice Ao16 t183.length co16, .slice Ao18 t186.length co18, .int .i64 t189, .int .i64 t190] 32 (0, 0)) (by (with_reducible repeat (first | refine blk_drewN ?_ _ | refine blk_drew ?_ | refine blk_alloc ?_ _)); exact BK191.out) hb); have n6_ := Aside0.mk (below_step (by repeat (first | (with_reducible first | exact HB.out | apply below_alloc | apply pw_below_drewN | apply below_drew1 | refine below_set ?_ GE191.out) | exact HB.out)) hb); clear HO_9; clear HO_10; clear HO_11; clear HO_192000; clear HO_192001; clear BK191; clear HB; have HO_9 := n0_; have HO_10 := n1_; have HO_11 := n2_; have HO_192000 := n3_; have HO_192001 := n4_; have BK191 := n5_; have HB := n6_; clear n0_ n1_ n2_ n3_ n4_ n5_ n6_; (try clear hb); (try clear hb2); (try clear hk); (try clear hi)))
         repeat (go_quiet (first | (go_at_call 11; (with_reducible refine (warplaw8_lists.calls k1 _ _ t175 _ _ t183 true _ ?side1 ?side2 ?side3 ?side4 A27.out).mono ?_); (case side1 => repeat (first | exact (Kd.S_reads' HO_10.out).2.2 | (with_reducible refine Kd.C_alloc ?_ _) | (with_reducible refine Kd.C_drewN ?_ _) | (with_reducible refine Kd.C_drew ?_))); (case side2 => exact (Kd.S_reads' HO_10.out).2.1); (case side3 => repeat (first | exact (Kd.S_reads' HO_192000.out).2.2 | (with_reducible refine Kd.C_alloc ?_ _) | (with_reducible refine Kd.C_drewN ?_ _) | (with_reducible refine Kd.C_drew ?_))); (case side4 => exact (Kd.S_reads' HO_192000.out).2.1); rintro e w' ⟨rfl, ⟨nd, rfl⟩⟩; (try first | exact ⟨rfl, _, World.drewN_drewN _ _ _⟩ | exact ⟨rfl, _, Eq.trans (World.drewN_drewN _ _ _) (congrArg (World.drewN _) (Nat.add_assoc _ _ _))⟩); obtain ⟨Ao36, co36, eo36⟩ := Kd.R_slice HO_11.out; subst eo36) | (go_at_call 12; (with_reducible refine (warplaw8_same.calls k1 _ _ t176 _ _ t186 true _ ?side1 ?side2 ?side3 ?side4 A29.out).mono ?_); (case side1 => repeat (first | exact (Kd.R_reads' HO_11.out).2.2 | (with_reducible refine Kd.C_alloc ?_ _) | (with_reducible refine Kd.C_drewN ?_ _) | (with_reducible refine Kd.C_drew ?_))); (case side2 => exact (Kd.R_reads' HO_11.out).2.1); (case side3 => repeat (first | exact (Kd.R_reads' HO_192001.out).2.2 | (with_reducible refine Kd.C_alloc ?_ _) | (with_reducible refine Kd.C_drewN ?_ _) | (with_reducible refine Kd.C_drew ?_))); (case side4 => exact (Kd.R_reads' HO_192001.out).2.1); rintro e w' ⟨rfl, ⟨nd, rfl⟩⟩; (try first | exact ⟨rfl, _, World.drewN_drewN _ _ _⟩ | exact ⟨rfl, _, Eq.trans (World.drewN_drewN _ _ _) (congrArg (World.drewN _) (Nat.add_assoc _ _ _))⟩)) | (go_at_call 8; (with_reducible refine (warplaw8_awake.calls k1  t197 _ A33.out).mono ?_); rintro e w37 ⟨rfl, hb⟩; have n0_ := Aside0.mk (Kd.S_below (by (with_reducible repeat (first | apply Kd.S_alloc | apply Kd.S_drewN | apply Kd.S_drew)); exact HO_9.out) hb); have n1_ := Aside0.mk (Kd.S_below (by (with_reducible repeat (first | apply Kd.S_alloc | apply Kd.S_drewN | apply Kd.S_drew)); exact HO_10.out) hb); have n2_ := Aside0.mk (Kd.R_below (by (with_reducible repeat (first | apply Kd.R_alloc | apply Kd.R_drewN | apply Kd.R_drew)); exact HO_11.out) hb); have n3_ := Aside0.mk (Kd.S_below (by (with_reducible repeat (first | apply Kd.S_alloc | apply Kd.S_drewN | apply Kd.S_drew)); exact HO_192000.out) hb); have n4_ := Aside0.mk (Kd.R_below (by (with_reducible repeat (first | apply Kd.R_alloc | apply Kd.R_drewN | apply Kd.R_drew)); exact HO_192001.out) hb); have n5_ := Aside0.mk (blk_below (g := gb191) (o := .cells #[.slice Ao16 t183.length co16, .slice Ao18 t186.length co18, .int .i64 t189, .int .i64 t190] 32 (0, 0)) (by (with_reducible repeat (first | refine blk_drewN ?_ _ | refine blk_drew ?_ | refine blk_alloc ?_ _)); exact BK191.out) hb); have n6_ := Aside0.mk (below_step (by repeat (first | (with_reducible first | exact HB.out | apply below_alloc | apply pw_below_drewN | apply below_drew1 | refine below_set ?_ GE191.out) | exact HB.out)) hb); clear HO_9; clear HO_10; clear HO_11; clear HO_192000; clear HO_192001; clear BK191; clear HB; have HO_9 := n0_; have HO_10 := n1_; have HO_11 := n2_; have HO_192000 := n3_; have HO_192001 := n4_; have BK191 := n5_; have HB := n6_; clear n0_ n1_ n2_ n3_ n4_ n5_ n6_; (try clear hb); (try clear hb2); (try clear hk); (try clear hi))); try go_wp2_with (first | (go_at_call 11; (with_reducible refine (warplaw8_lists.calls k1 _ _ t175 _ _ t183 true _ ?side1 ?side2 ?side3 ?side4 A27.out).mono ?_); (case side1 => repeat (first | exact (Kd.S_reads' HO_10.out).2.2 | (with_reducible refine Kd.C_alloc ?_ _) | (with_reducible refine Kd.C_drewN ?_ _) | (with_reducible refine Kd.C_drew ?_))); (case side2 => exact (Kd.S_reads' HO_10.out).2.1); (case side3 => repeat (first | exact (Kd.S_reads' HO_192000.out).2.2 | (with_reducible refine Kd.C_alloc ?_ _) | (with_reducible refine Kd.C_drewN ?_ _) | (with_reducible refine Kd.C_drew ?_))); (case side4 => exact (Kd.S_reads' HO_192000.out).2.1); rintro e w' ⟨rfl, ⟨nd, rfl⟩⟩; (try first | exact ⟨rfl, _, World.drewN_drewN _ _ _⟩ | exact ⟨rfl, _, Eq.trans (World.drewN_drewN _ _ _) (congrArg (World.drewN _) (Nat.add_assoc _ _ _))⟩); obtain ⟨Ao36, co36, eo36⟩ := Kd.R_slice HO_11.out; subst eo36) | (go_at_call 12; (with_reducible refine (warplaw8_same.calls k1 _ _ t176 _ _ t186 true _ ?side1 ?side2 ?side3 ?side4 A29.out).mono ?_); (case side1 => repeat (first | exact (Kd.R_reads' HO_11.out).2.2 | (with_reducible refine Kd.C_alloc ?_ _) | (with_reducible refine Kd.C_drewN ?_ _) | (with_reducible refine Kd.C_drew ?_))); (case side2 => exact (Kd.R_reads' HO_11.out).2.1); (case side3 => repeat (first | exact (Kd.R_reads' HO_192001.out).2.2 | (with_reducible refine Kd.C_alloc ?_ _) | (with_reducible refine Kd.C_drewN ?_ _) | (with_reducible refine Kd.C_drew ?_))); (case side4 => exact (Kd.R_reads' HO_192001.out).2.1); rintro e w' ⟨rfl, ⟨nd, rfl⟩⟩; (try first | exact ⟨rfl, _, World.drewN_drewN _ _ _⟩ | exact ⟨rfl, _, Eq.trans (World.drewN_drewN _ _ _) (congrArg (World.drewN _) (Nat.add_assoc _ _ _))⟩)) | (go_at_call 8; (with_reducible refine (warplaw8_awake.calls k1  t197 _ A33.out).mono ?_); rintro e w37 ⟨rfl, hb⟩; have n0_ := Aside0.mk (Kd.S_below (by (with_reducible repeat (first | apply Kd.S_alloc | apply Kd.S_drewN | apply Kd.S_drew)); exact HO_9.out) hb); have n1_ := Aside0.mk (Kd.S_below (by (with_reducible repeat (first | apply Kd.S_alloc | apply Kd.S_drewN | apply Kd.S_drew)); exact HO_10.out) hb); have n2_ := Aside0.mk (Kd.R_below (by (with_reducible repeat (first | apply Kd.R_alloc | apply Kd.R_drewN | apply Kd.R_drew)); exact HO_11.out) hb); have n3_ := Aside0.mk (Kd.S_below (by (with_reducible repeat (first | apply Kd.S_alloc | apply Kd.S_drewN | apply Kd.S_drew)); exact HO_192000.out) hb); have n4_ := Aside0.mk (Kd.R_below (by (with_reducible repeat (first | apply Kd.R_alloc | apply Kd.R_drewN | apply Kd.R_drew)); exact HO_192001.out) hb); have n5_ := Aside0.mk (blk_below (g := gb191) (o := .cells #[.slice Ao16 t183.length co16, .slice Ao18 t186.length co18, .int .i64 t189, .int .i64 t190] 32 (0, 0)) (by (with_reducible repeat (first | refine blk_drewN ?_ _ | refine blk_drew ?_ | refine blk_alloc ?_ _)); exact BK191.out) hb); have n6_ := Aside0.mk (below_step (by repeat (first | (with_reducible first | exact HB.out | apply below_alloc | apply pw_below_drewN | apply below_drew1 | refine below_set ?_ GE191.out) | exact HB.out)) hb); clear HO_9; clear HO_10; clear HO_11; clear HO_192000; clear HO_192001; clear BK191; clear HB; have HO_9 := n0_; have HO_10 := n1_; have HO_11 := n2_; have HO_192000 := n3_; have HO_192001 := n4_; have BK191 := n5_; have HB := n6_; clear n0_ n1_ n2_ n3_ n4_ n5_ n6_; (try clear hb); (try clear hb2); (try clear hk); (try clear hi))))
         go_ret
         exact ⟨by first | rfl | (simp [errW_none, errW_some] <;> rfl) | (simp [*, errW_none, errW_some] <;> rfl), by repeat (first | (with_reducible first | exact HB.out | apply below_alloc | apply pw_below_drewN | apply below_drew1 | refine below_set ?_ GE191.out) | exact HB.out)⟩
        ·
         rw [if_neg c32] at H
         have c32b0 : (t178 == 0) = false := beq_eq_false_iff_ne.mpr c32
         have c32b1 : (t178 != 0) = true := bne_iff_ne.mpr c32
         exact absurd (hr_.symm.trans (Option.some.inj H).symm) (by decide)
       ·
        rw [if_neg c31] at H
        have c31b0 : (t177 == (wrap64 (3 * x15_1))) = false := beq_eq_false_iff_ne.mpr c31
        have c31b1 : (t177 != (wrap64 (3 * x15_1))) = true := bne_iff_ne.mpr c31
        exact absurd (hr_.symm.trans (Option.some.inj H).symm) (by decide)
      ·
       replace c30 := Bool.eq_false_iff.mpr c30
       subst c30
       have H1 : (some false) = some r := by rw [if_neg (show ¬ (false = true) by decide)] at H; exact H
       clear H
       have H := H1
       clear H1
       exact absurd (hr_.symm.trans (Option.some.inj H).symm) (by decide)
     ·
      replace c28 := Bool.eq_false_iff.mpr c28
      subst c28
      have H1 : (some false) = some r := by rw [if_neg (show ¬ (false = true) by decide)] at H; exact H
      clear H
      have H := H1
      clear H1
      exact absurd (hr_.symm.trans (Option.some.inj H).symm) (by decide)

/-- The one plain statement of warplaw8_TableMade. -/
def warplaw8_TableMade.Pure : Prop := ∀ (l0 : List (List Int)) (a1 : Int) (a2 : Int) (l3 : List Int), ((fun l : List (List Int) => l.length ≤ maxLen ∧ ∀ x ∈ l, (fun l : List Int => l.length ≤ maxLen ∧ ∀ x ∈ l, (fun n : Int => (Lit.int .u8 n).wf = true) x) x) l0) → ((fun n : Int => (Lit.int .u8 n).wf = true) a1) → ((fun n : Int => (Lit.int .u8 n).wf = true) a2) → ((fun l : List Int => l.length ≤ maxLen ∧ ∀ x ∈ l, (fun n : Int => (Lit.int .i64 n).wf = true) x) l3) → ∃ k, warplaw8_TableMade.f k l0 a1 a2 l3 = some true

end Go.Proofs.YtmgfkdnoclmbgaaDoor.P
