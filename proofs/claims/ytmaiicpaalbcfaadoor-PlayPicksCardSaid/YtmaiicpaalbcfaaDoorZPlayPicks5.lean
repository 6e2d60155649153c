/-
The proofs that YtmaiicpaalbcfaaDoorLawPlayPicks needs, out of the texts of this seat; conditions: those named in each theorem.
-/
import Derived.Test.YtmaiicpaalbcfaaDoorZPlayPicks4
import Derived.Laws.BitsAllLaws
import Derived.SizedLaws
import Derived.ChangeSlices
import Derived.Test.YtmaiicpaalbcfaaDoorRows
import Derived.WalkKit
import Derived.ProofKit
import Derived.OpenShut
import Derived.ShutString
import Derived.ChangeOld
import Derived.Below
import Derived.ChangeSame
import Derived.ChangeVars
import Derived.JoinedOf
import Derived.RowKitTokens
import Derived.LaidLaws
import Derived.LaidHandle
import Derived.Stop.Joined
section
namespace Go.Proofs.YtmaiicpaalbcfaaDoor.P
open Go.RowKit Go.Proofs.YtmaiicpaalbcfaaDoorW.PrintWords Go.Proofs.YtmaiicpaalbcfaaDoorW.PrintLast Go.Proofs.YtmaiicpaalbcfaaDoorW.PrintMore
attribute [local go_sem] max2_int min2_int max_two min_two max_three min_three max_four min_four   -- for this text's walks alone
set_option linter.unusedVariables false
set_option linter.unusedSimpArgs false
mutual
def warplaw5_PlayPicks.j0 : Nat → List Int → List (List Int) → List Int → List Int → Int → Bool → Option (Bool)
 | 0, _, _, _, _, _, _ => none
 | k + 1, x0, x1, x2, x3, x9, x34 => if x34 = true then ((warplaw5_awake.f k).bind fun t316 => (some t316)) else ((warplaw4_Prio.f k x0 x9).bind fun t317 => ((warplaw5_Scripts.f k x1 x9).bind fun t320 => ((play_Play.f t317 t320 x2).bind fun bt323 => ((play_Play.f t317 t320 x3).bind fun bt330 => (if (bt323.2.1.length : Int) = x9 then (warplaw5_PlayPicks.j1 k x2 x3 x9 t317 t320 bt323.1 bt323.2.1 bt323.2.2 bt330.2.1 ((bt330.2.1.length : Int) != x9)) else (warplaw5_PlayPicks.j1 k x2 x3 x9 t317 t320 bt323.1 bt323.2.1 bt323.2.2 bt330.2.1 true))))))
def warplaw5_PlayPicks.j1 : Nat → List Int → List Int → Int → List Int → List (List (S40)) → List (S42) → List Int → Int → List Int → Bool → Option (Bool)
 | 0, _, _, _, _, _, _, _, _, _, _ => none
 | k + 1, x2, x3, x9, x10, x11, x12, x13, x14, x16, x67 => if x67 = true then (some false) else (warplaw5_PlayPicks.l0 k x2 x3 x9 x10 x11 x12 x13 x14 x16 0)
def warplaw5_PlayPicks.l0 : Nat → List Int → List Int → Int → List Int → List (List (S40)) → List (S42) → List Int → Int → List Int → Int → Option (Bool)
 | 0, _, _, _, _, _, _, _, _, _, _ => none
 | k + 1, x2, x3, x9, x10, x11, x12, x13, x14, x16, x18 => if x18 < x9 then (warplaw5_PlayPicks.l1 k x2 x3 x9 x10 x11 x12 x13 x14 x16 x18 0) else (if (x2.length : Int) < x14 then ((warplaw5_awake.f k).bind fun t341 => (some t341)) else ((some (([] : List Int) : List Int)).bind fun y342 => (if y342.length + x2.length < 17592186044416 then ((some (y342 ++ x2 : List Int)).bind fun y345 => (if y345.length + x3.length < 17592186044416 then ((play_Play.f x10 x11 (y345 ++ x3)).bind fun bt351 => ((warpref1_SameEvents.f k x12 bt351.1).bind fun t358 => (if t358 = true then ((warpref1_Ints.f k x13 bt351.2.1).bind fun t359 => (if t359 = true then (if x14 = bt351.2.2 then ((warplaw5_awake.f k).bind fun t360 => (some t360)) else (some false)) else (some false))) else (some false)))) else (none))) else (none))))
def warplaw5_PlayPicks.l1 : Nat → List Int → List Int → Int → List Int → List (List (S40)) → List (S42) → List Int → Int → List Int → Int → Int → Option (Bool)
 | 0, _, _, _, _, _, _, _, _, _, _, _ => none
 | k + 1, x2, x3, x9, x10, x11, x12, x13, x14, x16, x18, x19 => if x19 < x18 then ((warpref1_Root.f k x13 x18).bind fun t337 => ((warpref1_Root.f k x13 x19).bind fun t338 => ((warpref1_Root.f k x16 x18).bind fun t339 => ((warpref1_Root.f k x16 x19).bind fun t340 => (if ((t337 == t338) != (t339 == t340)) = true then (some false) else (warplaw5_PlayPicks.l1 k x2 x3 x9 x10 x11 x12 x13 x14 x16 x18 (wrap64 (x19 + 1)))))))) else (warplaw5_PlayPicks.l0 k x2 x3 x9 x10 x11 x12 x13 x14 x16 (wrap64 (x18 + 1)))
end
def warplaw5_PlayPicks.f (k : Nat) (l0 : List Int) (l1 : List (List Int)) (l2 : List Int) (l3 : List Int) : Option (Bool) := if (l2.length : Int) > 300 then (warplaw5_PlayPicks.j0 k l0 l1 l2 l3 (1 + ((l0.length : Int) % 16)) true) else (warplaw5_PlayPicks.j0 k l0 l1 l2 l3 (1 + ((l0.length : Int) % 16)) (decide ((l3.length : Int) > 300)))
set_option maxHeartbeats 8000000 in
set_option maxRecDepth 100000 in
theorem warplaw5_PlayPicks.calls (k : Nat) (A0 : Option Addr) (c0 : Nat) (l0 : List Int) (A1 : Option Addr) (c1 : Nat) (l1 : List (List Int)) (A2 : Option Addr) (c2 : Nat) (l2 : List Int) (A3 : Option Addr) (c3 : Nat) (l3 : List Int) (r : Bool) (w : World) (hr0 : Kd.C (Kd.int .u8) w A0 l0.length l0) (hc0 : l0.length ≤ c0) (hr1 : Kd.C (Kd.slice 5 (Kd.int .u8)) w A1 l1.length l1) (hc1 : l1.length ≤ c1) (hr2 : Kd.C (Kd.int .i64) w A2 l2.length l2) (hc2 : l2.length ≤ c2) (hr3 : Kd.C (Kd.int .i64) w A3 l3.length l3) (hc3 : l3.length ≤ c3) (h : warplaw5_PlayPicks.f k l0 l1 l2 l3 = some r) (hT_ : Tab w := by first | exact hT_ | exact Tab.drewN hT_ _ | (refine Tab.below hT_ ?_; repeat (first | (with_reducible first | exact HB.out | apply below_alloc | apply pw_below_drewN | apply below_drew1) | exact HB.out))) :
 Calls Tryd.prog 8 #[.slice A0 l0.length c0, .slice A1 l1.length c1, .slice A2 l2.length c2, .slice A3 l3.length c3] w fun e w' => e = .returned (.bool r) ∧ Below w.heap.size w w' := by
 have HR0 := Aside0.mk hr0
 have HC0 := Aside0.mk hc0
 clear hr0 hc0
 have HR1 := Aside0.mk hr1
 have HC1 := Aside0.mk hc1
 clear hr1 hc1
 have HR2 := Aside0.mk hr2
 have HC2 := Aside0.mk hc2
 clear hr2 hc2
 have HR3 := Aside0.mk hr3
 have HC3 := Aside0.mk hc3
 clear hr3 hc3
 have HB := Aside0.mk (Below.refl w.heap.size w)
 have H : (if (l2.length : Int) > 300 then (warplaw5_PlayPicks.j0 k l0 l1 l2 l3 (1 + ((l0.length : Int) % 16)) true) else (warplaw5_PlayPicks.j0 k l0 l1 l2 l3 (1 + ((l0.length : Int) % 16)) (decide ((l3.length : Int) > 300)))) = some r := h
 clear h
 have HC5 := Aside0.mk H
 clear H
 go_enter Tryd.func8, Tryd.ntmps8
 go_upto_region 2 with (fail)
 go_cut [34] (fun v34 wc => ∃ (kq : Nat) (x34_4 : Bool), v34 = .bool x34_4 ∧ Aside0 (warplaw5_PlayPicks.j0 kq l0 l1 l2 l3 (1 + ((l0.length : Int) % 16)) x34_4 = some r) ∧ Aside0 (kq ≤ k) ∧ Aside0 (Below w.heap.size w wc))
 case first =>
  have H := HC5.out
  clear HC5
  by_cases c6 : (l2.length : Int) > 300
  ·
   rw [if_pos c6] at H
   have c6b0 : decide (300 < (l2.length : Int)) = true := decide_eq_true c6
   have c6b1 : decide (300 < l2.length) = true := decide_eq_true (by omega)
   clear c6
   (first | rw [c6b0] | (simp only [i64_w, i32_w]; rw [c6b0]) | skip)
   have H' := Aside0.mk H
   clear H
   go_wp2
   go_meet
   case rel => exact ⟨_, (true), (by first | rfl | (simp; done) | (simp [*]; done)), H', ⟨by first | omega | exact Nat.le_refl _⟩, ⟨by repeat (first | (with_reducible first | exact HB.out | apply below_alloc | apply pw_below_drewN | apply below_drew1) | exact HB.out)⟩⟩
  ·
   rw [if_neg c6] at H
   have c6b0 : decide (300 < (l2.length : Int)) = false := decide_eq_false c6
   have c6b1 : decide (300 < l2.length) = false := decide_eq_false (by omega)
   clear c6
   (first | rw [c6b0] | (simp only [i64_w, i32_w]; rw [c6b0]) | skip)
   have H' := Aside0.mk H
   clear H
   go_wp2
   go_meet
   case rel => exact ⟨_, (decide ((l3.length : Int) > 300)), (by first | rfl | (simp; done) | (simp [*]; done)), H', ⟨by first | omega | exact Nat.le_refl _⟩, ⟨by repeat (first | (with_reducible first | exact HB.out | apply below_alloc | apply pw_below_drewN | apply below_drew1) | exact HB.out)⟩⟩
 case rest =>
  clear HC5
  (try clear c1); (try clear c2); (try clear p2); (try clear c3); (try clear c6); (try clear c6b0); (try clear c6b1)
  obtain ⟨kq, x34_4, rfl, HA, HJ4, HB⟩ := hcut
  cases kq with
  | zero => exact absurd HA.out (by simp [warplaw5_PlayPicks.j0])
  | succ kj4 =>
   have H := HA.out
   clear HA
   simp only [warplaw5_PlayPicks.j0] at H
   by_cases c7 : x34_4 = true
   ·
    subst c7
    have H1 : ((warplaw5_awake.f kj4).bind fun t316 => (some t316)) = some r := by rw [if_pos rfl] at H; exact H
    clear H
    have H := H1
    clear H1
    replace H := Option.bind_eq_some_iff.mp H
    obtain ⟨t316, A80, H⟩ := H
    replace H : (some t316) = some r := H
    have A8 := Aside0.mk A80
    clear A80
    obtain rfl := Option.some.inj H
    go_wp2_with (first | ((with_reducible refine gate_callee (f := 10) rfl ?_); refine goesL_ (some 35) rfl rfl Tryd.func10 (by kernel_rfl) rfl #[] rfl (by (try simp only [List.map_toArray, List.map_cons, List.map_nil]); first | done | rfl | (simp only [List.length_drop, List.length_take]; rfl)) ?_; (with_reducible refine (warplaw5_awake.calls kj4  t316 _ A8.out).mono ?_); rintro e w9 ⟨rfl, hb⟩; refine ⟨_, rfl, ?_⟩; have n0_ := Aside0.mk (below_step (by repeat (first | (with_reducible first | exact HB.out | apply below_alloc | apply pw_below_drewN | apply below_drew1) | exact HB.out)) hb); clear HB; have HB := n0_; clear n0_; (try clear hb); (try clear hb2); (try clear hk); (try clear hi)))
    go_ret
    exact ⟨by first | rfl | (simp [errW_none, errW_some] <;> rfl) | (simp [*, errW_none, errW_some] <;> rfl), by repeat (first | (with_reducible first | exact HB.out | apply below_alloc | apply pw_below_drewN | apply below_drew1) | exact HB.out)⟩
   ·
    replace c7 := Bool.eq_false_iff.mpr c7
    subst c7
    have H1 : ((warplaw4_Prio.f kj4 l0 (1 + ((l0.length : Int) % 16))).bind fun t317 => ((warplaw5_Scripts.f kj4 l1 (1 + ((l0.length : Int) % 16))).bind fun t320 => ((play_Play.f t317 t320 l2).bind fun bt323 => ((play_Play.f t317 t320 l3).bind fun bt330 => (if (bt323.2.1.length : Int) = (1 + ((l0.length : Int) % 16)) then (warplaw5_PlayPicks.j1 kj4 l2 l3 (1 + ((l0.length : Int) % 16)) t317 t320 bt323.1 bt323.2.1 bt323.2.2 bt330.2.1 ((bt330.2.1.length : Int) != (1 + ((l0.length : Int) % 16)))) else (warplaw5_PlayPicks.j1 kj4 l2 l3 (1 + ((l0.length : Int) % 16)) t317 t320 bt323.1 bt323.2.1 bt323.2.2 bt330.2.1 true)))))) = some r := by rw [if_neg (show ¬ (false = true) by decide)] at H; exact H
    clear H
    have H := H1
    clear H1
    replace H := Option.bind_eq_some_iff.mp H
    obtain ⟨t317, A100, H⟩ := H
    replace H : ((warplaw5_Scripts.f kj4 l1 (1 + ((l0.length : Int) % 16))).bind fun t320 => ((play_Play.f t317 t320 l2).bind fun bt323 => ((play_Play.f t317 t320 l3).bind fun bt330 => (if (bt323.2.1.length : Int) = (1 + ((l0.length : Int) % 16)) then (warplaw5_PlayPicks.j1 kj4 l2 l3 (1 + ((l0.length : Int) % 16)) t317 t320 bt323.1 bt323.2.1 bt323.2.2 bt330.2.1 ((bt330.2.1.length : Int) != (1 + ((l0.length : Int) % 16)))) else (warplaw5_PlayPicks.j1 kj4 l2 l3 (1 + ((l0.length : Int) % 16)) t317 t320 bt323.1 bt323.2.1 bt323.2.2 bt330.2.1 true))))) = some r := H
    have A10 := Aside0.mk A100
    clear A100
    replace H := Option.bind_eq_some_iff.mp H
    obtain ⟨t320, A110, H⟩ := H
    replace H : ((play_Play.f t317 t320 l2).bind fun bt323 => ((play_Play.f t317 t320 l3).bind fun bt330 => (if (bt323.2.1.length : Int) = (1 + ((l0.length : Int) % 16)) then (warplaw5_PlayPicks.j1 kj4 l2 l3 (1 + ((l0.length : Int) % 16)) t317 t320 bt323.1 bt323.2.1 bt323.2.2 bt330.2.1 ((bt330.2.1.length : Int) != (1 + ((l0.length : Int) % 16)))) else (warplaw5_PlayPicks.j1 kj4 l2 l3 (1 + ((l0.length : Int) % 16)) t317 t320 bt323.1 bt323.2.1 bt323.2.2 bt330.2.1 true)))) = some r := H
    have A11 := Aside0.mk A110
    clear A110
    replace H := Option.bind_eq_some_iff.mp H
    obtain ⟨⟨t323, t324, t325⟩, A120, H⟩ := H
    replace H : ((play_Play.f t317 t320 l3).bind fun bt330 => (if (t324.length : Int) = (1 + ((l0.length : Int) % 16)) then (warplaw5_PlayPicks.j1 kj4 l2 l3 (1 + ((l0.length : Int) % 16)) t317 t320 t323 t324 t325 bt330.2.1 ((bt330.2.1.length : Int) != (1 + ((l0.length : Int) % 16)))) else (warplaw5_PlayPicks.j1 kj4 l2 l3 (1 + ((l0.length : Int) % 16)) t317 t320 t323 t324 t325 bt330.2.1 true))) = some r := H
    have A12 := Aside0.mk A120
    clear A120
    replace H := Option.bind_eq_some_iff.mp H
    obtain ⟨⟨t330, t331, t332⟩, A130, H⟩ := H
    replace H : (if (t324.length : Int) = (1 + ((l0.length : Int) % 16)) then (warplaw5_PlayPicks.j1 kj4 l2 l3 (1 + ((l0.length : Int) % 16)) t317 t320 t323 t324 t325 t331 ((t331.length : Int) != (1 + ((l0.length : Int) % 16)))) else (warplaw5_PlayPicks.j1 kj4 l2 l3 (1 + ((l0.length : Int) % 16)) t317 t320 t323 t324 t325 t331 true)) = some r := H
    have A13 := Aside0.mk A130
    clear A130
    have HC14 := Aside0.mk H
    clear H
    go_upto_region 7 with (first | ((with_reducible refine gate_callee (f := 15) rfl ?_); refine goesL_ (some 38) rfl rfl Tryd.func15 (by kernel_rfl) rfl #[.slice A0 l0.length c0, .int .i64 (1 + ((l0.length : Int) % 16))] rfl (by (try simp only [List.map_toArray, List.map_cons, List.map_nil]); first | done | rfl | (simp only [List.length_drop, List.length_take]; rfl)) ?_; (with_reducible refine (warplaw4_Prio.calls kj4 _ _ l0 (1 + ((l0.length : Int) % 16)) t317 _ ?side1 ?side2 A10.out).mono ?_); (case side1 => repeat (first | exact (Kd.C_below HR0.out HB.out) | (with_reducible refine Kd.C_alloc ?_ _) | (with_reducible refine Kd.C_drewN ?_ _) | (with_reducible refine Kd.C_drew ?_))); (case side2 => exact HC0.out); rintro e w15 ⟨v318, rfl, ho0, hb⟩; refine ⟨_, rfl, ?_⟩; have n0_ := Aside0.mk (Kd.R_lower ho0 (below_size (by repeat (first | (with_reducible first | exact HB.out | apply below_alloc | apply pw_below_drewN | apply below_drew1) | exact HB.out)))); have n1_ := Aside0.mk (below_step (by repeat (first | (with_reducible first | exact HB.out | apply below_alloc | apply pw_below_drewN | apply below_drew1) | exact HB.out)) hb); clear HB; have HO319 := n0_; have HB := n1_; clear n0_ n1_; (try clear hb); (try clear hb2); (try clear hk); (try clear hi); (try clear ho0)) | ((with_reducible refine gate_callee (f := 16) rfl ?_); refine goesL_ (some 41) rfl rfl Tryd.func16 (by kernel_rfl) rfl #[.slice A1 l1.length c1, .int .i64 (1 + ((l0.length : Int) % 16))] rfl (by (try simp only [List.map_toArray, List.map_cons, List.map_nil]); first | done | rfl | (simp only [List.length_drop, List.length_take]; rfl)) ?_; (with_reducible refine (warplaw5_Scripts.calls kj4 _ _ l1 (1 + ((l0.length : Int) % 16)) t320 _ ?side1 ?side2 A11.out).mono ?_); (case side1 => repeat (first | exact (Kd.C_below HR1.out HB.out) | (with_reducible refine Kd.C_alloc ?_ _) | (with_reducible refine Kd.C_drewN ?_ _) | (with_reducible refine Kd.C_drew ?_))); (case side2 => exact HC1.out); rintro e w16 ⟨v321, rfl, ho0, hb⟩; refine ⟨_, rfl, ?_⟩; have n0_ := Aside0.mk (Kd.R_below (by (with_reducible repeat (first | apply Kd.R_alloc | apply Kd.R_drewN | apply Kd.R_drew)); exact HO319.out) hb); have n1_ := Aside0.mk (Kd.S_lower ho0 (below_size (by repeat (first | (with_reducible first | exact HB.out | apply below_alloc | apply pw_below_drewN | apply below_drew1) | exact HB.out)))); have n2_ := Aside0.mk (below_step (by repeat (first | (with_reducible first | exact HB.out | apply below_alloc | apply pw_below_drewN | apply below_drew1) | exact HB.out)) hb); clear HO319; clear HB; have HO319 := n0_; have HO322 := n1_; have HB := n2_; clear n0_ n1_ n2_; (try clear hb); (try clear hb2); (try clear hk); (try clear hi); (try clear ho0); obtain ⟨Ao17, co17, eo17⟩ := Kd.R_slice HO319.out; subst eo17; obtain ⟨Ao18, co18, eo18⟩ := Kd.S_slice HO322.out; subst eo18) | ((with_reducible refine gate_callee (f := 11) rfl ?_); refine goesL_ (some 46) rfl rfl Tryd.func11 (by kernel_rfl) rfl #[.slice Ao17 t317.length co17, .slice Ao18 t320.length co18, .slice A2 l2.length c2] rfl (by (try simp only [List.map_toArray, List.map_cons, List.map_nil]); first | done | rfl | (simp only [List.length_drop, List.length_take]; rfl)) ?_; (with_reducible refine (play_Play.calls _ _ t317 _ _ t320 _ _ l2 t323 t324 t325 _ ?side1 ?side2 ?side3 ?side4 ?side5 ?side6 A12.out).mono ?_); (case side1 => repeat (first | exact (Kd.R_reads' HO319.out).2.2 | (with_reducible refine Kd.C_alloc ?_ _) | (with_reducible refine Kd.C_drewN ?_ _) | (with_reducible refine Kd.C_drew ?_))); (case side2 => exact (Kd.R_reads' HO319.out).2.1); (case side3 => repeat (first | exact (Kd.S_reads' HO322.out).2.2 | (with_reducible refine Kd.C_alloc ?_ _) | (with_reducible refine Kd.C_drewN ?_ _) | (with_reducible refine Kd.C_drew ?_))); (case side4 => exact (Kd.S_reads' HO322.out).2.1); (case side5 => repeat (first | exact (Kd.C_below HR2.out HB.out) | (with_reducible refine Kd.C_alloc ?_ _) | (with_reducible refine Kd.C_drewN ?_ _) | (with_reducible refine Kd.C_drew ?_))); (case side6 => exact HC2.out); rintro e w19 ⟨v326, v328, rfl, ho0, ho1, hb⟩; refine ⟨_, rfl, ?_⟩; have n0_ := Aside0.mk (Kd.R_elder' (by (with_reducible repeat (first | apply Kd.R_alloc | apply Kd.R_drewN | apply Kd.R_drew)); exact HO319.out) (Kd.R_base ho1) hb); have n1_ := Aside0.mk (Kd.S_below (by (with_reducible repeat (first | apply Kd.S_alloc | apply Kd.S_drewN | apply Kd.S_drew)); exact HO322.out) hb); have n2_ := Aside0.mk (Kd.R_lower ho0 (below_size (by repeat (first | (with_reducible first | exact HB.out | apply below_alloc | apply pw_below_drewN | apply below_drew1) | exact HB.out)))); have n3_ := Aside0.mk (Kd.R_lower (Kd.R_new' ho1 (Kd.R_lt (by (with_reducible repeat (first | apply Kd.R_alloc | apply Kd.R_drewN | apply Kd.R_drew)); exact HO319.out))) (below_size (by repeat (first | (with_reducible first | exact HB.out | apply below_alloc | apply pw_below_drewN | apply below_drew1) | exact HB.out)))); have n4_ := Aside0.mk (below_step (by repeat (first | (with_reducible first | exact HB.out | apply below_alloc | apply pw_below_drewN | apply below_drew1) | exact HB.out)) hb); clear HO319; clear HO322; clear HB; have HO319 := n0_; have HO322 := n1_; have HO327 := n2_; have HO329 := n3_; have HB := n4_; clear n0_ n1_ n2_ n3_ n4_; (try clear hb); (try clear hb2); (try clear hk); (try clear hi); (try clear ho0); (try clear ho1)) | ((with_reducible refine gate_callee (f := 11) rfl ?_); refine goesL_ (some 54) rfl rfl Tryd.func11 (by kernel_rfl) rfl #[.slice Ao17 t317.length co17, .slice Ao18 t320.length co18, .slice A3 l3.length c3] rfl (by (try simp only [List.map_toArray, List.map_cons, List.map_nil]); first | done | rfl | (simp only [List.length_drop, List.length_take]; rfl)) ?_; (with_reducible refine (play_Play.calls _ _ t317 _ _ t320 _ _ l3 t330 t331 t332 _ ?side1 ?side2 ?side3 ?side4 ?side5 ?side6 A13.out).mono ?_); (case side1 => repeat (first | exact (Kd.R_reads' HO319.out).2.2 | (with_reducible refine Kd.C_alloc ?_ _) | (with_reducible refine Kd.C_drewN ?_ _) | (with_reducible refine Kd.C_drew ?_))); (case side2 => exact (Kd.R_reads' HO319.out).2.1); (case side3 => repeat (first | exact (Kd.S_reads' HO322.out).2.2 | (with_reducible refine Kd.C_alloc ?_ _) | (with_reducible refine Kd.C_drewN ?_ _) | (with_reducible refine Kd.C_drew ?_))); (case side4 => exact (Kd.S_reads' HO322.out).2.1); (case side5 => repeat (first | exact (Kd.C_below HR3.out HB.out) | (with_reducible refine Kd.C_alloc ?_ _) | (with_reducible refine Kd.C_drewN ?_ _) | (with_reducible refine Kd.C_drew ?_))); (case side6 => exact HC3.out); rintro e w20 ⟨v333, v335, rfl, ho0, ho1, hb⟩; refine ⟨_, rfl, ?_⟩; have n0_ := Aside0.mk (Kd.R_elder' (by (with_reducible repeat (first | apply Kd.R_alloc | apply Kd.R_drewN | apply Kd.R_drew)); exact HO319.out) (Kd.R_base ho1) hb); have n1_ := Aside0.mk (Kd.S_below (by (with_reducible repeat (first | apply Kd.S_alloc | apply Kd.S_drewN | apply Kd.S_drew)); exact HO322.out) hb); have n2_ := Aside0.mk (Kd.R_elder' (by (with_reducible repeat (first | apply Kd.R_alloc | apply Kd.R_drewN | apply Kd.R_drew)); exact HO327.out) (Kd.R_base ho0) hb); have n3_ := Aside0.mk (Kd.R_elder' (by (with_reducible repeat (first | apply Kd.R_alloc | apply Kd.R_drewN | apply Kd.R_drew)); exact HO329.out) (Kd.R_base ho1) hb); have n4_ := Aside0.mk (Kd.R_lower (Kd.R_new' ho0 (Kd.R_lt (by (with_reducible repeat (first | apply Kd.R_alloc | apply Kd.R_drewN | apply Kd.R_drew)); exact HO327.out))) (below_size (by repeat (first | (with_reducible first | exact HB.out | apply below_alloc | apply pw_below_drewN | apply below_drew1) | exact HB.out)))); have n5_ := Aside0.mk (Kd.R_lower (Kd.R_new' (Kd.R_new' ho1 (Kd.R_lt (by (with_reducible repeat (first | apply Kd.R_alloc | apply Kd.R_drewN | apply Kd.R_drew)); exact HO319.out))) (Kd.R_lt (by (with_reducible repeat (first | apply Kd.R_alloc | apply Kd.R_drewN | apply Kd.R_drew)); exact HO329.out))) (below_size (by repeat (first | (with_reducible first | exact HB.out | apply below_alloc | apply pw_below_drewN | apply below_drew1) | exact HB.out)))); have n6_ := Aside0.mk (below_step (by repeat (first | (with_reducible first | exact HB.out | apply below_alloc | apply pw_below_drewN | apply below_drew1) | exact HB.out)) hb); clear HO319; clear HO322; clear HO327; clear HO329; clear HB; have HO319 := n0_; have HO322 := n1_; have HO327 := n2_; have HO329 := n3_; have HO334 := n4_; have HO336 := n5_; have HB := n6_; clear n0_ n1_ n2_ n3_ n4_ n5_ n6_; (try clear hb); (try clear hb2); (try clear hk); (try clear hi); (try clear ho0); (try clear ho1)))
    (try simp only [Act.put, List.setIfInBounds_toArray, List.set_cons_zero, List.set_cons_succ])
    go_cut [67] (fun v67 wc => ∃ (kq : Nat) (x67_13 : Bool), v67 = .bool x67_13 ∧ Aside0 (warplaw5_PlayPicks.j1 kq l2 l3 (1 + ((l0.length : Int) % 16)) t317 t320 t323 t324 t325 t331 x67_13 = some r) ∧ Aside0 (kq ≤ kj4) ∧ Aside0 (Kd.R (Kd.int .i64) 3 wc w.heap.size (fun k_ => some k_ ≠ (v328 : Value).ownBlock ∧ some k_ ≠ (v335 : Value).ownBlock) (.slice Ao17 t317.length co17) t317) ∧ Aside0 (Kd.S (Kd.slice 40 k40) 43 wc w.heap.size (fun _ => True) (.slice Ao18 t320.length co18) t320) ∧ Aside0 (Kd.R k42 42 wc w.heap.size (fun _ => True) v326 t323) ∧ Aside0 (Kd.R (Kd.int .i64) 3 wc w.heap.size (fun k_ => some k_ ≠ ((.slice Ao17 t317.length co17) : Value).ownBlock ∧ some k_ ≠ (v335 : Value).ownBlock) v328 t324) ∧ Aside0 (Kd.R (Kd.int .i64) 3 wc w.heap.size (fun k_ => some k_ ≠ ((.slice Ao17 t317.length co17) : Value).ownBlock ∧ some k_ ≠ (v328 : Value).ownBlock) v335 t331) ∧ Aside0 (Below w.heap.size w wc))
    case first =>
     have H := HC14.out
     clear HC14
     by_cases c21 : (t324.length : Int) = (1 + ((l0.length : Int) % 16))
     ·
      rw [if_pos c21] at H
      have c21b0 : ((t324.length : Int) == (1 + ((l0.length : Int) % 16))) = true := beq_iff_eq.mpr c21
      have c21b1 : ((t324.length : Int) != (1 + ((l0.length : Int) % 16))) = false := bne_eq_false_iff_eq.mpr c21
      clear c21
      (first | rw [c21b0] | (simp only [i64_w, i32_w]; rw [c21b0]) | skip)
      have H' := Aside0.mk H
      clear H
      obtain ⟨Ao22, co22, eo22⟩ := Kd.R_slice HO329.out
      subst eo22
      obtain ⟨Ao23, co23, eo23⟩ := Kd.R_slice HO336.out
      subst eo23
      go_wp2
      go_meet
      case rel => exact ⟨_, (((t331.length : Int) != (1 + ((l0.length : Int) % 16)))), (by first | rfl | (simp; done) | (simp [*]; done)), H', ⟨by have := HJ4.out; first | omega | exact Nat.le_refl _⟩, ⟨by (with_reducible repeat (first | apply Kd.R_alloc | apply Kd.R_drewN | apply Kd.R_drew)); exact Kd.R_mono HO319.out (fun _ hk => ⟨hk.1.2, hk.2⟩)⟩, ⟨by (with_reducible repeat (first | apply Kd.S_alloc | apply Kd.S_drewN | apply Kd.S_drew)); exact HO322.out⟩, ⟨by (with_reducible repeat (first | apply Kd.R_alloc | apply Kd.R_drewN | apply Kd.R_drew)); exact Kd.R_mono HO327.out (fun _ hk => trivial)⟩, ⟨by (with_reducible repeat (first | apply Kd.R_alloc | apply Kd.R_drewN | apply Kd.R_drew)); exact Kd.R_mono HO329.out (fun _ hk => ⟨hk.1.2, hk.2⟩)⟩, ⟨by (with_reducible repeat (first | apply Kd.R_alloc | apply Kd.R_drewN | apply Kd.R_drew)); exact Kd.R_mono HO336.out (fun _ hk => ⟨hk.1.2, hk.2⟩)⟩, ⟨by repeat (first | (with_reducible first | exact HB.out | apply below_alloc | apply pw_below_drewN | apply below_drew1) | exact HB.out)⟩⟩
     ·
      rw [if_neg c21] at H
      have c21b0 : ((t324.length : Int) == (1 + ((l0.length : Int) % 16))) = false := beq_eq_false_iff_ne.mpr c21
      have c21b1 : ((t324.length : Int) != (1 + ((l0.length : Int) % 16))) = true := bne_iff_ne.mpr c21
      (first | rw [c21b0] | (simp only [i64_w, i32_w]; rw [c21b0]) | skip)
      have H' := Aside0.mk H
      clear H
      obtain ⟨Ao24, co24, eo24⟩ := Kd.R_slice HO329.out
      subst eo24
      go_wp2
      go_meet
      case rel => exact ⟨_, (true), (by first | rfl | (simp; done) | (simp [*]; done)), H', ⟨by have := HJ4.out; first | omega | exact Nat.le_refl _⟩, ⟨by (with_reducible repeat (first | apply Kd.R_alloc | apply Kd.R_drewN | apply Kd.R_drew)); exact Kd.R_mono HO319.out (fun _ hk => ⟨hk.1.2, hk.2⟩)⟩, ⟨by (with_reducible repeat (first | apply Kd.S_alloc | apply Kd.S_drewN | apply Kd.S_drew)); exact HO322.out⟩, ⟨by (with_reducible repeat (first | apply Kd.R_alloc | apply Kd.R_drewN | apply Kd.R_drew)); exact Kd.R_mono HO327.out (fun _ hk => trivial)⟩, ⟨by (with_reducible repeat (first | apply Kd.R_alloc | apply Kd.R_drewN | apply Kd.R_drew)); exact Kd.R_mono HO329.out (fun _ hk => ⟨hk.1.2, hk.2⟩)⟩, ⟨by (with_reducible repeat (first | apply Kd.R_alloc | apply Kd.R_drewN | apply Kd.R_drew)); exact Kd.R_mono HO336.out (fun _ hk => ⟨hk.1.2, hk.2⟩)⟩, ⟨by repeat (first | (with_reducible first | exact HB.out | apply below_alloc | apply pw_below_drewN | apply below_drew1) | exact HB.out)⟩⟩
    case rest =>
     clear HC14
     (try clear c1); (try clear c2); (try clear p2); (try clear c3); (try clear c6); (try clear c6b0); (try clear c6b1); (try clear c7); (try clear c8); (try clear c10); (try clear c11); (try clear c15); (try clear c16); (try clear c21); (try clear c21b0); (try clear c21b1); (try clear p2)
     obtain ⟨kq, x67_13, rfl, HA, HJ13, HO_10, HO_11, HO_12, HO_13, HO_16, HB⟩ := hcut
     cases kq with
     | zero => exact absurd HA.out (by simp [warplaw5_PlayPicks.j1])
     | succ kj13 =>
      have H := HA.out
      clear HA
      simp only [warplaw5_PlayPicks.j1] at H
      by_cases c25 : x67_13 = true
      ·
       subst c25
       have H1 : (some false) = some r := by rw [if_pos rfl] at H; exact H
       clear H
       have H := H1
       clear H1
       obtain rfl := Option.some.inj H
       go_wp2
       go_ret
       exact ⟨by first | rfl | (simp [errW_none, errW_some] <;> rfl) | (simp [*, errW_none, errW_some] <;> rfl), by repeat (first | (with_reducible first | exact HB.out | apply below_alloc | apply pw_below_drewN | apply below_drew1) | exact HB.out)⟩
      ·
       replace c25 := Bool.eq_false_iff.mpr c25
       subst c25
       have H1 : (warplaw5_PlayPicks.l0 kj13 l2 l3 (1 + ((l0.length : Int) % 16)) t317 t320 t323 t324 t325 t331 0) = some r := by rw [if_neg (show ¬ (false = true) by decide)] at H; exact H
       clear H
       have H := H1
       clear H1
       have H' := Aside0.mk H
       clear H
       go_wp2
       go_loopg [18] kj13 (fun kq v18 w' => ∃ (x18_3 : Int), v18 = .int .i64 x18_3 ∧ Aside0 (warplaw5_PlayPicks.l0 kq l2 l3 (1 + ((l0.length : Int) % 16)) t317 t320 t323 t324 t325 t331 x18_3 = some r) ∧ Aside0 (kq ≤ kj13) ∧ Aside0 (Kd.R (Kd.int .i64) 3 w' w.heap.size (fun k_ => some k_ ≠ (v328 : Value).ownBlock ∧ some k_ ≠ (v335 : Value).ownBlock) (.slice Ao17 t317.length co17) t317) ∧ Aside0 (Kd.S (Kd.slice 40 k40) 43 w' w.heap.size (fun _ => True) (.slice Ao18 t320.length co18) t320) ∧ Aside0 (Kd.R k42 42 w' w.heap.size (fun _ => True) v326 t323) ∧ Aside0 (Kd.R (Kd.int .i64) 3 w' w.heap.size (fun k_ => some k_ ≠ ((.slice Ao17 t317.length co17) : Value).ownBlock ∧ some k_ ≠ (v335 : Value).ownBlock) v328 t324) ∧ Aside0 (Kd.R (Kd.int .i64) 3 w' w.heap.size (fun k_ => some k_ ≠ ((.slice Ao17 t317.length co17) : Value).ownBlock ∧ some k_ ≠ (v328 : Value).ownBlock) v335 t331) ∧ Aside0 (Below w.heap.size w w'))
       case atStart => exact ⟨(0), (by first | rfl | (simp; done) | (simp [*]; done)), H', ⟨Nat.le_refl _⟩, ⟨by (with_reducible repeat (first | apply Kd.R_alloc | apply Kd.R_drewN | apply Kd.R_drew)); exact HO_10.out⟩, ⟨by (with_reducible repeat (first | apply Kd.S_alloc | apply Kd.S_drewN | apply Kd.S_drew)); exact HO_11.out⟩, ⟨by (with_reducible repeat (first | apply Kd.R_alloc | apply Kd.R_drewN | apply Kd.R_drew)); exact HO_12.out⟩, ⟨by (with_reducible repeat (first | apply Kd.R_alloc | apply Kd.R_drewN | apply Kd.R_drew)); exact HO_13.out⟩, ⟨by (with_reducible repeat (first | apply Kd.R_alloc | apply Kd.R_drewN | apply Kd.R_drew)); exact HO_16.out⟩, ⟨by repeat (first | (with_reducible first | exact HB.out | apply below_alloc | apply pw_below_drewN | apply below_drew1) | exact HB.out)⟩⟩
       case round =>
        clear H'
        (try clear c1); (try clear c2); (try clear p2); (try clear c3); (try clear c6); (try clear c6b0); (try clear c6b1); (try clear c7); (try clear c8); (try clear c10); (try clear c11); (try clear c15); (try clear c16); (try clear c21); (try clear c21b0); (try clear c21b1); (try clear c25); (try clear p2)
        obtain ⟨x18_3, rfl, HA, HK3, HO_10, HO_11, HO_12, HO_13, HO_16, HB⟩ := hrel
        cases gk with
        | zero => exact absurd HA.out (by simp [warplaw5_PlayPicks.l0])
        | succ k3 =>
         have H := HA.out
         clear HA
         simp only [warplaw5_PlayPicks.l0] at H
         by_cases c26 : x18_3 < (1 + ((l0.length : Int) % 16))
         ·
          rw [if_pos c26] at H
          have c26b0 : decide (x18_3 < (1 + ((l0.length : Int) % 16))) = true := decide_eq_true c26
          clear c26
          have H' := Aside0.mk H
          clear H
          go_wp2
          go_loopg [19] k3 (fun kq v19 w' => ∃ (x19_4 : Int), v19 = .int .i64 x19_4 ∧ Aside0 (warplaw5_PlayPicks.l1 kq l2 l3 (1 + ((l0.length : Int) % 16)) t317 t320 t323 t324 t325 t331 x18_3 x19_4 = some r) ∧ Aside0 (kq ≤ k3) ∧ Aside0 (Kd.R (Kd.int .i64) 3 w' w.heap.size (fun k_ => some k_ ≠ (v328 : Value).ownBlock ∧ some k_ ≠ (v335 : Value).ownBlock) (.slice Ao17 t317.length co17) t317) ∧ Aside0 (Kd.S (Kd.slice 40 k40) 43 w' w.heap.size (fun _ => True) (.slice Ao18 t320.length co18) t320) ∧ Aside0 (Kd.R k42 42 w' w.heap.size (fun _ => True) v326 t323) ∧ Aside0 (Kd.R (Kd.int .i64) 3 w' w.heap.size (fun k_ => some k_ ≠ ((.slice Ao17 t317.length co17) : Value).ownBlock ∧ some k_ ≠ (v335 : Value).ownBlock) v328 t324) ∧ Aside0 (Kd.R (Kd.int .i64) 3 w' w.heap.size (fun k_ => some k_ ≠ ((.slice Ao17 t317.length co17) : Value).ownBlock ∧ some k_ ≠ (v328 : Value).ownBlock) v335 t331) ∧ Aside0 (Below w.heap.size w w'))
          case atStart => exact ⟨(0), (by first | rfl | (simp; done) | (simp [*]; done)), H', ⟨Nat.le_refl _⟩, ⟨by (with_reducible repeat (first | apply Kd.R_alloc | apply Kd.R_drewN | apply Kd.R_drew)); exact HO_10.out⟩, ⟨by (with_reducible repeat (first | apply Kd.S_alloc | apply Kd.S_drewN | apply Kd.S_drew)); exact HO_11.out⟩, ⟨by (with_reducible repeat (first | apply Kd.R_alloc | apply Kd.R_drewN | apply Kd.R_drew)); exact HO_12.out⟩, ⟨by (with_reducible repeat (first | apply Kd.R_alloc | apply Kd.R_drewN | apply Kd.R_drew)); exact HO_13.out⟩, ⟨by (with_reducible repeat (first | apply Kd.R_alloc | apply Kd.R_drewN | apply Kd.R_drew)); exact HO_16.out⟩, ⟨by repeat (first | (with_reducible first | exact HB.out | apply below_alloc | apply pw_below_drewN | apply below_drew1) | exact HB.out)⟩⟩
          case round =>
           clear H'
           (try clear c1); (try clear c2); (try clear p2); (try clear c3); (try clear c6); (try clear c6b0); (try clear c6b1); (try clear c7); (try clear c8); (try clear c10); (try clear c11); (try clear c15); (try clear c16); (try clear c21); (try clear c21b0); (try clear c21b1); (try clear c25); (try clear c26); (try clear c26b0); (try clear p2)
           obtain ⟨x19_4, rfl, HA, HK4, HO_10, HO_11, HO_12, HO_13, HO_16, HB⟩ := hrel
           cases gk with
           | zero => exact absurd HA.out (by simp [warplaw5_PlayPicks.l1])
           | succ k4 =>
            have H := HA.out
            clear HA
            simp only [warplaw5_PlayPicks.l1] at H
            by_cases c27 : x19_4 < x18_3
            ·
             rw [if_pos c27] at H
             have c27b0 : decide (x19_4 < x18_3) = true := decide_eq_true c27
             clear c27
             replace H := Option.bind_eq_some_iff.mp H
             obtain ⟨t337, A280, H⟩ := H
             replace H : ((warpref1_Root.f k4 t324 x19_4).bind fun t338 => ((warpref1_Root.f k4 t331 x18_3).bind fun t339 => ((warpref1_Root.f k4 t331 x19_4).bind fun t340 => (if ((t337 == t338) != (t339 == t340)) = true then (some false) else (warplaw5_PlayPicks.l1 k4 l2 l3 (1 + ((l0.length : Int) % 16)) t317 t320 t323 t324 t325 t331 x18_3 (wrap64 (x19_4 + 1))))))) = some r := H
             have A28 := Aside0.mk A280
             clear A280
             replace H := Option.bind_eq_some_iff.mp H
             obtain ⟨t338, A290, H⟩ := H
             replace H : ((warpref1_Root.f k4 t331 x18_3).bind fun t339 => ((warpref1_Root.f k4 t331 x19_4).bind fun t340 => (if ((t337 == t338) != (t339 == t340)) = true then (some false) else (warplaw5_PlayPicks.l1 k4 l2 l3 (1 + ((l0.length : Int) % 16)) t317 t320 t323 t324 t325 t331 x18_3 (wrap64 (x19_4 + 1)))))) = some r := H
             have A29 := Aside0.mk A290
             clear A290
             replace H := Option.bind_eq_some_iff.mp H
             obtain ⟨t339, A300, H⟩ := H
             replace H : ((warpref1_Root.f k4 t331 x19_4).bind fun t340 => (if ((t337 == t338) != (t339 == t340)) = true then (some false) else (warplaw5_PlayPicks.l1 k4 l2 l3 (1 + ((l0.length : Int) % 16)) t317 t320 t323 t324 t325 t331 x18_3 (wrap64 (x19_4 + 1))))) = some r := H
             have A30 := Aside0.mk A300
             clear A300
             replace H := Option.bind_eq_some_iff.mp H
             obtain ⟨t340, A310, H⟩ := H
             replace H : (if ((t337 == t338) != (t339 == t340)) = true then (some false) else (warplaw5_PlayPicks.l1 k4 l2 l3 (1 + ((l0.length : Int) % 16)) t317 t320 t323 t324 t325 t331 x18_3 (wrap64 (x19_4 + 1)))) = some r := H
             have A31 := Aside0.mk A310
             clear A310
             by_cases c32 : ((t337 == t338) != (t339 == t340)) = true
             ·
              rw [if_pos c32] at H
              have c32b0 : ((t337 == t338) != (t339 == t340)) = true := c32
              (try (have c32b1 : decide ((t337 == t338) = (t339 == t340)) = false := by simpa using c32))
              (try (have c32b2 : ((t337 == t338) == (t339 == t340)) = false := by simpa using c32))
              (try (have c32b3 : ¬ ((t337 == t338) = (t339 == t340)) := by simpa using c32))
              clear c32
              obtain rfl := Option.some.inj H
              obtain ⟨Ao33, co33, eo33⟩ := Kd.R_slice HO_13.out
              subst eo33
              go_wp2_with (first | ((with_reducible refine gate_callee (f := 21) rfl ?_); refine goesL_ (some 80) rfl rfl Tryd.func21 (by kernel_rfl) rfl #[.slice Ao33 t324.length co33, .int .i64 x18_3] rfl (by (try simp only [List.map_toArray, List.map_cons, List.map_nil]); first | done | rfl | (simp only [List.length_drop, List.length_take]; rfl)) ?_; (with_reducible refine (warpref1_Root.calls k4 _ _ t324 x18_3 t337 _ ?side1 ?side2 A28.out).mono ?_); (case side1 => repeat (first | exact (Kd.R_reads' HO_13.out).2.2 | (with_reducible refine Kd.C_alloc ?_ _) | (with_reducible refine Kd.C_drewN ?_ _) | (with_reducible refine Kd.C_drew ?_))); (case side2 => exact (Kd.R_reads' HO_13.out).2.1); rintro e w' ⟨rfl, ⟨nd, rfl⟩⟩; refine ⟨_, rfl, ?_⟩) | ((with_reducible refine gate_callee (f := 21) rfl ?_); refine goesL_ (some 83) rfl rfl Tryd.func21 (by kernel_rfl) rfl #[.slice Ao33 t324.length co33, .int .i64 x19_4] rfl (by (try simp only [List.map_toArray, List.map_cons, List.map_nil]); first | done | rfl | (simp only [List.length_drop, List.length_take]; rfl)) ?_; (with_reducible refine (warpref1_Root.calls k4 _ _ t324 x19_4 t338 _ ?side1 ?side2 A29.out).mono ?_); (case side1 => repeat (first | exact (Kd.R_reads' HO_13.out).2.2 | (with_reducible refine Kd.C_alloc ?_ _) | (with_reducible refine Kd.C_drewN ?_ _) | (with_reducible refine Kd.C_drew ?_))); (case side2 => exact (Kd.R_reads' HO_13.out).2.1); rintro e w' ⟨rfl, ⟨nd, rfl⟩⟩; refine ⟨_, rfl, ?_⟩; obtain ⟨Ao34, co34, eo34⟩ := Kd.R_slice HO_16.out; subst eo34) | ((with_reducible refine gate_callee (f := 21) rfl ?_); refine goesL_ (some 87) rfl rfl Tryd.func21 (by kernel_rfl) rfl #[.slice Ao34 t331.length co34, .int .i64 x18_3] rfl (by (try simp only [List.map_toArray, List.map_cons, List.map_nil]); first | done | rfl | (simp only [List.length_drop, List.length_take]; rfl)) ?_; (with_reducible refine (warpref1_Root.calls k4 _ _ t331 x18_3 t339 _ ?side1 ?side2 A30.out).mono ?_); (case side1 => repeat (first | exact (Kd.R_reads' HO_16.out).2.2 | (with_reducible refine Kd.C_alloc ?_ _) | (with_reducible refine Kd.C_drewN ?_ _) | (with_reducible refine Kd.C_drew ?_))); (case side2 => exact (Kd.R_reads' HO_16.out).2.1); rintro e w' ⟨rfl, ⟨nd, rfl⟩⟩; refine ⟨_, rfl, ?_⟩) | ((with_reducible refine gate_callee (f := 21) rfl ?_); refine goesL_ (some 90) rfl rfl Tryd.func21 (by kernel_rfl) rfl #[.slice Ao34 t331.length co34, .int .i64 x19_4] rfl (by (try simp only [List.map_toArray, List.map_cons, List.map_nil]); first | done | rfl | (simp only [List.length_drop, List.length_take]; rfl)) ?_; (with_reducible refine (warpref1_Root.calls k4 _ _ t331 x19_4 t340 _ ?side1 ?side2 A31.out).mono ?_); (case side1 => repeat (first | exact (Kd.R_reads' HO_16.out).2.2 | (with_reducible refine Kd.C_alloc ?_ _) | (with_reducible refine Kd.C_drewN ?_ _) | (with_reducible refine Kd.C_drew ?_))); (case side2 => exact (Kd.R_reads' HO_16.out).2.1); rintro e w' ⟨rfl, ⟨nd, rfl⟩⟩; refine ⟨_, rfl, ?_⟩))
              go_ret
              exact ⟨by first | rfl | (simp [errW_none, errW_some] <;> rfl) | (simp [*, errW_none, errW_some] <;> rfl), by repeat (first | (with_reducible first | exact HB.out | apply below_alloc | apply pw_below_drewN | apply below_drew1) | exact HB.out)⟩
             ·
              rw [if_neg c32] at H
              have c32b0 : ((t337 == t338) != (t339 == t340)) = false := by simpa using c32
              (try (have c32b1 : decide ((t337 == t338) = (t339 == t340)) = true := by simpa using c32))
              (try (have c32b2 : ((t337 == t338) == (t339 == t340)) = true := by simpa using c32))
              clear c32
              have H' := Aside0.mk H
              clear H
              obtain ⟨Ao35, co35, eo35⟩ := Kd.R_slice HO_13.out
              subst eo35
              go_wp2_with (first | ((with_reducible refine gate_callee (f := 21) rfl ?_); refine goesL_ (some 80) rfl rfl Tryd.func21 (by kernel_rfl) rfl #[.slice Ao35 t324.length co35, .int .i64 x18_3] rfl (by (try simp only [List.map_toArray, List.map_cons, List.map_nil]); first | done | rfl | (simp only [List.length_drop, List.length_take]; rfl)) ?_; (with_reducible refine (warpref1_Root.calls k4 _ _ t324 x18_3 t337 _ ?side1 ?side2 A28.out).mono ?_); (case side1 => repeat (first | exact (Kd.R_reads' HO_13.out).2.2 | (with_reducible refine Kd.C_alloc ?_ _) | (with_reducible refine Kd.C_drewN ?_ _) | (with_reducible refine Kd.C_drew ?_))); (case side2 => exact (Kd.R_reads' HO_13.out).2.1); rintro e w' ⟨rfl, ⟨nd, rfl⟩⟩; refine ⟨_, rfl, ?_⟩) | ((with_reducible refine gate_callee (f := 21) rfl ?_); refine goesL_ (some 83) rfl rfl Tryd.func21 (by kernel_rfl) rfl #[.slice Ao35 t324.length co35, .int .i64 x19_4] rfl (by (try simp only [List.map_toArray, List.map_cons, List.map_nil]); first | done | rfl | (simp only [List.length_drop, List.length_take]; rfl)) ?_; (with_reducible refine (warpref1_Root.calls k4 _ _ t324 x19_4 t338 _ ?side1 ?side2 A29.out).mono ?_); (case side1 => repeat (first | exact (Kd.R_reads' HO_13.out).2.2 | (with_reducible refine Kd.C_alloc ?_ _) | (with_reducible refine Kd.C_drewN ?_ _) | (with_reducible refine Kd.C_drew ?_))); (case side2 => exact (Kd.R_reads' HO_13.out).2.1); rintro e w' ⟨rfl, ⟨nd, rfl⟩⟩; refine ⟨_, rfl, ?_⟩; obtain ⟨Ao36, co36, eo36⟩ := Kd.R_slice HO_16.out; subst eo36) | ((with_reducible refine gate_callee (f := 21) rfl ?_); refine goesL_ (some 87) rfl rfl Tryd.func21 (by kernel_rfl) rfl #[.slice Ao36 t331.length co36, .int .i64 x18_3] rfl (by (try simp only [List.map_toArray, List.map_cons, List.map_nil]); first | done | rfl | (simp only [List.length_drop, List.length_take]; rfl)) ?_; (with_reducible refine (warpref1_Root.calls k4 _ _ t331 x18_3 t339 _ ?side1 ?side2 A30.out).mono ?_); (case side1 => repeat (first | exact (Kd.R_reads' HO_16.out).2.2 | (with_reducible refine Kd.C_alloc ?_ _) | (with_reducible refine Kd.C_drewN ?_ _) | (with_reducible refine Kd.C_drew ?_))); (case side2 => exact (Kd.R_reads' HO_16.out).2.1); rintro e w' ⟨rfl, ⟨nd, rfl⟩⟩; refine ⟨_, rfl, ?_⟩) | ((with_reducible refine gate_callee (f := 21) rfl ?_); refine goesL_ (some 90) rfl rfl Tryd.func21 (by kernel_rfl) rfl #[.slice Ao36 t331.length co36, .int .i64 x19_4] rfl (by (try simp only [List.map_toArray, List.map_cons, List.map_nil]); first | done | rfl | (simp only [List.length_drop, List.length_take]; rfl)) ?_; (with_reducible refine (warpref1_Root.calls k4 _ _ t331 x19_4 t340 _ ?side1 ?side2 A31.out).mono ?_); (case side1 => repeat (first | exact (Kd.R_reads' HO_16.out).2.2 | (with_reducible refine Kd.C_alloc ?_ _) | (with_reducible refine Kd.C_drewN ?_ _) | (with_reducible refine Kd.C_drew ?_))); (case side2 => exact (Kd.R_reads' HO_16.out).2.1); rintro e w' ⟨rfl, ⟨nd, rfl⟩⟩; refine ⟨_, rfl, ?_⟩))
              go_roundg k4
              case measure => have := HJ4.out; have := HJ13.out; have := HK3.out; have := HK4.out; omega
              case rel => exact ⟨(wrap64 (x19_4 + 1)), (by first | rfl | (simp; done) | (simp [*]; done)), H', ⟨by have := HJ4.out; have := HJ13.out; have := HK3.out; have := HK4.out; omega⟩, ⟨by (with_reducible repeat (first | apply Kd.R_alloc | apply Kd.R_drewN | apply Kd.R_drew)); exact HO_10.out⟩, ⟨by (with_reducible repeat (first | apply Kd.S_alloc | apply Kd.S_drewN | apply Kd.S_drew)); exact HO_11.out⟩, ⟨by (with_reducible repeat (first | apply Kd.R_alloc | apply Kd.R_drewN | apply Kd.R_drew)); exact HO_12.out⟩, ⟨by (with_reducible repeat (first | apply Kd.R_alloc | apply Kd.R_drewN | apply Kd.R_drew)); exact HO_13.out⟩, ⟨by (with_reducible repeat (first | apply Kd.R_alloc | apply Kd.R_drewN | apply Kd.R_drew)); exact HO_16.out⟩, ⟨by repeat (first | (with_reducible first | exact HB.out | apply below_alloc | apply pw_below_drewN | apply below_drew1) | exact HB.out)⟩⟩
            ·
             rw [if_neg c27] at H
             have c27b0 : decide (x19_4 < x18_3) = false := decide_eq_false c27
             clear c27
             have H' := Aside0.mk H
             clear H
             go_wp2
             go_roundg k4
             case measure => have := HJ4.out; have := HJ13.out; have := HK3.out; have := HK4.out; omega
             case rel => exact ⟨(wrap64 (x18_3 + 1)), (by first | rfl | (simp; done) | (simp [*]; done)), H', ⟨by have := HJ4.out; have := HJ13.out; have := HK3.out; have := HK4.out; omega⟩, ⟨by (with_reducible repeat (first | apply Kd.R_alloc | apply Kd.R_drewN | apply Kd.R_drew)); exact HO_10.out⟩, ⟨by (with_reducible repeat (first | apply Kd.S_alloc | apply Kd.S_drewN | apply Kd.S_drew)); exact HO_11.out⟩, ⟨by (with_reducible repeat (first | apply Kd.R_alloc | apply Kd.R_drewN | apply Kd.R_drew)); exact HO_12.out⟩, ⟨by (with_reducible repeat (first | apply Kd.R_alloc | apply Kd.R_drewN | apply Kd.R_drew)); exact HO_13.out⟩, ⟨by (with_reducible repeat (first | apply Kd.R_alloc | apply Kd.R_drewN | apply Kd.R_drew)); exact HO_16.out⟩, ⟨by repeat (first | (with_reducible first | exact HB.out | apply below_alloc | apply pw_below_drewN | apply below_drew1) | exact HB.out)⟩⟩
         ·
          rw [if_neg c26] at H
          have c26b0 : decide (x18_3 < (1 + ((l0.length : Int) % 16))) = false := decide_eq_false c26
          clear c26
          by_cases c37 : (l2.length : Int) < t325
          ·
           rw [if_pos c37] at H
           have c37b0 : decide ((l2.length : Int) < t325) = true := decide_eq_true c37
           clear c37
           replace H := Option.bind_eq_some_iff.mp H
           obtain ⟨t341, A380, H⟩ := H
           replace H : (some t341) = some r := H
           have A38 := Aside0.mk A380
           clear A380
           obtain rfl := Option.some.inj H
           go_wp2_with (first | ((with_reducible refine gate_callee (f := 10) rfl ?_); refine goesL_ (some 97) rfl rfl Tryd.func10 (by kernel_rfl) rfl #[] rfl (by (try simp only [List.map_toArray, List.map_cons, List.map_nil]); first | done | rfl | (simp only [List.length_drop, List.length_take]; rfl)) ?_; (with_reducible refine (warplaw5_awake.calls k3  t341 _ A38.out).mono ?_); rintro e w39 ⟨rfl, hb⟩; refine ⟨_, rfl, ?_⟩; have n0_ := Aside0.mk (Kd.R_below (by (with_reducible repeat (first | apply Kd.R_alloc | apply Kd.R_drewN | apply Kd.R_drew)); exact HO_10.out) hb); have n1_ := Aside0.mk (Kd.S_below (by (with_reducible repeat (first | apply Kd.S_alloc | apply Kd.S_drewN | apply Kd.S_drew)); exact HO_11.out) hb); have n2_ := Aside0.mk (Kd.R_below (by (with_reducible repeat (first | apply Kd.R_alloc | apply Kd.R_drewN | apply Kd.R_drew)); exact HO_12.out) hb); have n3_ := Aside0.mk (Kd.R_below (by (with_reducible repeat (first | apply Kd.R_alloc | apply Kd.R_drewN | apply Kd.R_drew)); exact HO_13.out) hb); have n4_ := Aside0.mk (Kd.R_below (by (with_reducible repeat (first | apply Kd.R_alloc | apply Kd.R_drewN | apply Kd.R_drew)); exact HO_16.out) hb); have n5_ := Aside0.mk (below_step (by repeat (first | (with_reducible first | exact HB.out | apply below_alloc | apply pw_below_drewN | apply below_drew1) | exact HB.out)) hb); clear HO_10; clear HO_11; clear HO_12; clear HO_13; clear HO_16; clear HB; have HO_10 := n0_; have HO_11 := n1_; have HO_12 := n2_; have HO_13 := n3_; have HO_16 := n4_; have HB := n5_; clear n0_ n1_ n2_ n3_ n4_ n5_; (try clear hb); (try clear hb2); (try clear hk); (try clear hi)))
           go_ret
           exact ⟨by first | rfl | (simp [errW_none, errW_some] <;> rfl) | (simp [*, errW_none, errW_some] <;> rfl), by repeat (first | (with_reducible first | exact HB.out | apply below_alloc | apply pw_below_drewN | apply below_drew1) | exact HB.out)⟩
          ·
           rw [if_neg c37] at H
           have c37b0 : decide ((l2.length : Int) < t325) = false := decide_eq_false c37
           clear c37
           obtain ⟨y342, hy342⟩ : ∃ y_ : List Int, y_ = (([] : List Int)) := ⟨_, rfl⟩
           replace H : (if y342.length + l2.length < 17592186044416 then ((some (y342 ++ l2 : List Int)).bind fun y345 => (if y345.length + l3.length < 17592186044416 then ((play_Play.f t317 t320 (y345 ++ l3)).bind fun bt351 => ((warpref1_SameEvents.f k3 t323 bt351.1).bind fun t358 => (if t358 = true then ((warpref1_Ints.f k3 t324 bt351.2.1).bind fun t359 => (if t359 = true then (if t325 = bt351.2.2 then ((warplaw5_awake.f k3).bind fun t360 => (some t360)) else (some false)) else (some false))) else (some false)))) else (none))) else (none)) = some r := by first | (rw [hy342]; with_reducible exact H) | (have H2_ := (Option.bind_some _ _).symm.trans H; rw [hy342]; with_reducible exact H2_) | (have H2_ := (Option.bind_some _ _).symm.trans H; with_reducible exact H2_) | with_reducible exact H | (rw [hy342]; exact H) | exact H
           have Ny342 := Aside0.mk hy342
           clear hy342
           by_cases c40 : y342.length + l2.length < 17592186044416
           ·
            rw [if_pos c40] at H
            have LMc40 := Aside0.mk c40
            clear c40
            obtain ⟨y345, hy345⟩ : ∃ y_ : List Int, y_ = (y342 ++ l2) := ⟨_, rfl⟩
            replace H : (if y345.length + l3.length < 17592186044416 then ((play_Play.f t317 t320 (y345 ++ l3)).bind fun bt351 => ((warpref1_SameEvents.f k3 t323 bt351.1).bind fun t358 => (if t358 = true then ((warpref1_Ints.f k3 t324 bt351.2.1).bind fun t359 => (if t359 = true then (if t325 = bt351.2.2 then ((warplaw5_awake.f k3).bind fun t360 => (some t360)) else (some false)) else (some false))) else (some false)))) else (none)) = some r := by first | (rw [hy345]; with_reducible exact H) | (have H2_ := (Option.bind_some _ _).symm.trans H; rw [hy345]; with_reducible exact H2_) | (have H2_ := (Option.bind_some _ _).symm.trans H; with_reducible exact H2_) | with_reducible exact H | (rw [hy345]; exact H) | exact H
            have Ny345 := Aside0.mk hy345
            clear hy345
            by_cases c41 : y345.length + l3.length < 17592186044416
            ·
             rw [if_pos c41] at H
             have LMc41 := Aside0.mk c41
             clear c41
             obtain ⟨y348, hy348⟩ : ∃ y_ : List Int, y_ = (y345 ++ l3) := ⟨_, rfl⟩
             replace H : ((play_Play.f t317 t320 y348).bind fun bt351 => ((warpref1_SameEvents.f k3 t323 bt351.1).bind fun t358 => (if t358 = true then ((warpref1_Ints.f k3 t324 bt351.2.1).bind fun t359 => (if t359 = true then (if t325 = bt351.2.2 then ((warplaw5_awake.f k3).bind fun t360 => (some t360)) else (some false)) else (some false))) else (some false)))) = some r := by first | (rw [hy348]; with_reducible exact H) | (have H2_ := (Option.bind_some _ _).symm.trans H; rw [hy348]; with_reducible exact H2_) | (have H2_ := (Option.bind_some _ _).symm.trans H; with_reducible exact H2_) | with_reducible exact H | (rw [hy348]; exact H) | exact H
             have Ny348 := Aside0.mk hy348
             clear hy348
             replace H := Option.bind_eq_some_iff.mp H
             obtain ⟨⟨t351, t352, t353⟩, A420, H⟩ := H
             replace H : ((warpref1_SameEvents.f k3 t323 t351).bind fun t358 => (if t358 = true then ((warpref1_Ints.f k3 t324 t352).bind fun t359 => (if t359 = true then (if t325 = t353 then ((warplaw5_awake.f k3).bind fun t360 => (some t360)) else (some false)) else (some false))) else (some false))) = some r := H
             have A42 := Aside0.mk A420
             clear A420
             replace H := Option.bind_eq_some_iff.mp H
             obtain ⟨t358, A430, H⟩ := H
             replace H : (if t358 = true then ((warpref1_Ints.f k3 t324 t352).bind fun t359 => (if t359 = true then (if t325 = t353 then ((warplaw5_awake.f k3).bind fun t360 => (some t360)) else (some false)) else (some false))) else (some false)) = some r := H
             have A43 := Aside0.mk A430
             clear A430
             by_cases c44 : t358 = true
             ·
              subst c44
              have H1 : ((warpref1_Ints.f k3 t324 t352).bind fun t359 => (if t359 = true then (if t325 = t353 then ((warplaw5_awake.f k3).bind fun t360 => (some t360)) else (some false)) else (some false))) = some r := by rw [if_pos rfl] at H; exact H
              clear H
              have H := H1
              clear H1
              replace H := Option.bind_eq_some_iff.mp H
              obtain ⟨t359, A450, H⟩ := H
              replace H : (if t359 = true then (if t325 = t353 then ((warplaw5_awake.f k3).bind fun t360 => (some t360)) else (some false)) else (some false)) = some r := H
              have A45 := Aside0.mk A450
              clear A450
              by_cases c46 : t359 = true
              ·
               subst c46
               have H1 : (if t325 = t353 then ((warplaw5_awake.f k3).bind fun t360 => (some t360)) else (some false)) = some r := by rw [if_pos rfl] at H; exact H
               clear H
               have H := H1
               clear H1
               by_cases c47 : t325 = t353
               ·
                rw [if_pos c47] at H
                have c47b0 : (t325 == t353) = true := beq_iff_eq.mpr c47
                have c47b1 : (t325 != t353) = false := bne_eq_false_iff_eq.mpr c47
                clear c47
                replace H := Option.bind_eq_some_iff.mp H
                obtain ⟨t360, A480, H⟩ := H
                replace H : (some t360) = some r := H
                have A48 := Aside0.mk A480
                clear A480
                obtain rfl := Option.some.inj H
                go_wp2_with (first | ((with_reducible refine gate_dst (N := 101) rfl ?_); (try (refine gate_guard (by rfl) ?_; dsimp only)); refine Kd.R_lit (Kd.int .i64) _ 3 ?hg (N := 101) ?hd (xs := ([] : List Int)) (inner := []) (ok := fun _ => True) (okp := fun _ => True) ?hr ?hp (fun _ hk => hk) trivial (Below.refl _ _) (Nat.le_refl _) (by simp) ?_; (case hd => rfl); (case hg => rfl); (case hr => first | (go_simp; done) | (go_simp; rfl)); (case hp => exact (Reps.none _ _)); intro v343 w49 ho50 hb hg_ hnew_; clear hg_ hnew_; (first | rw [← Ny342.out] at ho50 | (simp only [Int.reduceToNat] at ho50; rw [← Ny342.out] at ho50)); have n0_ := Aside0.mk (Kd.R_elder' (by (with_reducible repeat (first | apply Kd.R_alloc | apply Kd.R_drewN | apply Kd.R_drew)); exact HO_10.out) (Kd.R_base ho50) hb); have n1_ := Aside0.mk (Kd.S_below (by (with_reducible repeat (first | apply Kd.S_alloc | apply Kd.S_drewN | apply Kd.S_drew)); exact HO_11.out) hb); have n2_ := Aside0.mk (Kd.R_below (by (with_reducible repeat (first | apply Kd.R_alloc | apply Kd.R_drewN | apply Kd.R_drew)); exact HO_12.out) hb); have n3_ := Aside0.mk (Kd.R_elder' (by (with_reducible repeat (first | apply Kd.R_alloc | apply Kd.R_drewN | apply Kd.R_drew)); exact HO_13.out) (Kd.R_base ho50) hb); have n4_ := Aside0.mk (Kd.R_elder' (by (with_reducible repeat (first | apply Kd.R_alloc | apply Kd.R_drewN | apply Kd.R_drew)); exact HO_16.out) (Kd.R_base ho50) hb); have n5_ := Aside0.mk (Kd.R_lower (Kd.R_new' (Kd.R_new' (Kd.R_new' ho50 (Kd.R_lt (by (with_reducible repeat (first | apply Kd.R_alloc | apply Kd.R_drewN | apply Kd.R_drew)); exact HO_10.out))) (Kd.R_lt (by (with_reducible repeat (first | apply Kd.R_alloc | apply Kd.R_drewN | apply Kd.R_drew)); exact HO_13.out))) (Kd.R_lt (by (with_reducible repeat (first | apply Kd.R_alloc | apply Kd.R_drewN | apply Kd.R_drew)); exact HO_16.out))) (below_size (by repeat (first | (with_reducible first | exact HB.out | apply below_alloc | apply pw_below_drewN | apply below_drew1) | exact HB.out)))); have n6_ := Aside0.mk (below_step (by repeat (first | (with_reducible first | exact HB.out | apply below_alloc | apply pw_below_drewN | apply below_drew1) | exact HB.out)) hb); clear HO_10; clear HO_11; clear HO_12; clear HO_13; clear HO_16; clear HB; have HO_10 := n0_; have HO_11 := n1_; have HO_12 := n2_; have HO_13 := n3_; have HO_16 := n4_; have HO344 := n5_; have HB := n6_; clear n0_ n1_ n2_ n3_ n4_ n5_ n6_; clear hb ho50) | ((with_reducible refine gate_builtin (b := .append) (xs := #[.tmp 101, .tmp 102]) rfl ?_); (try (refine gate_guard (by rfl) ?_; dsimp only)); at_builtin; refine Kd.R_append_rows (Kd.int .i64) (w0 := w) w.heap.size rfl (.tmp 101) (.tmp 102) 22 3 (.int .i64 0) 8 rfl Tryd.underlying22 info3 rfl (by decide) (by omega) v343 y342 l2 _ _ _ (fun k_ => some k_ ≠ (.slice Ao17 t317.length co17 : Value).ownBlock ∧ some k_ ≠ (v328 : Value).ownBlock ∧ some k_ ≠ (v335 : Value).ownBlock) (fun _ => False) rfl rfl ?aO ?aR (fun _ _ h => h) (fun _ h => h.elim) ?aF ?aB ?aS ?aL ?_; (case aR => repeat (first | exact (Kd.C_below HR2.out HB.out) | (with_reducible refine Kd.C_alloc ?_ _) | (with_reducible refine Kd.C_drewN ?_ _) | (with_reducible refine Kd.C_drew ?_))); (case aB => exact (by repeat (first | (with_reducible first | exact HB.out | apply below_alloc | apply pw_below_drewN | apply below_drew1) | exact HB.out))); (case aF => exact (fun k_ hk => ⟨Kd.fresh' (Kd.R_lt (by (with_reducible repeat (first | apply Kd.R_alloc | apply Kd.R_drewN | apply Kd.R_drew)); exact HO_10.out)) k_ hk, Kd.fresh' (Kd.R_lt (by (with_reducible repeat (first | apply Kd.R_alloc | apply Kd.R_drewN | apply Kd.R_drew)); exact HO_13.out)) k_ hk, Kd.fresh' (Kd.R_lt (by (with_reducible repeat (first | apply Kd.R_alloc | apply Kd.R_drewN | apply Kd.R_drew)); exact HO_16.out)) k_ hk⟩)); (case aO => exact (by (with_reducible repeat (first | apply Kd.R_alloc | apply Kd.R_drewN | apply Kd.R_drew)); exact Kd.R_mono HO344.out (fun _ hk => ⟨hk.1.1.2, ⟨hk.1.2, hk.2⟩⟩))); (case aS => exact (below_size (by repeat (first | (with_reducible first | exact HB.out | apply below_alloc | apply pw_below_drewN | apply below_drew1) | exact HB.out)))); (case aL => have := LMc40.out; omega); intro v346 w51 ho hb hg hat; rw [← Ny345.out] at ho; have n0_ := Aside0.mk (Kd.R_after (ok := (fun k_ => some k_ ≠ (v328 : Value).ownBlock ∧ some k_ ≠ (v335 : Value).ownBlock)) (by (with_reducible repeat (first | apply Kd.R_alloc | apply Kd.R_drewN | apply Kd.R_drew)); exact HO_10.out) hg hat); have n1_ := Aside0.mk (Kd.S_over' (by (with_reducible repeat (first | apply Kd.S_alloc | apply Kd.S_drewN | apply Kd.S_drew)); exact HO_11.out) (Kd.R_typed (by (with_reducible repeat (first | apply Kd.R_alloc | apply Kd.R_drewN | apply Kd.R_drew)); exact HO344.out)) (by decide) hg); have n2_ := Aside0.mk (Kd.R_over' (by (with_reducible repeat (first | apply Kd.R_alloc | apply Kd.R_drewN | apply Kd.R_drew)); exact HO_12.out) (Kd.R_typed (by (with_reducible repeat (first | apply Kd.R_alloc | apply Kd.R_drewN | apply Kd.R_drew)); exact HO344.out)) (by decide) hg); have n3_ := Aside0.mk (Kd.R_after (ok := (fun k_ => some k_ ≠ (.slice Ao17 t317.length co17 : Value).ownBlock ∧ some k_ ≠ (v335 : Value).ownBlock)) (by (with_reducible repeat (first | apply Kd.R_alloc | apply Kd.R_drewN | apply Kd.R_drew)); exact HO_13.out) hg hat); have n4_ := Aside0.mk (Kd.R_after (ok := (fun k_ => some k_ ≠ (.slice Ao17 t317.length co17 : Value).ownBlock ∧ some k_ ≠ (v328 : Value).ownBlock)) (by (with_reducible repeat (first | apply Kd.R_alloc | apply Kd.R_drewN | apply Kd.R_drew)); exact HO_16.out) hg hat); have n5_ := Aside0.mk (hb); have n6_ := Aside0.mk (ho); clear HO_10; clear HO_11; clear HO_12; clear HO_13; clear HO_16; clear HB; clear HO344; have HO_10 := n0_; have HO_11 := n1_; have HO_12 := n2_; have HO_13 := n3_; have HO_16 := n4_; have HB := n5_; have HO347 := n6_; clear n0_ n1_ n2_ n3_ n4_ n5_ n6_; clear ho hb hg hat) | ((with_reducible refine gate_builtin (b := .append) (xs := #[.tmp 103, .tmp 104]) rfl ?_); (try (refine gate_guard (by rfl) ?_; dsimp only)); at_builtin; refine Kd.R_append_rows (Kd.int .i64) (w0 := w) w.heap.size rfl (.tmp 103) (.tmp 104) 22 3 (.int .i64 0) 8 rfl Tryd.underlying22 info3 rfl (by decide) (by omega) v346 y345 l3 _ _ _ (fun k_ => some k_ ≠ (.slice Ao17 t317.length co17 : Value).ownBlock ∧ some k_ ≠ (v328 : Value).ownBlock ∧ some k_ ≠ (v335 : Value).ownBlock) (fun _ => False) rfl rfl ?aO ?aR (fun _ _ h => h) (fun _ h => h.elim) ?aF ?aB ?aS ?aL ?_; (case aR => repeat (first | exact (Kd.C_below HR3.out HB.out) | (with_reducible refine Kd.C_alloc ?_ _) | (with_reducible refine Kd.C_drewN ?_ _) | (with_reducible refine Kd.C_drew ?_))); (case aB => exact (by repeat (first | (with_reducible first | exact HB.out | apply below_alloc | apply pw_below_drewN | apply below_drew1) | exact HB.out))); (case aF => exact (fun k_ hk => ⟨Kd.fresh' (Kd.R_lt (by (with_reducible repeat (first | apply Kd.R_alloc | apply Kd.R_drewN | apply Kd.R_drew)); exact HO_10.out)) k_ hk, Kd.fresh' (Kd.R_lt (by (with_reducible repeat (first | apply Kd.R_alloc | apply Kd.R_drewN | apply Kd.R_drew)); exact HO_13.out)) k_ hk, Kd.fresh' (Kd.R_lt (by (with_reducible repeat (first | apply Kd.R_alloc | apply Kd.R_drewN | apply Kd.R_drew)); exact HO_16.out)) k_ hk⟩)); (case aO => exact (by (with_reducible repeat (first | apply Kd.R_alloc | apply Kd.R_drewN | apply Kd.R_drew)); exact HO347.out)); (case aS => exact (below_size (by repeat (first | (with_reducible first | exact HB.out | apply below_alloc | apply pw_below_drewN | apply below_drew1) | exact HB.out)))); (case aL => have := LMc41.out; omega); intro v349 w52 ho hb hg hat; rw [← Ny348.out] at ho; have n0_ := Aside0.mk (Kd.R_after (ok := (fun k_ => some k_ ≠ (v328 : Value).ownBlock ∧ some k_ ≠ (v335 : Value).ownBlock)) (by (with_reducible repeat (first | apply Kd.R_alloc | apply Kd.R_drewN | apply Kd.R_drew)); exact HO_10.out) hg hat); have n1_ := Aside0.mk (Kd.S_over' (by (with_reducible repeat (first | apply Kd.S_alloc | apply Kd.S_drewN | apply Kd.S_drew)); exact HO_11.out) (Kd.R_typed (by (with_reducible repeat (first | apply Kd.R_alloc | apply Kd.R_drewN | apply Kd.R_drew)); exact HO347.out)) (by decide) hg); have n2_ := Aside0.mk (Kd.R_over' (by (with_reducible repeat (first | apply Kd.R_alloc | apply Kd.R_drewN | apply Kd.R_drew)); exact HO_12.out) (Kd.R_typed (by (with_reducible repeat (first | apply Kd.R_alloc | apply Kd.R_drewN | apply Kd.R_drew)); exact HO347.out)) (by decide) hg); have n3_ := Aside0.mk (Kd.R_after (ok := (fun k_ => some k_ ≠ (.slice Ao17 t317.length co17 : Value).ownBlock ∧ some k_ ≠ (v335 : Value).ownBlock)) (by (with_reducible repeat (first | apply Kd.R_alloc | apply Kd.R_drewN | apply Kd.R_drew)); exact HO_13.out) hg hat); have n4_ := Aside0.mk (Kd.R_after (ok := (fun k_ => some k_ ≠ (.slice Ao17 t317.length co17 : Value).ownBlock ∧ some k_ ≠ (v328 : Value).ownBlock)) (by (with_reducible repeat (first | apply Kd.R_alloc | apply Kd.R_drewN | apply Kd.R_drew)); exact HO_16.out) hg hat); have n5_ := Aside0.mk (hb); have n6_ := Aside0.mk (ho); clear HO_10; clear HO_11; clear HO_12; clear HO_13; clear HO_16; clear HB; clear HO347; have HO_10 := n0_; have HO_11 := n1_; have HO_12 := n2_; have HO_13 := n3_; have HO_16 := n4_; have HB := n5_; have HO350 := n6_; clear n0_ n1_ n2_ n3_ n4_ n5_ n6_; clear ho hb hg hat; obtain ⟨Ao53, co53, eo53⟩ := Kd.R_slice HO350.out; subst eo53) | ((with_reducible refine gate_callee (f := 11) rfl ?_); refine goesL_ (some 106) rfl rfl Tryd.func11 (by kernel_rfl) rfl #[.slice Ao17 t317.length co17, .slice Ao18 t320.length co18, .slice Ao53 y348.length co53] rfl (by (try simp only [List.map_toArray, List.map_cons, List.map_nil]); first | done | rfl | (simp only [List.length_drop, List.length_take]; rfl)) ?_; (with_reducible refine (play_Play.calls _ _ t317 _ _ t320 _ _ y348 t351 t352 t353 _ ?side1 ?side2 ?side3 ?side4 ?side5 ?side6 A42.out).mono ?_); (case side1 => repeat (first | exact (Kd.R_reads' HO_10.out).2.2 | (with_reducible refine Kd.C_alloc ?_ _) | (with_reducible refine Kd.C_drewN ?_ _) | (with_reducible refine Kd.C_drew ?_))); (case side2 => exact (Kd.R_reads' HO_10.out).2.1); (case side3 => repeat (first | exact (Kd.S_reads' HO_11.out).2.2 | (with_reducible refine Kd.C_alloc ?_ _) | (with_reducible refine Kd.C_drewN ?_ _) | (with_reducible refine Kd.C_drew ?_))); (case side4 => exact (Kd.S_reads' HO_11.out).2.1); (case side5 => repeat (first | exact (Kd.R_reads' HO350.out).2.2 | (with_reducible refine Kd.C_alloc ?_ _) | (with_reducible refine Kd.C_drewN ?_ _) | (with_reducible refine Kd.C_drew ?_))); (case side6 => exact (Kd.R_reads' HO350.out).2.1); rintro e w54 ⟨v354, v356, rfl, ho0, ho1, hb⟩; refine ⟨_, rfl, ?_⟩; have n0_ := Aside0.mk (Kd.R_elder' (by (with_reducible repeat (first | apply Kd.R_alloc | apply Kd.R_drewN | apply Kd.R_drew)); exact HO_10.out) (Kd.R_base ho1) hb); have n1_ := Aside0.mk (Kd.S_below (by (with_reducible repeat (first | apply Kd.S_alloc | apply Kd.S_drewN | apply Kd.S_drew)); exact HO_11.out) hb); have n2_ := Aside0.mk (Kd.R_elder' (by (with_reducible repeat (first | apply Kd.R_alloc | apply Kd.R_drewN | apply Kd.R_drew)); exact HO_12.out) (Kd.R_base ho0) hb); have n3_ := Aside0.mk (Kd.R_elder' (by (with_reducible repeat (first | apply Kd.R_alloc | apply Kd.R_drewN | apply Kd.R_drew)); exact HO_13.out) (Kd.R_base ho1) hb); have n4_ := Aside0.mk (Kd.R_elder' (by (with_reducible repeat (first | apply Kd.R_alloc | apply Kd.R_drewN | apply Kd.R_drew)); exact HO_16.out) (Kd.R_base ho1) hb); have n5_ := Aside0.mk (Kd.R_elder' (by (with_reducible repeat (first | apply Kd.R_alloc | apply Kd.R_drewN | apply Kd.R_drew)); exact HO350.out) (Kd.R_base ho1) hb); have n6_ := Aside0.mk (Kd.R_lower (Kd.R_new' ho0 (Kd.R_lt (by (with_reducible repeat (first | apply Kd.R_alloc | apply Kd.R_drewN | apply Kd.R_drew)); exact HO_12.out))) (below_size (by repeat (first | (with_reducible first | exact HB.out | apply below_alloc | apply pw_below_drewN | apply below_drew1) | exact HB.out)))); have n7_ := Aside0.mk (Kd.R_lower (Kd.R_new' (Kd.R_new' (Kd.R_new' (Kd.R_new' ho1 (Kd.R_lt (by (with_reducible repeat (first | apply Kd.R_alloc | apply Kd.R_drewN | apply Kd.R_drew)); exact HO_10.out))) (Kd.R_lt (by (with_reducible repeat (first | apply Kd.R_alloc | apply Kd.R_drewN | apply Kd.R_drew)); exact HO_13.out))) (Kd.R_lt (by (with_reducible repeat (first | apply Kd.R_alloc | apply Kd.R_drewN | apply Kd.R_drew)); exact HO_16.out))) (Kd.R_lt (by (with_reducible repeat (first | apply Kd.R_alloc | apply Kd.R_drewN | apply Kd.R_drew)); exact HO350.out))) (below_size (by repeat (first | (with_reducible first | exact HB.out | apply below_alloc | apply pw_below_drewN | apply below_drew1) | exact HB.out)))); have n8_ := Aside0.mk (below_step (by repeat (first | (with_reducible first | exact HB.out | apply below_alloc | apply pw_below_drewN | apply below_drew1) | exact HB.out)) hb); clear HO_10; clear HO_11; clear HO_12; clear HO_13; clear HO_16; clear HO350; clear HB; have HO_10 := n0_; have HO_11 := n1_; have HO_12 := n2_; have HO_13 := n3_; have HO_16 := n4_; have HO350 := n5_; have HO355 := n6_; have HO357 := n7_; have HB := n8_; clear n0_ n1_ n2_ n3_ n4_ n5_ n6_ n7_ n8_; (try clear hb); (try clear hb2); (try clear hk); (try clear hi); (try clear ho0); (try clear ho1); obtain ⟨Ao55, co55, eo55⟩ := Kd.R_slice HO_12.out; subst eo55; obtain ⟨Ao56, co56, eo56⟩ := Kd.R_slice HO355.out; subst eo56) | ((with_reducible refine gate_callee (f := 13) rfl ?_); refine goesL_ (some 112) rfl rfl Tryd.func13 (by kernel_rfl) rfl #[.slice Ao55 t323.length co55, .slice Ao56 t351.length co56] rfl (by (try simp only [List.map_toArray, List.map_cons, List.map_nil]); first | done | rfl | (simp only [List.length_drop, List.length_take]; rfl)) ?_; (with_reducible refine (warpref1_SameEvents.calls k3 _ _ t323 _ _ t351 true _ ?side1 ?side2 ?side3 ?side4 A43.out).mono ?_); (case side1 => repeat (first | exact (Kd.R_reads' HO_12.out).2.2 | (with_reducible refine Kd.C_alloc ?_ _) | (with_reducible refine Kd.C_drewN ?_ _) | (with_reducible refine Kd.C_drew ?_))); (case side2 => exact (Kd.R_reads' HO_12.out).2.1); (case side3 => repeat (first | exact (Kd.R_reads' HO355.out).2.2 | (with_reducible refine Kd.C_alloc ?_ _) | (with_reducible refine Kd.C_drewN ?_ _) | (with_reducible refine Kd.C_drew ?_))); (case side4 => exact (Kd.R_reads' HO355.out).2.1); rintro e w' ⟨rfl, ⟨nd, rfl⟩⟩; refine ⟨_, rfl, ?_⟩; obtain ⟨Ao57, co57, eo57⟩ := Kd.R_slice HO_13.out; subst eo57; obtain ⟨Ao58, co58, eo58⟩ := Kd.R_slice HO357.out; subst eo58) | (go_at_call 14; (with_reducible refine (warpref1_Ints.calls k3 _ _ t324 _ _ t352 true _ ?side1 ?side2 ?side3 ?side4 A45.out).mono ?_); (case side1 => repeat (first | exact (Kd.R_reads' HO_13.out).2.2 | (with_reducible refine Kd.C_alloc ?_ _) | (with_reducible refine Kd.C_drewN ?_ _) | (with_reducible refine Kd.C_drew ?_))); (case side2 => exact (Kd.R_reads' HO_13.out).2.1); (case side3 => repeat (first | exact (Kd.R_reads' HO357.out).2.2 | (with_reducible refine Kd.C_alloc ?_ _) | (with_reducible refine Kd.C_drewN ?_ _) | (with_reducible refine Kd.C_drew ?_))); (case side4 => exact (Kd.R_reads' HO357.out).2.1); rintro e w' ⟨rfl, ⟨nd, rfl⟩⟩) | (go_at_call 10; (with_reducible refine (warplaw5_awake.calls k3  t360 _ A48.out).mono ?_); rintro e w59 ⟨rfl, hb⟩; have n0_ := Aside0.mk (Kd.R_below (by (with_reducible repeat (first | apply Kd.R_alloc | apply Kd.R_drewN | apply Kd.R_drew)); exact HO_10.out) hb); have n1_ := Aside0.mk (Kd.S_below (by (with_reducible repeat (first | apply Kd.S_alloc | apply Kd.S_drewN | apply Kd.S_drew)); exact HO_11.out) hb); have n2_ := Aside0.mk (Kd.R_below (by (with_reducible repeat (first | apply Kd.R_alloc | apply Kd.R_drewN | apply Kd.R_drew)); exact HO_12.out) hb); have n3_ := Aside0.mk (Kd.R_below (by (with_reducible repeat (first | apply Kd.R_alloc | apply Kd.R_drewN | apply Kd.R_drew)); exact HO_13.out) hb); have n4_ := Aside0.mk (Kd.R_below (by (with_reducible repeat (first | apply Kd.R_alloc | apply Kd.R_drewN | apply Kd.R_drew)); exact HO_16.out) hb); have n5_ := Aside0.mk (Kd.R_below (by (with_reducible repeat (first | apply Kd.R_alloc | apply Kd.R_drewN | apply Kd.R_drew)); exact HO350.out) hb); have n6_ := Aside0.mk (Kd.R_below (by (with_reducible repeat (first | apply Kd.R_alloc | apply Kd.R_drewN | apply Kd.R_drew)); exact HO355.out) hb); have n7_ := Aside0.mk (Kd.R_below (by (with_reducible repeat (first | apply Kd.R_alloc | apply Kd.R_drewN | apply Kd.R_drew)); exact HO357.out) hb); have n8_ := Aside0.mk (below_step (by repeat (first | (with_reducible first | exact HB.out | apply below_alloc | apply pw_below_drewN | apply below_drew1) | exact HB.out)) hb); clear HO_10; clear HO_11; clear HO_12; clear HO_13; clear HO_16; clear HO350; clear HO355; clear HO357; clear HB; have HO_10 := n0_; have HO_11 := n1_; have HO_12 := n2_; have HO_13 := n3_; have HO_16 := n4_; have HO350 := n5_; have HO355 := n6_; have HO357 := n7_; have HB := n8_; clear n0_ n1_ n2_ n3_ n4_ n5_ n6_ n7_ n8_; (try clear hb); (try clear hb2); (try clear hk); (try clear hi)))
                go_ret
                exact ⟨by first | rfl | (simp [errW_none, errW_some] <;> rfl) | (simp [*, errW_none, errW_some] <;> rfl), by repeat (first | (with_reducible first | exact HB.out | apply below_alloc | apply pw_below_drewN | apply below_drew1) | exact HB.out)⟩
               ·
                rw [if_neg c47] at H
                have c47b0 : (t325 == t353) = false := beq_eq_false_iff_ne.mpr c47
                have c47b1 : (t325 != t353) = true := bne_iff_ne.mpr c47
                obtain rfl := Option.some.inj H
                go_wp2_with (first | ((with_reducible refine gate_dst (N := 101) rfl ?_); (try (refine gate_guard (by rfl) ?_; dsimp only)); refine Kd.R_lit (Kd.int .i64) _ 3 ?hg (N := 101) ?hd (xs := ([] : List Int)) (inner := []) (ok := fun _ => True) (okp := fun _ => True) ?hr ?hp (fun _ hk => hk) trivial (Below.refl _ _) (Nat.le_refl _) (by simp) ?_; (case hd => rfl); (case hg => rfl); (case hr => first | (go_simp; done) | (go_simp; rfl)); (case hp => exact (Reps.none _ _)); intro v343 w60 ho61 hb hg_ hnew_; clear hg_ hnew_; (first | rw [← Ny342.out] at ho61 | (simp only [Int.reduceToNat] at ho61; rw [← Ny342.out] at ho61)); have n0_ := Aside0.mk (Kd.R_elder' (by (with_reducible repeat (first | apply Kd.R_alloc | apply Kd.R_drewN | apply Kd.R_drew)); exact HO_10.out) (Kd.R_base ho61) hb); have n1_ := Aside0.mk (Kd.S_below (by (with_reducible repeat (first | apply Kd.S_alloc | apply Kd.S_drewN | apply Kd.S_drew)); exact HO_11.out) hb); have n2_ := Aside0.mk (Kd.R_below (by (with_reducible repeat (first | apply Kd.R_alloc | apply Kd.R_drewN | apply Kd.R_drew)); exact HO_12.out) hb); have n3_ := Aside0.mk (Kd.R_elder' (by (with_reducible repeat (first | apply Kd.R_alloc | apply Kd.R_drewN | apply Kd.R_drew)); exact HO_13.out) (Kd.R_base ho61) hb); have n4_ := Aside0.mk (Kd.R_elder' (by (with_reducible repeat (first | apply Kd.R_alloc | apply Kd.R_drewN | apply Kd.R_drew)); exact HO_16.out) (Kd.R_base ho61) hb); have n5_ := Aside0.mk (Kd.R_lower (Kd.R_new' (Kd.R_new' (Kd.R_new' ho61 (Kd.R_lt (by (with_reducible repeat (first | apply Kd.R_alloc | apply Kd.R_drewN | apply Kd.R_drew)); exact HO_10.out))) (Kd.R_lt (by (with_reducible repeat (first | apply Kd.R_alloc | apply Kd.R_drewN | apply Kd.R_drew)); exact HO_13.out))) (Kd.R_lt (by (with_reducible repeat (first | apply Kd.R_alloc | apply Kd.R_drewN | apply Kd.R_drew)); exact HO_16.out))) (below_size (by repeat (first | (with_reducible first | exact HB.out | apply below_alloc | apply pw_below_drewN | apply below_drew1) | exact HB.out)))); have n6_ := Aside0.mk (below_step (by repeat (first | (with_reducible first | exact HB.out | apply below_alloc | apply pw_below_drewN | apply below_drew1) | exact HB.out)) hb); clear HO_10; clear HO_11; clear HO_12; clear HO_13; clear HO_16; clear HB; have HO_10 := n0_; have HO_11 := n1_; have HO_12 := n2_; have HO_13 := n3_; have HO_16 := n4_; have HO344 := n5_; have HB := n6_; clear n0_ n1_ n2_ n3_ n4_ n5_ n6_; clear hb ho61) | ((with_reducible refine gate_builtin (b := .append) (xs := #[.tmp 101, .tmp 102]) rfl ?_); (try (refine gate_guard (by rfl) ?_; dsimp only)); at_builtin; refine Kd.R_append_rows (Kd.int .i64) (w0 := w) w.heap.size rfl (.tmp 101) (.tmp 102) 22 3 (.int .i64 0) 8 rfl Tryd.underlying22 info3 rfl (by decide) (by omega) v343 y342 l2 _ _ _ (fun k_ => some k_ ≠ (.slice Ao17 t317.length co17 : Value).ownBlock ∧ some k_ ≠ (v328 : Value).ownBlock ∧ some k_ ≠ (v335 : Value).ownBlock) (fun _ => False) rfl rfl ?aO ?aR (fun _ _ h => h) (fun _ h => h.elim) ?aF ?aB ?aS ?aL ?_; (case aR => repeat (first | exact (Kd.C_below HR2.out HB.out) | (with_reducible refine Kd.C_alloc ?_ _) | (with_reducible refine Kd.C_drewN ?_ _) | (with_reducible refine Kd.C_drew ?_))); (case aB => exact (by repeat (first | (with_reducible first | exact HB.out | apply below_alloc | apply pw_below_drewN | apply below_drew1) | exact HB.out))); (case aF => exact (fun k_ hk => ⟨Kd.fresh' (Kd.R_lt (by (with_reducible repeat (first | apply Kd.R_alloc | apply Kd.R_drewN | apply Kd.R_drew)); exact HO_10.out)) k_ hk, Kd.fresh' (Kd.R_lt (by (with_reducible repeat (first | apply Kd.R_alloc | apply Kd.R_drewN | apply Kd.R_drew)); exact HO_13.out)) k_ hk, Kd.fresh' (Kd.R_lt (by (with_reducible repeat (first | apply Kd.R_alloc | apply Kd.R_drewN | apply Kd.R_drew)); exact HO_16.out)) k_ hk⟩)); (case aO => exact (by (with_reducible repeat (first | apply Kd.R_alloc | apply Kd.R_drewN | apply Kd.R_drew)); exact Kd.R_mono HO344.out (fun _ hk => ⟨hk.1.1.2, ⟨hk.1.2, hk.2⟩⟩))); (case aS => exact (below_size (by repeat (first | (with_reducible first | exact HB.out | apply below_alloc | apply pw_below_drewN | apply below_drew1) | exact HB.out)))); (case aL => have := LMc40.out; omega); intro v346 w62 ho hb hg hat; rw [← Ny345.out] at ho; have n0_ := Aside0.mk (Kd.R_after (ok := (fun k_ => some k_ ≠ (v328 : Value).ownBlock ∧ some k_ ≠ (v335 : Value).ownBlock)) (by (with_reducible repeat (first | apply Kd.R_alloc | apply Kd.R_drewN | apply Kd.R_drew)); exact HO_10.out) hg hat); have n1_ := Aside0.mk (Kd.S_over' (by (with_reducible repeat (first | apply Kd.S_alloc | apply Kd.S_drewN | apply Kd.S_drew)); exact HO_11.out) (Kd.R_typed (by (with_reducible repeat (first | apply Kd.R_alloc | apply Kd.R_drewN | apply Kd.R_drew)); exact HO344.out)) (by decide) hg); have n2_ := Aside0.mk (Kd.R_over' (by (with_reducible repeat (first | apply Kd.R_alloc | apply Kd.R_drewN | apply Kd.R_drew)); exact HO_12.out) (Kd.R_typed (by (with_reducible repeat (first | apply Kd.R_alloc | apply Kd.R_drewN | apply Kd.R_drew)); exact HO344.out)) (by decide) hg); have n3_ := Aside0.mk (Kd.R_after (ok := (fun k_ => some k_ ≠ (.slice Ao17 t317.length co17 : Value).ownBlock ∧ some k_ ≠ (v335 : Value).ownBlock)) (by (with_reducible repeat (first | apply Kd.R_alloc | apply Kd.R_drewN | apply Kd.R_drew)); exact HO_13.out) hg hat); have n4_ := Aside0.mk (Kd.R_after (ok := (fun k_ => some k_ ≠ (.slice Ao17 t317.length co17 : Value).ownBlock ∧ some k_ ≠ (v328 : Value).ownBlock)) (by (with_reducible repeat (first | apply Kd.R_alloc | apply Kd.R_drewN | apply Kd.R_drew)); exact HO_16.out) hg hat); have n5_ := Aside0.mk (hb); have n6_ := Aside0.mk (ho); clear HO_10; clear HO_11; clear HO_12; clear HO_13; clear HO_16; clear HB; clear HO344; have HO_10 := n0_; have HO_11 := n1_; have HO_12 := n2_; have HO_13 := n3_; have HO_16 := n4_; have HB := n5_; have HO347 := n6_; clear n0_ n1_ n2_ n3_ n4_ n5_ n6_; clear ho hb hg hat) | ((with_reducible refine gate_builtin (b := .append) (xs := #[.tmp 103, .tmp 104]) rfl ?_); (try (refine gate_guard (by rfl) ?_; dsimp only)); at_builtin; refine Kd.R_append_rows (Kd.int .i64) (w0 := w) w.heap.size rfl (.tmp 103) (.tmp 104) 22 3 (.int .i64 0) 8 rfl Tryd.underlying22 info3 rfl (by decide) (by omega) v346 y345 l3 _ _ _ (fun k_ => some k_ ≠ (.slice Ao17 t317.length co17 : Value).ownBlock ∧ some k_ ≠ (v328 : Value).ownBlock ∧ some k_ ≠ (v335 : Value).ownBlock) (fun _ => False) rfl rfl ?aO ?aR (fun _ _ h => h) (fun _ h => h.elim) ?aF ?aB ?aS ?aL ?_; (case aR => repeat (first | exact (Kd.C_below HR3.out HB.out) | (with_reducible refine Kd.C_alloc ?_ _) | (with_reducible refine Kd.C_drewN ?_ _) | (with_reducible refine Kd.C_drew ?_))); (case aB => exact (by repeat (first | (with_reducible first | exact HB.out | apply below_alloc | apply pw_below_drewN | apply below_drew1) | exact HB.out))); (case aF => exact (fun k_ hk => ⟨Kd.fresh' (Kd.R_lt (by (with_reducible repeat (first | apply Kd.R_alloc | apply Kd.R_drewN | apply Kd.R_drew)); exact HO_10.out)) k_ hk, Kd.fresh' (Kd.R_lt (by (with_reducible repeat (first | apply Kd.R_alloc | apply Kd.R_drewN | apply Kd.R_drew)); exact HO_13.out)) k_ hk, Kd.fresh' (Kd.R_lt (by (with_reducible repeat (first | apply Kd.R_alloc | apply Kd.R_drewN | apply Kd.R_drew)); exact HO_16.out)) k_ hk⟩)); (case aO => exact (by (with_reducible repeat (first | apply Kd.R_alloc | apply Kd.R_drewN | apply Kd.R_drew)); exact HO347.out)); (case aS => exact (below_size (by repeat (first | (with_reducible first | exact HB.out | apply below_alloc | apply pw_below_drewN | apply below_drew1) | exact HB.out)))); (case aL => have := LMc41.out; omega); intro v349 w63 ho hb hg hat; rw [← Ny348.out] at ho; have n0_ := Aside0.mk (Kd.R_after (ok := (fun k_ => some k_ ≠ (v328 : Value).ownBlock ∧ some k_ ≠ (v335 : Value).ownBlock)) (by (with_reducible repeat (first | apply Kd.R_alloc | apply Kd.R_drewN | apply Kd.R_drew)); exact HO_10.out) hg hat); have n1_ := Aside0.mk (Kd.S_over' (by (with_reducible repeat (first | apply Kd.S_alloc | apply Kd.S_drewN | apply Kd.S_drew)); exact HO_11.out) (Kd.R_typed (by (with_reducible repeat (first | apply Kd.R_alloc | apply Kd.R_drewN | apply Kd.R_drew)); exact HO347.out)) (by decide) hg); have n2_ := Aside0.mk (Kd.R_over' (by (with_reducible repeat (first | apply Kd.R_alloc | apply Kd.R_drewN | apply Kd.R_drew)); exact HO_12.out) (Kd.R_typed (by (with_reducible repeat (first | apply Kd.R_alloc | apply Kd.R_drewN | apply Kd.R_drew)); exact HO347.out)) (by decide) hg); have n3_ := Aside0.mk (Kd.R_after (ok := (fun k_ => some k_ ≠ (.slice Ao17 t317.length co17 : Value).ownBlock ∧ some k_ ≠ (v335 : Value).ownBlock)) (by (with_reducible repeat (first | apply Kd.R_alloc | apply Kd.R_drewN | apply Kd.R_drew)); exact HO_13.out) hg hat); have n4_ := Aside0.mk (Kd.R_after (ok := (fun k_ => some k_ ≠ (.slice Ao17 t317.length co17 : Value).ownBlock ∧ some k_ ≠ (v328 : Value).ownBlock)) (by (with_reducible repeat (first | apply Kd.R_alloc | apply Kd.R_drewN | apply Kd.R_drew)); exact HO_16.out) hg hat); have n5_ := Aside0.mk (hb); have n6_ := Aside0.mk (ho); clear HO_10; clear HO_11; clear HO_12; clear HO_13; clear HO_16; clear HB; clear HO347; have HO_10 := n0_; have HO_11 := n1_; have HO_12 := n2_; have HO_13 := n3_; have HO_16 := n4_; have HB := n5_; have HO350 := n6_; clear n0_ n1_ n2_ n3_ n4_ n5_ n6_; clear ho hb hg hat; obtain ⟨Ao64, co64, eo64⟩ := Kd.R_slice HO350.out; subst eo64) | ((with_reducible refine gate_callee (f := 11) rfl ?_); refine goesL_ (some 106) rfl rfl Tryd.func11 (by kernel_rfl) rfl #[.slice Ao17 t317.length co17, .slice Ao18 t320.length co18, .slice Ao64 y348.length co64] rfl (by (try simp only [List.map_toArray, List.map_cons, List.map_nil]); first | done | rfl | (simp only [List.length_drop, List.length_take]; rfl)) ?_; (with_reducible refine (play_Play.calls _ _ t317 _ _ t320 _ _ y348 t351 t352 t353 _ ?side1 ?side2 ?side3 ?side4 ?side5 ?side6 A42.out).mono ?_); (case side1 => repeat (first | exact (Kd.R_reads' HO_10.out).2.2 | (with_reducible refine Kd.C_alloc ?_ _) | (with_reducible refine Kd.C_drewN ?_ _) | (with_reducible refine Kd.C_drew ?_))); (case side2 => exact (Kd.R_reads' HO_10.out).2.1); (case side3 => repeat (first | exact (Kd.S_reads' HO_11.out).2.2 | (with_reducible refine Kd.C_alloc ?_ _) | (with_reducible refine Kd.C_drewN ?_ _) | (with_reducible refine Kd.C_drew ?_))); (case side4 => exact (Kd.S_reads' HO_11.out).2.1); (case side5 => repeat (first | exact (Kd.R_reads' HO350.out).2.2 | (with_reducible refine Kd.C_alloc ?_ _) | (with_reducible refine Kd.C_drewN ?_ _) | (with_reducible refine Kd.C_drew ?_))); (case side6 => exact (Kd.R_reads' HO350.out).2.1); rintro e w65 ⟨v354, v356, rfl, ho0, ho1, hb⟩; refine ⟨_, rfl, ?_⟩; have n0_ := Aside0.mk (Kd.R_elder' (by (with_reducible repeat (first | apply Kd.R_alloc | apply Kd.R_drewN | apply Kd.R_drew)); exact HO_10.out) (Kd.R_base ho1) hb); have n1_ := Aside0.mk (Kd.S_below (by (with_reducible repeat (first | apply Kd.S_alloc | apply Kd.S_drewN | apply Kd.S_drew)); exact HO_11.out) hb); have n2_ := Aside0.mk (Kd.R_elder' (by (with_reducible repeat (first | apply Kd.R_alloc | apply Kd.R_drewN | apply Kd.R_drew)); exact HO_12.out) (Kd.R_base ho0) hb); have n3_ := Aside0.mk (Kd.R_elder' (by (with_reducible repeat (first | apply Kd.R_alloc | apply Kd.R_drewN | apply Kd.R_drew)); exact HO_13.out) (Kd.R_base ho1) hb); have n4_ := Aside0.mk (Kd.R_elder' (by (with_reducible repeat (first | apply Kd.R_alloc | apply Kd.R_drewN | apply Kd.R_drew)); exact HO_16.out) (Kd.R_base ho1) hb); have n5_ := Aside0.mk (Kd.R_elder' (by (with_reducible repeat (first | apply Kd.R_alloc | apply Kd.R_drewN | apply Kd.R_drew)); exact HO350.out) (Kd.R_base ho1) hb); have n6_ := Aside0.mk (Kd.R_lower (Kd.R_new' ho0 (Kd.R_lt (by (with_reducible repeat (first | apply Kd.R_alloc | apply Kd.R_drewN | apply Kd.R_drew)); exact HO_12.out))) (below_size (by repeat (first | (with_reducible first | exact HB.out | apply below_alloc | apply pw_below_drewN | apply below_drew1) | exact HB.out)))); have n7_ := Aside0.mk (Kd.R_lower (Kd.R_new' (Kd.R_new' (Kd.R_new' (Kd.R_new' ho1 (Kd.R_lt (by (with_reducible repeat (first | apply Kd.R_alloc | apply Kd.R_drewN | apply Kd.R_drew)); exact HO_10.out))) (Kd.R_lt (by (with_reducible repeat (first | apply Kd.R_alloc | apply Kd.R_drewN | apply Kd.R_drew)); exact HO_13.out))) (Kd.R_lt (by (with_reducible repeat (first | apply Kd.R_alloc | apply Kd.R_drewN | apply Kd.R_drew)); exact HO_16.out))) (Kd.R_lt (by (with_reducible repeat (first | apply Kd.R_alloc | apply Kd.R_drewN | apply Kd.R_drew)); exact HO350.out))) (below_size (by repeat (first | (with_reducible first | exact HB.out | apply below_alloc | apply pw_below_drewN | apply below_drew1) | exact HB.out)))); have n8_ := Aside0.mk (below_step (by repeat (first | (with_reducible first | exact HB.out | apply below_alloc | apply pw_below_drewN | apply below_drew1) | exact HB.out)) hb); clear HO_10; clear HO_11; clear HO_12; clear HO_13; clear HO_16; clear HO350; clear HB; have HO_10 := n0_; have HO_11 := n1_; have HO_12 := n2_; have HO_13 := n3_; have HO_16 := n4_; have HO350 := n5_; have HO355 := n6_; have HO357 := n7_; have HB := n8_; clear n0_ n1_ n2_ n3_ n4_ n5_ n6_ n7_ n8_; (try clear hb); (try clear hb2); (try clear hk); (try clear hi); (try clear ho0); (try clear ho1); obtain ⟨Ao66, co66, eo66⟩ := Kd.R_slice HO_12.out; subst eo66; obtain ⟨Ao67, co67, eo67⟩ := Kd.R_slice HO355.out; subst eo67) | ((with_reducible refine gate_callee (f := 13) rfl ?_); refine goesL_ (some 112) rfl rfl Tryd.func13 (by kernel_rfl) rfl #[.slice Ao66 t323.length co66, .slice Ao67 t351.length co67] rfl (by (try simp only [List.map_toArray, List.map_cons, List.map_nil]); first | done | rfl | (simp only [List.length_drop, List.length_take]; rfl)) ?_; (with_reducible refine (warpref1_SameEvents.calls k3 _ _ t323 _ _ t351 true _ ?side1 ?side2 ?side3 ?side4 A43.out).mono ?_); (case side1 => repeat (first | exact (Kd.R_reads' HO_12.out).2.2 | (with_reducible refine Kd.C_alloc ?_ _) | (with_reducible refine Kd.C_drewN ?_ _) | (with_reducible refine Kd.C_drew ?_))); (case side2 => exact (Kd.R_reads' HO_12.out).2.1); (case side3 => repeat (first | exact (Kd.R_reads' HO355.out).2.2 | (with_reducible refine Kd.C_alloc ?_ _) | (with_reducible refine Kd.C_drewN ?_ _) | (with_reducible refine Kd.C_drew ?_))); (case side4 => exact (Kd.R_reads' HO355.out).2.1); rintro e w' ⟨rfl, ⟨nd, rfl⟩⟩; refine ⟨_, rfl, ?_⟩; obtain ⟨Ao68, co68, eo68⟩ := Kd.R_slice HO_13.out; subst eo68; obtain ⟨Ao69, co69, eo69⟩ := Kd.R_slice HO357.out; subst eo69) | (go_at_call 14; (with_reducible refine (warpref1_Ints.calls k3 _ _ t324 _ _ t352 true _ ?side1 ?side2 ?side3 ?side4 A45.out).mono ?_); (case side1 => repeat (first | exact (Kd.R_reads' HO_13.out).2.2 | (with_reducible refine Kd.C_alloc ?_ _) | (with_reducible refine Kd.C_drewN ?_ _) | (with_reducible refine Kd.C_drew ?_))); (case side2 => exact (Kd.R_reads' HO_13.out).2.1); (case side3 => repeat (first | exact (Kd.R_reads' HO357.out).2.2 | (with_reducible refine Kd.C_alloc ?_ _) | (with_reducible refine Kd.C_drewN ?_ _) | (with_reducible refine Kd.C_drew ?_))); (case side4 => exact (Kd.R_reads' HO357.out).2.1); rintro e w' ⟨rfl, ⟨nd, rfl⟩⟩))
                go_ret
                exact ⟨by first | rfl | (simp [errW_none, errW_some] <;> rfl) | (simp [*, errW_none, errW_some] <;> rfl), by repeat (first | (with_reducible first | exact HB.out | apply below_alloc | apply pw_below_drewN | apply below_drew1) | exact HB.out)⟩
              ·
               replace c46 := Bool.eq_false_iff.mpr c46
               subst c46
               have H1 : (some false) = some r := by rw [if_neg (show ¬ (false = true) by decide)] at H; exact H
               clear H
               have H := H1
               clear H1
               obtain rfl := Option.some.inj H
               go_wp2_with (first | ((with_reducible refine gate_dst (N := 101) rfl ?_); (try (refine gate_guard (by rfl) ?_; dsimp only)); refine Kd.R_lit (Kd.int .i64) _ 3 ?hg (N := 101) ?hd (xs := ([] : List Int)) (inner := []) (ok := fun _ => True) (okp := fun _ => True) ?hr ?hp (fun _ hk => hk) trivial (Below.refl _ _) (Nat.le_refl _) (by simp) ?_; (case hd => rfl); (case hg => rfl); (case hr => first | (go_simp; done) | (go_simp; rfl)); (case hp => exact (Reps.none _ _)); intro v343 w70 ho71 hb hg_ hnew_; clear hg_ hnew_; (first | rw [← Ny342.out] at ho71 | (simp only [Int.reduceToNat] at ho71; rw [← Ny342.out] at ho71)); have n0_ := Aside0.mk (Kd.R_elder' (by (with_reducible repeat (first | apply Kd.R_alloc | apply Kd.R_drewN | apply Kd.R_drew)); exact HO_10.out) (Kd.R_base ho71) hb); have n1_ := Aside0.mk (Kd.S_below (by (with_reducible repeat (first | apply Kd.S_alloc | apply Kd.S_drewN | apply Kd.S_drew)); exact HO_11.out) hb); have n2_ := Aside0.mk (Kd.R_below (by (with_reducible repeat (first | apply Kd.R_alloc | apply Kd.R_drewN | apply Kd.R_drew)); exact HO_12.out) hb); have n3_ := Aside0.mk (Kd.R_elder' (by (with_reducible repeat (first | apply Kd.R_alloc | apply Kd.R_drewN | apply Kd.R_drew)); exact HO_13.out) (Kd.R_base ho71) hb); have n4_ := Aside0.mk (Kd.R_elder' (by (with_reducible repeat (first | apply Kd.R_alloc | apply Kd.R_drewN | apply Kd.R_drew)); exact HO_16.out) (Kd.R_base ho71) hb); have n5_ := Aside0.mk (Kd.R_lower (Kd.R_new' (Kd.R_new' (Kd.R_new' ho71 (Kd.R_lt (by (with_reducible repeat (first | apply Kd.R_alloc | apply Kd.R_drewN | apply Kd.R_drew)); exact HO_10.out))) (Kd.R_lt (by (with_reducible repeat (first | apply Kd.R_alloc | apply Kd.R_drewN | apply Kd.R_drew)); exact HO_13.out))) (Kd.R_lt (by (with_reducible repeat (first | apply Kd.R_alloc | apply Kd.R_drewN | apply Kd.R_drew)); exact HO_16.out))) (below_size (by repeat (first | (with_reducible first | exact HB.out | apply below_alloc | apply pw_below_drewN | apply below_drew1) | exact HB.out)))); have n6_ := Aside0.mk (below_step (by repeat (first | (with_reducible first | exact HB.out | apply below_alloc | apply pw_below_drewN | apply below_drew1) | exact HB.out)) hb); clear HO_10; clear HO_11; clear HO_12; clear HO_13; clear HO_16; clear HB; have HO_10 := n0_; have HO_11 := n1_; have HO_12 := n2_; have HO_13 := n3_; have HO_16 := n4_; have HO344 := n5_; have HB := n6_; clear n0_ n1_ n2_ n3_ n4_ n5_ n6_; clear hb ho71) | ((with_reducible refine gate_builtin (b := .append) (xs := #[.tmp 101, .tmp 102]) rfl ?_); (try (refine gate_guard (by rfl) ?_; dsimp only)); at_builtin; refine Kd.R_append_rows (Kd.int .i64) (w0 := w) w.heap.size rfl (.tmp 101) (.tmp 102) 22 3 (.int .i64 0) 8 rfl Tryd.underlying22 info3 rfl (by decide) (by omega) v343 y342 l2 _ _ _ (fun k_ => some k_ ≠ (.slice Ao17 t317.length co17 : Value).ownBlock ∧ some k_ ≠ (v328 : Value).ownBlock ∧ some k_ ≠ (v335 : Value).ownBlock) (fun _ => False) rfl rfl ?aO ?aR (fun _ _ h => h) (fun _ h => h.elim) ?aF ?aB ?aS ?aL ?_; (case aR => repeat (first | exact (Kd.C_below HR2.out HB.out) | (with_reducible refine Kd.C_alloc ?_ _) | (with_reducible refine Kd.C_drewN ?_ _) | (with_reducible refine Kd.C_drew ?_))); (case aB => exact (by repeat (first | (with_reducible first | exact HB.out | apply below_alloc | apply pw_below_drewN | apply below_drew1) | exact HB.out))); (case aF => exact (fun k_ hk => ⟨Kd.fresh' (Kd.R_lt (by (with_reducible repeat (first | apply Kd.R_alloc | apply Kd.R_drewN | apply Kd.R_drew)); exact HO_10.out)) k_ hk, Kd.fresh' (Kd.R_lt (by (with_reducible repeat (first | apply Kd.R_alloc | apply Kd.R_drewN | apply Kd.R_drew)); exact HO_13.out)) k_ hk, Kd.fresh' (Kd.R_lt (by (with_reducible repeat (first | apply Kd.R_alloc | apply Kd.R_drewN | apply Kd.R_drew)); exact HO_16.out)) k_ hk⟩)); (case aO => exact (by (with_reducible repeat (first | apply Kd.R_alloc | apply Kd.R_drewN | apply Kd.R_drew)); exact Kd.R_mono HO344.out (fun _ hk => ⟨hk.1.1.2, ⟨hk.1.2, hk.2⟩⟩))); (case aS => exact (below_size (by repeat (first | (with_reducible first | exact HB.out | apply below_alloc | apply pw_below_drewN | apply below_drew1) | exact HB.out)))); (case aL => have := LMc40.out; omega); intro v346 w72 ho hb hg hat; rw [← Ny345.out] at ho; have n0_ := Aside0.mk (Kd.R_after (ok := (fun k_ => some k_ ≠ (v328 : Value).ownBlock ∧ some k_ ≠ (v335 : Value).ownBlock)) (by (with_reducible repeat (first | apply Kd.R_alloc | apply Kd.R_drewN | apply Kd.R_drew)); exact HO_10.out) hg hat); have n1_ := Aside0.mk (Kd.S_over' (by (with_reducible repeat (first | apply Kd.S_alloc | apply Kd.S_drewN | apply Kd.S_drew)); exact HO_11.out) (Kd.R_typed (by (with_reducible repeat (first | apply Kd.R_alloc | apply Kd.R_drewN | apply Kd.R_drew)); exact HO344.out)) (by decide) hg); have n2_ := Aside0.mk (Kd.R_over' (by (with_reducible repeat (first | apply Kd.R_alloc | apply Kd.R_drewN | apply Kd.R_drew)); exact HO_12.out) (Kd.R_typed (by (with_reducible repeat (first | apply Kd.R_alloc | apply Kd.R_drewN | apply Kd.R_drew)); exact HO344.out)) (by decide) hg); have n3_ := Aside0.mk (Kd.R_after (ok := (fun k_ => some k_ ≠ (.slice Ao17 t317.length co17 : Value).ownBlock ∧ some k_ ≠ (v335 : Value).ownBlock)) (by (with_reducible repeat (first | apply Kd.R_alloc | apply Kd.R_drewN | apply Kd.R_drew)); exact HO_13.out) hg hat); have n4_ := Aside0.mk (Kd.R_after (ok := (fun k_ => some k_ ≠ (.slice Ao17 t317.length co17 : Value).ownBlock ∧ some k_ ≠ (v328 : Value).ownBlock)) (by (with_reducible repeat (first | apply Kd.R_alloc | apply Kd.R_drewN | apply Kd.R_drew)); exact HO_16.out) hg hat); have n5_ := Aside0.mk (hb); have n6_ := Aside0.mk (ho); clear HO_10; clear HO_11; clear HO_12; clear HO_13; clear HO_16; clear HB; clear HO344; have HO_10 := n0_; have HO_11 := n1_; have HO_12 := n2_; have HO_13 := n3_; have HO_16 := n4_; have HB := n5_; have HO347 := n6_; clear n0_ n1_ n2_ n3_ n4_ n5_ n6_; clear ho hb hg hat) | ((with_reducible refine gate_builtin (b := .append) (xs := #[.tmp 103, .tmp 104]) rfl ?_); (try (refine gate_guard (by rfl) ?_; dsimp only)); at_builtin; refine Kd.R_append_rows (Kd.int .i64) (w0 := w) w.heap.size rfl (.tmp 103) (.tmp 104) 22 3 (.int .i64 0) 8 rfl Tryd.underlying22 info3 rfl (by decide) (by omega) v346 y345 l3 _ _ _ (fun k_ => some k_ ≠ (.slice Ao17 t317.length co17 : Value).ownBlock ∧ some k_ ≠ (v328 : Value).ownBlock ∧ some k_ ≠ (v335 : Value).ownBlock) (fun _ => False) rfl rfl ?aO ?aR (fun _ _ h => h) (fun _ h => h.elim) ?aF ?aB ?aS ?aL ?_; (case aR => repeat (first | exact (Kd.C_below HR3.out HB.out) | (with_reducible refine Kd.C_alloc ?_ _) | (with_reducible refine Kd.C_drewN ?_ _) | (with_reducible refine Kd.C_drew ?_))); (case aB => exact (by repeat (first | (with_reducible first | exact HB.out | apply below_alloc | apply pw_below_drewN | apply below_drew1) | exact HB.out))); (case aF => exact (fun k_ hk => ⟨Kd.fresh' (Kd.R_lt (by (with_reducible repeat (first | apply Kd.R_alloc | apply Kd.R_drewN | apply Kd.R_drew)); exact HO_10.out)) k_ hk, Kd.fresh' (Kd.R_lt (by (with_reducible repeat (first | apply Kd.R_alloc | apply Kd.R_drewN | apply Kd.R_drew)); exact HO_13.out)) k_ hk, Kd.fresh' (Kd.R_lt (by (with_reducible repeat (first | apply Kd.R_alloc | apply Kd.R_drewN | apply Kd.R_drew)); exact HO_16.out)) k_ hk⟩)); (case aO => exact (by (with_reducible repeat (first | apply Kd.R_alloc | apply Kd.R_drewN | apply Kd.R_drew)); exact HO347.out)); (case aS => exact (below_size (by repeat (first | (with_reducible first | exact HB.out | apply below_alloc | apply pw_below_drewN | apply below_drew1) | exact HB.out)))); (case aL => have := LMc41.out; omega); intro v349 w73 ho hb hg hat; rw [← Ny348.out] at ho; have n0_ := Aside0.mk (Kd.R_after (ok := (fun k_ => some k_ ≠ (v328 : Value).ownBlock ∧ some k_ ≠ (v335 : Value).ownBlock)) (by (with_reducible repeat (first | apply Kd.R_alloc | apply Kd.R_drewN | apply Kd.R_drew)); exact HO_10.out) hg hat); have n1_ := Aside0.mk (Kd.S_over' (by (with_reducible repeat (first | apply Kd.S_alloc | apply Kd.S_drewN | apply Kd.S_drew)); exact HO_11.out) (Kd.R_typed (by (with_reducible repeat (first | apply Kd.R_alloc | apply Kd.R_drewN | apply Kd.R_drew)); exact HO347.out)) (by decide) hg); have n2_ := Aside0.mk (Kd.R_over' (by (with_reducible repeat (first | apply Kd.R_alloc | apply Kd.R_drewN | apply Kd.R_drew)); exact HO_12.out) (Kd.R_typed (by (with_reducible repeat (first | apply Kd.R_alloc | apply Kd.R_drewN | apply Kd.R_drew)); exact HO347.out)) (by decide) hg); have n3_ := Aside0.mk (Kd.R_after (ok := (fun k_ => some k_ ≠ (.slice Ao17 t317.length co17 : Value).ownBlock ∧ some k_ ≠ (v335 : Value).ownBlock)) (by (with_reducible repeat (first | apply Kd.R_alloc | apply Kd.R_drewN | apply Kd.R_drew)); exact HO_13.out) hg hat); have n4_ := Aside0.mk (Kd.R_after (ok := (fun k_ => some k_ ≠ (.slice Ao17 t317.length co17 : Value).ownBlock ∧ some k_ ≠ (v328 : Value).ownBlock)) (by (with_reducible repeat (first | apply Kd.R_alloc | apply Kd.R_drewN | apply Kd.R_drew)); exact HO_16.out) hg hat); have n5_ := Aside0.mk (hb); have n6_ := Aside0.mk (ho); clear HO_10; clear HO_11; clear HO_12; clear HO_13; clear HO_16; clear HB; clear HO347; have HO_10 := n0_; have HO_11 := n1_; have HO_12 := n2_; have HO_13 := n3_; have HO_16 := n4_; have HB := n5_; have HO350 := n6_; clear n0_ n1_ n2_ n3_ n4_ n5_ n6_; clear ho hb hg hat; obtain ⟨Ao74, co74, eo74⟩ := Kd.R_slice HO350.out; subst eo74) | ((with_reducible refine gate_callee (f := 11) rfl ?_); refine goesL_ (some 106) rfl rfl Tryd.func11 (by kernel_rfl) rfl #[.slice Ao17 t317.length co17, .slice Ao18 t320.length co18, .slice Ao74 y348.length co74] rfl (by (try simp only [List.map_toArray, List.map_cons, List.map_nil]); first | done | rfl | (simp only [List.length_drop, List.length_take]; rfl)) ?_; (with_reducible refine (play_Play.calls _ _ t317 _ _ t320 _ _ y348 t351 t352 t353 _ ?side1 ?side2 ?side3 ?side4 ?side5 ?side6 A42.out).mono ?_); (case side1 => repeat (first | exact (Kd.R_reads' HO_10.out).2.2 | (with_reducible refine Kd.C_alloc ?_ _) | (with_reducible refine Kd.C_drewN ?_ _) | (with_reducible refine Kd.C_drew ?_))); (case side2 => exact (Kd.R_reads' HO_10.out).2.1); (case side3 => repeat (first | exact (Kd.S_reads' HO_11.out).2.2 | (with_reducible refine Kd.C_alloc ?_ _) | (with_reducible refine Kd.C_drewN ?_ _) | (with_reducible refine Kd.C_drew ?_))); (case side4 => exact (Kd.S_reads' HO_11.out).2.1); (case side5 => repeat (first | exact (Kd.R_reads' HO350.out).2.2 | (with_reducible refine Kd.C_alloc ?_ _) | (with_reducible refine Kd.C_drewN ?_ _) | (with_reducible refine Kd.C_drew ?_))); (case side6 => exact (Kd.R_reads' HO350.out).2.1); rintro e w75 ⟨v354, v356, rfl, ho0, ho1, hb⟩; refine ⟨_, rfl, ?_⟩; have n0_ := Aside0.mk (Kd.R_elder' (by (with_reducible repeat (first | apply Kd.R_alloc | apply Kd.R_drewN | apply Kd.R_drew)); exact HO_10.out) (Kd.R_base ho1) hb); have n1_ := Aside0.mk (Kd.S_below (by (with_reducible repeat (first | apply Kd.S_alloc | apply Kd.S_drewN | apply Kd.S_drew)); exact HO_11.out) hb); have n2_ := Aside0.mk (Kd.R_elder' (by (with_reducible repeat (first | apply Kd.R_alloc | apply Kd.R_drewN | apply Kd.R_drew)); exact HO_12.out) (Kd.R_base ho0) hb); have n3_ := Aside0.mk (Kd.R_elder' (by (with_reducible repeat (first | apply Kd.R_alloc | apply Kd.R_drewN | apply Kd.R_drew)); exact HO_13.out) (Kd.R_base ho1) hb); have n4_ := Aside0.mk (Kd.R_elder' (by (with_reducible repeat (first | apply Kd.R_alloc | apply Kd.R_drewN | apply Kd.R_drew)); exact HO_16.out) (Kd.R_base ho1) hb); have n5_ := Aside0.mk (Kd.R_elder' (by (with_reducible repeat (first | apply Kd.R_alloc | apply Kd.R_drewN | apply Kd.R_drew)); exact HO350.out) (Kd.R_base ho1) hb); have n6_ := Aside0.mk (Kd.R_lower (Kd.R_new' ho0 (Kd.R_lt (by (with_reducible repeat (first | apply Kd.R_alloc | apply Kd.R_drewN | apply Kd.R_drew)); exact HO_12.out))) (below_size (by repeat (first | (with_reducible first | exact HB.out | apply below_alloc | apply pw_below_drewN | apply below_drew1) | exact HB.out)))); have n7_ := Aside0.mk (Kd.R_lower (Kd.R_new' (Kd.R_new' (Kd.R_new' (Kd.R_new' ho1 (Kd.R_lt (by (with_reducible repeat (first | apply Kd.R_alloc | apply Kd.R_drewN | apply Kd.R_drew)); exact HO_10.out))) (Kd.R_lt (by (with_reducible repeat (first | apply Kd.R_alloc | apply Kd.R_drewN | apply Kd.R_drew)); exact HO_13.out))) (Kd.R_lt (by (with_reducible repeat (first | apply Kd.R_alloc | apply Kd.R_drewN | apply Kd.R_drew)); exact HO_16.out))) (Kd.R_lt (by (with_reducible repeat (first | apply Kd.R_alloc | apply Kd.R_drewN | apply Kd.R_drew)); exact HO350.out))) (below_size (by repeat (first | (with_reducible first | exact HB.out | apply below_alloc | apply pw_below_drewN | apply below_drew1) | exact HB.out)))); have n8_ := Aside0.mk (below_step (by repeat (first | (with_reducible first | exact HB.out | apply below_alloc | apply pw_below_drewN | apply below_drew1) | exact HB.out)) hb); clear HO_10; clear HO_11; clear HO_12; clear HO_13; clear HO_16; clear HO350; clear HB; have HO_10 := n0_; have HO_11 := n1_; have HO_12 := n2_; have HO_13 := n3_; have HO_16 := n4_; have HO350 := n5_; have HO355 := n6_; have HO357 := n7_; have HB := n8_; clear n0_ n1_ n2_ n3_ n4_ n5_ n6_ n7_ n8_; (try clear hb); (try clear hb2); (try clear hk); (try clear hi); (try clear ho0); (try clear ho1); obtain ⟨Ao76, co76, eo76⟩ := Kd.R_slice HO_12.out; subst eo76; obtain ⟨Ao77, co77, eo77⟩ := Kd.R_slice HO355.out; subst eo77) | ((with_reducible refine gate_callee (f := 13) rfl ?_); refine goesL_ (some 112) rfl rfl Tryd.func13 (by kernel_rfl) rfl #[.slice Ao76 t323.length co76, .slice Ao77 t351.length co77] rfl (by (try simp only [List.map_toArray, List.map_cons, List.map_nil]); first | done | rfl | (simp only [List.length_drop, List.length_take]; rfl)) ?_; (with_reducible refine (warpref1_SameEvents.calls k3 _ _ t323 _ _ t351 true _ ?side1 ?side2 ?side3 ?side4 A43.out).mono ?_); (case side1 => repeat (first | exact (Kd.R_reads' HO_12.out).2.2 | (with_reducible refine Kd.C_alloc ?_ _) | (with_reducible refine Kd.C_drewN ?_ _) | (with_reducible refine Kd.C_drew ?_))); (case side2 => exact (Kd.R_reads' HO_12.out).2.1); (case side3 => repeat (first | exact (Kd.R_reads' HO355.out).2.2 | (with_reducible refine Kd.C_alloc ?_ _) | (with_reducible refine Kd.C_drewN ?_ _) | (with_reducible refine Kd.C_drew ?_))); (case side4 => exact (Kd.R_reads' HO355.out).2.1); rintro e w' ⟨rfl, ⟨nd, rfl⟩⟩; refine ⟨_, rfl, ?_⟩; obtain ⟨Ao78, co78, eo78⟩ := Kd.R_slice HO_13.out; subst eo78; obtain ⟨Ao79, co79, eo79⟩ := Kd.R_slice HO357.out; subst eo79) | (go_at_call 14; (with_reducible refine (warpref1_Ints.calls k3 _ _ t324 _ _ t352 false _ ?side1 ?side2 ?side3 ?side4 A45.out).mono ?_); (case side1 => repeat (first | exact (Kd.R_reads' HO_13.out).2.2 | (with_reducible refine Kd.C_alloc ?_ _) | (with_reducible refine Kd.C_drewN ?_ _) | (with_reducible refine Kd.C_drew ?_))); (case side2 => exact (Kd.R_reads' HO_13.out).2.1); (case side3 => repeat (first | exact (Kd.R_reads' HO357.out).2.2 | (with_reducible refine Kd.C_alloc ?_ _) | (with_reducible refine Kd.C_drewN ?_ _) | (with_reducible refine Kd.C_drew ?_))); (case side4 => exact (Kd.R_reads' HO357.out).2.1); rintro e w' ⟨rfl, ⟨nd, rfl⟩⟩))
               go_ret
               exact ⟨by first | rfl | (simp [errW_none, errW_some] <;> rfl) | (simp [*, errW_none, errW_some] <;> rfl), by repeat (first | (with_reducible first | exact HB.out | apply below_alloc | apply pw_below_drewN | apply below_drew1) | exact HB.out)⟩
             ·
              replace c44 := Bool.eq_false_iff.mpr c44
              subst c44
              have H1 : (some false) = some r := by rw [if_neg (show ¬ (false = true) by decide)] at H; exact H
              clear H
              have H := H1
              clear H1
              obtain rfl := Option.some.inj H
              go_wp2_with (first | ((with_reducible refine gate_dst (N := 101) rfl ?_); (try (refine gate_guard (by rfl) ?_; dsimp only)); refine Kd.R_lit (Kd.int .i64) _ 3 ?hg (N := 101) ?hd (xs := ([] : List Int)) (inner := []) (ok := fun _ => True) (okp := fun _ => True) ?hr ?hp (fun _ hk => hk) trivial (Below.refl _ _) (Nat.le_refl _) (by simp) ?_; (case hd => rfl); (case hg => rfl); (case hr => first | (go_simp; done) | (go_simp; rfl)); (case hp => exact (Reps.none _ _)); intro v343 w80 ho81 hb hg_ hnew_; clear hg_ hnew_; (first | rw [← Ny342.out] at ho81 | (simp only [Int.reduceToNat] at ho81; rw [← Ny342.out] at ho81)); have n0_ := Aside0.mk (Kd.R_elder' (by (with_reducible repeat (first | apply Kd.R_alloc | apply Kd.R_drewN | apply Kd.R_drew)); exact HO_10.out) (Kd.R_base ho81) hb); have n1_ := Aside0.mk (Kd.S_below (by (with_reducible repeat (first | apply Kd.S_alloc | apply Kd.S_drewN | apply Kd.S_drew)); exact HO_11.out) hb); have n2_ := Aside0.mk (Kd.R_below (by (with_reducible repeat (first | apply Kd.R_alloc | apply Kd.R_drewN | apply Kd.R_drew)); exact HO_12.out) hb); have n3_ := Aside0.mk (Kd.R_elder' (by (with_reducible repeat (first | apply Kd.R_alloc | apply Kd.R_drewN | apply Kd.R_drew)); exact HO_13.out) (Kd.R_base ho81) hb); have n4_ := Aside0.mk (Kd.R_elder' (by (with_reducible repeat (first | apply Kd.R_alloc | apply Kd.R_drewN | apply Kd.R_drew)); exact HO_16.out) (Kd.R_base ho81) hb); have n5_ := Aside0.mk (Kd.R_lower (Kd.R_new' (Kd.R_new' (Kd.R_new' ho81 (Kd.R_lt (by (with_reducible repeat (first | apply Kd.R_alloc | apply Kd.R_drewN | apply Kd.R_drew)); exact HO_10.out))) (Kd.R_lt (by (with_reducible repeat (first | apply Kd.R_alloc | apply Kd.R_drewN | apply Kd.R_drew)); exact HO_13.out))) (Kd.R_lt (by (with_reducible repeat (first | apply Kd.R_alloc | apply Kd.R_drewN | apply Kd.R_drew)); exact HO_16.out))) (below_size (by repeat (first | (with_reducible first | exact HB.out | apply below_alloc | apply pw_below_drewN | apply below_drew1) | exact HB.out)))); have n6_ := Aside0.mk (below_step (by repeat (first | (with_reducible first | exact HB.out | apply below_alloc | apply pw_below_drewN | apply below_drew1) | exact HB.out)) hb); clear HO_10; clear HO_11; clear HO_12; clear HO_13; clear HO_16; clear HB; have HO_10 := n0_; have HO_11 := n1_; have HO_12 := n2_; have HO_13 := n3_; have HO_16 := n4_; have HO344 := n5_; have HB := n6_; clear n0_ n1_ n2_ n3_ n4_ n5_ n6_; clear hb ho81) | ((with_reducible refine gate_builtin (b := .append) (xs := #[.tmp 101, .tmp 102]) rfl ?_); (try (refine gate_guard (by rfl) ?_; dsimp only)); at_builtin; refine Kd.R_append_rows (Kd.int .i64) (w0 := w) w.heap.size rfl (.tmp 101) (.tmp 102) 22 3 (.int .i64 0) 8 rfl Tryd.underlying22 info3 rfl (by decide) (by omega) v343 y342 l2 _ _ _ (fun k_ => some k_ ≠ (.slice Ao17 t317.length co17 : Value).ownBlock ∧ some k_ ≠ (v328 : Value).ownBlock ∧ some k_ ≠ (v335 : Value).ownBlock) (fun _ => False) rfl rfl ?aO ?aR (fun _ _ h => h) (fun _ h => h.elim) ?aF ?aB ?aS ?aL ?_; (case aR => repeat (first | exact (Kd.C_below HR2.out HB.out) | (with_reducible refine Kd.C_alloc ?_ _) | (with_reducible refine Kd.C_drewN ?_ _) | (with_reducible refine Kd.C_drew ?_))); (case aB => exact (by repeat (first | (with_reducible first | exact HB.out | apply below_alloc | apply pw_below_drewN | apply below_drew1) | exact HB.out))); (case aF => exact (fun k_ hk => ⟨Kd.fresh' (Kd.R_lt (by (with_reducible repeat (first | apply Kd.R_alloc | apply Kd.R_drewN | apply Kd.R_drew)); exact HO_10.out)) k_ hk, Kd.fresh' (Kd.R_lt (by (with_reducible repeat (first | apply Kd.R_alloc | apply Kd.R_drewN | apply Kd.R_drew)); exact HO_13.out)) k_ hk, Kd.fresh' (Kd.R_lt (by (with_reducible repeat (first | apply Kd.R_alloc | apply Kd.R_drewN | apply Kd.R_drew)); exact HO_16.out)) k_ hk⟩)); (case aO => exact (by (with_reducible repeat (first | apply Kd.R_alloc | apply Kd.R_drewN | apply Kd.R_drew)); exact Kd.R_mono HO344.out (fun _ hk => ⟨hk.1.1.2, ⟨hk.1.2, hk.2⟩⟩))); (case aS => exact (below_size (by repeat (first | (with_reducible first | exact HB.out | apply below_alloc | apply pw_below_drewN | apply below_drew1) | exact HB.out)))); (case aL => have := LMc40.out; omega); intro v346 w82 ho hb hg hat; rw [← Ny345.out] at ho; have n0_ := Aside0.mk (Kd.R_after (ok := (fun k_ => some k_ ≠ (v328 : Value).ownBlock ∧ some k_ ≠ (v335 : Value).ownBlock)) (by (with_reducible repeat (first | apply Kd.R_alloc | apply Kd.R_drewN | apply Kd.R_drew)); exact HO_10.out) hg hat); have n1_ := Aside0.mk (Kd.S_over' (by (with_reducible repeat (first | apply Kd.S_alloc | apply Kd.S_drewN | apply Kd.S_drew)); exact HO_11.out) (Kd.R_typed (by (with_reducible repeat (first | apply Kd.R_alloc | apply Kd.R_drewN | apply Kd.R_drew)); exact HO344.out)) (by decide) hg); have n2_ := Aside0.mk (Kd.R_over' (by (with_reducible repeat (first | apply Kd.R_alloc | apply Kd.R_drewN | apply Kd.R_drew)); exact HO_12.out) (Kd.R_typed (by (with_reducible repeat (first | apply Kd.R_alloc | apply Kd.R_drewN | apply Kd.R_drew)); exact HO344.out)) (by decide) hg); have n3_ := Aside0.mk (Kd.R_after (ok := (fun k_ => some k_ ≠ (.slice Ao17 t317.length co17 : Value).ownBlock ∧ some k_ ≠ (v335 : Value).ownBlock)) (by (with_reducible repeat (first | apply Kd.R_alloc | apply Kd.R_drewN | apply Kd.R_drew)); exact HO_13.out) hg hat); have n4_ := Aside0.mk (Kd.R_after (ok := (fun k_ => some k_ ≠ (.slice Ao17 t317.length co17 : Value).ownBlock ∧ some k_ ≠ (v328 : Value).ownBlock)) (by (with_reducible repeat (first | apply Kd.R_alloc | apply Kd.R_drewN | apply Kd.R_drew)); exact HO_16.out) hg hat); have n5_ := Aside0.mk (hb); have n6_ := Aside0.mk (ho); clear HO_10; clear HO_11; clear HO_12; clear HO_13; clear HO_16; clear HB; clear HO344; have HO_10 := n0_; have HO_11 := n1_; have HO_12 := n2_; have HO_13 := n3_; have HO_16 := n4_; have HB := n5_; have HO347 := n6_; clear n0_ n1_ n2_ n3_ n4_ n5_ n6_; clear ho hb hg hat) | ((with_reducible refine gate_builtin (b := .append) (xs := #[.tmp 103, .tmp 104]) rfl ?_); (try (refine gate_guard (by rfl) ?_; dsimp only)); at_builtin; refine Kd.R_append_rows (Kd.int .i64) (w0 := w) w.heap.size rfl (.tmp 103) (.tmp 104) 22 3 (.int .i64 0) 8 rfl Tryd.underlying22 info3 rfl (by decide) (by omega) v346 y345 l3 _ _ _ (fun k_ => some k_ ≠ (.slice Ao17 t317.length co17 : Value).ownBlock ∧ some k_ ≠ (v328 : Value).ownBlock ∧ some k_ ≠ (v335 : Value).ownBlock) (fun _ => False) rfl rfl ?aO ?aR (fun _ _ h => h) (fun _ h => h.elim) ?aF ?aB ?aS ?aL ?_; (case aR => repeat (first | exact (Kd.C_below HR3.out HB.out) | (with_reducible refine Kd.C_alloc ?_ _) | (with_reducible refine Kd.C_drewN ?_ _) | (with_reducible refine Kd.C_drew ?_))); (case aB => exact (by repeat (first | (with_reducible first | exact HB.out | apply below_alloc | apply pw_below_drewN | apply below_drew1) | exact HB.out))); (case aF => exact (fun k_ hk => ⟨Kd.fresh' (Kd.R_lt (by (with_reducible repeat (first | apply Kd.R_alloc | apply Kd.R_drewN | apply Kd.R_drew)); exact HO_10.out)) k_ hk, Kd.fresh' (Kd.R_lt (by (with_reducible repeat (first | apply Kd.R_alloc | apply Kd.R_drewN | apply Kd.R_drew)); exact HO_13.out)) k_ hk, Kd.fresh' (Kd.R_lt (by (with_reducible repeat (first | apply Kd.R_alloc | apply Kd.R_drewN | apply Kd.R_drew)); exact HO_16.out)) k_ hk⟩)); (case aO => exact (by (with_reducible repeat (first | apply Kd.R_alloc | apply Kd.R_drewN | apply Kd.R_drew)); exact HO347.out)); (case aS => exact (below_size (by repeat (first | (with_reducible first | exact HB.out | apply below_alloc | apply pw_below_drewN | apply below_drew1) | exact HB.out)))); (case aL => have := LMc41.out; omega); intro v349 w83 ho hb hg hat; rw [← Ny348.out] at ho; have n0_ := Aside0.mk (Kd.R_after (ok := (fun k_ => some k_ ≠ (v328 : Value).ownBlock ∧ some k_ ≠ (v335 : Value).ownBlock)) (by (with_reducible repeat (first | apply Kd.R_alloc | apply Kd.R_drewN | apply Kd.R_drew)); exact HO_10.out) hg hat); have n1_ := Aside0.mk (Kd.S_over' (by (with_reducible repeat (first | apply Kd.S_alloc | apply Kd.S_drewN | apply Kd.S_drew)); exact HO_11.out) (Kd.R_typed (by (with_reducible repeat (first | apply Kd.R_alloc | apply Kd.R_drewN | apply Kd.R_drew)); exact HO347.out)) (by decide) hg); have n2_ := Aside0.mk (Kd.R_over' (by (with_reducible repeat (first | apply Kd.R_alloc | apply Kd.R_drewN | apply Kd.R_drew)); exact HO_12.out) (Kd.R_typed (by (with_reducible repeat (first | apply Kd.R_alloc | apply Kd.R_drewN | apply Kd.R_drew)); exact HO347.out)) (by decide) hg); have n3_ := Aside0.mk (Kd.R_after (ok := (fun k_ => some k_ ≠ (.slice Ao17 t317.length co17 : Value).ownBlock ∧ some k_ ≠ (v335 : Value).ownBlock)) (by (with_reducible repeat (first | apply Kd.R_alloc | apply Kd.R_drewN | apply Kd.R_drew)); exact HO_13.out) hg hat); have n4_ := Aside0.mk (Kd.R_after (ok := (fun k_ => some k_ ≠ (.slice Ao17 t317.length co17 : Value).ownBlock ∧ some k_ ≠ (v328 : Value).ownBlock)) (by (with_reducible repeat (first | apply Kd.R_alloc | apply Kd.R_drewN | apply Kd.R_drew)); exact HO_16.out) hg hat); have n5_ := Aside0.mk (hb); have n6_ := Aside0.mk (ho); clear HO_10; clear HO_11; clear HO_12; clear HO_13; clear HO_16; clear HB; clear HO347; have HO_10 := n0_; have HO_11 := n1_; have HO_12 := n2_; have HO_13 := n3_; have HO_16 := n4_; have HB := n5_; have HO350 := n6_; clear n0_ n1_ n2_ n3_ n4_ n5_ n6_; clear ho hb hg hat; obtain ⟨Ao84, co84, eo84⟩ := Kd.R_slice HO350.out; subst eo84) | ((with_reducible refine gate_callee (f := 11) rfl ?_); refine goesL_ (some 106) rfl rfl Tryd.func11 (by kernel_rfl) rfl #[.slice Ao17 t317.length co17, .slice Ao18 t320.length co18, .slice Ao84 y348.length co84] rfl (by (try simp only [List.map_toArray, List.map_cons, List.map_nil]); first | done | rfl | (simp only [List.length_drop, List.length_take]; rfl)) ?_; (with_reducible refine (play_Play.calls _ _ t317 _ _ t320 _ _ y348 t351 t352 t353 _ ?side1 ?side2 ?side3 ?side4 ?side5 ?side6 A42.out).mono ?_); (case side1 => repeat (first | exact (Kd.R_reads' HO_10.out).2.2 | (with_reducible refine Kd.C_alloc ?_ _) | (with_reducible refine Kd.C_drewN ?_ _) | (with_reducible refine Kd.C_drew ?_))); (case side2 => exact (Kd.R_reads' HO_10.out).2.1); (case side3 => repeat (first | exact (Kd.S_reads' HO_11.out).2.2 | (with_reducible refine Kd.C_alloc ?_ _) | (with_reducible refine Kd.C_drewN ?_ _) | (with_reducible refine Kd.C_drew ?_))); (case side4 => exact (Kd.S_reads' HO_11.out).2.1); (case side5 => repeat (first | exact (Kd.R_reads' HO350.out).2.2 | (with_reducible refine Kd.C_alloc ?_ _) | (with_reducible refine Kd.C_drewN ?_ _) | (with_reducible refine Kd.C_drew ?_))); (case side6 => exact (Kd.R_reads' HO350.out).2.1); rintro e w85 ⟨v354, v356, rfl, ho0, ho1, hb⟩; refine ⟨_, rfl, ?_⟩; have n0_ := Aside0.mk (Kd.R_elder' (by (with_reducible repeat (first | apply Kd.R_alloc | apply Kd.R_drewN | apply Kd.R_drew)); exact HO_10.out) (Kd.R_base ho1) hb); have n1_ := Aside0.mk (Kd.S_below (by (with_reducible repeat (first | apply Kd.S_alloc | apply Kd.S_drewN | apply Kd.S_drew)); exact HO_11.out) hb); have n2_ := Aside0.mk (Kd.R_elder' (by (with_reducible repeat (first | apply Kd.R_alloc | apply Kd.R_drewN | apply Kd.R_drew)); exact HO_12.out) (Kd.R_base ho0) hb); have n3_ := Aside0.mk (Kd.R_elder' (by (with_reducible repeat (first | apply Kd.R_alloc | apply Kd.R_drewN | apply Kd.R_drew)); exact HO_13.out) (Kd.R_base ho1) hb); have n4_ := Aside0.mk (Kd.R_elder' (by (with_reducible repeat (first | apply Kd.R_alloc | apply Kd.R_drewN | apply Kd.R_drew)); exact HO_16.out) (Kd.R_base ho1) hb); have n5_ := Aside0.mk (Kd.R_elder' (by (with_reducible repeat (first | apply Kd.R_alloc | apply Kd.R_drewN | apply Kd.R_drew)); exact HO350.out) (Kd.R_base ho1) hb); have n6_ := Aside0.mk (Kd.R_lower (Kd.R_new' ho0 (Kd.R_lt (by (with_reducible repeat (first | apply Kd.R_alloc | apply Kd.R_drewN | apply Kd.R_drew)); exact HO_12.out))) (below_size (by repeat (first | (with_reducible first | exact HB.out | apply below_alloc | apply pw_below_drewN | apply below_drew1) | exact HB.out)))); have n7_ := Aside0.mk (Kd.R_lower (Kd.R_new' (Kd.R_new' (Kd.R_new' (Kd.R_new' ho1 (Kd.R_lt (by (with_reducible repeat (first | apply Kd.R_alloc | apply Kd.R_drewN | apply Kd.R_drew)); exact HO_10.out))) (Kd.R_lt (by (with_reducible repeat (first | apply Kd.R_alloc | apply Kd.R_drewN | apply Kd.R_drew)); exact HO_13.out))) (Kd.R_lt (by (with_reducible repeat (first | apply Kd.R_alloc | apply Kd.R_drewN | apply Kd.R_drew)); exact HO_16.out))) (Kd.R_lt (by (with_reducible repeat (first | apply Kd.R_alloc | apply Kd.R_drewN | apply Kd.R_drew)); exact HO350.out))) (below_size (by repeat (first | (with_reducible first | exact HB.out | apply below_alloc | apply pw_below_drewN | apply below_drew1) | exact HB.out)))); have n8_ := Aside0.mk (below_step (by repeat (first | (with_reducible first | exact HB.out | apply below_alloc | apply pw_below_drewN | apply below_drew1) | exact HB.out)) hb); clear HO_10; clear HO_11; clear HO_12; clear HO_13; clear HO_16; clear HO350; clear HB; have HO_10 := n0_; have HO_11 := n1_; have HO_12 := n2_; have HO_13 := n3_; have HO_16 := n4_; have HO350 := n5_; have HO355 := n6_; have HO357 := n7_; have HB := n8_; clear n0_ n1_ n2_ n3_ n4_ n5_ n6_ n7_ n8_; (try clear hb); (try clear hb2); (try clear hk); (try clear hi); (try clear ho0); (try clear ho1); obtain ⟨Ao86, co86, eo86⟩ := Kd.R_slice HO_12.out; subst eo86; obtain ⟨Ao87, co87, eo87⟩ := Kd.R_slice HO355.out; subst eo87) | ((with_reducible refine gate_callee (f := 13) rfl ?_); refine goesL_ (some 112) rfl rfl Tryd.func13 (by kernel_rfl) rfl #[.slice Ao86 t323.length co86, .slice Ao87 t351.length co87] rfl (by (try simp only [List.map_toArray, List.map_cons, List.map_nil]); first | done | rfl | (simp only [List.length_drop, List.length_take]; rfl)) ?_; (with_reducible refine (warpref1_SameEvents.calls k3 _ _ t323 _ _ t351 false _ ?side1 ?side2 ?side3 ?side4 A43.out).mono ?_); (case side1 => repeat (first | exact (Kd.R_reads' HO_12.out).2.2 | (with_reducible refine Kd.C_alloc ?_ _) | (with_reducible refine Kd.C_drewN ?_ _) | (with_reducible refine Kd.C_drew ?_))); (case side2 => exact (Kd.R_reads' HO_12.out).2.1); (case side3 => repeat (first | exact (Kd.R_reads' HO355.out).2.2 | (with_reducible refine Kd.C_alloc ?_ _) | (with_reducible refine Kd.C_drewN ?_ _) | (with_reducible refine Kd.C_drew ?_))); (case side4 => exact (Kd.R_reads' HO355.out).2.1); rintro e w' ⟨rfl, ⟨nd, rfl⟩⟩; refine ⟨_, rfl, ?_⟩))
              go_ret
              exact ⟨by first | rfl | (simp [errW_none, errW_some] <;> rfl) | (simp [*, errW_none, errW_some] <;> rfl), by repeat (first | (with_reducible first | exact HB.out | apply below_alloc | apply pw_below_drewN | apply below_drew1) | exact HB.out)⟩
            ·
             rw [if_neg c41] at H
             exact absurd H (by simp)
           ·
            rw [if_neg c40] at H
            exact absurd H (by simp)
def warplaw5_PlayPicks.Pure : Prop := ∀ (l0 : List Int) (l1 : List (List Int)) (l2 : List Int) (l3 : List Int), ((fun l : List Int => l.length ≤ maxLen ∧ ∀ x ∈ l, (fun n : Int => (Lit.int .u8 n).wf = true) x) l0) → ((fun l : List (List Int) => l.length ≤ maxLen ∧ ∀ x ∈ l, (fun l : List Int => l.length ≤ maxLen ∧ ∀ x ∈ l, (fun n : Int => (Lit.int .u8 n).wf = true) x) x) l1) → ((fun l : List Int => l.length ≤ maxLen ∧ ∀ x ∈ l, (fun n : Int => (Lit.int .i64 n).wf = true) x) l2) → ((fun l : List Int => l.length ≤ maxLen ∧ ∀ x ∈ l, (fun n : Int => (Lit.int .i64 n).wf = true) x) l3) → ∃ k, warplaw5_PlayPicks.f k l0 l1 l2 l3 = some true
end Go.Proofs.YtmaiicpaalbcfaaDoor.P
end
section
namespace Go.Proofs.YtmaiicpaalbcfaaDoor.Pure
open Go.RowKit Go.Proofs.YtmaiicpaalbcfaaDoor.P Go.Proofs.YtmaiicpaalbcfaaDoorW.PrintWords Go.Proofs.YtmaiicpaalbcfaaDoorW.PrintLast Go.Proofs.YtmaiicpaalbcfaaDoor
theorem awake5_at : warplaw5_awake.f 5 = some true := by kernel_rfl
theorem awake5 : Ev (fun k => warplaw5_awake.f k) true := Ev.of warplaw5_awake.mono awake5_at
end Go.Proofs.YtmaiicpaalbcfaaDoor.Pure
end
section
namespace Go.Proofs.YtmaiicpaalbcfaaDoor
open Go.RowKit
def LT (p : List Int) (x y : Nat) : Prop := belowB p x y = true
theorem lt_iff (p : List Int) (x y : Nat) : LT p x y ↔ (p.getD x 0 < p.getD y 0 ∨ (p.getD x 0 = p.getD y 0 ∧ x < y)) := by
  simp [LT, belowB, lowB]
theorem lt_irrefl (p : List Int) (x : Nat) : ¬ LT p x x := by
  rw [lt_iff]
  omega
theorem lt_trans {p : List Int} {x y z : Nat} (h1 : LT p x y) (h2 : LT p y z) : LT p x z := by
  rw [lt_iff] at *
  omega
theorem lt_total (p : List Int) {x y : Nat} (h : x ≠ y) : LT p x y ∨ LT p y x := by
  simp only [lt_iff]
  omega
theorem lt_asymm {p : List Int} {x y : Nat} (h1 : LT p x y) (h2 : LT p y x) : False := lt_irrefl p x (lt_trans h1 h2)
theorem countP_le {q r : Nat → Bool} : ∀ (l : List Nat), (∀ z ∈ l, q z = true → r z = true) → l.countP q ≤ l.countP r
  | [], _ => by simp
  | z :: l, h => by
    have ih := countP_le l (fun y hy => h y (by simp [hy]))
    have h0 := h z (by simp)
    rw [List.countP_cons, List.countP_cons]
    by_cases e : q z = true
    · rw [if_pos e, if_pos (h0 e)]; omega
    · rw [if_neg e]
      split <;> omega
theorem countP_lt {q r : Nat → Bool} : ∀ (l : List Nat) (y : Nat), y ∈ l → q y = false → r y = true → (∀ z ∈ l, q z = true → r z = true) → l.countP q < l.countP r
  | [], _, h, _, _, _ => absurd h (by simp)
  | z :: l, y, hy, h1, h2, h => by
    rw [List.countP_cons, List.countP_cons]
    rcases List.mem_cons.1 hy with rfl | hy'
    · have := countP_le l (fun y hy => h y (by simp [hy]))
      simp only [h1, h2, if_true]
      simp
      omega
    · have ih := countP_lt l y hy' h1 h2 (fun y hy => h y (by simp [hy]))
      have h0 := h z (by simp)
      by_cases e : q z = true
      · rw [if_pos e, if_pos (h0 e)]; omega
      · rw [if_neg e]
        split <;> omega
def above (p : List Int) (n x : Nat) : Nat := (List.range n).countP fun (z : Nat) => belowB p x z
theorem above_lt {p : List Int} {n x y : Nat} (hy : y < n) (h : LT p x y) : above p n y < above p n x :=
  countP_lt (List.range n) y (by simpa using hy) (by have := lt_irrefl p y; unfold LT at this; simpa using this) h (fun _ _ hz => lt_trans h hz)
theorem above_n {p : List Int} {n x : Nat} (hx : x < n) : above p n x < n := by
  have h := countP_lt (q := fun (z : Nat) => belowB p x z) (r := fun _ => true) (List.range n) x (by simpa using hx) (by have := lt_irrefl p x; unfold LT at this; simpa using this) rfl (fun _ _ _ => rfl)
  have e : (List.range n).countP (fun _ => true) = n := by simp
  rw [e] at h
  exact h
def stepUp (up : List Int) (c : Nat) : Nat := if up.getD c 0 ≠ c ∧ 0 ≤ up.getD c 0 ∧ up.getD c 0 < up.length then (up.getD c 0).toNat else c
def climb (up : List Int) : Nat → Nat → Nat
  | 0, c => c
  | k + 1, c => climb up k (stepUp up c)
def rootN (up : List Int) (c : Nat) : Nat := climb up up.length c
theorem stepUp_lt {up : List Int} {c : Nat} (h : c < up.length) : stepUp up c < up.length := by unfold stepUp; split <;> omega
def Ok (up p : List Int) : Prop := up.length = p.length ∧ up.length ≤ 65536 ∧ ∀ j, j < up.length → ∃ y : Nat, up.getD j 0 = y ∧ y < up.length ∧ (y = j ∨ LT p j y)
theorem Ok.step {up p : List Int} (h : Ok up p) {c : Nat} (hc : c < up.length) : up.getD c 0 = stepUp up c ∧ (stepUp up c = c ∨ LT p c (stepUp up c)) := by
  obtain ⟨y, hy, h1, h2⟩ := h.2.2 c hc
  unfold stepUp
  rw [hy]
  by_cases e : (y : Int) = c
  · rw [if_neg (by omega)]
    exact ⟨e, .inl rfl⟩
  · rw [if_pos (by omega)]
    refine ⟨by simp, ?_⟩
    simp only [Int.toNat_natCast]
    rcases h2 with h2 | h2
    · omega
    · exact .inr h2
theorem climb_fix {up : List Int} {c : Nat} (h : stepUp up c = c) : ∀ k, climb up k c = c
  | 0 => rfl
  | k + 1 => by rw [climb, h, climb_fix h k]
theorem climb_lt {up : List Int} : ∀ (k : Nat) {c : Nat}, c < up.length → climb up k c < up.length
  | 0, _, h => h
  | k + 1, _, h => climb_lt k (stepUp_lt h)
theorem climb_ends {up p : List Int} (h : Ok up p) : ∀ (k : Nat) {c : Nat}, c < up.length → above p up.length c ≤ k → stepUp up (climb up k c) = climb up k c
  | 0, c, hc, ha => by
    rcases (h.step hc).2 with e | e
    · exact e
    · have := above_lt (stepUp_lt hc) e
      omega
  | k + 1, c, hc, ha => by
    rcases (h.step hc).2 with e | e
    · rw [climb_fix e]; exact e
    · rw [climb]
      exact climb_ends h k (stepUp_lt hc) (by have := above_lt (stepUp_lt hc) e; omega)
theorem root_fix {up p : List Int} (h : Ok up p) {c : Nat} (hc : c < up.length) : stepUp up (rootN up c) = rootN up c :=
  climb_ends h _ hc (Nat.le_of_lt (above_n hc))
theorem climb_succ (up : List Int) : ∀ (k c : Nat), climb up (k + 1) c = stepUp up (climb up k c)
  | 0, _ => rfl
  | k + 1, c => by rw [climb, climb_succ up k, climb]
theorem root_up {up p : List Int} (h : Ok up p) {c : Nat} (hc : c < up.length) : rootN up (stepUp up c) = rootN up c := by
  have : climb up (up.length + 1) c = rootN up c := by rw [climb_succ]; exact root_fix h hc
  rw [← this]
  rfl
theorem root_of_fix {up : List Int} {c : Nat} (h : stepUp up c = c) : rootN up c = c := climb_fix h _
theorem root_lt {up : List Int} {c : Nat} (hc : c < up.length) : rootN up c < up.length := climb_lt _ hc
theorem root_root {up p : List Int} (h : Ok up p) {c : Nat} (hc : c < up.length) : rootN up (rootN up c) = rootN up c := root_of_fix (root_fix h hc)
end Go.Proofs.YtmaiicpaalbcfaaDoor
end
section
namespace Go.Proofs.YtmaiicpaalbcfaaDoor
open Go.RowKit
structure Ord (p : List Int) (t : T) : Prop where
  a : t.is = false → (t.s = 2 ∨ t.s = 3) → LT p t.u.toNat t.w.toNat
  b : t.is = false → t.s = 3 → LT p t.w.toNat t.r.toNat
  c : t.is = false → (t.s = 5 ∨ t.s = 6) → LT p t.v.toNat t.w.toNat
  d : t.is = false → t.s = 6 → LT p t.w.toNat t.r.toNat
  e : t.is = false → (t.s = 7 ∨ t.s = 8) → t.u ≠ t.v
theorem at_nat (up : List Int) (j : Nat) : at_ up (j : Int) = up.getD j 0 := by simp [at_]
theorem Ok.at {up p : List Int} (h : Ok up p) {x : Int} (hx : In up.length x) : In up.length (at_ up x) ∧ (at_ up x ≠ x → LT p x.toNat (at_ up x).toNat) := by
  obtain ⟨j, rfl⟩ := Int.eq_ofNat_of_zero_le hx.1
  have hj : j < up.length := by have := hx.2; omega
  have hs := h.step hj
  rw [at_nat, hs.1]
  have := stepUp_lt hj
  refine ⟨⟨by omega, by omega⟩, fun hne => ?_⟩
  simp only [Int.toNat_natCast]
  rcases hs.2 with e | e
  · omega
  · exact e
theorem getD_set (l : List Int) (i j : Nat) (x : Int) (hj : j < l.length) : (l.set i x).getD j 0 = if i = j then x else l.getD j 0 := by
  rw [List.getD_eq_getElem?_getD, List.getD_eq_getElem?_getD, List.getElem?_set]
  split
  · rename_i h
    subst h
    rw [if_pos hj]
    rfl
  · rfl
theorem Ok.set {up p : List Int} (h : Ok up p) {x y : Nat} (hy : y < up.length) (hl : LT p x y) : Ok (up.set x (y : Int)) p := by
  refine ⟨by rw [List.length_set]; exact h.1, by rw [List.length_set]; exact h.2.1, fun j hj => ?_⟩
  rw [List.length_set] at hj ⊢
  rw [getD_set _ _ _ _ hj]
  split
  · rename_i e
    subst e
    exact ⟨y, rfl, hy, .inr hl⟩
  · exact h.2.2 j hj
theorem in_nat {n : Nat} {x : Int} (h : In n x) : ∃ j : Nat, x = (j : Int) ∧ j < n := by
  obtain ⟨j, rfl⟩ := Int.eq_ofNat_of_zero_le h.1
  exact ⟨j, rfl, by have := h.2; omega⟩
theorem Ok.swap {up p : List Int} (h : Ok up p) {x was now : Int} (hx : In up.length x) (hn : In up.length now) (hl : LT p x.toNat now.toNat) : Ok (swapL up x was now) p := by
  obtain ⟨i, rfl, _⟩ := in_nat hx
  obtain ⟨j, rfl, hj⟩ := in_nat hn
  unfold swapL
  split
  · exact h.set hj hl
  · exact h
theorem swapL_len (up : List Int) (a b c : Int) : (swapL up a b c).length = up.length := by unfold swapL; split <;> simp
structure Keeps (n : Int) (p : List Int) (t : T) : Prop where
  fit : Fit n t
  ord : Ord p t
theorem keep_first {n : Int} {p : List Int} {t : T} (k0 : 1 ≤ t.k) (k1 : t.k ≤ 3) (hu : In n t.u) (hv : t.k ≠ 1 → In n t.v) (hs : t.s = 1 ∨ t.s = 2) (hw : t.s = 2 → In n t.w) : Keeps n p (firstT t) := by
  unfold firstT
  split
  · rename_i hk
    refine ⟨⟨k0, k1, hu, hv, ?_, ?_, ?_, ?_, ?_, ?_, ?_⟩, ⟨?_, ?_, ?_, ?_, ?_⟩⟩ <;> simp only [finish] <;> intros <;> first | omega | (exact hw (by omega)) | contradiction
  · rename_i hk
    refine ⟨⟨k0, k1, hu, hv, ?_, ?_, ?_, ?_, ?_, ?_, ?_⟩, ⟨?_, ?_, ?_, ?_, ?_⟩⟩ <;> simp only <;> intros <;> omega
theorem keep_second {n : Int} {p : List Int} {t : T} (k0 : 1 ≤ t.k) (k1 : t.k ≤ 3) (kk : t.k ≠ 1) (hu : In n t.u) (hv : t.k ≠ 1 → In n t.v) (hs : t.s = 4 ∨ t.s = 5) (hw : t.s = 5 → In n t.w) : Keeps n p (secondT t) := by
  unfold secondT
  split
  · refine ⟨⟨k0, k1, hu, hv, ?_, ?_, ?_, ?_, ?_, ?_, ?_⟩, ⟨?_, ?_, ?_, ?_, ?_⟩⟩ <;> simp only [finish] <;> intros <;> first | omega | (exact hw (by omega)) | contradiction
  · rename_i hne
    by_cases h2 : t.k = 2
    · rw [if_pos h2]
      refine ⟨⟨k0, k1, hu, hv, ?_, ?_, ?_, ?_, ?_, ?_, ?_⟩, ⟨?_, ?_, ?_, ?_, ?_⟩⟩ <;> simp only <;> intros <;> first | omega | exact hne
    · rw [if_neg h2]
      refine ⟨⟨k0, k1, hu, hv, ?_, ?_, ?_, ?_, ?_, ?_, ?_⟩, ⟨?_, ?_, ?_, ?_, ?_⟩⟩ <;> simp only <;> intros <;> first | omega | exact hne
theorem step_keeps {up p : List Int} {t : T} (h : Ok up p) (hk : Keeps up.length p t) : Ok (stepL up p t).1 p ∧ (stepL up p t).1.length = up.length ∧ Keeps up.length p (stepL up p t).2 := by
  obtain ⟨k, x, y, s, u, v, w, r, is, res⟩ := t
  obtain ⟨⟨k0, k1, u0, v0, s0, s1, k2, k7, k8, w0, r0⟩, ⟨oa, ob, oc, od, oe⟩⟩ := hk
  simp only at k0 k1 u0 v0 s0 s1 k2 k7 k8 w0 r0 oa ob oc od oe
  rcases is with _ | _
  · have au := h.at u0
    have av := fun hk => h.at (v0 hk)
    rcases (show s = 1 ∨ s = 2 ∨ s = 3 ∨ s = 4 ∨ s = 5 ∨ s = 6 ∨ s = 7 ∨ s = 8 by omega) with rfl | rfl | rfl | rfl | rfl | rfl | rfl | rfl
    · refine ⟨by simpa [stepL] using h, by simp [stepL], ?_⟩
      simp only [stepL, if_neg Bool.false_ne_true, if_true]
      split
      · exact keep_first k0 k1 u0 v0 (.inl rfl) (by intro h; simp at h)
      · rename_i hne
        refine ⟨⟨k0, k1, u0, v0, ?_, ?_, ?_, ?_, ?_, ?_, ?_⟩, ⟨?_, ?_, ?_, ?_, ?_⟩⟩ <;> simp only <;> intros <;> first | omega | exact au.1 | exact au.2 hne
    · have w1 := w0 (by omega)
      have aw := h.at w1
      refine ⟨by simpa [stepL] using h, by simp [stepL], ?_⟩
      simp only [stepL, if_neg Bool.false_ne_true, if_true]
      simp only [show ((2 : Int) = 1) = False by simp, if_false]
      split
      · exact keep_first k0 k1 w1 v0 (.inr rfl) (fun _ => w1)
      · rename_i hne
        refine ⟨⟨k0, k1, u0, v0, ?_, ?_, ?_, ?_, ?_, ?_, ?_⟩, ⟨?_, ?_, ?_, ?_, ?_⟩⟩ <;> simp only <;> intros <;> first | omega | exact w1 | exact aw.1 | exact oa rfl (.inl rfl) | exact aw.2 hne
    · have w1 := w0 (by omega)
      have r1 := r0 (by omega)
      have hl := lt_trans (oa rfl (.inr rfl)) (ob rfl rfl)
      refine ⟨by simpa [stepL] using h.swap u0 r1 hl, by simp [stepL, swapL_len], ?_⟩
      simp only [stepL, if_neg Bool.false_ne_true, show ((3 : Int) = 1) = False by simp, show ((3 : Int) = 2) = False by simp, if_false, if_true]
      refine ⟨⟨k0, k1, w1, v0, ?_, ?_, ?_, ?_, ?_, ?_, ?_⟩, ⟨?_, ?_, ?_, ?_, ?_⟩⟩ <;> simp only <;> intros <;> first | omega
    · refine ⟨by simpa [stepL] using h, by simp [stepL], ?_⟩
      simp only [stepL, if_neg Bool.false_ne_true, show ((4 : Int) = 1) = False by simp, show ((4 : Int) = 2) = False by simp, show ((4 : Int) = 3) = False by simp, if_false, if_true]
      split
      · exact keep_second k0 k1 (k2 (by omega)) u0 v0 (.inl rfl) (by intro h; simp at h)
      · rename_i hne
        refine ⟨⟨k0, k1, u0, v0, ?_, ?_, ?_, ?_, ?_, ?_, ?_⟩, ⟨?_, ?_, ?_, ?_, ?_⟩⟩ <;> simp only <;> intros <;> first | omega | exact (av (k2 (by omega))).1 | exact (av (k2 (by omega))).2 hne | exact k2 (by omega)
    · have w1 := w0 (by omega)
      have aw := h.at w1
      refine ⟨by simpa [stepL] using h, by simp [stepL], ?_⟩
      simp only [stepL, if_neg Bool.false_ne_true, show ((5 : Int) = 1) = False by simp, show ((5 : Int) = 2) = False by simp, show ((5 : Int) = 3) = False by simp, show ((5 : Int) = 4) = False by simp, if_false, if_true]
      split
      · exact keep_second k0 k1 (k2 (by omega)) u0 (fun _ => w1) (.inr rfl) (fun _ => w1)
      · rename_i hne
        refine ⟨⟨k0, k1, u0, v0, ?_, ?_, ?_, ?_, ?_, ?_, ?_⟩, ⟨?_, ?_, ?_, ?_, ?_⟩⟩ <;> simp only <;> intros <;> first | omega | exact w1 | exact aw.1 | exact oc rfl (.inl rfl) | exact aw.2 hne | exact k2 (by omega)
    · have w1 := w0 (by omega)
      have r1 := r0 (by omega)
      have hl := lt_trans (oc rfl (.inr rfl)) (od rfl rfl)
      refine ⟨by simpa [stepL] using h.swap (v0 (k2 (by omega))) r1 hl, by simp [stepL, swapL_len], ?_⟩
      simp only [stepL, if_neg Bool.false_ne_true, show ((6 : Int) = 1) = False by simp, show ((6 : Int) = 2) = False by simp, show ((6 : Int) = 3) = False by simp, show ((6 : Int) = 4) = False by simp, show ((6 : Int) = 5) = False by simp, if_false, if_true]
      refine ⟨⟨k0, k1, u0, (fun _ => w1), ?_, ?_, ?_, ?_, ?_, ?_, ?_⟩, ⟨?_, ?_, ?_, ?_, ?_⟩⟩ <;> simp only <;> intros <;> first | omega | exact k2 (by omega)
    · refine ⟨by simpa [stepL] using h, by simp [stepL], ?_⟩
      simp only [stepL, if_neg Bool.false_ne_true, show ((7 : Int) = 1) = False by simp, show ((7 : Int) = 2) = False by simp, show ((7 : Int) = 3) = False by simp, show ((7 : Int) = 4) = False by simp, show ((7 : Int) = 5) = False by simp, show ((7 : Int) = 6) = False by simp, if_false, if_true]
      split
      · refine ⟨⟨k0, k1, u0, v0, ?_, ?_, ?_, ?_, ?_, ?_, ?_⟩, ⟨?_, ?_, ?_, ?_, ?_⟩⟩ <;> simp only [finish] <;> intros <;> first | omega | contradiction | exact k2 (by omega) | exact k7 rfl
      · refine ⟨⟨k0, k1, u0, v0, ?_, ?_, ?_, ?_, ?_, ?_, ?_⟩, ⟨?_, ?_, ?_, ?_, ?_⟩⟩ <;> simp only <;> intros <;> first | omega | exact au.1
    · obtain ⟨i, rfl, hi⟩ := in_nat u0
      obtain ⟨j, rfl, hj⟩ := in_nat (v0 (k2 (by omega)))
      have hne := oe rfl (.inr rfl)
      have hij : i ≠ j := fun e => hne (by rw [e])
      simp only [stepL, if_neg Bool.false_ne_true, show ((8 : Int) = 1) = False by simp, show ((8 : Int) = 2) = False by simp, show ((8 : Int) = 3) = False by simp, show ((8 : Int) = 4) = False by simp, show ((8 : Int) = 5) = False by simp, show ((8 : Int) = 6) = False by simp, show ((8 : Int) = 7) = False by simp, if_false]
      have K1 : Keeps up.length p (finish ⟨k, x, y, 8, (i : Int), (j : Int), w, r, false, res⟩ 1) := by
        refine ⟨⟨k0, k1, u0, v0, ?_, ?_, ?_, ?_, ?_, ?_, ?_⟩, ⟨?_, ?_, ?_, ?_, ?_⟩⟩ <;> simp only [finish] <;> intros <;> first | omega | contradiction | exact k2 (by omega) | exact k8 rfl
      have K2 : Keeps up.length p ⟨k, x, y, 1, (i : Int), (j : Int), w, r, false, res⟩ := by
        refine ⟨⟨k0, k1, u0, v0, ?_, ?_, ?_, ?_, ?_, ?_, ?_⟩, ⟨?_, ?_, ?_, ?_, ?_⟩⟩ <;> simp only <;> intros <;> first | omega
      split
      · rename_i hb
        split
        · exact ⟨by simpa using h.set hj hb, by simp, K1⟩
        · exact ⟨h, rfl, K2⟩
      · rename_i hb
        split
        · exact ⟨by simpa using h.set hi ((lt_total p hij).resolve_left hb), by simp, K1⟩
        · exact ⟨h, rfl, K2⟩
  · refine ⟨by simpa [stepL] using h, by simp [stepL], ?_⟩
    simp only [stepL, if_true]
    exact ⟨⟨k0, k1, u0, v0, s0, s1, k2, k7, k8, w0, r0⟩, ⟨oa, ob, oc, od, oe⟩⟩
end Go.Proofs.YtmaiicpaalbcfaaDoor
end
section
namespace Go.Proofs.YtmaiicpaalbcfaaDoor
open Go.RowKit
theorem above_ind {p : List Int} {n : Nat} {M : Nat → Prop} (h : ∀ x, x < n → (∀ y, y < n → LT p x y → M y) → M x) : ∀ x, x < n → M x := by
  have key : ∀ k x, x < n → above p n x ≤ k → M x := by
    intro k
    induction k with
    | zero =>
      intro x hx ha
      exact h x hx (fun y hy hl => by have := above_lt hy hl; omega)
    | succ k ih =>
      intro x hx ha
      exact h x hx (fun y hy hl => ih y hy (by have := above_lt hy hl; omega))
  exact fun x hx => key _ x hx (Nat.le_refl _)
theorem step_getD {up p : List Int} (h : Ok up p) {c : Nat} (hc : c < up.length) : up.getD c 0 = (stepUp up c : Int) := (h.step hc).1
theorem stepUp_of {up p : List Int} (h : Ok up p) {c y : Nat} (hc : c < up.length) (e : up.getD c 0 = (y : Int)) : stepUp up c = y := by
  have := step_getD h hc
  rw [e] at this
  omega
theorem root_above {up p : List Int} (h : Ok up p) : ∀ x, x < up.length → (rootN up x = x ∨ LT p x (rootN up x)) :=
  above_ind (p := p) (fun x hx ih => by
    rcases (h.step hx).2 with e | e
    · exact .inl (root_of_fix e)
    · rw [← root_up h hx]
      rcases ih _ (stepUp_lt hx) e with e2 | e2
      · rw [e2]
        exact .inr e
      · exact .inr (lt_trans e e2))
theorem root_split {up p : List Int} (h : Ok up p) {u w r : Nat} (hu : u < up.length) (hr : r < up.length) (he : up.getD u 0 = (w : Int)) (h1 : LT p u w) (h2 : LT p w r) (hroot : rootN up r = rootN up w) :
    ∀ x, x < up.length → rootN (up.set u (r : Int)) x = rootN up x := by
  have ho := h.set hr (lt_trans h1 h2)
  have hl : (up.set u (r : Int)).length = up.length := by simp
  have hw : stepUp up u = w := stepUp_of h hu he
  refine above_ind (p := p) (fun x hx ih => ?_)
  have hx' : x < (up.set u (r : Int)).length := by omega
  by_cases e : u = x
  · subst e
    have hs : stepUp (up.set u (r : Int)) u = r := stepUp_of ho hx' (by rw [getD_set _ _ _ _ hu, if_pos rfl])
    rw [← root_up ho hx', hs, ih r hr (lt_trans h1 h2), hroot, ← hw, root_up h hu]
  · have hs : stepUp (up.set u (r : Int)) x = stepUp up x := stepUp_of ho hx' (by rw [getD_set _ _ _ _ hx, if_neg e]; exact step_getD h hx)
    rcases (h.step hx).2 with f | f
    · rw [root_of_fix f, root_of_fix (by rw [hs]; exact f)]
    · rw [← root_up ho hx', hs, ih _ (stepUp_lt hx) f, root_up h hx]
theorem root_link {up p : List Int} (h : Ok up p) {a b : Nat} (ha : a < up.length) (hb : b < up.length) (he : up.getD a 0 = (a : Int)) (h1 : LT p a b) :
    ∀ x, x < up.length → rootN (up.set a (b : Int)) x = if rootN up x = a then rootN up b else rootN up x := by
  have ho := h.set hb h1
  have hl : (up.set a (b : Int)).length = up.length := by simp
  have hfix : stepUp up a = a := stepUp_of h ha he
  have hra : rootN up a = a := root_of_fix hfix
  have hrb : rootN up b ≠ a := by
    intro e
    rcases root_above h b hb with f | f
    · rw [e] at f
      rw [← f] at h1
      exact lt_irrefl p _ h1
    · rw [e] at f
      exact lt_asymm h1 f
  refine above_ind (p := p) (fun x hx ih => ?_)
  have hx' : x < (up.set a (b : Int)).length := by omega
  by_cases e : a = x
  · subst e
    have hs : stepUp (up.set a (b : Int)) a = b := stepUp_of ho hx' (by rw [getD_set _ _ _ _ ha, if_pos rfl])
    rw [← root_up ho hx', hs, ih b hb h1, if_neg hrb, hra, if_pos rfl]
  · have hs : stepUp (up.set a (b : Int)) x = stepUp up x := stepUp_of ho hx' (by rw [getD_set _ _ _ _ hx, if_neg e]; exact step_getD h hx)
    rcases (h.step hx).2 with f | f
    · rw [root_of_fix f, root_of_fix (by rw [hs]; exact f), if_neg (Ne.symm e)]
    · rw [← root_up ho hx', hs, ih _ (stepUp_lt hx) f, root_up h hx]
structure RI (up : List Int) (t : T) : Prop where
  a : t.is = false → (t.s = 2 ∨ t.s = 3) → rootN up t.w.toNat = rootN up t.u.toNat
  b : t.is = false → t.s = 3 → rootN up t.r.toNat = rootN up t.w.toNat
  c : t.is = false → (t.s = 5 ∨ t.s = 6) → rootN up t.w.toNat = rootN up t.v.toNat
  d : t.is = false → t.s = 6 → rootN up t.r.toNat = rootN up t.w.toNat
def Goes (n : Nat) (up up' : List Int) : Prop := ∃ f : Nat → Nat, ∀ x, x < n → rootN up' x = f (rootN up x)
theorem Goes.refl (n : Nat) (up : List Int) : Goes n up up := ⟨id, fun _ _ => rfl⟩
theorem Goes.same {n : Nat} {up up' : List Int} (h : Goes n up up') {x y : Nat} (hx : x < n) (hy : y < n) (e : rootN up x = rootN up y) : rootN up' x = rootN up' y := by
  obtain ⟨f, hf⟩ := h
  rw [hf x hx, hf y hy, e]
theorem RI.goes {n : Nat} {up up' : List Int} {t : T} (h : RI up t) (hf : Fit n t) (hg : Goes n up up') : RI up' t := by
  have lt : ∀ {x : Int}, In n x → x.toNat < n := fun {x} hx => by have := hx.1; have := hx.2; omega
  refine ⟨fun h1 h2 => hg.same (lt (hf.w0 (by omega))) (lt hf.u0) (h.a h1 h2), fun h1 h2 => hg.same (lt (hf.r0 (by omega))) (lt (hf.w0 (by omega))) (h.b h1 h2),
    fun h1 h2 => hg.same (lt (hf.w0 (by omega))) (lt (hf.v0 (hf.k2 (by omega)))) (h.c h1 h2), fun h1 h2 => hg.same (lt (hf.r0 (by omega))) (lt (hf.w0 (by omega))) (h.d h1 h2)⟩
end Go.Proofs.YtmaiicpaalbcfaaDoor
end
section
namespace Go.Proofs.YtmaiicpaalbcfaaDoor
open Go.RowKit
def isRoot (up : List Int) (j : Nat) : Nat := if up.getD j 0 = (j : Int) then 1 else 0
def nRoots (up : List Int) : Nat → Nat
  | 0 => 0
  | k + 1 => nRoots up k + isRoot up k
theorem nRoots_same {up up' : List Int} : ∀ k, (∀ j, j < k → isRoot up' j = isRoot up j) → nRoots up' k = nRoots up k
  | 0, _ => rfl
  | k + 1, h => by
    rw [nRoots, nRoots, nRoots_same k (fun j hj => h j (by omega)), h k (by omega)]
theorem nRoots_less {up up' : List Int} {a : Nat} : ∀ k, a < k → isRoot up a = 1 → isRoot up' a = 0 → (∀ j, j < k → j ≠ a → isRoot up' j = isRoot up j) → nRoots up' k + 1 = nRoots up k
  | 0, h, _, _, _ => absurd h (by omega)
  | k + 1, ha, h1, h2, h => by
    rw [nRoots, nRoots]
    by_cases e : a = k
    · subst e
      rw [nRoots_same a (fun j hj => h j (by omega) (by omega)), h1, h2]
    · have := nRoots_less k (by omega) h1 h2 (fun j hj hne => h j (by omega) hne)
      have := h k (by omega) (Ne.symm e)
      omega
theorem isRoot_set {up : List Int} {a b j : Nat} (hj : j < up.length) : isRoot (up.set a (b : Int)) j = if a = j then (if b = j then 1 else 0) else isRoot up j := by
  unfold isRoot
  rw [getD_set _ _ _ _ hj]
  by_cases e : a = j
  · rw [if_pos e, if_pos e]
    by_cases f : b = j
    · rw [if_pos (by omega), if_pos f]
    · rw [if_neg (by omega), if_neg f]
  · rw [if_neg e, if_neg e]
structure Moves (n : Nat) (up up' : List Int) (t t' : T) : Prop where
  goes : Goes n up up'
  ri : RI up' t'
  back : ∀ j, j < n → rootN up' j = rootN up' (rootN up j)
  won : t.s = 8 → t.is = false → t'.is = true → nRoots up' n + 1 = nRoots up n
  none : ¬ (t.s = 8 ∧ t.is = false ∧ t'.is = true) → nRoots up' n = nRoots up n
theorem moves_stay {up p : List Int} {t t' : T} (h : Ok up p) (hr : RI up t') (hn : ¬ (t.s = 8 ∧ t.is = false ∧ t'.is = true)) : Moves up.length up up t t' :=
  ⟨Goes.refl _ _, hr, fun _ hj => (root_root h hj).symm, fun h1 h2 h3 => absurd ⟨h1, h2, h3⟩ hn, fun _ => rfl⟩
theorem ri_none {up : List Int} {t : T} (h : t.is = true ∨ t.s = 1 ∨ t.s = 4 ∨ t.s = 7 ∨ t.s = 8) : RI up t := by
  refine ⟨fun h1 h2 => ?_, fun h1 h2 => ?_, fun h1 h2 => ?_, fun h1 h2 => ?_⟩ <;> rcases h with h | h <;> first | (rw [h] at h1; cases h1) | omega
theorem ri_first {up : List Int} {t : T} : RI up (firstT t) := by
  unfold firstT
  split
  · exact ri_none (.inl rfl)
  · exact ri_none (.inr (.inr (.inl rfl)))
theorem ri_second {up : List Int} {t : T} : RI up (secondT t) := by
  unfold secondT
  split
  · exact ri_none (.inl rfl)
  · by_cases h : t.k = 2
    · exact ri_none (.inr (.inr (.inr (.inl (by simp only; rw [if_pos h])))))
    · exact ri_none (.inr (.inr (.inr (.inr (by simp only; rw [if_neg h])))))
theorem moves_split {up p : List Int} {t t' : T} (h : Ok up p) {u w r : Int} (hu : In up.length u) (hw : In up.length w) (hr : In up.length r) (h1 : LT p u.toNat w.toNat) (h2 : LT p w.toNat r.toNat) (hroot : rootN up r.toNat = rootN up w.toNat) (ht : t'.s = 1 ∨ t'.s = 4) (hn : ¬ (t.s = 8 ∧ t.is = false ∧ t'.is = true)) :
    Moves up.length up (swapL up u w r) t t' := by
  obtain ⟨u, rfl, hu'⟩ := in_nat hu
  obtain ⟨w, rfl, _⟩ := in_nat hw
  obtain ⟨r, rfl, hr'⟩ := in_nat hr
  simp only [Int.toNat_natCast] at h1 h2 hroot
  have hri : ∀ up, RI up t' := fun up => ri_none (by omega)
  unfold swapL
  rw [at_nat]
  split
  · rename_i he
    have hs := root_split h hu' hr' he h1 h2 hroot
    rw [Int.toNat_natCast]
    have huw : u ≠ w := fun e => by rw [e] at h1; exact lt_irrefl p _ h1
    have hur : r ≠ u := fun e => by rw [e] at h2; exact lt_asymm h1 h2
    refine ⟨⟨id, hs⟩, hri _, fun j hj => ?_, fun a b c => absurd ⟨a, b, c⟩ hn, fun _ => nRoots_same _ (fun z hz => ?_)⟩
    · rw [hs _ hj, hs _ (root_lt hj), root_root h hj]
    · rw [isRoot_set hz]
      split
      · rename_i e
        subst e
        rw [if_neg hur]
        unfold isRoot
        rw [if_neg (by omega)]
      · rfl
  · exact moves_stay h (hri _) hn
theorem moves_link {up p : List Int} {t t' : T} (h : Ok up p) {a b : Nat} (ha : a < up.length) (hb : b < up.length) (he : up.getD a 0 = (a : Int)) (h1 : LT p a b) (ht : t'.is = true) (hn : t.s = 8 ∧ t.is = false) :
    Moves up.length up (up.set a (b : Int)) t t' := by
  have hs := root_link h ha hb he h1
  have hab : b ≠ a := fun e => by rw [e] at h1; exact lt_irrefl p _ h1
  refine ⟨⟨fun z => if z = a then rootN up b else z, hs⟩, ri_none (.inl ht), fun j hj => ?_, fun _ _ _ => ?_, fun hh => absurd ⟨hn.1, hn.2, ht⟩ hh⟩
  · rw [hs _ hj, hs _ (root_lt hj), root_root h hj]
  · refine nRoots_less up.length ha ?_ ?_ (fun j hj hne => ?_)
    · unfold isRoot
      rw [if_pos he]
    · rw [isRoot_set ha, if_pos rfl, if_neg hab]
    · rw [isRoot_set hj, if_neg (Ne.symm hne)]
theorem step_moves {up p : List Int} {t : T} (h : Ok up p) (hk : Keeps up.length p t) (hr : RI up t) : Moves up.length up (stepL up p t).1 t (stepL up p t).2 := by
  obtain ⟨k, x, y, s, u, v, w, r, is, res⟩ := t
  obtain ⟨⟨k0, k1, u0, v0, s0, s1, k2, k7, k8, w0, r0⟩, ⟨oa, ob, oc, od, oe⟩⟩ := hk
  obtain ⟨ra, rb, rc, rd⟩ := hr
  simp only at k0 k1 u0 v0 s0 s1 k2 k7 k8 w0 r0 oa ob oc od oe ra rb rc rd
  rcases is with _ | _
  · rcases (show s = 1 ∨ s = 2 ∨ s = 3 ∨ s = 4 ∨ s = 5 ∨ s = 6 ∨ s = 7 ∨ s = 8 by omega) with rfl | rfl | rfl | rfl | rfl | rfl | rfl | rfl
    · have hup : rootN up (at_ up u).toNat = rootN up (u).toNat := by
        obtain ⟨i, rfl, hi⟩ := in_nat u0
        rw [at_nat, step_getD h hi, Int.toNat_natCast, Int.toNat_natCast]
        exact root_up h hi
      simp only [stepL, if_neg Bool.false_ne_true, if_true]
      split
      · exact moves_stay h ri_first (fun hh => by simp at hh)
      · exact moves_stay h ⟨fun _ _ => hup, fun _ hh => by simp at hh, fun _ hh => by simp at hh, fun _ hh => by simp at hh⟩ (fun hh => by simp at hh)
    · have w1 := w0 (by omega)
      have hup : rootN up (at_ up w).toNat = rootN up (w).toNat := by
        obtain ⟨i, rfl, hi⟩ := in_nat w1
        rw [at_nat, step_getD h hi, Int.toNat_natCast, Int.toNat_natCast]
        exact root_up h hi
      simp only [stepL, if_neg Bool.false_ne_true, if_true, show ((2 : Int) = 1) = False by simp, if_false]
      split
      · exact moves_stay h ri_first (fun hh => by simp at hh)
      · exact moves_stay h ⟨fun _ _ => ra rfl (.inl rfl), fun _ _ => hup, fun _ hh => by simp at hh, fun _ hh => by simp at hh⟩ (fun hh => by simp at hh)
    · simp only [stepL, if_neg Bool.false_ne_true, if_true, show ((3 : Int) = 1) = False by simp, show ((3 : Int) = 2) = False by simp, if_false]
      exact moves_split h u0 (w0 (by omega)) (r0 (by omega)) (oa rfl (.inr rfl)) (ob rfl rfl) (rb rfl rfl) (.inl rfl) (fun hh => by simp at hh)
    · have hup : rootN up (at_ up v).toNat = rootN up (v).toNat := by
        obtain ⟨i, rfl, hi⟩ := in_nat (v0 (k2 (by omega)))
        rw [at_nat, step_getD h hi, Int.toNat_natCast, Int.toNat_natCast]
        exact root_up h hi
      simp only [stepL, if_neg Bool.false_ne_true, if_true, show ((4 : Int) = 1) = False by simp, show ((4 : Int) = 2) = False by simp, show ((4 : Int) = 3) = False by simp, if_false]
      split
      · exact moves_stay h ri_second (fun hh => by simp at hh)
      · exact moves_stay h ⟨fun _ hh => by simp at hh, fun _ hh => by simp at hh, fun _ _ => hup, fun _ hh => by simp at hh⟩ (fun hh => by simp at hh)
    · have w1 := w0 (by omega)
      have hup : rootN up (at_ up w).toNat = rootN up (w).toNat := by
        obtain ⟨i, rfl, hi⟩ := in_nat w1
        rw [at_nat, step_getD h hi, Int.toNat_natCast, Int.toNat_natCast]
        exact root_up h hi
      simp only [stepL, if_neg Bool.false_ne_true, if_true, show ((5 : Int) = 1) = False by simp, show ((5 : Int) = 2) = False by simp, show ((5 : Int) = 3) = False by simp, show ((5 : Int) = 4) = False by simp, if_false]
      split
      · exact moves_stay h ri_second (fun hh => by simp at hh)
      · exact moves_stay h ⟨fun _ hh => by simp at hh, fun _ hh => by simp at hh, fun _ _ => rc rfl (.inl rfl), fun _ _ => hup⟩ (fun hh => by simp at hh)
    · simp only [stepL, if_neg Bool.false_ne_true, if_true, show ((6 : Int) = 1) = False by simp, show ((6 : Int) = 2) = False by simp, show ((6 : Int) = 3) = False by simp, show ((6 : Int) = 4) = False by simp, show ((6 : Int) = 5) = False by simp, if_false]
      exact moves_split h (v0 (k2 (by omega))) (w0 (by omega)) (r0 (by omega)) (oc rfl (.inr rfl)) (od rfl rfl) (rd rfl rfl) (.inr rfl) (fun hh => by simp at hh)
    · simp only [stepL, if_neg Bool.false_ne_true, if_true, show ((7 : Int) = 1) = False by simp, show ((7 : Int) = 2) = False by simp, show ((7 : Int) = 3) = False by simp, show ((7 : Int) = 4) = False by simp, show ((7 : Int) = 5) = False by simp, show ((7 : Int) = 6) = False by simp, if_false]
      split
      · exact moves_stay h (ri_none (.inl rfl)) (fun hh => by simp at hh)
      · exact moves_stay h (ri_none (.inr (.inl rfl))) (fun hh => by simp at hh)
    · obtain ⟨i, rfl, hi⟩ := in_nat u0
      obtain ⟨j, rfl, hj⟩ := in_nat (v0 (k2 (by omega)))
      have hne := oe rfl (.inr rfl)
      have hij : i ≠ j := fun e => hne (by rw [e])
      simp only [stepL, if_neg Bool.false_ne_true, show ((8 : Int) = 1) = False by simp, show ((8 : Int) = 2) = False by simp, show ((8 : Int) = 3) = False by simp, show ((8 : Int) = 4) = False by simp, show ((8 : Int) = 5) = False by simp, show ((8 : Int) = 6) = False by simp, show ((8 : Int) = 7) = False by simp, if_false]
      split
      · rename_i hb
        rw [at_nat]
        split
        · rename_i he
          exact moves_link h hi hj he hb rfl ⟨rfl, rfl⟩
        · exact moves_stay h (ri_none (.inr (.inl rfl))) (fun hh => by simp at hh)
      · rename_i hb
        rw [at_nat]
        split
        · rename_i he
          exact moves_link h hj hi he ((lt_total p hij).resolve_left hb) rfl ⟨rfl, rfl⟩
        · exact moves_stay h (ri_none (.inr (.inl rfl))) (fun hh => by simp at hh)
  · simp only [stepL, if_true]
    exact moves_stay h ⟨ra, rb, rc, rd⟩ (fun hh => by simp at hh)
end Go.Proofs.YtmaiicpaalbcfaaDoor
end
section
namespace Go.Proofs.YtmaiicpaalbcfaaDoor
open Go.RowKit
set_option linter.unusedVariables false
def qs (up : List Int) (t : T) : Nat :=
  if t.s = 1 then (if at_ up t.u = t.u then (if t.k ≠ 1 ∧ at_ up t.v = t.v then 6 else 3) else 2)
  else if t.s = 2 then 1 else if t.s = 3 then 0
  else if t.s = 4 then (if at_ up t.v = t.v then 5 else 2)
  else if t.s = 5 then 1 else if t.s = 6 then 0 else 4
def phi (up p : List Int) (t : T) : Nat := 7 * (above p up.length t.u.toNat + above p up.length t.v.toNat) + qs up t
theorem qs_le (up : List Int) (t : T) : qs up t ≤ 6 := by
  unfold qs
  repeat' split
  all_goals omega
theorem phi_first {up p : List Int} {t : T} {a : Nat} (hs : t.s = 1 ∨ t.s = 2) (ha : t.k ≠ 1 → 7 * (above p up.length t.u.toNat + above p up.length t.v.toNat) + (if at_ up t.v = t.v then 5 else 2) < a) : (firstT t).is = true ∨ phi up p (firstT t) < a := by
  unfold firstT
  split
  · exact .inl rfl
  · rename_i hk1
    have ha := ha hk1
    refine .inr ?_
    unfold phi qs
    simp only [show ((4 : Int) = 1) = False by simp, show ((4 : Int) = 2) = False by simp, show ((4 : Int) = 3) = False by simp, if_false, if_true]
    exact ha
theorem phi_second {up p : List Int} {t : T} {a : Nat} (ha : 7 * (above p up.length t.u.toNat + above p up.length t.v.toNat) + 4 < a) : (secondT t).is = true ∨ phi up p (secondT t) < a := by
  unfold secondT
  split
  · exact .inl rfl
  · refine .inr ?_
    unfold phi qs
    by_cases h : t.k = 2
    · simp only [if_pos h, show ((7 : Int) = 1) = False by simp, show ((7 : Int) = 2) = False by simp, show ((7 : Int) = 3) = False by simp, show ((7 : Int) = 4) = False by simp, show ((7 : Int) = 5) = False by simp, show ((7 : Int) = 6) = False by simp, if_false]
      exact ha
    · simp only [if_neg h, show ((8 : Int) = 1) = False by simp, show ((8 : Int) = 2) = False by simp, show ((8 : Int) = 3) = False by simp, show ((8 : Int) = 4) = False by simp, show ((8 : Int) = 5) = False by simp, show ((8 : Int) = 6) = False by simp, if_false]
      exact ha
theorem above_in {p : List Int} {n : Nat} {x y : Int} (hy : In n y) (h : LT p x.toNat y.toNat) : above p n y.toNat + 1 ≤ above p n x.toNat :=
  above_lt (by have := hy.1; have := hy.2; omega) h
theorem phi_step {up p : List Int} {t : T} (h : Ok up p) (hk : Keeps up.length p t) (hi : t.is = false) : (stepL up p t).2.is = true ∨ phi (stepL up p t).1 p (stepL up p t).2 < phi up p t := by
  obtain ⟨k, x, y, s, u, v, w, r, is, res⟩ := t
  obtain ⟨⟨k0, k1, u0, v0, s0, s1, k2, k7, k8, w0, r0⟩, ⟨oa, ob, oc, od, oe⟩⟩ := hk
  simp only at k0 k1 u0 v0 s0 s1 k2 k7 k8 w0 r0 oa ob oc od oe hi
  subst hi
  rcases (show s = 1 ∨ s = 2 ∨ s = 3 ∨ s = 4 ∨ s = 5 ∨ s = 6 ∨ s = 7 ∨ s = 8 by omega) with rfl | rfl | rfl | rfl | rfl | rfl | rfl | rfl
  · simp only [stepL, if_neg Bool.false_ne_true, if_true]
    by_cases c : at_ up u = u
    · rw [if_pos c]
      refine phi_first (.inl rfl) (fun hk1 => ?_)
      unfold phi qs
      simp only at hk1
      simp only [if_true, if_pos c]
      by_cases cv : at_ up v = v
      · rw [if_pos cv, if_pos ⟨hk1, cv⟩]; omega
      · rw [if_neg cv, if_neg (fun h => cv h.2)]; omega
    · rw [if_neg c]
      refine .inr ?_
      unfold phi qs
      simp only [if_true, if_neg c, show ((2 : Int) = 1) = False by simp, if_false]
      omega
  · have w1 := w0 (by omega)
    have hl := above_in w1 (oa rfl (.inl rfl))
    simp only [stepL, if_neg Bool.false_ne_true, if_true, show ((2 : Int) = 1) = False by simp, if_false]
    by_cases c : at_ up w = w
    · rw [if_pos c]
      refine phi_first (.inr rfl) (fun hk1 => ?_)
      unfold phi qs
      simp only [if_true, show ((2 : Int) = 1) = False by simp, if_false]
      split <;> omega
    · rw [if_neg c]
      refine .inr ?_
      unfold phi qs
      simp only [if_true, show ((2 : Int) = 1) = False by simp, show ((3 : Int) = 1) = False by simp, show ((3 : Int) = 2) = False by simp, if_false]
      omega
  · have hl := above_in (w0 (by omega)) (oa rfl (.inr rfl))
    simp only [stepL, if_neg Bool.false_ne_true, if_true, show ((3 : Int) = 1) = False by simp, show ((3 : Int) = 2) = False by simp, if_false]
    refine .inr ?_
    have hq := qs_le (swapL up u w r) ⟨k, x, y, 1, w, v, w, r, false, res⟩
    unfold phi
    rw [swapL_len]
    have e : qs up ⟨k, x, y, 3, u, v, w, r, false, res⟩ = 0 := by simp [qs]
    rw [e]
    simp only at hq ⊢
    omega
  · simp only [stepL, if_neg Bool.false_ne_true, if_true, show ((4 : Int) = 1) = False by simp, show ((4 : Int) = 2) = False by simp, show ((4 : Int) = 3) = False by simp, if_false]
    by_cases c : at_ up v = v
    · rw [if_pos c]
      refine phi_second ?_
      unfold phi qs
      simp only [if_true, if_pos c, show ((4 : Int) = 1) = False by simp, show ((4 : Int) = 2) = False by simp, show ((4 : Int) = 3) = False by simp, if_false]
      omega
    · rw [if_neg c]
      refine .inr ?_
      unfold phi qs
      simp only [if_true, if_neg c, show ((4 : Int) = 1) = False by simp, show ((4 : Int) = 2) = False by simp, show ((4 : Int) = 3) = False by simp, show ((5 : Int) = 1) = False by simp, show ((5 : Int) = 2) = False by simp, show ((5 : Int) = 3) = False by simp, show ((5 : Int) = 4) = False by simp, if_false]
      omega
  · have w1 := w0 (by omega)
    have hl := above_in w1 (oc rfl (.inl rfl))
    simp only [stepL, if_neg Bool.false_ne_true, if_true, show ((5 : Int) = 1) = False by simp, show ((5 : Int) = 2) = False by simp, show ((5 : Int) = 3) = False by simp, show ((5 : Int) = 4) = False by simp, if_false]
    by_cases c : at_ up w = w
    · rw [if_pos c]
      refine phi_second ?_
      unfold phi qs
      simp only [if_true, show ((5 : Int) = 1) = False by simp, show ((5 : Int) = 2) = False by simp, show ((5 : Int) = 3) = False by simp, show ((5 : Int) = 4) = False by simp, if_false]
      omega
    · rw [if_neg c]
      refine .inr ?_
      unfold phi qs
      simp only [if_true, show ((5 : Int) = 1) = False by simp, show ((5 : Int) = 2) = False by simp, show ((5 : Int) = 3) = False by simp, show ((5 : Int) = 4) = False by simp, show ((6 : Int) = 1) = False by simp, show ((6 : Int) = 2) = False by simp, show ((6 : Int) = 3) = False by simp, show ((6 : Int) = 4) = False by simp, show ((6 : Int) = 5) = False by simp, if_false]
      omega
  · have hl := above_in (w0 (by omega)) (oc rfl (.inr rfl))
    simp only [stepL, if_neg Bool.false_ne_true, if_true, show ((6 : Int) = 1) = False by simp, show ((6 : Int) = 2) = False by simp, show ((6 : Int) = 3) = False by simp, show ((6 : Int) = 4) = False by simp, show ((6 : Int) = 5) = False by simp, if_false]
    refine .inr ?_
    have hq := qs_le (swapL up v w r) ⟨k, x, y, 4, u, w, w, r, false, res⟩
    unfold phi
    rw [swapL_len]
    have e : qs up ⟨k, x, y, 6, u, v, w, r, false, res⟩ = 0 := by simp [qs]
    rw [e]
    simp only at hq ⊢
    omega
  · simp only [stepL, if_neg Bool.false_ne_true, if_true, show ((7 : Int) = 1) = False by simp, show ((7 : Int) = 2) = False by simp, show ((7 : Int) = 3) = False by simp, show ((7 : Int) = 4) = False by simp, show ((7 : Int) = 5) = False by simp, show ((7 : Int) = 6) = False by simp, if_false]
    by_cases c : at_ up u = u
    · rw [if_pos c]
      exact .inl rfl
    · rw [if_neg c]
      refine .inr ?_
      unfold phi qs
      simp only [if_true, if_neg c, show ((7 : Int) = 1) = False by simp, show ((7 : Int) = 2) = False by simp, show ((7 : Int) = 3) = False by simp, show ((7 : Int) = 4) = False by simp, show ((7 : Int) = 5) = False by simp, show ((7 : Int) = 6) = False by simp, if_false]
      omega
  · have e8 : qs up ⟨k, x, y, 8, u, v, w, r, false, res⟩ = 4 := by simp [qs]
    simp only [stepL, if_neg Bool.false_ne_true, show ((8 : Int) = 1) = False by simp, show ((8 : Int) = 2) = False by simp, show ((8 : Int) = 3) = False by simp, show ((8 : Int) = 4) = False by simp, show ((8 : Int) = 5) = False by simp, show ((8 : Int) = 6) = False by simp, show ((8 : Int) = 7) = False by simp, if_false]
    by_cases hb : belowB p u v = true
    · rw [if_pos hb]
      by_cases c : at_ up u = u
      · rw [if_pos c]
        exact .inl rfl
      · rw [if_neg c]
        refine .inr ?_
        unfold phi
        rw [e8]
        unfold qs
        simp only [if_true, if_neg c]
        omega
    · rw [if_neg hb]
      by_cases c : at_ up v = v
      · rw [if_pos c]
        exact .inl rfl
      · rw [if_neg c]
        refine .inr ?_
        unfold phi
        rw [e8]
        unfold qs
        simp only [if_true]
        rw [if_neg (show ¬ (k ≠ 1 ∧ at_ up v = v) from fun h => c h.2)]
        split <;> omega
theorem roots_less {up p : List Int} {t : T} (h : Ok up p) (hk : Keeps up.length p t) (hi : t.is = false) : ∀ z, In up.length z → at_ (stepL up p t).1 z = z → at_ up z = z := by
  have key : ∀ a b : Int, In up.length a → a ≠ b → ∀ z, In up.length z → at_ (up.set a.toNat b) z = z → at_ up z = z := by
    intro a b ha hab z hz e
    obtain ⟨i, rfl, hi⟩ := in_nat ha
    obtain ⟨j, rfl, hj⟩ := in_nat hz
    rw [at_nat, Int.toNat_natCast, getD_set _ _ _ _ hj] at e
    rw [at_nat]
    split at e
    · rename_i c
      subst c
      exact absurd e.symm hab
    · exact e
  have swp : ∀ a w b : Int, In up.length a → a ≠ b → ∀ z, In up.length z → at_ (swapL up a w b) z = z → at_ up z = z := by
    intro a w b ha hab z hz e
    unfold swapL at e
    split at e
    · exact key a b ha hab z hz e
    · exact e
  obtain ⟨k, x, y, s, u, v, w, r, is, res⟩ := t
  obtain ⟨⟨k0, k1, u0, v0, s0, s1, k2, k7, k8, w0, r0⟩, ⟨oa, ob, oc, od, oe⟩⟩ := hk
  simp only at k0 k1 u0 v0 s0 s1 k2 k7 k8 w0 r0 oa ob oc od oe hi
  subst hi
  rcases (show s = 1 ∨ s = 2 ∨ s = 3 ∨ s = 4 ∨ s = 5 ∨ s = 6 ∨ s = 7 ∨ s = 8 by omega) with rfl | rfl | rfl | rfl | rfl | rfl | rfl | rfl
  · simp only [stepL, if_neg Bool.false_ne_true, if_true]
    exact fun z _ e => e
  · simp only [stepL, if_neg Bool.false_ne_true, if_true, show ((2 : Int) = 1) = False by simp, if_false]
    exact fun z _ e => e
  · simp only [stepL, if_neg Bool.false_ne_true, if_true, show ((3 : Int) = 1) = False by simp, show ((3 : Int) = 2) = False by simp, if_false]
    exact swp u w r u0 (fun e => by subst e; exact lt_irrefl p _ (lt_trans (oa rfl (.inr rfl)) (ob rfl rfl)))
  · simp only [stepL, if_neg Bool.false_ne_true, if_true, show ((4 : Int) = 1) = False by simp, show ((4 : Int) = 2) = False by simp, show ((4 : Int) = 3) = False by simp, if_false]
    exact fun z _ e => e
  · simp only [stepL, if_neg Bool.false_ne_true, if_true, show ((5 : Int) = 1) = False by simp, show ((5 : Int) = 2) = False by simp, show ((5 : Int) = 3) = False by simp, show ((5 : Int) = 4) = False by simp, if_false]
    exact fun z _ e => e
  · simp only [stepL, if_neg Bool.false_ne_true, if_true, show ((6 : Int) = 1) = False by simp, show ((6 : Int) = 2) = False by simp, show ((6 : Int) = 3) = False by simp, show ((6 : Int) = 4) = False by simp, show ((6 : Int) = 5) = False by simp, if_false]
    exact swp v w r (v0 (k2 (by omega))) (fun e => by subst e; exact lt_irrefl p _ (lt_trans (oc rfl (.inr rfl)) (od rfl rfl)))
  · simp only [stepL, if_neg Bool.false_ne_true, if_true, show ((7 : Int) = 1) = False by simp, show ((7 : Int) = 2) = False by simp, show ((7 : Int) = 3) = False by simp, show ((7 : Int) = 4) = False by simp, show ((7 : Int) = 5) = False by simp, show ((7 : Int) = 6) = False by simp, if_false]
    exact fun z _ e => e
  · have hne := oe rfl (.inr rfl)
    simp only [stepL, if_neg Bool.false_ne_true, show ((8 : Int) = 1) = False by simp, show ((8 : Int) = 2) = False by simp, show ((8 : Int) = 3) = False by simp, show ((8 : Int) = 4) = False by simp, show ((8 : Int) = 5) = False by simp, show ((8 : Int) = 6) = False by simp, show ((8 : Int) = 7) = False by simp, if_false]
    by_cases hb : belowB p u v = true
    · rw [if_pos hb]
      split
      · exact key u v u0 hne
      · exact fun z _ e => e
    · rw [if_neg hb]
      split
      · exact key v u (v0 (k2 (by omega))) (Ne.symm hne)
      · exact fun z _ e => e
theorem phi_other {up up' p : List Int} {t : T} (hr : ∀ z, In up.length z → at_ up' z = z → at_ up z = z) (hl : up'.length = up.length) (hf : Fit up.length t) : phi up' p t ≤ phi up p t := by
  unfold phi
  rw [hl]
  have hu : at_ up' t.u = t.u → at_ up t.u = t.u := hr _ hf.u0
  have hv : t.k ≠ 1 → at_ up' t.v = t.v → at_ up t.v = t.v := fun hk => hr _ (hf.v0 hk)
  have : qs up' t ≤ qs up t := by
    unfold qs
    split
    · by_cases a : at_ up' t.u = t.u
      · rw [if_pos a, if_pos (hu a)]
        by_cases b : t.k ≠ 1 ∧ at_ up' t.v = t.v
        · rw [if_pos b, if_pos ⟨b.1, hv b.1 b.2⟩]; exact Nat.le_refl _
        · rw [if_neg b]; split <;> omega
      · rw [if_neg a]; repeat' split
        all_goals omega
    · split
      · exact Nat.le_refl _
      · split
        · exact Nat.le_refl _
        · split
          · rename_i h4
            by_cases b : at_ up' t.v = t.v
            · rw [if_pos b, if_pos (hv (hf.k2 (by omega)) b)]; exact Nat.le_refl _
            · rw [if_neg b]; split <;> omega
          · exact Nat.le_refl _
  omega
theorem above_le (p : List Int) (n x : Nat) : above p n x ≤ n := Nat.le_trans List.countP_le_length (by rw [List.length_range]; exact Nat.le_refl _)
theorem phi_le {up p : List Int} {t : T} (hf : Fit up.length t) : phi up p t + 1 ≤ 14 * up.length := by
  have hu := above_n (p := p) (n := up.length) (x := t.u.toNat) (by have := hf.u0.1; have := hf.u0.2; omega)
  have hv := above_le p up.length t.v.toNat
  have := qs_le up t
  unfold phi
  omega
theorem begin_keeps {n : Nat} {p : List Int} {k x y : Int} (h : beginB k x y n = true) : Keeps n p (beginT k x y n) := by
  rw [begin_yes h]
  simp only [beginB, Bool.and_eq_true, Bool.or_eq_true, decide_eq_true_eq, thereB] at h
  obtain ⟨h1, h2, ⟨h3, h4⟩, h5⟩ := h
  have hy2 : k ≠ 1 → In n y := fun hk => by
    rcases h5 with e | ⟨a, b⟩
    · exact absurd e hk
    · exact ⟨a, b⟩
  exact ⟨⟨h1, h2, ⟨h3, h4⟩, hy2, by show (1 : Int) ≤ 1; omega, by show (1 : Int) ≤ 8; omega, fun h => by simp at h, fun h => by simp at h, fun h => by simp at h, fun h => by simp at h, fun h => by simp at h⟩, ⟨fun _ h => by simp at h, fun _ h => by simp at h, fun _ h => by simp at h, fun _ h => by simp at h, fun _ h => by simp at h⟩⟩
end Go.Proofs.YtmaiicpaalbcfaaDoor
end
section
namespace Go.Proofs.YtmaiicpaalbcfaaDoor
open Go.RowKit Go.Proofs.YtmaiicpaalbcfaaDoorW.PrintWords Go.Proofs.YtmaiicpaalbcfaaDoorW.PrintLast Go.Proofs.YtmaiicpaalbcfaaDoorW.PrintMore Go.Proofs.YtmaiicpaalbcfaaDoor.P Go.Proofs.YtmaiicpaalbcfaaDoor.Bits
set_option linter.unusedVariables false
def sumR : Nat → (Nat → Nat) → Nat
  | 0, _ => 0
  | n + 1, f => sumR n f + f n
theorem sumR_same (n : Nat) (f g : Nat → Nat) (h : ∀ j, j < n → f j = g j) : sumR n f = sumR n g := by
  induction n with
  | zero => rfl
  | succ n ih => rw [sumR, sumR, ih fun j hj => h j (by omega), h n (by omega)]
theorem sumR_mono (n : Nat) (f g : Nat → Nat) (h : ∀ j, j < n → f j ≤ g j) : sumR n f ≤ sumR n g := by
  induction n with
  | zero => exact Nat.le_refl _
  | succ n ih => rw [sumR, sumR]; have := ih fun j hj => h j (by omega); have := h n (by omega); omega
theorem sumR_drop (n i : Nat) (f g : Nat → Nat) (hi : i < n) (h : ∀ j, j < n → f j ≤ g j) (hd : f i < g i) : sumR n f < sumR n g := by
  induction n with
  | zero => omega
  | succ n ih =>
    rw [sumR, sumR]
    by_cases e : i = n
    · subst e
      have := sumR_mono i f g fun j hj => h j (by omega)
      omega
    · have := ih (by omega) (fun j hj => h j (by omega))
      have := h n (by omega)
      omega
theorem sumR_le (n i : Nat) (f : Nat → Nat) (hi : i < n) : f i ≤ sumR n f := by
  induction n with
  | zero => omega
  | succ n ih =>
    rw [sumR]
    by_cases e : i = n
    · subst e; omega
    · have := ih (by omega); omega
theorem sumR_mul (n c : Nat) (f : Nat → Nat) : sumR n (fun i => c * f i) = c * sumR n f := by
  induction n with
  | zero => rfl
  | succ n ih => rw [sumR, sumR, ih, Nat.mul_add]
theorem who_mem (P : List Int) (at_ last : Int) (en : List Bool) (h : idx en ≠ []) : ∃ i : Nat, whoS P at_ last (idx en) = (i : Int) ∧ i < en.length ∧ en.getD i false = true := by
  have h1 := placeS_lt P at_ last (idx en) h
  have h2 := idx_mem en _ h1
  refine ⟨(idx en).getD (placeS P at_ last (idx en)) 0, ?_, h2.1, h2.2⟩
  unfold whoS
  rw [if_neg h]
theorem idx_ne (en : List Bool) (i : Nat) (hi : i < en.length) (h : en.getD i false = true) : idx en ≠ [] := by
  intro e
  have : i ∈ idx en := List.mem_filter.2 ⟨List.mem_range.2 hi, by simpa using h⟩
  rw [e] at this
  cases this
theorem getD_set_any {α : Type} (T : List α) (i j : Nat) (p z : α) (hi : i < T.length) : (T.set i p).getD j z = if j = i then p else T.getD j z := by
  simp only [List.getD_eq_getElem?_getD, List.getElem?_set]
  by_cases c : i = j
  · rw [if_pos c, if_pos (by omega), if_pos c.symm]; rfl
  · rw [if_neg c, if_neg (Ne.symm c)]
structure St5 where
  ws : List W5
  up : List Int
  going : Int
  at_ : Int
  last : Int
  steps : Int
  ev : List S42
def next5 (n : Nat) (prio P : List Int) (s : St5) (i : Nat) (l : List S40) (t : T) (b : Int) : St5 where
  ws := s.ws.set i ⟨l, (stepL s.up prio t).2, !(stepL s.up prio t).2.is, b, placeW t (stepL s.up prio t).2 (s.steps + 1) (s.ws.getD i z5).pl⟩
  up := (stepL s.up prio t).1
  going := if (stepL s.up prio t).2.is = true ∧ l = [] then Go.bits .andNot .u64 s.going (shl .u64 1 (i : Int)) else s.going
  at_ := atS P s.at_ (idx (enG n s.going))
  last := lastS P s.at_ s.last (idx (enG n s.going))
  steps := s.steps + 1
  ev := if (stepL s.up prio t).2.is = true then s.ev ++ [eventS i (stepL s.up prio t).2 b (s.steps + 1) (s.ws.getD i z5).pl] else s.ev
def playS (n : Nat) (prio P : List Int) (g : Nat) (s : St5) : Option (List S42 × List Int × Int) := playL n prio P g s.ws s.up s.going s.at_ s.last s.steps s.ev
theorem playS_end {n : Nat} {prio P : List Int} {g : Nat} {s : St5} (h : s.going = 0) : playS n prio P (g + 1) s = some (s.ev, s.up, s.steps) := by
  unfold playS
  rw [playL, if_pos h]
theorem playS_next {n : Nat} {prio P : List Int} {g : Nat} {s : St5} {i : Nat} {l : List S40} {t : T} {b : Int} (hg : s.going ≠ 0) (hw : whoS P s.at_ s.last (idx (enG n s.going)) = (i : Int)) (hi : i < n) (h0 : 0 ≤ s.steps) (h1 : s.steps < 1000000000) (h2 : s.ev.length < 1000000)
    (hgo : goesOn prio.length (s.steps + 1) (s.ws.getD i z5) = some (l, t, b)) (hs : Steps s.up prio t) : playS n prio P (g + 1) s = playS n prio P g (next5 n prio P s i l t b) := by
  unfold playS next5
  rw [playL, if_neg hg, hw, if_pos ⟨by omega, by omega, h0, h1, h2⟩, Int.toNat_natCast, hgo]
  dsimp only
  rw [if_pos hs]
  generalize (stepL s.up prio t).1 = up2
  obtain ⟨t2, ht2⟩ : ∃ x, (stepL s.up prio t).2 = x := ⟨_, rfl⟩
  rw [ht2]
  cases his : t2.is with
  | false => simp
  | true =>
    by_cases hl : l = []
    · simp [hl]
    · simp [hl]
def onB (w : W5) : Bool := w.busy || !w.l.isEmpty
def Goi (n : Nat) (going : Int) (f : Nat → Bool) : Prop := ∃ x : Nat, going = (x : Int) ∧ x < 18446744073709551616 ∧ ∀ i, x.testBit i = (decide (i < n) && f i)
theorem Goi.zero {n : Nat} {going : Int} {f : Nat → Bool} (h : Goi n going f) : going = 0 ↔ ∀ i, i < n → f i = false := by
  obtain ⟨x, rfl, hx, hb⟩ := h
  constructor
  · intro h0 i hi
    have hx0 : x = 0 := by omega
    have h1 := hb i
    rw [hx0, Nat.zero_testBit, decide_eq_true hi, Bool.true_and] at h1
    exact h1.symm
  · intro h0
    have : x = 0 := Nat.eq_of_testBit_eq (fun i => by
      rw [Nat.zero_testBit, hb i]
      by_cases c : i < n
      · rw [h0 i c, Bool.and_false]
      · rw [decide_eq_false c, Bool.false_and])
    omega
theorem Goi.bit {n : Nat} {going : Int} {f : Nat → Bool} (h : Goi n going f) (h64 : n ≤ 64) {i : Nat} (hi : i < n) : bitOn going i = f i := by
  obtain ⟨x, rfl, hx, hb⟩ := h
  have h1 := hb i
  rw [decide_eq_true hi, Bool.true_and] at h1
  rw [← h1]
  unfold bitOn shr
  rw [show min ((i : Int)).toNat IntKind.u64.bits = i by show min ((i : Int)).toNat 64 = i; omega]
  have e : ((x : Int) / 2 ^ i) = ((x / 2 ^ i : Nat) : Int) := by rw [Int.natCast_ediv]; norm_cast
  rw [e, show (1 : Int) = ((1 : Nat) : Int) from rfl, and64 (Nat.lt_of_le_of_lt (Nat.div_le_self _ _) hx) (by decide), Nat.and_one_is_mod, Nat.testBit_eq_decide_div_mod_eq]
  have hm : x / 2 ^ i % 2 = 0 ∨ x / 2 ^ i % 2 = 1 := by omega
  rcases hm with c | c <;> rw [c] <;> decide
theorem Goi.off {n : Nat} {going : Int} {f g : Nat → Bool} (h : Goi n going f) (h64 : n ≤ 64) {i : Nat} (hi : i < n) (hg : ∀ j, j < n → g j = (decide (j ≠ i) && f j)) : Goi n (Go.bits .andNot .u64 going (shl .u64 1 (i : Int))) g := by
  obtain ⟨x, rfl, hx, hb⟩ := h
  have h2 : 2 ^ i < 18446744073709551616 := Nat.lt_of_lt_of_le (Nat.pow_lt_pow_right (by decide) (show i < 64 by omega)) (by decide)
  rw [shl_one i (by omega), u64_andNot_nat x (2 ^ i) hx h2]
  refine ⟨_, rfl, Nat.lt_of_le_of_lt Nat.and_le_left hx, fun j => ?_⟩
  rw [Nat.testBit_and, hb j, show 18446744073709551615 - 2 ^ i = 2 ^ 64 - (2 ^ i + 1) by omega, Nat.testBit_two_pow_sub_succ (by exact h2)]
  by_cases c : j < n
  · rw [decide_eq_true c, hg j c, decide_eq_true (show j < 64 by omega)]
    by_cases e : j = i
    · subst e
      simp
    · have : Nat.testBit (2 ^ i) j = false := by rw [Nat.testBit_two_pow]; simp; omega
      rw [this]
      simp [e]
  · simp [c]
theorem Goi.congr {n : Nat} {going : Int} {f g : Nat → Bool} (h : Goi n going f) (hg : ∀ j, j < n → g j = f j) : Goi n going g := by
  obtain ⟨x, e, hx, hb⟩ := h
  refine ⟨x, e, hx, fun j => ?_⟩
  rw [hb j]
  by_cases c : j < n
  · rw [hg j c]
  · simp [c]
theorem enG_length' (n : Nat) (going : Int) : (enG n going).length = n := by simp [enG]
theorem enG_get' (n : Nat) (going : Int) (i : Nat) (hi : i < n) : (enG n going).getD i false = bitOn going i := by
  simp [enG, List.getD_eq_getElem?_getD, hi]
def left5 (prio up : List Int) (w : W5) : Nat := 14 * prio.length * w.l.length + (if w.busy = true then phi up prio w.t + 1 else 0)
def mu5 (n : Nat) (prio : List Int) (s : St5) : Nat := sumR n fun i => left5 prio s.up (s.ws.getD i z5)
structure Base (n : Nat) (prio : List Int) (s : St5) : Prop where
  n64 : n ≤ 64
  len : s.ws.length = n
  ok : Ok s.up prio
  go : Goi n s.going (fun i => onB (s.ws.getD i z5))
  task : ∀ i, i < n → (s.ws.getD i z5).busy = true → Keeps prio.length prio (s.ws.getD i z5).t ∧ (s.ws.getD i z5).t.is = false
  left : ∀ i, i < n → ∀ o ∈ (s.ws.getD i z5).l, validB prio.length o = true
  steps0 : 0 ≤ s.steps
  cap : s.steps + (mu5 n prio s : Int) < 1000000
  evs : (s.ev.length : Int) ≤ s.steps
structure Goes5 (n : Nat) (prio P : List Int) (s : St5) (i : Nat) (l : List S40) (t : T) (b : Int) : Prop where
  hi : i < n
  who : whoS P s.at_ s.last (idx (enG n s.going)) = (i : Int)
  src : ((s.ws.getD i z5).busy = true ∧ l = (s.ws.getD i z5).l ∧ t = (s.ws.getD i z5).t ∧ b = (s.ws.getD i z5).b) ∨
    ((s.ws.getD i z5).busy = false ∧ ∃ o, (s.ws.getD i z5).l = o :: l ∧ validB prio.length o = true ∧ t = beginT o.f0 o.f1 o.f2 prio.length ∧ b = s.steps + 1)
  keeps : Keeps prio.length prio t
  live : t.is = false
theorem onB_off {w : W5} (h : onB w = false) : w.busy = false ∧ w.l = [] := by
  unfold onB at h
  rw [Bool.or_eq_false_iff] at h
  exact ⟨h.1, by simpa using h.2⟩
theorem Base.done {n : Nat} {prio : List Int} {s : St5} (h : Base n prio s) (hg : s.going = 0) : ∀ i, i < n → (s.ws.getD i z5).busy = false ∧ (s.ws.getD i z5).l = [] :=
  fun i hi => onB_off ((h.go.zero).1 hg i hi)
theorem left5_other {prio up up' : List Int} {w : W5} (h : w.busy = true → phi up' prio w.t ≤ phi up prio w.t) : left5 prio up' w ≤ left5 prio up w := by
  unfold left5
  by_cases c : w.busy = true
  · rw [if_pos c, if_pos c]; have := h c; omega
  · rw [if_neg c, if_neg c]; exact Nat.le_refl _
theorem Base.step {n : Nat} {prio : List Int} {s : St5} (h : Base n prio s) (hg : s.going ≠ 0) (P : List Int) :
    ∃ i l t b, Goes5 n prio P s i l t b ∧ (∀ g, playS n prio P (g + 1) s = playS n prio P g (next5 n prio P s i l t b)) ∧ Base n prio (next5 n prio P s i l t b) ∧ mu5 n prio (next5 n prio P s i l t b) < mu5 n prio s := by
  have hex : ∃ i, i < n ∧ onB (s.ws.getD i z5) = true := by
    refine Decidable.byContradiction fun c => hg ((h.go.zero).2 fun i hi => ?_)
    cases e : onB (s.ws.getD i z5) with
    | false => rfl
    | true => exact absurd ⟨i, hi, e⟩ c
  obtain ⟨i0, hi0, ho0⟩ := hex
  have hne : idx (enG n s.going) ≠ [] := idx_ne _ i0 (by rw [enG_length']; exact hi0) (by rw [enG_get' n s.going i0 hi0, h.go.bit h.n64 hi0]; exact ho0)
  obtain ⟨i, hw, hi, hon⟩ := who_mem P s.at_ s.last _ hne
  rw [enG_length'] at hi
  rw [enG_get' n s.going i hi, h.go.bit h.n64 hi] at hon
  have hl : s.up.length = prio.length := h.ok.1
  -- what it goes on with
  have hgo : ∃ l t b, goesOn prio.length (s.steps + 1) (s.ws.getD i z5) = some (l, t, b) ∧ Goes5 n prio P s i l t b ∧ (∀ o ∈ l, o ∈ (s.ws.getD i z5).l) ∧
      14 * prio.length * l.length + phi s.up prio t + 1 ≤ left5 prio s.up (s.ws.getD i z5) := by
    unfold goesOn
    by_cases hb : (s.ws.getD i z5).busy = true
    · have ht := h.task i hi hb
      refine ⟨_, _, _, by rw [if_pos hb], ⟨hi, hw, .inl ⟨hb, rfl, rfl, rfl⟩, ht.1, ht.2⟩, fun o ho => ho, ?_⟩
      unfold left5
      rw [if_pos hb]
      omega
    · have hb2 : (s.ws.getD i z5).busy = false := by simpa using hb
      have hleft := h.left i hi
      cases hwl : (s.ws.getD i z5).l with
      | nil => unfold onB at hon; rw [hb2, hwl] at hon; cases hon
      | cons o r =>
        have hv := hleft o (by rw [hwl]; exact List.mem_cons_self ..)
        have hk : Keeps prio.length prio (beginT o.f0 o.f1 o.f2 prio.length) := begin_keeps hv
        have hlive : (beginT o.f0 o.f1 o.f2 prio.length).is = false := by rw [begin_yes hv]
        refine ⟨r, beginT o.f0 o.f1 o.f2 prio.length, s.steps + 1, by rw [if_neg hb]; dsimp only; rw [if_pos hv], ⟨hi, hw, .inr ⟨hb2, o, hwl, hv, rfl, rfl⟩, hk, hlive⟩, fun o' ho => List.mem_cons_of_mem _ ho, ?_⟩
        have hp := phi_le (up := s.up) (p := prio) (t := beginT o.f0 o.f1 o.f2 prio.length) (by rw [hl]; exact hk.fit)
        rw [hl] at hp
        unfold left5
        rw [if_neg hb, hwl, List.length_cons, Nat.mul_succ]
        omega
  obtain ⟨l, t, b, hgo, hG, hsub, hmu⟩ := hgo
  have hk' : Keeps s.up.length prio t := by rw [hl]; exact hG.keeps
  have hsk := step_keeps h.ok hk'
  have hsteps : Steps s.up prio t := ⟨hl, h.ok.2.1, by have := hk'.fit.u0.1; have := hk'.fit.u0.2; omega, hk'.fit⟩
  have hroots := roots_less h.ok hk' hG.live
  have hlen' : (stepL s.up prio t).1.length = s.up.length := hsk.2.1
  have hphi := phi_step h.ok hk' hG.live
  have hcap := h.cap
  have hget : ∀ j, (next5 n prio P s i l t b).ws.getD j z5 = if j = i then ⟨l, (stepL s.up prio t).2, !(stepL s.up prio t).2.is, b, placeW t (stepL s.up prio t).2 (s.steps + 1) (s.ws.getD i z5).pl⟩ else s.ws.getD j z5 := fun j => getD_set_any _ _ _ _ _ (by rw [h.len]; exact hi)
  have hdrop : mu5 n prio (next5 n prio P s i l t b) < mu5 n prio s := by
    refine sumR_drop n i _ _ hi (fun j hj => ?_) ?_
    · rw [hget j]
      by_cases c : j = i
      · rw [if_pos c, c]
        refine Nat.le_trans ?_ hmu
        unfold left5
        dsimp only [next5]
        rcases hphi with e | e
        · rw [e]; simp; omega
        · split <;> omega
      · rw [if_neg c]
        exact left5_other fun hb => phi_other hroots hlen' (by rw [hl]; exact (h.task j hj hb).1.fit)
    · rw [hget i, if_pos rfl]
      refine Nat.lt_of_lt_of_le ?_ hmu
      unfold left5
      dsimp only [next5]
      rcases hphi with e | e
      · rw [e]; simp; omega
      · split <;> omega
  refine ⟨i, l, t, b, hG, fun g => playS_next hg hw hi h.steps0 (by omega) (by have := h.evs; omega) hgo hsteps, ⟨h.n64, by rw [← h.len]; exact List.length_set, hsk.1, ?_, fun j hj hb => ?_, fun j hj o ho => ?_, by have := h.steps0; show 0 ≤ s.steps + 1; omega, ?_, ?_⟩, hdrop⟩
  · -- the flags
    show Goi n (if (stepL s.up prio t).2.is = true ∧ l = [] then Go.bits .andNot .u64 s.going (shl .u64 1 (i : Int)) else s.going) _
    by_cases c : (stepL s.up prio t).2.is = true ∧ l = []
    · rw [if_pos c]
      refine h.go.off h.n64 hi (fun j hj => ?_)
      rw [hget j]
      by_cases e : j = i
      · rw [if_pos e]; simp [onB, c.1, c.2, e]
      · rw [if_neg e]; simp [e]
    · rw [if_neg c]
      refine h.go.congr (fun j hj => ?_)
      rw [hget j]
      by_cases e : j = i
      · rw [if_pos e, e, hon]
        unfold onB
        cases his : (stepL s.up prio t).2.is with
        | false => simp
        | true =>
          have : l ≠ [] := fun hh => c ⟨his, hh⟩
          cases l with
          | nil => exact absurd rfl this
          | cons a b => simp
      · rw [if_neg e]
  · rw [hget j] at hb ⊢
    by_cases e : j = i
    · rw [if_pos e] at hb ⊢
      dsimp only at hb ⊢
      exact ⟨by rw [← hl]; exact hsk.2.2, by simpa using hb⟩
    · rw [if_neg e] at hb ⊢
      exact h.task j hj hb
  · rw [hget j] at ho
    by_cases e : j = i
    · rw [if_pos e] at ho
      exact h.left i hi o (hsub o ho)
    · rw [if_neg e] at ho
      exact h.left j hj o ho
  · show s.steps + 1 + (mu5 n prio (next5 n prio P s i l t b) : Int) < 1000000
    omega
  · have := h.evs
    show ((if (stepL s.up prio t).2.is = true then s.ev ++ [_] else s.ev).length : Int) ≤ s.steps + 1
    split
    · rw [List.length_append]; simp; omega
    · omega
theorem run5 {n : Nat} {prio P : List Int} (I : St5 → Prop) (hI : ∀ s i l t b, Base n prio s → I s → Goes5 n prio P s i l t b → I (next5 n prio P s i l t b)) :
    ∀ g s, Base n prio s → I s → mu5 n prio s < g → ∃ s', playS n prio P g s = some (s'.ev, s'.up, s'.steps) ∧ Base n prio s' ∧ I s' ∧ s'.going = 0 ∧ s'.steps ≤ s.steps + (mu5 n prio s : Int)
  | 0, s, _, _, hm => absurd hm (by omega)
  | g + 1, s, h, hi, hm => by
    by_cases hg : s.going = 0
    · exact ⟨s, playS_end hg, h, hi, hg, by omega⟩
    · obtain ⟨i, l, t, b, hG, hp, hB, hd⟩ := h.step hg P
      obtain ⟨s', h1, h2, h3, h4, h5⟩ := run5 I hI g _ hB (hI s i l t b h hi hG) (by omega)
      refine ⟨s', by rw [hp]; exact h1, h2, h3, h4, ?_⟩
      have : (next5 n prio P s i l t b).steps = s.steps + 1 := rfl
      omega
def total (S : List (List S40)) : Nat := sumR S.length fun i => (S.getD i []).length
def validL (n : Int) (S : List (List S40)) : List (List S40) := S.map fun l => l.filter (validB n)
def ws5 (n : Int) (S : List (List S40)) : List W5 := (validL n S).map fun l => ⟨l, t0, false, 0, 0⟩
def start5 (prio : List Int) (S : List (List S40)) : St5 := ⟨ws5 prio.length S, upS prio.length, goingTo (validL prio.length S) S.length, 0, -1, 0, []⟩
theorem validL_get (n : Int) (S : List (List S40)) (i : Nat) : (validL n S).getD i [] = (S.getD i []).filter (validB n) := by
  simp only [validL, List.getD_eq_getElem?_getD, List.getElem?_map]
  cases S[i]? <;> rfl
theorem ws5_get (n : Int) (S : List (List S40)) (i : Nat) : (ws5 n S).getD i z5 = ⟨(S.getD i []).filter (validB n), t0, false, 0, 0⟩ := by
  simp only [ws5, validL, List.getD_eq_getElem?_getD, List.getElem?_map]
  cases S[i]? <;> rfl
theorem up_ok (prio : List Int) (h : prio.length ≤ 65536) : Ok (upS prio.length) prio := by
  refine ⟨by simp [upS], by simpa [upS] using h, fun j hj => ?_⟩
  have hj' : j < prio.length := by simpa [upS] using hj
  exact ⟨j, by simp [upS, List.getD_eq_getElem?_getD, hj'], hj, .inl rfl⟩
theorem going_ok (L : List (List S40)) : ∀ i, i ≤ 64 → Goi i (goingTo L i) (fun j => !(L.getD j []).isEmpty)
  | 0, _ => ⟨0, rfl, by decide, fun j => by simp⟩
  | i + 1, hi => by
    obtain ⟨x, hx, hlt, hb⟩ := going_ok L i (by omega)
    rw [goingTo, hx]
    by_cases c : L.getD i [] = []
    · rw [if_pos c]
      refine ⟨x, rfl, hlt, fun j => ?_⟩
      rw [hb j]
      by_cases e : j = i
      · subst e; dsimp only; rw [c]; simp
      · by_cases e2 : j < i
        · rw [decide_eq_true e2, decide_eq_true (show j < i + 1 by omega)]
        · rw [decide_eq_false e2, decide_eq_false (show ¬ j < i + 1 by omega), Bool.false_and]; try rfl
    · rw [if_neg c, shl_one i (by omega)]
      have h2 : 2 ^ i < 18446744073709551616 := Nat.lt_of_lt_of_le (Nat.pow_lt_pow_right (by decide) (show i < 64 by omega)) (by decide)
      rw [bits_or_u64_nat x (2 ^ i) hlt h2]
      refine ⟨_, rfl, Nat.or_lt_two_pow (n := 64) hlt h2, fun j => ?_⟩
      rw [Nat.testBit_or, hb j, Nat.testBit_two_pow]
      by_cases e : j = i
      · subst e
        have hce : (L.getD j []).isEmpty = false := by
          cases h : L.getD j [] with
          | nil => exact absurd h c
          | cons a b => rfl
        simp only [hce]
        simp
      · have e3 : ¬ i = j := fun h => e h.symm
        by_cases e2 : j < i
        · rw [decide_eq_true e2, decide_eq_true (show j < i + 1 by omega), decide_eq_false e3, Bool.or_false]
        · rw [decide_eq_false e2, decide_eq_false (show ¬ j < i + 1 by omega), decide_eq_false e3]; rfl
theorem start_base (prio : List Int) (S : List (List S40)) (hs : S.length ≤ 64) (hn : prio.length ≤ 65536) (hcap : 14 * prio.length * total S < 1000000) : Base S.length prio (start5 prio S) ∧ mu5 S.length prio (start5 prio S) ≤ 14 * prio.length * total S := by
  have hmu : mu5 S.length prio (start5 prio S) ≤ 14 * prio.length * total S := by
    unfold mu5 total
    rw [← sumR_mul]
    refine sumR_mono _ _ _ fun j hj => ?_
    show left5 prio _ ((ws5 prio.length S).getD j z5) ≤ _
    rw [ws5_get]
    unfold left5
    dsimp only
    rw [if_neg (by decide), Nat.add_zero]
    exact Nat.mul_le_mul_left _ (List.length_filter_le _ _)
  refine ⟨⟨hs, by simp [start5, ws5, validL], up_ok prio hn, ?_, fun i hi hb => ?_, fun i hi o ho => ?_, Int.le_refl _, ?_, Int.le_refl _⟩, hmu⟩
  · refine (going_ok (validL prio.length S) S.length hs).congr fun j hj => ?_
    show onB ((ws5 prio.length S).getD j z5) = _
    rw [ws5_get, validL_get]
    simp [onB]
  · have hb : ((ws5 prio.length S).getD i z5).busy = true := hb
    rw [ws5_get] at hb
    cases hb
  · have ho : o ∈ ((ws5 prio.length S).getD i z5).l := ho
    rw [ws5_get] at ho
    exact (List.mem_filter.1 ho).2
  · show (0 : Int) + _ < 1000000
    omega
theorem allW_nat : ∀ (S : List (List S40)) (a : Nat), a + (S.map List.length).sum ≤ 1000000 → allW (a : Int) S = ((a + (S.map List.length).sum : Nat) : Int)
  | [], a, _ => by simp [allW]
  | x :: S, a, h => by
    rw [List.map_cons, List.sum_cons] at h ⊢
    rw [allW, wr64 (by omega) (by omega), show (a : Int) + (x.length : Int) = ((a + x.length : Nat) : Int) by omega, allW_nat S (a + x.length) (by omega)]
    congr 1
    omega
theorem sumR_cons (n : Nat) (f : Nat → Nat) : sumR (n + 1) f = f 0 + sumR n (fun i => f (i + 1)) := by
  induction n with
  | zero => rw [sumR, sumR, sumR]; omega
  | succ n ih => rw [sumR, ih, sumR]; omega
theorem total_sum : ∀ S : List (List S40), total S = (S.map List.length).sum
  | [] => rfl
  | x :: S => by
    unfold total
    rw [List.length_cons, sumR_cons, List.map_cons, List.sum_cons, ← total_sum S]
    rfl
theorem total_all (S : List (List S40)) (h : total S ≤ 1000000) : allW 0 S = (total S : Int) := by
  have := allW_nat S 0 (by rw [← total_sum]; omega)
  rw [total_sum]
  rw [show ((0 : Nat) : Int) = 0 from rfl] at this
  rw [this, Nat.zero_add]
theorem okS_true {prio : List Int} {S : List (List S40)} (hn : prio.length ≤ 4096) (hs : S.length ≤ 64) (ht : total S ≤ 4096) : okS prio.length S = true := by
  unfold okS
  exact decide_eq_true ⟨by omega, by omega, by rw [total_all S (by omega)]; omega⟩
theorem sumR_mem (S : List (List S40)) : ∀ x ∈ S, x.length ≤ total S := by
  intro x hx
  obtain ⟨i, hi, rfl⟩ := List.getElem_of_mem hx
  have := sumR_le S.length i (fun i => (S.getD i []).length) hi
  simp only [List.getD_eq_getElem?_getD, List.getElem?_eq_getElem hi, Option.getD_some] at this
  exact this
theorem playF_run {prio P : List Int} {S : List (List S40)} (hn : prio.length ≤ 4096) (hs : S.length ≤ 64) (ht : total S ≤ 4096) (hP : P.length ≤ 1000000) : playF prio S P = playS S.length prio P (100 * (total S + 1) * (prio.length + 1) + 1) (start5 prio S) := by
  unfold playF
  rw [if_pos ⟨by omega, by omega, hP, fun x hx => by have := sumR_mem S x hx; omega⟩, if_pos (okS_true hn hs ht), total_all S (by omega), Int.toNat_natCast]
  rfl
theorem play_whole {prio P : List Int} {S : List (List S40)} (hn : prio.length ≤ 4096) (hs : S.length ≤ 64) (ht : total S ≤ 4096) (hcap : 14 * prio.length * total S < 1000000) (hP : P.length ≤ 1000000)
    (I : St5 → Prop) (h0 : I (start5 prio S)) (hI : ∀ s i l t b, Base S.length prio s → I s → Goes5 S.length prio P s i l t b → I (next5 S.length prio P s i l t b)) :
    ∃ s', playF prio S P = some (s'.ev, s'.up, s'.steps) ∧ Base S.length prio s' ∧ I s' ∧ s'.going = 0 ∧ s'.steps ≤ ((14 * prio.length * total S : Nat) : Int) := by
  obtain ⟨hb, hm⟩ := start_base prio S hs (by omega) hcap
  have hle : 14 * prio.length * total S ≤ 100 * (total S + 1) * (prio.length + 1) := by
    have e1 : 14 * prio.length * total S = 14 * (total S * prio.length) := by rw [Nat.mul_assoc, Nat.mul_comm prio.length]
    have e2 : total S * prio.length ≤ (total S + 1) * (prio.length + 1) := Nat.mul_le_mul (by omega) (by omega)
    rw [e1, Nat.mul_assoc]
    omega
  obtain ⟨s', h1, h2, h3, h4, h5⟩ := run5 I hI (100 * (total S + 1) * (prio.length + 1) + 1) (start5 prio S) hb h0 (by omega)
  refine ⟨s', by rw [playF_run hn hs ht hP]; exact h1, h2, h3, h4, ?_⟩
  have : (start5 prio S).steps = 0 := rfl
  omega
end Go.Proofs.YtmaiicpaalbcfaaDoor
end
section
namespace Go.Proofs.YtmaiicpaalbcfaaDoor
open Go.RowKit Go.Proofs.YtmaiicpaalbcfaaDoorW.PrintWords Go.Proofs.YtmaiicpaalbcfaaDoorW.PrintLast Go.Proofs.YtmaiicpaalbcfaaDoor.P
set_option linter.unusedVariables false
set_option linter.unusedSimpArgs false
theorem tmod_natE {i n : Int} (h0 : 0 ≤ i) : Int.tmod i n = i % n := Int.tmod_eq_emod_of_nonneg h0
theorem prio_l0 (ns : List Int) (n : Nat) (hn : n ≤ 65536) : ∀ (d i : Nat) (l : List Int), i + d = n → l.length = n → ∃ p, p.length = n ∧ Ev (fun k => warplaw4_Prio.l0 k ns (n : Int) l (i : Int)) p
  | 0, i, l, h, hl => by
    refine ⟨l, hl, Ev.step (f := fun _ => some l) (fun k => ?_) (Ev.now _)⟩
    rw [warplaw4_Prio.l0, if_neg (by omega)]
  | d + 1, i, l, h, hl => by
    by_cases e : ns.length = 0
    · refine ⟨l, hl, Ev.step (f := fun _ => some l) (fun k => ?_) (Ev.now _)⟩
      rw [warplaw4_Prio.l0, if_pos (by omega), if_neg (by omega)]
    · obtain ⟨p, hp, hev⟩ := prio_l0 ns n hn d (i + 1) (l.set i (Int.tmod (wrap64 (rd ns (Int.tmod (i : Int) (ns.length : Int)))) 5)) (by omega) (by rw [List.length_set]; exact hl)
      refine ⟨p, hp, Ev.step (fun k => ?_) hev⟩
      have h1 : Int.tmod (i : Int) (ns.length : Int) = (i : Int) % (ns.length : Int) := tmod_natE (by omega)
      have h2 := Int.emod_nonneg (i : Int) (show (ns.length : Int) ≠ 0 by omega)
      have h3 := Int.emod_lt_of_pos (i : Int) (show (0 : Int) < ns.length by omega)
      rw [warplaw4_Prio.l0, if_pos (by omega), if_pos (by omega), if_neg (by omega), if_pos (by omega), if_pos (by omega), if_pos (by omega), if_pos (by omega), wr64 (i := (i : Int) + 1) (by omega) (by omega)]
      rfl
theorem prio_ev (ns : List Int) (n : Nat) (hn : n ≤ 65536) : ∃ p, p.length = n ∧ Ev (fun k => warplaw4_Prio.f k ns (n : Int)) p := by
  obtain ⟨p, hp, hev⟩ := prio_l0 ns n hn n 0 (List.replicate n 0) (by omega) (by simp)
  refine ⟨p, hp, Ev.congr (fun k => ?_) hev⟩
  unfold warplaw4_Prio.f
  rw [if_pos (by omega), if_pos (by omega)]
  rfl
def Byte (x : Int) : Prop := 0 ≤ x ∧ x < 256
def Bytes (l : List Int) : Prop := ∀ i, Byte (rd l i)
def OpOk (n : Nat) (p : Int × Int × Int) : Prop := 1 ≤ p.1 ∧ p.1 ≤ 3 ∧ (0 ≤ p.2.1 ∧ p.2.1 < n) ∧ (0 ≤ p.2.2 ∧ p.2.2 < n)
theorem op_f {a b c : Int} {n : Nat} (ha : Byte a) (hb : Byte b) (hc : Byte c) (h0 : 0 < n) (h1 : n ≤ 65536) : warplaw4_op.f a b c (n : Int) = some (1 + a % 3, b % n, c % n) := by
  obtain ⟨a0, a1⟩ := ha
  obtain ⟨b0, b1⟩ := hb
  obtain ⟨c0, c1⟩ := hc
  unfold warplaw4_op.f
  rw [if_neg (by omega), wr64 (i := a) (by omega) (by omega), wr64 (i := b) (by omega) (by omega), wr64 (i := c) (by omega) (by omega), tmod_natE a0, tmod_natE b0, tmod_natE c0, wr64 (by omega) (by omega)]
theorem op_ok {a b c : Int} {n : Nat} (h0 : 0 < n) : OpOk n (1 + a % 3, b % n, c % n) := by
  have hn : (0 : Int) < n := by omega
  exact ⟨by simp only; omega, by simp only; omega, ⟨Int.emod_nonneg _ (by omega), Int.emod_lt_of_pos _ hn⟩, ⟨Int.emod_nonneg _ (by omega), Int.emod_lt_of_pos _ hn⟩⟩
def OpsOk (n : Nat) (l : List S40) : Prop := ∀ q ∈ l, OpOk n (q.f0, q.f1, q.f2)
theorem ops_l0 (ns : List Int) (n : Nat) (hb : Bytes ns) (h0 : 0 < n) (h1 : n ≤ 65536) (hl : ns.length ≤ 1000000) : ∀ (d i : Nat) (l : List S40), ns.length ≤ i + d → 3 * l.length = i → 3 * l.length ≤ ns.length → OpsOk n l →
    ∃ r, OpsOk n r ∧ 3 * r.length ≤ ns.length ∧ Ev (fun k => warplaw4_Ops.l0 k ns (n : Int) l (i : Int)) r
  | 0, i, l, h, h2, h3, ho => by
    refine ⟨l, ho, by omega, Ev.step (f := fun _ => some l) (fun k => ?_) (Ev.now _)⟩
    rw [warplaw4_Ops.l0, if_neg (by rw [wr64 (by omega) (by omega)]; omega)]
  | d + 1, i, l, h, h2, h3, ho => by
    by_cases e : i + 2 < ns.length
    · obtain ⟨r, hr, hrl, hev⟩ := ops_l0 ns n hb h0 h1 hl d (i + 3) (l ++ [⟨1 + rd ns (i : Int) % 3, rd ns ((i : Int) + 1) % n, rd ns ((i : Int) + 2) % n⟩]) (by omega) (by simp; omega) (by simp; omega) (fun q hq => by
        rcases List.mem_append.1 hq with hq | hq
        · exact ho q hq
        · rw [List.mem_singleton.1 hq]; exact op_ok h0)
      refine ⟨r, hr, hrl, Ev.step (fun k => ?_) hev⟩
      rw [warplaw4_Ops.l0, wr64 (i := (i : Int) + 2) (by omega) (by omega), wr64 (i := (i : Int) + 1) (by omega) (by omega), wr64 (i := (i : Int) + 3) (by omega) (by omega), if_pos (by omega), if_pos (by omega), if_pos (by omega), if_pos (by omega), if_pos (by omega), if_pos (by omega), if_pos (by omega), op_f (hb _) (hb _) (hb _) h0 h1]
      simp only [Option.bind_some]
      rw [if_pos (by omega)]
      rfl
    · refine ⟨l, ho, by omega, Ev.step (f := fun _ => some l) (fun k => ?_) (Ev.now _)⟩
      rw [warplaw4_Ops.l0, if_neg (by rw [wr64 (by omega) (by omega)]; omega)]
theorem ops_ev (ns : List Int) (n : Nat) (hb : Bytes ns) (h0 : 0 < n) (h1 : n ≤ 65536) (hl : ns.length ≤ 1000000) : ∃ r, OpsOk n r ∧ 3 * r.length ≤ ns.length ∧ Ev (fun k => warplaw4_Ops.f k ns (n : Int)) r :=
  ops_l0 ns n hb h0 h1 hl ns.length 0 [] (by omega) (by simp) (by simp) (fun q hq => by simp at hq)
theorem opsOk_valid {n : Nat} {l : List S40} (h : OpsOk n l) : l.filter (validB n) = l := by
  rw [List.filter_eq_self]
  intro q hq
  obtain ⟨h1, h2, h3, h4⟩ := h q hq
  simp only at h1 h2 h3 h4
  simp [validB, beginB, thereB, h1, h2, h3, h4]
def U8s (l : List (List Int)) : Prop := ∀ x ∈ l, ∀ n ∈ x, 0 ≤ n ∧ n < 256
theorem bytes_of {l : List Int} (h : ∀ x ∈ l, 0 ≤ x ∧ x < 256) : Bytes l := fun i => by
  unfold rd
  rw [List.getD_eq_getElem?_getD]
  cases e : l[i.toNat]? with
  | none => exact ⟨by decide, by decide⟩
  | some x => exact h x (List.mem_of_getElem? e)
theorem u8_rng {n : Int} (h : (Lit.int .u8 n).wf = true) : 0 ≤ n ∧ n < 256 := by
  have h2 : IntKind.u8.min ≤ n ∧ n ≤ IntKind.u8.max := by simpa [Lit.wf] using h
  have e1 : IntKind.u8.min = 0 := rfl
  have e2 : IntKind.u8.max = 255 := rfl
  omega
structure ScrOk (n : Nat) (S : List (List S40)) : Prop where
  len : S.length ≤ 8
  each : ∀ x ∈ S, OpsOk n x ∧ x.length ≤ 8
theorem scripts_l0 (l : List (List Int)) (n : Nat) (hl : U8s l) (h0 : 0 < n) (h1 : n ≤ 65536) : ∀ (d i : Nat) (S : List (List S40)), i + d = 8 → S.length = i → (∀ x ∈ S, OpsOk n x ∧ x.length ≤ 8) →
    ∃ r, ScrOk n r ∧ Ev (fun k => warplaw5_Scripts.l0 k l (n : Int) S (i : Int)) r
  | 0, i, S, h, h2, hS => by
    refine ⟨S, ⟨by omega, hS⟩, Ev.step (f := fun _ => some S) (fun k => ?_) (Ev.now _)⟩
    rw [warplaw5_Scripts.l0]
    by_cases c : (i : Int) < (l.length : Int)
    · rw [if_pos c, if_neg (by omega)]
    · rw [if_neg c]
  | d + 1, i, S, h, h2, hS => by
    by_cases c : (i : Int) < (l.length : Int)
    · have hlt : i < l.length := by omega
      have e1 : rd_L8 l (i : Int) = l[i] := by simp [rd_L8, List.getD_eq_getElem?_getD, hlt]
      have hm : mn ((l[i].length : Nat) : Int) 24 = ((min l[i].length 24 : Nat) : Int) := by unfold mn; split <;> omega
      have hb : ∀ x ∈ l[i].take (min l[i].length 24), 0 ≤ x ∧ x < 256 := fun x hx => hl _ (List.getElem_mem hlt) x (List.mem_of_mem_take hx)
      have hlen : (l[i].take (min l[i].length 24)).length ≤ 24 := by rw [List.length_take]; omega
      obtain ⟨r, hr, hrl, hev⟩ := ops_ev (l[i].take (min l[i].length 24)) n (bytes_of hb) h0 h1 (by omega)
      obtain ⟨r2, hr2, hev2⟩ := scripts_l0 l n hl h0 h1 d (i + 1) (S ++ [r]) (by omega) (by simp; omega) (fun x hx => by
        rcases List.mem_append.1 hx with hx | hx
        · exact hS x hx
        · rw [List.mem_singleton.1 hx]; exact ⟨hr, by omega⟩)
      refine ⟨r2, hr2, Ev.step (f := fun k => (warplaw4_Ops.f k (l[i].take (min l[i].length 24)) (n : Int)).bind fun t173 => (if S.length < 5864062014805 then (warplaw5_Scripts.l0 k l (n : Int) (S ++ [t173]) (wrap64 ((i : Int) + 1))) else (none))) (fun k => ?_) (Ev.bind hev (Ev.congr (fun k => ?_) hev2))⟩
      · rw [warplaw5_Scripts.l0, if_pos c, if_pos (by omega), if_pos (by omega), e1, hm, if_pos (by omega), if_pos (by omega), Int.toNat_natCast]
      · rw [if_pos (by omega), wr64 (by omega) (by omega)]
        rfl
    · refine ⟨S, ⟨by omega, hS⟩, Ev.step (f := fun _ => some S) (fun k => ?_) (Ev.now _)⟩
      rw [warplaw5_Scripts.l0, if_neg c]
theorem scripts_ev (l : List (List Int)) (n : Nat) (hl : U8s l) (h0 : 0 < n) (h1 : n ≤ 65536) : ∃ S, ScrOk n S ∧ Ev (fun k => warplaw5_Scripts.f k l (n : Int)) S :=
  scripts_l0 l n hl h0 h1 8 0 [] (by omega) rfl (fun x hx => by simp at hx)
theorem sumR_bound (n c : Nat) (f : Nat → Nat) (h : ∀ i, i < n → f i ≤ c) : sumR n f ≤ n * c := by
  induction n with
  | zero => simp [sumR]
  | succ n ih =>
    rw [sumR, Nat.succ_mul]
    have := ih fun i hi => h i (by omega)
    have := h n (by omega)
    omega
theorem ScrOk.few {n : Nat} {S : List (List S40)} (h : ScrOk n S) : total S ≤ 64 := by
  have := sumR_bound S.length 8 (fun i => (S.getD i []).length) (fun i hi => by
    rw [List.getD_eq_getElem?_getD, List.getElem?_eq_getElem hi]
    exact (h.each _ (List.getElem_mem hi)).2)
  unfold total
  have h8 := h.len
  omega
theorem ScrOk.valid {n : Nat} {S : List (List S40)} (h : ScrOk n S) : validL n S = S := by
  unfold validL
  have e : S.map (fun l => l.filter (validB n)) = S.map id := List.map_congr_left (fun x hx => opsOk_valid (h.each x hx).1)
  rw [e, List.map_id]
end Go.Proofs.YtmaiicpaalbcfaaDoor
end
section
namespace Go.Proofs.YtmaiicpaalbcfaaDoor
open Go.RowKit Go.Proofs.YtmaiicpaalbcfaaDoorW.PrintWords Go.Proofs.YtmaiicpaalbcfaaDoorW.PrintLast Go.Proofs.YtmaiicpaalbcfaaDoor.P
set_option linter.unusedVariables false
set_option linter.unusedSimpArgs false
theorem there_f (n x : Int) : warpref1_there.f n x = some (thereB n x) := by
  unfold warpref1_there.f thereB
  by_cases h : 0 ≤ x
  · rw [if_pos h]; simp [h]
  · rw [if_neg h]; simp [h]
theorem ints_l0 (l : List Int) (hl : l.length ≤ 1000000) : ∀ d i : Nat, i + d = l.length → Ev (fun k => warpref1_Ints.l0 k l l (i : Int)) true
  | 0, i, h => by
    refine Ev.step (f := fun _ => some true) (fun k => ?_) (Ev.now _)
    simp only [warpref1_Ints.l0]
    rw [if_neg (by omega)]
  | d + 1, i, h => by
    refine Ev.step (f := fun k => warpref1_Ints.l0 k l l ((i + 1 : Nat) : Int)) (fun k => ?_) (ints_l0 l hl d (i + 1) (by omega))
    rw [warpref1_Ints.l0, if_pos (by omega), if_pos (by omega), if_pos (by omega), if_pos rfl, wr64 (by omega) (by omega)]
    rfl
theorem ints_same (l : List Int) (hl : l.length ≤ 1000000) : Ev (fun k => warpref1_Ints.f k l l) true := by
  refine Ev.congr (fun k => ?_) (ints_l0 l hl l.length 0 (by omega))
  unfold warpref1_Ints.f
  rw [if_pos rfl]
  rfl
theorem root_l0 {up p : List Int} (ho : Ok up p) : ∀ (d c : Nat), c < up.length → above p up.length c ≤ d → Ev (fun k => warpref1_Root.l0 k up (c : Int)) (rootN up c : Int)
  | d, c, hc, ha => by
    have h1 := ho.step hc
    by_cases e : stepUp up c = c
    · refine Ev.step (f := fun _ => some (c : Int)) (fun k => ?_) (by rw [root_of_fix e]; exact Ev.now _)
      rw [warpref1_Root.l0, if_pos (by omega), if_pos (by omega), rd_nat, h1.1, if_pos (by rw [e])]
    · have hlt := above_lt (stepUp_lt hc) (h1.2.resolve_left e)
      have ih := root_l0 ho (d - 1) (stepUp up c) (stepUp_lt hc) (by omega)
      rw [root_up ho hc] at ih
      refine Ev.step (f := fun k => warpref1_Root.l0 k up (stepUp up c : Int)) (fun k => ?_) ih
      rw [warpref1_Root.l0, if_pos (by omega), if_pos (by omega), rd_nat, h1.1, if_neg (by omega)]
termination_by d => d
decreasing_by omega
theorem root_ev {up p : List Int} (ho : Ok up p) (c : Nat) (hc : c < up.length) : Ev (fun k => warpref1_Root.f k up (c : Int)) (rootN up c : Int) := by
  refine Ev.congr (fun k => ?_) (root_l0 ho _ c hc (Nat.le_refl _))
  unfold warpref1_Root.f
  rw [there_f, show thereB (up.length : Int) (c : Int) = true by simp [thereB]; omega]
  rfl
theorem same_l0 (x : List S42) (hx : x.length ≤ 1000000) : ∀ d i : Nat, i + d = x.length → Ev (fun g => warpref1_SameEvents.l0 g x x (i : Int)) true
  | 0, i, h => Ev.step (f := fun _ => some true) (fun g => by rw [warpref1_SameEvents.l0, if_neg (by omega)]) (Ev.now _)
  | d + 1, i, h => Ev.step (f := fun g => warpref1_SameEvents.l0 g x x ((i + 1 : Nat) : Int)) (fun g => by
      rw [warpref1_SameEvents.l0, if_pos (by omega), if_pos (by omega), if_pos (by omega), if_neg (by simp), wr64 (by omega) (by omega)]; rfl) (same_l0 x hx d (i + 1) (by omega))
theorem same_ev (x : List S42) (hx : x.length ≤ 1000000) : Ev (fun g => warpref1_SameEvents.f g x x) true :=
  Ev.congr (fun g => by rw [warpref1_SameEvents.f, if_pos rfl]; rfl) (same_l0 x hx x.length 0 (by omega))
end Go.Proofs.YtmaiicpaalbcfaaDoor
end
section
namespace Go.Proofs.YtmaiicpaalbcfaaDoor
open Go.RowKit Go.Proofs.YtmaiicpaalbcfaaDoorW.PrintWords Go.Proofs.YtmaiicpaalbcfaaDoorW.PrintLast Go.Proofs.YtmaiicpaalbcfaaDoor.P Go.Proofs.YtmaiicpaalbcfaaDoor.Bits
set_option linter.unusedVariables false
theorem sumR_less (n i d : Nat) (f g : Nat → Nat) (hi : i < n) (h : ∀ j, j < n → j ≠ i → f j = g j) (hd : f i = g i + d) : sumR n f = sumR n g + d := by
  induction n with
  | zero => omega
  | succ n ih =>
    rw [sumR, sumR]
    by_cases e : i = n
    · subst e
      rw [sumR_same i f g fun j hj => h j (by omega) (by omega), hd]
      omega
    · rw [ih (by omega) (fun j hj hne => h j (by omega) hne), h n (by omega) (by omega)]
      omega
theorem first_op (t : T) : (firstT t).k = t.k ∧ (firstT t).x = t.x ∧ (firstT t).y = t.y := by
  unfold firstT
  split <;> exact ⟨rfl, rfl, rfl⟩
theorem second_op (t : T) : (secondT t).k = t.k ∧ (secondT t).x = t.x ∧ (secondT t).y = t.y := by
  unfold secondT
  split <;> exact ⟨rfl, rfl, rfl⟩
theorem step_op (up p : List Int) (t : T) : (stepL up p t).2.k = t.k ∧ (stepL up p t).2.x = t.x ∧ (stepL up p t).2.y = t.y := by
  unfold stepL
  by_cases h0 : t.is = true
  · rw [if_pos h0]; exact ⟨rfl, rfl, rfl⟩
  rw [if_neg h0]
  by_cases h1 : t.s = 1
  · rw [if_pos h1]
    dsimp only
    by_cases c : at_ up t.u = t.u
    · rw [if_pos c]; exact first_op _
    · rw [if_neg c]; exact ⟨rfl, rfl, rfl⟩
  rw [if_neg h1]
  by_cases h2 : t.s = 2
  · rw [if_pos h2]
    dsimp only
    by_cases c : at_ up t.w = t.w
    · rw [if_pos c]; exact first_op _
    · rw [if_neg c]; exact ⟨rfl, rfl, rfl⟩
  rw [if_neg h2]
  by_cases h3 : t.s = 3
  · rw [if_pos h3]
    exact ⟨rfl, rfl, rfl⟩
  rw [if_neg h3]
  by_cases h4 : t.s = 4
  · rw [if_pos h4]
    dsimp only
    by_cases c : at_ up t.v = t.v
    · rw [if_pos c]; exact second_op _
    · rw [if_neg c]; exact ⟨rfl, rfl, rfl⟩
  rw [if_neg h4]
  by_cases h5 : t.s = 5
  · rw [if_pos h5]
    dsimp only
    by_cases c : at_ up t.w = t.w
    · rw [if_pos c]; exact second_op _
    · rw [if_neg c]; exact ⟨rfl, rfl, rfl⟩
  rw [if_neg h5]
  by_cases h6 : t.s = 6
  · rw [if_pos h6]
    exact ⟨rfl, rfl, rfl⟩
  rw [if_neg h6]
  by_cases h7 : t.s = 7
  · rw [if_pos h7]
    dsimp only
    by_cases c : at_ up t.u = t.u
    · rw [if_pos c]; exact ⟨rfl, rfl, rfl⟩
    · rw [if_neg c]; exact ⟨rfl, rfl, rfl⟩
  rw [if_neg h7]
  by_cases hb : belowB p t.u t.v = true
  · rw [if_pos hb]
    by_cases c : at_ up t.u = t.u
    · rw [if_pos c]; exact ⟨rfl, rfl, rfl⟩
    · rw [if_neg c]; exact ⟨rfl, rfl, rfl⟩
  · rw [if_neg hb]
    by_cases c : at_ up t.v = t.v
    · rw [if_pos c]; exact ⟨rfl, rfl, rfl⟩
    · rw [if_neg c]; exact ⟨rfl, rfl, rfl⟩
section
variable {n : Nat} {prio P : List Int} {s : St5} {i : Nat} {l : List S40} {t : T} {b : Int}
theorem next_get (h : Base n prio s) (hG : Goes5 n prio P s i l t b) (j : Nat) : (next5 n prio P s i l t b).ws.getD j z5 = if j = i then ⟨l, (stepL s.up prio t).2, !(stepL s.up prio t).2.is, b, placeW t (stepL s.up prio t).2 (s.steps + 1) (s.ws.getD i z5).pl⟩ else s.ws.getD j z5 :=
  getD_set_any _ _ _ _ _ (by rw [h.len]; exact hG.hi)
def cnt (w : W5) : Nat := w.l.length + (if w.busy = true then 1 else 0)
def Cnt (n tot : Nat) (s : St5) : Prop := s.ev.length + sumR n (fun i => cnt (s.ws.getD i z5)) = tot
theorem Cnt.step {tot : Nat} (h : Base n prio s) (hc : Cnt n tot s) (hG : Goes5 n prio P s i l t b) : Cnt n tot (next5 n prio P s i l t b) := by
  have hget := next_get h hG
  have hwas : cnt (s.ws.getD i z5) = l.length + 1 := by
    unfold cnt
    rcases hG.src with ⟨h1, h2, _⟩ | ⟨h1, o, h2, _⟩
    · rw [if_pos h1, h2]
    · rw [h1, h2]; simp
  unfold Cnt at *
  cases his : (stepL s.up prio t).2.is with
  | true =>
    have e : (next5 n prio P s i l t b).ev.length = s.ev.length + 1 := by simp [next5, his]
    have := sumR_less n i 1 (fun j => cnt (s.ws.getD j z5)) (fun j => cnt ((next5 n prio P s i l t b).ws.getD j z5)) hG.hi (fun j hj hne => by rw [hget j, if_neg hne]) (by rw [hget i, if_pos rfl, hwas]; unfold cnt; simp [his])
    omega
  | false =>
    have e : (next5 n prio P s i l t b).ev.length = s.ev.length := by simp [next5, his]
    have := sumR_same n (fun j => cnt (s.ws.getD j z5)) (fun j => cnt ((next5 n prio P s i l t b).ws.getD j z5)) (fun j hj => by
      rw [hget j]
      by_cases c : j = i
      · rw [if_pos c, c, hwas]; unfold cnt; simp [his]
      · rw [if_neg c])
    omega
theorem Cnt.start {S : List (List S40)} (hv : validL prio.length S = S) : Cnt S.length (total S) (start5 prio S) := by
  unfold Cnt total
  rw [show (start5 prio S).ev.length = 0 from rfl, Nat.zero_add]
  refine sumR_same _ _ _ fun j hj => ?_
  show cnt ((ws5 prio.length S).getD j z5) = _
  rw [ws5_get]
  have : (S.getD j []).filter (validB prio.length) = S.getD j [] := by rw [← validL_get, hv]
  rw [this]
  rfl
end
end Go.Proofs.YtmaiicpaalbcfaaDoor
end
section
namespace Go.Proofs.YtmaiicpaalbcfaaDoor
open Go.RowKit
set_option linter.unusedVariables false
structure Eff (up : List Int) (t : T) (up' : List Int) (t' : T) : Prop where
  same : ¬ (t.s = 8 ∧ t'.is = true) → ∀ x, x < up.length → rootN up' x = rootN up x
  link : t.s = 8 → t'.is = true → t'.res = 1 ∧ ∃ a b : Nat, a < up.length ∧ b < up.length ∧ ((t.u = (a : Int) ∧ t.v = (b : Int)) ∨ (t.u = (b : Int) ∧ t.v = (a : Int))) ∧ rootN up a = a ∧ rootN up b ≠ a ∧ ∀ x, x < up.length → rootN up' x = if rootN up x = a then rootN up b else rootN up x
  uu : t'.is = false → rootN up t'.u.toNat = rootN up t.u.toNat
  vv : t'.is = false → rootN up t'.v.toNat = rootN up t.v.toNat
  fin : t'.is = true → t.s ≠ 8 → (t.k = 1 ∧ In up.length t'.res ∧ rootN up t'.res.toNat = rootN up t.u.toNat) ∨ (t.k ≠ 1 ∧ t'.res = (if t.k = 2 then 1 else 0) ∧ rootN up t.u.toNat = rootN up t.v.toNat) ∨ (t.s = 7 ∧ t'.res = 0 ∧ at_ up t.u = t.u)
  to7 : t'.is = false → t'.s = 7 → t.s < 7 ∧ up' = up ∧ t'.u = t.u ∧ (at_ up t.u = t.u → rootN up t.u.toNat ≠ rootN up t.v.toNat)
theorem root_in {up : List Int} {x : Int} (hx : In up.length x) (h : at_ up x = x) : rootN up x.toNat = x.toNat := by
  obtain ⟨i, rfl, hi⟩ := in_nat hx
  rw [at_nat] at h
  rw [Int.toNat_natCast]
  refine root_of_fix ?_
  unfold stepUp
  rw [if_neg (fun hh => hh.1 h)]
theorem eff_stay {up : List Int} {t t' : T} (h1 : t'.is = false) (hu : rootN up t'.u.toNat = rootN up t.u.toNat) (hv : rootN up t'.v.toNat = rootN up t.v.toNat) (h7 : t'.s ≠ 7) : Eff up t up t' :=
  ⟨fun _ _ _ => rfl, fun _ h => (by rw [h1] at h; cases h), fun _ => hu, fun _ => hv, fun h => (by rw [h1] at h; cases h), fun _ h => absurd h h7⟩
theorem eff_fin {up : List Int} {t t' : T} (h8 : t.s ≠ 8) (h1 : t'.is = true) (hf : (t.k = 1 ∧ In up.length t'.res ∧ rootN up t'.res.toNat = rootN up t.u.toNat) ∨ (t.k ≠ 1 ∧ t'.res = (if t.k = 2 then 1 else 0) ∧ rootN up t.u.toNat = rootN up t.v.toNat) ∨ (t.s = 7 ∧ t'.res = 0 ∧ at_ up t.u = t.u)) : Eff up t up t' :=
  ⟨fun _ _ _ => rfl, fun h => absurd h h8, fun h => (by rw [h1] at h; cases h), fun h => (by rw [h1] at h; cases h), fun _ _ => hf, fun h => (by rw [h1] at h; cases h)⟩
theorem eff_first {up : List Int} {t t1 : T} (hs : t.s < 7) (h1 : t1.is = false) (hk : t1.k = t.k) (hin : In up.length t1.u) (hu : rootN up t1.u.toNat = rootN up t.u.toNat) (hv : t1.v = t.v) : Eff up t up (firstT t1) := by
  unfold firstT
  by_cases c : t1.k = 1
  · rw [if_pos c]
    exact eff_fin (by omega) rfl (.inl ⟨by rw [← hk]; exact c, hin, hu⟩)
  · rw [if_neg c]
    exact eff_stay h1 hu (by show rootN up t1.v.toNat = _; rw [hv]) (by show (4 : Int) ≠ 7; decide)
theorem eff_second {up : List Int} {t t1 : T} (hs : t.s < 7) (h1 : t1.is = false) (hk : t1.k = t.k) (k1 : t.k ≠ 1) (hu : t1.u = t.u) (hui : In up.length t.u) (hin : In up.length t1.v) (hv : rootN up t1.v.toNat = rootN up t.v.toNat) (hr : at_ up t1.v = t1.v) : Eff up t up (secondT t1) := by
  unfold secondT
  by_cases c : t1.u = t1.v
  · rw [if_pos c]
    refine eff_fin (by omega) rfl (.inr (.inl ⟨k1, by rw [← hk]; rfl, by rw [← hv, ← c, hu]⟩))
  · rw [if_neg c]
    refine ⟨fun _ _ _ => rfl, fun h => by omega, fun _ => by show rootN up t1.u.toNat = _; rw [hu], fun _ => hv, fun h => ?_, fun _ _ => ⟨hs, rfl, hu, fun ha e => c ?_⟩⟩
    · have h : t1.is = true := h
      rw [h1] at h; cases h
    · rw [root_in hui ha, ← hv, root_in hin hr] at e
      have := hui.1
      have := hin.1
      omega
theorem swap_same {up p : List Int} (h : Ok up p) {u w r : Int} (hu : In up.length u) (hw : In up.length w) (hr : In up.length r) (h1 : LT p u.toNat w.toNat) (h2 : LT p w.toNat r.toNat) (hroot : rootN up r.toNat = rootN up w.toNat) : ∀ x, x < up.length → rootN (swapL up u w r) x = rootN up x := by
  obtain ⟨u, rfl, hu'⟩ := in_nat hu
  obtain ⟨w, rfl, _⟩ := in_nat hw
  obtain ⟨r, rfl, hr'⟩ := in_nat hr
  simp only [Int.toNat_natCast] at h1 h2 hroot
  unfold swapL
  rw [at_nat]
  split
  · rename_i he
    exact root_split h hu' hr' he h1 h2 hroot
  · exact fun _ _ => rfl
theorem eff_link {up p : List Int} (h : Ok up p) {t : T} {a b : Nat} (ha : a < up.length) (hb : b < up.length) (hab : (t.u = (a : Int) ∧ t.v = (b : Int)) ∨ (t.u = (b : Int) ∧ t.v = (a : Int))) (he : up.getD a 0 = (a : Int)) (h1 : LT p a b) (h8 : t.s = 8) : Eff up t (up.set a (b : Int)) (finish t 1) := by
  have hfix : stepUp up a = a := stepUp_of h ha he
  have hra : rootN up a = a := root_of_fix hfix
  have hrb : rootN up b ≠ a := by
    intro e
    rcases root_above h b hb with f | f
    · rw [e] at f
      rw [← f] at h1
      exact lt_irrefl p _ h1
    · rw [e] at f
      exact lt_asymm h1 f
  exact ⟨fun hh => absurd ⟨h8, rfl⟩ hh, fun _ _ => ⟨rfl, a, b, ha, hb, hab, hra, hrb, root_link h ha hb he h1⟩, fun h => (by cases h), fun h => (by cases h), fun _ hh => absurd h8 hh, fun h => (by cases h)⟩
theorem step_eff {up p : List Int} {t : T} (h : Ok up p) (hk : Keeps up.length p t) (hr : RI up t) (hi : t.is = false) : Eff up t (stepL up p t).1 (stepL up p t).2 := by
  obtain ⟨k, x, y, s, u, v, w, r, is, res⟩ := t
  obtain ⟨⟨k0, k1, u0, v0, s0, s1, k2, k7, k8, w0, r0⟩, ⟨oa, ob, oc, od, oe⟩⟩ := hk
  obtain ⟨ra, rb, rc, rd⟩ := hr
  simp only at k0 k1 u0 v0 s0 s1 k2 k7 k8 w0 r0 oa ob oc od oe ra rb rc rd hi
  subst hi
  rcases (show s = 1 ∨ s = 2 ∨ s = 3 ∨ s = 4 ∨ s = 5 ∨ s = 6 ∨ s = 7 ∨ s = 8 by omega) with rfl | rfl | rfl | rfl | rfl | rfl | rfl | rfl
  · simp only [stepL, if_neg Bool.false_ne_true, if_true]
    split
    · exact eff_first (by show (1 : Int) < 7; decide) rfl rfl u0 rfl rfl
    · exact eff_stay rfl rfl rfl (by show (2 : Int) ≠ 7; decide)
  · have w1 := w0 (by omega)
    simp only [stepL, if_neg Bool.false_ne_true, if_true, show ((2 : Int) = 1) = False by simp, if_false]
    split
    · exact eff_first (by show (2 : Int) < 7; decide) rfl rfl w1 (ra rfl (.inl rfl)) rfl
    · exact eff_stay rfl rfl rfl (by show (3 : Int) ≠ 7; decide)
  · simp only [stepL, if_neg Bool.false_ne_true, if_true, show ((3 : Int) = 1) = False by simp, show ((3 : Int) = 2) = False by simp, if_false]
    exact ⟨fun _ => swap_same h u0 (w0 (by omega)) (r0 (by omega)) (oa rfl (.inr rfl)) (ob rfl rfl) (rb rfl rfl), fun _ h => (by cases h), fun _ => ra rfl (.inr rfl), fun _ => rfl, fun h => (by cases h), fun _ h => (by simp at h)⟩
  · have v1 := v0 (k2 (by omega))
    simp only [stepL, if_neg Bool.false_ne_true, if_true, show ((4 : Int) = 1) = False by simp, show ((4 : Int) = 2) = False by simp, show ((4 : Int) = 3) = False by simp, if_false]
    split
    · rename_i e
      exact eff_second (by show (4 : Int) < 7; decide) rfl rfl (k2 (by omega)) rfl u0 v1 rfl e
    · exact eff_stay rfl rfl rfl (by show (5 : Int) ≠ 7; decide)
  · have w1 := w0 (by omega)
    simp only [stepL, if_neg Bool.false_ne_true, if_true, show ((5 : Int) = 1) = False by simp, show ((5 : Int) = 2) = False by simp, show ((5 : Int) = 3) = False by simp, show ((5 : Int) = 4) = False by simp, if_false]
    split
    · rename_i e
      exact eff_second (by show (5 : Int) < 7; decide) rfl rfl (k2 (by omega)) rfl u0 w1 (rc rfl (.inl rfl)) e
    · exact eff_stay rfl rfl rfl (by show (6 : Int) ≠ 7; decide)
  · have v1 := v0 (k2 (by omega))
    simp only [stepL, if_neg Bool.false_ne_true, if_true, show ((6 : Int) = 1) = False by simp, show ((6 : Int) = 2) = False by simp, show ((6 : Int) = 3) = False by simp, show ((6 : Int) = 4) = False by simp, show ((6 : Int) = 5) = False by simp, if_false]
    exact ⟨fun _ => swap_same h v1 (w0 (by omega)) (r0 (by omega)) (oc rfl (.inr rfl)) (od rfl rfl) (rd rfl rfl), fun _ h => (by cases h), fun _ => rfl, fun _ => rc rfl (.inr rfl), fun h => (by cases h), fun _ h => (by simp at h)⟩
  · simp only [stepL, if_neg Bool.false_ne_true, if_true, show ((7 : Int) = 1) = False by simp, show ((7 : Int) = 2) = False by simp, show ((7 : Int) = 3) = False by simp, show ((7 : Int) = 4) = False by simp, show ((7 : Int) = 5) = False by simp, show ((7 : Int) = 6) = False by simp, if_false]
    split
    · rename_i e
      exact eff_fin (by show (7 : Int) ≠ 8; decide) rfl (.inr (.inr ⟨rfl, rfl, e⟩))
    · exact eff_stay rfl rfl rfl (by show (1 : Int) ≠ 7; decide)
  · have v1 := v0 (k2 (by omega))
    obtain ⟨i, rfl, hi⟩ := in_nat u0
    obtain ⟨j, rfl, hj⟩ := in_nat v1
    have hne := oe rfl (.inr rfl)
    have hij : i ≠ j := fun e => hne (by rw [e])
    simp only [stepL, if_neg Bool.false_ne_true, show ((8 : Int) = 1) = False by simp, show ((8 : Int) = 2) = False by simp, show ((8 : Int) = 3) = False by simp, show ((8 : Int) = 4) = False by simp, show ((8 : Int) = 5) = False by simp, show ((8 : Int) = 6) = False by simp, show ((8 : Int) = 7) = False by simp, if_false]
    split
    · rename_i hb
      rw [at_nat]
      split
      · rename_i he
        rw [Int.toNat_natCast]
        exact eff_link h hi hj (.inl ⟨rfl, rfl⟩) he hb rfl
      · exact eff_stay rfl rfl rfl (by show (1 : Int) ≠ 7; decide)
    · rename_i hb
      rw [at_nat]
      split
      · rename_i he
        rw [Int.toNat_natCast]
        exact eff_link h hj hi (.inr ⟨rfl, rfl⟩) he ((lt_total p hij).resolve_left hb) rfl
      · exact eff_stay rfl rfl rfl (by show (1 : Int) ≠ 7; decide)
end Go.Proofs.YtmaiicpaalbcfaaDoor
end
section
namespace Go.Proofs.YtmaiicpaalbcfaaDoor
open Go.RowKit Go.Proofs.YtmaiicpaalbcfaaDoorW.PrintWords Go.Proofs.YtmaiicpaalbcfaaDoorW.PrintLast Go.Proofs.YtmaiicpaalbcfaaDoor.P Go.Proofs.YtmaiicpaalbcfaaDoor.Bits
set_option linter.unusedVariables false
inductive Gen (R : Int → Int → Prop) : Int → Int → Prop
  | of {x y : Int} : R x y → Gen R x y
  | refl (x : Int) : Gen R x x
  | symm {x y : Int} : Gen R x y → Gen R y x
  | trans {x y z : Int} : Gen R x y → Gen R y z → Gen R x z
theorem Gen.mono {R R' : Int → Int → Prop} (h : ∀ x y, R x y → R' x y) {x y : Int} (g : Gen R x y) : Gen R' x y := by
  induction g with
  | of hr => exact .of (h _ _ hr)
  | refl x => exact .refl x
  | symm _ ih => exact .symm ih
  | trans _ _ ih1 ih2 => exact .trans ih1 ih2
theorem Gen.iff {R R' : Int → Int → Prop} (h : ∀ x y, R x y ↔ R' x y) {x y : Int} : Gen R x y ↔ Gen R' x y := ⟨Gen.mono fun x y => (h x y).1, Gen.mono fun x y => (h x y).2⟩
def cls (up : List Int) (x y : Int) : Prop := rootN up x.toNat = rootN up y.toNat
theorem Gen.sound {R : Int → Int → Prop} {n : Int} {up : List Int} (h : ∀ x y, R x y → In n x ∧ In n y ∧ cls up x y) {x y : Int} (g : Gen R x y) : x = y ∨ (In n x ∧ In n y ∧ cls up x y) := by
  induction g with
  | of hr => exact .inr (h _ _ hr)
  | refl x => exact .inl rfl
  | symm _ ih =>
    rcases ih with e | ⟨a, b, c⟩
    · exact .inl e.symm
    · exact .inr ⟨b, a, c.symm⟩
  | trans _ _ ih1 ih2 =>
    rcases ih1 with e | ⟨a, b, c⟩
    · rw [e]; exact ih2
    · rcases ih2 with e | ⟨a2, b2, c2⟩
      · rw [← e]; exact .inr ⟨a, b, c⟩
      · exact .inr ⟨a, b2, c.trans c2⟩
def Won (ev : List S42) (q : Int) (x y : Int) : Prop := ∃ e ∈ ev, e.f1.f0 = 3 ∧ e.f2 = 1 ∧ e.f4 < q ∧ x = e.f1.f1 ∧ y = e.f1.f2
def GE (ev : List S42) (q : Int) : Int → Int → Prop := Gen (Won ev q)
theorem won_add {ev : List S42} {e : S42} {q : Int} (h : e.f1.f0 = 3 → e.f2 = 1 → q ≤ e.f4) (x y : Int) : Won (ev ++ [e]) q x y ↔ Won ev q x y := by
  constructor
  · rintro ⟨e', he, h1, h2, h3, h4⟩
    rcases List.mem_append.1 he with he | he
    · exact ⟨e', he, h1, h2, h3, h4⟩
    · rw [List.mem_singleton.1 he] at h1 h2 h3
      have := h h1 h2
      omega
  · rintro ⟨e', he, h⟩
    exact ⟨e', List.mem_append.2 (.inl he), h⟩
theorem ge_add {ev : List S42} {e : S42} {q : Int} (h : e.f1.f0 = 3 → e.f2 = 1 → q ≤ e.f4) {x y : Int} : GE (ev ++ [e]) q x y ↔ GE ev q x y := Gen.iff (won_add h)
theorem ge_later {ev : List S42} {q q' : Int} (h : ∀ e ∈ ev, e.f4 < q) (h' : ∀ e ∈ ev, e.f4 < q') {x y : Int} : GE ev q x y ↔ GE ev q' x y :=
  Gen.iff fun x y => ⟨fun ⟨e, he, a, b, _, d⟩ => ⟨e, he, a, b, h' e he, d⟩, fun ⟨e, he, a, b, _, d⟩ => ⟨e, he, a, b, h e he, d⟩⟩
def Leg (n : Int) (ev : List S42) (e : S42) : Prop :=
  In n e.f1.f1 ∧ ((e.f1.f0 = 1 ∧ In n e.f2 ∧ GE ev e.f4 e.f1.f1 e.f2) ∨
    (e.f1.f0 = 2 ∧ In n e.f1.f2 ∧ ((e.f2 = 1 ∧ GE ev e.f4 e.f1.f1 e.f1.f2) ∨ (e.f2 = 0 ∧ ¬ GE ev e.f4 e.f1.f1 e.f1.f2))) ∨
    (e.f1.f0 = 3 ∧ In n e.f1.f2 ∧ ((e.f2 = 0 ∧ GE ev e.f4 e.f1.f1 e.f1.f2) ∨ (e.f2 = 1 ∧ ¬ GE ev e.f4 e.f1.f1 e.f1.f2))))
theorem Leg.add {n : Int} {ev : List S42} {e e2 : S42} (h : Leg n ev e) (h2 : e2.f1.f0 = 3 → e2.f2 = 1 → e.f4 ≤ e2.f4) : Leg n (ev ++ [e2]) e := by
  unfold Leg at *
  simp only [ge_add h2]
  exact h
structure TI (n : Int) (s : St5) (w : W5) : Prop where
  ri : RI s.up w.t
  xin : In n w.t.x
  xu : cls s.up w.t.x w.t.u
  yv : w.t.k ≠ 1 → In n w.t.y ∧ cls s.up w.t.y w.t.v
  b1 : 1 ≤ w.b ∧ w.b ≤ s.steps
  s7 : w.t.s = 7 → w.b ≤ w.pl ∧ w.pl ≤ s.steps ∧ (at_ s.up w.t.u = w.t.u → ¬ GE s.ev w.pl w.t.x w.t.y)
structure Lin (n : Nat) (prio : List Int) (s : St5) : Prop where
  cl : ∀ x y, In prio.length x → In prio.length y → (cls s.up x y ↔ GE s.ev (s.steps + 1) x y)
  time : ∀ e ∈ s.ev, 1 ≤ e.f3 ∧ e.f3 ≤ e.f4 ∧ e.f4 ≤ e.f5 ∧ e.f5 ≤ s.steps
  leg : ∀ e ∈ s.ev, Leg prio.length s.ev e
  task : ∀ i, i < n → (s.ws.getD i z5).busy = true → TI prio.length s (s.ws.getD i z5)
section
variable {n : Nat} {prio P : List Int} {s : St5} {i : Nat} {l : List S40} {t : T} {b : Int}
theorem Lin.now (hL : Lin n prio s) (h : Base n prio s) (hG : Goes5 n prio P s i l t b) : RI s.up t ∧ In prio.length t.x ∧ cls s.up t.x t.u ∧ (t.k ≠ 1 → In prio.length t.y ∧ cls s.up t.y t.v) ∧ 1 ≤ b ∧ b ≤ s.steps + 1 ∧ (t.s = 7 → b ≤ (s.ws.getD i z5).pl ∧ (s.ws.getD i z5).pl ≤ s.steps ∧ (at_ s.up t.u = t.u → ¬ GE s.ev (s.ws.getD i z5).pl t.x t.y)) := by
  have h0 := h.steps0
  rcases hG.src with ⟨h1, _, rfl, rfl⟩ | ⟨h1, o, h2, hv, rfl, rfl⟩
  · have ht := hL.task i hG.hi h1
    exact ⟨ht.ri, ht.xin, ht.xu, ht.yv, ht.b1.1, by have := ht.b1.2; omega, ht.s7⟩
  · have hk := hG.keeps
    rw [begin_yes hv] at hk ⊢
    exact ⟨ri_none (.inr (.inl rfl)), hk.fit.u0, rfl, fun hk1 => ⟨hk.fit.v0 hk1, rfl⟩, by omega, by omega, fun h => by simp at h⟩
theorem Lin.step (hL : Lin n prio s) (h : Base n prio s) (hG : Goes5 n prio P s i l t b) : Lin n prio (next5 n prio P s i l t b) := by
  obtain ⟨hri, hx, hxu, hyv, hb1, hb2, h7⟩ := hL.now h hG
  have hl : s.up.length = prio.length := h.ok.1
  have hk' : Keeps s.up.length prio t := by rw [hl]; exact hG.keeps
  have hE := step_eff h.ok hk' hri hG.live
  have hM := step_moves h.ok hk' hri
  have hop := step_op s.up prio t
  have hget := next_get h hG
  have h0 := h.steps0
  obtain ⟨up2, hup2⟩ : ∃ x, (stepL s.up prio t).1 = x := ⟨_, rfl⟩
  obtain ⟨t2, ht2⟩ : ∃ x, (stepL s.up prio t).2 = x := ⟨_, rfl⟩
  have eup : (next5 n prio P s i l t b).up = up2 := hup2
  have est : (next5 n prio P s i l t b).steps = s.steps + 1 := rfl
  have eev : (next5 n prio P s i l t b).ev = if t2.is = true then s.ev ++ [eventS i t2 b (s.steps + 1) (s.ws.getD i z5).pl] else s.ev := by rw [← ht2]; rfl
  have hsk := step_keeps h.ok hk'
  rw [hup2, ht2] at hE hM hsk
  rw [ht2] at hop
  simp only [ht2] at hget
  obtain ⟨ok1, ok2, ok3⟩ := hop
  have hlt : ∀ x, In prio.length x → x.toNat < s.up.length := fun x hx => by have := hx.1; have := hx.2; omega
  have hwas : ∀ e ∈ s.ev, e.f4 < s.steps + 1 := fun e he => by have := hL.time e he; omega
  have hwas2 : ∀ e ∈ s.ev, e.f4 < s.steps + 1 + 1 := fun e he => by have := hL.time e he; omega
  -- classes stay
  have hgo : ∀ x y, In prio.length x → In prio.length y → cls s.up x y → cls up2 x y := fun x y hx hy hc => hM.goes.same (hlt x hx) (hlt y hy) hc
  have hroots := roots_less h.ok hk' hG.live
  rw [hup2] at hroots
  -- the event, if there is one
  have hevk : (eventS i t2 b (s.steps + 1) (s.ws.getD i z5).pl).f1.f0 = 3 → (eventS i t2 b (s.steps + 1) (s.ws.getD i z5).pl).f4 = s.steps + 1 := fun hk3 => by
    have hk3 : t2.k = 3 := hk3
    show (if t2.k = 2 ∧ t2.res = 0 then (s.ws.getD i z5).pl else s.steps + 1) = s.steps + 1
    rw [if_neg (fun hh => by omega)]
  -- tasks
  have htask : ∀ j, j < n → ((next5 n prio P s i l t b).ws.getD j z5).busy = true → TI prio.length (next5 n prio P s i l t b) ((next5 n prio P s i l t b).ws.getD j z5) := by
    intro j hj hb
    have hge : ∀ q x y, q ≤ s.steps + 1 → (GE (next5 n prio P s i l t b).ev q x y ↔ GE s.ev q x y) := fun q x y hq => by
      rw [eev]
      by_cases c : t2.is = true
      · rw [if_pos c]
        exact ge_add (fun h1 h2 => by rw [hevk h1]; exact hq)
      · rw [if_neg c]
    rw [hget j] at hb ⊢
    by_cases e : j = i
    · rw [if_pos e] at hb ⊢
      have his : t2.is = false := by simpa using hb
      have hfit := hsk.2.2.fit
      rw [hl] at hfit
      refine ⟨by rw [eup]; exact hM.ri, by show In _ t2.x; rw [ok2]; exact hx, ?_, fun hk1 => ?_, ⟨hb1, by rw [est]; exact hb2⟩, fun h7' => ?_⟩
      · show cls _ t2.x t2.u
        rw [eup, ok2]
        exact hgo t.x t2.u hx hfit.u0 (hxu.trans (hE.uu his).symm)
      · have hk1 : t2.k ≠ 1 := hk1
        have hy := hyv (by rw [← ok1]; exact hk1)
        refine ⟨by show In _ t2.y; rw [ok3]; exact hy.1, ?_⟩
        show cls _ t2.y t2.v
        rw [eup, ok3]
        exact hgo t.y t2.v hy.1 (hfit.v0 hk1) (hy.2.trans (hE.vv his).symm)
      · have h7' : t2.s = 7 := h7'
        obtain ⟨g1, g2, g3, g4⟩ := hE.to7 his h7'
        have hpl : placeW t t2 (s.steps + 1) (s.ws.getD i z5).pl = s.steps + 1 := by
          unfold placeW
          rw [if_neg (by rw [his]; decide), if_pos g1, if_pos (by omega)]
        show b ≤ placeW t t2 (s.steps + 1) (s.ws.getD i z5).pl ∧ placeW t t2 (s.steps + 1) (s.ws.getD i z5).pl ≤ _ ∧ (at_ _ t2.u = t2.u → ¬ GE _ (placeW t t2 (s.steps + 1) (s.ws.getD i z5).pl) t2.x t2.y)
        rw [hpl, est, hge _ _ _ (Int.le_refl _), eup, g2, g3, ok2, ok3]
        refine ⟨hb2, Int.le_refl _, fun ha hg => g4 ha ?_⟩
        have hk2 := hfit.k7 h7'
        have hy := hyv (by rw [← ok1, hk2]; decide)
        have := (hL.cl t.x t.y hx hy.1).2 hg
        exact hxu.symm.trans (this.trans hy.2)
    · rw [if_neg e] at hb ⊢
      have ht := hL.task j hj hb
      have hkj := (h.task j hj hb).1
      refine ⟨by rw [eup]; exact ht.ri.goes (n := s.up.length) (by rw [hl]; exact hkj.fit) hM.goes, ht.xin, ?_, fun hk1 => ⟨(ht.yv hk1).1, ?_⟩, ⟨ht.b1.1, by rw [est]; have := ht.b1.2; omega⟩, fun h7' => ?_⟩
      · rw [eup]; exact hgo _ _ ht.xin hkj.fit.u0 ht.xu
      · rw [eup]; exact hgo _ _ (ht.yv hk1).1 (hkj.fit.v0 hk1) (ht.yv hk1).2
      · obtain ⟨g1, g2, g3⟩ := ht.s7 h7'
        rw [est, hge _ _ _ (by omega), eup]
        exact ⟨g1, by omega, fun ha => g3 (hroots _ (by rw [hl]; exact hkj.fit.u0) ha)⟩
  -- what an end has found
  have hfin : t2.is = true → (b ≤ (eventS i t2 b (s.steps + 1) (s.ws.getD i z5).pl).f4 ∧ (eventS i t2 b (s.steps + 1) (s.ws.getD i z5).pl).f4 ≤ s.steps + 1) ∧ Leg prio.length (s.ev ++ [eventS i t2 b (s.steps + 1) (s.ws.getD i z5).pl]) (eventS i t2 b (s.steps + 1) (s.ws.getD i z5).pl) := by
    intro his
    have hk1 := hG.keeps.fit.k0
    have hk2 := hG.keeps.fit.k1
    unfold Leg
    simp only [ge_add (ev := s.ev) (e := eventS i t2 b (s.steps + 1) (s.ws.getD i z5).pl) (q := (eventS i t2 b (s.steps + 1) (s.ws.getD i z5).pl).f4) (fun _ _ => Int.le_refl _)]
    show (b ≤ (if t2.k = 2 ∧ t2.res = 0 then (s.ws.getD i z5).pl else s.steps + 1) ∧ (if t2.k = 2 ∧ t2.res = 0 then (s.ws.getD i z5).pl else s.steps + 1) ≤ s.steps + 1) ∧ In prio.length t2.x ∧ ((t2.k = 1 ∧ In prio.length t2.res ∧ GE s.ev (if t2.k = 2 ∧ t2.res = 0 then (s.ws.getD i z5).pl else s.steps + 1) t2.x t2.res) ∨
      (t2.k = 2 ∧ In prio.length t2.y ∧ ((t2.res = 1 ∧ GE s.ev (if t2.k = 2 ∧ t2.res = 0 then (s.ws.getD i z5).pl else s.steps + 1) t2.x t2.y) ∨ (t2.res = 0 ∧ ¬ GE s.ev (if t2.k = 2 ∧ t2.res = 0 then (s.ws.getD i z5).pl else s.steps + 1) t2.x t2.y))) ∨
      (t2.k = 3 ∧ In prio.length t2.y ∧ ((t2.res = 0 ∧ GE s.ev (if t2.k = 2 ∧ t2.res = 0 then (s.ws.getD i z5).pl else s.steps + 1) t2.x t2.y) ∨ (t2.res = 1 ∧ ¬ GE s.ev (if t2.k = 2 ∧ t2.res = 0 then (s.ws.getD i z5).pl else s.steps + 1) t2.x t2.y))))
    rw [ok1, ok2, ok3]
    by_cases h8 : t.s = 8
    · obtain ⟨hres, a, b', ha, hb', hab, hra, hrb, hroot⟩ := hE.link h8 his
      have k3 : t.k = 3 := hG.keeps.fit.k8 h8
      have hy := hyv (by omega)
      rw [if_neg (fun hh => by omega)]
      refine ⟨⟨hb2, Int.le_refl _⟩, hx, .inr (.inr ⟨k3, hy.1, .inr ⟨hres, fun hg => ?_⟩⟩)⟩
      have hc := (hL.cl t.x t.y hx hy.1).2 hg
      have huv : rootN s.up t.u.toNat = rootN s.up t.v.toNat := hxu.symm.trans (hc.trans hy.2)
      rcases hab with ⟨e1, e2⟩ | ⟨e1, e2⟩
      · rw [e1, e2, Int.toNat_natCast, Int.toNat_natCast, hra] at huv
        exact hrb huv.symm
      · rw [e1, e2, Int.toNat_natCast, Int.toNat_natCast, hra] at huv
        exact hrb huv
    · rcases hE.fin his h8 with ⟨k1, hin, hro⟩ | ⟨k1, hres, hro⟩ | ⟨hs7, hres, hat⟩
      · rw [if_neg (fun hh => by omega)]
        rw [hl] at hin
        exact ⟨⟨hb2, Int.le_refl _⟩, hx, .inl ⟨k1, hin, (hL.cl _ _ hx hin).1 (hxu.trans hro.symm)⟩⟩
      · have hy := hyv k1
        have hc : GE s.ev (s.steps + 1) t.x t.y := (hL.cl _ _ hx hy.1).1 (hxu.trans (hro.trans hy.2.symm))
        by_cases k2 : t.k = 2
        · rw [if_pos k2] at hres
          rw [if_neg (fun hh => by omega)]
          exact ⟨⟨hb2, Int.le_refl _⟩, hx, .inr (.inl ⟨k2, hy.1, .inl ⟨hres, hc⟩⟩)⟩
        · rw [if_neg k2] at hres
          rw [if_neg (fun hh => k2 hh.1)]
          exact ⟨⟨hb2, Int.le_refl _⟩, hx, .inr (.inr ⟨by omega, hy.1, .inl ⟨hres, hc⟩⟩)⟩
      · have k2 : t.k = 2 := hG.keeps.fit.k7 hs7
        have hy := hyv (by omega)
        obtain ⟨g1, g2, g3⟩ := h7 hs7
        rw [if_pos ⟨k2, hres⟩]
        exact ⟨⟨g1, by omega⟩, hx, .inr (.inl ⟨k2, hy.1, .inr ⟨hres, g3 hat⟩⟩)⟩
  refine ⟨fun x y hx' hy' => ?_, fun e he => ?_, fun e he => ?_, htask⟩
  · -- the classes
    rw [eup, est, eev]
    by_cases h8 : t.s = 8 ∧ t2.is = true
    · obtain ⟨hres, a, b', ha, hb', hab, hra, hrb, hroot⟩ := hE.link h8.1 h8.2
      have k3 : t.k = 3 := hG.keeps.fit.k8 h8.1
      have hy := hyv (by omega)
      rw [if_pos h8.2]
      have hwon : Won (s.ev ++ [eventS i t2 b (s.steps + 1) (s.ws.getD i z5).pl]) (s.steps + 1 + 1) t.x t.y :=
        ⟨_, List.mem_append.2 (.inr (List.mem_singleton.2 rfl)), by show t2.k = 3; omega, hres, by rw [hevk (by show t2.k = 3; omega)]; omega, by show t.x = t2.x; rw [ok2], by show t.y = t2.y; rw [ok3]⟩
      have hold : ∀ x y, GE s.ev (s.steps + 1) x y → GE (s.ev ++ [eventS i t2 b (s.steps + 1) (s.ws.getD i z5).pl]) (s.steps + 1 + 1) x y := fun x y hg =>
        hg.mono fun x y ⟨e, he, h1, h2, h3, h4⟩ => ⟨e, List.mem_append.2 (.inl he), h1, h2, by omega, h4⟩
      have hai : In prio.length (a : Int) := ⟨by omega, by omega⟩
      have hbi : In prio.length (b' : Int) := ⟨by omega, by omega⟩
      have haim : GE (s.ev ++ [eventS i t2 b (s.steps + 1) (s.ws.getD i z5).pl]) (s.steps + 1 + 1) (a : Int) (b' : Int) := by
        rcases hab with ⟨e1, e2⟩ | ⟨e1, e2⟩
        · exact ((hold _ _ ((hL.cl _ _ hx hai).1 (by rw [← e1]; exact hxu))).symm).trans ((Gen.of hwon).trans (hold _ _ ((hL.cl _ _ hy.1 hbi).1 (by rw [← e2]; exact hy.2))))
        · exact ((hold _ _ ((hL.cl _ _ hy.1 hai).1 (by rw [← e2]; exact hy.2))).symm).trans ((Gen.symm (Gen.of hwon)).trans (hold _ _ ((hL.cl _ _ hx hbi).1 (by rw [← e1]; exact hxu))))
      constructor
      · intro hc
        have hc : rootN up2 x.toNat = rootN up2 y.toNat := hc
        rw [hroot _ (hlt x hx'), hroot _ (hlt y hy')] at hc
        by_cases c1 : rootN s.up x.toNat = a
        · by_cases c2 : rootN s.up y.toNat = a
          · exact hold _ _ ((hL.cl _ _ hx' hy').1 (c1.trans c2.symm))
          · rw [if_pos c1, if_neg c2] at hc
            have e1 : GE s.ev (s.steps + 1) x (a : Int) := (hL.cl _ _ hx' hai).1 (by show rootN _ _ = rootN _ _; rw [Int.toNat_natCast, hra]; exact c1)
            have e2 : GE s.ev (s.steps + 1) (b' : Int) y := (hL.cl _ _ hbi hy').1 (by show rootN _ _ = rootN _ _; rw [Int.toNat_natCast]; exact hc)
            exact (hold _ _ e1).trans (haim.trans (hold _ _ e2))
        · by_cases c2 : rootN s.up y.toNat = a
          · rw [if_neg c1, if_pos c2] at hc
            have e1 : GE s.ev (s.steps + 1) x (b' : Int) := (hL.cl _ _ hx' hbi).1 (by show rootN _ _ = rootN _ _; rw [Int.toNat_natCast]; exact hc)
            have e2 : GE s.ev (s.steps + 1) (a : Int) y := (hL.cl _ _ hai hy').1 (by show rootN _ _ = rootN _ _; rw [Int.toNat_natCast, hra]; exact c2.symm)
            exact (hold _ _ e1).trans (haim.symm.trans (hold _ _ e2))
          · rw [if_neg c1, if_neg c2] at hc
            exact hold _ _ ((hL.cl _ _ hx' hy').1 hc)
      · intro hg
        have hs := Gen.sound (n := prio.length) (up := up2) (fun x y ⟨e, he, h1, h2, h3, h4, h5⟩ => by
          rcases List.mem_append.1 he with he | he
          · have hle := hL.leg e he
            have hin : In prio.length e.f1.f1 ∧ In prio.length e.f1.f2 := by
              refine ⟨hle.1, ?_⟩
              rcases hle.2 with hh | hh | hh
              · omega
              · omega
              · exact hh.2.1
            have hgw : GE s.ev (s.steps + 1) e.f1.f1 e.f1.f2 := .of ⟨e, he, h1, h2, hwas e he, rfl, rfl⟩
            rw [h4, h5]
            exact ⟨hin.1, hin.2, hgo _ _ hin.1 hin.2 ((hL.cl _ _ hin.1 hin.2).2 hgw)⟩
          · rw [List.mem_singleton.1 he] at h4 h5
            have h4 : x = t2.x := h4
            have h5 : y = t2.y := h5
            rw [h4, h5, ok2, ok3]
            refine ⟨hx, hy.1, ?_⟩
            show rootN up2 _ = rootN up2 _
            have rx : rootN s.up t.x.toNat = rootN s.up t.u.toNat := hxu
            have ry : rootN s.up t.y.toNat = rootN s.up t.v.toNat := hy.2
            rw [hroot _ (hlt _ hx), hroot _ (hlt _ hy.1), rx, ry]
            rcases hab with ⟨e1, e2⟩ | ⟨e1, e2⟩
            · rw [e1, e2, Int.toNat_natCast, Int.toNat_natCast, if_pos hra, if_neg hrb]
            · rw [e1, e2, Int.toNat_natCast, Int.toNat_natCast, if_pos hra, if_neg hrb]) hg
        rcases hs with e | ⟨_, _, hc⟩
        · rw [e]; exact rfl
        · exact hc
    · have hsame := hE.same h8
      have hge : GE (if t2.is = true then s.ev ++ [eventS i t2 b (s.steps + 1) (s.ws.getD i z5).pl] else s.ev) (s.steps + 1 + 1) x y ↔ GE s.ev (s.steps + 1 + 1) x y := by
        by_cases c : t2.is = true
        · rw [if_pos c]
          refine ge_add (fun h1 h2 => ?_)
          have h1 : t2.k = 3 := h1
          have h2 : t2.res = 1 := h2
          rcases hE.fin c (fun hh => h8 ⟨hh, c⟩) with ⟨k1, _⟩ | ⟨k1, hres, _⟩ | ⟨hs7, hres, _⟩
          · omega
          · rw [if_neg (by omega)] at hres
            omega
          · omega
        · rw [if_neg c]
      rw [hge, ← ge_later hwas hwas2, ← hL.cl x y hx' hy']
      unfold cls
      rw [hsame _ (hlt x hx'), hsame _ (hlt y hy')]
  · rw [est]
    rw [eev] at he
    by_cases c : t2.is = true
    · rw [if_pos c] at he
      rcases List.mem_append.1 he with he | he
      · have := hL.time e he; omega
      · rw [List.mem_singleton.1 he]
        have hf := (hfin c).1
        exact ⟨hb1, hf.1, hf.2, Int.le_refl _⟩
    · rw [if_neg c] at he
      have := hL.time e he; omega
  · rw [eev] at he ⊢
    by_cases c : t2.is = true
    · rw [if_pos c] at he ⊢
      rcases List.mem_append.1 he with he | he
      · exact (hL.leg e he).add (fun h1 h2 => by rw [hevk h1]; have := hwas e he; omega)
      · rw [List.mem_singleton.1 he]
        exact (hfin c).2
    · rw [if_neg c] at he ⊢
      exact hL.leg e he
theorem Lin.start {S : List (List S40)} (hn : prio.length ≤ 65536) : Lin S.length prio (start5 prio S) := by
  refine ⟨fun x y hx hy => ?_, fun e he => (by cases he), fun e he => (by cases he), fun i hi hb => ?_⟩
  · have hroot : ∀ z, In prio.length z → rootN (upS prio.length) z.toNat = z.toNat := fun z hz => by
      refine root_of_fix ?_
      have hz2 : z.toNat < prio.length := by have := hz.1; have := hz.2; omega
      unfold stepUp
      refine if_neg (fun hh => hh.1 ?_)
      simp [upS, List.getD_eq_getElem?_getD, hz2]
    constructor
    · intro hc
      have hc : rootN (upS prio.length) x.toNat = rootN (upS prio.length) y.toNat := hc
      rw [hroot x hx, hroot y hy] at hc
      have : x = y := by have := hx.1; have := hy.1; omega
      rw [this]
      exact .refl _
    · intro hg
      have hs := Gen.sound (n := prio.length) (up := upS prio.length) (fun x y ⟨e, he, _⟩ => (by cases he)) hg
      rcases hs with e | ⟨_, _, hc⟩
      · rw [e]; exact rfl
      · exact hc
  · have hb : ((ws5 prio.length S).getD i z5).busy = true := hb
    rw [ws5_get] at hb
    cases hb
end
end Go.Proofs.YtmaiicpaalbcfaaDoor
end
section
namespace Go.Proofs.YtmaiicpaalbcfaaDoor
open Go.RowKit Go.Proofs.YtmaiicpaalbcfaaDoorW.PrintWords Go.Proofs.YtmaiicpaalbcfaaDoorW.PrintLast Go.Proofs.YtmaiicpaalbcfaaDoor.P Go.Proofs.YtmaiicpaalbcfaaDoor.Bits
set_option linter.unusedVariables false
def evOf (ev : List S42) (i : Nat) : List S42 := ev.filter fun e => decide (e.f0 = (i : Int))
def opOf (w : W5) : List S40 := if w.busy = true then [⟨w.t.k, w.t.x, w.t.y⟩] else []
structure Told (n : Nat) (L : List (List S40)) (s : St5) : Prop where
  seq : ∀ i, i < n → (evOf s.ev i).map (·.f1) ++ opOf (s.ws.getD i z5) ++ (s.ws.getD i z5).l = L.getD i []
  who : ∀ e ∈ s.ev, ∃ i : Nat, i < n ∧ e.f0 = (i : Int)
  ends : ∀ i, i < n → (evOf s.ev i).Pairwise fun a b => a.f5 < b.f3
  busy : ∀ i, i < n → (s.ws.getD i z5).busy = true → ∀ e ∈ evOf s.ev i, e.f5 < (s.ws.getD i z5).b
  last : ∀ e ∈ s.ev, e.f5 ≤ s.steps
section
variable {n : Nat} {prio P : List Int} {s : St5} {i : Nat} {l : List S40} {t : T} {b : Int}
theorem Told.step {L : List (List S40)} (hT : Told n L s) (h : Base n prio s) (hG : Goes5 n prio P s i l t b) : Told n L (next5 n prio P s i l t b) := by
  have hop := step_op s.up prio t
  have hget := next_get h hG
  obtain ⟨t2, ht2⟩ : ∃ x, (stepL s.up prio t).2 = x := ⟨_, rfl⟩
  have eev : (next5 n prio P s i l t b).ev = if t2.is = true then s.ev ++ [eventS i t2 b (s.steps + 1) (s.ws.getD i z5).pl] else s.ev := by rw [← ht2]; rfl
  rw [ht2] at hop
  simp only [ht2] at hget
  obtain ⟨ok1, ok2, ok3⟩ := hop
  have hi := hG.hi
  -- what the worker had
  have hwas : (evOf s.ev i).map (·.f1) ++ [(⟨t.k, t.x, t.y⟩ : S40)] ++ l = L.getD i [] := by
    have hq := hT.seq i hi
    rcases hG.src with ⟨h1, h2, h3, _⟩ | ⟨h1, o, h2, hv, h3, _⟩
    · unfold opOf at hq
      rw [if_pos h1] at hq
      rw [h2, h3]
      exact hq
    · unfold opOf at hq
      rw [h1, if_neg (by decide), h2, List.append_nil] at hq
      rw [h3, begin_yes hv, List.append_assoc]
      exact hq
  have hbe : ∀ e ∈ evOf s.ev i, e.f5 < b := fun e he => by
    rcases hG.src with ⟨h1, _, _, h4⟩ | ⟨_, o, _, _, _, h4⟩
    · rw [h4]; exact hT.busy i hi h1 e he
    · have := hT.last e (List.mem_filter.1 he).1; omega
  have hevi : ∀ j, j < n → evOf (next5 n prio P s i l t b).ev j = evOf s.ev j ++ (if t2.is = true ∧ j = i then [eventS i t2 b (s.steps + 1) (s.ws.getD i z5).pl] else []) := fun j hj => by
    rw [eev]
    unfold evOf
    by_cases c : t2.is = true
    · rw [if_pos c, List.filter_append]
      congr 1
      by_cases e : j = i
      · rw [if_pos ⟨c, e⟩, e]
        simp [eventS]
      · rw [if_neg (fun hh => e hh.2)]
        have : ¬ ((i : Int) = (j : Int)) := by omega
        simp [eventS, this]
    · rw [if_neg c, if_neg (fun hh => c hh.1), List.append_nil]
  refine ⟨fun j hj => ?_, fun e he => ?_, fun j hj => ?_, fun j hj hb e he => ?_, fun e he => ?_⟩
  · rw [hevi j hj, hget j]
    by_cases e : j = i
    · rw [if_pos e, e]
      by_cases c : t2.is = true
      · rw [if_pos ⟨c, rfl⟩, List.map_append, ← hwas]
        simp [opOf, c, eventS, ok1, ok2, ok3]
      · rw [if_neg (fun hh => c hh.1), List.append_nil, ← hwas]
        have c2 : t2.is = false := by simpa using c
        simp [opOf, c2, ok1, ok2, ok3]
    · rw [if_neg e, if_neg (fun hh => e hh.2), List.append_nil]
      exact hT.seq j hj
  · rw [eev] at he
    by_cases c : t2.is = true
    · rw [if_pos c] at he
      rcases List.mem_append.1 he with he | he
      · exact hT.who e he
      · rw [List.mem_singleton.1 he]
        exact ⟨i, hi, rfl⟩
    · rw [if_neg c] at he
      exact hT.who e he
  · rw [hevi j hj]
    by_cases c : t2.is = true ∧ j = i
    · rw [if_pos c, List.pairwise_append]
      refine ⟨hT.ends j hj, List.pairwise_singleton .., fun a ha e he => ?_⟩
      rw [List.mem_singleton.1 he]
      rw [c.2] at ha
      exact hbe a ha
    · rw [if_neg c, List.append_nil]
      exact hT.ends j hj
  · rw [hget j] at hb ⊢
    rw [hevi j hj] at he
    by_cases e' : j = i
    · rw [if_pos e'] at hb ⊢
      have c2 : t2.is = false := by simpa using hb
      rw [if_neg (fun hh => by rw [c2] at hh; exact absurd hh.1 (by decide)), List.append_nil, e'] at he
      exact hbe e he
    · rw [if_neg e'] at hb ⊢
      rw [if_neg (fun hh => e' hh.2), List.append_nil] at he
      exact hT.busy j hj hb e he
  · rw [eev] at he
    show e.f5 ≤ s.steps + 1
    by_cases c : t2.is = true
    · rw [if_pos c] at he
      rcases List.mem_append.1 he with he | he
      · have := hT.last e he; omega
      · rw [List.mem_singleton.1 he]; exact Int.le_refl _
    · rw [if_neg c] at he
      have := hT.last e he; omega
theorem Told.start {S : List (List S40)} : Told S.length (validL prio.length S) (start5 prio S) := by
  refine ⟨fun i hi => ?_, fun e he => (by cases he), fun i hi => List.Pairwise.nil, fun i hi hb => ?_, fun e he => (by cases he)⟩
  · show (evOf [] i).map (·.f1) ++ opOf ((ws5 prio.length S).getD i z5) ++ ((ws5 prio.length S).getD i z5).l = _
    rw [ws5_get, validL_get]
    simp [evOf, opOf]
  · have hb : ((ws5 prio.length S).getD i z5).busy = true := hb
    rw [ws5_get] at hb
    cases hb
theorem Told.done {L : List (List S40)} (hT : Told n L s) (h : Base n prio s) (hg : s.going = 0) (i : Nat) (hi : i < n) : (evOf s.ev i).map (·.f1) = L.getD i [] := by
  have := hT.seq i hi
  unfold opOf at this
  rw [(h.done hg i hi).1, (h.done hg i hi).2, if_neg (by decide), List.append_nil, List.append_nil] at this
  exact this
def Asked (n : Nat) (L : List (List S40)) (x y : Int) : Prop := ∃ i, i < n ∧ ∃ o ∈ L.getD i [], o.f0 = 3 ∧ x = o.f1 ∧ y = o.f2
theorem left_asked {L : List (List S40)} (hT : Told n L s) (hL : Lin n prio s) (h : Base n prio s) (hg : s.going = 0) (x y : Int) (hx : In prio.length x) (hy : In prio.length y) : cls s.up x y ↔ Gen (Asked n L) x y := by
  rw [hL.cl x y hx hy]
  constructor
  · refine Gen.mono fun x y ⟨e, he, h1, h2, h3, h4, h5⟩ => ?_
    obtain ⟨i, hi, hw⟩ := hT.who e he
    refine ⟨i, hi, e.f1, ?_, h1, h4, h5⟩
    rw [← hT.done h hg i hi]
    exact List.mem_map.2 ⟨e, List.mem_filter.2 ⟨he, by simpa using hw⟩, rfl⟩
  · intro g
    clear hx hy
    induction g with
    | of hr =>
      obtain ⟨i, hi, o, ho, h1, rfl, rfl⟩ := hr
      rw [← hT.done h hg i hi] at ho
      obtain ⟨e, he, rfl⟩ := List.mem_map.1 ho
      have he := (List.mem_filter.1 he).1
      have ht := hL.time e he
      rcases (hL.leg e he).2 with hh | hh | hh
      · omega
      · omega
      · rcases hh.2.2 with ⟨hr0, hge⟩ | ⟨hr1, _⟩
        · exact hge.mono fun x y ⟨e', he', a, b', c, d⟩ => ⟨e', he', a, b', by omega, d⟩
        · exact .of ⟨e, he, h1, hr1, by omega, rfl, rfl⟩
    | refl x => exact .refl x
    | symm _ ih => exact ih.symm
    | trans _ _ ih1 ih2 => exact ih1.trans ih2
end
theorem playL_steps {n : Nat} {prio P : List Int} : ∀ (g : Nat) (ws : List W5) (up : List Int) (going at_ last steps : Int) (ev : List S42) (r : List S42 × List Int × Int), playL n prio P g ws up going at_ last steps ev = some r → steps ≤ r.2.2 ∧ (going ≠ 0 → steps + 1 ≤ r.2.2)
  | 0, _, _, _, _, _, _, _, r, h => by rw [playL] at h; cases h
  | g + 1, ws, up, going, at_, last, steps, ev, r, h => by
    rw [playL] at h
    by_cases c0 : going = 0
    · rw [if_pos c0] at h
      obtain rfl := Option.some.inj h
      exact ⟨Int.le_refl _, fun hh => absurd c0 hh⟩
    · rw [if_neg c0] at h
      have hq : 0 ≤ whoS P at_ last (Bits.idx (enG n going)) ∧ whoS P at_ last (Bits.idx (enG n going)) < n ∧ 0 ≤ steps ∧ steps < 1000000000 ∧ ev.length < 1000000 := Decidable.byContradiction fun c => by rw [if_neg c] at h; cases h
      rw [if_pos hq] at h
      cases hgo : goesOn prio.length (steps + 1) (ws.getD (whoS P at_ last (Bits.idx (enG n going))).toNat z5) with
      | none => rw [hgo] at h; cases h
      | some x =>
        obtain ⟨l, t, b⟩ := x
        rw [hgo] at h
        dsimp only at h
        have hst : Steps up prio t := Decidable.byContradiction fun c => by rw [if_neg c] at h; cases h
        rw [if_pos hst] at h
        by_cases c1 : (stepL up prio t).2.is = true
        · rw [if_pos c1] at h
          have := (playL_steps g _ _ _ _ _ _ _ r h).1
          exact ⟨by omega, fun _ => this⟩
        · rw [if_neg c1] at h
          have := (playL_steps g _ _ _ _ _ _ _ r h).1
          exact ⟨by omega, fun _ => this⟩
theorem getD_append_left' (P Q : List Int) (i : Nat) (h : i < P.length) : (P ++ Q).getD i 0 = P.getD i 0 := by
  simp only [List.getD_eq_getElem?_getD, List.getElem?_append_left h]
theorem picks_more {n : Nat} {prio P Q : List Int} : ∀ (g : Nat) (ws : List W5) (up : List Int) (going at_ last steps : Int) (ev : List S42) (r : List S42 × List Int × Int), 0 ≤ at_ → at_ ≤ steps → r.2.2 ≤ (P.length : Int) → playL n prio P g ws up going at_ last steps ev = some r → playL n prio (P ++ Q) g ws up going at_ last steps ev = some r
  | 0, _, _, _, _, _, _, _, r, _, _, _, h => by rw [playL] at h; cases h
  | g + 1, ws, up, going, at_, last, steps, ev, r, ha, has, hr, h => by
    have hs := playL_steps _ _ _ _ _ _ _ _ _ h
    rw [playL] at h ⊢
    by_cases c0 : going = 0
    · rw [if_pos c0] at h ⊢
      exact h
    · rw [if_neg c0] at h ⊢
      have hlt : at_ < (P.length : Int) := by have := hs.2 c0; omega
      have hlt2 : at_ < ((P ++ Q).length : Int) := by rw [List.length_append]; omega
      have e1 : ∀ l, placeS (P ++ Q) at_ last l = placeS P at_ last l := fun l => by
        unfold placeS
        rw [if_pos (show 0 ≤ at_ ∧ at_ < (P.length : Int) from ⟨ha, hlt⟩), if_pos (show 0 ≤ at_ ∧ at_ < ((P ++ Q).length : Int) from ⟨ha, hlt2⟩)]
        unfold rd
        rw [getD_append_left' P Q _ (by omega)]
      have e2 : ∀ l, whoS (P ++ Q) at_ last l = whoS P at_ last l := fun l => by unfold whoS; rw [e1]
      have e3 : ∀ l, atS (P ++ Q) at_ l = atS P at_ l := fun l => by unfold atS; rw [if_pos (c := 0 ≤ at_ ∧ at_ < (P.length : Int)) ⟨ha, hlt⟩, if_pos (c := 0 ≤ at_ ∧ at_ < ((P ++ Q).length : Int)) ⟨ha, hlt2⟩]
      have e4 : ∀ l, lastS (P ++ Q) at_ last l = lastS P at_ last l := fun l => by unfold lastS; rw [e2]
      have e5 : ∀ l, 0 ≤ atS P at_ l ∧ atS P at_ l ≤ steps + 1 := fun l => by
        unfold atS
        split
        · omega
        · split <;> omega
      rw [e2, e3, e4]
      have hq : 0 ≤ whoS P at_ last (Bits.idx (enG n going)) ∧ whoS P at_ last (Bits.idx (enG n going)) < n ∧ 0 ≤ steps ∧ steps < 1000000000 ∧ ev.length < 1000000 := Decidable.byContradiction fun c => by rw [if_neg c] at h; cases h
      rw [if_pos hq] at h ⊢
      cases hgo : goesOn prio.length (steps + 1) (ws.getD (whoS P at_ last (Bits.idx (enG n going))).toNat z5) with
      | none => rw [hgo] at h; cases h
      | some x =>
        obtain ⟨l, t, b⟩ := x
        rw [hgo] at h
        dsimp only at h ⊢
        have hst : Steps up prio t := Decidable.byContradiction fun c => by rw [if_neg c] at h; cases h
        rw [if_pos hst] at h ⊢
        by_cases c1 : (stepL up prio t).2.is = true
        · rw [if_pos c1] at h ⊢
          exact picks_more g _ _ _ _ _ _ _ r (e5 _).1 (e5 _).2 hr h
        · rw [if_neg c1] at h ⊢
          exact picks_more g _ _ _ _ _ _ _ r (e5 _).1 (e5 _).2 hr h
end Go.Proofs.YtmaiicpaalbcfaaDoor
end
section
namespace Go.Proofs.YtmaiicpaalbcfaaDoor.Pure
open Go.RowKit Go.Proofs.YtmaiicpaalbcfaaDoor.P Go.Proofs.YtmaiicpaalbcfaaDoorW.PrintWords Go.Proofs.YtmaiicpaalbcfaaDoorW.PrintLast Go.Proofs.YtmaiicpaalbcfaaDoor
set_option linter.unusedVariables false
theorem small_cap' (t n : Nat) (ht : t ≤ 64) (hn : n ≤ 16) : 14 * n * t < 1000000 := by
  have : 14 * n * t ≤ 14 * 16 * 64 := Nat.mul_le_mul (by omega) ht
  generalize 14 * n * t = q at *
  omega
structure Run (n : Nat) (p : List Int) (S : List (List S40)) (s : St5) : Prop where
  base : Base S.length p s
  cnt : Cnt S.length (total S) s
  told : Told S.length S s
  lin : Lin S.length p s
  done : s.going = 0
  steps : s.steps < 1000000
theorem run_ex {n : Nat} {p : List Int} {S : List (List S40)} (hp : p.length = n) (hn : n ≤ 16) (hS : ScrOk n S) (P : List Int) (hP : P.length ≤ 1000000) : ∃ s, playF p S P = some (s.ev, s.up, s.steps) ∧ Run n p S s := by
  have hf := hS.few
  have h8 := hS.len
  have hv : validL p.length S = S := by rw [hp]; exact hS.valid
  have hcap : 14 * p.length * total S < 1000000 := by rw [hp]; exact small_cap' _ _ hf hn
  obtain ⟨s', h1, hB, ⟨hC, hT, hL⟩, hg, hst⟩ := play_whole (prio := p) (P := P) (S := S) (by omega) (by omega) (by omega) hcap hP (fun s => Cnt S.length (total S) s ∧ Told S.length S s ∧ Lin S.length p s)
    ⟨Cnt.start hv, by have := Told.start (prio := p) (S := S); rw [hv] at this; exact this, Lin.start (by omega)⟩ (fun s i l t b hb hc hG => ⟨hc.1.step hb hG, hc.2.1.step hb hG, hc.2.2.step hb hG⟩)
  exact ⟨s', h1, hB, hC, hT, hL, hg, by omega⟩
theorem roots_eq {n : Nat} {p : List Int} {S : List (List S40)} {s s2 : St5} (hp : p.length = n) (h : Run n p S s) (h2 : Run n p S s2) (i j : Nat) (hi : i < n) (hj : j < n) : (((rootN s.up i : Int) == (rootN s.up j : Int)) != ((rootN s2.up i : Int) == (rootN s2.up j : Int))) = false := by
  have a := left_asked h.told h.lin h.base h.done (i : Int) (j : Int) ⟨by omega, by omega⟩ ⟨by omega, by omega⟩
  have b := left_asked h2.told h2.lin h2.base h2.done (i : Int) (j : Int) ⟨by omega, by omega⟩ ⟨by omega, by omega⟩
  unfold cls at a b
  rw [Int.toNat_natCast, Int.toNat_natCast] at a b
  have e : rootN s.up i = rootN s.up j ↔ rootN s2.up i = rootN s2.up j := a.trans b.symm
  by_cases c : rootN s.up i = rootN s.up j
  · have c2 := e.1 c
    rw [c, c2]
    simp
  · have c2 : ¬ rootN s2.up i = rootN s2.up j := fun h => c (e.2 h)
    have c3 : ¬ ((rootN s.up i : Int) = (rootN s.up j : Int)) := fun h => c (Int.ofNat.inj h)
    have c4 : ¬ ((rootN s2.up i : Int) = (rootN s2.up j : Int)) := fun h => c2 (Int.ofNat.inj h)
    rw [beq_eq_false_iff_ne.2 c3, beq_eq_false_iff_ne.2 c4]
    rfl
theorem picks_l1 {n : Nat} {p a b : List Int} {S : List (List S40)} {s s2 : St5} (hp : p.length = n) (hn : n ≤ 16) (h : Run n p S s) (h2 : Run n p S s2) (i : Nat) (hi : i < n)
    (hnext : Ev (fun k => warplaw5_PlayPicks.l0 k a b (n : Int) p S s.ev s.up s.steps s2.up ((i + 1 : Nat) : Int)) true) : ∀ d j : Nat, j + d = i →
    Ev (fun k => warplaw5_PlayPicks.l1 k a b (n : Int) p S s.ev s.up s.steps s2.up (i : Int) (j : Int)) true
  | 0, j, hj => by
    refine Ev.step (fun k => ?_) hnext
    rw [warplaw5_PlayPicks.l1, if_neg (by omega), wr64 (by omega) (by omega)]
    rfl
  | d + 1, j, hj => by
    have ih := picks_l1 hp hn h h2 i hi hnext d (j + 1) (by omega)
    have l1 : s.up.length = n := by rw [h.base.ok.1, hp]
    have l2 : s2.up.length = n := by rw [h2.base.ok.1, hp]
    refine Ev.step (f := fun k => (warpref1_Root.f k s.up (i : Int)).bind fun t337 => ((warpref1_Root.f k s.up (j : Int)).bind fun t338 => ((warpref1_Root.f k s2.up (i : Int)).bind fun t339 => ((warpref1_Root.f k s2.up (j : Int)).bind fun t340 => (if ((t337 == t338) != (t339 == t340)) = true then (some false) else (warplaw5_PlayPicks.l1 k a b (n : Int) p S s.ev s.up s.steps s2.up (i : Int) (wrap64 ((j : Int) + 1)))))))) (fun k => by rw [warplaw5_PlayPicks.l1, if_pos (by omega)]) ?_
    refine Ev.bind (root_ev h.base.ok i (by omega)) (Ev.bind (root_ev h.base.ok j (by omega)) (Ev.bind (root_ev h2.base.ok i (by omega)) (Ev.bind (root_ev h2.base.ok j (by omega)) ?_)))
    refine Ev.congr (fun k => ?_) ih
    rw [roots_eq hp h h2 i j (by omega) (by omega), if_neg (by decide), wr64 (by omega) (by omega)]
    rfl
theorem picks_l0 {n : Nat} {p a b : List Int} {S : List (List S40)} {s s2 : St5} (hp : p.length = n) (hn : n ≤ 16) (hS : ScrOk n S) (ha : a.length ≤ 300) (hb : b.length ≤ 300) (hpa : playF p S a = some (s.ev, s.up, s.steps)) (h : Run n p S s) (h2 : Run n p S s2) : ∀ d i : Nat, i + d = n →
    Ev (fun k => warplaw5_PlayPicks.l0 k a b (n : Int) p S s.ev s.up s.steps s2.up (i : Int)) true
  | 0, i, hi => by
    by_cases c : (a.length : Int) < s.steps
    · exact Ev.step (fun k => by rw [warplaw5_PlayPicks.l0, if_neg (by omega), if_pos c]) (Ev.bind awake5 (Ev.now _))
    · have hmore : playF p S (a ++ b) = some (s.ev, s.up, s.steps) := by
        have hf := hS.few
        have h8 := hS.len
        rw [playF_run (by omega) (by omega) (by omega) (by omega)] at hpa
        rw [playF_run (by omega) (by omega) (by omega) (by rw [List.length_append]; omega)]
        exact picks_more _ _ _ _ _ _ _ _ _ (Int.le_refl _) (Int.le_refl _) (by show s.steps ≤ _; omega) hpa
      have hel : s.ev.length ≤ 1000000 := by have := h.base.evs; have := h.steps; omega
      have hul : s.up.length ≤ 1000000 := by rw [h.base.ok.1, hp]; omega
      refine Ev.step (f := fun k => (warpref1_SameEvents.f k s.ev s.ev).bind fun t358 => (if t358 = true then ((warpref1_Ints.f k s.up s.up).bind fun t359 => (if t359 = true then (if s.steps = s.steps then ((warplaw5_awake.f k).bind fun t360 => (some t360)) else (some false)) else (some false))) else (some false))) (fun k => ?_) ?_
      · rw [warplaw5_PlayPicks.l0, if_neg (by omega), if_neg c, Option.bind_some, if_pos (by simp; omega), Option.bind_some, if_pos (by simp; omega), List.nil_append]
        unfold play_Play.f
        rw [hmore, Option.bind_some]
      · refine Ev.bind (same_ev s.ev hel) ?_
        refine Ev.congr (fun k => if_pos rfl) ?_
        refine Ev.bind (ints_same s.up hul) ?_
        refine Ev.congr (fun k => if_pos rfl) ?_
        refine Ev.congr (fun k => if_pos rfl) ?_
        exact Ev.bind awake5 (Ev.now _)
  | d + 1, i, hi => by
    have ih := picks_l0 hp hn hS ha hb hpa h h2 d (i + 1) (by omega)
    exact Ev.step (fun k => by rw [warplaw5_PlayPicks.l0, if_pos (by omega)]; rfl) (picks_l1 hp hn h h2 i (by omega) ih i 0 (by omega))
theorem picks_j0 (l0 : List Int) (l1 : List (List Int)) (a b : List Int) (hl1 : U8s l1) (ha : a.length ≤ 300) (hb : b.length ≤ 300) : Ev (fun k => warplaw5_PlayPicks.j0 k l0 l1 a b (1 + ((l0.length : Int) % 16)) false) true := by
  have hn : (1 + ((l0.length : Int) % 16)) = ((1 + l0.length % 16 : Nat) : Int) := by omega
  rw [hn]
  have hn16 : 1 + l0.length % 16 ≤ 16 := by omega
  have hn0 : 0 < 1 + l0.length % 16 := by omega
  generalize 1 + l0.length % 16 = n at *
  obtain ⟨S, hS, hSe⟩ := scripts_ev l1 n hl1 hn0 (by omega)
  obtain ⟨p, hp, hpe⟩ := prio_ev l0 n (by omega)
  obtain ⟨s, h1, hR⟩ := run_ex hp hn16 hS a (by omega)
  obtain ⟨s2, h2, hR2⟩ := run_ex hp hn16 hS b (by omega)
  have e1 : (s.up.length : Int) = (n : Int) := by rw [hR.base.ok.1, hp]
  have e2 : (s2.up.length : Int) = (n : Int) := by rw [hR2.base.ok.1, hp]
  refine Ev.step (f := fun k => (warplaw4_Prio.f k l0 (n : Int)).bind fun t317 => ((warplaw5_Scripts.f k l1 (n : Int)).bind fun t320 => ((play_Play.f t317 t320 a).bind fun bt323 => ((play_Play.f t317 t320 b).bind fun bt330 => (if (bt323.2.1.length : Int) = (n : Int) then (warplaw5_PlayPicks.j1 k a b (n : Int) t317 t320 bt323.1 bt323.2.1 bt323.2.2 bt330.2.1 ((bt330.2.1.length : Int) != (n : Int))) else (warplaw5_PlayPicks.j1 k a b (n : Int) t317 t320 bt323.1 bt323.2.1 bt323.2.2 bt330.2.1 true)))))) (fun k => by rw [warplaw5_PlayPicks.j0, if_neg (by decide)]) ?_
  refine Ev.bind hpe (Ev.bind hSe ?_)
  unfold play_Play.f
  rw [h1, h2]
  refine Ev.congr (fun k => by rw [Option.bind_some, Option.bind_some]) ?_
  refine Ev.congr (fun k => if_pos e1) ?_
  have e3 : ((s2.up.length : Int) != (n : Int)) = false := by rw [e2]; simp
  refine Ev.congr (fun k => by rw [e3]) ?_
  exact Ev.step (fun k => by rw [warplaw5_PlayPicks.j1, if_neg (by decide)]; rfl) (picks_l0 hp hn16 hS ha hb h1 hR hR2 n 0 (by omega))
theorem PlayPicks : warplaw5_PlayPicks.Pure := by
  intro l0 l1 l2 l3 g0 g1 g2 g3
  refine Ev.rounds ?_
  have stop : Ev (fun k => warplaw5_PlayPicks.j0 k l0 l1 l2 l3 (1 + ((l0.length : Int) % 16)) true) true := Ev.step (fun k => by rw [warplaw5_PlayPicks.j0, if_pos rfl]) (Ev.bind awake5 (Ev.now _))
  by_cases c : (l2.length : Int) > 300
  · exact Ev.congr (fun k => by rw [warplaw5_PlayPicks.f, if_pos c]) stop
  · by_cases c2 : (l3.length : Int) > 300
    · exact Ev.congr (fun k => by rw [warplaw5_PlayPicks.f, if_neg c, decide_eq_true c2]) stop
    · exact Ev.congr (fun k => by rw [warplaw5_PlayPicks.f, if_neg c, decide_eq_false c2]) (picks_j0 l0 l1 l2 l3 (fun x hx n hn => u8_rng ((g1.2 x hx).2 n hn)) (by omega) (by omega))
end Go.Proofs.YtmaiicpaalbcfaaDoor.Pure
end
section
-- PRINTED BY print.sh 35421559b90ae4d0a3588c463048766b98c2df88dd9212a6774a882060cdf62d: not written by this session
-- PRINTED WORDS (module Derived/Print/Sized.lean): go-gate-2's, for the rows of laws over slices: an AI agent of Go's test side, Tue Nov 17 2026; no person has read it. Lean checks it.

end
section
namespace Go.Proofs.YtmaiicpaalbcfaaDoor
open Go.ChangeShapes Go.WideShapes Go.ChangeAt Go.RowKit Go.Proofs.YtmaiicpaalbcfaaDoorW.PrintWords
def Opens (P : Program) (w : World) (t : TypeId) {α : Type} (d : Kd α) (G : α → Prop) : Prop :=
  ∀ {H : Type} (enc : TypeId × Value → H) (base : Nat) (spare : Nat → Bool) (held : Bool) (fuel : Nat) (cs : List Value) (x : DataW H × List MemPlace), DataW.trod enc P w base spare held fuel t cs = some x → ∃ a : α, d.K w a cs ∧ G a
section
variable {P : Program} {w : World} {t e : TypeId}
theorem opens_int {k : IntKind} (ht : P.underlying t = some (.int k)) : Opens P w t (Kd.int k) (fun n => (Lit.int k n).wf = true) := by
  intro H enc base spare held fuel cs x h
  obtain ⟨n, rfl, _, hw⟩ := DataW.trod_int ht h
  exact ⟨n, rfl, hw⟩
theorem addr_add (a : Addr) (x y : Nat) : a.add (x + y) = (a.add x).add y := by
  unfold Addr.add
  by_cases hx : x = 0
  · subst hx; simp
  · by_cases hy : y = 0
    · subst hy; simp [hx]
    · simp [hx, hy, Nat.add_assoc]
theorem list_of {α : Type} {R : Nat → α → Prop} : ∀ n : Nat, (∀ i, i < n → ∃ a, R i a) → ∃ l : List α, l.length = n ∧ ∀ (i : Nat) (a : α), l[i]? = some a → R i a
  | 0, _ => ⟨[], rfl, fun i a h => by simp at h⟩
  | n + 1, h => by
    obtain ⟨l, hl, hr⟩ := list_of n (fun i hi => h i (by omega))
    obtain ⟨a, ha⟩ := h n (by omega)
    refine ⟨l ++ [a], by simp [hl], fun i b hb => ?_⟩
    rcases Nat.lt_or_ge i n with hi | hi
    · rw [List.getElem?_append_left (by omega)] at hb
      exact hr i b hb
    · rw [List.getElem?_append_right (by omega), hl] at hb
      obtain rfl : i = n := by
        have := (List.getElem?_eq_some_iff.1 hb).1
        simp at this
        omega
      simp at hb
      subst hb
      exact ha
theorem opens_slice {α : Type} {d : Kd α} {G : α → Prop} (ht : P.underlying t = some (.slice e)) (hc : P.cellsOf e = d.sz) (ho : Opens P w e d G) : Opens P w t (Kd.slice e d) (fun l => l.length ≤ maxLen ∧ ∀ x ∈ l, G x) := by
  intro H enc base spare held fuel cs x h
  rcases DataW.trod_slice ht h with ⟨rfl, _⟩ | ⟨a, len, cap, elems, rest, n, _, rfl, _, _, hl, hm, hlen, hel, _⟩
  · exact ⟨[], ⟨none, 0, rfl, Nat.le_refl _, rfl, by simp, fun hn => by simp at hn⟩, by simp, fun x hx => by simp at hx⟩
  · obtain ⟨l, hll, hr⟩ := list_of (R := fun i a' => ∃ c : List Value, c.length = d.sz ∧ d.K w a' c ∧ (∀ j u, c[j]? = some u → w.cell? (a.add (i * d.sz + j)) = some u) ∧ G a') len (fun i hi => by
      have h1 := hel i hi
      rw [List.getElem?_eq_getElem (by omega)] at h1
      obtain ⟨c, hcs, hy⟩ := Option.bind_eq_some_iff.1 h1
      obtain ⟨a', hk, hg⟩ := ho enc base spare held n c _ hy
      obtain ⟨_, hcl, hcell⟩ := World.cells?_some hcs
      rw [hc] at hcl hcell
      refine ⟨a', c, hcl, hk, fun j u hu => ?_, hg⟩
      have hj : j < d.sz := by rw [← hcl]; exact (List.getElem?_eq_some_iff.1 hu).1
      have h3 := hcell j hj
      rw [hu] at h3
      rw [← h3, addr_add])
    refine ⟨l, ⟨some a, cap, by rw [hll], by omega, rfl, by unfold maxLen at hm; omega, fun _ => ⟨a, rfl, fun j p hp => ?_⟩⟩, by omega, fun x hx => ?_⟩
    · obtain ⟨c, h1, h2, h3, _⟩ := hr j p hp
      exact ⟨c, h1, h2, h3⟩
    · obtain ⟨i, hi⟩ := List.getElem?_of_mem hx
      obtain ⟨_, _, _, _, hg⟩ := hr i x hi
      exact hg
theorem opens_list {α : Type} {d : Kd α} {G : List α → Prop} {r : Reach} {b0 base : Nat} {spare : Nat → Bool} {held : Bool} {v : Value} {H : Type} {enc : TypeId × Value → H} {dd : DataW H} {p : List MemPlace} (ht : P.underlying t = some (.slice e)) (ho : Opens P w t (Kd.slice e d) G) (hv : Value.okWide P w r b0 t v) (h : DataW.Trod enc P w base spare held t v dd p) :
    ∃ (l : List α) (A : Option Addr) (c : Nat), v = .slice A l.length c ∧ l.length ≤ c ∧ d.C w A l.length l ∧ G l := by
  obtain ⟨a, len, cap, rfl⟩ := okWide_slice ht hv
  obtain ⟨fuel, hf⟩ := h
  obtain ⟨l, ⟨A, c, e1, e2, e3⟩, hg⟩ := ho enc base spare held fuel _ _ hf
  simp only [Value.cells, List.cons.injEq, and_true] at e1
  exact ⟨l, A, c, e1, e2, e3, hg⟩
end
end Go.Proofs.YtmaiicpaalbcfaaDoor
namespace Go.Proofs.YtmaiicpaalbcfaaDoor
open Go.ChangeShapes Go.WideShapes Go.RowKit Go.Proofs.YtmaiicpaalbcfaaDoorW.PrintWords
section
variable {P : Program} {w : World} {t e : TypeId}
end
end Go.Proofs.YtmaiicpaalbcfaaDoor
end
section
namespace Go.Proofs.YtmaiicpaalbcfaaDoor
open Go.ChangeShapes Go.WideShapes Go.RowKit
theorem tab_global : Tryd.prog.globalNamed "math/bits.deBruijn64tab" = some 0 := by kernel_rfl
theorem tab_type : (Tryd.prog.globals[0]?).map (·.type) = some 105 := by kernel_rfl
theorem tab_cell : Tryd.prog.cellsOf 5 = 1 := by kernel_rfl
def tabCells : Array Value := (Lib.deBruijn64tab.map fun (n : Nat) => Value.int .u8 (n : Int)).toArray
theorem laid_eq {H : Type} : (Rows.laid_math_bits_deBruijn64tab : DataW H) = .agg (Lib.deBruijn64tab.map fun (n : Nat) => .lit (.int .u8 (n : Int))) := by rfl
theorem tab_of_laid {W : World} (h : laidMet Tryd.prog [("math/bits.deBruijn64tab", Rows.laid_math_bits_deBruijn64tab)] W) : Tab W := by
  obtain ⟨ps, ⟨g, t, cs, fuel, p, q, hg, ht, hvar, hd, _, _⟩, _⟩ := h
  obtain rfl := Option.some.inj (tab_global.symm.trans hg)
  obtain rfl := Option.some.inj (tab_type.symm.trans ht)
  obtain ⟨xs, m, _, hx, _, hl, hel⟩ := DataW.trod_array Tryd.underlying105 hd
  simp only [Prod.mk.injEq, laid_eq, DataW.agg.injEq] at hx
  intro j hj
  have hj64 : j < 64 := hj
  have h1 := hel j hj64
  rw [List.getElem?_eq_getElem (by omega), tab_cell, Nat.mul_one] at h1
  obtain ⟨n, h2, h3, _⟩ := DataW.trod_int Tryd.underlying5 h1
  have h4 : (xs.map (·.1))[j]? = some (.lit (.int .u8 n)) := by rw [List.getElem?_map, List.getElem?_eq_getElem (by omega), h3]; rfl
  rw [← hx.1, List.getElem?_map, List.getElem?_eq_getElem hj] at h4
  simp only [Option.map_some, Option.some.injEq, DataW.lit.injEq, Lit.int.injEq, true_and] at h4
  have h5 : cs[j]? = some (Value.int .u8 n) := by
    have h6 := congrArg List.head? h2
    rw [List.head?_take, List.head?_drop] at h6
    simpa using h6
  have h7 := World.var?_cell hg hvar j
  rw [h7, h5, ← h4, List.getD_eq_getElem?_getD, List.getElem?_eq_getElem hj]
  rfl
noncomputable def laidWorld (os : Os) : World :=
  { World.holding Tryd.prog os ⟨#[], #[], []⟩ with heap := (World.holding Tryd.prog os ⟨#[], #[], []⟩).heap.modify 0 fun
      | .cells _ t frozen => .cells tabCells t frozen
      | o => o }
theorem laidWorld_row (os : Os) (args : Array Value) : ((laidWorld os).forCall (fun _ _ => 0) ⟨#[], args, []⟩).memory.heap[0]? = some (.cells tabCells 105 (0, 0)) := by kernel_rfl
theorem tabCells_int : ∀ v ∈ tabCells.toList, ∃ n, v = .int .u8 n := by
  intro v hv
  simp only [tabCells, List.mem_map] at hv
  obtain ⟨n, _, rfl⟩ := hv
  exact ⟨_, rfl⟩
set_option maxRecDepth 100000 in
theorem laidWorld_met (os : Os) (args : Array Value) : laidMet Tryd.prog [("math/bits.deBruijn64tab", Rows.laid_math_bits_deBruijn64tab)] ((laidWorld os).forCall (fun _ _ => 0) ⟨#[], args, []⟩).memory := by
  refine ⟨_, ⟨0, 105, tabCells, 8, [], [], tab_global, tab_type, by kernel_rfl, by kernel_rfl, rfl, rfl⟩, by decide +kernel, fun b off h => ?_⟩
  have hb : b = 0 := by
    simp only [List.append_nil, MemPlace.row, List.mem_map] at h
    obtain ⟨i, _, hi⟩ := h
    injection hi with h1 h2
    exact h1.symm
  subst hb
  refine ⟨⟨_, _, laidWorld_row os args⟩, fun u v hc => ?_⟩
  simp only [World.cell?, laidWorld_row os args] at hc
  have hm : (Value.iface u v) ∈ tabCells.toList := by
    have := List.mem_of_getElem? (l := tabCells.toList) (i := off) (a := .iface u v) (by simpa using hc)
    exact this
  obtain ⟨n, hn⟩ := tabCells_int _ hm
  cases hn
end Go.Proofs.YtmaiicpaalbcfaaDoor
end
