/-
The proofs that YtmaiicpaalbcfaaDoorLawPlayEnds needs, out of the texts of this seat; conditions: those named in each theorem.
-/
import Derived.Test.YtmaiicpaalbcfaaDoorEnds3
import Derived.Laws.BitsAllLaws
import Derived.SizedLaws
import Derived.ChangeSlices
import Derived.Test.YtmaiicpaalbcfaaDoorRows
import Derived.WalkKit
import Derived.ProofKit
import Derived.OpenShut
import Derived.ShutString
import Derived.ChangeOld
import Derived.Below
import Derived.ChangeSame
import Derived.ChangeVars
import Derived.JoinedOf
import Derived.RowKitTokens
import Derived.LaidLaws
import Derived.LaidHandle
import Derived.Stop.Joined
section
namespace Go.Proofs.YtmaiicpaalbcfaaDoor.P
open Go.RowKit Go.Proofs.YtmaiicpaalbcfaaDoorW.PrintWords Go.Proofs.YtmaiicpaalbcfaaDoorW.PrintLast Go.Proofs.YtmaiicpaalbcfaaDoorW.PrintMore
attribute [local go_sem] max2_int min2_int max_two min_two max_three min_three max_four min_four   -- for this text's walks alone
set_option linter.unusedVariables false
set_option linter.unusedSimpArgs false
def warplaw4_Prio.l0 : Nat → List Int → Int → List Int → Int → Option (List Int)
 | 0, _, _, _, _ => none
 | k + 1, x0, x1, x5, x6 => if x6 < x1 then (if (x0.length : Int) > 0 then (if (x0.length : Int) = 0 then (none) else (if 0 ≤ (Int.tmod x6 (x0.length : Int)) then (if (Int.tmod x6 (x0.length : Int)) < (x0.length : Int) then (if 0 ≤ x6 then (if x6 < (x5.length : Int) then (warplaw4_Prio.l0 k x0 x1 (x5.set (x6 : Int).toNat (Int.tmod (wrap64 (rd x0 (Int.tmod x6 (x0.length : Int)))) 5)) (wrap64 (x6 + 1))) else (none)) else (none)) else (none)) else (none))) else (some x5)) else (some x5)
def warplaw4_Prio.f (k : Nat) (l0 : List Int) (a1 : Int) : Option (List Int) := if 0 ≤ a1 then (if (a1 : Int).toNat ≤ 35184372088832 then (warplaw4_Prio.l0 k l0 a1 (List.replicate (a1 : Int).toNat 0) 0) else (none)) else (none)
set_option maxHeartbeats 8000000 in
set_option maxRecDepth 100000 in
theorem warplaw4_Prio.calls (k : Nat) (A0 : Option Addr) (c0 : Nat) (l0 : List Int) (a1 : Int) (r : List Int) (w : World) (hr0 : Kd.C (Kd.int .u8) w A0 l0.length l0) (hc0 : l0.length ≤ c0) (h : warplaw4_Prio.f k l0 a1 = some r) :
 Calls Tryd.prog 15 #[.slice A0 l0.length c0, .int .i64 a1] w fun e w' => ∃ v0_ : Value, e = .returned (v0_) ∧ Kd.R (Kd.int .i64) 3 w' w.heap.size (fun _ => True) v0_ r ∧ Below w.heap.size w w' := by
 have HR0 := Aside0.mk hr0
 have HC0 := Aside0.mk hc0
 clear hr0 hc0
 have HB := Aside0.mk (Below.refl w.heap.size w)
 have H : (if 0 ≤ a1 then (if (a1 : Int).toNat ≤ 35184372088832 then (warplaw4_Prio.l0 k l0 a1 (List.replicate (a1 : Int).toNat 0) 0) else (none)) else (none)) = some r := h
 clear h
 by_cases c3 : 0 ≤ a1
 ·
  rw [if_pos c3] at H
  have c3b0 := eq_true c3
  have c3b1 : decide (0 ≤ a1) = true := decide_eq_true c3
  clear c3
  by_cases c4 : (a1 : Int).toNat ≤ 35184372088832
  ·
   rw [if_pos c4] at H
   have c4b0 := eq_true c4
   have c4b1 : decide ((a1 : Int).toNat ≤ 35184372088832) = true := decide_eq_true c4
   clear c4
   obtain ⟨y155, hy155⟩ : ∃ y_ : List Int, y_ = (List.replicate (a1 : Int).toNat 0) := ⟨_, rfl⟩
   replace H : (warplaw4_Prio.l0 k l0 a1 y155 0) = some r := by first | (rw [hy155]; with_reducible exact H) | (have H2_ := (Option.bind_some _ _).symm.trans H; rw [hy155]; with_reducible exact H2_) | (have H2_ := (Option.bind_some _ _).symm.trans H; with_reducible exact H2_) | with_reducible exact H | (rw [hy155]; exact H) | exact H
   have Ny155 := Aside0.mk hy155
   clear hy155
   have H' := Aside0.mk H
   clear H
   go_enter Tryd.func15, Tryd.ntmps15
   go_wp2_with (first | ((with_reducible refine gate_dst (N := 8) rfl ?_); (try (refine gate_guard (by rfl) ?_; dsimp only)); refine Kd.R_make (Kd.int .i64) _ 3 rfl (N := 8) rfl 22 _ _ rfl a1 rfl rfl Tryd.underlying22 (.int .i64 0) 8 info3 rfl (by decide) (by omega) 0 (ok := fun _ => True) (okp := fun _ => True) rfl (fun _ hk => hk) trivial (of_decide_eq_true (by first | (with_reducible assumption) | assumption)) (Nat.le_trans (Nat.mul_le_mul_right _ (of_decide_eq_true (by first | (with_reducible assumption) | assumption) : a1.toNat ≤ 35184372088832)) (by omega)) (Below.refl _ _) (Nat.le_refl _) ?_; intro v156 w5 ho6 hb hg_ hnew_; clear hg_ hnew_; (first | rw [← Ny155.out] at ho6 | (simp only [Int.reduceToNat] at ho6; rw [← Ny155.out] at ho6)); have n0_ := Aside0.mk (Kd.R_lower ho6 (below_size (by repeat (first | (with_reducible first | exact HB.out | apply below_alloc | apply pw_below_drewN | apply below_drew1) | exact HB.out)))); have n1_ := Aside0.mk (below_step (by repeat (first | (with_reducible first | exact HB.out | apply below_alloc | apply pw_below_drewN | apply below_drew1) | exact HB.out)) hb); clear HB; have HO157 := n0_; have HB := n1_; clear n0_ n1_; clear hb ho6))
   go_loopg [6] k (fun kq v6 w' => ∃ (x5_1 : List Int) (x6_1 : Int), v6 = .int .i64 x6_1 ∧ Aside0 (warplaw4_Prio.l0 kq l0 a1 x5_1 x6_1 = some r) ∧ Aside0 (kq ≤ k) ∧ Aside0 (Kd.R (Kd.int .i64) 3 w' w.heap.size (fun _ => True) v156 x5_1) ∧ Aside0 (Below w.heap.size w w'))
   case atStart => exact ⟨(y155), (0), (by first | rfl | (simp; done) | (simp [*]; done)), H', ⟨Nat.le_refl _⟩, ⟨by (with_reducible repeat (first | apply Kd.R_alloc | apply Kd.R_drewN | apply Kd.R_drew)); exact HO157.out⟩, ⟨by repeat (first | (with_reducible first | exact HB.out | apply below_alloc | apply pw_below_drewN | apply below_drew1) | exact HB.out)⟩⟩
   case round =>
    clear H'
    (try clear c1); (try clear p2); (try clear c3); (try clear c3b0); (try clear c3b1); (try clear c4); (try clear c4b0); (try clear c4b1)
    obtain ⟨x5_1, x6_1, rfl, HA, HK1, HO_5, HB⟩ := hrel
    cases gk with
    | zero => exact absurd HA.out (by simp [warplaw4_Prio.l0])
    | succ k1 =>
     have H := HA.out
     clear HA
     simp only [warplaw4_Prio.l0] at H
     by_cases c7 : x6_1 < a1
     ·
      rw [if_pos c7] at H
      have c7b0 : decide (x6_1 < a1) = true := decide_eq_true c7
      clear c7
      by_cases c8 : (l0.length : Int) > 0
      ·
       rw [if_pos c8] at H
       have c8b0 : decide (0 < (l0.length : Int)) = true := decide_eq_true c8
       have c8b1 : decide (0 < l0.length) = true := decide_eq_true (by omega)
       clear c8
       by_cases c9 : (l0.length : Int) = 0
       ·
        rw [if_pos c9] at H
        exact absurd H (by simp)
       ·
        rw [if_neg c9] at H
        have c9b0 : ((l0.length : Int) == 0) = false := beq_eq_false_iff_ne.mpr c9
        have c9b1 : ((l0.length : Int) != 0) = true := bne_iff_ne.mpr c9
        have c9b2 : ¬ (l0 = []) := fun h_ => c9 (by rw [h_]; rfl)
        obtain ⟨ji10, hji10⟩ : ∃ j_ : Int, (Int.tmod x6_1 (l0.length : Int)) = j_ := ⟨_, rfl⟩
        replace H : (if 0 ≤ (ji10) then (if (ji10) < (l0.length : Int) then (if 0 ≤ x6_1 then (if x6_1 < (x5_1.length : Int) then (warplaw4_Prio.l0 k1 l0 a1 (x5_1.set (x6_1 : Int).toNat (Int.tmod (wrap64 (rd l0 (ji10))) 5)) (wrap64 (x6_1 + 1))) else (none)) else (none)) else (none)) else (none)) = some r := by first | (rw [hji10] at H; exact H) | (simp only [hji10] at H ⊢; exact H)
        by_cases c11 : 0 ≤ (ji10)
        ·
         rw [if_pos c11] at H
         have c11b0 : decide (0 ≤ (ji10)) = true := decide_eq_true c11
         clear c11
         by_cases c12 : (ji10) < (l0.length : Int)
         ·
          rw [if_pos c12] at H
          have c12b0 : decide ((ji10) < (l0.length : Int)) = true := decide_eq_true c12
          clear c12
          by_cases c13 : 0 ≤ x6_1
          ·
           rw [if_pos c13] at H
           have c13b0 : decide (0 ≤ x6_1) = true := decide_eq_true c13
           clear c13
           by_cases c14 : x6_1 < (x5_1.length : Int)
           ·
            rw [if_pos c14] at H
            have c14b0 : decide (x6_1 < (x5_1.length : Int)) = true := decide_eq_true c14
            clear c14
            obtain ⟨y159, hy159⟩ : ∃ y_ : List Int, y_ = (x5_1.set (x6_1 : Int).toNat (Int.tmod (wrap64 (rd l0 (ji10))) 5)) := ⟨_, rfl⟩
            replace H : (warplaw4_Prio.l0 k1 l0 a1 y159 (wrap64 (x6_1 + 1))) = some r := by first | (rw [hy159]; with_reducible exact H) | (have H2_ := (Option.bind_some _ _).symm.trans H; rw [hy159]; with_reducible exact H2_) | (have H2_ := (Option.bind_some _ _).symm.trans H; with_reducible exact H2_) | with_reducible exact H | (rw [hy159]; exact H) | exact H
            have Ny159 := Aside0.mk hy159
            clear hy159
            have H' := Aside0.mk H
            clear H
            have p158 : 0 ≤ ((ji10) : Int) := of_decide_eq_true (by first | (with_reducible assumption) | assumption)
            have q158 : (ji10) < (l0.length : Int) := of_decide_eq_true (by first | (with_reducible assumption) | assumption)
            obtain ⟨ad158, e158, hx158_0⟩ := Kd.at_int HR0.out (ji10) p158 q158
            cases e158
            replace hx158_0 := (HB.out.cell (World.block_lt_of_cell? w _ hx158_0)).trans hx158_0
            replace p158 := eq_true p158
            replace q158 := eq_true q158
            have p15 : 0 ≤ (x6_1 : Int) := of_decide_eq_true (by first | (with_reducible assumption) | assumption)
            have q15 : (x6_1 : Int) < ((x5_1.length : Int) : Int) := of_decide_eq_true (by first | (with_reducible assumption) | assumption)
            obtain ⟨go15, co15, eo15, gb15, gl15, cl15, HG15⟩ := Kd.R_form HO_5.out (by omega)
            (first | cases eo15 | (injection eo15 with ea_ en_ ec_; (first | subst ea_ | (injection ea_ with ea_; subst ea_)); subst ec_; clear en_))
            have GB15 := Aside0.mk gb15
            have GG15 := Aside0.mk HG15
            clear gb15 gl15 HG15
            obtain ⟨hx15_0, hf15_0⟩ := Kd.R_celln 0 HO_5.out (x6_1 : Int) p15 q15
            replace p15 := eq_true p15
            replace q15 := eq_true q15
            have HP16 := Kd.R_putg HO_5.out (x6_1 : Int) (Int.tmod (wrap64 (rd l0 (ji10))) 5)
            go_wp2_with (first | ((with_reducible refine gate_store (t := 3) (p := 30) rfl ?_); refine store_event (t := 3) (p := 30) (v := ?vo_w17) (w1 := (wr.setCell ⟨go15, (x6_1 : Int).toNat, none⟩ (.int .i64 (Int.tmod (wrap64 (rd l0 (ji10))) 5)))) ?hg ?ho ?hn ?hr ?_; (case ho => rfl); (case hg => rfl); (case hn => rfl); (case hr => first | (go_simp; done) | (go_simp; rfl)); intro w17 hw; have hg : wr.grownBy w17 (some go15) := (by rw [hw]; exact HP16.2); have hp_ : Kd.R (Kd.int .i64) 3 w17 w.heap.size (fun _ => True) (.slice (some ⟨go15, 0, none⟩) x5_1.length co15) y159 := (by rw [hw, Ny159.out]; exact HP16.1); clear HP16; have n0_ := Aside0.mk (hp_); have n1_ := Aside0.mk ((by rw [hw]; exact below_set (HB.out) GB15.out : Below w.heap.size w w17)); clear HO_5; clear HB; have HO_5 := n0_; have HB := n1_; clear n0_ n1_; clear hg hw hp_))
            go_roundg k1
            case measure => have := HK1.out; omega
            case rel => exact ⟨(y159), (wrap64 (x6_1 + 1)), (by first | rfl | (simp; done) | (simp [*]; done)), H', ⟨by have := HK1.out; omega⟩, ⟨by (with_reducible repeat (first | apply Kd.R_alloc | apply Kd.R_drewN | apply Kd.R_drew)); exact HO_5.out⟩, ⟨by repeat (first | (with_reducible first | exact HB.out | apply below_alloc | apply pw_below_drewN | apply below_drew1) | exact HB.out)⟩⟩
           ·
            rw [if_neg c14] at H
            exact absurd H (by simp)
          ·
           rw [if_neg c13] at H
           exact absurd H (by simp)
         ·
          rw [if_neg c12] at H
          exact absurd H (by simp)
        ·
         rw [if_neg c11] at H
         exact absurd H (by simp)
      ·
       rw [if_neg c8] at H
       have c8b0 : decide (0 < (l0.length : Int)) = false := decide_eq_false c8
       have c8b1 : decide (0 < l0.length) = false := decide_eq_false (by omega)
       clear c8
       obtain rfl := Option.some.inj H
       go_wp2
       go_ret
       exact ⟨_, by first | rfl | (simp [errW_none, errW_some] <;> rfl) | (simp [*, errW_none, errW_some] <;> rfl), by (with_reducible repeat (first | apply Kd.R_alloc | apply Kd.R_drewN | apply Kd.R_drew)); exact HO_5.out, by repeat (first | (with_reducible first | exact HB.out | apply below_alloc | apply pw_below_drewN | apply below_drew1) | exact HB.out)⟩
     ·
      rw [if_neg c7] at H
      have c7b0 : decide (x6_1 < a1) = false := decide_eq_false c7
      clear c7
      obtain rfl := Option.some.inj H
      go_wp2
      go_ret
      exact ⟨_, by first | rfl | (simp [errW_none, errW_some] <;> rfl) | (simp [*, errW_none, errW_some] <;> rfl), by (with_reducible repeat (first | apply Kd.R_alloc | apply Kd.R_drewN | apply Kd.R_drew)); exact HO_5.out, by repeat (first | (with_reducible first | exact HB.out | apply below_alloc | apply pw_below_drewN | apply below_drew1) | exact HB.out)⟩
  ·
   rw [if_neg c4] at H
   exact absurd H (by simp)
 ·
  rw [if_neg c3] at H
  exact absurd H (by simp)
def warplaw4_op.f (a0 : Int) (a1 : Int) (a2 : Int) (a3 : Int) : Option (Int × Int × Int) := if a3 = 0 then (none) else (some (wrap64 (1 + (Int.tmod (wrap64 (a0)) 3)), Int.tmod (wrap64 (a1)) a3, Int.tmod (wrap64 (a2)) a3))
def warplaw4_op.T1 : Bool × List (List Nat × List Nat) := (true, [([], []), ([0], [0]), ([1], [1]), ([2], [2]), ([], []), ([4], [4]), ([], []), ([5, 6], [5, 6]), ([], []), ([8], [8]), ([], []), ([9, 10], [9, 10]), ([3, 7, 11], [3, 7, 11]), ([12, 0, 1, 2, 3, 4, 5, 6, 7, 8, 9, 10, 11, 12], [12])])
def warplaw4_op.B1 : List Nat := [0, 1, 3, 7, 0, 16, 0, 112, 0, 256, 0, 1792, 4095, 8191]
theorem warplaw4_op.tab1 : rtab .any (opsOf Tryd.f31 1) = warplaw4_op.T1 := by kernel_rfl
theorem warplaw4_op.bits1 : waitsOk warplaw4_op.T1.2 warplaw4_op.B1 = true := by kernel_rfl
set_option maxHeartbeats 8000000 in
set_option maxRecDepth 100000 in
theorem warplaw4_op.calls (a0 : Int) (a1 : Int) (a2 : Int) (a3 : Int) (r1 : Int) (r2 : Int) (r3 : Int) (w : World) (h : warplaw4_op.f a0 a1 a2 a3 = some (r1, r2, r3)) :
 Calls Tryd.prog 31 #[.int .u8 a0, .int .u8 a1, .int .u8 a2, .int .i64 a3] w fun e w' => e = .returned (.agg #[.int .i64 r1, .int .i64 r2, .int .i64 r3]) ∧ Below w.heap.size w w' := by
 have hu40 := Tryd.underlying40
 have HB := Aside0.mk (Below.refl w.heap.size w)
 have H : (if a3 = 0 then (none) else (some (wrap64 (1 + (Int.tmod (wrap64 (a0)) 3)), Int.tmod (wrap64 (a1)) a3, Int.tmod (wrap64 (a2)) a3))) = some (r1, r2, r3) := h
 clear h
 by_cases c5 : a3 = 0
 ·
  rw [if_pos c5] at H
  exact absurd H (by simp)
 ·
  rw [if_neg c5] at H
  have c5b0 : (a3 == 0) = false := beq_eq_false_iff_ne.mpr c5
  have c5b1 : (a3 != 0) = true := bne_iff_ne.mpr c5
  simp only [Option.some.injEq, Prod.mk.injEq] at H
  obtain ⟨rfl, rfl, rfl⟩ := H
  go_enter Tryd.func31, Tryd.ntmps31
  try go_wp2_with (first | ((with_reducible refine gate_dst (N := 8) rfl ?_); refine box_event ?hg (N := 8) ?hd (cs := #[.int .i64 0, .int .i64 0, .int .i64 0]) (t := 40) ?hr ?_; (case hd => rfl); (case hg => rfl); (case hr => first | (go_simp; done) | (go_simp; rfl)); intro gb160 hg w6 hbox hb; have n0_ := Aside0.mk (below_step (by repeat (first | (with_reducible first | exact HB.out | apply below_alloc | apply pw_below_drewN | apply below_drew1) | exact HB.out)) hb); have n1_ := Aside0.mk (hbox); have n2_ := Aside0.mk ((by rw [hg]; exact (below_size (by repeat (first | (with_reducible first | exact HB.out | apply below_alloc | apply pw_below_drewN | apply below_drew1) | exact HB.out))) : w.heap.size ≤ gb160)); have n3_ := Aside0.mk ((by rw [hg]; exact (below_size (by repeat (first | (with_reducible first | exact HB.out | apply below_alloc | apply pw_below_drewN | apply below_drew1) | exact HB.out))) : w.heap.size ≤ gb160)); clear HB; have HB := n0_; have BK160 := n1_; have GW160 := n2_; have GE160 := n3_; clear n0_ n1_ n2_ n3_; clear hb hbox hg))
  have n0_ := Aside0.mk (blk_drew BK160.out)
  have n1_ := Aside0.mk (below_drew1 HB.out)
  clear BK160
  clear HB
  have BK160 := n0_
  have HB := n1_
  clear n0_ n1_
  refine start_ (n := 14) (S := fun w' => True) (ds := []) #[false, false, false, false, false, false, false, false, false, false, false, false, false, false] (by kernel_rfl) rfl rfl trivial (fun hHeld => ?_); refine with_tabW warplaw4_op.tab1 warplaw4_op.bits1 (fun HT_ HW_ => ?_)
  generalize w6.drew = w7 at BK160 HB hHeld ⊢
  refine pure_ (i := 0) (N := some 9) (v := ?_) (a' := ?_) #[true, false, false, false, false, false, false, false, false, false, false, false, false, false] rfl rfl (any_of HT_.out (by kernel_rfl)) (fun _ _ _ h => h) (Or.inl ⟨by rfl, ?_⟩) ?_ ?_
  rotate_left
  ·
   intro w'
   go_simp
   with_reducible rfl
  rotate_left
  ·
   simp only [Act.put, List.setIfInBounds_toArray, List.set_cons_zero, List.set_cons_succ, i64_w, i32_w]
   rfl
  refine pure_ (i := 1) (N := some 10) (v := ?_) (a' := ?_) #[true, true, false, false, false, false, false, false, false, false, false, false, false, false] rfl rfl (any_of HT_.out (by kernel_rfl)) (fun _ _ _ h => h) (Or.inl ⟨by rfl, ?_⟩) ?_ ?_
  rotate_left
  ·
   intro w'
   go_simp
   with_reducible rfl
  rotate_left
  ·
   simp only [Act.put, List.setIfInBounds_toArray, List.set_cons_zero, List.set_cons_succ, i64_w, i32_w]
   rfl
  refine pure_ (i := 2) (N := some 11) (v := ?_) (a' := ?_) #[true, true, true, false, false, false, false, false, false, false, false, false, false, false] rfl rfl (any_of HT_.out (by kernel_rfl)) (fun _ _ _ h => h) (Or.inl ⟨by rfl, ?_⟩) ?_ ?_
  rotate_left
  ·
   intro w'
   go_simp
   with_reducible rfl
  rotate_left
  ·
   simp only [Act.put, List.setIfInBounds_toArray, List.set_cons_zero, List.set_cons_succ, i64_w, i32_w]
   rfl
  refine pure_ (i := 3) (N := some 12) (v := ?_) (a' := ?_) #[true, true, true, true, false, false, false, false, false, false, false, false, false, false] rfl rfl (any_of HT_.out (by kernel_rfl)) (fun _ _ _ h => h) (Or.inl ⟨by rfl, ?_⟩) ?_ ?_
  rotate_left
  ·
   intro w'
   go_simp
   with_reducible rfl
  rotate_left
  ·
   simp only [Act.put, List.setIfInBounds_toArray, List.set_cons_zero, List.set_cons_succ, i64_w, i32_w]
   rfl
  refine pure_ (i := 4) (N := some 13) (v := ?_) (a' := ?_) #[true, true, true, true, true, false, false, false, false, false, false, false, false, false] rfl rfl (any_of HT_.out (by kernel_rfl)) (fun _ _ _ h => h) (Or.inl ⟨by rfl, ?_⟩) ?_ ?_
  rotate_left
  ·
   intro w'
   go_simp
   with_reducible rfl
  rotate_left
  ·
   simp only [Act.put, List.setIfInBounds_toArray, List.set_cons_zero, List.set_cons_succ, i64_w, i32_w]
   rfl
  refine pure_ (i := 5) (N := some 14) (v := ?_) (a' := ?_) #[true, true, true, true, true, true, false, false, false, false, false, false, false, false] rfl rfl (any_of HT_.out (by kernel_rfl)) (fun _ _ _ h => h) (Or.inl ⟨by rfl, ?_⟩) ?_ ?_
  rotate_left
  ·
   intro w'
   go_simp
   with_reducible rfl
  rotate_left
  ·
   simp only [Act.put, List.setIfInBounds_toArray, List.set_cons_zero, List.set_cons_succ, i64_w, i32_w]
   rfl
  refine pure_ (i := 6) (N := some 15) (v := ?_) (a' := ?_) #[true, true, true, true, true, true, true, false, false, false, false, false, false, false] rfl rfl (any_of HT_.out (by kernel_rfl)) (fun _ _ _ h => h) (Or.inl ⟨by rfl, ?_⟩) ?_ ?_
  rotate_left
  ·
   intro w'
   go_simp
   with_reducible rfl
  rotate_left
  ·
   simp only [Act.put, List.setIfInBounds_toArray, List.set_cons_zero, List.set_cons_succ, i64_w, i32_w]
   rfl
  refine pure_ (i := 7) (N := some 16) (v := ?_) (a' := ?_) #[true, true, true, true, true, true, true, true, false, false, false, false, false, false] rfl rfl (any_of HT_.out (by kernel_rfl)) (fun _ _ _ h => h) (Or.inl ⟨by rfl, ?_⟩) ?_ ?_
  rotate_left
  ·
   intro w'
   go_simp
   with_reducible rfl
  rotate_left
  ·
   simp only [Act.put, List.setIfInBounds_toArray, List.set_cons_zero, List.set_cons_succ, i64_w, i32_w]
   rfl
  refine pure_ (i := 8) (N := some 17) (v := ?_) (a' := ?_) #[true, true, true, true, true, true, true, true, true, false, false, false, false, false] rfl rfl (any_of HT_.out (by kernel_rfl)) (fun _ _ _ h => h) (Or.inl ⟨by rfl, ?_⟩) ?_ ?_
  rotate_left
  ·
   intro w'
   go_simp
   with_reducible rfl
  rotate_left
  ·
   simp only [Act.put, List.setIfInBounds_toArray, List.set_cons_zero, List.set_cons_succ, i64_w, i32_w]
   rfl
  refine pure_ (i := 9) (N := some 18) (v := ?_) (a' := ?_) #[true, true, true, true, true, true, true, true, true, true, false, false, false, false] rfl rfl (any_of HT_.out (by kernel_rfl)) (fun _ _ _ h => h) (Or.inl ⟨by rfl, ?_⟩) ?_ ?_
  rotate_left
  ·
   intro w'
   go_simp
   with_reducible rfl
  rotate_left
  ·
   simp only [Act.put, List.setIfInBounds_toArray, List.set_cons_zero, List.set_cons_succ, i64_w, i32_w]
   rfl
  refine pure_ (i := 10) (N := some 19) (v := ?_) (a' := ?_) #[true, true, true, true, true, true, true, true, true, true, true, false, false, false] rfl rfl (any_of HT_.out (by kernel_rfl)) (fun _ _ _ h => h) (Or.inl ⟨by rfl, ?_⟩) ?_ ?_
  rotate_left
  ·
   intro w'
   go_simp
   with_reducible rfl
  rotate_left
  ·
   simp only [Act.put, List.setIfInBounds_toArray, List.set_cons_zero, List.set_cons_succ, i64_w, i32_w]
   rfl
  refine pure_ (i := 11) (N := some 20) (v := ?_) (a' := ?_) #[true, true, true, true, true, true, true, true, true, true, true, true, false, false] rfl rfl (any_of HT_.out (by kernel_rfl)) (fun _ _ _ h => h) (Or.inl ⟨by rfl, ?_⟩) ?_ ?_
  rotate_left
  ·
   intro w'
   go_simp
   with_reducible rfl
  rotate_left
  ·
   simp only [Act.put, List.setIfInBounds_toArray, List.set_cons_zero, List.set_cons_succ, i64_w, i32_w]
   rfl
  refine pure_ (i := 12) (N := some 21) (v := ?_) (a' := ?_) #[true, true, true, true, true, true, true, true, true, true, true, true, true, false] rfl rfl (any_of HT_.out (by kernel_rfl)) (fun _ _ _ h => h) (Or.inl ⟨by rfl, ?_⟩) ?_ ?_
  rotate_left
  ·
   intro w'
   go_simp
   with_reducible rfl
  rotate_left
  ·
   simp only [Act.put, List.setIfInBounds_toArray, List.set_cons_zero, List.set_cons_succ, i64_w, i32_w]
   rfl
  refine one_ (i := 13) (N := none) #[true, true, true, true, true, true, true, true, true, true, true, true, true, true] rfl rfl (one_of HT_.out (by kernel_rfl)) (by decide) (fun K hK => ?_)
  have hs8 : w7.cell? ⟨gb160, 0, none⟩ = some (.int .i64 0) := (blk_cell BK160.out 0).trans rfl
  have hfs8 := blk_frozen BK160.out 0
  have hs9 : w7.cell? ⟨gb160, 1, none⟩ = some (.int .i64 0) := (blk_cell BK160.out 1).trans rfl
  have hfs9 := blk_frozen BK160.out 1
  have hs10 : w7.cell? ⟨gb160, 2, none⟩ = some (.int .i64 0) := (blk_cell BK160.out 2).trans rfl
  have hfs10 := blk_frozen BK160.out 2
  refine skip_ (w1 := ?_) (by rfl) rfl ?_ ?_
  rotate_left
  ·
   go_simp
   rfl
  refine hK.out _ _ trivial (fun hHeld => ?_)
  clear hK K
  refine done_ (done_of HT_.out (by kernel_rfl)) ?_
  try go_wp2
  refine bodyPost_ret (results_cell_row rfl _ _ gb160 40 #[.int .i64 (wrap64 (1 + (Int.tmod (wrap64 (a0)) 3))), .int .i64 (Int.tmod (wrap64 (a1)) a3), .int .i64 (Int.tmod (wrap64 (a2)) a3)] (0, 0) _ rfl (by (with_reducible repeat (first | refine blk_drewN ?_ _ | refine blk_drew ?_ | refine blk_alloc ?_ _)); refine blk_put (cs := #[.int .i64 (wrap64 (1 + (Int.tmod (wrap64 (a0)) 3))), .int .i64 (Int.tmod (wrap64 (a1)) a3), .int .i64 0]) ?_ 2 _ rfl; (with_reducible repeat (first | refine blk_drewN ?_ _ | refine blk_drew ?_ | refine blk_alloc ?_ _)); refine blk_put (cs := #[.int .i64 (wrap64 (1 + (Int.tmod (wrap64 (a0)) 3))), .int .i64 0, .int .i64 0]) ?_ 1 _ rfl; (with_reducible repeat (first | refine blk_drewN ?_ _ | refine blk_drew ?_ | refine blk_alloc ?_ _)); refine blk_put (cs := #[.int .i64 0, .int .i64 0, .int .i64 0]) ?_ 0 _ rfl; (with_reducible repeat (first | refine blk_drewN ?_ _ | refine blk_drew ?_ | refine blk_alloc ?_ _)); exact BK160.out) Tryd.underlying40 rfl (by kernel_rfl)) rfl ?_
  exact ⟨by first | rfl | (simp [errW_none, errW_some] <;> rfl) | (simp [*, errW_none, errW_some] <;> rfl), by repeat (first | (with_reducible first | exact HB.out | apply below_alloc | apply pw_below_drewN | apply below_drew1 | refine below_set ?_ GE160.out) | exact HB.out)⟩
def warplaw4_Ops.l0 : Nat → List Int → Int → List (S40) → Int → Option ((List (S40)))
 | 0, _, _, _, _ => none
 | k + 1, x0, x1, x5, x6 => if (wrap64 (x6 + 2)) < (x0.length : Int) then (if x1 > 0 then (if 0 ≤ x6 then (if x6 < (x0.length : Int) then (if 0 ≤ (wrap64 (x6 + 1)) then (if (wrap64 (x6 + 1)) < (x0.length : Int) then (if 0 ≤ (wrap64 (x6 + 2)) then ((warplaw4_op.f (rd x0 x6) (rd x0 (wrap64 (x6 + 1))) (rd x0 (wrap64 (x6 + 2))) x1).bind fun bt164 => (if x5.length < 5864062014805 then (warplaw4_Ops.l0 k x0 x1 (x5 ++ [(⟨bt164.1, bt164.2.1, bt164.2.2⟩ : S40)]) (wrap64 (x6 + 3))) else (none))) else (none)) else (none)) else (none)) else (none)) else (none)) else (some x5)) else (some x5)
def warplaw4_Ops.f (k : Nat) (l0 : List Int) (a1 : Int) : Option ((List (S40))) := warplaw4_Ops.l0 k l0 a1 ([] : List (S40)) 0
def warplaw4_Ops.T5 : Bool × List (List Nat × List Nat) := (true, [([], []), ([], []), ([], []), ([1, 2], [1, 2]), ([3], [3]), ([], []), ([], []), ([6], [6]), ([5, 7], [5, 7]), ([8], [8]), ([], []), ([], []), ([11], [11]), ([10, 12], [10, 12]), ([13], [13]), ([], []), ([4, 9, 14, 15], [4, 9, 14, 15]), ([16], [16]), ([0, 17, 16], [0, 17]), ([18, 18, 0, 1, 2, 3, 4, 5, 6, 7, 8, 9, 10, 11, 12, 13, 14, 15, 16, 17, 18], [0, 18])])
def warplaw4_Ops.B5 : List Nat := [0, 0, 0, 6, 14, 0, 0, 64, 224, 480, 0, 0, 2048, 7168, 15360, 0, 65534, 131070, 262143, 524287]
theorem warplaw4_Ops.tab5 : rtab .any (opsOf Tryd.f17 5) = warplaw4_Ops.T5 := by kernel_rfl
theorem warplaw4_Ops.bits5 : waitsOk warplaw4_Ops.T5.2 warplaw4_Ops.B5 = true := by kernel_rfl
set_option maxHeartbeats 8000000 in
set_option maxRecDepth 100000 in
theorem warplaw4_Ops.calls (k : Nat) (A0 : Option Addr) (c0 : Nat) (l0 : List Int) (a1 : Int) (r : List (S40)) (w : World) (hr0 : Kd.C (Kd.int .u8) w A0 l0.length l0) (hc0 : l0.length ≤ c0) (h : warplaw4_Ops.f k l0 a1 = some r) :
 Calls Tryd.prog 17 #[.slice A0 l0.length c0, .int .i64 a1] w fun e w' => ∃ v0_ : Value, e = .returned (v0_) ∧ Kd.R k40 40 w' w.heap.size (fun _ => True) v0_ r ∧ Below w.heap.size w w' := by
 have HR0 := Aside0.mk hr0
 have HC0 := Aside0.mk hc0
 clear hr0 hc0
 have HB := Aside0.mk (Below.refl w.heap.size w)
 have H : (warplaw4_Ops.l0 k l0 a1 ([] : List (S40)) 0) = some r := h
 clear h
 have H' := Aside0.mk H
 clear H
 go_enter Tryd.func17, Tryd.ntmps17
 go_wp2
 go_loopg [5, 6] k (fun kq v5 v6 w' => ∃ (x5_1 : List (S40)) (x6_1 : Int), v6 = .int .i64 x6_1 ∧ Aside0 (warplaw4_Ops.l0 kq l0 a1 x5_1 x6_1 = some r) ∧ Aside0 (kq ≤ k) ∧ Aside0 (Kd.R k40 40 w' w.heap.size (fun _ => True) v5 x5_1) ∧ Aside0 (Below w.heap.size w w'))
 case atStart => exact ⟨(([] : List (S40))), (0), (by first | rfl | (simp; done) | (simp [*]; done)), H', ⟨Nat.le_refl _⟩, ⟨by first | exact Kd.R_nil _ _ _ _ _ | exact Kd.N_nil _ _ _ _ _ | exact Kd.V_nil _ _ _ _ _ | exact Kd.Q_nil _ _ _ _ _ | exact Kd.S_nil _ _ _ _ _⟩, ⟨by repeat (first | (with_reducible first | exact HB.out | apply below_alloc | apply pw_below_drewN | apply below_drew1) | exact HB.out)⟩⟩
 case round =>
  clear H'
  (try clear c1); (try clear p2)
  obtain ⟨x5_1, x6_1, rfl, HA, HK1, HO_5, HB⟩ := hrel
  cases gk with
  | zero => exact absurd HA.out (by simp [warplaw4_Ops.l0])
  | succ k1 =>
   have H := HA.out
   clear HA
   simp only [warplaw4_Ops.l0] at H
   by_cases c3 : (wrap64 (x6_1 + 2)) < (l0.length : Int)
   ·
    rw [if_pos c3] at H
    have c3b0 : decide ((wrap64 (x6_1 + 2)) < (l0.length : Int)) = true := decide_eq_true c3
    clear c3
    by_cases c4 : a1 > 0
    ·
     rw [if_pos c4] at H
     have c4b0 : decide (0 < a1) = true := decide_eq_true c4
     clear c4
     by_cases c5 : 0 ≤ x6_1
     ·
      rw [if_pos c5] at H
      have c5b0 : decide (0 ≤ x6_1) = true := decide_eq_true c5
      clear c5
      by_cases c6 : x6_1 < (l0.length : Int)
      ·
       rw [if_pos c6] at H
       have c6b0 : decide (x6_1 < (l0.length : Int)) = true := decide_eq_true c6
       clear c6
       obtain ⟨ji7, hji7⟩ : ∃ j_ : Int, (wrap64 (x6_1 + 1)) = j_ := ⟨_, rfl⟩
       replace H : (if 0 ≤ (ji7) then (if (ji7) < (l0.length : Int) then (if 0 ≤ (wrap64 (x6_1 + 2)) then ((warplaw4_op.f (rd l0 x6_1) (rd l0 (ji7)) (rd l0 (wrap64 (x6_1 + 2))) a1).bind fun bt164 => (if x5_1.length < 5864062014805 then (warplaw4_Ops.l0 k1 l0 a1 (x5_1 ++ [(⟨bt164.1, bt164.2.1, bt164.2.2⟩ : S40)]) (wrap64 (x6_1 + 3))) else (none))) else (none)) else (none)) else (none)) = some r := by first | (rw [hji7] at H; exact H) | (simp only [hji7] at H ⊢; exact H)
       have hji7w : (IntKind.i64.wrap (x6_1 + 1)) = ji7 := (i64_w _).trans hji7
       by_cases c8 : 0 ≤ (ji7)
       ·
        rw [if_pos c8] at H
        have c8b0 : decide (0 ≤ (ji7)) = true := decide_eq_true c8
        clear c8
        by_cases c9 : (ji7) < (l0.length : Int)
        ·
         rw [if_pos c9] at H
         have c9b0 : decide ((ji7) < (l0.length : Int)) = true := decide_eq_true c9
         clear c9
         obtain ⟨ji10, hji10⟩ : ∃ j_ : Int, (wrap64 (x6_1 + 2)) = j_ := ⟨_, rfl⟩
         replace H : (if 0 ≤ (ji10) then ((warplaw4_op.f (rd l0 x6_1) (rd l0 (ji7)) (rd l0 (ji10)) a1).bind fun bt164 => (if x5_1.length < 5864062014805 then (warplaw4_Ops.l0 k1 l0 a1 (x5_1 ++ [(⟨bt164.1, bt164.2.1, bt164.2.2⟩ : S40)]) (wrap64 (x6_1 + 3))) else (none))) else (none)) = some r := by first | (rw [hji10] at H; exact H) | (simp only [hji10] at H ⊢; exact H)
         (try rw [hji10] at c3b0)
         have hji10w : (IntKind.i64.wrap (x6_1 + 2)) = ji10 := (i64_w _).trans hji10
         by_cases c11 : 0 ≤ (ji10)
         ·
          rw [if_pos c11] at H
          have c11b0 : decide (0 ≤ (ji10)) = true := decide_eq_true c11
          clear c11
          replace H := Option.bind_eq_some_iff.mp H
          obtain ⟨⟨t164, t165, t166⟩, A120, H⟩ := H
          replace H : (if x5_1.length < 5864062014805 then (warplaw4_Ops.l0 k1 l0 a1 (x5_1 ++ [(⟨t164, t165, t166⟩ : S40)]) (wrap64 (x6_1 + 3))) else (none)) = some r := H
          have A12 := Aside0.mk A120
          clear A120
          by_cases c13 : x5_1.length < 5864062014805
          ·
           rw [if_pos c13] at H
           have LMc13 := Aside0.mk c13
           clear c13
           obtain ⟨y167, hy167⟩ : ∃ y_ : List (S40), y_ = (x5_1 ++ [(⟨t164, t165, t166⟩ : S40)]) := ⟨_, rfl⟩
           replace H : (warplaw4_Ops.l0 k1 l0 a1 y167 (wrap64 (x6_1 + 3))) = some r := by first | (rw [hy167]; with_reducible exact H) | (have H2_ := (Option.bind_some _ _).symm.trans H; rw [hy167]; with_reducible exact H2_) | (have H2_ := (Option.bind_some _ _).symm.trans H; with_reducible exact H2_) | with_reducible exact H | (rw [hy167]; exact H) | exact H
           have Ny167 := Aside0.mk hy167
           clear hy167
           have H' := Aside0.mk H
           clear H
           try go_wp2
           have n0_ := Aside0.mk (Kd.R_drew HO_5.out)
           have n1_ := Aside0.mk (below_drew1 HB.out)
           clear HO_5
           clear HB
           have HO_5 := n0_
           have HB := n1_
           clear n0_ n1_
           have p161 : 0 ≤ (x6_1 : Int) := of_decide_eq_true (by first | (with_reducible assumption) | assumption)
           have q161 : x6_1 < (l0.length : Int) := of_decide_eq_true (by first | (with_reducible assumption) | assumption)
           obtain ⟨ad161, e161, hx161_0⟩ := Kd.at_int HR0.out x6_1 p161 q161
           have hw161_0 := hx161_0
           cases e161
           replace hx161_0 := (HB.out.cell (World.block_lt_of_cell? w _ hx161_0)).trans hx161_0
           replace p161 := eq_true p161
           replace q161 := eq_true q161
           have p162 : 0 ≤ ((ji7) : Int) := of_decide_eq_true (by first | (with_reducible assumption) | assumption)
           have q162 : (ji7) < (l0.length : Int) := of_decide_eq_true (by first | (with_reducible assumption) | assumption)
           obtain ⟨ad162, e162, hx162_0⟩ := Kd.at_int HR0.out (ji7) p162 q162
           have hw162_0 := hx162_0
           obtain rfl : ad161 = ad162 := (by injection e162)
           replace hx162_0 := (HB.out.cell (World.block_lt_of_cell? w _ hx162_0)).trans hx162_0
           replace p162 := eq_true p162
           replace q162 := eq_true q162
           have p163 : 0 ≤ ((ji10) : Int) := of_decide_eq_true (by first | (with_reducible assumption) | assumption)
           have q163 : (ji10) < (l0.length : Int) := of_decide_eq_true (by first | (with_reducible assumption) | assumption)
           obtain ⟨ad163, e163, hx163_0⟩ := Kd.at_int HR0.out (ji10) p163 q163
           have hw163_0 := hx163_0
           obtain rfl : ad161 = ad163 := (by injection e163)
           replace hx163_0 := (HB.out.cell (World.block_lt_of_cell? w _ hx163_0)).trans hx163_0
           replace p163 := eq_true p163
           replace q163 := eq_true q163
           refine start_ (n := 20) (S := fun w' => w'.cell? (ad161.add (x6_1).toNat) = some (.int .u8 (rd l0 x6_1)) ∧ w'.cell? (ad161.add ((ji7)).toNat) = some (.int .u8 (rd l0 (ji7))) ∧ w'.cell? (ad161.add ((ji10)).toNat) = some (.int .u8 (rd l0 (ji10)))) (ds := []) #[false, false, false, false, false, false, false, false, false, false, false, false, false, false, false, false, false, false, false, false] (by kernel_rfl) rfl rfl ⟨((HB.out.cell (World.block_lt_of_cell? w _ hw161_0)).trans hw161_0), ((HB.out.cell (World.block_lt_of_cell? w _ hw162_0)).trans hw162_0), ((HB.out.cell (World.block_lt_of_cell? w _ hw163_0)).trans hw163_0)⟩ (fun hHeld => ?_); refine with_tabW warplaw4_Ops.tab5 warplaw4_Ops.bits5 (fun HT_ HW_ => ?_)
           generalize wr.drew = w14 at HO_5 HB hx161_0 hx162_0 hx163_0 hHeld ⊢
           refine pure_ (i := 0) (N := some 18) (v := ?_) (a' := ?_) #[true, false, false, false, false, false, false, false, false, false, false, false, false, false, false, false, false, false, false, false] rfl rfl (any_of HT_.out (by kernel_rfl)) (fun _ _ _ h => h) (Or.inl ⟨by rfl, ?_⟩) ?_ ?_
           rotate_left
           ·
            intro w'
            go_simp
            with_reducible rfl
           rotate_left
           ·
            simp only [Act.put, List.setIfInBounds_toArray, List.set_cons_zero, List.set_cons_succ, i64_w, i32_w]
            rfl
           refine pure_ (i := 1) (N := some 19) (v := ?_) (a' := ?_) #[true, true, false, false, false, false, false, false, false, false, false, false, false, false, false, false, false, false, false, false] rfl rfl (any_of HT_.out (by kernel_rfl)) (fun _ _ _ h => h) (Or.inl ⟨by rfl, ?_⟩) ?_ ?_
           rotate_left
           ·
            intro w'
            go_simp
            with_reducible rfl
           rotate_left
           ·
            simp only [Act.put, List.setIfInBounds_toArray, List.set_cons_zero, List.set_cons_succ, i64_w, i32_w]
            rfl
           refine pure_ (i := 2) (N := some 20) (v := ?_) (a' := ?_) #[true, true, true, false, false, false, false, false, false, false, false, false, false, false, false, false, false, false, false, false] rfl rfl (any_of HT_.out (by kernel_rfl)) (fun _ _ _ h => h) (Or.inl ⟨by rfl, ?_⟩) ?_ ?_
           rotate_left
           ·
            intro w'
            go_simp
            with_reducible rfl
           rotate_left
           ·
            simp only [Act.put, List.setIfInBounds_toArray, List.set_cons_zero, List.set_cons_succ, i64_w, i32_w]
            rfl
           refine pure_ (i := 3) (N := some 21) (v := ?_) (a' := ?_) #[true, true, true, true, false, false, false, false, false, false, false, false, false, false, false, false, false, false, false, false] rfl rfl (any_of HT_.out (by kernel_rfl)) (fun _ _ _ h => h) (Or.inl ⟨by rfl, ?_⟩) ?_ ?_
           rotate_left
           ·
            intro w'
            go_simp
            with_reducible rfl
           rotate_left
           ·
            simp only [Act.put, List.setIfInBounds_toArray, List.set_cons_zero, List.set_cons_succ, i64_w, i32_w]
            rfl
           refine pure_ (i := 5) (N := some 23) (v := ?_) (a' := ?_) #[true, true, true, true, false, true, false, false, false, false, false, false, false, false, false, false, false, false, false, false] rfl rfl (any_of HT_.out (by kernel_rfl)) (fun _ _ _ h => h) (Or.inl ⟨by rfl, ?_⟩) ?_ ?_
           rotate_left
           ·
            intro w'
            go_simp
            with_reducible rfl
           rotate_left
           ·
            simp only [Act.put, List.setIfInBounds_toArray, List.set_cons_zero, List.set_cons_succ, i64_w, i32_w]
            rfl
           refine pure_ (i := 6) (N := some 24) (v := ?_) (a' := ?_) #[true, true, true, true, false, true, true, false, false, false, false, false, false, false, false, false, false, false, false, false] rfl rfl (any_of HT_.out (by kernel_rfl)) (fun _ _ _ h => h) (Or.inl ⟨by rfl, ?_⟩) ?_ ?_
           rotate_left
           ·
            intro w'
            go_simp
            with_reducible rfl
           rotate_left
           ·
            simp only [Act.put, List.setIfInBounds_toArray, List.set_cons_zero, List.set_cons_succ, i64_w, i32_w]
            rfl
           refine pure_ (i := 7) (N := some 25) (v := ?_) (a' := ?_) #[true, true, true, true, false, true, true, true, false, false, false, false, false, false, false, false, false, false, false, false] rfl rfl (any_of HT_.out (by kernel_rfl)) (fun _ _ _ h => h) (Or.inl ⟨by rfl, ?_⟩) ?_ ?_
           rotate_left
           ·
            intro w'
            go_simp
            with_reducible rfl
           rotate_left
           ·
            simp only [Act.put, List.setIfInBounds_toArray, List.set_cons_zero, List.set_cons_succ, i64_w, i32_w]
            rfl
           refine pure_ (i := 8) (N := some 26) (v := ?_) (a' := ?_) #[true, true, true, true, false, true, true, true, true, false, false, false, false, false, false, false, false, false, false, false] rfl rfl (any_of HT_.out (by kernel_rfl)) (fun _ _ _ h => h) (Or.inl ⟨by rfl, ?_⟩) ?_ ?_
           rotate_left
           ·
            intro w'
            go_simp
            with_reducible rfl
           rotate_left
           ·
            simp only [Act.put, List.setIfInBounds_toArray, List.set_cons_zero, List.set_cons_succ, i64_w, i32_w]
            rfl
           refine pure_ (i := 10) (N := some 28) (v := ?_) (a' := ?_) #[true, true, true, true, false, true, true, true, true, false, true, false, false, false, false, false, false, false, false, false] rfl rfl (any_of HT_.out (by kernel_rfl)) (fun _ _ _ h => h) (Or.inl ⟨by rfl, ?_⟩) ?_ ?_
           rotate_left
           ·
            intro w'
            go_simp
            with_reducible rfl
           rotate_left
           ·
            simp only [Act.put, List.setIfInBounds_toArray, List.set_cons_zero, List.set_cons_succ, i64_w, i32_w]
            rfl
           refine pure_ (i := 11) (N := some 29) (v := ?_) (a' := ?_) #[true, true, true, true, false, true, true, true, true, false, true, true, false, false, false, false, false, false, false, false] rfl rfl (any_of HT_.out (by kernel_rfl)) (fun _ _ _ h => h) (Or.inl ⟨by rfl, ?_⟩) ?_ ?_
           rotate_left
           ·
            intro w'
            go_simp
            with_reducible rfl
           rotate_left
           ·
            simp only [Act.put, List.setIfInBounds_toArray, List.set_cons_zero, List.set_cons_succ, i64_w, i32_w]
            rfl
           refine pure_ (i := 12) (N := some 30) (v := ?_) (a' := ?_) #[true, true, true, true, false, true, true, true, true, false, true, true, true, false, false, false, false, false, false, false] rfl rfl (any_of HT_.out (by kernel_rfl)) (fun _ _ _ h => h) (Or.inl ⟨by rfl, ?_⟩) ?_ ?_
           rotate_left
           ·
            intro w'
            go_simp
            with_reducible rfl
           rotate_left
           ·
            simp only [Act.put, List.setIfInBounds_toArray, List.set_cons_zero, List.set_cons_succ, i64_w, i32_w]
            rfl
           refine pure_ (i := 13) (N := some 31) (v := ?_) (a' := ?_) #[true, true, true, true, false, true, true, true, true, false, true, true, true, true, false, false, false, false, false, false] rfl rfl (any_of HT_.out (by kernel_rfl)) (fun _ _ _ h => h) (Or.inl ⟨by rfl, ?_⟩) ?_ ?_
           rotate_left
           ·
            intro w'
            go_simp
            with_reducible rfl
           rotate_left
           ·
            simp only [Act.put, List.setIfInBounds_toArray, List.set_cons_zero, List.set_cons_succ, i64_w, i32_w]
            rfl
           refine pure_ (i := 15) (N := some 33) (v := ?_) (a' := ?_) #[true, true, true, true, false, true, true, true, true, false, true, true, true, true, false, true, false, false, false, false] rfl rfl (any_of HT_.out (by kernel_rfl)) (fun _ _ _ h => h) (Or.inl ⟨by rfl, ?_⟩) ?_ ?_
           rotate_left
           ·
            intro w'
            go_simp
            with_reducible rfl
           rotate_left
           ·
            simp only [Act.put, List.setIfInBounds_toArray, List.set_cons_zero, List.set_cons_succ, i64_w, i32_w]
            rfl
           refine take_ (i := 4) (N := some 22) (v := ?_) (a' := ?_) #[true, true, true, true, true, true, true, true, true, false, true, true, true, true, false, true, false, false, false, false] rfl rfl (take_ofW HT_.out HW_.out (by kernel_rfl)) (fun _ _ _ h => h) (Or.inl ⟨by rfl, ?_⟩) hHeld ?_ ?_
           rotate_left
           ·
            rintro w' ⟨s0, s1, s2⟩
            go_simp
            with_reducible rfl
           rotate_left
           ·
            simp only [Act.put, List.setIfInBounds_toArray, List.set_cons_zero, List.set_cons_succ, i64_w, i32_w]
            rfl
           refine take_ (i := 9) (N := some 27) (v := ?_) (a' := ?_) #[true, true, true, true, true, true, true, true, true, true, true, true, true, true, false, true, false, false, false, false] rfl rfl (take_ofW HT_.out HW_.out (by kernel_rfl)) (fun _ _ _ h => h) (Or.inl ⟨by rfl, ?_⟩) hHeld ?_ ?_
           rotate_left
           ·
            rintro w' ⟨s0, s1, s2⟩
            go_simp
            with_reducible rfl
           rotate_left
           ·
            simp only [Act.put, List.setIfInBounds_toArray, List.set_cons_zero, List.set_cons_succ, i64_w, i32_w]
            rfl
           refine take_ (i := 14) (N := some 32) (v := ?_) (a' := ?_) #[true, true, true, true, true, true, true, true, true, true, true, true, true, true, true, true, false, false, false, false] rfl rfl (take_ofW HT_.out HW_.out (by kernel_rfl)) (fun _ _ _ h => h) (Or.inl ⟨by rfl, ?_⟩) hHeld ?_ ?_
           rotate_left
           ·
            rintro w' ⟨s0, s1, s2⟩
            go_simp
            with_reducible rfl
           rotate_left
           ·
            simp only [Act.put, List.setIfInBounds_toArray, List.set_cons_zero, List.set_cons_succ, i64_w, i32_w]
            rfl
           refine one_ (i := 16) (N := some 34) #[true, true, true, true, true, true, true, true, true, true, true, true, true, true, true, true, true, false, false, false] rfl rfl (one_of HT_.out (by kernel_rfl)) (by decide) (fun K hK => ?_)
           refine goes_ Tryd.func31 (by kernel_rfl) rfl #[.int .u8 (rd l0 x6_1), .int .u8 (rd l0 (ji7)), .int .u8 (rd l0 (ji10)), .int .i64 a1] (by rfl) rfl rfl (by (try simp only [List.map_toArray, List.map_cons, List.map_nil]); first | done | (simp only [hji10, hji7]; rfl) | rfl | (simp only [List.length_drop, List.length_take]; rfl)) ?_
           with_reducible refine (warplaw4_op.calls (rd l0 x6_1) (rd l0 (ji7)) (rd l0 (ji10)) a1 t164 t165 t166 _ A12.out).mono ?_
           rintro e w15 ⟨rfl, hb⟩
           refine ⟨_, rfl, ?_⟩
           have n0_ := Aside0.mk (Kd.R_below (by (with_reducible repeat (first | apply Kd.R_alloc | apply Kd.R_drewN | apply Kd.R_drew)); exact HO_5.out) hb)
           have n1_ := Aside0.mk (below_step (by repeat (first | (with_reducible first | exact HB.out | apply below_alloc | apply pw_below_drewN | apply below_drew1) | exact HB.out)) hb)
           clear HO_5
           clear HB
           have HO_5 := n0_
           have HB := n1_
           clear n0_ n1_
           (try clear hb)
           (try clear hb2)
           (try clear hk)
           (try clear hi)
           refine hK.out _ _ ⟨((HB.out.cell (World.block_lt_of_cell? w _ hw161_0)).trans hw161_0), ((HB.out.cell (World.block_lt_of_cell? w _ hw162_0)).trans hw162_0), ((HB.out.cell (World.block_lt_of_cell? w _ hw163_0)).trans hw163_0)⟩ (fun hHeld => ?_)
           clear hK K
           refine norm_ (a' := ?_) ?_ ?_
           rotate_left
           ·
            show Act.put _ (some 34) _ = _
            simp only [Act.put, List.setIfInBounds_toArray, List.set_cons_zero, List.set_cons_succ, i64_w, i32_w]
            rfl
           refine one_ (i := 17) (N := some 35) #[true, true, true, true, true, true, true, true, true, true, true, true, true, true, true, true, true, true, false, false] rfl rfl (one_of HT_.out (by kernel_rfl)) (by decide) (fun K hK => ?_)
           refine value_ (w1 := ?_) (v := ?_) (by rfl) rfl ?_ ?_
           rotate_left 2
           ·
            go_simp
            constructor
            ·
             rfl
            ·
             rfl
           refine hK.out _ _ ⟨(World.cell?_alloc_lt _ _ _ (World.block_lt_of_cell? _ _ (((HB.out.cell (World.block_lt_of_cell? w _ hw161_0)).trans hw161_0)))).trans (((HB.out.cell (World.block_lt_of_cell? w _ hw161_0)).trans hw161_0)), (World.cell?_alloc_lt _ _ _ (World.block_lt_of_cell? _ _ (((HB.out.cell (World.block_lt_of_cell? w _ hw162_0)).trans hw162_0)))).trans (((HB.out.cell (World.block_lt_of_cell? w _ hw162_0)).trans hw162_0)), (World.cell?_alloc_lt _ _ _ (World.block_lt_of_cell? _ _ (((HB.out.cell (World.block_lt_of_cell? w _ hw163_0)).trans hw163_0)))).trans (((HB.out.cell (World.block_lt_of_cell? w _ hw163_0)).trans hw163_0))⟩ (fun hHeld => ?_)
           clear hK K
           refine norm_ (a' := ?_) ?_ ?_
           rotate_left
           ·
            show Act.put _ (some 35) _ = _
            simp only [Act.put, List.setIfInBounds_toArray, List.set_cons_zero, List.set_cons_succ, i64_w, i32_w]
            rfl
           refine one_ (i := 18) (N := some 36) #[true, true, true, true, true, true, true, true, true, true, true, true, true, true, true, true, true, true, true, false] rfl rfl (one_of HT_.out (by kernel_rfl)) (by decide) (fun K hK => ?_)
           refine Kd.R_append_step k40 (w0 := w) w.heap.size (by rfl) (.tmp 18) (.tmp 35) 43 40 (.agg #[(.int .i64 0), (.int .i64 0), (.int .i64 0)]) 24 rfl Tryd.underlying43 info40 rfl (by decide) (by omega) u5 x5_1 (⟨t164, t165, t166⟩ : S40) [.int .i64 t164, .int .i64 t165, .int .i64 t166] (fun _ => True) (fun _ => False) rfl rfl ?aP (fun _ hk => hk.elim) ?aF ?aO ?aB ?aS ?aL ?_
           (case aP => exact k40_mkM _ _ _ (⟨t164, t165, t166⟩ : S40))
           (case aB => exact (by repeat (first | (with_reducible first | exact HB.out | apply below_alloc | apply pw_below_drewN | apply below_drew1) | exact HB.out)))
           (case aF => exact (fun _ _ => trivial))
           (case aO => exact (by (with_reducible repeat (first | apply Kd.R_alloc | apply Kd.R_drewN | apply Kd.R_drew)); exact HO_5.out))
           (case aS => exact (below_size (by repeat (first | (with_reducible first | exact HB.out | apply below_alloc | apply pw_below_drewN | apply below_drew1) | exact HB.out))))
           (case aL => have := LMc13.out; omega)
           intro v168 w16 ho hb hg hat
           rw [← Ny167.out] at ho
           have n0_ := Aside0.mk (hb)
           have n1_ := Aside0.mk (ho)
           clear HB
           clear HO_5
           have HB := n0_
           have HO169 := n1_
           clear n0_ n1_
           clear ho hb hg hat
           refine hK.out _ _ ⟨((HB.out.cell (World.block_lt_of_cell? w _ hw161_0)).trans hw161_0), ((HB.out.cell (World.block_lt_of_cell? w _ hw162_0)).trans hw162_0), ((HB.out.cell (World.block_lt_of_cell? w _ hw163_0)).trans hw163_0)⟩ (fun hHeld => ?_)
           clear hK K
           refine norm_ (a' := ?_) ?_ ?_
           rotate_left
           ·
            show Act.put _ (some 36) _ = _
            simp only [Act.put, List.setIfInBounds_toArray, List.set_cons_zero, List.set_cons_succ, i64_w, i32_w]
            rfl
           refine pure_ (i := 19) (N := some 5) (v := ?_) (a' := ?_) #[true, true, true, true, true, true, true, true, true, true, true, true, true, true, true, true, true, true, true, true] rfl rfl (any_of HT_.out (by kernel_rfl)) (fun _ _ _ h => h) (Or.inl ⟨by rfl, ?_⟩) ?_ ?_
           rotate_left
           ·
            intro w'
            go_simp
            with_reducible rfl
           rotate_left
           ·
            simp only [Act.put, List.setIfInBounds_toArray, List.set_cons_zero, List.set_cons_succ, i64_w, i32_w]
            rfl
           refine done_ (done_of HT_.out (by kernel_rfl)) ?_
           try go_wp2
           go_roundg k1
           case measure => have := HK1.out; omega
           case rel => exact ⟨(y167), (wrap64 (x6_1 + 3)), (by first | rfl | (simp; done) | (simp [*]; done)), H', ⟨by have := HK1.out; omega⟩, ⟨by (with_reducible repeat (first | apply Kd.R_alloc | apply Kd.R_drewN | apply Kd.R_drew)); exact HO169.out⟩, ⟨by repeat (first | (with_reducible first | exact HB.out | apply below_alloc | apply pw_below_drewN | apply below_drew1) | exact HB.out)⟩⟩
          ·
           rw [if_neg c13] at H
           exact absurd H (by simp)
         ·
          rw [if_neg c11] at H
          exact absurd H (by simp)
        ·
         rw [if_neg c9] at H
         exact absurd H (by simp)
       ·
        rw [if_neg c8] at H
        exact absurd H (by simp)
      ·
       rw [if_neg c6] at H
       exact absurd H (by simp)
     ·
      rw [if_neg c5] at H
      exact absurd H (by simp)
    ·
     rw [if_neg c4] at H
     have c4b0 : decide (0 < a1) = false := decide_eq_false c4
     clear c4
     obtain rfl := Option.some.inj H
     go_wp2
     go_ret
     exact ⟨_, by first | rfl | (simp [errW_none, errW_some] <;> rfl) | (simp [*, errW_none, errW_some] <;> rfl), by (with_reducible repeat (first | apply Kd.R_alloc | apply Kd.R_drewN | apply Kd.R_drew)); exact HO_5.out, by repeat (first | (with_reducible first | exact HB.out | apply below_alloc | apply pw_below_drewN | apply below_drew1) | exact HB.out)⟩
   ·
    rw [if_neg c3] at H
    have c3b0 : decide ((wrap64 (x6_1 + 2)) < (l0.length : Int)) = false := decide_eq_false c3
    clear c3
    obtain rfl := Option.some.inj H
    go_wp2
    go_ret
    exact ⟨_, by first | rfl | (simp [errW_none, errW_some] <;> rfl) | (simp [*, errW_none, errW_some] <;> rfl), by (with_reducible repeat (first | apply Kd.R_alloc | apply Kd.R_drewN | apply Kd.R_drew)); exact HO_5.out, by repeat (first | (with_reducible first | exact HB.out | apply below_alloc | apply pw_below_drewN | apply below_drew1) | exact HB.out)⟩
end Go.Proofs.YtmaiicpaalbcfaaDoor.P
end
section
namespace Go.Proofs.YtmaiicpaalbcfaaDoor.P
open Go.RowKit Go.Proofs.YtmaiicpaalbcfaaDoorW.PrintWords Go.Proofs.YtmaiicpaalbcfaaDoorW.PrintLast Go.Proofs.YtmaiicpaalbcfaaDoorW.PrintMore
attribute [local go_sem] max2_int min2_int max_two min_two max_three min_three max_four min_four   -- for this text's walks alone
set_option linter.unusedVariables false
set_option linter.unusedSimpArgs false
def warplaw5_Scripts.l0 : Nat → List (List Int) → Int → List (List (S40)) → Int → Option ((List (List (S40))))
 | 0, _, _, _, _ => none
 | k + 1, x0, x1, x5, x6 => if x6 < (x0.length : Int) then (if x6 < 8 then (if 0 ≤ x6 then (if 0 ≤ (mn ((rd_L8 x0 x6).length : Int) 24) then (if (mn ((rd_L8 x0 x6).length : Int) 24) ≤ ((rd_L8 x0 x6).length : Int) then ((warplaw4_Ops.f k ((rd_L8 x0 x6).take ((mn ((rd_L8 x0 x6).length : Int) 24) : Int).toNat) x1).bind fun t173 => (if x5.length < 5864062014805 then (warplaw5_Scripts.l0 k x0 x1 (x5 ++ [t173]) (wrap64 (x6 + 1))) else (none))) else (none)) else (none)) else (none)) else (some x5)) else (some x5)
def warplaw5_Scripts.f (k : Nat) (l0 : List (List Int)) (a1 : Int) : Option ((List (List (S40)))) := warplaw5_Scripts.l0 k l0 a1 ([] : List (List (S40))) 0
def warplaw5_Scripts.T5 : Bool × List (List Nat × List Nat) := (true, [([], []), ([], []), ([], []), ([1, 2], [1, 2]), ([3], [3]), ([], []), ([], []), ([5, 6], [5, 6]), ([7], [7]), ([8], [8]), ([9], [9]), ([4, 10], [4, 10]), ([], []), ([11, 12], [11, 12]), ([13], [13]), ([0, 14, 13], [0, 14]), ([15, 15, 0, 1, 2, 3, 4, 5, 6, 7, 8, 9, 10, 11, 12, 13, 14, 15], [0, 15])])
def warplaw5_Scripts.B5 : List Nat := [0, 0, 0, 6, 14, 0, 0, 96, 224, 480, 992, 2046, 0, 8190, 16382, 32767, 65535]
theorem warplaw5_Scripts.tab5 : rtab .any (opsOf Tryd.f16 5) = warplaw5_Scripts.T5 := by kernel_rfl
theorem warplaw5_Scripts.bits5 : waitsOk warplaw5_Scripts.T5.2 warplaw5_Scripts.B5 = true := by kernel_rfl
set_option maxHeartbeats 8000000 in
set_option maxRecDepth 100000 in
theorem warplaw5_Scripts.calls (k : Nat) (A0 : Option Addr) (c0 : Nat) (l0 : List (List Int)) (a1 : Int) (r : List (List (S40))) (w : World) (hr0 : Kd.C (Kd.slice 5 (Kd.int .u8)) w A0 l0.length l0) (hc0 : l0.length ≤ c0) (h : warplaw5_Scripts.f k l0 a1 = some r) :
 Calls Tryd.prog 16 #[.slice A0 l0.length c0, .int .i64 a1] w fun e w' => ∃ v0_ : Value, e = .returned (v0_) ∧ Kd.S (Kd.slice 40 k40) 43 w' w.heap.size (fun _ => True) v0_ r ∧ Below w.heap.size w w' := by
 have HR0 := Aside0.mk hr0
 have HC0 := Aside0.mk hc0
 clear hr0 hc0
 have HB := Aside0.mk (Below.refl w.heap.size w)
 have H : (warplaw5_Scripts.l0 k l0 a1 ([] : List (List (S40))) 0) = some r := h
 clear h
 have H' := Aside0.mk H
 clear H
 go_enter Tryd.func16, Tryd.ntmps16
 go_wp2
 go_loopg [5, 6] k (fun kq v5 v6 w' => ∃ (x5_1 : List (List (S40))) (x6_1 : Int), v6 = .int .i64 x6_1 ∧ Aside0 (warplaw5_Scripts.l0 kq l0 a1 x5_1 x6_1 = some r) ∧ Aside0 (kq ≤ k) ∧ Aside0 (Kd.S (Kd.slice 40 k40) 43 w' w.heap.size (fun _ => True) v5 x5_1) ∧ Aside0 (Below w.heap.size w w'))
 case atStart => exact ⟨(([] : List (List (S40)))), (0), (by first | rfl | (simp; done) | (simp [*]; done)), H', ⟨Nat.le_refl _⟩, ⟨by first | exact Kd.S_nil _ _ _ _ _ | exact Kd.N_nil _ _ _ _ _ | exact Kd.V_nil _ _ _ _ _ | exact Kd.Q_nil _ _ _ _ _ | exact Kd.R_nil _ _ _ _ _⟩, ⟨by repeat (first | (with_reducible first | exact HB.out | apply below_alloc | apply pw_below_drewN | apply below_drew1) | exact HB.out)⟩⟩
 case round =>
  clear H'
  (try clear c1); (try clear p2)
  obtain ⟨x5_1, x6_1, rfl, HA, HK1, HO_5, HB⟩ := hrel
  cases gk with
  | zero => exact absurd HA.out (by simp [warplaw5_Scripts.l0])
  | succ k1 =>
   have H := HA.out
   clear HA
   simp only [warplaw5_Scripts.l0] at H
   by_cases c3 : x6_1 < (l0.length : Int)
   ·
    rw [if_pos c3] at H
    have c3b0 : decide (x6_1 < (l0.length : Int)) = true := decide_eq_true c3
    clear c3
    by_cases c4 : x6_1 < 8
    ·
     rw [if_pos c4] at H
     have c4b0 : decide (x6_1 < 8) = true := decide_eq_true c4
     clear c4
     by_cases c5 : 0 ≤ x6_1
     ·
      rw [if_pos c5] at H
      have c5b0 : decide (0 ≤ x6_1) = true := decide_eq_true c5
      clear c5
      obtain ⟨ji6, hji6⟩ : ∃ j_ : Int, (mn ((rd_L8 l0 x6_1).length : Int) 24) = j_ := ⟨_, rfl⟩
      replace H : (if 0 ≤ (ji6) then (if (ji6) ≤ ((rd_L8 l0 x6_1).length : Int) then ((warplaw4_Ops.f k1 ((rd_L8 l0 x6_1).take ((ji6) : Int).toNat) a1).bind fun t173 => (if x5_1.length < 5864062014805 then (warplaw5_Scripts.l0 k1 l0 a1 (x5_1 ++ [t173]) (wrap64 (x6_1 + 1))) else (none))) else (none)) else (none)) = some r := by first | (rw [hji6] at H; exact H) | (simp only [hji6] at H ⊢; exact H)
      have hji6_ : (if 24 < ((rd_L8 l0 x6_1).length : Int) then 24 else ((rd_L8 l0 x6_1).length : Int)) = ji6 := hji6
      by_cases c7 : 0 ≤ (ji6)
      ·
       rw [if_pos c7] at H
       have c7b0 := eq_true c7
       have c7b1 : decide (0 ≤ (ji6)) = true := decide_eq_true c7
       clear c7
       by_cases c8 : (ji6) ≤ ((rd_L8 l0 x6_1).length : Int)
       ·
        rw [if_pos c8] at H
        have c8b0 := eq_true c8
        have c8b1 : decide ((ji6) ≤ ((rd_L8 l0 x6_1).length : Int)) = true := decide_eq_true c8
        clear c8
        replace H := Option.bind_eq_some_iff.mp H
        obtain ⟨t173, A90, H⟩ := H
        replace H : (if x5_1.length < 5864062014805 then (warplaw5_Scripts.l0 k1 l0 a1 (x5_1 ++ [t173]) (wrap64 (x6_1 + 1))) else (none)) = some r := H
        have A9 := Aside0.mk A90
        clear A90
        by_cases c10 : x5_1.length < 5864062014805
        ·
         rw [if_pos c10] at H
         have LMc10 := Aside0.mk c10
         clear c10
         obtain ⟨y176, hy176⟩ : ∃ y_ : List (List (S40)), y_ = (x5_1 ++ [t173]) := ⟨_, rfl⟩
         replace H : (warplaw5_Scripts.l0 k1 l0 a1 y176 (wrap64 (x6_1 + 1))) = some r := by first | (rw [hy176]; with_reducible exact H) | (have H2_ := (Option.bind_some _ _).symm.trans H; rw [hy176]; with_reducible exact H2_) | (have H2_ := (Option.bind_some _ _).symm.trans H; with_reducible exact H2_) | with_reducible exact H | (rw [hy176]; exact H) | exact H
         have Ny176 := Aside0.mk hy176
         clear hy176
         have H' := Aside0.mk H
         clear H
         try go_wp2
         have n0_ := Aside0.mk (Kd.S_drew HO_5.out)
         have n1_ := Aside0.mk (below_drew1 HB.out)
         clear HO_5
         clear HB
         have HO_5 := n0_
         have HB := n1_
         clear n0_ n1_
         have p170 : 0 ≤ (x6_1 : Int) := of_decide_eq_true (by first | (with_reducible assumption) | assumption)
         have q170 : x6_1 < (l0.length : Int) := of_decide_eq_true (by first | (with_reducible assumption) | assumption)
         obtain ⟨ad170, A170_0, c170_0, e170, hx170_0, hl170_0, hi170_0⟩ := at_L8 HR0.out x6_1 p170 q170
         have hw170_0 := hx170_0
         cases e170
         replace hx170_0 := (HB.out.cell (World.block_lt_of_cell? w _ hx170_0)).trans hx170_0
         have HR170_0 := Aside0.mk hi170_0
         have HC170_0 := Aside0.mk hl170_0
         clear hi170_0 hl170_0
         replace p170 := eq_true p170
         replace q170 := eq_true q170
         have p171 : 0 ≤ (x6_1 : Int) := of_decide_eq_true (by first | (with_reducible assumption) | assumption)
         have q171 : x6_1 < (l0.length : Int) := of_decide_eq_true (by first | (with_reducible assumption) | assumption)
         obtain ⟨ad171, A171_0, c171_0, e171, hx171_0, hl171_0, hi171_0⟩ := at_L8 HR0.out x6_1 p171 q171
         have hw171_0 := hx171_0
         obtain rfl : ad170 = ad171 := (by injection e171)
         replace hx171_0 := (HB.out.cell (World.block_lt_of_cell? w _ hx171_0)).trans hx171_0
         have HR171_0 := Aside0.mk hi171_0
         have HC171_0 := Aside0.mk hl171_0
         clear hi171_0 hl171_0
         replace p171 := eq_true p171
         replace q171 := eq_true q171
         have ea_ := Option.some.inj (hx170_0.symm.trans hx171_0)
         injection ea_ with ea_ en_ ec_
         subst ea_
         subst ec_
         clear en_
         obtain ⟨i012, hi012, _, hsz12, _⟩ := info_parts info5
         obtain ⟨hcut12, hA12, hC12⟩ := print_take_of (P := Tryd.prog) (Value.int .u8) 0 35 5 .i64 Tryd.underlying35 hi012 hsz12 A170_0 c170_0 (rd_L8 l0 x6_1) (ji6) (of_decide_eq_true (by first | (with_reducible assumption) | assumption)) (of_decide_eq_true (by first | (with_reducible assumption) | assumption)) HC170_0.out
         have HR172 := Aside0.mk (Kd.C_of_reads (h1 := fun _ => rfl) (hA12 _ (Kd.reads_of_C HR170_0.out)))
         have HC172 := Aside0.mk hC12
         clear hA12 hC12 hi012 hsz12
         refine start_ (n := 17) (S := fun w' => w'.cell? (ad170.add (x6_1).toNat) = some (.slice A170_0 (rd_L8 l0 x6_1).length c170_0) ∧ w'.cell? (ad170.add (x6_1).toNat) = some (.slice A170_0 (rd_L8 l0 x6_1).length c170_0)) (ds := []) #[false, false, false, false, false, false, false, false, false, false, false, false, false, false, false, false, false] (by kernel_rfl) rfl rfl ⟨((HB.out.cell (World.block_lt_of_cell? w _ hw170_0)).trans hw170_0), ((HB.out.cell (World.block_lt_of_cell? w _ hw171_0)).trans hw171_0)⟩ (fun hHeld => ?_); refine with_tabW warplaw5_Scripts.tab5 warplaw5_Scripts.bits5 (fun HT_ HW_ => ?_)
         generalize wr.drew = w11 at HO_5 HB HR170_0 HR171_0 HR172 hx170_0 hx171_0 hHeld ⊢
         refine pure_ (i := 0) (N := some 17) (v := ?_) (a' := ?_) #[true, false, false, false, false, false, false, false, false, false, false, false, false, false, false, false, false] rfl rfl (any_of HT_.out (by kernel_rfl)) (fun _ _ _ h => h) (Or.inl ⟨by rfl, ?_⟩) ?_ ?_
         rotate_left
         ·
          intro w'
          go_simp
          with_reducible rfl
         rotate_left
         ·
          simp only [Act.put, List.setIfInBounds_toArray, List.set_cons_zero, List.set_cons_succ, i64_w, i32_w]
          rfl
         refine pure_ (i := 1) (N := some 18) (v := ?_) (a' := ?_) #[true, true, false, false, false, false, false, false, false, false, false, false, false, false, false, false, false] rfl rfl (any_of HT_.out (by kernel_rfl)) (fun _ _ _ h => h) (Or.inl ⟨by rfl, ?_⟩) ?_ ?_
         rotate_left
         ·
          intro w'
          go_simp
          with_reducible rfl
         rotate_left
         ·
          simp only [Act.put, List.setIfInBounds_toArray, List.set_cons_zero, List.set_cons_succ, i64_w, i32_w]
          rfl
         refine pure_ (i := 2) (N := some 19) (v := ?_) (a' := ?_) #[true, true, true, false, false, false, false, false, false, false, false, false, false, false, false, false, false] rfl rfl (any_of HT_.out (by kernel_rfl)) (fun _ _ _ h => h) (Or.inl ⟨by rfl, ?_⟩) ?_ ?_
         rotate_left
         ·
          intro w'
          go_simp
          with_reducible rfl
         rotate_left
         ·
          simp only [Act.put, List.setIfInBounds_toArray, List.set_cons_zero, List.set_cons_succ, i64_w, i32_w]
          rfl
         refine pure_ (i := 3) (N := some 20) (v := ?_) (a' := ?_) #[true, true, true, true, false, false, false, false, false, false, false, false, false, false, false, false, false] rfl rfl (any_of HT_.out (by kernel_rfl)) (fun _ _ _ h => h) (Or.inl ⟨by rfl, ?_⟩) ?_ ?_
         rotate_left
         ·
          intro w'
          go_simp
          with_reducible rfl
         rotate_left
         ·
          simp only [Act.put, List.setIfInBounds_toArray, List.set_cons_zero, List.set_cons_succ, i64_w, i32_w]
          rfl
         refine pure_ (i := 5) (N := some 22) (v := ?_) (a' := ?_) #[true, true, true, true, false, true, false, false, false, false, false, false, false, false, false, false, false] rfl rfl (any_of HT_.out (by kernel_rfl)) (fun _ _ _ h => h) (Or.inl ⟨by rfl, ?_⟩) ?_ ?_
         rotate_left
         ·
          intro w'
          go_simp
          with_reducible rfl
         rotate_left
         ·
          simp only [Act.put, List.setIfInBounds_toArray, List.set_cons_zero, List.set_cons_succ, i64_w, i32_w]
          rfl
         refine pure_ (i := 6) (N := some 23) (v := ?_) (a' := ?_) #[true, true, true, true, false, true, true, false, false, false, false, false, false, false, false, false, false] rfl rfl (any_of HT_.out (by kernel_rfl)) (fun _ _ _ h => h) (Or.inl ⟨by rfl, ?_⟩) ?_ ?_
         rotate_left
         ·
          intro w'
          go_simp
          with_reducible rfl
         rotate_left
         ·
          simp only [Act.put, List.setIfInBounds_toArray, List.set_cons_zero, List.set_cons_succ, i64_w, i32_w]
          rfl
         refine pure_ (i := 7) (N := some 24) (v := ?_) (a' := ?_) #[true, true, true, true, false, true, true, true, false, false, false, false, false, false, false, false, false] rfl rfl (any_of HT_.out (by kernel_rfl)) (fun _ _ _ h => h) (Or.inl ⟨by rfl, ?_⟩) ?_ ?_
         rotate_left
         ·
          intro w'
          go_simp
          with_reducible rfl
         rotate_left
         ·
          simp only [Act.put, List.setIfInBounds_toArray, List.set_cons_zero, List.set_cons_succ, i64_w, i32_w]
          rfl
         refine pure_ (i := 12) (N := some 29) (v := ?_) (a' := ?_) #[true, true, true, true, false, true, true, true, false, false, false, false, true, false, false, false, false] rfl rfl (any_of HT_.out (by kernel_rfl)) (fun _ _ _ h => h) (Or.inl ⟨by rfl, ?_⟩) ?_ ?_
         rotate_left
         ·
          intro w'
          go_simp
          with_reducible rfl
         rotate_left
         ·
          simp only [Act.put, List.setIfInBounds_toArray, List.set_cons_zero, List.set_cons_succ, i64_w, i32_w]
          rfl
         refine take_ (i := 4) (N := some 21) (v := ?_) (a' := ?_) #[true, true, true, true, true, true, true, true, false, false, false, false, true, false, false, false, false] rfl rfl (take_ofW HT_.out HW_.out (by kernel_rfl)) (fun _ _ _ h => h) (Or.inl ⟨by rfl, ?_⟩) hHeld ?_ ?_
         rotate_left
         ·
          rintro w' ⟨s0, s1⟩
          go_simp
          with_reducible rfl
         rotate_left
         ·
          simp only [Act.put, List.setIfInBounds_toArray, List.set_cons_zero, List.set_cons_succ, i64_w, i32_w]
          rfl
         refine take_ (i := 8) (N := some 25) (v := ?_) (a' := ?_) #[true, true, true, true, true, true, true, true, true, false, false, false, true, false, false, false, false] rfl rfl (take_ofW HT_.out HW_.out (by kernel_rfl)) (fun _ _ _ h => h) (Or.inl ⟨by rfl, ?_⟩) hHeld ?_ ?_
         rotate_left
         ·
          rintro w' ⟨s0, s1⟩
          go_simp
          with_reducible rfl
         rotate_left
         ·
          simp only [Act.put, List.setIfInBounds_toArray, List.set_cons_zero, List.set_cons_succ, i64_w, i32_w]
          rfl
         refine pure_ (i := 9) (N := some 26) (v := ?_) (a' := ?_) #[true, true, true, true, true, true, true, true, true, true, false, false, true, false, false, false, false] rfl rfl (any_of HT_.out (by kernel_rfl)) (fun _ _ _ h => h) (Or.inl ⟨by rfl, ?_⟩) ?_ ?_
         rotate_left
         ·
          intro w'
          go_simp
          with_reducible rfl
         rotate_left
         ·
          simp only [Act.put, List.setIfInBounds_toArray, List.set_cons_zero, List.set_cons_succ, i64_w, i32_w]
          rfl
         refine pure_ (i := 10) (N := some 27) (v := ?_) (a' := ?_) #[true, true, true, true, true, true, true, true, true, true, true, false, true, false, false, false, false] rfl rfl (any_of HT_.out (by kernel_rfl)) (fun _ _ _ h => h) (Or.inl ⟨by rfl, ?_⟩) ?_ ?_
         rotate_left
         ·
          intro w'
          go_simp
          with_reducible rfl
         rotate_left
         ·
          simp only [Act.put, List.setIfInBounds_toArray, List.set_cons_zero, List.set_cons_succ, i64_w, i32_w]
          rfl
         refine pure_ (i := 11) (N := some 28) (v := ?_) (a' := ?_) #[true, true, true, true, true, true, true, true, true, true, true, true, true, false, false, false, false] rfl rfl (any_of HT_.out (by kernel_rfl)) (fun _ _ _ h => h) (Or.inl ⟨by rfl, ?_⟩) ?_ ?_
         rotate_left
         ·
          intro w'
          go_simp
          with_reducible rfl
         rotate_left
         ·
          simp only [Act.put, List.setIfInBounds_toArray, List.set_cons_zero, List.set_cons_succ, i64_w, i32_w]
          rfl
         refine one_ (i := 13) (N := some 30) #[true, true, true, true, true, true, true, true, true, true, true, true, true, true, false, false, false] rfl rfl (one_of HT_.out (by kernel_rfl)) (by decide) (fun K hK => ?_)
         refine goes_ Tryd.func17 (by kernel_rfl) rfl #[.slice A170_0 ((rd_L8 l0 x6_1).take ((ji6) : Int).toNat).length c170_0, .int .i64 a1] (by rfl) rfl rfl (by (try simp only [List.map_toArray, List.map_cons, List.map_nil]); first | done | (rw [show ((rd_L8 l0 x6_1).take ((ji6) : Int).toNat).length = (ji6).toNat from (by rw [List.length_take]; have h_ : ((ji6) : Int) ≤ ((rd_L8 l0 x6_1).length : Int) := of_decide_eq_true (by first | (with_reducible assumption) | assumption); omega)] <;> rfl) | (simp only [hji6]; rfl) | rfl | (simp only [List.length_drop, List.length_take]; rfl)) ?_
         with_reducible refine (warplaw4_Ops.calls k1 _ _ ((rd_L8 l0 x6_1).take ((ji6) : Int).toNat) a1 t173 _ ?side1 ?side2 A9.out).mono ?_
         (case side1 => repeat (first | exact (Kd.C_below HR172.out HB.out) | (with_reducible refine Kd.C_alloc ?_ _) | (with_reducible refine Kd.C_drewN ?_ _) | (with_reducible refine Kd.C_drew ?_)))
         (case side2 => exact HC172.out)
         rintro e w13 ⟨v174, rfl, ho0, hb⟩
         refine ⟨_, rfl, ?_⟩
         have n0_ := Aside0.mk (Kd.S_elder' (by (with_reducible repeat (first | apply Kd.S_alloc | apply Kd.S_drewN | apply Kd.S_drew)); exact HO_5.out) (Kd.R_base ho0) hb)
         have n1_ := Aside0.mk (Kd.R_lower ho0 (below_size (by repeat (first | (with_reducible first | exact HB.out | apply below_alloc | apply pw_below_drewN | apply below_drew1) | exact HB.out))))
         have n2_ := Aside0.mk (below_step (by repeat (first | (with_reducible first | exact HB.out | apply below_alloc | apply pw_below_drewN | apply below_drew1) | exact HB.out)) hb)
         clear HO_5
         clear HB
         have HO_5 := n0_
         have HO175 := n1_
         have HB := n2_
         clear n0_ n1_ n2_
         (try clear hb)
         (try clear hb2)
         (try clear hk)
         (try clear hi)
         (try clear ho0)
         obtain ⟨Ao15, co15, eo15⟩ := Kd.R_slice HO175.out
         (first | subst eo15 | (injection eo15 with f1_ f2_ f3_; have f4_ := f1_.symm; have f5_ := f3_.symm; clear f1_ f2_ f3_; subst f4_; subst f5_))
         refine hK.out _ _ ⟨((HB.out.cell (World.block_lt_of_cell? w _ hw170_0)).trans hw170_0), ((HB.out.cell (World.block_lt_of_cell? w _ hw171_0)).trans hw171_0)⟩ (fun hHeld => ?_)
         clear hK K
         refine norm_ (a' := ?_) ?_ ?_
         rotate_left
         ·
          show Act.put _ (some 30) _ = _
          simp only [Act.put, List.setIfInBounds_toArray, List.set_cons_zero, List.set_cons_succ, i64_w, i32_w]
          rfl
         refine one_ (i := 14) (N := some 31) #[true, true, true, true, true, true, true, true, true, true, true, true, true, true, true, false, false] rfl rfl (one_of HT_.out (by kernel_rfl)) (by decide) (fun K hK => ?_)
         refine value_ (w1 := ?_) (v := ?_) (by rfl) rfl ?_ ?_
         rotate_left 2
         ·
          go_simp
          constructor
          ·
           rfl
          ·
           rfl
         refine hK.out _ _ ⟨(World.cell?_alloc_lt _ _ _ (World.block_lt_of_cell? _ _ (((HB.out.cell (World.block_lt_of_cell? w _ hw170_0)).trans hw170_0)))).trans (((HB.out.cell (World.block_lt_of_cell? w _ hw170_0)).trans hw170_0)), (World.cell?_alloc_lt _ _ _ (World.block_lt_of_cell? _ _ (((HB.out.cell (World.block_lt_of_cell? w _ hw171_0)).trans hw171_0)))).trans (((HB.out.cell (World.block_lt_of_cell? w _ hw171_0)).trans hw171_0))⟩ (fun hHeld => ?_)
         clear hK K
         refine norm_ (a' := ?_) ?_ ?_
         rotate_left
         ·
          show Act.put _ (some 31) _ = _
          simp only [Act.put, List.setIfInBounds_toArray, List.set_cons_zero, List.set_cons_succ, i64_w, i32_w]
          rfl
         refine one_ (i := 15) (N := some 32) #[true, true, true, true, true, true, true, true, true, true, true, true, true, true, true, true, false] rfl rfl (one_of HT_.out (by kernel_rfl)) (by decide) (fun K hK => ?_)
         refine Kd.S_append_step (Kd.slice 40 k40) (w0 := w) w.heap.size (by rfl) (.tmp 17) (.tmp 31) 23 43 (.slice none 0 0) 24 rfl Tryd.underlying23 info43 rfl (by decide) (by omega) u5 x5_1 t173 [.slice Ao15 t173.length co15] (fun _ => True) (fun k_ => some k_ = (.slice Ao15 t173.length co15 : Value).ownBlock) rfl rfl ?aP (fun k_ hk_ => ((Kd.R_mono (ok' := fun k_ => ((fun _ => True)) k_ ∧ some k_ ≠ (u5 : Value).ownBlock) (Kd.R_apart' (HO175.out) (Kd.S_typed HO_5.out) (by decide)) (fun k_ hk => ⟨trivial, hk.2⟩))).1 k_ hk_.symm) ?aF ?aO ?aB ?aS ?aL ?_
         (case aP => exact Kd.M_row (Kd.R_mono (Kd.R_tight rfl (Kd.R_mono (ok' := fun k_ => ((fun _ => True)) k_ ∧ some k_ ≠ (u5 : Value).ownBlock) (Kd.R_apart' (HO175.out) (Kd.S_typed HO_5.out) (by decide)) (fun k_ hk => ⟨trivial, hk.2⟩))) (fun _ h_ => h_)))
         (case aB => exact (by repeat (first | (with_reducible first | exact HB.out | apply below_alloc | apply pw_below_drewN | apply below_drew1) | exact HB.out)))
         (case aF => exact (fun _ _ => trivial))
         (case aO => exact (by (with_reducible repeat (first | apply Kd.S_alloc | apply Kd.S_drewN | apply Kd.S_drew)); exact Kd.S_mono HO_5.out (fun k_ hk => ⟨trivial, fun e_ => hk.2 e_⟩)))
         (case aS => exact (below_size (by repeat (first | (with_reducible first | exact HB.out | apply below_alloc | apply pw_below_drewN | apply below_drew1) | exact HB.out))))
         (case aL => have := LMc10.out; omega)
         intro v177 w14 ho hb hg hat
         rw [← Ny176.out] at ho
         have n0_ := Aside0.mk (hb)
         have n1_ := Aside0.mk (ho)
         clear HB
         clear HO_5
         clear HO175
         have HB := n0_
         have HO178 := n1_
         clear n0_ n1_
         clear ho hb hg hat
         refine hK.out _ _ ⟨((HB.out.cell (World.block_lt_of_cell? w _ hw170_0)).trans hw170_0), ((HB.out.cell (World.block_lt_of_cell? w _ hw171_0)).trans hw171_0)⟩ (fun hHeld => ?_)
         clear hK K
         refine norm_ (a' := ?_) ?_ ?_
         rotate_left
         ·
          show Act.put _ (some 32) _ = _
          simp only [Act.put, List.setIfInBounds_toArray, List.set_cons_zero, List.set_cons_succ, i64_w, i32_w]
          rfl
         refine pure_ (i := 16) (N := some 5) (v := ?_) (a' := ?_) #[true, true, true, true, true, true, true, true, true, true, true, true, true, true, true, true, true] rfl rfl (any_of HT_.out (by kernel_rfl)) (fun _ _ _ h => h) (Or.inl ⟨by rfl, ?_⟩) ?_ ?_
         rotate_left
         ·
          intro w'
          go_simp
          with_reducible rfl
         rotate_left
         ·
          simp only [Act.put, List.setIfInBounds_toArray, List.set_cons_zero, List.set_cons_succ, i64_w, i32_w]
          rfl
         refine done_ (done_of HT_.out (by kernel_rfl)) ?_
         try go_wp2
         go_roundg k1
         case measure => have := HK1.out; omega
         case rel => exact ⟨(y176), (wrap64 (x6_1 + 1)), (by first | rfl | (simp; done) | (simp [*]; done)), H', ⟨by have := HK1.out; omega⟩, ⟨by (with_reducible repeat (first | apply Kd.S_alloc | apply Kd.S_drewN | apply Kd.S_drew)); exact HO178.out⟩, ⟨by repeat (first | (with_reducible first | exact HB.out | apply below_alloc | apply pw_below_drewN | apply below_drew1) | exact HB.out)⟩⟩
        ·
         rw [if_neg c10] at H
         exact absurd H (by simp)
       ·
        rw [if_neg c8] at H
        exact absurd H (by simp)
      ·
       rw [if_neg c7] at H
       exact absurd H (by simp)
     ·
      rw [if_neg c5] at H
      exact absurd H (by simp)
    ·
     rw [if_neg c4] at H
     have c4b0 : decide (x6_1 < 8) = false := decide_eq_false c4
     clear c4
     obtain rfl := Option.some.inj H
     go_wp2
     go_ret
     exact ⟨_, by first | rfl | (simp [errW_none, errW_some] <;> rfl) | (simp [*, errW_none, errW_some] <;> rfl), by (with_reducible repeat (first | apply Kd.S_alloc | apply Kd.S_drewN | apply Kd.S_drew)); exact HO_5.out, by repeat (first | (with_reducible first | exact HB.out | apply below_alloc | apply pw_below_drewN | apply below_drew1) | exact HB.out)⟩
   ·
    rw [if_neg c3] at H
    have c3b0 : decide (x6_1 < (l0.length : Int)) = false := decide_eq_false c3
    clear c3
    obtain rfl := Option.some.inj H
    go_wp2
    go_ret
    exact ⟨_, by first | rfl | (simp [errW_none, errW_some] <;> rfl) | (simp [*, errW_none, errW_some] <;> rfl), by (with_reducible repeat (first | apply Kd.S_alloc | apply Kd.S_drewN | apply Kd.S_drew)); exact HO_5.out, by repeat (first | (with_reducible first | exact HB.out | apply below_alloc | apply pw_below_drewN | apply below_drew1) | exact HB.out)⟩
end Go.Proofs.YtmaiicpaalbcfaaDoor.P
end
section
namespace Go.Proofs.YtmaiicpaalbcfaaDoor.P
open Go.RowKit Go.Proofs.YtmaiicpaalbcfaaDoorW.PrintWords Go.Proofs.YtmaiicpaalbcfaaDoorW.PrintLast Go.Proofs.YtmaiicpaalbcfaaDoorW.PrintMore
attribute [local go_sem] max2_int min2_int max_two min_two max_three min_three max_four min_four   -- for this text's walks alone
set_option linter.unusedVariables false
set_option linter.unusedSimpArgs false
def warplaw5_PlayEnds.l0 : Nat → List Int → List Int → Int → List (List (S40)) → Int → Int → Option (Bool)
 | 0, _, _, _, _, _, _ => none
 | k + 1, x0, x2, x7, x8, x9, x10 => if x10 < (x8.length : Int) then (if 0 ≤ x10 then (warplaw5_PlayEnds.l0 k x0 x2 x7 x8 (wrap64 (x9 + ((rd_L2 x8 x10).length : Int))) (wrap64 (x10 + 1))) else (none)) else ((warplaw4_Prio.f k x0 x7).bind fun t218 => ((play_Play.f t218 x8 x2).bind fun bt221 => (if (bt221.1.length : Int) = x9 then (if (bt221.2.1.length : Int) = x7 then (if bt221.2.2 ≥ x9 then (if bt221.2.2 ≤ (wrap64 ((wrap64 (100 * (wrap64 (x9 + 1)))) * (wrap64 (x7 + 1)))) then ((warplaw5_awake.f k).bind fun t228 => (some t228)) else (some false)) else (some false)) else (some false)) else (some false))))
def warplaw5_PlayEnds.f (k : Nat) (l0 : List Int) (l1 : List (List Int)) (l2 : List Int) : Option (Bool) := if (l2.length : Int) > 500 then ((warplaw5_awake.f k).bind fun t213 => (some t213)) else ((warplaw5_Scripts.f k l1 (1 + ((l0.length : Int) % 16))).bind fun t214 => (warplaw5_PlayEnds.l0 k l0 l2 (1 + ((l0.length : Int) % 16)) t214 0 0))
set_option maxHeartbeats 8000000 in
set_option maxRecDepth 100000 in
theorem warplaw5_PlayEnds.calls (k : Nat) (A0 : Option Addr) (c0 : Nat) (l0 : List Int) (A1 : Option Addr) (c1 : Nat) (l1 : List (List Int)) (A2 : Option Addr) (c2 : Nat) (l2 : List Int) (r : Bool) (w : World) (hr0 : Kd.C (Kd.int .u8) w A0 l0.length l0) (hc0 : l0.length ≤ c0) (hr1 : Kd.C (Kd.slice 5 (Kd.int .u8)) w A1 l1.length l1) (hc1 : l1.length ≤ c1) (hr2 : Kd.C (Kd.int .i64) w A2 l2.length l2) (hc2 : l2.length ≤ c2) (h : warplaw5_PlayEnds.f k l0 l1 l2 = some r) (hT_ : Tab w := by first | exact hT_ | exact Tab.drewN hT_ _ | (refine Tab.below hT_ ?_; repeat (first | (with_reducible first | exact HB.out | apply below_alloc | apply pw_below_drewN | apply below_drew1) | exact HB.out))) :
 Calls Tryd.prog 5 #[.slice A0 l0.length c0, .slice A1 l1.length c1, .slice A2 l2.length c2] w fun e w' => e = .returned (.bool r) ∧ Below w.heap.size w w' := by
 have HR0 := Aside0.mk hr0
 have HC0 := Aside0.mk hc0
 clear hr0 hc0
 have HR1 := Aside0.mk hr1
 have HC1 := Aside0.mk hc1
 clear hr1 hc1
 have HR2 := Aside0.mk hr2
 have HC2 := Aside0.mk hc2
 clear hr2 hc2
 have HB := Aside0.mk (Below.refl w.heap.size w)
 have H : (if (l2.length : Int) > 500 then ((warplaw5_awake.f k).bind fun t213 => (some t213)) else ((warplaw5_Scripts.f k l1 (1 + ((l0.length : Int) % 16))).bind fun t214 => (warplaw5_PlayEnds.l0 k l0 l2 (1 + ((l0.length : Int) % 16)) t214 0 0))) = some r := h
 clear h
 by_cases c4 : (l2.length : Int) > 500
 ·
  rw [if_pos c4] at H
  have c4b0 : decide (500 < (l2.length : Int)) = true := decide_eq_true c4
  have c4b1 : decide (500 < l2.length) = true := decide_eq_true (by omega)
  clear c4
  replace H := Option.bind_eq_some_iff.mp H
  obtain ⟨t213, A50, H⟩ := H
  replace H : (some t213) = some r := H
  have A5 := Aside0.mk A50
  clear A50
  obtain rfl := Option.some.inj H
  go_enter Tryd.func5, Tryd.ntmps5
  go_wp2_with (first | ((with_reducible refine gate_callee (f := 10) rfl ?_); refine goesL_ (some 21) rfl rfl Tryd.func10 (by kernel_rfl) rfl #[] rfl (by (try simp only [List.map_toArray, List.map_cons, List.map_nil]); first | done | rfl | (simp only [List.length_drop, List.length_take]; rfl)) ?_; (with_reducible refine (warplaw5_awake.calls k  t213 _ A5.out).mono ?_); rintro e w6 ⟨rfl, hb⟩; refine ⟨_, rfl, ?_⟩; have n0_ := Aside0.mk (below_step (by repeat (first | (with_reducible first | exact HB.out | apply below_alloc | apply pw_below_drewN | apply below_drew1) | exact HB.out)) hb); clear HB; have HB := n0_; clear n0_; (try clear hb); (try clear hb2); (try clear hk); (try clear hi)))
  go_ret
  exact ⟨by first | rfl | (simp [errW_none, errW_some] <;> rfl) | (simp [*, errW_none, errW_some] <;> rfl), by repeat (first | (with_reducible first | exact HB.out | apply below_alloc | apply pw_below_drewN | apply below_drew1) | exact HB.out)⟩
 ·
  rw [if_neg c4] at H
  have c4b0 : decide (500 < (l2.length : Int)) = false := decide_eq_false c4
  have c4b1 : decide (500 < l2.length) = false := decide_eq_false (by omega)
  clear c4
  replace H := Option.bind_eq_some_iff.mp H
  obtain ⟨t214, A70, H⟩ := H
  replace H : (warplaw5_PlayEnds.l0 k l0 l2 (1 + ((l0.length : Int) % 16)) t214 0 0) = some r := H
  have A7 := Aside0.mk A70
  clear A70
  have H' := Aside0.mk H
  clear H
  go_enter Tryd.func5, Tryd.ntmps5
  go_wp2_with (first | ((with_reducible refine gate_callee (f := 16) rfl ?_); refine goesL_ (some 24) rfl rfl Tryd.func16 (by kernel_rfl) rfl #[.slice A1 l1.length c1, .int .i64 (1 + ((l0.length : Int) % 16))] rfl (by (try simp only [List.map_toArray, List.map_cons, List.map_nil]); first | done | rfl | (simp only [List.length_drop, List.length_take]; rfl)) ?_; (with_reducible refine (warplaw5_Scripts.calls k _ _ l1 (1 + ((l0.length : Int) % 16)) t214 _ ?side1 ?side2 A7.out).mono ?_); (case side1 => repeat (first | exact HR1.out | (with_reducible refine Kd.C_alloc ?_ _) | (with_reducible refine Kd.C_drewN ?_ _) | (with_reducible refine Kd.C_drew ?_))); (case side2 => exact HC1.out); rintro e w8 ⟨v215, rfl, ho0, hb⟩; refine ⟨_, rfl, ?_⟩; have n0_ := Aside0.mk (Kd.S_lower ho0 (below_size (by repeat (first | (with_reducible first | exact HB.out | apply below_alloc | apply pw_below_drewN | apply below_drew1) | exact HB.out)))); have n1_ := Aside0.mk (below_step (by repeat (first | (with_reducible first | exact HB.out | apply below_alloc | apply pw_below_drewN | apply below_drew1) | exact HB.out)) hb); clear HB; have HO216 := n0_; have HB := n1_; clear n0_ n1_; (try clear hb); (try clear hb2); (try clear hk); (try clear hi); (try clear ho0)))
  go_loopg [9, 10] k (fun kq v9 v10 w' => ∃ (x9_1 : Int) (x10_1 : Int), v9 = .int .i64 x9_1 ∧ v10 = .int .i64 x10_1 ∧ Aside0 (warplaw5_PlayEnds.l0 kq l0 l2 (1 + ((l0.length : Int) % 16)) t214 x9_1 x10_1 = some r) ∧ Aside0 (kq ≤ k) ∧ Aside0 (Kd.S (Kd.slice 40 k40) 43 w' w.heap.size (fun _ => True) v215 t214) ∧ Aside0 (Below w.heap.size w w'))
  case atStart => exact ⟨(0), (0), (by first | rfl | (simp; done) | (simp [*]; done)), (by first | rfl | (simp; done) | (simp [*]; done)), H', ⟨Nat.le_refl _⟩, ⟨by (with_reducible repeat (first | apply Kd.S_alloc | apply Kd.S_drewN | apply Kd.S_drew)); exact HO216.out⟩, ⟨by repeat (first | (with_reducible first | exact HB.out | apply below_alloc | apply pw_below_drewN | apply below_drew1) | exact HB.out)⟩⟩
  case round =>
   clear H'
   (try clear c1); (try clear c2); (try clear p2); (try clear c4); (try clear c4b0); (try clear c4b1); (try clear c5)
   obtain ⟨x9_1, x10_1, rfl, rfl, HA, HK1, HO_8, HB⟩ := hrel
   cases gk with
   | zero => exact absurd HA.out (by simp [warplaw5_PlayEnds.l0])
   | succ k1 =>
    have H := HA.out
    clear HA
    simp only [warplaw5_PlayEnds.l0] at H
    by_cases c9 : x10_1 < (t214.length : Int)
    ·
     rw [if_pos c9] at H
     have c9b0 : decide (x10_1 < (t214.length : Int)) = true := decide_eq_true c9
     clear c9
     by_cases c10 : 0 ≤ x10_1
     ·
      rw [if_pos c10] at H
      have c10b0 : decide (0 ≤ x10_1) = true := decide_eq_true c10
      clear c10
      have H' := Aside0.mk H
      clear H
      obtain ⟨Ao11, co11, eo11⟩ := Kd.S_slice HO_8.out
      subst eo11
      have p217 : 0 ≤ (x10_1 : Int) := of_decide_eq_true (by first | (with_reducible assumption) | assumption)
      have q217 : x10_1 < (t214.length : Int) := of_decide_eq_true (by first | (with_reducible assumption) | assumption)
      obtain ⟨ad217, A217_0, c217_0, e217, hx217_0, hl217_0, hi217_0⟩ := at_L2 (Kd.S_reads' HO_8.out).2.2 x10_1 p217 q217
      cases e217
      obtain ⟨ce217, hce217, hMe217, hcc217⟩ := Kd.S_get HO_8.out [] x10_1 p217 (by first | exact q217 | exact of_decide_eq_true (by first | (with_reducible assumption) | assumption) | (have e_ := (Kd.S_reads' HO_8.out).1; omega))
      obtain ⟨ve217_0, rfl, ge217_0⟩ := hMe217
      have hv217_0 := hcc217 0 _ rfl
      rw [Nat.add_zero, show ((Kd.slice 40 k40)).sz = 1 from rfl, Nat.mul_one] at hv217_0
      replace hv217_0 := Option.some.inj (hv217_0.symm.trans hx217_0)
      rw [hv217_0] at ge217_0
      have HL217_0 := Aside0.mk (show Kd.R k40 40 _ _ _ _ (rd_L2 t214 x10_1) from ge217_0)
      clear hv217_0 ge217_0
      clear hcc217 hce217
      have HR217_0 := Aside0.mk hi217_0
      have HC217_0 := Aside0.mk hl217_0
      clear hi217_0 hl217_0
      replace p217 := eq_true p217
      replace q217 := eq_true q217
      go_wp2
      go_roundg k1
      case measure => have := HK1.out; omega
      case rel => exact ⟨(wrap64 (x9_1 + ((rd_L2 t214 x10_1).length : Int))), (wrap64 (x10_1 + 1)), (by first | rfl | (simp; done) | (simp [*]; done)), (by first | rfl | (simp; done) | (simp [*]; done)), H', ⟨by have := HK1.out; omega⟩, ⟨by (with_reducible repeat (first | apply Kd.S_alloc | apply Kd.S_drewN | apply Kd.S_drew)); exact HO_8.out⟩, ⟨by repeat (first | (with_reducible first | exact HB.out | apply below_alloc | apply pw_below_drewN | apply below_drew1) | exact HB.out)⟩⟩
     ·
      rw [if_neg c10] at H
      exact absurd H (by simp)
    ·
     rw [if_neg c9] at H
     have c9b0 : decide (x10_1 < (t214.length : Int)) = false := decide_eq_false c9
     clear c9
     replace H := Option.bind_eq_some_iff.mp H
     obtain ⟨t218, A120, H⟩ := H
     replace H : ((play_Play.f t218 t214 l2).bind fun bt221 => (if (bt221.1.length : Int) = x9_1 then (if (bt221.2.1.length : Int) = (1 + ((l0.length : Int) % 16)) then (if bt221.2.2 ≥ x9_1 then (if bt221.2.2 ≤ (wrap64 ((wrap64 (100 * (wrap64 (x9_1 + 1)))) * (wrap64 ((1 + ((l0.length : Int) % 16)) + 1)))) then ((warplaw5_awake.f k1).bind fun t228 => (some t228)) else (some false)) else (some false)) else (some false)) else (some false))) = some r := H
     have A12 := Aside0.mk A120
     clear A120
     replace H := Option.bind_eq_some_iff.mp H
     obtain ⟨⟨t221, t222, t223⟩, A130, H⟩ := H
     replace H : (if (t221.length : Int) = x9_1 then (if (t222.length : Int) = (1 + ((l0.length : Int) % 16)) then (if t223 ≥ x9_1 then (if t223 ≤ (wrap64 ((wrap64 (100 * (wrap64 (x9_1 + 1)))) * (wrap64 ((1 + ((l0.length : Int) % 16)) + 1)))) then ((warplaw5_awake.f k1).bind fun t228 => (some t228)) else (some false)) else (some false)) else (some false)) else (some false)) = some r := H
     have A13 := Aside0.mk A130
     clear A130
     by_cases c14 : (t221.length : Int) = x9_1
     ·
      rw [if_pos c14] at H
      have c14b0 : ((t221.length : Int) == x9_1) = true := beq_iff_eq.mpr c14
      have c14b1 : ((t221.length : Int) != x9_1) = false := bne_eq_false_iff_eq.mpr c14
      clear c14
      by_cases c15 : (t222.length : Int) = (1 + ((l0.length : Int) % 16))
      ·
       rw [if_pos c15] at H
       have c15b0 : ((t222.length : Int) == (1 + ((l0.length : Int) % 16))) = true := beq_iff_eq.mpr c15
       have c15b1 : ((t222.length : Int) != (1 + ((l0.length : Int) % 16))) = false := bne_eq_false_iff_eq.mpr c15
       clear c15
       by_cases c16 : t223 ≥ x9_1
       ·
        rw [if_pos c16] at H
        have c16b0 : decide (x9_1 ≤ t223) = true := decide_eq_true c16
        clear c16
        by_cases c17 : t223 ≤ (wrap64 ((wrap64 (100 * (wrap64 (x9_1 + 1)))) * (wrap64 ((1 + ((l0.length : Int) % 16)) + 1))))
        ·
         rw [if_pos c17] at H
         have c17b0 : decide (t223 ≤ (wrap64 ((wrap64 (100 * (wrap64 (x9_1 + 1)))) * (wrap64 ((1 + ((l0.length : Int) % 16)) + 1))))) = true := decide_eq_true c17
         rw [show (wrap64 ((1 + ((l0.length : Int) % 16)) + 1)) = (1 + ((l0.length : Int) % 16)) + 1 from wr64 (by omega) (by omega)] at c17b0
         clear c17
         replace H := Option.bind_eq_some_iff.mp H
         obtain ⟨t228, A180, H⟩ := H
         replace H : (some t228) = some r := H
         have A18 := Aside0.mk A180
         clear A180
         obtain rfl := Option.some.inj H
         obtain ⟨Ao19, co19, eo19⟩ := Kd.S_slice HO_8.out
         subst eo19
         go_wp2_with (first | ((with_reducible refine gate_callee (f := 15) rfl ?_); refine goesL_ (some 41) rfl rfl Tryd.func15 (by kernel_rfl) rfl #[.slice A0 l0.length c0, .int .i64 (1 + ((l0.length : Int) % 16))] rfl (by (try simp only [List.map_toArray, List.map_cons, List.map_nil]); first | done | rfl | (simp only [List.length_drop, List.length_take]; rfl)) ?_; (with_reducible refine (warplaw4_Prio.calls k1 _ _ l0 (1 + ((l0.length : Int) % 16)) t218 _ ?side1 ?side2 A12.out).mono ?_); (case side1 => repeat (first | exact (Kd.C_below HR0.out HB.out) | (with_reducible refine Kd.C_alloc ?_ _) | (with_reducible refine Kd.C_drewN ?_ _) | (with_reducible refine Kd.C_drew ?_))); (case side2 => exact HC0.out); rintro e w20 ⟨v219, rfl, ho0, hb⟩; refine ⟨_, rfl, ?_⟩; have n0_ := Aside0.mk (Kd.S_below (by (with_reducible repeat (first | apply Kd.S_alloc | apply Kd.S_drewN | apply Kd.S_drew)); exact HO_8.out) hb); have n1_ := Aside0.mk (Kd.R_lower ho0 (below_size (by repeat (first | (with_reducible first | exact HB.out | apply below_alloc | apply pw_below_drewN | apply below_drew1) | exact HB.out)))); have n2_ := Aside0.mk (below_step (by repeat (first | (with_reducible first | exact HB.out | apply below_alloc | apply pw_below_drewN | apply below_drew1) | exact HB.out)) hb); clear HO_8; clear HB; have HO_8 := n0_; have HO220 := n1_; have HB := n2_; clear n0_ n1_ n2_; (try clear hb); (try clear hb2); (try clear hk); (try clear hi); (try clear ho0); obtain ⟨Ao21, co21, eo21⟩ := Kd.R_slice HO220.out; subst eo21) | ((with_reducible refine gate_callee (f := 11) rfl ?_); refine goesL_ (some 44) rfl rfl Tryd.func11 (by kernel_rfl) rfl #[.slice Ao21 t218.length co21, .slice Ao19 t214.length co19, .slice A2 l2.length c2] rfl (by (try simp only [List.map_toArray, List.map_cons, List.map_nil]); first | done | rfl | (simp only [List.length_drop, List.length_take]; rfl)) ?_; (with_reducible refine (play_Play.calls _ _ t218 _ _ t214 _ _ l2 t221 t222 t223 _ ?side1 ?side2 ?side3 ?side4 ?side5 ?side6 A13.out).mono ?_); (case side1 => repeat (first | exact (Kd.R_reads' HO220.out).2.2 | (with_reducible refine Kd.C_alloc ?_ _) | (with_reducible refine Kd.C_drewN ?_ _) | (with_reducible refine Kd.C_drew ?_))); (case side2 => exact (Kd.R_reads' HO220.out).2.1); (case side3 => repeat (first | exact (Kd.S_reads' HO_8.out).2.2 | (with_reducible refine Kd.C_alloc ?_ _) | (with_reducible refine Kd.C_drewN ?_ _) | (with_reducible refine Kd.C_drew ?_))); (case side4 => exact (Kd.S_reads' HO_8.out).2.1); (case side5 => repeat (first | exact (Kd.C_below HR2.out HB.out) | (with_reducible refine Kd.C_alloc ?_ _) | (with_reducible refine Kd.C_drewN ?_ _) | (with_reducible refine Kd.C_drew ?_))); (case side6 => exact HC2.out); rintro e w22 ⟨v224, v226, rfl, ho0, ho1, hb⟩; refine ⟨_, rfl, ?_⟩; have n0_ := Aside0.mk (Kd.S_below (by (with_reducible repeat (first | apply Kd.S_alloc | apply Kd.S_drewN | apply Kd.S_drew)); exact HO_8.out) hb); have n1_ := Aside0.mk (Kd.R_elder' (by (with_reducible repeat (first | apply Kd.R_alloc | apply Kd.R_drewN | apply Kd.R_drew)); exact HO220.out) (Kd.R_base ho1) hb); have n2_ := Aside0.mk (Kd.R_lower ho0 (below_size (by repeat (first | (with_reducible first | exact HB.out | apply below_alloc | apply pw_below_drewN | apply below_drew1) | exact HB.out)))); have n3_ := Aside0.mk (Kd.R_lower (Kd.R_new' ho1 (Kd.R_lt (by (with_reducible repeat (first | apply Kd.R_alloc | apply Kd.R_drewN | apply Kd.R_drew)); exact HO220.out))) (below_size (by repeat (first | (with_reducible first | exact HB.out | apply below_alloc | apply pw_below_drewN | apply below_drew1) | exact HB.out)))); have n4_ := Aside0.mk (below_step (by repeat (first | (with_reducible first | exact HB.out | apply below_alloc | apply pw_below_drewN | apply below_drew1) | exact HB.out)) hb); clear HO_8; clear HO220; clear HB; have HO_8 := n0_; have HO220 := n1_; have HO225 := n2_; have HO227 := n3_; have HB := n4_; clear n0_ n1_ n2_ n3_ n4_; (try clear hb); (try clear hb2); (try clear hk); (try clear hi); (try clear ho0); (try clear ho1); obtain ⟨Ao23, co23, eo23⟩ := Kd.R_slice HO225.out; subst eo23; obtain ⟨Ao24, co24, eo24⟩ := Kd.R_slice HO227.out; subst eo24) | (go_at_call 10; (with_reducible refine (warplaw5_awake.calls k1  t228 _ A18.out).mono ?_); rintro e w25 ⟨rfl, hb⟩; have n0_ := Aside0.mk (Kd.S_below (by (with_reducible repeat (first | apply Kd.S_alloc | apply Kd.S_drewN | apply Kd.S_drew)); exact HO_8.out) hb); have n1_ := Aside0.mk (Kd.R_below (by (with_reducible repeat (first | apply Kd.R_alloc | apply Kd.R_drewN | apply Kd.R_drew)); exact HO220.out) hb); have n2_ := Aside0.mk (Kd.R_below (by (with_reducible repeat (first | apply Kd.R_alloc | apply Kd.R_drewN | apply Kd.R_drew)); exact HO225.out) hb); have n3_ := Aside0.mk (Kd.R_below (by (with_reducible repeat (first | apply Kd.R_alloc | apply Kd.R_drewN | apply Kd.R_drew)); exact HO227.out) hb); have n4_ := Aside0.mk (below_step (by repeat (first | (with_reducible first | exact HB.out | apply below_alloc | apply pw_below_drewN | apply below_drew1) | exact HB.out)) hb); clear HO_8; clear HO220; clear HO225; clear HO227; clear HB; have HO_8 := n0_; have HO220 := n1_; have HO225 := n2_; have HO227 := n3_; have HB := n4_; clear n0_ n1_ n2_ n3_ n4_; (try clear hb); (try clear hb2); (try clear hk); (try clear hi)))
         go_ret
         exact ⟨by first | rfl | (simp [errW_none, errW_some] <;> rfl) | (simp [*, errW_none, errW_some] <;> rfl), by repeat (first | (with_reducible first | exact HB.out | apply below_alloc | apply pw_below_drewN | apply below_drew1) | exact HB.out)⟩
        ·
         rw [if_neg c17] at H
         have c17b0 : decide (t223 ≤ (wrap64 ((wrap64 (100 * (wrap64 (x9_1 + 1)))) * (wrap64 ((1 + ((l0.length : Int) % 16)) + 1))))) = false := decide_eq_false c17
         rw [show (wrap64 ((1 + ((l0.length : Int) % 16)) + 1)) = (1 + ((l0.length : Int) % 16)) + 1 from wr64 (by omega) (by omega)] at c17b0
         clear c17
         obtain rfl := Option.some.inj H
         obtain ⟨Ao26, co26, eo26⟩ := Kd.S_slice HO_8.out
         subst eo26
         go_wp2_with (first | ((with_reducible refine gate_callee (f := 15) rfl ?_); refine goesL_ (some 41) rfl rfl Tryd.func15 (by kernel_rfl) rfl #[.slice A0 l0.length c0, .int .i64 (1 + ((l0.length : Int) % 16))] rfl (by (try simp only [List.map_toArray, List.map_cons, List.map_nil]); first | done | rfl | (simp only [List.length_drop, List.length_take]; rfl)) ?_; (with_reducible refine (warplaw4_Prio.calls k1 _ _ l0 (1 + ((l0.length : Int) % 16)) t218 _ ?side1 ?side2 A12.out).mono ?_); (case side1 => repeat (first | exact (Kd.C_below HR0.out HB.out) | (with_reducible refine Kd.C_alloc ?_ _) | (with_reducible refine Kd.C_drewN ?_ _) | (with_reducible refine Kd.C_drew ?_))); (case side2 => exact HC0.out); rintro e w27 ⟨v219, rfl, ho0, hb⟩; refine ⟨_, rfl, ?_⟩; have n0_ := Aside0.mk (Kd.S_below (by (with_reducible repeat (first | apply Kd.S_alloc | apply Kd.S_drewN | apply Kd.S_drew)); exact HO_8.out) hb); have n1_ := Aside0.mk (Kd.R_lower ho0 (below_size (by repeat (first | (with_reducible first | exact HB.out | apply below_alloc | apply pw_below_drewN | apply below_drew1) | exact HB.out)))); have n2_ := Aside0.mk (below_step (by repeat (first | (with_reducible first | exact HB.out | apply below_alloc | apply pw_below_drewN | apply below_drew1) | exact HB.out)) hb); clear HO_8; clear HB; have HO_8 := n0_; have HO220 := n1_; have HB := n2_; clear n0_ n1_ n2_; (try clear hb); (try clear hb2); (try clear hk); (try clear hi); (try clear ho0); obtain ⟨Ao28, co28, eo28⟩ := Kd.R_slice HO220.out; subst eo28) | ((with_reducible refine gate_callee (f := 11) rfl ?_); refine goesL_ (some 44) rfl rfl Tryd.func11 (by kernel_rfl) rfl #[.slice Ao28 t218.length co28, .slice Ao26 t214.length co26, .slice A2 l2.length c2] rfl (by (try simp only [List.map_toArray, List.map_cons, List.map_nil]); first | done | rfl | (simp only [List.length_drop, List.length_take]; rfl)) ?_; (with_reducible refine (play_Play.calls _ _ t218 _ _ t214 _ _ l2 t221 t222 t223 _ ?side1 ?side2 ?side3 ?side4 ?side5 ?side6 A13.out).mono ?_); (case side1 => repeat (first | exact (Kd.R_reads' HO220.out).2.2 | (with_reducible refine Kd.C_alloc ?_ _) | (with_reducible refine Kd.C_drewN ?_ _) | (with_reducible refine Kd.C_drew ?_))); (case side2 => exact (Kd.R_reads' HO220.out).2.1); (case side3 => repeat (first | exact (Kd.S_reads' HO_8.out).2.2 | (with_reducible refine Kd.C_alloc ?_ _) | (with_reducible refine Kd.C_drewN ?_ _) | (with_reducible refine Kd.C_drew ?_))); (case side4 => exact (Kd.S_reads' HO_8.out).2.1); (case side5 => repeat (first | exact (Kd.C_below HR2.out HB.out) | (with_reducible refine Kd.C_alloc ?_ _) | (with_reducible refine Kd.C_drewN ?_ _) | (with_reducible refine Kd.C_drew ?_))); (case side6 => exact HC2.out); rintro e w29 ⟨v224, v226, rfl, ho0, ho1, hb⟩; refine ⟨_, rfl, ?_⟩; have n0_ := Aside0.mk (Kd.S_below (by (with_reducible repeat (first | apply Kd.S_alloc | apply Kd.S_drewN | apply Kd.S_drew)); exact HO_8.out) hb); have n1_ := Aside0.mk (Kd.R_elder' (by (with_reducible repeat (first | apply Kd.R_alloc | apply Kd.R_drewN | apply Kd.R_drew)); exact HO220.out) (Kd.R_base ho1) hb); have n2_ := Aside0.mk (Kd.R_lower ho0 (below_size (by repeat (first | (with_reducible first | exact HB.out | apply below_alloc | apply pw_below_drewN | apply below_drew1) | exact HB.out)))); have n3_ := Aside0.mk (Kd.R_lower (Kd.R_new' ho1 (Kd.R_lt (by (with_reducible repeat (first | apply Kd.R_alloc | apply Kd.R_drewN | apply Kd.R_drew)); exact HO220.out))) (below_size (by repeat (first | (with_reducible first | exact HB.out | apply below_alloc | apply pw_below_drewN | apply below_drew1) | exact HB.out)))); have n4_ := Aside0.mk (below_step (by repeat (first | (with_reducible first | exact HB.out | apply below_alloc | apply pw_below_drewN | apply below_drew1) | exact HB.out)) hb); clear HO_8; clear HO220; clear HB; have HO_8 := n0_; have HO220 := n1_; have HO225 := n2_; have HO227 := n3_; have HB := n4_; clear n0_ n1_ n2_ n3_ n4_; (try clear hb); (try clear hb2); (try clear hk); (try clear hi); (try clear ho0); (try clear ho1); obtain ⟨Ao30, co30, eo30⟩ := Kd.R_slice HO225.out; subst eo30; obtain ⟨Ao31, co31, eo31⟩ := Kd.R_slice HO227.out; subst eo31))
         go_ret
         exact ⟨by first | rfl | (simp [errW_none, errW_some] <;> rfl) | (simp [*, errW_none, errW_some] <;> rfl), by repeat (first | (with_reducible first | exact HB.out | apply below_alloc | apply pw_below_drewN | apply below_drew1) | exact HB.out)⟩
       ·
        rw [if_neg c16] at H
        have c16b0 : decide (x9_1 ≤ t223) = false := decide_eq_false c16
        clear c16
        obtain rfl := Option.some.inj H
        obtain ⟨Ao32, co32, eo32⟩ := Kd.S_slice HO_8.out
        subst eo32
        go_wp2_with (first | ((with_reducible refine gate_callee (f := 15) rfl ?_); refine goesL_ (some 41) rfl rfl Tryd.func15 (by kernel_rfl) rfl #[.slice A0 l0.length c0, .int .i64 (1 + ((l0.length : Int) % 16))] rfl (by (try simp only [List.map_toArray, List.map_cons, List.map_nil]); first | done | rfl | (simp only [List.length_drop, List.length_take]; rfl)) ?_; (with_reducible refine (warplaw4_Prio.calls k1 _ _ l0 (1 + ((l0.length : Int) % 16)) t218 _ ?side1 ?side2 A12.out).mono ?_); (case side1 => repeat (first | exact (Kd.C_below HR0.out HB.out) | (with_reducible refine Kd.C_alloc ?_ _) | (with_reducible refine Kd.C_drewN ?_ _) | (with_reducible refine Kd.C_drew ?_))); (case side2 => exact HC0.out); rintro e w33 ⟨v219, rfl, ho0, hb⟩; refine ⟨_, rfl, ?_⟩; have n0_ := Aside0.mk (Kd.S_below (by (with_reducible repeat (first | apply Kd.S_alloc | apply Kd.S_drewN | apply Kd.S_drew)); exact HO_8.out) hb); have n1_ := Aside0.mk (Kd.R_lower ho0 (below_size (by repeat (first | (with_reducible first | exact HB.out | apply below_alloc | apply pw_below_drewN | apply below_drew1) | exact HB.out)))); have n2_ := Aside0.mk (below_step (by repeat (first | (with_reducible first | exact HB.out | apply below_alloc | apply pw_below_drewN | apply below_drew1) | exact HB.out)) hb); clear HO_8; clear HB; have HO_8 := n0_; have HO220 := n1_; have HB := n2_; clear n0_ n1_ n2_; (try clear hb); (try clear hb2); (try clear hk); (try clear hi); (try clear ho0); obtain ⟨Ao34, co34, eo34⟩ := Kd.R_slice HO220.out; subst eo34) | ((with_reducible refine gate_callee (f := 11) rfl ?_); refine goesL_ (some 44) rfl rfl Tryd.func11 (by kernel_rfl) rfl #[.slice Ao34 t218.length co34, .slice Ao32 t214.length co32, .slice A2 l2.length c2] rfl (by (try simp only [List.map_toArray, List.map_cons, List.map_nil]); first | done | rfl | (simp only [List.length_drop, List.length_take]; rfl)) ?_; (with_reducible refine (play_Play.calls _ _ t218 _ _ t214 _ _ l2 t221 t222 t223 _ ?side1 ?side2 ?side3 ?side4 ?side5 ?side6 A13.out).mono ?_); (case side1 => repeat (first | exact (Kd.R_reads' HO220.out).2.2 | (with_reducible refine Kd.C_alloc ?_ _) | (with_reducible refine Kd.C_drewN ?_ _) | (with_reducible refine Kd.C_drew ?_))); (case side2 => exact (Kd.R_reads' HO220.out).2.1); (case side3 => repeat (first | exact (Kd.S_reads' HO_8.out).2.2 | (with_reducible refine Kd.C_alloc ?_ _) | (with_reducible refine Kd.C_drewN ?_ _) | (with_reducible refine Kd.C_drew ?_))); (case side4 => exact (Kd.S_reads' HO_8.out).2.1); (case side5 => repeat (first | exact (Kd.C_below HR2.out HB.out) | (with_reducible refine Kd.C_alloc ?_ _) | (with_reducible refine Kd.C_drewN ?_ _) | (with_reducible refine Kd.C_drew ?_))); (case side6 => exact HC2.out); rintro e w35 ⟨v224, v226, rfl, ho0, ho1, hb⟩; refine ⟨_, rfl, ?_⟩; have n0_ := Aside0.mk (Kd.S_below (by (with_reducible repeat (first | apply Kd.S_alloc | apply Kd.S_drewN | apply Kd.S_drew)); exact HO_8.out) hb); have n1_ := Aside0.mk (Kd.R_elder' (by (with_reducible repeat (first | apply Kd.R_alloc | apply Kd.R_drewN | apply Kd.R_drew)); exact HO220.out) (Kd.R_base ho1) hb); have n2_ := Aside0.mk (Kd.R_lower ho0 (below_size (by repeat (first | (with_reducible first | exact HB.out | apply below_alloc | apply pw_below_drewN | apply below_drew1) | exact HB.out)))); have n3_ := Aside0.mk (Kd.R_lower (Kd.R_new' ho1 (Kd.R_lt (by (with_reducible repeat (first | apply Kd.R_alloc | apply Kd.R_drewN | apply Kd.R_drew)); exact HO220.out))) (below_size (by repeat (first | (with_reducible first | exact HB.out | apply below_alloc | apply pw_below_drewN | apply below_drew1) | exact HB.out)))); have n4_ := Aside0.mk (below_step (by repeat (first | (with_reducible first | exact HB.out | apply below_alloc | apply pw_below_drewN | apply below_drew1) | exact HB.out)) hb); clear HO_8; clear HO220; clear HB; have HO_8 := n0_; have HO220 := n1_; have HO225 := n2_; have HO227 := n3_; have HB := n4_; clear n0_ n1_ n2_ n3_ n4_; (try clear hb); (try clear hb2); (try clear hk); (try clear hi); (try clear ho0); (try clear ho1); obtain ⟨Ao36, co36, eo36⟩ := Kd.R_slice HO225.out; subst eo36; obtain ⟨Ao37, co37, eo37⟩ := Kd.R_slice HO227.out; subst eo37))
        go_ret
        exact ⟨by first | rfl | (simp [errW_none, errW_some] <;> rfl) | (simp [*, errW_none, errW_some] <;> rfl), by repeat (first | (with_reducible first | exact HB.out | apply below_alloc | apply pw_below_drewN | apply below_drew1) | exact HB.out)⟩
      ·
       rw [if_neg c15] at H
       have c15b0 : ((t222.length : Int) == (1 + ((l0.length : Int) % 16))) = false := beq_eq_false_iff_ne.mpr c15
       have c15b1 : ((t222.length : Int) != (1 + ((l0.length : Int) % 16))) = true := bne_iff_ne.mpr c15
       obtain rfl := Option.some.inj H
       obtain ⟨Ao38, co38, eo38⟩ := Kd.S_slice HO_8.out
       subst eo38
       go_wp2_with (first | ((with_reducible refine gate_callee (f := 15) rfl ?_); refine goesL_ (some 41) rfl rfl Tryd.func15 (by kernel_rfl) rfl #[.slice A0 l0.length c0, .int .i64 (1 + ((l0.length : Int) % 16))] rfl (by (try simp only [List.map_toArray, List.map_cons, List.map_nil]); first | done | rfl | (simp only [List.length_drop, List.length_take]; rfl)) ?_; (with_reducible refine (warplaw4_Prio.calls k1 _ _ l0 (1 + ((l0.length : Int) % 16)) t218 _ ?side1 ?side2 A12.out).mono ?_); (case side1 => repeat (first | exact (Kd.C_below HR0.out HB.out) | (with_reducible refine Kd.C_alloc ?_ _) | (with_reducible refine Kd.C_drewN ?_ _) | (with_reducible refine Kd.C_drew ?_))); (case side2 => exact HC0.out); rintro e w39 ⟨v219, rfl, ho0, hb⟩; refine ⟨_, rfl, ?_⟩; have n0_ := Aside0.mk (Kd.S_below (by (with_reducible repeat (first | apply Kd.S_alloc | apply Kd.S_drewN | apply Kd.S_drew)); exact HO_8.out) hb); have n1_ := Aside0.mk (Kd.R_lower ho0 (below_size (by repeat (first | (with_reducible first | exact HB.out | apply below_alloc | apply pw_below_drewN | apply below_drew1) | exact HB.out)))); have n2_ := Aside0.mk (below_step (by repeat (first | (with_reducible first | exact HB.out | apply below_alloc | apply pw_below_drewN | apply below_drew1) | exact HB.out)) hb); clear HO_8; clear HB; have HO_8 := n0_; have HO220 := n1_; have HB := n2_; clear n0_ n1_ n2_; (try clear hb); (try clear hb2); (try clear hk); (try clear hi); (try clear ho0); obtain ⟨Ao40, co40, eo40⟩ := Kd.R_slice HO220.out; subst eo40) | ((with_reducible refine gate_callee (f := 11) rfl ?_); refine goesL_ (some 44) rfl rfl Tryd.func11 (by kernel_rfl) rfl #[.slice Ao40 t218.length co40, .slice Ao38 t214.length co38, .slice A2 l2.length c2] rfl (by (try simp only [List.map_toArray, List.map_cons, List.map_nil]); first | done | rfl | (simp only [List.length_drop, List.length_take]; rfl)) ?_; (with_reducible refine (play_Play.calls _ _ t218 _ _ t214 _ _ l2 t221 t222 t223 _ ?side1 ?side2 ?side3 ?side4 ?side5 ?side6 A13.out).mono ?_); (case side1 => repeat (first | exact (Kd.R_reads' HO220.out).2.2 | (with_reducible refine Kd.C_alloc ?_ _) | (with_reducible refine Kd.C_drewN ?_ _) | (with_reducible refine Kd.C_drew ?_))); (case side2 => exact (Kd.R_reads' HO220.out).2.1); (case side3 => repeat (first | exact (Kd.S_reads' HO_8.out).2.2 | (with_reducible refine Kd.C_alloc ?_ _) | (with_reducible refine Kd.C_drewN ?_ _) | (with_reducible refine Kd.C_drew ?_))); (case side4 => exact (Kd.S_reads' HO_8.out).2.1); (case side5 => repeat (first | exact (Kd.C_below HR2.out HB.out) | (with_reducible refine Kd.C_alloc ?_ _) | (with_reducible refine Kd.C_drewN ?_ _) | (with_reducible refine Kd.C_drew ?_))); (case side6 => exact HC2.out); rintro e w41 ⟨v224, v226, rfl, ho0, ho1, hb⟩; refine ⟨_, rfl, ?_⟩; have n0_ := Aside0.mk (Kd.S_below (by (with_reducible repeat (first | apply Kd.S_alloc | apply Kd.S_drewN | apply Kd.S_drew)); exact HO_8.out) hb); have n1_ := Aside0.mk (Kd.R_elder' (by (with_reducible repeat (first | apply Kd.R_alloc | apply Kd.R_drewN | apply Kd.R_drew)); exact HO220.out) (Kd.R_base ho1) hb); have n2_ := Aside0.mk (Kd.R_lower ho0 (below_size (by repeat (first | (with_reducible first | exact HB.out | apply below_alloc | apply pw_below_drewN | apply below_drew1) | exact HB.out)))); have n3_ := Aside0.mk (Kd.R_lower (Kd.R_new' ho1 (Kd.R_lt (by (with_reducible repeat (first | apply Kd.R_alloc | apply Kd.R_drewN | apply Kd.R_drew)); exact HO220.out))) (below_size (by repeat (first | (with_reducible first | exact HB.out | apply below_alloc | apply pw_below_drewN | apply below_drew1) | exact HB.out)))); have n4_ := Aside0.mk (below_step (by repeat (first | (with_reducible first | exact HB.out | apply below_alloc | apply pw_below_drewN | apply below_drew1) | exact HB.out)) hb); clear HO_8; clear HO220; clear HB; have HO_8 := n0_; have HO220 := n1_; have HO225 := n2_; have HO227 := n3_; have HB := n4_; clear n0_ n1_ n2_ n3_ n4_; (try clear hb); (try clear hb2); (try clear hk); (try clear hi); (try clear ho0); (try clear ho1); obtain ⟨Ao42, co42, eo42⟩ := Kd.R_slice HO225.out; subst eo42; obtain ⟨Ao43, co43, eo43⟩ := Kd.R_slice HO227.out; subst eo43))
       go_ret
       exact ⟨by first | rfl | (simp [errW_none, errW_some] <;> rfl) | (simp [*, errW_none, errW_some] <;> rfl), by repeat (first | (with_reducible first | exact HB.out | apply below_alloc | apply pw_below_drewN | apply below_drew1) | exact HB.out)⟩
     ·
      rw [if_neg c14] at H
      have c14b0 : ((t221.length : Int) == x9_1) = false := beq_eq_false_iff_ne.mpr c14
      have c14b1 : ((t221.length : Int) != x9_1) = true := bne_iff_ne.mpr c14
      obtain rfl := Option.some.inj H
      obtain ⟨Ao44, co44, eo44⟩ := Kd.S_slice HO_8.out
      subst eo44
      go_wp2_with (first | ((with_reducible refine gate_callee (f := 15) rfl ?_); refine goesL_ (some 41) rfl rfl Tryd.func15 (by kernel_rfl) rfl #[.slice A0 l0.length c0, .int .i64 (1 + ((l0.length : Int) % 16))] rfl (by (try simp only [List.map_toArray, List.map_cons, List.map_nil]); first | done | rfl | (simp only [List.length_drop, List.length_take]; rfl)) ?_; (with_reducible refine (warplaw4_Prio.calls k1 _ _ l0 (1 + ((l0.length : Int) % 16)) t218 _ ?side1 ?side2 A12.out).mono ?_); (case side1 => repeat (first | exact (Kd.C_below HR0.out HB.out) | (with_reducible refine Kd.C_alloc ?_ _) | (with_reducible refine Kd.C_drewN ?_ _) | (with_reducible refine Kd.C_drew ?_))); (case side2 => exact HC0.out); rintro e w45 ⟨v219, rfl, ho0, hb⟩; refine ⟨_, rfl, ?_⟩; have n0_ := Aside0.mk (Kd.S_below (by (with_reducible repeat (first | apply Kd.S_alloc | apply Kd.S_drewN | apply Kd.S_drew)); exact HO_8.out) hb); have n1_ := Aside0.mk (Kd.R_lower ho0 (below_size (by repeat (first | (with_reducible first | exact HB.out | apply below_alloc | apply pw_below_drewN | apply below_drew1) | exact HB.out)))); have n2_ := Aside0.mk (below_step (by repeat (first | (with_reducible first | exact HB.out | apply below_alloc | apply pw_below_drewN | apply below_drew1) | exact HB.out)) hb); clear HO_8; clear HB; have HO_8 := n0_; have HO220 := n1_; have HB := n2_; clear n0_ n1_ n2_; (try clear hb); (try clear hb2); (try clear hk); (try clear hi); (try clear ho0); obtain ⟨Ao46, co46, eo46⟩ := Kd.R_slice HO220.out; subst eo46) | ((with_reducible refine gate_callee (f := 11) rfl ?_); refine goesL_ (some 44) rfl rfl Tryd.func11 (by kernel_rfl) rfl #[.slice Ao46 t218.length co46, .slice Ao44 t214.length co44, .slice A2 l2.length c2] rfl (by (try simp only [List.map_toArray, List.map_cons, List.map_nil]); first | done | rfl | (simp only [List.length_drop, List.length_take]; rfl)) ?_; (with_reducible refine (play_Play.calls _ _ t218 _ _ t214 _ _ l2 t221 t222 t223 _ ?side1 ?side2 ?side3 ?side4 ?side5 ?side6 A13.out).mono ?_); (case side1 => repeat (first | exact (Kd.R_reads' HO220.out).2.2 | (with_reducible refine Kd.C_alloc ?_ _) | (with_reducible refine Kd.C_drewN ?_ _) | (with_reducible refine Kd.C_drew ?_))); (case side2 => exact (Kd.R_reads' HO220.out).2.1); (case side3 => repeat (first | exact (Kd.S_reads' HO_8.out).2.2 | (with_reducible refine Kd.C_alloc ?_ _) | (with_reducible refine Kd.C_drewN ?_ _) | (with_reducible refine Kd.C_drew ?_))); (case side4 => exact (Kd.S_reads' HO_8.out).2.1); (case side5 => repeat (first | exact (Kd.C_below HR2.out HB.out) | (with_reducible refine Kd.C_alloc ?_ _) | (with_reducible refine Kd.C_drewN ?_ _) | (with_reducible refine Kd.C_drew ?_))); (case side6 => exact HC2.out); rintro e w47 ⟨v224, v226, rfl, ho0, ho1, hb⟩; refine ⟨_, rfl, ?_⟩; have n0_ := Aside0.mk (Kd.S_below (by (with_reducible repeat (first | apply Kd.S_alloc | apply Kd.S_drewN | apply Kd.S_drew)); exact HO_8.out) hb); have n1_ := Aside0.mk (Kd.R_elder' (by (with_reducible repeat (first | apply Kd.R_alloc | apply Kd.R_drewN | apply Kd.R_drew)); exact HO220.out) (Kd.R_base ho1) hb); have n2_ := Aside0.mk (Kd.R_lower ho0 (below_size (by repeat (first | (with_reducible first | exact HB.out | apply below_alloc | apply pw_below_drewN | apply below_drew1) | exact HB.out)))); have n3_ := Aside0.mk (Kd.R_lower (Kd.R_new' ho1 (Kd.R_lt (by (with_reducible repeat (first | apply Kd.R_alloc | apply Kd.R_drewN | apply Kd.R_drew)); exact HO220.out))) (below_size (by repeat (first | (with_reducible first | exact HB.out | apply below_alloc | apply pw_below_drewN | apply below_drew1) | exact HB.out)))); have n4_ := Aside0.mk (below_step (by repeat (first | (with_reducible first | exact HB.out | apply below_alloc | apply pw_below_drewN | apply below_drew1) | exact HB.out)) hb); clear HO_8; clear HO220; clear HB; have HO_8 := n0_; have HO220 := n1_; have HO225 := n2_; have HO227 := n3_; have HB := n4_; clear n0_ n1_ n2_ n3_ n4_; (try clear hb); (try clear hb2); (try clear hk); (try clear hi); (try clear ho0); (try clear ho1); obtain ⟨Ao48, co48, eo48⟩ := Kd.R_slice HO225.out; subst eo48))
      go_ret
      exact ⟨by first | rfl | (simp [errW_none, errW_some] <;> rfl) | (simp [*, errW_none, errW_some] <;> rfl), by repeat (first | (with_reducible first | exact HB.out | apply below_alloc | apply pw_below_drewN | apply below_drew1) | exact HB.out)⟩
def warplaw5_PlayEnds.Pure : Prop := ∀ (l0 : List Int) (l1 : List (List Int)) (l2 : List Int), ((fun l : List Int => l.length ≤ maxLen ∧ ∀ x ∈ l, (fun n : Int => (Lit.int .u8 n).wf = true) x) l0) → ((fun l : List (List Int) => l.length ≤ maxLen ∧ ∀ x ∈ l, (fun l : List Int => l.length ≤ maxLen ∧ ∀ x ∈ l, (fun n : Int => (Lit.int .u8 n).wf = true) x) x) l1) → ((fun l : List Int => l.length ≤ maxLen ∧ ∀ x ∈ l, (fun n : Int => (Lit.int .i64 n).wf = true) x) l2) → ∃ k, warplaw5_PlayEnds.f k l0 l1 l2 = some true
end Go.Proofs.YtmaiicpaalbcfaaDoor.P
end
section
namespace Go.Proofs.YtmaiicpaalbcfaaDoor.Pure
open Go.RowKit Go.Proofs.YtmaiicpaalbcfaaDoor.P Go.Proofs.YtmaiicpaalbcfaaDoorW.PrintWords Go.Proofs.YtmaiicpaalbcfaaDoorW.PrintLast Go.Proofs.YtmaiicpaalbcfaaDoor
theorem awake5_at : warplaw5_awake.f 5 = some true := by kernel_rfl
theorem awake5 : Ev (fun k => warplaw5_awake.f k) true := Ev.of warplaw5_awake.mono awake5_at
end Go.Proofs.YtmaiicpaalbcfaaDoor.Pure
end
section
namespace Go.Proofs.YtmaiicpaalbcfaaDoor
open Go.RowKit
def LT (p : List Int) (x y : Nat) : Prop := belowB p x y = true
theorem lt_iff (p : List Int) (x y : Nat) : LT p x y ↔ (p.getD x 0 < p.getD y 0 ∨ (p.getD x 0 = p.getD y 0 ∧ x < y)) := by
  simp [LT, belowB, lowB]
theorem lt_irrefl (p : List Int) (x : Nat) : ¬ LT p x x := by
  rw [lt_iff]
  omega
theorem lt_trans {p : List Int} {x y z : Nat} (h1 : LT p x y) (h2 : LT p y z) : LT p x z := by
  rw [lt_iff] at *
  omega
theorem lt_total (p : List Int) {x y : Nat} (h : x ≠ y) : LT p x y ∨ LT p y x := by
  simp only [lt_iff]
  omega
theorem countP_le {q r : Nat → Bool} : ∀ (l : List Nat), (∀ z ∈ l, q z = true → r z = true) → l.countP q ≤ l.countP r
  | [], _ => by simp
  | z :: l, h => by
    have ih := countP_le l (fun y hy => h y (by simp [hy]))
    have h0 := h z (by simp)
    rw [List.countP_cons, List.countP_cons]
    by_cases e : q z = true
    · rw [if_pos e, if_pos (h0 e)]; omega
    · rw [if_neg e]
      split <;> omega
theorem countP_lt {q r : Nat → Bool} : ∀ (l : List Nat) (y : Nat), y ∈ l → q y = false → r y = true → (∀ z ∈ l, q z = true → r z = true) → l.countP q < l.countP r
  | [], _, h, _, _, _ => absurd h (by simp)
  | z :: l, y, hy, h1, h2, h => by
    rw [List.countP_cons, List.countP_cons]
    rcases List.mem_cons.1 hy with rfl | hy'
    · have := countP_le l (fun y hy => h y (by simp [hy]))
      simp only [h1, h2, if_true]
      simp
      omega
    · have ih := countP_lt l y hy' h1 h2 (fun y hy => h y (by simp [hy]))
      have h0 := h z (by simp)
      by_cases e : q z = true
      · rw [if_pos e, if_pos (h0 e)]; omega
      · rw [if_neg e]
        split <;> omega
def above (p : List Int) (n x : Nat) : Nat := (List.range n).countP fun (z : Nat) => belowB p x z
theorem above_lt {p : List Int} {n x y : Nat} (hy : y < n) (h : LT p x y) : above p n y < above p n x :=
  countP_lt (List.range n) y (by simpa using hy) (by have := lt_irrefl p y; unfold LT at this; simpa using this) h (fun _ _ hz => lt_trans h hz)
theorem above_n {p : List Int} {n x : Nat} (hx : x < n) : above p n x < n := by
  have h := countP_lt (q := fun (z : Nat) => belowB p x z) (r := fun _ => true) (List.range n) x (by simpa using hx) (by have := lt_irrefl p x; unfold LT at this; simpa using this) rfl (fun _ _ _ => rfl)
  have e : (List.range n).countP (fun _ => true) = n := by simp
  rw [e] at h
  exact h
def stepUp (up : List Int) (c : Nat) : Nat := if up.getD c 0 ≠ c ∧ 0 ≤ up.getD c 0 ∧ up.getD c 0 < up.length then (up.getD c 0).toNat else c
theorem stepUp_lt {up : List Int} {c : Nat} (h : c < up.length) : stepUp up c < up.length := by unfold stepUp; split <;> omega
def Ok (up p : List Int) : Prop := up.length = p.length ∧ up.length ≤ 65536 ∧ ∀ j, j < up.length → ∃ y : Nat, up.getD j 0 = y ∧ y < up.length ∧ (y = j ∨ LT p j y)
theorem Ok.step {up p : List Int} (h : Ok up p) {c : Nat} (hc : c < up.length) : up.getD c 0 = stepUp up c ∧ (stepUp up c = c ∨ LT p c (stepUp up c)) := by
  obtain ⟨y, hy, h1, h2⟩ := h.2.2 c hc
  unfold stepUp
  rw [hy]
  by_cases e : (y : Int) = c
  · rw [if_neg (by omega)]
    exact ⟨e, .inl rfl⟩
  · rw [if_pos (by omega)]
    refine ⟨by simp, ?_⟩
    simp only [Int.toNat_natCast]
    rcases h2 with h2 | h2
    · omega
    · exact .inr h2
end Go.Proofs.YtmaiicpaalbcfaaDoor
end
section
namespace Go.Proofs.YtmaiicpaalbcfaaDoor
open Go.RowKit
structure Ord (p : List Int) (t : T) : Prop where
  a : t.is = false → (t.s = 2 ∨ t.s = 3) → LT p t.u.toNat t.w.toNat
  b : t.is = false → t.s = 3 → LT p t.w.toNat t.r.toNat
  c : t.is = false → (t.s = 5 ∨ t.s = 6) → LT p t.v.toNat t.w.toNat
  d : t.is = false → t.s = 6 → LT p t.w.toNat t.r.toNat
  e : t.is = false → (t.s = 7 ∨ t.s = 8) → t.u ≠ t.v
theorem at_nat (up : List Int) (j : Nat) : at_ up (j : Int) = up.getD j 0 := by simp [at_]
theorem Ok.at {up p : List Int} (h : Ok up p) {x : Int} (hx : In up.length x) : In up.length (at_ up x) ∧ (at_ up x ≠ x → LT p x.toNat (at_ up x).toNat) := by
  obtain ⟨j, rfl⟩ := Int.eq_ofNat_of_zero_le hx.1
  have hj : j < up.length := by have := hx.2; omega
  have hs := h.step hj
  rw [at_nat, hs.1]
  have := stepUp_lt hj
  refine ⟨⟨by omega, by omega⟩, fun hne => ?_⟩
  simp only [Int.toNat_natCast]
  rcases hs.2 with e | e
  · omega
  · exact e
theorem getD_set (l : List Int) (i j : Nat) (x : Int) (hj : j < l.length) : (l.set i x).getD j 0 = if i = j then x else l.getD j 0 := by
  rw [List.getD_eq_getElem?_getD, List.getD_eq_getElem?_getD, List.getElem?_set]
  split
  · rename_i h
    subst h
    rw [if_pos hj]
    rfl
  · rfl
theorem Ok.set {up p : List Int} (h : Ok up p) {x y : Nat} (hy : y < up.length) (hl : LT p x y) : Ok (up.set x (y : Int)) p := by
  refine ⟨by rw [List.length_set]; exact h.1, by rw [List.length_set]; exact h.2.1, fun j hj => ?_⟩
  rw [List.length_set] at hj ⊢
  rw [getD_set _ _ _ _ hj]
  split
  · rename_i e
    subst e
    exact ⟨y, rfl, hy, .inr hl⟩
  · exact h.2.2 j hj
theorem in_nat {n : Nat} {x : Int} (h : In n x) : ∃ j : Nat, x = (j : Int) ∧ j < n := by
  obtain ⟨j, rfl⟩ := Int.eq_ofNat_of_zero_le h.1
  exact ⟨j, rfl, by have := h.2; omega⟩
theorem Ok.swap {up p : List Int} (h : Ok up p) {x was now : Int} (hx : In up.length x) (hn : In up.length now) (hl : LT p x.toNat now.toNat) : Ok (swapL up x was now) p := by
  obtain ⟨i, rfl, _⟩ := in_nat hx
  obtain ⟨j, rfl, hj⟩ := in_nat hn
  unfold swapL
  split
  · exact h.set hj hl
  · exact h
theorem swapL_len (up : List Int) (a b c : Int) : (swapL up a b c).length = up.length := by unfold swapL; split <;> simp
structure Keeps (n : Int) (p : List Int) (t : T) : Prop where
  fit : Fit n t
  ord : Ord p t
theorem keep_first {n : Int} {p : List Int} {t : T} (k0 : 1 ≤ t.k) (k1 : t.k ≤ 3) (hu : In n t.u) (hv : t.k ≠ 1 → In n t.v) (hs : t.s = 1 ∨ t.s = 2) (hw : t.s = 2 → In n t.w) : Keeps n p (firstT t) := by
  unfold firstT
  split
  · rename_i hk
    refine ⟨⟨k0, k1, hu, hv, ?_, ?_, ?_, ?_, ?_, ?_, ?_⟩, ⟨?_, ?_, ?_, ?_, ?_⟩⟩ <;> simp only [finish] <;> intros <;> first | omega | (exact hw (by omega)) | contradiction
  · rename_i hk
    refine ⟨⟨k0, k1, hu, hv, ?_, ?_, ?_, ?_, ?_, ?_, ?_⟩, ⟨?_, ?_, ?_, ?_, ?_⟩⟩ <;> simp only <;> intros <;> omega
theorem keep_second {n : Int} {p : List Int} {t : T} (k0 : 1 ≤ t.k) (k1 : t.k ≤ 3) (kk : t.k ≠ 1) (hu : In n t.u) (hv : t.k ≠ 1 → In n t.v) (hs : t.s = 4 ∨ t.s = 5) (hw : t.s = 5 → In n t.w) : Keeps n p (secondT t) := by
  unfold secondT
  split
  · refine ⟨⟨k0, k1, hu, hv, ?_, ?_, ?_, ?_, ?_, ?_, ?_⟩, ⟨?_, ?_, ?_, ?_, ?_⟩⟩ <;> simp only [finish] <;> intros <;> first | omega | (exact hw (by omega)) | contradiction
  · rename_i hne
    by_cases h2 : t.k = 2
    · rw [if_pos h2]
      refine ⟨⟨k0, k1, hu, hv, ?_, ?_, ?_, ?_, ?_, ?_, ?_⟩, ⟨?_, ?_, ?_, ?_, ?_⟩⟩ <;> simp only <;> intros <;> first | omega | exact hne
    · rw [if_neg h2]
      refine ⟨⟨k0, k1, hu, hv, ?_, ?_, ?_, ?_, ?_, ?_, ?_⟩, ⟨?_, ?_, ?_, ?_, ?_⟩⟩ <;> simp only <;> intros <;> first | omega | exact hne
theorem step_keeps {up p : List Int} {t : T} (h : Ok up p) (hk : Keeps up.length p t) : Ok (stepL up p t).1 p ∧ (stepL up p t).1.length = up.length ∧ Keeps up.length p (stepL up p t).2 := by
  obtain ⟨k, x, y, s, u, v, w, r, is, res⟩ := t
  obtain ⟨⟨k0, k1, u0, v0, s0, s1, k2, k7, k8, w0, r0⟩, ⟨oa, ob, oc, od, oe⟩⟩ := hk
  simp only at k0 k1 u0 v0 s0 s1 k2 k7 k8 w0 r0 oa ob oc od oe
  rcases is with _ | _
  · have au := h.at u0
    have av := fun hk => h.at (v0 hk)
    rcases (show s = 1 ∨ s = 2 ∨ s = 3 ∨ s = 4 ∨ s = 5 ∨ s = 6 ∨ s = 7 ∨ s = 8 by omega) with rfl | rfl | rfl | rfl | rfl | rfl | rfl | rfl
    · refine ⟨by simpa [stepL] using h, by simp [stepL], ?_⟩
      simp only [stepL, if_neg Bool.false_ne_true, if_true]
      split
      · exact keep_first k0 k1 u0 v0 (.inl rfl) (by intro h; simp at h)
      · rename_i hne
        refine ⟨⟨k0, k1, u0, v0, ?_, ?_, ?_, ?_, ?_, ?_, ?_⟩, ⟨?_, ?_, ?_, ?_, ?_⟩⟩ <;> simp only <;> intros <;> first | omega | exact au.1 | exact au.2 hne
    · have w1 := w0 (by omega)
      have aw := h.at w1
      refine ⟨by simpa [stepL] using h, by simp [stepL], ?_⟩
      simp only [stepL, if_neg Bool.false_ne_true, if_true]
      simp only [show ((2 : Int) = 1) = False by simp, if_false]
      split
      · exact keep_first k0 k1 w1 v0 (.inr rfl) (fun _ => w1)
      · rename_i hne
        refine ⟨⟨k0, k1, u0, v0, ?_, ?_, ?_, ?_, ?_, ?_, ?_⟩, ⟨?_, ?_, ?_, ?_, ?_⟩⟩ <;> simp only <;> intros <;> first | omega | exact w1 | exact aw.1 | exact oa rfl (.inl rfl) | exact aw.2 hne
    · have w1 := w0 (by omega)
      have r1 := r0 (by omega)
      have hl := lt_trans (oa rfl (.inr rfl)) (ob rfl rfl)
      refine ⟨by simpa [stepL] using h.swap u0 r1 hl, by simp [stepL, swapL_len], ?_⟩
      simp only [stepL, if_neg Bool.false_ne_true, show ((3 : Int) = 1) = False by simp, show ((3 : Int) = 2) = False by simp, if_false, if_true]
      refine ⟨⟨k0, k1, w1, v0, ?_, ?_, ?_, ?_, ?_, ?_, ?_⟩, ⟨?_, ?_, ?_, ?_, ?_⟩⟩ <;> simp only <;> intros <;> first | omega
    · refine ⟨by simpa [stepL] using h, by simp [stepL], ?_⟩
      simp only [stepL, if_neg Bool.false_ne_true, show ((4 : Int) = 1) = False by simp, show ((4 : Int) = 2) = False by simp, show ((4 : Int) = 3) = False by simp, if_false, if_true]
      split
      · exact keep_second k0 k1 (k2 (by omega)) u0 v0 (.inl rfl) (by intro h; simp at h)
      · rename_i hne
        refine ⟨⟨k0, k1, u0, v0, ?_, ?_, ?_, ?_, ?_, ?_, ?_⟩, ⟨?_, ?_, ?_, ?_, ?_⟩⟩ <;> simp only <;> intros <;> first | omega | exact (av (k2 (by omega))).1 | exact (av (k2 (by omega))).2 hne | exact k2 (by omega)
    · have w1 := w0 (by omega)
      have aw := h.at w1
      refine ⟨by simpa [stepL] using h, by simp [stepL], ?_⟩
      simp only [stepL, if_neg Bool.false_ne_true, show ((5 : Int) = 1) = False by simp, show ((5 : Int) = 2) = False by simp, show ((5 : Int) = 3) = False by simp, show ((5 : Int) = 4) = False by simp, if_false, if_true]
      split
      · exact keep_second k0 k1 (k2 (by omega)) u0 (fun _ => w1) (.inr rfl) (fun _ => w1)
      · rename_i hne
        refine ⟨⟨k0, k1, u0, v0, ?_, ?_, ?_, ?_, ?_, ?_, ?_⟩, ⟨?_, ?_, ?_, ?_, ?_⟩⟩ <;> simp only <;> intros <;> first | omega | exact w1 | exact aw.1 | exact oc rfl (.inl rfl) | exact aw.2 hne | exact k2 (by omega)
    · have w1 := w0 (by omega)
      have r1 := r0 (by omega)
      have hl := lt_trans (oc rfl (.inr rfl)) (od rfl rfl)
      refine ⟨by simpa [stepL] using h.swap (v0 (k2 (by omega))) r1 hl, by simp [stepL, swapL_len], ?_⟩
      simp only [stepL, if_neg Bool.false_ne_true, show ((6 : Int) = 1) = False by simp, show ((6 : Int) = 2) = False by simp, show ((6 : Int) = 3) = False by simp, show ((6 : Int) = 4) = False by simp, show ((6 : Int) = 5) = False by simp, if_false, if_true]
      refine ⟨⟨k0, k1, u0, (fun _ => w1), ?_, ?_, ?_, ?_, ?_, ?_, ?_⟩, ⟨?_, ?_, ?_, ?_, ?_⟩⟩ <;> simp only <;> intros <;> first | omega | exact k2 (by omega)
    · refine ⟨by simpa [stepL] using h, by simp [stepL], ?_⟩
      simp only [stepL, if_neg Bool.false_ne_true, show ((7 : Int) = 1) = False by simp, show ((7 : Int) = 2) = False by simp, show ((7 : Int) = 3) = False by simp, show ((7 : Int) = 4) = False by simp, show ((7 : Int) = 5) = False by simp, show ((7 : Int) = 6) = False by simp, if_false, if_true]
      split
      · refine ⟨⟨k0, k1, u0, v0, ?_, ?_, ?_, ?_, ?_, ?_, ?_⟩, ⟨?_, ?_, ?_, ?_, ?_⟩⟩ <;> simp only [finish] <;> intros <;> first | omega | contradiction | exact k2 (by omega) | exact k7 rfl
      · refine ⟨⟨k0, k1, u0, v0, ?_, ?_, ?_, ?_, ?_, ?_, ?_⟩, ⟨?_, ?_, ?_, ?_, ?_⟩⟩ <;> simp only <;> intros <;> first | omega | exact au.1
    · obtain ⟨i, rfl, hi⟩ := in_nat u0
      obtain ⟨j, rfl, hj⟩ := in_nat (v0 (k2 (by omega)))
      have hne := oe rfl (.inr rfl)
      have hij : i ≠ j := fun e => hne (by rw [e])
      simp only [stepL, if_neg Bool.false_ne_true, show ((8 : Int) = 1) = False by simp, show ((8 : Int) = 2) = False by simp, show ((8 : Int) = 3) = False by simp, show ((8 : Int) = 4) = False by simp, show ((8 : Int) = 5) = False by simp, show ((8 : Int) = 6) = False by simp, show ((8 : Int) = 7) = False by simp, if_false]
      have K1 : Keeps up.length p (finish ⟨k, x, y, 8, (i : Int), (j : Int), w, r, false, res⟩ 1) := by
        refine ⟨⟨k0, k1, u0, v0, ?_, ?_, ?_, ?_, ?_, ?_, ?_⟩, ⟨?_, ?_, ?_, ?_, ?_⟩⟩ <;> simp only [finish] <;> intros <;> first | omega | contradiction | exact k2 (by omega) | exact k8 rfl
      have K2 : Keeps up.length p ⟨k, x, y, 1, (i : Int), (j : Int), w, r, false, res⟩ := by
        refine ⟨⟨k0, k1, u0, v0, ?_, ?_, ?_, ?_, ?_, ?_, ?_⟩, ⟨?_, ?_, ?_, ?_, ?_⟩⟩ <;> simp only <;> intros <;> first | omega
      split
      · rename_i hb
        split
        · exact ⟨by simpa using h.set hj hb, by simp, K1⟩
        · exact ⟨h, rfl, K2⟩
      · rename_i hb
        split
        · exact ⟨by simpa using h.set hi ((lt_total p hij).resolve_left hb), by simp, K1⟩
        · exact ⟨h, rfl, K2⟩
  · refine ⟨by simpa [stepL] using h, by simp [stepL], ?_⟩
    simp only [stepL, if_true]
    exact ⟨⟨k0, k1, u0, v0, s0, s1, k2, k7, k8, w0, r0⟩, ⟨oa, ob, oc, od, oe⟩⟩
end Go.Proofs.YtmaiicpaalbcfaaDoor
end
section
namespace Go.Proofs.YtmaiicpaalbcfaaDoor
open Go.RowKit
set_option linter.unusedVariables false
def qs (up : List Int) (t : T) : Nat :=
  if t.s = 1 then (if at_ up t.u = t.u then (if t.k ≠ 1 ∧ at_ up t.v = t.v then 6 else 3) else 2)
  else if t.s = 2 then 1 else if t.s = 3 then 0
  else if t.s = 4 then (if at_ up t.v = t.v then 5 else 2)
  else if t.s = 5 then 1 else if t.s = 6 then 0 else 4
def phi (up p : List Int) (t : T) : Nat := 7 * (above p up.length t.u.toNat + above p up.length t.v.toNat) + qs up t
theorem qs_le (up : List Int) (t : T) : qs up t ≤ 6 := by
  unfold qs
  repeat' split
  all_goals omega
theorem phi_first {up p : List Int} {t : T} {a : Nat} (hs : t.s = 1 ∨ t.s = 2) (ha : t.k ≠ 1 → 7 * (above p up.length t.u.toNat + above p up.length t.v.toNat) + (if at_ up t.v = t.v then 5 else 2) < a) : (firstT t).is = true ∨ phi up p (firstT t) < a := by
  unfold firstT
  split
  · exact .inl rfl
  · rename_i hk1
    have ha := ha hk1
    refine .inr ?_
    unfold phi qs
    simp only [show ((4 : Int) = 1) = False by simp, show ((4 : Int) = 2) = False by simp, show ((4 : Int) = 3) = False by simp, if_false, if_true]
    exact ha
theorem phi_second {up p : List Int} {t : T} {a : Nat} (ha : 7 * (above p up.length t.u.toNat + above p up.length t.v.toNat) + 4 < a) : (secondT t).is = true ∨ phi up p (secondT t) < a := by
  unfold secondT
  split
  · exact .inl rfl
  · refine .inr ?_
    unfold phi qs
    by_cases h : t.k = 2
    · simp only [if_pos h, show ((7 : Int) = 1) = False by simp, show ((7 : Int) = 2) = False by simp, show ((7 : Int) = 3) = False by simp, show ((7 : Int) = 4) = False by simp, show ((7 : Int) = 5) = False by simp, show ((7 : Int) = 6) = False by simp, if_false]
      exact ha
    · simp only [if_neg h, show ((8 : Int) = 1) = False by simp, show ((8 : Int) = 2) = False by simp, show ((8 : Int) = 3) = False by simp, show ((8 : Int) = 4) = False by simp, show ((8 : Int) = 5) = False by simp, show ((8 : Int) = 6) = False by simp, if_false]
      exact ha
theorem above_in {p : List Int} {n : Nat} {x y : Int} (hy : In n y) (h : LT p x.toNat y.toNat) : above p n y.toNat + 1 ≤ above p n x.toNat :=
  above_lt (by have := hy.1; have := hy.2; omega) h
theorem phi_step {up p : List Int} {t : T} (h : Ok up p) (hk : Keeps up.length p t) (hi : t.is = false) : (stepL up p t).2.is = true ∨ phi (stepL up p t).1 p (stepL up p t).2 < phi up p t := by
  obtain ⟨k, x, y, s, u, v, w, r, is, res⟩ := t
  obtain ⟨⟨k0, k1, u0, v0, s0, s1, k2, k7, k8, w0, r0⟩, ⟨oa, ob, oc, od, oe⟩⟩ := hk
  simp only at k0 k1 u0 v0 s0 s1 k2 k7 k8 w0 r0 oa ob oc od oe hi
  subst hi
  rcases (show s = 1 ∨ s = 2 ∨ s = 3 ∨ s = 4 ∨ s = 5 ∨ s = 6 ∨ s = 7 ∨ s = 8 by omega) with rfl | rfl | rfl | rfl | rfl | rfl | rfl | rfl
  · simp only [stepL, if_neg Bool.false_ne_true, if_true]
    by_cases c : at_ up u = u
    · rw [if_pos c]
      refine phi_first (.inl rfl) (fun hk1 => ?_)
      unfold phi qs
      simp only at hk1
      simp only [if_true, if_pos c]
      by_cases cv : at_ up v = v
      · rw [if_pos cv, if_pos ⟨hk1, cv⟩]; omega
      · rw [if_neg cv, if_neg (fun h => cv h.2)]; omega
    · rw [if_neg c]
      refine .inr ?_
      unfold phi qs
      simp only [if_true, if_neg c, show ((2 : Int) = 1) = False by simp, if_false]
      omega
  · have w1 := w0 (by omega)
    have hl := above_in w1 (oa rfl (.inl rfl))
    simp only [stepL, if_neg Bool.false_ne_true, if_true, show ((2 : Int) = 1) = False by simp, if_false]
    by_cases c : at_ up w = w
    · rw [if_pos c]
      refine phi_first (.inr rfl) (fun hk1 => ?_)
      unfold phi qs
      simp only [if_true, show ((2 : Int) = 1) = False by simp, if_false]
      split <;> omega
    · rw [if_neg c]
      refine .inr ?_
      unfold phi qs
      simp only [if_true, show ((2 : Int) = 1) = False by simp, show ((3 : Int) = 1) = False by simp, show ((3 : Int) = 2) = False by simp, if_false]
      omega
  · have hl := above_in (w0 (by omega)) (oa rfl (.inr rfl))
    simp only [stepL, if_neg Bool.false_ne_true, if_true, show ((3 : Int) = 1) = False by simp, show ((3 : Int) = 2) = False by simp, if_false]
    refine .inr ?_
    have hq := qs_le (swapL up u w r) ⟨k, x, y, 1, w, v, w, r, false, res⟩
    unfold phi
    rw [swapL_len]
    have e : qs up ⟨k, x, y, 3, u, v, w, r, false, res⟩ = 0 := by simp [qs]
    rw [e]
    simp only at hq ⊢
    omega
  · simp only [stepL, if_neg Bool.false_ne_true, if_true, show ((4 : Int) = 1) = False by simp, show ((4 : Int) = 2) = False by simp, show ((4 : Int) = 3) = False by simp, if_false]
    by_cases c : at_ up v = v
    · rw [if_pos c]
      refine phi_second ?_
      unfold phi qs
      simp only [if_true, if_pos c, show ((4 : Int) = 1) = False by simp, show ((4 : Int) = 2) = False by simp, show ((4 : Int) = 3) = False by simp, if_false]
      omega
    · rw [if_neg c]
      refine .inr ?_
      unfold phi qs
      simp only [if_true, if_neg c, show ((4 : Int) = 1) = False by simp, show ((4 : Int) = 2) = False by simp, show ((4 : Int) = 3) = False by simp, show ((5 : Int) = 1) = False by simp, show ((5 : Int) = 2) = False by simp, show ((5 : Int) = 3) = False by simp, show ((5 : Int) = 4) = False by simp, if_false]
      omega
  · have w1 := w0 (by omega)
    have hl := above_in w1 (oc rfl (.inl rfl))
    simp only [stepL, if_neg Bool.false_ne_true, if_true, show ((5 : Int) = 1) = False by simp, show ((5 : Int) = 2) = False by simp, show ((5 : Int) = 3) = False by simp, show ((5 : Int) = 4) = False by simp, if_false]
    by_cases c : at_ up w = w
    · rw [if_pos c]
      refine phi_second ?_
      unfold phi qs
      simp only [if_true, show ((5 : Int) = 1) = False by simp, show ((5 : Int) = 2) = False by simp, show ((5 : Int) = 3) = False by simp, show ((5 : Int) = 4) = False by simp, if_false]
      omega
    · rw [if_neg c]
      refine .inr ?_
      unfold phi qs
      simp only [if_true, show ((5 : Int) = 1) = False by simp, show ((5 : Int) = 2) = False by simp, show ((5 : Int) = 3) = False by simp, show ((5 : Int) = 4) = False by simp, show ((6 : Int) = 1) = False by simp, show ((6 : Int) = 2) = False by simp, show ((6 : Int) = 3) = False by simp, show ((6 : Int) = 4) = False by simp, show ((6 : Int) = 5) = False by simp, if_false]
      omega
  · have hl := above_in (w0 (by omega)) (oc rfl (.inr rfl))
    simp only [stepL, if_neg Bool.false_ne_true, if_true, show ((6 : Int) = 1) = False by simp, show ((6 : Int) = 2) = False by simp, show ((6 : Int) = 3) = False by simp, show ((6 : Int) = 4) = False by simp, show ((6 : Int) = 5) = False by simp, if_false]
    refine .inr ?_
    have hq := qs_le (swapL up v w r) ⟨k, x, y, 4, u, w, w, r, false, res⟩
    unfold phi
    rw [swapL_len]
    have e : qs up ⟨k, x, y, 6, u, v, w, r, false, res⟩ = 0 := by simp [qs]
    rw [e]
    simp only at hq ⊢
    omega
  · simp only [stepL, if_neg Bool.false_ne_true, if_true, show ((7 : Int) = 1) = False by simp, show ((7 : Int) = 2) = False by simp, show ((7 : Int) = 3) = False by simp, show ((7 : Int) = 4) = False by simp, show ((7 : Int) = 5) = False by simp, show ((7 : Int) = 6) = False by simp, if_false]
    by_cases c : at_ up u = u
    · rw [if_pos c]
      exact .inl rfl
    · rw [if_neg c]
      refine .inr ?_
      unfold phi qs
      simp only [if_true, if_neg c, show ((7 : Int) = 1) = False by simp, show ((7 : Int) = 2) = False by simp, show ((7 : Int) = 3) = False by simp, show ((7 : Int) = 4) = False by simp, show ((7 : Int) = 5) = False by simp, show ((7 : Int) = 6) = False by simp, if_false]
      omega
  · have e8 : qs up ⟨k, x, y, 8, u, v, w, r, false, res⟩ = 4 := by simp [qs]
    simp only [stepL, if_neg Bool.false_ne_true, show ((8 : Int) = 1) = False by simp, show ((8 : Int) = 2) = False by simp, show ((8 : Int) = 3) = False by simp, show ((8 : Int) = 4) = False by simp, show ((8 : Int) = 5) = False by simp, show ((8 : Int) = 6) = False by simp, show ((8 : Int) = 7) = False by simp, if_false]
    by_cases hb : belowB p u v = true
    · rw [if_pos hb]
      by_cases c : at_ up u = u
      · rw [if_pos c]
        exact .inl rfl
      · rw [if_neg c]
        refine .inr ?_
        unfold phi
        rw [e8]
        unfold qs
        simp only [if_true, if_neg c]
        omega
    · rw [if_neg hb]
      by_cases c : at_ up v = v
      · rw [if_pos c]
        exact .inl rfl
      · rw [if_neg c]
        refine .inr ?_
        unfold phi
        rw [e8]
        unfold qs
        simp only [if_true]
        rw [if_neg (show ¬ (k ≠ 1 ∧ at_ up v = v) from fun h => c h.2)]
        split <;> omega
theorem roots_less {up p : List Int} {t : T} (h : Ok up p) (hk : Keeps up.length p t) (hi : t.is = false) : ∀ z, In up.length z → at_ (stepL up p t).1 z = z → at_ up z = z := by
  have key : ∀ a b : Int, In up.length a → a ≠ b → ∀ z, In up.length z → at_ (up.set a.toNat b) z = z → at_ up z = z := by
    intro a b ha hab z hz e
    obtain ⟨i, rfl, hi⟩ := in_nat ha
    obtain ⟨j, rfl, hj⟩ := in_nat hz
    rw [at_nat, Int.toNat_natCast, getD_set _ _ _ _ hj] at e
    rw [at_nat]
    split at e
    · rename_i c
      subst c
      exact absurd e.symm hab
    · exact e
  have swp : ∀ a w b : Int, In up.length a → a ≠ b → ∀ z, In up.length z → at_ (swapL up a w b) z = z → at_ up z = z := by
    intro a w b ha hab z hz e
    unfold swapL at e
    split at e
    · exact key a b ha hab z hz e
    · exact e
  obtain ⟨k, x, y, s, u, v, w, r, is, res⟩ := t
  obtain ⟨⟨k0, k1, u0, v0, s0, s1, k2, k7, k8, w0, r0⟩, ⟨oa, ob, oc, od, oe⟩⟩ := hk
  simp only at k0 k1 u0 v0 s0 s1 k2 k7 k8 w0 r0 oa ob oc od oe hi
  subst hi
  rcases (show s = 1 ∨ s = 2 ∨ s = 3 ∨ s = 4 ∨ s = 5 ∨ s = 6 ∨ s = 7 ∨ s = 8 by omega) with rfl | rfl | rfl | rfl | rfl | rfl | rfl | rfl
  · simp only [stepL, if_neg Bool.false_ne_true, if_true]
    exact fun z _ e => e
  · simp only [stepL, if_neg Bool.false_ne_true, if_true, show ((2 : Int) = 1) = False by simp, if_false]
    exact fun z _ e => e
  · simp only [stepL, if_neg Bool.false_ne_true, if_true, show ((3 : Int) = 1) = False by simp, show ((3 : Int) = 2) = False by simp, if_false]
    exact swp u w r u0 (fun e => by subst e; exact lt_irrefl p _ (lt_trans (oa rfl (.inr rfl)) (ob rfl rfl)))
  · simp only [stepL, if_neg Bool.false_ne_true, if_true, show ((4 : Int) = 1) = False by simp, show ((4 : Int) = 2) = False by simp, show ((4 : Int) = 3) = False by simp, if_false]
    exact fun z _ e => e
  · simp only [stepL, if_neg Bool.false_ne_true, if_true, show ((5 : Int) = 1) = False by simp, show ((5 : Int) = 2) = False by simp, show ((5 : Int) = 3) = False by simp, show ((5 : Int) = 4) = False by simp, if_false]
    exact fun z _ e => e
  · simp only [stepL, if_neg Bool.false_ne_true, if_true, show ((6 : Int) = 1) = False by simp, show ((6 : Int) = 2) = False by simp, show ((6 : Int) = 3) = False by simp, show ((6 : Int) = 4) = False by simp, show ((6 : Int) = 5) = False by simp, if_false]
    exact swp v w r (v0 (k2 (by omega))) (fun e => by subst e; exact lt_irrefl p _ (lt_trans (oc rfl (.inr rfl)) (od rfl rfl)))
  · simp only [stepL, if_neg Bool.false_ne_true, if_true, show ((7 : Int) = 1) = False by simp, show ((7 : Int) = 2) = False by simp, show ((7 : Int) = 3) = False by simp, show ((7 : Int) = 4) = False by simp, show ((7 : Int) = 5) = False by simp, show ((7 : Int) = 6) = False by simp, if_false]
    exact fun z _ e => e
  · have hne := oe rfl (.inr rfl)
    simp only [stepL, if_neg Bool.false_ne_true, show ((8 : Int) = 1) = False by simp, show ((8 : Int) = 2) = False by simp, show ((8 : Int) = 3) = False by simp, show ((8 : Int) = 4) = False by simp, show ((8 : Int) = 5) = False by simp, show ((8 : Int) = 6) = False by simp, show ((8 : Int) = 7) = False by simp, if_false]
    by_cases hb : belowB p u v = true
    · rw [if_pos hb]
      split
      · exact key u v u0 hne
      · exact fun z _ e => e
    · rw [if_neg hb]
      split
      · exact key v u (v0 (k2 (by omega))) (Ne.symm hne)
      · exact fun z _ e => e
theorem phi_other {up up' p : List Int} {t : T} (hr : ∀ z, In up.length z → at_ up' z = z → at_ up z = z) (hl : up'.length = up.length) (hf : Fit up.length t) : phi up' p t ≤ phi up p t := by
  unfold phi
  rw [hl]
  have hu : at_ up' t.u = t.u → at_ up t.u = t.u := hr _ hf.u0
  have hv : t.k ≠ 1 → at_ up' t.v = t.v → at_ up t.v = t.v := fun hk => hr _ (hf.v0 hk)
  have : qs up' t ≤ qs up t := by
    unfold qs
    split
    · by_cases a : at_ up' t.u = t.u
      · rw [if_pos a, if_pos (hu a)]
        by_cases b : t.k ≠ 1 ∧ at_ up' t.v = t.v
        · rw [if_pos b, if_pos ⟨b.1, hv b.1 b.2⟩]; exact Nat.le_refl _
        · rw [if_neg b]; split <;> omega
      · rw [if_neg a]; repeat' split
        all_goals omega
    · split
      · exact Nat.le_refl _
      · split
        · exact Nat.le_refl _
        · split
          · rename_i h4
            by_cases b : at_ up' t.v = t.v
            · rw [if_pos b, if_pos (hv (hf.k2 (by omega)) b)]; exact Nat.le_refl _
            · rw [if_neg b]; split <;> omega
          · exact Nat.le_refl _
  omega
theorem above_le (p : List Int) (n x : Nat) : above p n x ≤ n := Nat.le_trans List.countP_le_length (by rw [List.length_range]; exact Nat.le_refl _)
theorem phi_le {up p : List Int} {t : T} (hf : Fit up.length t) : phi up p t + 1 ≤ 14 * up.length := by
  have hu := above_n (p := p) (n := up.length) (x := t.u.toNat) (by have := hf.u0.1; have := hf.u0.2; omega)
  have hv := above_le p up.length t.v.toNat
  have := qs_le up t
  unfold phi
  omega
theorem begin_keeps {n : Nat} {p : List Int} {k x y : Int} (h : beginB k x y n = true) : Keeps n p (beginT k x y n) := by
  rw [begin_yes h]
  simp only [beginB, Bool.and_eq_true, Bool.or_eq_true, decide_eq_true_eq, thereB] at h
  obtain ⟨h1, h2, ⟨h3, h4⟩, h5⟩ := h
  have hy2 : k ≠ 1 → In n y := fun hk => by
    rcases h5 with e | ⟨a, b⟩
    · exact absurd e hk
    · exact ⟨a, b⟩
  exact ⟨⟨h1, h2, ⟨h3, h4⟩, hy2, by show (1 : Int) ≤ 1; omega, by show (1 : Int) ≤ 8; omega, fun h => by simp at h, fun h => by simp at h, fun h => by simp at h, fun h => by simp at h, fun h => by simp at h⟩, ⟨fun _ h => by simp at h, fun _ h => by simp at h, fun _ h => by simp at h, fun _ h => by simp at h, fun _ h => by simp at h⟩⟩
end Go.Proofs.YtmaiicpaalbcfaaDoor
end
section
namespace Go.Proofs.YtmaiicpaalbcfaaDoor
open Go.RowKit Go.Proofs.YtmaiicpaalbcfaaDoorW.PrintWords Go.Proofs.YtmaiicpaalbcfaaDoorW.PrintLast Go.Proofs.YtmaiicpaalbcfaaDoorW.PrintMore Go.Proofs.YtmaiicpaalbcfaaDoor.P Go.Proofs.YtmaiicpaalbcfaaDoor.Bits
set_option linter.unusedVariables false
def sumR : Nat → (Nat → Nat) → Nat
  | 0, _ => 0
  | n + 1, f => sumR n f + f n
theorem sumR_same (n : Nat) (f g : Nat → Nat) (h : ∀ j, j < n → f j = g j) : sumR n f = sumR n g := by
  induction n with
  | zero => rfl
  | succ n ih => rw [sumR, sumR, ih fun j hj => h j (by omega), h n (by omega)]
theorem sumR_mono (n : Nat) (f g : Nat → Nat) (h : ∀ j, j < n → f j ≤ g j) : sumR n f ≤ sumR n g := by
  induction n with
  | zero => exact Nat.le_refl _
  | succ n ih => rw [sumR, sumR]; have := ih fun j hj => h j (by omega); have := h n (by omega); omega
theorem sumR_drop (n i : Nat) (f g : Nat → Nat) (hi : i < n) (h : ∀ j, j < n → f j ≤ g j) (hd : f i < g i) : sumR n f < sumR n g := by
  induction n with
  | zero => omega
  | succ n ih =>
    rw [sumR, sumR]
    by_cases e : i = n
    · subst e
      have := sumR_mono i f g fun j hj => h j (by omega)
      omega
    · have := ih (by omega) (fun j hj => h j (by omega))
      have := h n (by omega)
      omega
theorem sumR_le (n i : Nat) (f : Nat → Nat) (hi : i < n) : f i ≤ sumR n f := by
  induction n with
  | zero => omega
  | succ n ih =>
    rw [sumR]
    by_cases e : i = n
    · subst e; omega
    · have := ih (by omega); omega
theorem sumR_mul (n c : Nat) (f : Nat → Nat) : sumR n (fun i => c * f i) = c * sumR n f := by
  induction n with
  | zero => rfl
  | succ n ih => rw [sumR, sumR, ih, Nat.mul_add]
theorem who_mem (P : List Int) (at_ last : Int) (en : List Bool) (h : idx en ≠ []) : ∃ i : Nat, whoS P at_ last (idx en) = (i : Int) ∧ i < en.length ∧ en.getD i false = true := by
  have h1 := placeS_lt P at_ last (idx en) h
  have h2 := idx_mem en _ h1
  refine ⟨(idx en).getD (placeS P at_ last (idx en)) 0, ?_, h2.1, h2.2⟩
  unfold whoS
  rw [if_neg h]
theorem idx_ne (en : List Bool) (i : Nat) (hi : i < en.length) (h : en.getD i false = true) : idx en ≠ [] := by
  intro e
  have : i ∈ idx en := List.mem_filter.2 ⟨List.mem_range.2 hi, by simpa using h⟩
  rw [e] at this
  cases this
theorem getD_set_any {α : Type} (T : List α) (i j : Nat) (p z : α) (hi : i < T.length) : (T.set i p).getD j z = if j = i then p else T.getD j z := by
  simp only [List.getD_eq_getElem?_getD, List.getElem?_set]
  by_cases c : i = j
  · rw [if_pos c, if_pos (by omega), if_pos c.symm]; rfl
  · rw [if_neg c, if_neg (Ne.symm c)]
structure St5 where
  ws : List W5
  up : List Int
  going : Int
  at_ : Int
  last : Int
  steps : Int
  ev : List S42
def next5 (n : Nat) (prio P : List Int) (s : St5) (i : Nat) (l : List S40) (t : T) (b : Int) : St5 where
  ws := s.ws.set i ⟨l, (stepL s.up prio t).2, !(stepL s.up prio t).2.is, b, placeW t (stepL s.up prio t).2 (s.steps + 1) (s.ws.getD i z5).pl⟩
  up := (stepL s.up prio t).1
  going := if (stepL s.up prio t).2.is = true ∧ l = [] then Go.bits .andNot .u64 s.going (shl .u64 1 (i : Int)) else s.going
  at_ := atS P s.at_ (idx (enG n s.going))
  last := lastS P s.at_ s.last (idx (enG n s.going))
  steps := s.steps + 1
  ev := if (stepL s.up prio t).2.is = true then s.ev ++ [eventS i (stepL s.up prio t).2 b (s.steps + 1) (s.ws.getD i z5).pl] else s.ev
def playS (n : Nat) (prio P : List Int) (g : Nat) (s : St5) : Option (List S42 × List Int × Int) := playL n prio P g s.ws s.up s.going s.at_ s.last s.steps s.ev
theorem playS_end {n : Nat} {prio P : List Int} {g : Nat} {s : St5} (h : s.going = 0) : playS n prio P (g + 1) s = some (s.ev, s.up, s.steps) := by
  unfold playS
  rw [playL, if_pos h]
theorem playS_next {n : Nat} {prio P : List Int} {g : Nat} {s : St5} {i : Nat} {l : List S40} {t : T} {b : Int} (hg : s.going ≠ 0) (hw : whoS P s.at_ s.last (idx (enG n s.going)) = (i : Int)) (hi : i < n) (h0 : 0 ≤ s.steps) (h1 : s.steps < 1000000000) (h2 : s.ev.length < 1000000)
    (hgo : goesOn prio.length (s.steps + 1) (s.ws.getD i z5) = some (l, t, b)) (hs : Steps s.up prio t) : playS n prio P (g + 1) s = playS n prio P g (next5 n prio P s i l t b) := by
  unfold playS next5
  rw [playL, if_neg hg, hw, if_pos ⟨by omega, by omega, h0, h1, h2⟩, Int.toNat_natCast, hgo]
  dsimp only
  rw [if_pos hs]
  generalize (stepL s.up prio t).1 = up2
  obtain ⟨t2, ht2⟩ : ∃ x, (stepL s.up prio t).2 = x := ⟨_, rfl⟩
  rw [ht2]
  cases his : t2.is with
  | false => simp
  | true =>
    by_cases hl : l = []
    · simp [hl]
    · simp [hl]
def onB (w : W5) : Bool := w.busy || !w.l.isEmpty
def Goi (n : Nat) (going : Int) (f : Nat → Bool) : Prop := ∃ x : Nat, going = (x : Int) ∧ x < 18446744073709551616 ∧ ∀ i, x.testBit i = (decide (i < n) && f i)
theorem Goi.zero {n : Nat} {going : Int} {f : Nat → Bool} (h : Goi n going f) : going = 0 ↔ ∀ i, i < n → f i = false := by
  obtain ⟨x, rfl, hx, hb⟩ := h
  constructor
  · intro h0 i hi
    have hx0 : x = 0 := by omega
    have h1 := hb i
    rw [hx0, Nat.zero_testBit, decide_eq_true hi, Bool.true_and] at h1
    exact h1.symm
  · intro h0
    have : x = 0 := Nat.eq_of_testBit_eq (fun i => by
      rw [Nat.zero_testBit, hb i]
      by_cases c : i < n
      · rw [h0 i c, Bool.and_false]
      · rw [decide_eq_false c, Bool.false_and])
    omega
theorem Goi.bit {n : Nat} {going : Int} {f : Nat → Bool} (h : Goi n going f) (h64 : n ≤ 64) {i : Nat} (hi : i < n) : bitOn going i = f i := by
  obtain ⟨x, rfl, hx, hb⟩ := h
  have h1 := hb i
  rw [decide_eq_true hi, Bool.true_and] at h1
  rw [← h1]
  unfold bitOn shr
  rw [show min ((i : Int)).toNat IntKind.u64.bits = i by show min ((i : Int)).toNat 64 = i; omega]
  have e : ((x : Int) / 2 ^ i) = ((x / 2 ^ i : Nat) : Int) := by rw [Int.natCast_ediv]; norm_cast
  rw [e, show (1 : Int) = ((1 : Nat) : Int) from rfl, and64 (Nat.lt_of_le_of_lt (Nat.div_le_self _ _) hx) (by decide), Nat.and_one_is_mod, Nat.testBit_eq_decide_div_mod_eq]
  have hm : x / 2 ^ i % 2 = 0 ∨ x / 2 ^ i % 2 = 1 := by omega
  rcases hm with c | c <;> rw [c] <;> decide
theorem Goi.off {n : Nat} {going : Int} {f g : Nat → Bool} (h : Goi n going f) (h64 : n ≤ 64) {i : Nat} (hi : i < n) (hg : ∀ j, j < n → g j = (decide (j ≠ i) && f j)) : Goi n (Go.bits .andNot .u64 going (shl .u64 1 (i : Int))) g := by
  obtain ⟨x, rfl, hx, hb⟩ := h
  have h2 : 2 ^ i < 18446744073709551616 := Nat.lt_of_lt_of_le (Nat.pow_lt_pow_right (by decide) (show i < 64 by omega)) (by decide)
  rw [shl_one i (by omega), u64_andNot_nat x (2 ^ i) hx h2]
  refine ⟨_, rfl, Nat.lt_of_le_of_lt Nat.and_le_left hx, fun j => ?_⟩
  rw [Nat.testBit_and, hb j, show 18446744073709551615 - 2 ^ i = 2 ^ 64 - (2 ^ i + 1) by omega, Nat.testBit_two_pow_sub_succ (by exact h2)]
  by_cases c : j < n
  · rw [decide_eq_true c, hg j c, decide_eq_true (show j < 64 by omega)]
    by_cases e : j = i
    · subst e
      simp
    · have : Nat.testBit (2 ^ i) j = false := by rw [Nat.testBit_two_pow]; simp; omega
      rw [this]
      simp [e]
  · simp [c]
theorem Goi.congr {n : Nat} {going : Int} {f g : Nat → Bool} (h : Goi n going f) (hg : ∀ j, j < n → g j = f j) : Goi n going g := by
  obtain ⟨x, e, hx, hb⟩ := h
  refine ⟨x, e, hx, fun j => ?_⟩
  rw [hb j]
  by_cases c : j < n
  · rw [hg j c]
  · simp [c]
theorem enG_length' (n : Nat) (going : Int) : (enG n going).length = n := by simp [enG]
theorem enG_get' (n : Nat) (going : Int) (i : Nat) (hi : i < n) : (enG n going).getD i false = bitOn going i := by
  simp [enG, List.getD_eq_getElem?_getD, hi]
def left5 (prio up : List Int) (w : W5) : Nat := 14 * prio.length * w.l.length + (if w.busy = true then phi up prio w.t + 1 else 0)
def mu5 (n : Nat) (prio : List Int) (s : St5) : Nat := sumR n fun i => left5 prio s.up (s.ws.getD i z5)
structure Base (n : Nat) (prio : List Int) (s : St5) : Prop where
  n64 : n ≤ 64
  len : s.ws.length = n
  ok : Ok s.up prio
  go : Goi n s.going (fun i => onB (s.ws.getD i z5))
  task : ∀ i, i < n → (s.ws.getD i z5).busy = true → Keeps prio.length prio (s.ws.getD i z5).t ∧ (s.ws.getD i z5).t.is = false
  left : ∀ i, i < n → ∀ o ∈ (s.ws.getD i z5).l, validB prio.length o = true
  steps0 : 0 ≤ s.steps
  cap : s.steps + (mu5 n prio s : Int) < 1000000
  evs : (s.ev.length : Int) ≤ s.steps
structure Goes5 (n : Nat) (prio P : List Int) (s : St5) (i : Nat) (l : List S40) (t : T) (b : Int) : Prop where
  hi : i < n
  who : whoS P s.at_ s.last (idx (enG n s.going)) = (i : Int)
  src : ((s.ws.getD i z5).busy = true ∧ l = (s.ws.getD i z5).l ∧ t = (s.ws.getD i z5).t ∧ b = (s.ws.getD i z5).b) ∨
    ((s.ws.getD i z5).busy = false ∧ ∃ o, (s.ws.getD i z5).l = o :: l ∧ validB prio.length o = true ∧ t = beginT o.f0 o.f1 o.f2 prio.length ∧ b = s.steps + 1)
  keeps : Keeps prio.length prio t
  live : t.is = false
theorem onB_off {w : W5} (h : onB w = false) : w.busy = false ∧ w.l = [] := by
  unfold onB at h
  rw [Bool.or_eq_false_iff] at h
  exact ⟨h.1, by simpa using h.2⟩
theorem Base.done {n : Nat} {prio : List Int} {s : St5} (h : Base n prio s) (hg : s.going = 0) : ∀ i, i < n → (s.ws.getD i z5).busy = false ∧ (s.ws.getD i z5).l = [] :=
  fun i hi => onB_off ((h.go.zero).1 hg i hi)
theorem left5_other {prio up up' : List Int} {w : W5} (h : w.busy = true → phi up' prio w.t ≤ phi up prio w.t) : left5 prio up' w ≤ left5 prio up w := by
  unfold left5
  by_cases c : w.busy = true
  · rw [if_pos c, if_pos c]; have := h c; omega
  · rw [if_neg c, if_neg c]; exact Nat.le_refl _
theorem Base.step {n : Nat} {prio : List Int} {s : St5} (h : Base n prio s) (hg : s.going ≠ 0) (P : List Int) :
    ∃ i l t b, Goes5 n prio P s i l t b ∧ (∀ g, playS n prio P (g + 1) s = playS n prio P g (next5 n prio P s i l t b)) ∧ Base n prio (next5 n prio P s i l t b) ∧ mu5 n prio (next5 n prio P s i l t b) < mu5 n prio s := by
  have hex : ∃ i, i < n ∧ onB (s.ws.getD i z5) = true := by
    refine Decidable.byContradiction fun c => hg ((h.go.zero).2 fun i hi => ?_)
    cases e : onB (s.ws.getD i z5) with
    | false => rfl
    | true => exact absurd ⟨i, hi, e⟩ c
  obtain ⟨i0, hi0, ho0⟩ := hex
  have hne : idx (enG n s.going) ≠ [] := idx_ne _ i0 (by rw [enG_length']; exact hi0) (by rw [enG_get' n s.going i0 hi0, h.go.bit h.n64 hi0]; exact ho0)
  obtain ⟨i, hw, hi, hon⟩ := who_mem P s.at_ s.last _ hne
  rw [enG_length'] at hi
  rw [enG_get' n s.going i hi, h.go.bit h.n64 hi] at hon
  have hl : s.up.length = prio.length := h.ok.1
  -- what it goes on with
  have hgo : ∃ l t b, goesOn prio.length (s.steps + 1) (s.ws.getD i z5) = some (l, t, b) ∧ Goes5 n prio P s i l t b ∧ (∀ o ∈ l, o ∈ (s.ws.getD i z5).l) ∧
      14 * prio.length * l.length + phi s.up prio t + 1 ≤ left5 prio s.up (s.ws.getD i z5) := by
    unfold goesOn
    by_cases hb : (s.ws.getD i z5).busy = true
    · have ht := h.task i hi hb
      refine ⟨_, _, _, by rw [if_pos hb], ⟨hi, hw, .inl ⟨hb, rfl, rfl, rfl⟩, ht.1, ht.2⟩, fun o ho => ho, ?_⟩
      unfold left5
      rw [if_pos hb]
      omega
    · have hb2 : (s.ws.getD i z5).busy = false := by simpa using hb
      have hleft := h.left i hi
      cases hwl : (s.ws.getD i z5).l with
      | nil => unfold onB at hon; rw [hb2, hwl] at hon; cases hon
      | cons o r =>
        have hv := hleft o (by rw [hwl]; exact List.mem_cons_self ..)
        have hk : Keeps prio.length prio (beginT o.f0 o.f1 o.f2 prio.length) := begin_keeps hv
        have hlive : (beginT o.f0 o.f1 o.f2 prio.length).is = false := by rw [begin_yes hv]
        refine ⟨r, beginT o.f0 o.f1 o.f2 prio.length, s.steps + 1, by rw [if_neg hb]; dsimp only; rw [if_pos hv], ⟨hi, hw, .inr ⟨hb2, o, hwl, hv, rfl, rfl⟩, hk, hlive⟩, fun o' ho => List.mem_cons_of_mem _ ho, ?_⟩
        have hp := phi_le (up := s.up) (p := prio) (t := beginT o.f0 o.f1 o.f2 prio.length) (by rw [hl]; exact hk.fit)
        rw [hl] at hp
        unfold left5
        rw [if_neg hb, hwl, List.length_cons, Nat.mul_succ]
        omega
  obtain ⟨l, t, b, hgo, hG, hsub, hmu⟩ := hgo
  have hk' : Keeps s.up.length prio t := by rw [hl]; exact hG.keeps
  have hsk := step_keeps h.ok hk'
  have hsteps : Steps s.up prio t := ⟨hl, h.ok.2.1, by have := hk'.fit.u0.1; have := hk'.fit.u0.2; omega, hk'.fit⟩
  have hroots := roots_less h.ok hk' hG.live
  have hlen' : (stepL s.up prio t).1.length = s.up.length := hsk.2.1
  have hphi := phi_step h.ok hk' hG.live
  have hcap := h.cap
  have hget : ∀ j, (next5 n prio P s i l t b).ws.getD j z5 = if j = i then ⟨l, (stepL s.up prio t).2, !(stepL s.up prio t).2.is, b, placeW t (stepL s.up prio t).2 (s.steps + 1) (s.ws.getD i z5).pl⟩ else s.ws.getD j z5 := fun j => getD_set_any _ _ _ _ _ (by rw [h.len]; exact hi)
  have hdrop : mu5 n prio (next5 n prio P s i l t b) < mu5 n prio s := by
    refine sumR_drop n i _ _ hi (fun j hj => ?_) ?_
    · rw [hget j]
      by_cases c : j = i
      · rw [if_pos c, c]
        refine Nat.le_trans ?_ hmu
        unfold left5
        dsimp only [next5]
        rcases hphi with e | e
        · rw [e]; simp; omega
        · split <;> omega
      · rw [if_neg c]
        exact left5_other fun hb => phi_other hroots hlen' (by rw [hl]; exact (h.task j hj hb).1.fit)
    · rw [hget i, if_pos rfl]
      refine Nat.lt_of_lt_of_le ?_ hmu
      unfold left5
      dsimp only [next5]
      rcases hphi with e | e
      · rw [e]; simp; omega
      · split <;> omega
  refine ⟨i, l, t, b, hG, fun g => playS_next hg hw hi h.steps0 (by omega) (by have := h.evs; omega) hgo hsteps, ⟨h.n64, by rw [← h.len]; exact List.length_set, hsk.1, ?_, fun j hj hb => ?_, fun j hj o ho => ?_, by have := h.steps0; show 0 ≤ s.steps + 1; omega, ?_, ?_⟩, hdrop⟩
  · -- the flags
    show Goi n (if (stepL s.up prio t).2.is = true ∧ l = [] then Go.bits .andNot .u64 s.going (shl .u64 1 (i : Int)) else s.going) _
    by_cases c : (stepL s.up prio t).2.is = true ∧ l = []
    · rw [if_pos c]
      refine h.go.off h.n64 hi (fun j hj => ?_)
      rw [hget j]
      by_cases e : j = i
      · rw [if_pos e]; simp [onB, c.1, c.2, e]
      · rw [if_neg e]; simp [e]
    · rw [if_neg c]
      refine h.go.congr (fun j hj => ?_)
      rw [hget j]
      by_cases e : j = i
      · rw [if_pos e, e, hon]
        unfold onB
        cases his : (stepL s.up prio t).2.is with
        | false => simp
        | true =>
          have : l ≠ [] := fun hh => c ⟨his, hh⟩
          cases l with
          | nil => exact absurd rfl this
          | cons a b => simp
      · rw [if_neg e]
  · rw [hget j] at hb ⊢
    by_cases e : j = i
    · rw [if_pos e] at hb ⊢
      dsimp only at hb ⊢
      exact ⟨by rw [← hl]; exact hsk.2.2, by simpa using hb⟩
    · rw [if_neg e] at hb ⊢
      exact h.task j hj hb
  · rw [hget j] at ho
    by_cases e : j = i
    · rw [if_pos e] at ho
      exact h.left i hi o (hsub o ho)
    · rw [if_neg e] at ho
      exact h.left j hj o ho
  · show s.steps + 1 + (mu5 n prio (next5 n prio P s i l t b) : Int) < 1000000
    omega
  · have := h.evs
    show ((if (stepL s.up prio t).2.is = true then s.ev ++ [_] else s.ev).length : Int) ≤ s.steps + 1
    split
    · rw [List.length_append]; simp; omega
    · omega
theorem run5 {n : Nat} {prio P : List Int} (I : St5 → Prop) (hI : ∀ s i l t b, Base n prio s → I s → Goes5 n prio P s i l t b → I (next5 n prio P s i l t b)) :
    ∀ g s, Base n prio s → I s → mu5 n prio s < g → ∃ s', playS n prio P g s = some (s'.ev, s'.up, s'.steps) ∧ Base n prio s' ∧ I s' ∧ s'.going = 0 ∧ s'.steps ≤ s.steps + (mu5 n prio s : Int)
  | 0, s, _, _, hm => absurd hm (by omega)
  | g + 1, s, h, hi, hm => by
    by_cases hg : s.going = 0
    · exact ⟨s, playS_end hg, h, hi, hg, by omega⟩
    · obtain ⟨i, l, t, b, hG, hp, hB, hd⟩ := h.step hg P
      obtain ⟨s', h1, h2, h3, h4, h5⟩ := run5 I hI g _ hB (hI s i l t b h hi hG) (by omega)
      refine ⟨s', by rw [hp]; exact h1, h2, h3, h4, ?_⟩
      have : (next5 n prio P s i l t b).steps = s.steps + 1 := rfl
      omega
def total (S : List (List S40)) : Nat := sumR S.length fun i => (S.getD i []).length
def validL (n : Int) (S : List (List S40)) : List (List S40) := S.map fun l => l.filter (validB n)
def ws5 (n : Int) (S : List (List S40)) : List W5 := (validL n S).map fun l => ⟨l, t0, false, 0, 0⟩
def start5 (prio : List Int) (S : List (List S40)) : St5 := ⟨ws5 prio.length S, upS prio.length, goingTo (validL prio.length S) S.length, 0, -1, 0, []⟩
theorem validL_get (n : Int) (S : List (List S40)) (i : Nat) : (validL n S).getD i [] = (S.getD i []).filter (validB n) := by
  simp only [validL, List.getD_eq_getElem?_getD, List.getElem?_map]
  cases S[i]? <;> rfl
theorem ws5_get (n : Int) (S : List (List S40)) (i : Nat) : (ws5 n S).getD i z5 = ⟨(S.getD i []).filter (validB n), t0, false, 0, 0⟩ := by
  simp only [ws5, validL, List.getD_eq_getElem?_getD, List.getElem?_map]
  cases S[i]? <;> rfl
theorem up_ok (prio : List Int) (h : prio.length ≤ 65536) : Ok (upS prio.length) prio := by
  refine ⟨by simp [upS], by simpa [upS] using h, fun j hj => ?_⟩
  have hj' : j < prio.length := by simpa [upS] using hj
  exact ⟨j, by simp [upS, List.getD_eq_getElem?_getD, hj'], hj, .inl rfl⟩
theorem going_ok (L : List (List S40)) : ∀ i, i ≤ 64 → Goi i (goingTo L i) (fun j => !(L.getD j []).isEmpty)
  | 0, _ => ⟨0, rfl, by decide, fun j => by simp⟩
  | i + 1, hi => by
    obtain ⟨x, hx, hlt, hb⟩ := going_ok L i (by omega)
    rw [goingTo, hx]
    by_cases c : L.getD i [] = []
    · rw [if_pos c]
      refine ⟨x, rfl, hlt, fun j => ?_⟩
      rw [hb j]
      by_cases e : j = i
      · subst e; dsimp only; rw [c]; simp
      · by_cases e2 : j < i
        · rw [decide_eq_true e2, decide_eq_true (show j < i + 1 by omega)]
        · rw [decide_eq_false e2, decide_eq_false (show ¬ j < i + 1 by omega), Bool.false_and]; try rfl
    · rw [if_neg c, shl_one i (by omega)]
      have h2 : 2 ^ i < 18446744073709551616 := Nat.lt_of_lt_of_le (Nat.pow_lt_pow_right (by decide) (show i < 64 by omega)) (by decide)
      rw [bits_or_u64_nat x (2 ^ i) hlt h2]
      refine ⟨_, rfl, Nat.or_lt_two_pow (n := 64) hlt h2, fun j => ?_⟩
      rw [Nat.testBit_or, hb j, Nat.testBit_two_pow]
      by_cases e : j = i
      · subst e
        have hce : (L.getD j []).isEmpty = false := by
          cases h : L.getD j [] with
          | nil => exact absurd h c
          | cons a b => rfl
        simp only [hce]
        simp
      · have e3 : ¬ i = j := fun h => e h.symm
        by_cases e2 : j < i
        · rw [decide_eq_true e2, decide_eq_true (show j < i + 1 by omega), decide_eq_false e3, Bool.or_false]
        · rw [decide_eq_false e2, decide_eq_false (show ¬ j < i + 1 by omega), decide_eq_false e3]; rfl
theorem start_base (prio : List Int) (S : List (List S40)) (hs : S.length ≤ 64) (hn : prio.length ≤ 65536) (hcap : 14 * prio.length * total S < 1000000) : Base S.length prio (start5 prio S) ∧ mu5 S.length prio (start5 prio S) ≤ 14 * prio.length * total S := by
  have hmu : mu5 S.length prio (start5 prio S) ≤ 14 * prio.length * total S := by
    unfold mu5 total
    rw [← sumR_mul]
    refine sumR_mono _ _ _ fun j hj => ?_
    show left5 prio _ ((ws5 prio.length S).getD j z5) ≤ _
    rw [ws5_get]
    unfold left5
    dsimp only
    rw [if_neg (by decide), Nat.add_zero]
    exact Nat.mul_le_mul_left _ (List.length_filter_le _ _)
  refine ⟨⟨hs, by simp [start5, ws5, validL], up_ok prio hn, ?_, fun i hi hb => ?_, fun i hi o ho => ?_, Int.le_refl _, ?_, Int.le_refl _⟩, hmu⟩
  · refine (going_ok (validL prio.length S) S.length hs).congr fun j hj => ?_
    show onB ((ws5 prio.length S).getD j z5) = _
    rw [ws5_get, validL_get]
    simp [onB]
  · have hb : ((ws5 prio.length S).getD i z5).busy = true := hb
    rw [ws5_get] at hb
    cases hb
  · have ho : o ∈ ((ws5 prio.length S).getD i z5).l := ho
    rw [ws5_get] at ho
    exact (List.mem_filter.1 ho).2
  · show (0 : Int) + _ < 1000000
    omega
theorem allW_nat : ∀ (S : List (List S40)) (a : Nat), a + (S.map List.length).sum ≤ 1000000 → allW (a : Int) S = ((a + (S.map List.length).sum : Nat) : Int)
  | [], a, _ => by simp [allW]
  | x :: S, a, h => by
    rw [List.map_cons, List.sum_cons] at h ⊢
    rw [allW, wr64 (by omega) (by omega), show (a : Int) + (x.length : Int) = ((a + x.length : Nat) : Int) by omega, allW_nat S (a + x.length) (by omega)]
    congr 1
    omega
theorem sumR_cons (n : Nat) (f : Nat → Nat) : sumR (n + 1) f = f 0 + sumR n (fun i => f (i + 1)) := by
  induction n with
  | zero => rw [sumR, sumR, sumR]; omega
  | succ n ih => rw [sumR, ih, sumR]; omega
theorem total_sum : ∀ S : List (List S40), total S = (S.map List.length).sum
  | [] => rfl
  | x :: S => by
    unfold total
    rw [List.length_cons, sumR_cons, List.map_cons, List.sum_cons, ← total_sum S]
    rfl
theorem total_all (S : List (List S40)) (h : total S ≤ 1000000) : allW 0 S = (total S : Int) := by
  have := allW_nat S 0 (by rw [← total_sum]; omega)
  rw [total_sum]
  rw [show ((0 : Nat) : Int) = 0 from rfl] at this
  rw [this, Nat.zero_add]
theorem okS_true {prio : List Int} {S : List (List S40)} (hn : prio.length ≤ 4096) (hs : S.length ≤ 64) (ht : total S ≤ 4096) : okS prio.length S = true := by
  unfold okS
  exact decide_eq_true ⟨by omega, by omega, by rw [total_all S (by omega)]; omega⟩
theorem sumR_mem (S : List (List S40)) : ∀ x ∈ S, x.length ≤ total S := by
  intro x hx
  obtain ⟨i, hi, rfl⟩ := List.getElem_of_mem hx
  have := sumR_le S.length i (fun i => (S.getD i []).length) hi
  simp only [List.getD_eq_getElem?_getD, List.getElem?_eq_getElem hi, Option.getD_some] at this
  exact this
theorem playF_run {prio P : List Int} {S : List (List S40)} (hn : prio.length ≤ 4096) (hs : S.length ≤ 64) (ht : total S ≤ 4096) (hP : P.length ≤ 1000000) : playF prio S P = playS S.length prio P (100 * (total S + 1) * (prio.length + 1) + 1) (start5 prio S) := by
  unfold playF
  rw [if_pos ⟨by omega, by omega, hP, fun x hx => by have := sumR_mem S x hx; omega⟩, if_pos (okS_true hn hs ht), total_all S (by omega), Int.toNat_natCast]
  rfl
theorem play_whole {prio P : List Int} {S : List (List S40)} (hn : prio.length ≤ 4096) (hs : S.length ≤ 64) (ht : total S ≤ 4096) (hcap : 14 * prio.length * total S < 1000000) (hP : P.length ≤ 1000000)
    (I : St5 → Prop) (h0 : I (start5 prio S)) (hI : ∀ s i l t b, Base S.length prio s → I s → Goes5 S.length prio P s i l t b → I (next5 S.length prio P s i l t b)) :
    ∃ s', playF prio S P = some (s'.ev, s'.up, s'.steps) ∧ Base S.length prio s' ∧ I s' ∧ s'.going = 0 ∧ s'.steps ≤ ((14 * prio.length * total S : Nat) : Int) := by
  obtain ⟨hb, hm⟩ := start_base prio S hs (by omega) hcap
  have hle : 14 * prio.length * total S ≤ 100 * (total S + 1) * (prio.length + 1) := by
    have e1 : 14 * prio.length * total S = 14 * (total S * prio.length) := by rw [Nat.mul_assoc, Nat.mul_comm prio.length]
    have e2 : total S * prio.length ≤ (total S + 1) * (prio.length + 1) := Nat.mul_le_mul (by omega) (by omega)
    rw [e1, Nat.mul_assoc]
    omega
  obtain ⟨s', h1, h2, h3, h4, h5⟩ := run5 I hI (100 * (total S + 1) * (prio.length + 1) + 1) (start5 prio S) hb h0 (by omega)
  refine ⟨s', by rw [playF_run hn hs ht hP]; exact h1, h2, h3, h4, ?_⟩
  have : (start5 prio S).steps = 0 := rfl
  omega
end Go.Proofs.YtmaiicpaalbcfaaDoor
end
section
namespace Go.Proofs.YtmaiicpaalbcfaaDoor
open Go.RowKit Go.Proofs.YtmaiicpaalbcfaaDoorW.PrintWords Go.Proofs.YtmaiicpaalbcfaaDoorW.PrintLast Go.Proofs.YtmaiicpaalbcfaaDoor.P
set_option linter.unusedVariables false
set_option linter.unusedSimpArgs false
theorem tmod_natE {i n : Int} (h0 : 0 ≤ i) : Int.tmod i n = i % n := Int.tmod_eq_emod_of_nonneg h0
theorem prio_l0 (ns : List Int) (n : Nat) (hn : n ≤ 65536) : ∀ (d i : Nat) (l : List Int), i + d = n → l.length = n → ∃ p, p.length = n ∧ Ev (fun k => warplaw4_Prio.l0 k ns (n : Int) l (i : Int)) p
  | 0, i, l, h, hl => by
    refine ⟨l, hl, Ev.step (f := fun _ => some l) (fun k => ?_) (Ev.now _)⟩
    rw [warplaw4_Prio.l0, if_neg (by omega)]
  | d + 1, i, l, h, hl => by
    by_cases e : ns.length = 0
    · refine ⟨l, hl, Ev.step (f := fun _ => some l) (fun k => ?_) (Ev.now _)⟩
      rw [warplaw4_Prio.l0, if_pos (by omega), if_neg (by omega)]
    · obtain ⟨p, hp, hev⟩ := prio_l0 ns n hn d (i + 1) (l.set i (Int.tmod (wrap64 (rd ns (Int.tmod (i : Int) (ns.length : Int)))) 5)) (by omega) (by rw [List.length_set]; exact hl)
      refine ⟨p, hp, Ev.step (fun k => ?_) hev⟩
      have h1 : Int.tmod (i : Int) (ns.length : Int) = (i : Int) % (ns.length : Int) := tmod_natE (by omega)
      have h2 := Int.emod_nonneg (i : Int) (show (ns.length : Int) ≠ 0 by omega)
      have h3 := Int.emod_lt_of_pos (i : Int) (show (0 : Int) < ns.length by omega)
      rw [warplaw4_Prio.l0, if_pos (by omega), if_pos (by omega), if_neg (by omega), if_pos (by omega), if_pos (by omega), if_pos (by omega), if_pos (by omega), wr64 (i := (i : Int) + 1) (by omega) (by omega)]
      rfl
theorem prio_ev (ns : List Int) (n : Nat) (hn : n ≤ 65536) : ∃ p, p.length = n ∧ Ev (fun k => warplaw4_Prio.f k ns (n : Int)) p := by
  obtain ⟨p, hp, hev⟩ := prio_l0 ns n hn n 0 (List.replicate n 0) (by omega) (by simp)
  refine ⟨p, hp, Ev.congr (fun k => ?_) hev⟩
  unfold warplaw4_Prio.f
  rw [if_pos (by omega), if_pos (by omega)]
  rfl
def Byte (x : Int) : Prop := 0 ≤ x ∧ x < 256
def Bytes (l : List Int) : Prop := ∀ i, Byte (rd l i)
def OpOk (n : Nat) (p : Int × Int × Int) : Prop := 1 ≤ p.1 ∧ p.1 ≤ 3 ∧ (0 ≤ p.2.1 ∧ p.2.1 < n) ∧ (0 ≤ p.2.2 ∧ p.2.2 < n)
theorem op_f {a b c : Int} {n : Nat} (ha : Byte a) (hb : Byte b) (hc : Byte c) (h0 : 0 < n) (h1 : n ≤ 65536) : warplaw4_op.f a b c (n : Int) = some (1 + a % 3, b % n, c % n) := by
  obtain ⟨a0, a1⟩ := ha
  obtain ⟨b0, b1⟩ := hb
  obtain ⟨c0, c1⟩ := hc
  unfold warplaw4_op.f
  rw [if_neg (by omega), wr64 (i := a) (by omega) (by omega), wr64 (i := b) (by omega) (by omega), wr64 (i := c) (by omega) (by omega), tmod_natE a0, tmod_natE b0, tmod_natE c0, wr64 (by omega) (by omega)]
theorem op_ok {a b c : Int} {n : Nat} (h0 : 0 < n) : OpOk n (1 + a % 3, b % n, c % n) := by
  have hn : (0 : Int) < n := by omega
  exact ⟨by simp only; omega, by simp only; omega, ⟨Int.emod_nonneg _ (by omega), Int.emod_lt_of_pos _ hn⟩, ⟨Int.emod_nonneg _ (by omega), Int.emod_lt_of_pos _ hn⟩⟩
def OpsOk (n : Nat) (l : List S40) : Prop := ∀ q ∈ l, OpOk n (q.f0, q.f1, q.f2)
theorem ops_l0 (ns : List Int) (n : Nat) (hb : Bytes ns) (h0 : 0 < n) (h1 : n ≤ 65536) (hl : ns.length ≤ 1000000) : ∀ (d i : Nat) (l : List S40), ns.length ≤ i + d → 3 * l.length = i → 3 * l.length ≤ ns.length → OpsOk n l →
    ∃ r, OpsOk n r ∧ 3 * r.length ≤ ns.length ∧ Ev (fun k => warplaw4_Ops.l0 k ns (n : Int) l (i : Int)) r
  | 0, i, l, h, h2, h3, ho => by
    refine ⟨l, ho, by omega, Ev.step (f := fun _ => some l) (fun k => ?_) (Ev.now _)⟩
    rw [warplaw4_Ops.l0, if_neg (by rw [wr64 (by omega) (by omega)]; omega)]
  | d + 1, i, l, h, h2, h3, ho => by
    by_cases e : i + 2 < ns.length
    · obtain ⟨r, hr, hrl, hev⟩ := ops_l0 ns n hb h0 h1 hl d (i + 3) (l ++ [⟨1 + rd ns (i : Int) % 3, rd ns ((i : Int) + 1) % n, rd ns ((i : Int) + 2) % n⟩]) (by omega) (by simp; omega) (by simp; omega) (fun q hq => by
        rcases List.mem_append.1 hq with hq | hq
        · exact ho q hq
        · rw [List.mem_singleton.1 hq]; exact op_ok h0)
      refine ⟨r, hr, hrl, Ev.step (fun k => ?_) hev⟩
      rw [warplaw4_Ops.l0, wr64 (i := (i : Int) + 2) (by omega) (by omega), wr64 (i := (i : Int) + 1) (by omega) (by omega), wr64 (i := (i : Int) + 3) (by omega) (by omega), if_pos (by omega), if_pos (by omega), if_pos (by omega), if_pos (by omega), if_pos (by omega), if_pos (by omega), if_pos (by omega), op_f (hb _) (hb _) (hb _) h0 h1]
      simp only [Option.bind_some]
      rw [if_pos (by omega)]
      rfl
    · refine ⟨l, ho, by omega, Ev.step (f := fun _ => some l) (fun k => ?_) (Ev.now _)⟩
      rw [warplaw4_Ops.l0, if_neg (by rw [wr64 (by omega) (by omega)]; omega)]
theorem ops_ev (ns : List Int) (n : Nat) (hb : Bytes ns) (h0 : 0 < n) (h1 : n ≤ 65536) (hl : ns.length ≤ 1000000) : ∃ r, OpsOk n r ∧ 3 * r.length ≤ ns.length ∧ Ev (fun k => warplaw4_Ops.f k ns (n : Int)) r :=
  ops_l0 ns n hb h0 h1 hl ns.length 0 [] (by omega) (by simp) (by simp) (fun q hq => by simp at hq)
theorem opsOk_valid {n : Nat} {l : List S40} (h : OpsOk n l) : l.filter (validB n) = l := by
  rw [List.filter_eq_self]
  intro q hq
  obtain ⟨h1, h2, h3, h4⟩ := h q hq
  simp only at h1 h2 h3 h4
  simp [validB, beginB, thereB, h1, h2, h3, h4]
def U8s (l : List (List Int)) : Prop := ∀ x ∈ l, ∀ n ∈ x, 0 ≤ n ∧ n < 256
theorem bytes_of {l : List Int} (h : ∀ x ∈ l, 0 ≤ x ∧ x < 256) : Bytes l := fun i => by
  unfold rd
  rw [List.getD_eq_getElem?_getD]
  cases e : l[i.toNat]? with
  | none => exact ⟨by decide, by decide⟩
  | some x => exact h x (List.mem_of_getElem? e)
theorem u8_rng {n : Int} (h : (Lit.int .u8 n).wf = true) : 0 ≤ n ∧ n < 256 := by
  have h2 : IntKind.u8.min ≤ n ∧ n ≤ IntKind.u8.max := by simpa [Lit.wf] using h
  have e1 : IntKind.u8.min = 0 := rfl
  have e2 : IntKind.u8.max = 255 := rfl
  omega
structure ScrOk (n : Nat) (S : List (List S40)) : Prop where
  len : S.length ≤ 8
  each : ∀ x ∈ S, OpsOk n x ∧ x.length ≤ 8
theorem scripts_l0 (l : List (List Int)) (n : Nat) (hl : U8s l) (h0 : 0 < n) (h1 : n ≤ 65536) : ∀ (d i : Nat) (S : List (List S40)), i + d = 8 → S.length = i → (∀ x ∈ S, OpsOk n x ∧ x.length ≤ 8) →
    ∃ r, ScrOk n r ∧ Ev (fun k => warplaw5_Scripts.l0 k l (n : Int) S (i : Int)) r
  | 0, i, S, h, h2, hS => by
    refine ⟨S, ⟨by omega, hS⟩, Ev.step (f := fun _ => some S) (fun k => ?_) (Ev.now _)⟩
    rw [warplaw5_Scripts.l0]
    by_cases c : (i : Int) < (l.length : Int)
    · rw [if_pos c, if_neg (by omega)]
    · rw [if_neg c]
  | d + 1, i, S, h, h2, hS => by
    by_cases c : (i : Int) < (l.length : Int)
    · have hlt : i < l.length := by omega
      have e1 : rd_L8 l (i : Int) = l[i] := by simp [rd_L8, List.getD_eq_getElem?_getD, hlt]
      have hm : mn ((l[i].length : Nat) : Int) 24 = ((min l[i].length 24 : Nat) : Int) := by unfold mn; split <;> omega
      have hb : ∀ x ∈ l[i].take (min l[i].length 24), 0 ≤ x ∧ x < 256 := fun x hx => hl _ (List.getElem_mem hlt) x (List.mem_of_mem_take hx)
      have hlen : (l[i].take (min l[i].length 24)).length ≤ 24 := by rw [List.length_take]; omega
      obtain ⟨r, hr, hrl, hev⟩ := ops_ev (l[i].take (min l[i].length 24)) n (bytes_of hb) h0 h1 (by omega)
      obtain ⟨r2, hr2, hev2⟩ := scripts_l0 l n hl h0 h1 d (i + 1) (S ++ [r]) (by omega) (by simp; omega) (fun x hx => by
        rcases List.mem_append.1 hx with hx | hx
        · exact hS x hx
        · rw [List.mem_singleton.1 hx]; exact ⟨hr, by omega⟩)
      refine ⟨r2, hr2, Ev.step (f := fun k => (warplaw4_Ops.f k (l[i].take (min l[i].length 24)) (n : Int)).bind fun t173 => (if S.length < 5864062014805 then (warplaw5_Scripts.l0 k l (n : Int) (S ++ [t173]) (wrap64 ((i : Int) + 1))) else (none))) (fun k => ?_) (Ev.bind hev (Ev.congr (fun k => ?_) hev2))⟩
      · rw [warplaw5_Scripts.l0, if_pos c, if_pos (by omega), if_pos (by omega), e1, hm, if_pos (by omega), if_pos (by omega), Int.toNat_natCast]
      · rw [if_pos (by omega), wr64 (by omega) (by omega)]
        rfl
    · refine ⟨S, ⟨by omega, hS⟩, Ev.step (f := fun _ => some S) (fun k => ?_) (Ev.now _)⟩
      rw [warplaw5_Scripts.l0, if_neg c]
theorem scripts_ev (l : List (List Int)) (n : Nat) (hl : U8s l) (h0 : 0 < n) (h1 : n ≤ 65536) : ∃ S, ScrOk n S ∧ Ev (fun k => warplaw5_Scripts.f k l (n : Int)) S :=
  scripts_l0 l n hl h0 h1 8 0 [] (by omega) rfl (fun x hx => by simp at hx)
theorem sumR_bound (n c : Nat) (f : Nat → Nat) (h : ∀ i, i < n → f i ≤ c) : sumR n f ≤ n * c := by
  induction n with
  | zero => simp [sumR]
  | succ n ih =>
    rw [sumR, Nat.succ_mul]
    have := ih fun i hi => h i (by omega)
    have := h n (by omega)
    omega
theorem ScrOk.few {n : Nat} {S : List (List S40)} (h : ScrOk n S) : total S ≤ 64 := by
  have := sumR_bound S.length 8 (fun i => (S.getD i []).length) (fun i hi => by
    rw [List.getD_eq_getElem?_getD, List.getElem?_eq_getElem hi]
    exact (h.each _ (List.getElem_mem hi)).2)
  unfold total
  have h8 := h.len
  omega
theorem ScrOk.valid {n : Nat} {S : List (List S40)} (h : ScrOk n S) : validL n S = S := by
  unfold validL
  have e : S.map (fun l => l.filter (validB n)) = S.map id := List.map_congr_left (fun x hx => opsOk_valid (h.each x hx).1)
  rw [e, List.map_id]
end Go.Proofs.YtmaiicpaalbcfaaDoor
end
section
namespace Go.Proofs.YtmaiicpaalbcfaaDoor
open Go.RowKit Go.Proofs.YtmaiicpaalbcfaaDoorW.PrintWords Go.Proofs.YtmaiicpaalbcfaaDoorW.PrintLast Go.Proofs.YtmaiicpaalbcfaaDoor.P Go.Proofs.YtmaiicpaalbcfaaDoor.Bits
set_option linter.unusedVariables false
theorem sumR_less (n i d : Nat) (f g : Nat → Nat) (hi : i < n) (h : ∀ j, j < n → j ≠ i → f j = g j) (hd : f i = g i + d) : sumR n f = sumR n g + d := by
  induction n with
  | zero => omega
  | succ n ih =>
    rw [sumR, sumR]
    by_cases e : i = n
    · subst e
      rw [sumR_same i f g fun j hj => h j (by omega) (by omega), hd]
      omega
    · rw [ih (by omega) (fun j hj hne => h j (by omega) hne), h n (by omega) (by omega)]
      omega
section
variable {n : Nat} {prio P : List Int} {s : St5} {i : Nat} {l : List S40} {t : T} {b : Int}
theorem next_get (h : Base n prio s) (hG : Goes5 n prio P s i l t b) (j : Nat) : (next5 n prio P s i l t b).ws.getD j z5 = if j = i then ⟨l, (stepL s.up prio t).2, !(stepL s.up prio t).2.is, b, placeW t (stepL s.up prio t).2 (s.steps + 1) (s.ws.getD i z5).pl⟩ else s.ws.getD j z5 :=
  getD_set_any _ _ _ _ _ (by rw [h.len]; exact hG.hi)
def cnt (w : W5) : Nat := w.l.length + (if w.busy = true then 1 else 0)
def Cnt (n tot : Nat) (s : St5) : Prop := s.ev.length + sumR n (fun i => cnt (s.ws.getD i z5)) = tot
theorem Cnt.step {tot : Nat} (h : Base n prio s) (hc : Cnt n tot s) (hG : Goes5 n prio P s i l t b) : Cnt n tot (next5 n prio P s i l t b) := by
  have hget := next_get h hG
  have hwas : cnt (s.ws.getD i z5) = l.length + 1 := by
    unfold cnt
    rcases hG.src with ⟨h1, h2, _⟩ | ⟨h1, o, h2, _⟩
    · rw [if_pos h1, h2]
    · rw [h1, h2]; simp
  unfold Cnt at *
  cases his : (stepL s.up prio t).2.is with
  | true =>
    have e : (next5 n prio P s i l t b).ev.length = s.ev.length + 1 := by simp [next5, his]
    have := sumR_less n i 1 (fun j => cnt (s.ws.getD j z5)) (fun j => cnt ((next5 n prio P s i l t b).ws.getD j z5)) hG.hi (fun j hj hne => by rw [hget j, if_neg hne]) (by rw [hget i, if_pos rfl, hwas]; unfold cnt; simp [his])
    omega
  | false =>
    have e : (next5 n prio P s i l t b).ev.length = s.ev.length := by simp [next5, his]
    have := sumR_same n (fun j => cnt (s.ws.getD j z5)) (fun j => cnt ((next5 n prio P s i l t b).ws.getD j z5)) (fun j hj => by
      rw [hget j]
      by_cases c : j = i
      · rw [if_pos c, c, hwas]; unfold cnt; simp [his]
      · rw [if_neg c])
    omega
theorem Cnt.start {S : List (List S40)} (hv : validL prio.length S = S) : Cnt S.length (total S) (start5 prio S) := by
  unfold Cnt total
  rw [show (start5 prio S).ev.length = 0 from rfl, Nat.zero_add]
  refine sumR_same _ _ _ fun j hj => ?_
  show cnt ((ws5 prio.length S).getD j z5) = _
  rw [ws5_get]
  have : (S.getD j []).filter (validB prio.length) = S.getD j [] := by rw [← validL_get, hv]
  rw [this]
  rfl
theorem Cnt.done {tot : Nat} (h : Base n prio s) (hc : Cnt n tot s) (hg : s.going = 0) : s.ev.length = tot := by
  have hd := h.done hg
  have e : sumR n (fun i => cnt (s.ws.getD i z5)) = sumR n (fun _ => 0) := sumR_same _ _ _ fun j hj => by unfold cnt; rw [(hd j hj).1, (hd j hj).2]; rfl
  have e0 : sumR n (fun _ => 0) = 0 := by
    clear e hd hc h hg
    induction n with
    | zero => rfl
    | succ n ih => rw [sumR, ih]
  unfold Cnt at hc
  omega
end
end Go.Proofs.YtmaiicpaalbcfaaDoor
end
section
namespace Go.Proofs.YtmaiicpaalbcfaaDoor.Pure
open Go.RowKit Go.Proofs.YtmaiicpaalbcfaaDoor.P Go.Proofs.YtmaiicpaalbcfaaDoorW.PrintWords Go.Proofs.YtmaiicpaalbcfaaDoorW.PrintLast Go.Proofs.YtmaiicpaalbcfaaDoor
set_option linter.unusedVariables false
theorem sum_take (S : List (List S40)) (i : Nat) (hi : i < S.length) : ((S.take (i + 1)).map List.length).sum = ((S.take i).map List.length).sum + S[i].length := by
  rw [List.take_succ_eq_append_getElem hi, List.map_append, List.sum_append]
  simp
theorem sum_take_le (S : List (List S40)) (i : Nat) : ((S.take i).map List.length).sum ≤ (S.map List.length).sum := by
  conv => rhs; rw [← List.take_append_drop i S, List.map_append, List.sum_append]
  omega
theorem bound_le (t n : Nat) : 14 * n * t ≤ 100 * (t + 1) * (n + 1) := by
  have e2 : t * n ≤ (t + 1) * (n + 1) := Nat.mul_le_mul (by omega) (by omega)
  rw [Nat.mul_assoc, Nat.mul_comm n, Nat.mul_assoc]
  generalize t * n = a at *
  generalize (t + 1) * (n + 1) = b at *
  omega
theorem bound_w (t n : Nat) (ht : t ≤ 64) (hn : n ≤ 16) : wrap64 ((wrap64 (100 * (wrap64 ((t : Int) + 1)))) * (wrap64 ((n : Int) + 1))) = ((100 * (t + 1) * (n + 1) : Nat) : Int) := by
  have hm2 : 100 * (t + 1) * (n + 1) ≤ 100 * 65 * 17 := Nat.mul_le_mul (by omega) (by omega)
  have e1 : (100 * ((t : Int) + 1)) * ((n : Int) + 1) = ((100 * (t + 1) * (n + 1) : Nat) : Int) := by push_cast; rfl
  have q1 : wrap64 ((t : Int) + 1) = (t : Int) + 1 := by clear hm2 e1; exact wr64 (by omega) (by omega)
  have q2 : wrap64 (100 * ((t : Int) + 1)) = 100 * ((t : Int) + 1) := by clear hm2 e1 q1; exact wr64 (by omega) (by omega)
  have q3 : wrap64 ((n : Int) + 1) = (n : Int) + 1 := by clear hm2 e1 q1 q2; exact wr64 (by omega) (by omega)
  rw [q1, q2, q3, e1]
  clear q1 q2 q3 e1
  generalize 100 * (t + 1) * (n + 1) = q at *
  exact wr64 (by omega) (by omega)
theorem small_cap (t n : Nat) (ht : t ≤ 64) (hn : n ≤ 16) : 14 * n * t < 1000000 := by
  have : 14 * n * t ≤ 14 * 16 * 64 := Nat.mul_le_mul (by omega) ht
  generalize 14 * n * t = q at *
  omega
theorem ends_l0 (l0 l2 : List Int) (n : Nat) (hn : n ≤ 16) (h0 : 0 < n) (hP : l2.length ≤ 500) (S : List (List S40)) (hS : ScrOk n S) : ∀ d i : Nat, i + d = S.length →
    Ev (fun k => warplaw5_PlayEnds.l0 k l0 l2 (n : Int) S (((S.take i).map List.length).sum : Nat) (i : Int)) true
  | 0, i, hi => by
    have ei : i = S.length := by omega
    rw [ei, List.take_length, ← total_sum S]
    have hf := hS.few
    have h8 := hS.len
    obtain ⟨p, hp, hpe⟩ := prio_ev l0 n (by omega)
    obtain ⟨s', h1, hB, hC, hg, hst⟩ := play_whole (prio := p) (P := l2) (S := S) (by omega) (by omega) (by omega) (by rw [hp]; exact small_cap _ _ hf hn) (by omega) (Cnt S.length (total S)) (Cnt.start (by rw [hp]; exact hS.valid)) (fun s i l t b hb hc hG => hc.step hb hG)
    have hev := hC.done hB hg
    have hup : s'.up.length = n := by rw [hB.ok.1, hp]
    have hge : (total S : Int) ≤ s'.steps := by rw [← hev]; exact hB.evs
    have hw := bound_w (total S) n hf hn
    have hle : s'.steps ≤ ((100 * (total S + 1) * (n + 1) : Nat) : Int) := by
      rw [hp] at hst
      exact Int.le_trans hst (Int.ofNat_le.2 (bound_le (total S) n))
    clear hst h8
    refine Ev.step (f := fun k => ((warplaw4_Prio.f k l0 (n : Int)).bind fun t218 => ((play_Play.f t218 S l2).bind fun bt221 => (if (bt221.1.length : Int) = (total S : Int) then (if (bt221.2.1.length : Int) = (n : Int) then (if bt221.2.2 ≥ (total S : Int) then (if bt221.2.2 ≤ (wrap64 ((wrap64 (100 * (wrap64 ((total S : Int) + 1)))) * (wrap64 ((n : Int) + 1)))) then ((warplaw5_awake.f k).bind fun t228 => (some t228)) else (some false)) else (some false)) else (some false)) else (some false))))) (fun k => by rw [warplaw5_PlayEnds.l0, if_neg (by omega)]) ?_
    refine Ev.bind hpe ?_
    unfold play_Play.f
    rw [h1]
    refine Ev.congr (fun k => Option.bind_some ..) ?_
    dsimp only
    rw [hw]
    have e1 : (s'.ev.length : Int) = (total S : Int) := by rw [hev]
    have e2 : (s'.up.length : Int) = (n : Int) := by rw [hup]
    exact Ev.congr (fun k => by rw [if_pos e1, if_pos e2, if_pos hge, if_pos hle]) (Ev.bind awake5 (Ev.now _))
  | d + 1, i, hi => by
    have hlt : i < S.length := by omega
    have e1 : rd_L2 S (i : Int) = S[i] := by simp [rd_L2, List.getD_eq_getElem?_getD, hlt]
    have ih := ends_l0 l0 l2 n hn h0 hP S hS d (i + 1) (by omega)
    have hle := sum_take_le S (i + 1)
    rw [sum_take S i hlt] at ih hle
    rw [← total_sum S] at hle
    have hf := hS.few
    have h8 := hS.len
    refine Ev.step (fun k => ?_) ih
    rw [warplaw5_PlayEnds.l0, if_pos (by omega), if_pos (by omega), e1, wr64 (i := (i : Int) + 1) (by omega) (by omega), wr64 (by omega) (by omega)]
    rfl
theorem PlayEnds : warplaw5_PlayEnds.Pure := by
  intro l0 l1 l2 g0 g1 g2
  refine Ev.rounds ?_
  by_cases c : (l2.length : Int) > 500
  · exact Ev.congr (fun k => by rw [warplaw5_PlayEnds.f, if_pos c]) (Ev.bind awake5 (Ev.now _))
  · have hn : (1 + ((l0.length : Int) % 16)) = ((1 + l0.length % 16 : Nat) : Int) := by omega
    obtain ⟨S, hS, hev⟩ := scripts_ev l1 (1 + l0.length % 16) (fun x hx n hn => u8_rng ((g1.2 x hx).2 n hn)) (by omega) (by omega)
    have := ends_l0 l0 l2 (1 + l0.length % 16) (by omega) (by omega) (by omega) S hS S.length 0 (by omega)
    exact Ev.congr (fun k => by rw [warplaw5_PlayEnds.f, if_neg c, hn]) (Ev.bind hev this)
end Go.Proofs.YtmaiicpaalbcfaaDoor.Pure
end
section
-- PRINTED BY print.sh 35421559b90ae4d0a3588c463048766b98c2df88dd9212a6774a882060cdf62d: not written by this session
-- PRINTED WORDS (module Derived/Print/Sized.lean): go-gate-2's, for the rows of laws over slices: an AI agent of Go's test side, Tue Nov 17 2026; no person has read it. Lean checks it.

end
section
namespace Go.Proofs.YtmaiicpaalbcfaaDoor
open Go.ChangeShapes Go.WideShapes Go.ChangeAt Go.RowKit Go.Proofs.YtmaiicpaalbcfaaDoorW.PrintWords
def Opens (P : Program) (w : World) (t : TypeId) {α : Type} (d : Kd α) (G : α → Prop) : Prop :=
  ∀ {H : Type} (enc : TypeId × Value → H) (base : Nat) (spare : Nat → Bool) (held : Bool) (fuel : Nat) (cs : List Value) (x : DataW H × List MemPlace), DataW.trod enc P w base spare held fuel t cs = some x → ∃ a : α, d.K w a cs ∧ G a
section
variable {P : Program} {w : World} {t e : TypeId}
theorem opens_int {k : IntKind} (ht : P.underlying t = some (.int k)) : Opens P w t (Kd.int k) (fun n => (Lit.int k n).wf = true) := by
  intro H enc base spare held fuel cs x h
  obtain ⟨n, rfl, _, hw⟩ := DataW.trod_int ht h
  exact ⟨n, rfl, hw⟩
theorem addr_add (a : Addr) (x y : Nat) : a.add (x + y) = (a.add x).add y := by
  unfold Addr.add
  by_cases hx : x = 0
  · subst hx; simp
  · by_cases hy : y = 0
    · subst hy; simp [hx]
    · simp [hx, hy, Nat.add_assoc]
theorem list_of {α : Type} {R : Nat → α → Prop} : ∀ n : Nat, (∀ i, i < n → ∃ a, R i a) → ∃ l : List α, l.length = n ∧ ∀ (i : Nat) (a : α), l[i]? = some a → R i a
  | 0, _ => ⟨[], rfl, fun i a h => by simp at h⟩
  | n + 1, h => by
    obtain ⟨l, hl, hr⟩ := list_of n (fun i hi => h i (by omega))
    obtain ⟨a, ha⟩ := h n (by omega)
    refine ⟨l ++ [a], by simp [hl], fun i b hb => ?_⟩
    rcases Nat.lt_or_ge i n with hi | hi
    · rw [List.getElem?_append_left (by omega)] at hb
      exact hr i b hb
    · rw [List.getElem?_append_right (by omega), hl] at hb
      obtain rfl : i = n := by
        have := (List.getElem?_eq_some_iff.1 hb).1
        simp at this
        omega
      simp at hb
      subst hb
      exact ha
theorem opens_slice {α : Type} {d : Kd α} {G : α → Prop} (ht : P.underlying t = some (.slice e)) (hc : P.cellsOf e = d.sz) (ho : Opens P w e d G) : Opens P w t (Kd.slice e d) (fun l => l.length ≤ maxLen ∧ ∀ x ∈ l, G x) := by
  intro H enc base spare held fuel cs x h
  rcases DataW.trod_slice ht h with ⟨rfl, _⟩ | ⟨a, len, cap, elems, rest, n, _, rfl, _, _, hl, hm, hlen, hel, _⟩
  · exact ⟨[], ⟨none, 0, rfl, Nat.le_refl _, rfl, by simp, fun hn => by simp at hn⟩, by simp, fun x hx => by simp at hx⟩
  · obtain ⟨l, hll, hr⟩ := list_of (R := fun i a' => ∃ c : List Value, c.length = d.sz ∧ d.K w a' c ∧ (∀ j u, c[j]? = some u → w.cell? (a.add (i * d.sz + j)) = some u) ∧ G a') len (fun i hi => by
      have h1 := hel i hi
      rw [List.getElem?_eq_getElem (by omega)] at h1
      obtain ⟨c, hcs, hy⟩ := Option.bind_eq_some_iff.1 h1
      obtain ⟨a', hk, hg⟩ := ho enc base spare held n c _ hy
      obtain ⟨_, hcl, hcell⟩ := World.cells?_some hcs
      rw [hc] at hcl hcell
      refine ⟨a', c, hcl, hk, fun j u hu => ?_, hg⟩
      have hj : j < d.sz := by rw [← hcl]; exact (List.getElem?_eq_some_iff.1 hu).1
      have h3 := hcell j hj
      rw [hu] at h3
      rw [← h3, addr_add])
    refine ⟨l, ⟨some a, cap, by rw [hll], by omega, rfl, by unfold maxLen at hm; omega, fun _ => ⟨a, rfl, fun j p hp => ?_⟩⟩, by omega, fun x hx => ?_⟩
    · obtain ⟨c, h1, h2, h3, _⟩ := hr j p hp
      exact ⟨c, h1, h2, h3⟩
    · obtain ⟨i, hi⟩ := List.getElem?_of_mem hx
      obtain ⟨_, _, _, _, hg⟩ := hr i x hi
      exact hg
theorem opens_list {α : Type} {d : Kd α} {G : List α → Prop} {r : Reach} {b0 base : Nat} {spare : Nat → Bool} {held : Bool} {v : Value} {H : Type} {enc : TypeId × Value → H} {dd : DataW H} {p : List MemPlace} (ht : P.underlying t = some (.slice e)) (ho : Opens P w t (Kd.slice e d) G) (hv : Value.okWide P w r b0 t v) (h : DataW.Trod enc P w base spare held t v dd p) :
    ∃ (l : List α) (A : Option Addr) (c : Nat), v = .slice A l.length c ∧ l.length ≤ c ∧ d.C w A l.length l ∧ G l := by
  obtain ⟨a, len, cap, rfl⟩ := okWide_slice ht hv
  obtain ⟨fuel, hf⟩ := h
  obtain ⟨l, ⟨A, c, e1, e2, e3⟩, hg⟩ := ho enc base spare held fuel _ _ hf
  simp only [Value.cells, List.cons.injEq, and_true] at e1
  exact ⟨l, A, c, e1, e2, e3, hg⟩
end
end Go.Proofs.YtmaiicpaalbcfaaDoor
namespace Go.Proofs.YtmaiicpaalbcfaaDoor
open Go.ChangeShapes Go.WideShapes Go.RowKit Go.Proofs.YtmaiicpaalbcfaaDoorW.PrintWords
section
variable {P : Program} {w : World} {t e : TypeId}
end
end Go.Proofs.YtmaiicpaalbcfaaDoor
end
section
namespace Go.Proofs.YtmaiicpaalbcfaaDoor
open Go.ChangeShapes Go.WideShapes Go.RowKit
theorem tab_global : Tryd.prog.globalNamed "math/bits.deBruijn64tab" = some 0 := by kernel_rfl
theorem tab_type : (Tryd.prog.globals[0]?).map (·.type) = some 105 := by kernel_rfl
theorem tab_cell : Tryd.prog.cellsOf 5 = 1 := by kernel_rfl
def tabCells : Array Value := (Lib.deBruijn64tab.map fun (n : Nat) => Value.int .u8 (n : Int)).toArray
theorem laid_eq {H : Type} : (Rows.laid_math_bits_deBruijn64tab : DataW H) = .agg (Lib.deBruijn64tab.map fun (n : Nat) => .lit (.int .u8 (n : Int))) := by rfl
theorem tab_of_laid {W : World} (h : laidMet Tryd.prog [("math/bits.deBruijn64tab", Rows.laid_math_bits_deBruijn64tab)] W) : Tab W := by
  obtain ⟨ps, ⟨g, t, cs, fuel, p, q, hg, ht, hvar, hd, _, _⟩, _⟩ := h
  obtain rfl := Option.some.inj (tab_global.symm.trans hg)
  obtain rfl := Option.some.inj (tab_type.symm.trans ht)
  obtain ⟨xs, m, _, hx, _, hl, hel⟩ := DataW.trod_array Tryd.underlying105 hd
  simp only [Prod.mk.injEq, laid_eq, DataW.agg.injEq] at hx
  intro j hj
  have hj64 : j < 64 := hj
  have h1 := hel j hj64
  rw [List.getElem?_eq_getElem (by omega), tab_cell, Nat.mul_one] at h1
  obtain ⟨n, h2, h3, _⟩ := DataW.trod_int Tryd.underlying5 h1
  have h4 : (xs.map (·.1))[j]? = some (.lit (.int .u8 n)) := by rw [List.getElem?_map, List.getElem?_eq_getElem (by omega), h3]; rfl
  rw [← hx.1, List.getElem?_map, List.getElem?_eq_getElem hj] at h4
  simp only [Option.map_some, Option.some.injEq, DataW.lit.injEq, Lit.int.injEq, true_and] at h4
  have h5 : cs[j]? = some (Value.int .u8 n) := by
    have h6 := congrArg List.head? h2
    rw [List.head?_take, List.head?_drop] at h6
    simpa using h6
  have h7 := World.var?_cell hg hvar j
  rw [h7, h5, ← h4, List.getD_eq_getElem?_getD, List.getElem?_eq_getElem hj]
  rfl
noncomputable def laidWorld (os : Os) : World :=
  { World.holding Tryd.prog os ⟨#[], #[], []⟩ with heap := (World.holding Tryd.prog os ⟨#[], #[], []⟩).heap.modify 0 fun
      | .cells _ t frozen => .cells tabCells t frozen
      | o => o }
theorem laidWorld_row (os : Os) (args : Array Value) : ((laidWorld os).forCall (fun _ _ => 0) ⟨#[], args, []⟩).memory.heap[0]? = some (.cells tabCells 105 (0, 0)) := by kernel_rfl
theorem tabCells_int : ∀ v ∈ tabCells.toList, ∃ n, v = .int .u8 n := by
  intro v hv
  simp only [tabCells, List.mem_map] at hv
  obtain ⟨n, _, rfl⟩ := hv
  exact ⟨_, rfl⟩
set_option maxRecDepth 100000 in
theorem laidWorld_met (os : Os) (args : Array Value) : laidMet Tryd.prog [("math/bits.deBruijn64tab", Rows.laid_math_bits_deBruijn64tab)] ((laidWorld os).forCall (fun _ _ => 0) ⟨#[], args, []⟩).memory := by
  refine ⟨_, ⟨0, 105, tabCells, 8, [], [], tab_global, tab_type, by kernel_rfl, by kernel_rfl, rfl, rfl⟩, by decide +kernel, fun b off h => ?_⟩
  have hb : b = 0 := by
    simp only [List.append_nil, MemPlace.row, List.mem_map] at h
    obtain ⟨i, _, hi⟩ := h
    injection hi with h1 h2
    exact h1.symm
  subst hb
  refine ⟨⟨_, _, laidWorld_row os args⟩, fun u v hc => ?_⟩
  simp only [World.cell?, laidWorld_row os args] at hc
  have hm : (Value.iface u v) ∈ tabCells.toList := by
    have := List.mem_of_getElem? (l := tabCells.toList) (i := off) (a := .iface u v) (by simpa using hc)
    exact this
  obtain ⟨n, hn⟩ := tabCells_int _ hm
  cases hn
end Go.Proofs.YtmaiicpaalbcfaaDoor
end
