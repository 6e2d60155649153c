/-
The proofs that YtmaiicpaalbcfaaDoorLawPlayOne needs, out of the texts of this seat; conditions: those named in each theorem.
-/
import Derived.Test.YtmaiicpaalbcfaaDoorZPlayOne1
import Derived.Lib.BufferMore
import Derived.StillTailTactics
import Derived.Lib.TrailingZeros
import Derived.Laws.Bits64b
section
namespace Go.Proofs.YtmaiicpaalbcfaaDoor.P
open Go.RowKit Go.Proofs.YtmaiicpaalbcfaaDoorW.PrintWords Go.Proofs.YtmaiicpaalbcfaaDoorW.PrintLast Go.Proofs.YtmaiicpaalbcfaaDoorW.PrintMore
attribute [local go_sem] max2_int min2_int max_two min_two max_three min_three max_four min_four   -- for this text's walks alone
set_option linter.unusedVariables false
set_option linter.unusedSimpArgs false
def pick_of.l0 : Nat → List Int → List Bool → Int → Int → Option (List Int)
 | 0, _, _, _, _ => none
 | k + 1, x3, x11, x12, x13 => if x13 < x12 then (if 0 ≤ x13 then (if x13 < (x11.length : Int) then (if rdOf false x11 x13 = true then (if 0 ≤ (x13 / 64) then (if (x13 / 64) < (x3.length : Int) then (if 0 ≤ (Go.bits .and .i64 x13 63) then (pick_of.l0 k (x3.set ((x13 / 64) : Int).toNat (Go.bits .or .u64 (rd x3 (x13 / 64)) (shl .u64 1 (Go.bits .and .i64 x13 63)))) x11 x12 (wrap64 (x13 + 1))) else (none)) else (none)) else (none)) else (pick_of.l0 k x3 x11 x12 (wrap64 (x13 + 1)))) else (none)) else (none)) else (some x3)
def pick_of.f (k : Nat) (l0 : List Bool) : Option (List Int) := if 0 ≤ (wrap64 ((wrap64 ((l0.length : Int) / 64)) + 1)) then (if (wrap64 ((wrap64 ((l0.length : Int) / 64)) + 1) : Int).toNat ≤ 35184372088832 then (pick_of.l0 k (List.replicate (wrap64 ((wrap64 ((l0.length : Int) / 64)) + 1) : Int).toNat 0) l0 (l0.length : Int) 0) else (none)) else (none)
def pick_of.T6 : Bool × List (List Nat × List Nat) := (true, [([], []), ([], []), ([1], [1]), ([0, 2], [0, 2]), ([3], [3]), ([], []), ([5], [5]), ([6], [6]), ([4, 7], [4, 7]), ([0, 2, 0, 1, 2, 3, 4, 5, 6, 7, 8], [0, 2]), ([9, 8, 0, 1, 2, 3, 4, 5, 6, 7, 8], [8, 9])])
def pick_of.B6 : List Nat := [0, 0, 2, 7, 15, 0, 32, 96, 255, 511, 1023]
theorem pick_of.tab6 : rtab .any (opsOf Tryd.f34 6) = pick_of.T6 := by kernel_rfl
theorem pick_of.bits6 : waitsOk pick_of.T6.2 pick_of.B6 = true := by kernel_rfl
set_option maxHeartbeats 8000000 in
set_option maxRecDepth 100000 in
theorem pick_of.calls (k : Nat) (A0 : Option Addr) (c0 : Nat) (l0 : List Bool) (r : List Int) (w : World) (hr0 : Kd.C Kd.bool w A0 l0.length l0) (hc0 : l0.length ≤ c0) (h : pick_of.f k l0 = some r) :
 Calls Tryd.prog 34 #[.slice A0 l0.length c0] w fun e w' => ∃ v0_ : Value, e = .returned (v0_) ∧ Kd.R (Kd.int .u64) 61 w' w.heap.size (fun _ => True) v0_ r ∧ Below w.heap.size w w' := by
 have HR0 := Aside0.mk hr0
 have HC0 := Aside0.mk hc0
 clear hr0 hc0
 have HB := Aside0.mk (Below.refl w.heap.size w)
 have H : (if 0 ≤ (wrap64 ((wrap64 ((l0.length : Int) / 64)) + 1)) then (if (wrap64 ((wrap64 ((l0.length : Int) / 64)) + 1) : Int).toNat ≤ 35184372088832 then (pick_of.l0 k (List.replicate (wrap64 ((wrap64 ((l0.length : Int) / 64)) + 1) : Int).toNat 0) l0 (l0.length : Int) 0) else (none)) else (none)) = some r := h
 clear h
 obtain ⟨ji2, hji2⟩ : ∃ j_ : Int, (wrap64 ((wrap64 ((l0.length : Int) / 64)) + 1)) = j_ := ⟨_, rfl⟩
 replace H : (if 0 ≤ (ji2) then (if (ji2 : Int).toNat ≤ 35184372088832 then (pick_of.l0 k (List.replicate (ji2 : Int).toNat 0) l0 (l0.length : Int) 0) else (none)) else (none)) = some r := by first | (rw [hji2] at H; exact H) | (simp only [hji2] at H ⊢; exact H)
 have hji2w : (IntKind.i64.wrap ((wrap64 ((l0.length : Int) / 64)) + 1)) = ji2 := (i64_w _).trans hji2
 by_cases c3 : 0 ≤ (ji2)
 ·
  rw [if_pos c3] at H
  have c3b0 := eq_true c3
  have c3b1 : decide (0 ≤ (ji2)) = true := decide_eq_true c3
  clear c3
  by_cases c4 : (ji2 : Int).toNat ≤ 35184372088832
  ·
   rw [if_pos c4] at H
   have c4b0 := eq_true c4
   have c4b1 : decide ((ji2 : Int).toNat ≤ 35184372088832) = true := decide_eq_true c4
   clear c4
   obtain ⟨y361, hy361⟩ : ∃ y_ : List Int, y_ = (List.replicate (ji2 : Int).toNat 0) := ⟨_, rfl⟩
   replace H : (pick_of.l0 k y361 l0 (l0.length : Int) 0) = some r := by first | (rw [hy361]; with_reducible exact H) | (have H2_ := (Option.bind_some _ _).symm.trans H; rw [hy361]; with_reducible exact H2_) | (have H2_ := (Option.bind_some _ _).symm.trans H; with_reducible exact H2_) | with_reducible exact H | (rw [hy361]; exact H) | exact H
   have Ny361 := Aside0.mk hy361
   clear hy361
   have H' := Aside0.mk H
   clear H
   go_enter Tryd.func34, Tryd.ntmps34
   go_wp2_with (first | ((with_reducible refine gate_dst (N := 10) rfl ?_); refine Kd.R_make (Kd.int .u64) _ 61 rfl (N := 10) rfl 88 _ _ rfl ji2 rfl rfl Tryd.underlying88 (.int .u64 0) 8 info61 rfl (by decide) (by omega) 0 (ok := fun _ => True) (okp := fun _ => True) rfl (fun _ hk => hk) trivial (of_decide_eq_true (by first | (with_reducible assumption) | assumption)) (Nat.le_trans (Nat.mul_le_mul_right _ (of_decide_eq_true (by first | (with_reducible assumption) | assumption) : ji2.toNat ≤ 35184372088832)) (by omega)) (Below.refl _ _) (Nat.le_refl _) ?_; intro v362 w5 ho6 hb hg_ hnew_; clear hg_ hnew_; (first | rw [← Ny361.out] at ho6 | (simp only [Int.reduceToNat] at ho6; rw [← Ny361.out] at ho6)); have n0_ := Aside0.mk (Kd.R_lower ho6 (below_size (by repeat (first | (with_reducible first | exact HB.out | apply below_alloc | apply pw_below_drewN | apply below_drew1) | exact HB.out)))); have n1_ := Aside0.mk (below_step (by repeat (first | (with_reducible first | exact HB.out | apply below_alloc | apply pw_below_drewN | apply below_drew1) | exact HB.out)) hb); clear HB; have HO363 := n0_; have HB := n1_; clear n0_ n1_; clear hb ho6))
   go_loopg [13] k (fun kq v13 w' => ∃ (x3_1 : List Int) (x13_1 : Int), v13 = .int .i64 x13_1 ∧ Aside0 (pick_of.l0 kq x3_1 l0 (l0.length : Int) x13_1 = some r) ∧ Aside0 (kq ≤ k) ∧ Aside0 (Kd.R (Kd.int .u64) 61 w' w.heap.size (fun _ => True) v362 x3_1) ∧ Aside0 (Below w.heap.size w w'))
   case atStart => exact ⟨(y361), (0), (by first | rfl | (simp; done) | (simp [*]; done)), H', ⟨Nat.le_refl _⟩, ⟨by (with_reducible repeat (first | apply Kd.R_alloc | apply Kd.R_drewN | apply Kd.R_drew)); exact HO363.out⟩, ⟨by repeat (first | (with_reducible first | exact HB.out | apply below_alloc | apply pw_below_drewN | apply below_drew1) | exact HB.out)⟩⟩
   case round =>
    clear H'
    (try clear p2); (try clear c3); (try clear c3b0); (try clear c3b1); (try clear c4); (try clear c4b0); (try clear c4b1); (try clear p6)
    obtain ⟨x3_1, x13_1, rfl, HA, HK1, HO_3, HB⟩ := hrel
    cases gk with
    | zero => exact absurd HA.out (by simp [pick_of.l0])
    | succ k1 =>
     have H := HA.out
     clear HA
     simp only [pick_of.l0] at H
     by_cases c7 : x13_1 < (l0.length : Int)
     ·
      rw [if_pos c7] at H
      have c7b0 : decide (x13_1 < (l0.length : Int)) = true := decide_eq_true c7
      clear c7
      by_cases c8 : 0 ≤ x13_1
      ·
       rw [if_pos c8] at H
       have c8b0 : decide (0 ≤ x13_1) = true := decide_eq_true c8
       clear c8
       by_cases c9 : x13_1 < (l0.length : Int)
       ·
        rw [if_pos c9] at H
        have c9b0 : decide (x13_1 < (l0.length : Int)) = true := decide_eq_true c9
        clear c9
        obtain ⟨bq10, hbq10⟩ : ∃ b_ : Bool, b_ = (rdOf false l0 x13_1) := ⟨_, rfl⟩
        replace H : (if bq10 = true then (if 0 ≤ (x13_1 / 64) then (if (x13_1 / 64) < (x3_1.length : Int) then (if 0 ≤ (Go.bits .and .i64 x13_1 63) then (pick_of.l0 k1 (x3_1.set ((x13_1 / 64) : Int).toNat (Go.bits .or .u64 (rd x3_1 (x13_1 / 64)) (shl .u64 1 (Go.bits .and .i64 x13_1 63)))) l0 (l0.length : Int) (wrap64 (x13_1 + 1))) else (none)) else (none)) else (none)) else (pick_of.l0 k1 x3_1 l0 (l0.length : Int) (wrap64 (x13_1 + 1)))) = some r := by rw [← hbq10] at H; exact H
        have Nbq10 := Aside0.mk hbq10
        clear hbq10
        by_cases c11 : bq10 = true
        ·
         subst c11
         have H1 : (if 0 ≤ (x13_1 / 64) then (if (x13_1 / 64) < (x3_1.length : Int) then (if 0 ≤ (Go.bits .and .i64 x13_1 63) then (pick_of.l0 k1 (x3_1.set ((x13_1 / 64) : Int).toNat (Go.bits .or .u64 (rd x3_1 (x13_1 / 64)) (shl .u64 1 (Go.bits .and .i64 x13_1 63)))) l0 (l0.length : Int) (wrap64 (x13_1 + 1))) else (none)) else (none)) else (none)) = some r := by rw [if_pos rfl] at H; exact H
         clear H
         have H := H1
         clear H1
         obtain ⟨ji12, hji12⟩ : ∃ j_ : Int, (x13_1 / 64) = j_ := ⟨_, rfl⟩
         replace H : (if 0 ≤ (ji12) then (if (ji12) < (x3_1.length : Int) then (if 0 ≤ (Go.bits .and .i64 x13_1 63) then (pick_of.l0 k1 (x3_1.set ((ji12) : Int).toNat (Go.bits .or .u64 (rd x3_1 (ji12)) (shl .u64 1 (Go.bits .and .i64 x13_1 63)))) l0 (l0.length : Int) (wrap64 (x13_1 + 1))) else (none)) else (none)) else (none)) = some r := by first | (rw [hji12] at H; exact H) | (simp only [hji12] at H ⊢; exact H)
         by_cases c13 : 0 ≤ (ji12)
         ·
          rw [if_pos c13] at H
          have c13b0 : decide (0 ≤ (ji12)) = true := decide_eq_true c13
          clear c13
          by_cases c14 : (ji12) < (x3_1.length : Int)
          ·
           rw [if_pos c14] at H
           have c14b0 : decide ((ji12) < (x3_1.length : Int)) = true := decide_eq_true c14
           clear c14
           by_cases c15 : 0 ≤ (Go.bits .and .i64 x13_1 63)
           ·
            rw [if_pos c15] at H
            have c15b0 := eq_true c15
            have c15b1 : decide (0 ≤ (Go.bits .and .i64 x13_1 63)) = true := decide_eq_true c15
            clear c15
            obtain ⟨ji16, hji16⟩ : ∃ j_ : Int, (shl .u64 1 (Go.bits .and .i64 x13_1 63)) = j_ := ⟨_, rfl⟩
            replace H : (pick_of.l0 k1 (x3_1.set ((ji12) : Int).toNat (Go.bits .or .u64 (rd x3_1 (ji12)) (ji16))) l0 (l0.length : Int) (wrap64 (x13_1 + 1))) = some r := by first | (rw [hji16] at H; exact H) | (simp only [hji16] at H ⊢; exact H)
            have hji16_ : (IntKind.u64.wrap (1 * 2 ^ min (Go.bits .and .i64 x13_1 63).toNat 64)) = ji16 := hji16
            have hji16z : (Go.bits .and .i64 x13_1 63) ≤ 64 → (IntKind.u64.wrap (1 * 2 ^ (Go.bits .and .i64 x13_1 63).toNat)) = ji16 := shl_small hji16
            have hji16u : (IntKind.u64.wrap (2 ^ min (Go.bits .and .i64 x13_1 63).toNat 64)) = ji16 := by have h_ := hji16_; rw [Int.one_mul] at h_; exact h_
            have hji16v : (Go.bits .and .i64 x13_1 63) ≤ 64 → (IntKind.u64.wrap (2 ^ (Go.bits .and .i64 x13_1 63).toNat)) = ji16 := fun hle_ => by have h_ := hji16z hle_; rw [Int.one_mul] at h_; exact h_
            obtain ⟨y366, hy366⟩ : ∃ y_ : List Int, y_ = (x3_1.set ((ji12) : Int).toNat (Go.bits .or .u64 (rd x3_1 (ji12)) (ji16))) := ⟨_, rfl⟩
            replace H : (pick_of.l0 k1 y366 l0 (l0.length : Int) (wrap64 (x13_1 + 1))) = some r := by first | (rw [hy366]; with_reducible exact H) | (have H2_ := (Option.bind_some _ _).symm.trans H; rw [hy366]; with_reducible exact H2_) | (have H2_ := (Option.bind_some _ _).symm.trans H; with_reducible exact H2_) | with_reducible exact H | (rw [hy366]; exact H) | exact H
            have Ny366 := Aside0.mk hy366
            clear hy366
            have H' := Aside0.mk H
            clear H
            have p364 : 0 ≤ (x13_1 : Int) := of_decide_eq_true (by first | (with_reducible assumption) | assumption)
            have q364 : x13_1 < (l0.length : Int) := of_decide_eq_true (by first | (with_reducible assumption) | assumption)
            obtain ⟨ad364, e364, hx364_0⟩ := Kd.at_bool HR0.out x13_1 p364 q364
            (try rw [← Nbq10.out] at hx364_0)
            cases e364
            replace hx364_0 := (HB.out.cell (World.block_lt_of_cell? w _ hx364_0)).trans hx364_0
            replace p364 := eq_true p364
            replace q364 := eq_true q364
            try go_wp2
            have n0_ := Aside0.mk (Kd.R_drew HO_3.out)
            have n1_ := Aside0.mk (below_drew1 HB.out)
            clear HO_3
            clear HB
            have HO_3 := n0_
            have HB := n1_
            clear n0_ n1_
            obtain ⟨Ao19, co19, eo19⟩ := Kd.R_slice HO_3.out
            (first | subst eo19 | (injection eo19 with f1_ f2_ f3_; have f4_ := f1_.symm; have f5_ := f3_.symm; clear f1_ f2_ f3_; subst f4_; subst f5_))
            have p365 : 0 ≤ ((ji12) : Int) := of_decide_eq_true (by first | (with_reducible assumption) | assumption)
            have q365 : (ji12) < (x3_1.length : Int) := of_decide_eq_true (by first | (with_reducible assumption) | assumption)
            obtain ⟨ad365, e365, hx365_0⟩ := Kd.at_int (Kd.R_reads' HO_3.out).2.2 (ji12) p365 q365
            cases e365
            replace p365 := eq_true p365
            replace q365 := eq_true q365
            have p17 : 0 ≤ ((ji12) : Int) := of_decide_eq_true (by first | (with_reducible assumption) | assumption)
            have q17 : ((ji12) : Int) < ((x3_1.length : Int) : Int) := of_decide_eq_true (by first | (with_reducible assumption) | assumption)
            obtain ⟨go17, co17, eo17, gb17, gl17, cl17, HG17⟩ := Kd.R_form HO_3.out (by omega)
            (first | cases eo17 | (injection eo17 with ea_ en_ ec_; (first | subst ea_ | (injection ea_ with ea_; subst ea_)); subst ec_; clear en_))
            have GB17 := Aside0.mk gb17
            have GG17 := Aside0.mk HG17
            clear gb17 gl17 HG17
            (first | simp only [add_plain] at hx365_0 | skip)
            obtain ⟨hx17_0, hf17_0⟩ := Kd.R_celln 0 HO_3.out ((ji12) : Int) p17 q17
            replace p17 := eq_true p17
            replace q17 := eq_true q17
            have HP20 := Kd.R_putn HO_3.out ((ji12) : Int) (Go.bits .or .u64 (rd x3_1 (ji12)) (ji16))
            rw [← Ny366.out] at HP20
            have HQ20 := Aside0.mk HP20
            clear HP20
            refine start_ (n := 11) (S := fun w' => w'.cell? ⟨go17, ((ji12)).toNat, none⟩ = some (.int .u64 (rd x3_1 (ji12)))) (ds := [10]) #[false, false, false, false, false, false, false, false, false, false, false] (by kernel_rfl) rfl rfl (hx365_0) (fun hHeld => ?_); refine with_tabW pick_of.tab6 pick_of.bits6 (fun HT_ HW_ => ?_)
            generalize wr.drew = w18 at HO_3 HB GG17 HQ20 hf17_0 hx17_0 hx365_0 hHeld ⊢
            refine pure_ (i := 0) (N := some 19) (v := ?_) (a' := ?_) #[true, false, false, false, false, false, false, false, false, false, false] rfl rfl (any_of HT_.out (by kernel_rfl)) (fun _ _ _ h => h) (Or.inl ⟨by rfl, ?_⟩) ?_ ?_
            rotate_left
            ·
             intro w'
             go_simp
             with_reducible rfl
            rotate_left
            ·
             simp only [Act.put, List.setIfInBounds_toArray, List.set_cons_zero, List.set_cons_succ, i64_w, i32_w]
             rfl
            refine pure_ (i := 1) (N := some 20) (v := ?_) (a' := ?_) #[true, true, false, false, false, false, false, false, false, false, false] rfl rfl (any_of HT_.out (by kernel_rfl)) (fun _ _ _ h => h) (Or.inl ⟨by rfl, ?_⟩) ?_ ?_
            rotate_left
            ·
             intro w'
             go_simp
             with_reducible rfl
            rotate_left
            ·
             simp only [Act.put, List.setIfInBounds_toArray, List.set_cons_zero, List.set_cons_succ, i64_w, i32_w]
             rfl
            refine pure_ (i := 2) (N := some 21) (v := ?_) (a' := ?_) #[true, true, true, false, false, false, false, false, false, false, false] rfl rfl (any_of HT_.out (by kernel_rfl)) (fun _ _ _ h => h) (Or.inl ⟨by rfl, ?_⟩) ?_ ?_
            rotate_left
            ·
             intro w'
             go_simp
             with_reducible rfl
            rotate_left
            ·
             simp only [Act.put, List.setIfInBounds_toArray, List.set_cons_zero, List.set_cons_succ, i64_w, i32_w]
             rfl
            refine pure_ (i := 3) (N := some 22) (v := ?_) (a' := ?_) #[true, true, true, true, false, false, false, false, false, false, false] rfl rfl (any_of HT_.out (by kernel_rfl)) (fun _ _ _ h => h) (Or.inl ⟨by rfl, ?_⟩) ?_ ?_
            rotate_left
            ·
             intro w'
             go_simp
             with_reducible rfl
            rotate_left
            ·
             simp only [Act.put, List.setIfInBounds_toArray, List.set_cons_zero, List.set_cons_succ, i64_w, i32_w]
             rfl
            refine pure_ (i := 5) (N := some 24) (v := ?_) (a' := ?_) #[true, true, true, true, false, true, false, false, false, false, false] rfl rfl (any_of HT_.out (by kernel_rfl)) (fun _ _ _ h => h) (Or.inl ⟨by rfl, ?_⟩) ?_ ?_
            rotate_left
            ·
             intro w'
             go_simp
             with_reducible rfl
            rotate_left
            ·
             simp only [Act.put, List.setIfInBounds_toArray, List.set_cons_zero, List.set_cons_succ, i64_w, i32_w]
             rfl
            refine pure_ (i := 6) (N := some 25) (v := ?_) (a' := ?_) #[true, true, true, true, false, true, true, false, false, false, false] rfl rfl (any_of HT_.out (by kernel_rfl)) (fun _ _ _ h => h) (Or.inl ⟨by rfl, ?_⟩) ?_ ?_
            rotate_left
            ·
             intro w'
             go_simp
             with_reducible rfl
            rotate_left
            ·
             simp only [Act.put, List.setIfInBounds_toArray, List.set_cons_zero, List.set_cons_succ, i64_w, i32_w]
             rfl
            refine pure_ (i := 7) (N := some 26) (v := ?_) (a' := ?_) #[true, true, true, true, false, true, true, true, false, false, false] rfl rfl (any_of HT_.out (by kernel_rfl)) (fun _ _ _ h => h) (Or.inl ⟨by rfl, ?_⟩) ?_ ?_
            rotate_left
            ·
             intro w'
             go_simp
             with_reducible rfl
            rotate_left
            ·
             simp only [Act.put, List.setIfInBounds_toArray, List.set_cons_zero, List.set_cons_succ, i64_w, i32_w]
             rfl
            refine take_ (i := 4) (N := some 23) (v := ?_) (a' := ?_) #[true, true, true, true, true, true, true, true, false, false, false] rfl rfl (take_ofW HT_.out HW_.out (by kernel_rfl)) (fun _ _ _ h => h) (Or.inl ⟨by rfl, ?_⟩) hHeld ?_ ?_
            rotate_left
            ·
             intro w' s0
             go_simp
             with_reducible rfl
            rotate_left
            ·
             simp only [Act.put, List.setIfInBounds_toArray, List.set_cons_zero, List.set_cons_succ, i64_w, i32_w]
             rfl
            refine pure_ (i := 8) (N := some 27) (v := ?_) (a' := ?_) #[true, true, true, true, true, true, true, true, true, false, false] rfl rfl (any_of HT_.out (by kernel_rfl)) (fun _ _ _ h => h) (Or.inl ⟨by rfl, ?_⟩) ?_ ?_
            rotate_left
            ·
             intro w'
             go_simp
             with_reducible rfl
            rotate_left
            ·
             simp only [Act.put, List.setIfInBounds_toArray, List.set_cons_zero, List.set_cons_succ, i64_w, i32_w]
             rfl
            refine pure_ (i := 9) (N := some 28) (v := ?_) (a' := ?_) #[true, true, true, true, true, true, true, true, true, true, false] rfl rfl (any_of HT_.out (by kernel_rfl)) (fun _ _ _ h => h) (Or.inl ⟨by rfl, ?_⟩) ?_ ?_
            rotate_left
            ·
             intro w'
             go_simp
             with_reducible rfl
            rotate_left
            ·
             simp only [Act.put, List.setIfInBounds_toArray, List.set_cons_zero, List.set_cons_succ, i64_w, i32_w]
             rfl
            refine last_ (i := 10) (N := none) #[true, true, true, true, true, true, true, true, true, true, true] rfl rfl (one_of HT_.out (by kernel_rfl)) (by decide) (fun K hK => ?_)
            refine skip_ (w1 := ?_) (by rfl) rfl ?_ ?_
            rotate_left
            ·
             go_simp
             rfl
            refine hK.out _ _ ?_
            clear hK K
            refine done_ (done_of HT_.out (by kernel_rfl)) ?_
            try go_wp2
            go_roundg k1
            case measure => have := HK1.out; omega
            case rel => exact ⟨(y366), (wrap64 (x13_1 + 1)), (by first | rfl | (simp; done) | (simp [*]; done)), H', ⟨by have := HK1.out; omega⟩, ⟨by (with_reducible repeat (first | apply Kd.R_alloc | apply Kd.R_drewN | apply Kd.R_drew)); exact HQ20.out⟩, ⟨by repeat (first | (with_reducible first | exact HB.out | apply below_alloc | apply pw_below_drewN | apply below_drew1 | refine below_set ?_ GB17.out) | exact HB.out)⟩⟩
           ·
            rw [if_neg c15] at H
            exact absurd H (by simp)
          ·
           rw [if_neg c14] at H
           exact absurd H (by simp)
         ·
          rw [if_neg c13] at H
          exact absurd H (by simp)
        ·
         replace c11 := Bool.eq_false_iff.mpr c11
         subst c11
         have H1 : (pick_of.l0 k1 x3_1 l0 (l0.length : Int) (wrap64 (x13_1 + 1))) = some r := by rw [if_neg (show ¬ (false = true) by decide)] at H; exact H
         clear H
         have H := H1
         clear H1
         have H' := Aside0.mk H
         clear H
         have p364 : 0 ≤ (x13_1 : Int) := of_decide_eq_true (by first | (with_reducible assumption) | assumption)
         have q364 : x13_1 < (l0.length : Int) := of_decide_eq_true (by first | (with_reducible assumption) | assumption)
         obtain ⟨ad364, e364, hx364_0⟩ := Kd.at_bool HR0.out x13_1 p364 q364
         (try rw [← Nbq10.out] at hx364_0)
         cases e364
         replace hx364_0 := (HB.out.cell (World.block_lt_of_cell? w _ hx364_0)).trans hx364_0
         replace p364 := eq_true p364
         replace q364 := eq_true q364
         go_wp2
         go_roundg k1
         case measure => have := HK1.out; omega
         case rel => exact ⟨(x3_1), (wrap64 (x13_1 + 1)), (by first | rfl | (simp; done) | (simp [*]; done)), H', ⟨by have := HK1.out; omega⟩, ⟨by (with_reducible repeat (first | apply Kd.R_alloc | apply Kd.R_drewN | apply Kd.R_drew)); exact HO_3.out⟩, ⟨by repeat (first | (with_reducible first | exact HB.out | apply below_alloc | apply pw_below_drewN | apply below_drew1) | exact HB.out)⟩⟩
       ·
        rw [if_neg c9] at H
        exact absurd H (by simp)
      ·
       rw [if_neg c8] at H
       exact absurd H (by simp)
     ·
      rw [if_neg c7] at H
      have c7b0 : decide (x13_1 < (l0.length : Int)) = false := decide_eq_false c7
      clear c7
      obtain rfl := Option.some.inj H
      go_wp2
      go_ret
      exact ⟨_, by first | rfl | (simp [errW_none, errW_some] <;> rfl) | (simp only [← hji2]; first | rfl | (simp [errW_none, errW_some] <;> rfl)) | (simp [*, errW_none, errW_some] <;> rfl), by (with_reducible repeat (first | apply Kd.R_alloc | apply Kd.R_drewN | apply Kd.R_drew)); exact HO_3.out, by repeat (first | (with_reducible first | exact HB.out | apply below_alloc | apply pw_below_drewN | apply below_drew1) | exact HB.out)⟩
  ·
   rw [if_neg c4] at H
   exact absurd H (by simp)
 ·
  rw [if_neg c3] at H
  exact absurd H (by simp)
def bits_OnesCount64.f (a0 : Int) : Option (Int) := some (Go.bits .and .i64 (wrap64 (IntKind.u64.wrap ((IntKind.u64.wrap ((IntKind.u64.wrap ((Go.bits .and .u64 (IntKind.u64.wrap (((IntKind.u64.wrap ((Go.bits .and .u64 ((IntKind.u64.wrap ((Go.bits .and .u64 (a0 / 2) 6148914691236517205) + (Go.bits .and .u64 a0 6148914691236517205))) / 4) 3689348814741910323) + (Go.bits .and .u64 (IntKind.u64.wrap ((Go.bits .and .u64 (a0 / 2) 6148914691236517205) + (Go.bits .and .u64 a0 6148914691236517205))) 3689348814741910323))) / 16) + (IntKind.u64.wrap ((Go.bits .and .u64 ((IntKind.u64.wrap ((Go.bits .and .u64 (a0 / 2) 6148914691236517205) + (Go.bits .and .u64 a0 6148914691236517205))) / 4) 3689348814741910323) + (Go.bits .and .u64 (IntKind.u64.wrap ((Go.bits .and .u64 (a0 / 2) 6148914691236517205) + (Go.bits .and .u64 a0 6148914691236517205))) 3689348814741910323))))) 1085102592571150095) + ((Go.bits .and .u64 (IntKind.u64.wrap (((IntKind.u64.wrap ((Go.bits .and .u64 ((IntKind.u64.wrap ((Go.bits .and .u64 (a0 / 2) 6148914691236517205) + (Go.bits .and .u64 a0 6148914691236517205))) / 4) 3689348814741910323) + (Go.bits .and .u64 (IntKind.u64.wrap ((Go.bits .and .u64 (a0 / 2) 6148914691236517205) + (Go.bits .and .u64 a0 6148914691236517205))) 3689348814741910323))) / 16) + (IntKind.u64.wrap ((Go.bits .and .u64 ((IntKind.u64.wrap ((Go.bits .and .u64 (a0 / 2) 6148914691236517205) + (Go.bits .and .u64 a0 6148914691236517205))) / 4) 3689348814741910323) + (Go.bits .and .u64 (IntKind.u64.wrap ((Go.bits .and .u64 (a0 / 2) 6148914691236517205) + (Go.bits .and .u64 a0 6148914691236517205))) 3689348814741910323))))) 1085102592571150095) / 256))) + ((IntKind.u64.wrap ((Go.bits .and .u64 (IntKind.u64.wrap (((IntKind.u64.wrap ((Go.bits .and .u64 ((IntKind.u64.wrap ((Go.bits .and .u64 (a0 / 2) 6148914691236517205) + (Go.bits .and .u64 a0 6148914691236517205))) / 4) 3689348814741910323) + (Go.bits .and .u64 (IntKind.u64.wrap ((Go.bits .and .u64 (a0 / 2) 6148914691236517205) + (Go.bits .and .u64 a0 6148914691236517205))) 3689348814741910323))) / 16) + (IntKind.u64.wrap ((Go.bits .and .u64 ((IntKind.u64.wrap ((Go.bits .and .u64 (a0 / 2) 6148914691236517205) + (Go.bits .and .u64 a0 6148914691236517205))) / 4) 3689348814741910323) + (Go.bits .and .u64 (IntKind.u64.wrap ((Go.bits .and .u64 (a0 / 2) 6148914691236517205) + (Go.bits .and .u64 a0 6148914691236517205))) 3689348814741910323))))) 1085102592571150095) + ((Go.bits .and .u64 (IntKind.u64.wrap (((IntKind.u64.wrap ((Go.bits .and .u64 ((IntKind.u64.wrap ((Go.bits .and .u64 (a0 / 2) 6148914691236517205) + (Go.bits .and .u64 a0 6148914691236517205))) / 4) 3689348814741910323) + (Go.bits .and .u64 (IntKind.u64.wrap ((Go.bits .and .u64 (a0 / 2) 6148914691236517205) + (Go.bits .and .u64 a0 6148914691236517205))) 3689348814741910323))) / 16) + (IntKind.u64.wrap ((Go.bits .and .u64 ((IntKind.u64.wrap ((Go.bits .and .u64 (a0 / 2) 6148914691236517205) + (Go.bits .and .u64 a0 6148914691236517205))) / 4) 3689348814741910323) + (Go.bits .and .u64 (IntKind.u64.wrap ((Go.bits .and .u64 (a0 / 2) 6148914691236517205) + (Go.bits .and .u64 a0 6148914691236517205))) 3689348814741910323))))) 1085102592571150095) / 256))) / 65536))) + ((IntKind.u64.wrap ((IntKind.u64.wrap ((Go.bits .and .u64 (IntKind.u64.wrap (((IntKind.u64.wrap ((Go.bits .and .u64 ((IntKind.u64.wrap ((Go.bits .and .u64 (a0 / 2) 6148914691236517205) + (Go.bits .and .u64 a0 6148914691236517205))) / 4) 3689348814741910323) + (Go.bits .and .u64 (IntKind.u64.wrap ((Go.bits .and .u64 (a0 / 2) 6148914691236517205) + (Go.bits .and .u64 a0 6148914691236517205))) 3689348814741910323))) / 16) + (IntKind.u64.wrap ((Go.bits .and .u64 ((IntKind.u64.wrap ((Go.bits .and .u64 (a0 / 2) 6148914691236517205) + (Go.bits .and .u64 a0 6148914691236517205))) / 4) 3689348814741910323) + (Go.bits .and .u64 (IntKind.u64.wrap ((Go.bits .and .u64 (a0 / 2) 6148914691236517205) + (Go.bits .and .u64 a0 6148914691236517205))) 3689348814741910323))))) 1085102592571150095) + ((Go.bits .and .u64 (IntKind.u64.wrap (((IntKind.u64.wrap ((Go.bits .and .u64 ((IntKind.u64.wrap ((Go.bits .and .u64 (a0 / 2) 6148914691236517205) + (Go.bits .and .u64 a0 6148914691236517205))) / 4) 3689348814741910323) + (Go.bits .and .u64 (IntKind.u64.wrap ((Go.bits .and .u64 (a0 / 2) 6148914691236517205) + (Go.bits .and .u64 a0 6148914691236517205))) 3689348814741910323))) / 16) + (IntKind.u64.wrap ((Go.bits .and .u64 ((IntKind.u64.wrap ((Go.bits .and .u64 (a0 / 2) 6148914691236517205) + (Go.bits .and .u64 a0 6148914691236517205))) / 4) 3689348814741910323) + (Go.bits .and .u64 (IntKind.u64.wrap ((Go.bits .and .u64 (a0 / 2) 6148914691236517205) + (Go.bits .and .u64 a0 6148914691236517205))) 3689348814741910323))))) 1085102592571150095) / 256))) + ((IntKind.u64.wrap ((Go.bits .and .u64 (IntKind.u64.wrap (((IntKind.u64.wrap ((Go.bits .and .u64 ((IntKind.u64.wrap ((Go.bits .and .u64 (a0 / 2) 6148914691236517205) + (Go.bits .and .u64 a0 6148914691236517205))) / 4) 3689348814741910323) + (Go.bits .and .u64 (IntKind.u64.wrap ((Go.bits .and .u64 (a0 / 2) 6148914691236517205) + (Go.bits .and .u64 a0 6148914691236517205))) 3689348814741910323))) / 16) + (IntKind.u64.wrap ((Go.bits .and .u64 ((IntKind.u64.wrap ((Go.bits .and .u64 (a0 / 2) 6148914691236517205) + (Go.bits .and .u64 a0 6148914691236517205))) / 4) 3689348814741910323) + (Go.bits .and .u64 (IntKind.u64.wrap ((Go.bits .and .u64 (a0 / 2) 6148914691236517205) + (Go.bits .and .u64 a0 6148914691236517205))) 3689348814741910323))))) 1085102592571150095) + ((Go.bits .and .u64 (IntKind.u64.wrap (((IntKind.u64.wrap ((Go.bits .and .u64 ((IntKind.u64.wrap ((Go.bits .and .u64 (a0 / 2) 6148914691236517205) + (Go.bits .and .u64 a0 6148914691236517205))) / 4) 3689348814741910323) + (Go.bits .and .u64 (IntKind.u64.wrap ((Go.bits .and .u64 (a0 / 2) 6148914691236517205) + (Go.bits .and .u64 a0 6148914691236517205))) 3689348814741910323))) / 16) + (IntKind.u64.wrap ((Go.bits .and .u64 ((IntKind.u64.wrap ((Go.bits .and .u64 (a0 / 2) 6148914691236517205) + (Go.bits .and .u64 a0 6148914691236517205))) / 4) 3689348814741910323) + (Go.bits .and .u64 (IntKind.u64.wrap ((Go.bits .and .u64 (a0 / 2) 6148914691236517205) + (Go.bits .and .u64 a0 6148914691236517205))) 3689348814741910323))))) 1085102592571150095) / 256))) / 65536))) / 4294967296)))) 127)
set_option maxHeartbeats 8000000 in
set_option maxRecDepth 100000 in
theorem bits_OnesCount64.calls (a0 : Int) (r : Int) (w : World) (h : bits_OnesCount64.f a0 = some r) :
 Calls Tryd.prog 45 #[.int .u64 a0] w fun e w' => e = .returned (.int .i64 r) ∧ Drawn0 w w' := by
 have H : (some (Go.bits .and .i64 (wrap64 (IntKind.u64.wrap ((IntKind.u64.wrap ((IntKind.u64.wrap ((Go.bits .and .u64 (IntKind.u64.wrap (((IntKind.u64.wrap ((Go.bits .and .u64 ((IntKind.u64.wrap ((Go.bits .and .u64 (a0 / 2) 6148914691236517205) + (Go.bits .and .u64 a0 6148914691236517205))) / 4) 3689348814741910323) + (Go.bits .and .u64 (IntKind.u64.wrap ((Go.bits .and .u64 (a0 / 2) 6148914691236517205) + (Go.bits .and .u64 a0 6148914691236517205))) 3689348814741910323))) / 16) + (IntKind.u64.wrap ((Go.bits .and .u64 ((IntKind.u64.wrap ((Go.bits .and .u64 (a0 / 2) 6148914691236517205) + (Go.bits .and .u64 a0 6148914691236517205))) / 4) 3689348814741910323) + (Go.bits .and .u64 (IntKind.u64.wrap ((Go.bits .and .u64 (a0 / 2) 6148914691236517205) + (Go.bits .and .u64 a0 6148914691236517205))) 3689348814741910323))))) 1085102592571150095) + ((Go.bits .and .u64 (IntKind.u64.wrap (((IntKind.u64.wrap ((Go.bits .and .u64 ((IntKind.u64.wrap ((Go.bits .and .u64 (a0 / 2) 6148914691236517205) + (Go.bits .and .u64 a0 6148914691236517205))) / 4) 3689348814741910323) + (Go.bits .and .u64 (IntKind.u64.wrap ((Go.bits .and .u64 (a0 / 2) 6148914691236517205) + (Go.bits .and .u64 a0 6148914691236517205))) 3689348814741910323))) / 16) + (IntKind.u64.wrap ((Go.bits .and .u64 ((IntKind.u64.wrap ((Go.bits .and .u64 (a0 / 2) 6148914691236517205) + (Go.bits .and .u64 a0 6148914691236517205))) / 4) 3689348814741910323) + (Go.bits .and .u64 (IntKind.u64.wrap ((Go.bits .and .u64 (a0 / 2) 6148914691236517205) + (Go.bits .and .u64 a0 6148914691236517205))) 3689348814741910323))))) 1085102592571150095) / 256))) + ((IntKind.u64.wrap ((Go.bits .and .u64 (IntKind.u64.wrap (((IntKind.u64.wrap ((Go.bits .and .u64 ((IntKind.u64.wrap ((Go.bits .and .u64 (a0 / 2) 6148914691236517205) + (Go.bits .and .u64 a0 6148914691236517205))) / 4) 3689348814741910323) + (Go.bits .and .u64 (IntKind.u64.wrap ((Go.bits .and .u64 (a0 / 2) 6148914691236517205) + (Go.bits .and .u64 a0 6148914691236517205))) 3689348814741910323))) / 16) + (IntKind.u64.wrap ((Go.bits .and .u64 ((IntKind.u64.wrap ((Go.bits .and .u64 (a0 / 2) 6148914691236517205) + (Go.bits .and .u64 a0 6148914691236517205))) / 4) 3689348814741910323) + (Go.bits .and .u64 (IntKind.u64.wrap ((Go.bits .and .u64 (a0 / 2) 6148914691236517205) + (Go.bits .and .u64 a0 6148914691236517205))) 3689348814741910323))))) 1085102592571150095) + ((Go.bits .and .u64 (IntKind.u64.wrap (((IntKind.u64.wrap ((Go.bits .and .u64 ((IntKind.u64.wrap ((Go.bits .and .u64 (a0 / 2) 6148914691236517205) + (Go.bits .and .u64 a0 6148914691236517205))) / 4) 3689348814741910323) + (Go.bits .and .u64 (IntKind.u64.wrap ((Go.bits .and .u64 (a0 / 2) 6148914691236517205) + (Go.bits .and .u64 a0 6148914691236517205))) 3689348814741910323))) / 16) + (IntKind.u64.wrap ((Go.bits .and .u64 ((IntKind.u64.wrap ((Go.bits .and .u64 (a0 / 2) 6148914691236517205) + (Go.bits .and .u64 a0 6148914691236517205))) / 4) 3689348814741910323) + (Go.bits .and .u64 (IntKind.u64.wrap ((Go.bits .and .u64 (a0 / 2) 6148914691236517205) + (Go.bits .and .u64 a0 6148914691236517205))) 3689348814741910323))))) 1085102592571150095) / 256))) / 65536))) + ((IntKind.u64.wrap ((IntKind.u64.wrap ((Go.bits .and .u64 (IntKind.u64.wrap (((IntKind.u64.wrap ((Go.bits .and .u64 ((IntKind.u64.wrap ((Go.bits .and .u64 (a0 / 2) 6148914691236517205) + (Go.bits .and .u64 a0 6148914691236517205))) / 4) 3689348814741910323) + (Go.bits .and .u64 (IntKind.u64.wrap ((Go.bits .and .u64 (a0 / 2) 6148914691236517205) + (Go.bits .and .u64 a0 6148914691236517205))) 3689348814741910323))) / 16) + (IntKind.u64.wrap ((Go.bits .and .u64 ((IntKind.u64.wrap ((Go.bits .and .u64 (a0 / 2) 6148914691236517205) + (Go.bits .and .u64 a0 6148914691236517205))) / 4) 3689348814741910323) + (Go.bits .and .u64 (IntKind.u64.wrap ((Go.bits .and .u64 (a0 / 2) 6148914691236517205) + (Go.bits .and .u64 a0 6148914691236517205))) 3689348814741910323))))) 1085102592571150095) + ((Go.bits .and .u64 (IntKind.u64.wrap (((IntKind.u64.wrap ((Go.bits .and .u64 ((IntKind.u64.wrap ((Go.bits .and .u64 (a0 / 2) 6148914691236517205) + (Go.bits .and .u64 a0 6148914691236517205))) / 4) 3689348814741910323) + (Go.bits .and .u64 (IntKind.u64.wrap ((Go.bits .and .u64 (a0 / 2) 6148914691236517205) + (Go.bits .and .u64 a0 6148914691236517205))) 3689348814741910323))) / 16) + (IntKind.u64.wrap ((Go.bits .and .u64 ((IntKind.u64.wrap ((Go.bits .and .u64 (a0 / 2) 6148914691236517205) + (Go.bits .and .u64 a0 6148914691236517205))) / 4) 3689348814741910323) + (Go.bits .and .u64 (IntKind.u64.wrap ((Go.bits .and .u64 (a0 / 2) 6148914691236517205) + (Go.bits .and .u64 a0 6148914691236517205))) 3689348814741910323))))) 1085102592571150095) / 256))) + ((IntKind.u64.wrap ((Go.bits .and .u64 (IntKind.u64.wrap (((IntKind.u64.wrap ((Go.bits .and .u64 ((IntKind.u64.wrap ((Go.bits .and .u64 (a0 / 2) 6148914691236517205) + (Go.bits .and .u64 a0 6148914691236517205))) / 4) 3689348814741910323) + (Go.bits .and .u64 (IntKind.u64.wrap ((Go.bits .and .u64 (a0 / 2) 6148914691236517205) + (Go.bits .and .u64 a0 6148914691236517205))) 3689348814741910323))) / 16) + (IntKind.u64.wrap ((Go.bits .and .u64 ((IntKind.u64.wrap ((Go.bits .and .u64 (a0 / 2) 6148914691236517205) + (Go.bits .and .u64 a0 6148914691236517205))) / 4) 3689348814741910323) + (Go.bits .and .u64 (IntKind.u64.wrap ((Go.bits .and .u64 (a0 / 2) 6148914691236517205) + (Go.bits .and .u64 a0 6148914691236517205))) 3689348814741910323))))) 1085102592571150095) + ((Go.bits .and .u64 (IntKind.u64.wrap (((IntKind.u64.wrap ((Go.bits .and .u64 ((IntKind.u64.wrap ((Go.bits .and .u64 (a0 / 2) 6148914691236517205) + (Go.bits .and .u64 a0 6148914691236517205))) / 4) 3689348814741910323) + (Go.bits .and .u64 (IntKind.u64.wrap ((Go.bits .and .u64 (a0 / 2) 6148914691236517205) + (Go.bits .and .u64 a0 6148914691236517205))) 3689348814741910323))) / 16) + (IntKind.u64.wrap ((Go.bits .and .u64 ((IntKind.u64.wrap ((Go.bits .and .u64 (a0 / 2) 6148914691236517205) + (Go.bits .and .u64 a0 6148914691236517205))) / 4) 3689348814741910323) + (Go.bits .and .u64 (IntKind.u64.wrap ((Go.bits .and .u64 (a0 / 2) 6148914691236517205) + (Go.bits .and .u64 a0 6148914691236517205))) 3689348814741910323))))) 1085102592571150095) / 256))) / 65536))) / 4294967296)))) 127)) = some r := h
 clear h
 obtain rfl := Option.some.inj H
 go_enter Tryd.func45, Tryd.ntmps45
 go_wp2
 go_ret
 exact ⟨by first | rfl | (simp; done) | (simp [*]; done), by repeat (first | exact Drawn0.refl _ | apply Drawn0.step)⟩
def pick_set_count.l0 : Nat → Int → List Int → Int → Int → Option (Int)
 | 0, _, _, _, _ => none
 | k + 1, x3, x6, x7, x8 => if x8 < x7 then (if 0 ≤ x8 then (if x8 < (x6.length : Int) then ((bits_OnesCount64.f (rd x6 x8)).bind fun t368 => (pick_set_count.l0 k (wrap64 (x3 + t368)) x6 x7 (wrap64 (x8 + 1)))) else (none)) else (none)) else (some x3)
def pick_set_count.f (k : Nat) (l0 : List Int) : Option (Int) := pick_set_count.l0 k 0 l0 (l0.length : Int) 0
set_option maxHeartbeats 8000000 in
set_option maxRecDepth 100000 in
theorem pick_set_count.calls (k : Nat) (A0 : Option Addr) (c0 : Nat) (l0 : List Int) (r : Int) (w : World) (hr0 : Kd.C (Kd.int .u64) w A0 l0.length l0) (hc0 : l0.length ≤ c0) (h : pick_set_count.f k l0 = some r) :
 Calls Tryd.prog 35 #[.slice A0 l0.length c0] w fun e w' => e = .returned (.int .i64 r) ∧ Drawn0 w w' := by
 have HR0 := Aside0.mk hr0
 have HC0 := Aside0.mk hc0
 clear hr0 hc0
 have H : (pick_set_count.l0 k 0 l0 (l0.length : Int) 0) = some r := h
 clear h
 have H' := Aside0.mk H
 clear H
 go_enter Tryd.func35, Tryd.ntmps35
 go_wp2
 go_loopg [3, 8] k (fun kq v3 v8 w' => ∃ (x3_1 : Int) (x8_1 : Int), v3 = .int .i64 x3_1 ∧ v8 = .int .i64 x8_1 ∧ Aside0 (pick_set_count.l0 kq x3_1 l0 (l0.length : Int) x8_1 = some r) ∧ Aside0 (kq ≤ k) ∧ Drawn0 w w')
 case atStart => exact ⟨(0), (0), (by first | rfl | (simp; done) | (simp [*]; done)), (by first | rfl | (simp; done) | (simp [*]; done)), H', ⟨Nat.le_refl _⟩, by repeat (first | exact Drawn0.refl _ | apply Drawn0.step)⟩
 case round =>
  clear H'
  obtain ⟨x3_1, x8_1, rfl, rfl, HA, HK1, ⟨m1, rfl⟩⟩ := hrel
  cases gk with
  | zero => exact absurd HA.out (by simp [pick_set_count.l0])
  | succ k1 =>
   have H := HA.out
   clear HA
   simp only [pick_set_count.l0] at H
   by_cases c2 : x8_1 < (l0.length : Int)
   ·
    rw [if_pos c2] at H
    have c2b0 : decide (x8_1 < (l0.length : Int)) = true := decide_eq_true c2
    clear c2
    by_cases c3 : 0 ≤ x8_1
    ·
     rw [if_pos c3] at H
     have c3b0 : decide (0 ≤ x8_1) = true := decide_eq_true c3
     clear c3
     by_cases c4 : x8_1 < (l0.length : Int)
     ·
      rw [if_pos c4] at H
      have c4b0 : decide (x8_1 < (l0.length : Int)) = true := decide_eq_true c4
      clear c4
      replace H := Option.bind_eq_some_iff.mp H
      obtain ⟨t368, A50, H⟩ := H
      replace H : (pick_set_count.l0 k1 (wrap64 (x3_1 + t368)) l0 (l0.length : Int) (wrap64 (x8_1 + 1))) = some r := H
      have A5 := Aside0.mk A50
      clear A50
      have H' := Aside0.mk H
      clear H
      have p367 : 0 ≤ (x8_1 : Int) := of_decide_eq_true (by first | (with_reducible assumption) | assumption)
      have q367 : x8_1 < (l0.length : Int) := of_decide_eq_true (by first | (with_reducible assumption) | assumption)
      obtain ⟨ad367, e367, hx367_0⟩ := Kd.at_int HR0.out x8_1 p367 q367
      cases e367
      replace p367 := eq_true p367
      replace q367 := eq_true q367
      go_wp2_with (first | ((with_reducible refine gate_callee (f := 45) rfl ?_); refine goesL_ (some 14) rfl rfl Tryd.func45 (by kernel_rfl) rfl #[.int .u64 (rd l0 x8_1)] rfl (by (try simp only [List.map_toArray, List.map_cons, List.map_nil]); first | done | rfl | (simp only [List.length_drop, List.length_take]; rfl)) ?_; (with_reducible refine (bits_OnesCount64.calls (rd l0 x8_1) t368 _ A5.out).mono ?_); rintro e w' ⟨rfl, ⟨nd, rfl⟩⟩; refine ⟨_, rfl, ?_⟩))
      go_roundg k1
      case measure => have := HK1.out; omega
      case rel => exact ⟨(wrap64 (x3_1 + t368)), (wrap64 (x8_1 + 1)), (by first | rfl | (simp; done) | (simp [*]; done)), (by first | rfl | (simp; done) | (simp [*]; done)), H', ⟨by have := HK1.out; omega⟩, by repeat (first | exact Drawn0.refl _ | apply Drawn0.step)⟩
     ·
      rw [if_neg c4] at H
      exact absurd H (by simp)
    ·
     rw [if_neg c3] at H
     exact absurd H (by simp)
   ·
    rw [if_neg c2] at H
    have c2b0 : decide (x8_1 < (l0.length : Int)) = false := decide_eq_false c2
    clear c2
    obtain rfl := Option.some.inj H
    go_wp2
    go_ret
    exact ⟨by first | rfl | (simp; done) | (simp [*]; done), by repeat (first | exact Drawn0.refl _ | apply Drawn0.step)⟩
mutual
def pick_set_below.l0 : Nat → Int → Int → List Int → Int → Int → Option (Int)
 | 0, _, _, _, _, _ => none
 | k + 1, x1, x5, x8, x9, x10 => if x10 < x9 then (if 0 ≤ x10 then (if x10 < (x8.length : Int) then (pick_set_below.l1 k x1 x5 x10 (rd x8 x10) x8 x9 x10) else (none)) else (none)) else (some x5)
def pick_set_below.l1 : Nat → Int → Int → Int → Int → List Int → Int → Int → Option (Int)
 | 0, _, _, _, _, _, _, _ => none
 | k + 1, x1, x5, x6, x7, x8, x9, x10 => if x7 = 0 then (pick_set_below.l0 k x1 x5 x8 x9 (wrap64 (x10 + 1))) else ((bits_TrailingZeros64.f x7).bind fun t370 => (if (Go.bits .or .i64 (wrap64 (x6 * 64)) t370) ≤ x1 then (pick_set_below.l1 k x1 (wrap64 (x5 + 1)) x6 (Go.bits .and .u64 x7 (IntKind.u64.wrap (x7 - 1))) x8 x9 x10) else (pick_set_below.l1 k x1 x5 x6 (Go.bits .and .u64 x7 (IntKind.u64.wrap (x7 - 1))) x8 x9 x10)))
end
def pick_set_below.f (k : Nat) (l0 : List Int) (a1 : Int) : Option (Int) := pick_set_below.l0 k a1 0 l0 (l0.length : Int) 0
set_option maxHeartbeats 8000000 in
set_option maxRecDepth 100000 in
theorem pick_set_below.calls (k : Nat) (A0 : Option Addr) (c0 : Nat) (l0 : List Int) (a1 : Int) (r : Int) (w : World) (hr0 : Kd.C (Kd.int .u64) w A0 l0.length l0) (hc0 : l0.length ≤ c0) (h : pick_set_below.f k l0 a1 = some r) (hT_ : Tab w := by first | exact hT_ | exact Tab.drewN hT_ _ | (refine Tab.below hT_ ?_; repeat (first | (with_reducible first | exact HB.out | apply below_alloc | apply pw_below_drewN | apply below_drew1) | exact HB.out))) :
 Calls Tryd.prog 36 #[.slice A0 l0.length c0, .int .i64 a1] w fun e w' => e = .returned (.int .i64 r) ∧ Drawn0 w w' := by
 have HR0 := Aside0.mk hr0
 have HC0 := Aside0.mk hc0
 clear hr0 hc0
 have H : (pick_set_below.l0 k a1 0 l0 (l0.length : Int) 0) = some r := h
 clear h
 have H' := Aside0.mk H
 clear H
 go_enter Tryd.func36, Tryd.ntmps36
 go_wp2
 go_loopg [5, 10] k (fun kq v5 v10 w' => ∃ (x5_1 : Int) (x10_1 : Int), v5 = .int .i64 x5_1 ∧ v10 = .int .i64 x10_1 ∧ Aside0 (pick_set_below.l0 kq a1 x5_1 l0 (l0.length : Int) x10_1 = some r) ∧ Aside0 (kq ≤ k) ∧ Drawn0 w w')
 case atStart => exact ⟨(0), (0), (by first | rfl | (simp; done) | (simp [*]; done)), (by first | rfl | (simp; done) | (simp [*]; done)), H', ⟨Nat.le_refl _⟩, by repeat (first | exact Drawn0.refl _ | apply Drawn0.step)⟩
 case round =>
  clear H'
  try clear p2
  obtain ⟨x5_1, x10_1, rfl, rfl, HA, HK1, ⟨m1, rfl⟩⟩ := hrel
  cases gk with
  | zero => exact absurd HA.out (by simp [pick_set_below.l0])
  | succ k1 =>
   have H := HA.out
   clear HA
   simp only [pick_set_below.l0] at H
   by_cases c3 : x10_1 < (l0.length : Int)
   ·
    rw [if_pos c3] at H
    have c3b0 : decide (x10_1 < (l0.length : Int)) = true := decide_eq_true c3
    clear c3
    by_cases c4 : 0 ≤ x10_1
    ·
     rw [if_pos c4] at H
     have c4b0 : decide (0 ≤ x10_1) = true := decide_eq_true c4
     clear c4
     by_cases c5 : x10_1 < (l0.length : Int)
     ·
      rw [if_pos c5] at H
      have c5b0 : decide (x10_1 < (l0.length : Int)) = true := decide_eq_true c5
      clear c5
      have H' := Aside0.mk H
      clear H
      have p369 : 0 ≤ (x10_1 : Int) := of_decide_eq_true (by first | (with_reducible assumption) | assumption)
      have q369 : x10_1 < (l0.length : Int) := of_decide_eq_true (by first | (with_reducible assumption) | assumption)
      obtain ⟨ad369, e369, hx369_0⟩ := Kd.at_int HR0.out x10_1 p369 q369
      cases e369
      replace p369 := eq_true p369
      replace q369 := eq_true q369
      go_wp2
      go_loopg [5, 7] k1 (fun kq v5 v7 w' => ∃ (x5_2 : Int) (x7_2 : Int), v5 = .int .i64 x5_2 ∧ v7 = .int .u64 x7_2 ∧ Aside0 (pick_set_below.l1 kq a1 x5_2 x10_1 x7_2 l0 (l0.length : Int) x10_1 = some r) ∧ Aside0 (kq ≤ k1) ∧ Drawn0 w w')
      case atStart => exact ⟨(x5_1), (rd l0 x10_1), (by first | rfl | (simp; done) | (simp [*]; done)), (by first | rfl | (simp; done) | (simp [*]; done)), H', ⟨Nat.le_refl _⟩, by repeat (first | exact Drawn0.refl _ | apply Drawn0.step)⟩
      case round =>
       clear H'
       (try clear p2); (try clear c3); (try clear c3b0); (try clear p3); (try clear q3); (try clear hx3); (try clear c4); (try clear c4b0); (try clear c5); (try clear c5b0); (try clear hx369_0); (try clear p2); (try clear p369); (try clear q369)
       obtain ⟨x5_2, x7_2, rfl, rfl, HA, HK2, ⟨m2, rfl⟩⟩ := hrel
       cases gk with
       | zero => exact absurd HA.out (by simp [pick_set_below.l1])
       | succ k2 =>
        have H := HA.out
        clear HA
        simp only [pick_set_below.l1] at H
        by_cases c6 : x7_2 = 0
        ·
         rw [if_pos c6] at H
         have c6b0 : (x7_2 == 0) = true := beq_iff_eq.mpr c6
         have c6b1 : (x7_2 != 0) = false := bne_eq_false_iff_eq.mpr c6
         clear c6
         have H' := Aside0.mk H
         clear H
         go_wp2
         go_roundg k2
         case measure => have := HK1.out; have := HK2.out; omega
         case rel => exact ⟨(x5_2), (wrap64 (x10_1 + 1)), (by first | rfl | (simp; done) | (simp [*]; done)), (by first | rfl | (simp; done) | (simp [*]; done)), H', ⟨by have := HK1.out; have := HK2.out; omega⟩, by repeat (first | exact Drawn0.refl _ | apply Drawn0.step)⟩
        ·
         rw [if_neg c6] at H
         have c6b0 : (x7_2 == 0) = false := beq_eq_false_iff_ne.mpr c6
         have c6b1 : (x7_2 != 0) = true := bne_iff_ne.mpr c6
         replace H := Option.bind_eq_some_iff.mp H
         obtain ⟨t370, A70, H⟩ := H
         replace H : (if (Go.bits .or .i64 (wrap64 (x10_1 * 64)) t370) ≤ a1 then (pick_set_below.l1 k2 a1 (wrap64 (x5_2 + 1)) x10_1 (Go.bits .and .u64 x7_2 (IntKind.u64.wrap (x7_2 - 1))) l0 (l0.length : Int) x10_1) else (pick_set_below.l1 k2 a1 x5_2 x10_1 (Go.bits .and .u64 x7_2 (IntKind.u64.wrap (x7_2 - 1))) l0 (l0.length : Int) x10_1)) = some r := H
         have A7 := Aside0.mk A70
         clear A70
         by_cases c8 : (Go.bits .or .i64 (wrap64 (x10_1 * 64)) t370) ≤ a1
         ·
          rw [if_pos c8] at H
          have c8b0 : decide ((Go.bits .or .i64 (wrap64 (x10_1 * 64)) t370) ≤ a1) = true := decide_eq_true c8
          clear c8
          have H' := Aside0.mk H
          clear H
          go_wp2_with (first | ((with_reducible refine gate_callee (f := 46) rfl ?_); refine goesL_ (some 24) rfl rfl Tryd.func46 (by kernel_rfl) rfl #[.int .u64 x7_2] rfl (by (try simp only [List.map_toArray, List.map_cons, List.map_nil]); first | done | rfl | (simp only [List.length_drop, List.length_take]; rfl)) ?_; (with_reducible refine (bits_TrailingZeros64.calls x7_2 t370 _ A7.out).mono ?_); rintro e w' ⟨rfl, ⟨nd, rfl⟩⟩; refine ⟨_, rfl, ?_⟩))
          go_roundg k2
          case measure => have := HK1.out; have := HK2.out; omega
          case rel => exact ⟨(wrap64 (x5_2 + 1)), (Go.bits .and .u64 x7_2 (IntKind.u64.wrap (x7_2 - 1))), (by first | rfl | (simp; done) | (simp [*]; done)), (by first | rfl | (simp; done) | (simp [*]; done)), H', ⟨by have := HK1.out; have := HK2.out; omega⟩, by repeat (first | exact Drawn0.refl _ | apply Drawn0.step)⟩
         ·
          rw [if_neg c8] at H
          have c8b0 : decide ((Go.bits .or .i64 (wrap64 (x10_1 * 64)) t370) ≤ a1) = false := decide_eq_false c8
          clear c8
          have H' := Aside0.mk H
          clear H
          go_wp2_with (first | ((with_reducible refine gate_callee (f := 46) rfl ?_); refine goesL_ (some 24) rfl rfl Tryd.func46 (by kernel_rfl) rfl #[.int .u64 x7_2] rfl (by (try simp only [List.map_toArray, List.map_cons, List.map_nil]); first | done | rfl | (simp only [List.length_drop, List.length_take]; rfl)) ?_; (with_reducible refine (bits_TrailingZeros64.calls x7_2 t370 _ A7.out).mono ?_); rintro e w' ⟨rfl, ⟨nd, rfl⟩⟩; refine ⟨_, rfl, ?_⟩))
          go_roundg k2
          case measure => have := HK1.out; have := HK2.out; omega
          case rel => exact ⟨(x5_2), (Go.bits .and .u64 x7_2 (IntKind.u64.wrap (x7_2 - 1))), (by first | rfl | (simp; done) | (simp [*]; done)), (by first | rfl | (simp; done) | (simp [*]; done)), H', ⟨by have := HK1.out; have := HK2.out; omega⟩, by repeat (first | exact Drawn0.refl _ | apply Drawn0.step)⟩
     ·
      rw [if_neg c5] at H
      exact absurd H (by simp)
    ·
     rw [if_neg c4] at H
     exact absurd H (by simp)
   ·
    rw [if_neg c3] at H
    have c3b0 : decide (x10_1 < (l0.length : Int)) = false := decide_eq_false c3
    clear c3
    obtain rfl := Option.some.inj H
    go_wp2
    go_ret
    exact ⟨by first | rfl | (simp; done) | (simp [*]; done), by repeat (first | exact Drawn0.refl _ | apply Drawn0.step)⟩
mutual
def pick_set_at.l0 : Nat → Int → List Int → Int → Int → Option (Int)
 | 0, _, _, _, _ => none
 | k + 1, x1, x8, x9, x10 => if x10 < x9 then (if 0 ≤ x10 then (if x10 < (x8.length : Int) then ((bits_OnesCount64.f (rd x8 x10)).bind fun t372 => (if x1 ≥ t372 then (pick_set_at.l0 k (wrap64 (x1 - t372)) x8 x9 (wrap64 (x10 + 1))) else (pick_set_at.l1 k x10 (rd x8 x10) x1 0))) else (none)) else (none)) else (some (-1))
def pick_set_at.l1 : Nat → Int → Int → Int → Int → Option (Int)
 | 0, _, _, _, _ => none
 | k + 1, x5, x6, x23, x24 => if x24 < x23 then (pick_set_at.l1 k x5 (Go.bits .and .u64 x6 (IntKind.u64.wrap (x6 - 1))) x23 (wrap64 (x24 + 1))) else ((bits_TrailingZeros64.f x6).bind fun t373 => (some (Go.bits .or .i64 (wrap64 (x5 * 64)) t373)))
end
def pick_set_at.f (k : Nat) (l0 : List Int) (a1 : Int) : Option (Int) := pick_set_at.l0 k a1 l0 (l0.length : Int) 0
set_option maxHeartbeats 8000000 in
set_option maxRecDepth 100000 in
theorem pick_set_at.calls (k : Nat) (A0 : Option Addr) (c0 : Nat) (l0 : List Int) (a1 : Int) (r : Int) (w : World) (hr0 : Kd.C (Kd.int .u64) w A0 l0.length l0) (hc0 : l0.length ≤ c0) (h : pick_set_at.f k l0 a1 = some r) (hT_ : Tab w := by first | exact hT_ | exact Tab.drewN hT_ _ | (refine Tab.below hT_ ?_; repeat (first | (with_reducible first | exact HB.out | apply below_alloc | apply pw_below_drewN | apply below_drew1) | exact HB.out))) :
 Calls Tryd.prog 37 #[.slice A0 l0.length c0, .int .i64 a1] w fun e w' => e = .returned (.int .i64 r) ∧ Drawn0 w w' := by
 have HR0 := Aside0.mk hr0
 have HC0 := Aside0.mk hc0
 clear hr0 hc0
 have H : (pick_set_at.l0 k a1 l0 (l0.length : Int) 0) = some r := h
 clear h
 have H' := Aside0.mk H
 clear H
 go_enter Tryd.func37, Tryd.ntmps37
 go_wp2
 go_loopg [1, 10] k (fun kq v1 v10 w' => ∃ (x1_1 : Int) (x10_1 : Int), v1 = .int .i64 x1_1 ∧ v10 = .int .i64 x10_1 ∧ Aside0 (pick_set_at.l0 kq x1_1 l0 (l0.length : Int) x10_1 = some r) ∧ Aside0 (kq ≤ k) ∧ Drawn0 w w')
 case atStart => exact ⟨(a1), (0), (by first | rfl | (simp; done) | (simp [*]; done)), (by first | rfl | (simp; done) | (simp [*]; done)), H', ⟨Nat.le_refl _⟩, by repeat (first | exact Drawn0.refl _ | apply Drawn0.step)⟩
 case round =>
  clear H'
  try clear p2
  obtain ⟨x1_1, x10_1, rfl, rfl, HA, HK1, ⟨m1, rfl⟩⟩ := hrel
  cases gk with
  | zero => exact absurd HA.out (by simp [pick_set_at.l0])
  | succ k1 =>
   have H := HA.out
   clear HA
   simp only [pick_set_at.l0] at H
   by_cases c3 : x10_1 < (l0.length : Int)
   ·
    rw [if_pos c3] at H
    have c3b0 : decide (x10_1 < (l0.length : Int)) = true := decide_eq_true c3
    clear c3
    by_cases c4 : 0 ≤ x10_1
    ·
     rw [if_pos c4] at H
     have c4b0 : decide (0 ≤ x10_1) = true := decide_eq_true c4
     clear c4
     by_cases c5 : x10_1 < (l0.length : Int)
     ·
      rw [if_pos c5] at H
      have c5b0 : decide (x10_1 < (l0.length : Int)) = true := decide_eq_true c5
      clear c5
      replace H := Option.bind_eq_some_iff.mp H
      obtain ⟨t372, A60, H⟩ := H
      replace H : (if x1_1 ≥ t372 then (pick_set_at.l0 k1 (wrap64 (x1_1 - t372)) l0 (l0.length : Int) (wrap64 (x10_1 + 1))) else (pick_set_at.l1 k1 x10_1 (rd l0 x10_1) x1_1 0)) = some r := H
      have A6 := Aside0.mk A60
      clear A60
      by_cases c7 : x1_1 ≥ t372
      ·
       rw [if_pos c7] at H
       have c7b0 : decide (t372 ≤ x1_1) = true := decide_eq_true c7
       clear c7
       have H' := Aside0.mk H
       clear H
       have p371 : 0 ≤ (x10_1 : Int) := of_decide_eq_true (by first | (with_reducible assumption) | assumption)
       have q371 : x10_1 < (l0.length : Int) := of_decide_eq_true (by first | (with_reducible assumption) | assumption)
       obtain ⟨ad371, e371, hx371_0⟩ := Kd.at_int HR0.out x10_1 p371 q371
       cases e371
       replace p371 := eq_true p371
       replace q371 := eq_true q371
       go_wp2_with (first | ((with_reducible refine gate_callee (f := 45) rfl ?_); refine goesL_ (some 16) rfl rfl Tryd.func45 (by kernel_rfl) rfl #[.int .u64 (rd l0 x10_1)] rfl (by (try simp only [List.map_toArray, List.map_cons, List.map_nil]); first | done | rfl | (simp only [List.length_drop, List.length_take]; rfl)) ?_; (with_reducible refine (bits_OnesCount64.calls (rd l0 x10_1) t372 _ A6.out).mono ?_); rintro e w' ⟨rfl, ⟨nd, rfl⟩⟩; refine ⟨_, rfl, ?_⟩))
       go_roundg k1
       case measure => have := HK1.out; omega
       case rel => exact ⟨(wrap64 (x1_1 - t372)), (wrap64 (x10_1 + 1)), (by first | rfl | (simp; done) | (simp [*]; done)), (by first | rfl | (simp; done) | (simp [*]; done)), H', ⟨by have := HK1.out; omega⟩, by repeat (first | exact Drawn0.refl _ | apply Drawn0.step)⟩
      ·
       rw [if_neg c7] at H
       have c7b0 : decide (t372 ≤ x1_1) = false := decide_eq_false c7
       clear c7
       have H' := Aside0.mk H
       clear H
       have p371 : 0 ≤ (x10_1 : Int) := of_decide_eq_true (by first | (with_reducible assumption) | assumption)
       have q371 : x10_1 < (l0.length : Int) := of_decide_eq_true (by first | (with_reducible assumption) | assumption)
       obtain ⟨ad371, e371, hx371_0⟩ := Kd.at_int HR0.out x10_1 p371 q371
       cases e371
       replace p371 := eq_true p371
       replace q371 := eq_true q371
       go_wp2_with (first | ((with_reducible refine gate_callee (f := 45) rfl ?_); refine goesL_ (some 16) rfl rfl Tryd.func45 (by kernel_rfl) rfl #[.int .u64 (rd l0 x10_1)] rfl (by (try simp only [List.map_toArray, List.map_cons, List.map_nil]); first | done | rfl | (simp only [List.length_drop, List.length_take]; rfl)) ?_; (with_reducible refine (bits_OnesCount64.calls (rd l0 x10_1) t372 _ A6.out).mono ?_); rintro e w' ⟨rfl, ⟨nd, rfl⟩⟩; refine ⟨_, rfl, ?_⟩))
       go_loopg [6, 24] k1 (fun kq v6 v24 w' => ∃ (x6_2 : Int) (x24_2 : Int), v6 = .int .u64 x6_2 ∧ v24 = .int .i64 x24_2 ∧ Aside0 (pick_set_at.l1 kq x10_1 x6_2 x1_1 x24_2 = some r) ∧ Aside0 (kq ≤ k1) ∧ Drawn0 w w')
       case atStart => exact ⟨(rd l0 x10_1), (0), (by first | rfl | (simp; done) | (simp [*]; done)), (by first | rfl | (simp; done) | (simp [*]; done)), H', ⟨Nat.le_refl _⟩, by repeat (first | exact Drawn0.refl _ | apply Drawn0.step)⟩
       case round =>
        clear H'
        (try clear p2); (try clear c3); (try clear c3b0); (try clear p3); (try clear q3); (try clear hx3); (try clear c4); (try clear c4b0); (try clear c5); (try clear c5b0); (try clear p6); (try clear c7); (try clear c7b0); (try clear hx371_0); (try clear p2); (try clear p371); (try clear q371)
        obtain ⟨x6_2, x24_2, rfl, rfl, HA, HK2, ⟨m2, rfl⟩⟩ := hrel
        cases gk with
        | zero => exact absurd HA.out (by simp [pick_set_at.l1])
        | succ k2 =>
         have H := HA.out
         clear HA
         simp only [pick_set_at.l1] at H
         by_cases c8 : x24_2 < x1_1
         ·
          rw [if_pos c8] at H
          have c8b0 : decide (x24_2 < x1_1) = true := decide_eq_true c8
          clear c8
          have H' := Aside0.mk H
          clear H
          go_wp2
          go_roundg k2
          case measure => have := HK1.out; have := HK2.out; omega
          case rel => exact ⟨(Go.bits .and .u64 x6_2 (IntKind.u64.wrap (x6_2 - 1))), (wrap64 (x24_2 + 1)), (by first | rfl | (simp; done) | (simp [*]; done)), (by first | rfl | (simp; done) | (simp [*]; done)), H', ⟨by have := HK1.out; have := HK2.out; omega⟩, by repeat (first | exact Drawn0.refl _ | apply Drawn0.step)⟩
         ·
          rw [if_neg c8] at H
          have c8b0 : decide (x24_2 < x1_1) = false := decide_eq_false c8
          clear c8
          replace H := Option.bind_eq_some_iff.mp H
          obtain ⟨t373, A90, H⟩ := H
          replace H : (some (Go.bits .or .i64 (wrap64 (x10_1 * 64)) t373)) = some r := H
          have A9 := Aside0.mk A90
          clear A90
          obtain rfl := Option.some.inj H
          go_wp2_with (first | ((with_reducible refine gate_callee (f := 46) rfl ?_); refine goesL_ (some 34) rfl rfl Tryd.func46 (by kernel_rfl) rfl #[.int .u64 x6_2] rfl (by (try simp only [List.map_toArray, List.map_cons, List.map_nil]); first | done | rfl | (simp only [List.length_drop, List.length_take]; rfl)) ?_; (with_reducible refine (bits_TrailingZeros64.calls x6_2 t373 _ A9.out).mono ?_); rintro e w' ⟨rfl, ⟨nd, rfl⟩⟩; refine ⟨_, rfl, ?_⟩))
          go_ret
          exact ⟨by first | rfl | (simp; done) | (simp [*]; done), by repeat (first | exact Drawn0.refl _ | apply Drawn0.step)⟩
     ·
      rw [if_neg c5] at H
      exact absurd H (by simp)
    ·
     rw [if_neg c4] at H
     exact absurd H (by simp)
   ·
    rw [if_neg c3] at H
    have c3b0 : decide (x10_1 < (l0.length : Int)) = false := decide_eq_false c3
    clear c3
    obtain rfl := Option.some.inj H
    go_wp2
    go_ret
    exact ⟨by first | rfl | (simp; done) | (simp [*]; done), by repeat (first | exact Drawn0.refl _ | apply Drawn0.step)⟩
end Go.Proofs.YtmaiicpaalbcfaaDoor.P
end
section
namespace Go.Proofs.YtmaiicpaalbcfaaDoor.P
open Go.RowKit Go.Proofs.YtmaiicpaalbcfaaDoorW.PrintWords Go.Proofs.YtmaiicpaalbcfaaDoorW.PrintLast Go.Proofs.YtmaiicpaalbcfaaDoorW.PrintMore
attribute [local go_sem] max2_int min2_int max_two min_two max_three min_three max_four min_four   -- for this text's walks alone
set_option linter.unusedVariables false
set_option linter.unusedSimpArgs false
def pick_Next.j0 : Nat → List Int → Int → List Int → Int → Int → Option (Int × List Int × Int × Int)
 | 0, _, _, _, _, _ => none
 | k + 1, x6, x8, x375000, x375001, x375002 => (pick_set_at.f k x6 x8).bind fun t382 => (some (t382, x375000, x375001, t382))
def pick_Next.f (k : Nat) (l0_0 : List Int) (a0_1 : Int) (a0_2 : Int) (l1 : List Bool) : Option (Int × List Int × Int × Int) := (pick_of.f k l1).bind fun t376 => ((pick_set_count.f k t376).bind fun t379 => (if t379 = 0 then (some ((-1), l0_0, a0_1, a0_2)) else ((pick_set_below.f k t376 a0_2).bind fun t380 => (if a0_1 ≥ 0 then (if a0_1 < (l0_0.length : Int) then (if 0 ≤ a0_1 then (pick_Next.j0 k t376 (Int.tmod (wrap64 ((Int.tmod (rd l0_0 a0_1) t379) + t379)) t379) l0_0 (wrap64 (a0_1 + 1)) a0_2) else (none)) else (pick_Next.j0 k t376 (Int.tmod t380 t379) l0_0 a0_1 a0_2)) else ((pick_set_at.f k t376 (Int.tmod t380 t379)).bind fun t383 => (some (t383, l0_0, a0_1, t383)))))))
set_option maxHeartbeats 8000000 in
set_option maxRecDepth 100000 in
theorem pick_Next.calls (k : Nat) (P0_0_ : Nat → Prop) (A0_0 : Option Addr) (c0_0 : Nat) (l0_0 : List Int) (a0_1 : Int) (a0_2 : Int) (A1 : Option Addr) (c1 : Nat) (l1 : List Bool) (r1 : Int) (r2 : List Int) (r3 : Int) (r4 : Int) (w : World) (hs0_0 : Kd.V (Kd.int .i64) 3 w w.heap.size (fun k_ => P0_0_ k_) (.slice A0_0 l0_0.length c0_0) l0_0) (hr1 : Kd.C Kd.bool w A1 l1.length l1) (hc1 : l1.length ≤ c1) (h : pick_Next.f k l0_0 a0_1 a0_2 l1 = some (r1, r2, r3, r4)) (hT_ : Tab w := by first | exact hT_ | exact Tab.drewN hT_ _ | (refine Tab.below hT_ ?_; repeat (first | (with_reducible first | exact HB.out | apply below_alloc | apply pw_below_drewN | apply below_drew1) | exact HB.out))) :
 Calls Tryd.prog 24 #[.agg #[.slice A0_0 l0_0.length c0_0, .int .i64 a0_1, .int .i64 a0_2], .slice A1 l1.length c1] w fun e w' => ∃ v1_ : Value, e = .returned (.tuple #[.int .i64 r1, .agg #[v1_, .int .i64 r3, .int .i64 r4]]) ∧ Kd.V (Kd.int .i64) 3 w' w.heap.size (fun k_ => (P0_0_ k_ ∨ w.heap.size ≤ k_)) v1_ r2 ∧ Below w.heap.size w w' := by
 have hu58 := Tryd.underlying58
 have HO0_0 := Aside0.mk (show Kd.V (Kd.int .i64) 3 w w.heap.size (fun k_ => (P0_0_ k_ ∨ w.heap.size ≤ k_)) (.slice A0_0 l0_0.length c0_0) l0_0 from Kd.V_mono hs0_0 (fun k_ hk => .inl hk))
 have HR1 := Aside0.mk hr1
 have HC1 := Aside0.mk hc1
 clear hr1 hc1
 have HB := Aside0.mk (Below.refl w.heap.size w)
 have H : ((pick_of.f k l1).bind fun t376 => ((pick_set_count.f k t376).bind fun t379 => (if t379 = 0 then (some ((-1), l0_0, a0_1, a0_2)) else ((pick_set_below.f k t376 a0_2).bind fun t380 => (if a0_1 ≥ 0 then (if a0_1 < (l0_0.length : Int) then (if 0 ≤ a0_1 then (pick_Next.j0 k t376 (Int.tmod (wrap64 ((Int.tmod (rd l0_0 a0_1) t379) + t379)) t379) l0_0 (wrap64 (a0_1 + 1)) a0_2) else (none)) else (pick_Next.j0 k t376 (Int.tmod t380 t379) l0_0 a0_1 a0_2)) else ((pick_set_at.f k t376 (Int.tmod t380 t379)).bind fun t383 => (some (t383, l0_0, a0_1, t383)))))))) = some (r1, r2, r3, r4) := h
 clear h
 replace H := Option.bind_eq_some_iff.mp H
 obtain ⟨t376, A30, H⟩ := H
 replace H : ((pick_set_count.f k t376).bind fun t379 => (if t379 = 0 then (some ((-1), l0_0, a0_1, a0_2)) else ((pick_set_below.f k t376 a0_2).bind fun t380 => (if a0_1 ≥ 0 then (if a0_1 < (l0_0.length : Int) then (if 0 ≤ a0_1 then (pick_Next.j0 k t376 (Int.tmod (wrap64 ((Int.tmod (rd l0_0 a0_1) t379) + t379)) t379) l0_0 (wrap64 (a0_1 + 1)) a0_2) else (none)) else (pick_Next.j0 k t376 (Int.tmod t380 t379) l0_0 a0_1 a0_2)) else ((pick_set_at.f k t376 (Int.tmod t380 t379)).bind fun t383 => (some (t383, l0_0, a0_1, t383))))))) = some (r1, r2, r3, r4) := H
 have A3 := Aside0.mk A30
 clear A30
 replace H := Option.bind_eq_some_iff.mp H
 obtain ⟨t379, A40, H⟩ := H
 replace H : (if t379 = 0 then (some ((-1), l0_0, a0_1, a0_2)) else ((pick_set_below.f k t376 a0_2).bind fun t380 => (if a0_1 ≥ 0 then (if a0_1 < (l0_0.length : Int) then (if 0 ≤ a0_1 then (pick_Next.j0 k t376 (Int.tmod (wrap64 ((Int.tmod (rd l0_0 a0_1) t379) + t379)) t379) l0_0 (wrap64 (a0_1 + 1)) a0_2) else (none)) else (pick_Next.j0 k t376 (Int.tmod t380 t379) l0_0 a0_1 a0_2)) else ((pick_set_at.f k t376 (Int.tmod t380 t379)).bind fun t383 => (some (t383, l0_0, a0_1, t383)))))) = some (r1, r2, r3, r4) := H
 have A4 := Aside0.mk A40
 clear A40
 by_cases c5 : t379 = 0
 ·
  rw [if_pos c5] at H
  have c5b0 : (t379 == 0) = true := beq_iff_eq.mpr c5
  have c5b1 : (t379 != 0) = false := bne_eq_false_iff_eq.mpr c5
  clear c5
  simp only [Option.some.injEq, Prod.mk.injEq] at H
  obtain ⟨rfl, rfl, rfl, rfl⟩ := H
  go_enter Tryd.func24, Tryd.ntmps24
  try go_wp2_with (first | ((with_reducible refine gate_dst (N := 2) rfl ?_); (try (refine gate_guard (by rfl) ?_; dsimp only)); refine box_event ?hg (N := 2) ?hd (cs := #[.slice A0_0 l0_0.length c0_0, .int .i64 a0_1, .int .i64 a0_2]) (t := 58) ?hr ?_; (case hd => rfl); (case hg => rfl); (case hr => first | (go_simp; done) | (go_simp; rfl)); intro gb374 hg w6 hbox hb; have n0_ := Aside0.mk (Kd.V_below (Kd.V_elderB (by (with_reducible repeat (first | apply Kd.V_alloc | apply Kd.V_drewN | apply Kd.V_drew)); exact HO0_0.out) gb374 (Nat.le_of_eq hg.symm)) hb); have n1_ := Aside0.mk (below_step (by repeat (first | (with_reducible first | exact HB.out | apply below_alloc | apply pw_below_drewN | apply below_drew1) | exact HB.out)) hb); have n2_ := Aside0.mk (hbox); have n3_ := Aside0.mk ((by rw [hg]; exact (below_size (by repeat (first | (with_reducible first | exact HB.out | apply below_alloc | apply pw_below_drewN | apply below_drew1) | exact HB.out))) : w.heap.size ≤ gb374)); have n4_ := Aside0.mk ((by rw [hg]; exact (below_size (by repeat (first | (with_reducible first | exact HB.out | apply below_alloc | apply pw_below_drewN | apply below_drew1) | exact HB.out))) : w.heap.size ≤ gb374)); clear HO0_0; clear HB; have HO0_0 := n0_; have HB := n1_; have BK374 := n2_; have GW374 := n3_; have GE374 := n4_; clear n0_ n1_ n2_ n3_ n4_; clear hb hbox hg) | ((with_reducible refine gate_dst (N := 5) rfl ?_); (try (refine gate_guard (by rfl) ?_; dsimp only)); refine box_event ?hg (N := 5) ?hd (cs := #[.slice none 0 0, .int .i64 0, .int .i64 0]) (t := 58) ?hr ?_; (case hd => rfl); (case hg => rfl); (case hr => first | (go_simp; done) | (go_simp; rfl)); intro gb375 hg w7 hbox hb; have n0_ := Aside0.mk (Kd.V_below (Kd.V_elderB (by (with_reducible repeat (first | apply Kd.V_alloc | apply Kd.V_drewN | apply Kd.V_drew)); exact HO0_0.out) gb375 (Nat.le_of_eq hg.symm)) hb); have n1_ := Aside0.mk (blk_below (g := gb374) (o := .cells #[.slice A0_0 l0_0.length c0_0, .int .i64 a0_1, .int .i64 a0_2] 58 (0, 0)) (by (with_reducible repeat (first | refine blk_drewN ?_ _ | refine blk_drew ?_ | refine blk_alloc ?_ _)); exact BK374.out) hb); have n2_ := Aside0.mk (below_step (by repeat (first | (with_reducible first | exact HB.out | apply below_alloc | apply pw_below_drewN | apply below_drew1 | refine below_set ?_ GE374.out) | exact HB.out)) hb); have n3_ := Aside0.mk (hbox); have n4_ := Aside0.mk ((by rw [hg]; exact (below_size (by repeat (first | (with_reducible first | exact HB.out | apply below_alloc | apply pw_below_drewN | apply below_drew1 | refine below_set ?_ GE374.out) | exact HB.out))) : w.heap.size ≤ gb375)); have n5_ := Aside0.mk ((by rw [hg]; exact (below_size (by repeat (first | (with_reducible first | exact HB.out | apply below_alloc | apply pw_below_drewN | apply below_drew1 | refine below_set ?_ GE374.out) | exact HB.out))) : w.heap.size ≤ gb375)); have n6_ := Aside0.mk ((by rw [hg]; exact Nat.ne_of_lt (blk_lt (g := gb374) (o := .cells #[.slice A0_0 l0_0.length c0_0, .int .i64 a0_1, .int .i64 a0_2] 58 (0, 0)) (by (with_reducible repeat (first | refine blk_drewN ?_ _ | refine blk_drew ?_ | refine blk_alloc ?_ _)); exact BK374.out)) : gb374 ≠ gb375)); have n7_ := Aside0.mk ((by rw [hg]; exact Nat.ne_of_gt (blk_lt (g := gb374) (o := .cells #[.slice A0_0 l0_0.length c0_0, .int .i64 a0_1, .int .i64 a0_2] 58 (0, 0)) (by (with_reducible repeat (first | refine blk_drewN ?_ _ | refine blk_drew ?_ | refine blk_alloc ?_ _)); exact BK374.out)) : gb375 ≠ gb374)); clear HO0_0; clear BK374; clear HB; have HO0_0 := n0_; have BK374 := n1_; have HB := n2_; have BK375 := n3_; have GW375 := n4_; have GE375 := n5_; have NB374_375 := n6_; have NB375_374 := n7_; clear n0_ n1_ n2_ n3_ n4_ n5_ n6_ n7_; clear hb hbox hg) | ((with_reducible refine gate_callee (f := 34) rfl ?_); refine goesL_ (some 10) rfl rfl Tryd.func34 (by kernel_rfl) rfl #[.slice A1 l1.length c1] rfl (by (try simp only [List.map_toArray, List.map_cons, List.map_nil]); first | done | rfl | (simp only [List.length_drop, List.length_take]; rfl)) ?_; (with_reducible refine (pick_of.calls k _ _ l1 t376 _ ?side1 ?side2 A3.out).mono ?_); (case side1 => repeat (first | exact (Kd.C_below HR1.out HB.out) | (with_reducible refine Kd.C_alloc ?_ _) | (with_reducible refine Kd.C_drewN ?_ _) | (with_reducible refine Kd.C_drew ?_))); (case side2 => exact HC1.out); rintro e w8 ⟨v377, rfl, ho0, hb⟩; refine ⟨_, rfl, ?_⟩; have n0_ := Aside0.mk (Kd.V_elder' (by (with_reducible repeat (first | apply Kd.V_alloc | apply Kd.V_drewN | apply Kd.V_drew)); exact HO0_0.out) (Kd.R_base ho0) hb); have n1_ := Aside0.mk (Kd.R_lower (Kd.R_newM (M := fun k_ => (w.heap.size ≤ k_)) ho0 (below_size (by repeat (first | (with_reducible first | exact HB.out | apply below_alloc | apply pw_below_drewN | apply below_drew1 | refine below_set ?_ GE374.out | refine below_set ?_ GE375.out) | exact HB.out))) (fun k_ h_ => h_)) (below_size (by repeat (first | (with_reducible first | exact HB.out | apply below_alloc | apply pw_below_drewN | apply below_drew1 | refine below_set ?_ GE374.out | refine below_set ?_ GE375.out) | exact HB.out)))); have n2_ := Aside0.mk (blk_below (g := gb374) (o := .cells #[.slice A0_0 l0_0.length c0_0, .int .i64 a0_1, .int .i64 a0_2] 58 (0, 0)) (by (with_reducible repeat (first | refine blk_drewN ?_ _ | refine blk_drew ?_ | refine blk_alloc ?_ _)); exact BK374.out) hb); have n3_ := Aside0.mk (blk_below (g := gb375) (o := .cells #[.slice none 0 0, .int .i64 0, .int .i64 0] 58 (0, 0)) (by (with_reducible repeat (first | refine blk_drewN ?_ _ | refine blk_drew ?_ | refine blk_alloc ?_ _)); exact BK375.out) hb); have n4_ := Aside0.mk (below_step (by repeat (first | (with_reducible first | exact HB.out | apply below_alloc | apply pw_below_drewN | apply below_drew1 | refine below_set ?_ GE374.out | refine below_set ?_ GE375.out) | exact HB.out)) hb); clear HO0_0; clear BK374; clear BK375; clear HB; have HO0_0 := n0_; have HO378 := n1_; have BK374 := n2_; have BK375 := n3_; have HB := n4_; clear n0_ n1_ n2_ n3_ n4_; (try clear hb); (try clear hb2); (try clear hk); (try clear hi); (try clear ho0); obtain ⟨Ao9, co9, eo9⟩ := Kd.R_slice HO378.out; subst eo9) | ((with_reducible refine gate_callee (f := 35) rfl ?_); refine goesL_ (some 12) rfl rfl Tryd.func35 (by kernel_rfl) rfl #[.slice Ao9 t376.length co9] rfl (by (try simp only [List.map_toArray, List.map_cons, List.map_nil]); first | done | rfl | (simp only [List.length_drop, List.length_take]; rfl)) ?_; (with_reducible refine (pick_set_count.calls k _ _ t376 t379 _ ?side1 ?side2 A4.out).mono ?_); (case side1 => repeat (first | exact (Kd.R_reads' HO378.out).2.2 | (with_reducible refine Kd.C_alloc ?_ _) | (with_reducible refine Kd.C_drewN ?_ _) | (with_reducible refine Kd.C_drew ?_))); (case side2 => exact (Kd.R_reads' HO378.out).2.1); rintro e w' ⟨rfl, ⟨nd, rfl⟩⟩; refine ⟨_, rfl, ?_⟩; (try (rw [drewN_self w8]; generalize hq_ : World.drewN w8 _ = w8; have n0_ : Aside0 (Kd.V (Kd.int .i64) 3 w8 w.heap.size (fun k_ => (((((P0_0_ k_ ∨ w.heap.size ≤ k_)) ∧ k_ ≠ gb374) ∧ k_ ≠ gb375) ∧ some k_ ≠ (.slice Ao9 t376.length co9 : Value).ownBlock)) (.slice A0_0 l0_0.length c0_0) l0_0) := ⟨by rw [← hq_]; exact (by (with_reducible repeat (first | apply Kd.V_alloc | apply Kd.V_drewN | apply Kd.V_drew)); exact HO0_0.out)⟩; have n1_ : Aside0 (Kd.R (Kd.int .u64) 61 w8 w.heap.size (fun k_ => (((w.heap.size ≤ k_)) ∧ True)) (.slice Ao9 t376.length co9) t376) := ⟨by rw [← hq_]; exact (by (with_reducible repeat (first | apply Kd.R_alloc | apply Kd.R_drewN | apply Kd.R_drew)); exact HO378.out)⟩; have n2_ : Aside0 (w8.heap[gb374]? = some (.cells #[.slice A0_0 l0_0.length c0_0, .int .i64 a0_1, .int .i64 a0_2] 58 (0, 0))) := ⟨by rw [← hq_]; exact (by (with_reducible repeat (first | refine blk_drewN ?_ _ | refine blk_drew ?_ | refine blk_alloc ?_ _)); exact BK374.out)⟩; have n3_ : Aside0 (w8.heap[gb375]? = some (.cells #[.slice none 0 0, .int .i64 0, .int .i64 0] 58 (0, 0))) := ⟨by rw [← hq_]; exact (by (with_reducible repeat (first | refine blk_drewN ?_ _ | refine blk_drew ?_ | refine blk_alloc ?_ _)); exact BK375.out)⟩; have n4_ : Aside0 (Below w.heap.size w w8) := ⟨by rw [← hq_]; exact (by repeat (first | (with_reducible first | exact HB.out | apply below_alloc | apply pw_below_drewN | apply below_drew1 | refine below_set ?_ GE374.out | refine below_set ?_ GE375.out) | exact HB.out))⟩; clear HO0_0 HO378 BK374 BK375 HB hq_; have HO0_0 := n0_; have HO378 := n1_; have BK374 := n2_; have BK375 := n3_; have HB := n4_; clear n0_ n1_ n2_ n3_ n4_))))
  have n0_ := Aside0.mk (Kd.V_drew HO0_0.out)
  have n1_ := Aside0.mk (Kd.R_drew HO378.out)
  have n2_ := Aside0.mk (blk_drew BK374.out)
  have n3_ := Aside0.mk (blk_drew BK375.out)
  have n4_ := Aside0.mk (below_drew1 HB.out)
  clear HO0_0
  clear HO378
  clear BK374
  clear BK375
  clear HB
  have HO0_0 := n0_
  have HO378 := n1_
  have BK374 := n2_
  have BK375 := n3_
  have HB := n4_
  clear n0_ n1_ n2_ n3_ n4_
  refine start_ (n := 3) (S := fun w' => w'.cell? ⟨gb374, 0, none⟩ = some (.slice A0_0 l0_0.length c0_0) ∧ w'.cell? ⟨gb374, 1, none⟩ = some (.int .i64 a0_1) ∧ w'.cell? ⟨gb374, 2, none⟩ = some (.int .i64 a0_2)) (ds := []) #[false, false, false] (by kernel_rfl) rfl rfl ⟨(blk_cell BK374.out 0).trans rfl, (blk_cell BK374.out 1).trans rfl, (blk_cell BK374.out 2).trans rfl⟩ (fun hHeld => ?_)
  generalize w8.drew = w10 at HO0_0 HO378 BK374 BK375 HB hHeld ⊢
  refine pure_ (i := 1) (N := some 4) (v := ?_) (a' := ?_) #[false, true, false] rfl rfl (by kernel_rfl) (fun _ _ _ h => h) (Or.inl ⟨by rfl, ?_⟩) ?_ ?_
  rotate_left
  ·
   intro w'
   go_simp
   with_reducible rfl
  rotate_left
  ·
   simp only [Act.put, List.setIfInBounds_toArray, List.set_cons_zero, List.set_cons_succ, i64_w, i32_w]
   rfl
  refine take_ (i := 0) (N := some 15) (v := ?_) (a' := ?_) #[true, true, false] rfl rfl (by kernel_rfl) (fun _ _ _ h => h) (Or.inl ⟨by rfl, ?_⟩) hHeld ?_ ?_
  rotate_left
  ·
   rintro w' ⟨s0, s1, s2⟩
   go_simp
   with_reducible rfl
  rotate_left
  ·
   simp only [Act.put, List.setIfInBounds_toArray, List.set_cons_zero, List.set_cons_succ, i64_w, i32_w]
   rfl
  refine one_ (i := 2) (N := none) #[true, true, true] rfl rfl (by kernel_rfl) (by decide) (fun K hK => ?_)
  have hs11 : w10.cell? ⟨gb375, 0, none⟩ = some (.slice none 0 0) := (blk_cell BK375.out 0).trans rfl
  have hfs11 := blk_frozen BK375.out 0
  have hns11_0 := NB374_375.out
  have hms11_0 := NB375_374.out
  have hs12 : w10.cell? ⟨gb375, 1, none⟩ = some (.int .i64 0) := (blk_cell BK375.out 1).trans rfl
  have hfs12 := blk_frozen BK375.out 1
  have hns12_0 := NB374_375.out
  have hms12_0 := NB375_374.out
  have hs13 : w10.cell? ⟨gb375, 2, none⟩ = some (.int .i64 0) := (blk_cell BK375.out 2).trans rfl
  have hfs13 := blk_frozen BK375.out 2
  have hns13_0 := NB374_375.out
  have hms13_0 := NB375_374.out
  refine skip_ (w1 := ?_) (by rfl) rfl ?_ ?_
  rotate_left
  ·
   go_simp
   rfl
  refine hK.out _ _ ⟨((cell_far (p := ⟨gb375, _, none⟩) NB374_375.out _).trans (((cell_far (p := ⟨gb375, _, none⟩) NB374_375.out _).trans (((cell_far (p := ⟨gb375, _, none⟩) NB374_375.out _).trans (hHeld.1)))))), ((cell_far (p := ⟨gb375, _, none⟩) NB374_375.out _).trans (((cell_far (p := ⟨gb375, _, none⟩) NB374_375.out _).trans (((cell_far (p := ⟨gb375, _, none⟩) NB374_375.out _).trans (hHeld.2.1)))))), ((cell_far (p := ⟨gb375, _, none⟩) NB374_375.out _).trans (((cell_far (p := ⟨gb375, _, none⟩) NB374_375.out _).trans (((cell_far (p := ⟨gb375, _, none⟩) NB374_375.out _).trans (hHeld.2.2))))))⟩ (fun hHeld => ?_)
  clear hK K
  refine done_ (by kernel_rfl) ?_
  try go_wp2
  refine bodyPost_ret (results_tc rfl _ _ gb375 58 #[.slice A0_0 l0_0.length c0_0, .int .i64 a0_1, .int .i64 a0_2] (0, 0) _ rfl (by (with_reducible repeat (first | refine blk_drewN ?_ _ | refine blk_drew ?_ | refine blk_alloc ?_ _)); refine blk_put (cs := #[.slice A0_0 l0_0.length c0_0, .int .i64 a0_1, .int .i64 0]) ?_ 2 _ rfl; (with_reducible repeat (first | refine blk_drewN ?_ _ | refine blk_drew ?_ | refine blk_alloc ?_ _)); refine blk_put (cs := #[.slice A0_0 l0_0.length c0_0, .int .i64 0, .int .i64 0]) ?_ 1 _ rfl; (with_reducible repeat (first | refine blk_drewN ?_ _ | refine blk_drew ?_ | refine blk_alloc ?_ _)); refine blk_put (cs := #[.slice none 0 0, .int .i64 0, .int .i64 0]) ?_ 0 _ rfl; (with_reducible repeat (first | refine blk_drewN ?_ _ | refine blk_drew ?_ | refine blk_alloc ?_ _)); exact BK375.out) Tryd.underlying58 rfl (by kernel_rfl)) rfl ?_
  exact ⟨_, by first | rfl | (simp [errW_none, errW_some] <;> rfl) | (simp [*, errW_none, errW_some] <;> rfl), by (with_reducible repeat (first | apply Kd.V_alloc | apply Kd.V_drewN | apply Kd.V_drew)); exact Kd.V_mono (Kd.V_far (p := ⟨gb375, 2, none⟩) (Kd.V_far (p := ⟨gb375, 1, none⟩) (Kd.V_far (p := ⟨gb375, 0, none⟩) (Kd.V_mono HO0_0.out (fun k_ hk => (⟨hk, hk.1.2⟩ : _ ∧ k_ ≠ gb375))) (fun _ hk => hk.2) (.slice A0_0 l0_0.length c0_0)) (fun _ hk => hk.2) (.int .i64 a0_1)) (fun _ hk => hk.2) (.int .i64 a0_2)) (fun _ hk => hk.1.1.1.1), by repeat (first | (with_reducible first | exact HB.out | apply below_alloc | apply pw_below_drewN | apply below_drew1 | refine below_set ?_ GE374.out | refine below_set ?_ GE375.out) | exact HB.out)⟩
 ·
  rw [if_neg c5] at H
  have c5b0 : (t379 == 0) = false := beq_eq_false_iff_ne.mpr c5
  have c5b1 : (t379 != 0) = true := bne_iff_ne.mpr c5
  replace H := Option.bind_eq_some_iff.mp H
  obtain ⟨t380, A140, H⟩ := H
  replace H : (if a0_1 ≥ 0 then (if a0_1 < (l0_0.length : Int) then (if 0 ≤ a0_1 then (pick_Next.j0 k t376 (Int.tmod (wrap64 ((Int.tmod (rd l0_0 a0_1) t379) + t379)) t379) l0_0 (wrap64 (a0_1 + 1)) a0_2) else (none)) else (pick_Next.j0 k t376 (Int.tmod t380 t379) l0_0 a0_1 a0_2)) else ((pick_set_at.f k t376 (Int.tmod t380 t379)).bind fun t383 => (some (t383, l0_0, a0_1, t383)))) = some (r1, r2, r3, r4) := H
  have A14 := Aside0.mk A140
  clear A140
  by_cases c15 : a0_1 ≥ 0
  ·
   rw [if_pos c15] at H
   have c15b0 : decide (0 ≤ a0_1) = true := decide_eq_true c15
   clear c15
   have HC16 := Aside0.mk H
   clear H
   go_enter Tryd.func24, Tryd.ntmps24
   go_upto_if 32 with (first | ((with_reducible refine gate_dst (N := 2) rfl ?_); (try (refine gate_guard (by rfl) ?_; dsimp only)); refine box_event ?hg (N := 2) ?hd (cs := #[.slice A0_0 l0_0.length c0_0, .int .i64 a0_1, .int .i64 a0_2]) (t := 58) ?hr ?_; (case hd => rfl); (case hg => rfl); (case hr => first | (go_simp; done) | (go_simp; rfl)); intro gb374 hg w17 hbox hb; have n0_ := Aside0.mk (Kd.V_below (Kd.V_elderB (by (with_reducible repeat (first | apply Kd.V_alloc | apply Kd.V_drewN | apply Kd.V_drew)); exact HO0_0.out) gb374 (Nat.le_of_eq hg.symm)) hb); have n1_ := Aside0.mk (below_step (by repeat (first | (with_reducible first | exact HB.out | apply below_alloc | apply pw_below_drewN | apply below_drew1) | exact HB.out)) hb); have n2_ := Aside0.mk (hbox); have n3_ := Aside0.mk ((by rw [hg]; exact (below_size (by repeat (first | (with_reducible first | exact HB.out | apply below_alloc | apply pw_below_drewN | apply below_drew1) | exact HB.out))) : w.heap.size ≤ gb374)); have n4_ := Aside0.mk ((by rw [hg]; exact (below_size (by repeat (first | (with_reducible first | exact HB.out | apply below_alloc | apply pw_below_drewN | apply below_drew1) | exact HB.out))) : w.heap.size ≤ gb374)); clear HO0_0; clear HB; have HO0_0 := n0_; have HB := n1_; have BK374 := n2_; have GW374 := n3_; have GE374 := n4_; clear n0_ n1_ n2_ n3_ n4_; clear hb hbox hg) | ((with_reducible refine gate_dst (N := 5) rfl ?_); (try (refine gate_guard (by rfl) ?_; dsimp only)); refine box_event ?hg (N := 5) ?hd (cs := #[.slice none 0 0, .int .i64 0, .int .i64 0]) (t := 58) ?hr ?_; (case hd => rfl); (case hg => rfl); (case hr => first | (go_simp; done) | (go_simp; rfl)); intro gb375 hg w18 hbox hb; have n0_ := Aside0.mk (Kd.V_below (Kd.V_elderB (by (with_reducible repeat (first | apply Kd.V_alloc | apply Kd.V_drewN | apply Kd.V_drew)); exact HO0_0.out) gb375 (Nat.le_of_eq hg.symm)) hb); have n1_ := Aside0.mk (blk_below (g := gb374) (o := .cells #[.slice A0_0 l0_0.length c0_0, .int .i64 a0_1, .int .i64 a0_2] 58 (0, 0)) (by (with_reducible repeat (first | refine blk_drewN ?_ _ | refine blk_drew ?_ | refine blk_alloc ?_ _)); exact BK374.out) hb); have n2_ := Aside0.mk (below_step (by repeat (first | (with_reducible first | exact HB.out | apply below_alloc | apply pw_below_drewN | apply below_drew1 | refine below_set ?_ GE374.out) | exact HB.out)) hb); have n3_ := Aside0.mk (hbox); have n4_ := Aside0.mk ((by rw [hg]; exact (below_size (by repeat (first | (with_reducible first | exact HB.out | apply below_alloc | apply pw_below_drewN | apply below_drew1 | refine below_set ?_ GE374.out) | exact HB.out))) : w.heap.size ≤ gb375)); have n5_ := Aside0.mk ((by rw [hg]; exact (below_size (by repeat (first | (with_reducible first | exact HB.out | apply below_alloc | apply pw_below_drewN | apply below_drew1 | refine below_set ?_ GE374.out) | exact HB.out))) : w.heap.size ≤ gb375)); have n6_ := Aside0.mk ((by rw [hg]; exact Nat.ne_of_lt (blk_lt (g := gb374) (o := .cells #[.slice A0_0 l0_0.length c0_0, .int .i64 a0_1, .int .i64 a0_2] 58 (0, 0)) (by (with_reducible repeat (first | refine blk_drewN ?_ _ | refine blk_drew ?_ | refine blk_alloc ?_ _)); exact BK374.out)) : gb374 ≠ gb375)); have n7_ := Aside0.mk ((by rw [hg]; exact Nat.ne_of_gt (blk_lt (g := gb374) (o := .cells #[.slice A0_0 l0_0.length c0_0, .int .i64 a0_1, .int .i64 a0_2] 58 (0, 0)) (by (with_reducible repeat (first | refine blk_drewN ?_ _ | refine blk_drew ?_ | refine blk_alloc ?_ _)); exact BK374.out)) : gb375 ≠ gb374)); clear HO0_0; clear BK374; clear HB; have HO0_0 := n0_; have BK374 := n1_; have HB := n2_; have BK375 := n3_; have GW375 := n4_; have GE375 := n5_; have NB374_375 := n6_; have NB375_374 := n7_; clear n0_ n1_ n2_ n3_ n4_ n5_ n6_ n7_; clear hb hbox hg) | ((with_reducible refine gate_callee (f := 34) rfl ?_); refine goesL_ (some 10) rfl rfl Tryd.func34 (by kernel_rfl) rfl #[.slice A1 l1.length c1] rfl (by (try simp only [List.map_toArray, List.map_cons, List.map_nil]); first | done | rfl | (simp only [List.length_drop, List.length_take]; rfl)) ?_; (with_reducible refine (pick_of.calls k _ _ l1 t376 _ ?side1 ?side2 A3.out).mono ?_); (case side1 => repeat (first | exact (Kd.C_below HR1.out HB.out) | (with_reducible refine Kd.C_alloc ?_ _) | (with_reducible refine Kd.C_drewN ?_ _) | (with_reducible refine Kd.C_drew ?_))); (case side2 => exact HC1.out); rintro e w19 ⟨v377, rfl, ho0, hb⟩; refine ⟨_, rfl, ?_⟩; have n0_ := Aside0.mk (Kd.V_elder' (by (with_reducible repeat (first | apply Kd.V_alloc | apply Kd.V_drewN | apply Kd.V_drew)); exact HO0_0.out) (Kd.R_base ho0) hb); have n1_ := Aside0.mk (Kd.R_lower (Kd.R_newM (M := fun k_ => (w.heap.size ≤ k_)) ho0 (below_size (by repeat (first | (with_reducible first | exact HB.out | apply below_alloc | apply pw_below_drewN | apply below_drew1 | refine below_set ?_ GE374.out | refine below_set ?_ GE375.out) | exact HB.out))) (fun k_ h_ => h_)) (below_size (by repeat (first | (with_reducible first | exact HB.out | apply below_alloc | apply pw_below_drewN | apply below_drew1 | refine below_set ?_ GE374.out | refine below_set ?_ GE375.out) | exact HB.out)))); have n2_ := Aside0.mk (blk_below (g := gb374) (o := .cells #[.slice A0_0 l0_0.length c0_0, .int .i64 a0_1, .int .i64 a0_2] 58 (0, 0)) (by (with_reducible repeat (first | refine blk_drewN ?_ _ | refine blk_drew ?_ | refine blk_alloc ?_ _)); exact BK374.out) hb); have n3_ := Aside0.mk (blk_below (g := gb375) (o := .cells #[.slice none 0 0, .int .i64 0, .int .i64 0] 58 (0, 0)) (by (with_reducible repeat (first | refine blk_drewN ?_ _ | refine blk_drew ?_ | refine blk_alloc ?_ _)); exact BK375.out) hb); have n4_ := Aside0.mk (below_step (by repeat (first | (with_reducible first | exact HB.out | apply below_alloc | apply pw_below_drewN | apply below_drew1 | refine below_set ?_ GE374.out | refine below_set ?_ GE375.out) | exact HB.out)) hb); clear HO0_0; clear BK374; clear BK375; clear HB; have HO0_0 := n0_; have HO378 := n1_; have BK374 := n2_; have BK375 := n3_; have HB := n4_; clear n0_ n1_ n2_ n3_ n4_; (try clear hb); (try clear hb2); (try clear hk); (try clear hi); (try clear ho0); obtain ⟨Ao20, co20, eo20⟩ := Kd.R_slice HO378.out; subst eo20) | ((with_reducible refine gate_callee (f := 35) rfl ?_); refine goesL_ (some 12) rfl rfl Tryd.func35 (by kernel_rfl) rfl #[.slice Ao20 t376.length co20] rfl (by (try simp only [List.map_toArray, List.map_cons, List.map_nil]); first | done | rfl | (simp only [List.length_drop, List.length_take]; rfl)) ?_; (with_reducible refine (pick_set_count.calls k _ _ t376 t379 _ ?side1 ?side2 A4.out).mono ?_); (case side1 => repeat (first | exact (Kd.R_reads' HO378.out).2.2 | (with_reducible refine Kd.C_alloc ?_ _) | (with_reducible refine Kd.C_drewN ?_ _) | (with_reducible refine Kd.C_drew ?_))); (case side2 => exact (Kd.R_reads' HO378.out).2.1); rintro e w' ⟨rfl, ⟨nd, rfl⟩⟩; refine ⟨_, rfl, ?_⟩; have hnb21 := NB374_375.out; have hnc21 := NB375_374.out; have hcz22_0 : w19.cell? ⟨gb374, 0, none⟩ = some (.slice A0_0 l0_0.length c0_0) := (blk_cell BK374.out 0).trans rfl; have hcz22_1 : w19.cell? ⟨gb374, 1, none⟩ = some (.int .i64 a0_1) := (blk_cell BK374.out 1).trans rfl; have hcz22_2 : w19.cell? ⟨gb374, 2, none⟩ = some (.int .i64 a0_2) := (blk_cell BK374.out 2).trans rfl; have hfz22_0 := blk_frozen BK374.out 0; have hfz22_1 := blk_frozen BK374.out 1; have hfz22_2 := blk_frozen BK374.out 2) | ((with_reducible refine gate_callee (f := 36) rfl ?_); refine goesL_ (some 19) rfl rfl Tryd.func36 (by kernel_rfl) rfl #[.slice Ao20 t376.length co20, .int .i64 a0_2] rfl (by (try simp only [List.map_toArray, List.map_cons, List.map_nil]); first | done | rfl | (simp only [List.length_drop, List.length_take]; rfl)) ?_; (with_reducible refine (pick_set_below.calls k _ _ t376 a0_2 t380 _ ?side1 ?side2 A14.out).mono ?_); (case side1 => repeat (first | exact (Kd.R_reads' HO378.out).2.2 | (with_reducible refine Kd.C_alloc ?_ _) | (with_reducible refine Kd.C_drewN ?_ _) | (with_reducible refine Kd.C_drew ?_))); (case side2 => exact (Kd.R_reads' HO378.out).2.1); rintro e w' ⟨rfl, ⟨nd, rfl⟩⟩; refine ⟨_, rfl, ?_⟩))
   (try simp only [Act.put, List.setIfInBounds_toArray, List.set_cons_zero, List.set_cons_succ])
   go_cut [8] (fun v8 wc => ∃ (kq : Nat) (x8_15 : Int) (x375001_15 : Int), v8 = .int .i64 x8_15 ∧ Aside0 (pick_Next.j0 kq t376 x8_15 l0_0 x375001_15 a0_2 = some (r1, r2, r3, r4)) ∧ Aside0 (kq ≤ k) ∧ Aside0 (Kd.R (Kd.int .u64) 61 wc w.heap.size (fun k_ => (w.heap.size ≤ k_)) (.slice Ao20 t376.length co20) t376) ∧ Aside0 (Kd.V (Kd.int .i64) 3 wc w.heap.size (fun k_ => (P0_0_ k_ ∨ w.heap.size ≤ k_) ∧ some k_ ≠ ((.slice Ao20 t376.length co20) : Value).ownBlock ∧ k_ ≠ gb374 ∧ k_ ≠ gb375) (.slice A0_0 l0_0.length c0_0) l0_0) ∧ Aside0 (wc.heap[gb374]? = some (.cells #[(.slice A0_0 l0_0.length c0_0), .int .i64 x375001_15, .int .i64 a0_2] 58 (0, 0))) ∧ Aside0 (wc.heap[gb375]? = some (.cells #[(.slice none 0 0), .int .i64 0, .int .i64 0] 58 (0, 0))) ∧ Aside0 (Below w.heap.size w wc))
   case first =>
    have H := HC16.out
    clear HC16
    by_cases c23 : a0_1 < (l0_0.length : Int)
    ·
     rw [if_pos c23] at H
     have c23b0 : decide (a0_1 < (l0_0.length : Int)) = true := decide_eq_true c23
     clear c23
     (first | rw [c23b0] | (simp only [i64_w, i32_w]; rw [c23b0]) | skip)
     by_cases c24 : 0 ≤ a0_1
     ·
      rw [if_pos c24] at H
      have c24b0 : decide (0 ≤ a0_1) = true := decide_eq_true c24
      clear c24
      have H' := Aside0.mk H
      clear H
      have hnb25 := NB374_375.out
      have hnc25 := NB375_374.out
      have hcz26_0 : w19.cell? ⟨gb374, 0, none⟩ = some (.slice A0_0 l0_0.length c0_0) := (blk_cell BK374.out 0).trans rfl
      have hcz26_1 : w19.cell? ⟨gb374, 1, none⟩ = some (.int .i64 a0_1) := (blk_cell BK374.out 1).trans rfl
      have hcz26_2 : w19.cell? ⟨gb374, 2, none⟩ = some (.int .i64 a0_2) := (blk_cell BK374.out 2).trans rfl
      have hfz26_0 := blk_frozen BK374.out 0
      have hfz26_1 := blk_frozen BK374.out 1
      have hfz26_2 := blk_frozen BK374.out 2
      have p381 : 0 ≤ (a0_1 : Int) := of_decide_eq_true (by first | (with_reducible assumption) | assumption)
      have q381 : a0_1 < (l0_0.length : Int) := of_decide_eq_true (by first | (with_reducible assumption) | assumption)
      obtain ⟨ad381, e381, hx381_0⟩ := Kd.at_int (Kd.V_reads' HO0_0.out).2.2 a0_1 p381 q381
      cases e381
      replace p381 := eq_true p381
      replace q381 := eq_true q381
      go_wp2
      go_meet
      case rel => exact ⟨_, (Int.tmod (wrap64 ((Int.tmod (rd l0_0 a0_1) t379) + t379)) t379), (wrap64 (a0_1 + 1)), (by first | rfl | (simp; done) | (simp [*]; done)), H', ⟨by first | omega | exact Nat.le_refl _⟩, ⟨by (with_reducible repeat (first | apply Kd.R_alloc | apply Kd.R_drewN | apply Kd.R_drew)); exact Kd.R_mono (Kd.R_far (p := ⟨gb374, 1, none⟩) (Kd.R_types HO378.out BK374.out (by decide)) (fun _ hk => hk.2) (.int .i64 (wrap64 (a0_1 + 1)))) (fun _ hk => hk.1.1)⟩, ⟨by (with_reducible repeat (first | apply Kd.V_alloc | apply Kd.V_drewN | apply Kd.V_drew)); exact Kd.V_mono (Kd.V_far (p := ⟨gb374, 1, none⟩) (Kd.V_mono HO0_0.out (fun k_ hk => (⟨hk, hk.1.1.2⟩ : _ ∧ k_ ≠ gb374))) (fun _ hk => hk.2) (.int .i64 (wrap64 (a0_1 + 1)))) (fun _ hk => ⟨hk.1.1.1.1, ⟨hk.1.2, ⟨hk.1.1.1.2, hk.1.1.2⟩⟩⟩)⟩, ⟨by (with_reducible repeat (first | refine blk_drewN ?_ _ | refine blk_drew ?_ | refine blk_alloc ?_ _)); refine blk_put (cs := #[.slice (some ad381) l0_0.length c0_0, .int .i64 a0_1, .int .i64 a0_2]) ?_ 1 _ rfl; (with_reducible repeat (first | refine blk_drewN ?_ _ | refine blk_drew ?_ | refine blk_alloc ?_ _)); exact BK374.out⟩, ⟨by (with_reducible repeat (first | refine blk_drewN ?_ _ | refine blk_drew ?_ | refine blk_alloc ?_ _)); refine blk_far ?_ NB375_374.out _; (with_reducible repeat (first | refine blk_drewN ?_ _ | refine blk_drew ?_ | refine blk_alloc ?_ _)); exact BK375.out⟩, ⟨by repeat (first | (with_reducible first | exact HB.out | apply below_alloc | apply pw_below_drewN | apply below_drew1 | refine below_set ?_ GE374.out | refine below_set ?_ GE375.out) | exact HB.out)⟩⟩
     ·
      rw [if_neg c24] at H
      exact absurd H (by simp)
    ·
     rw [if_neg c23] at H
     have c23b0 : decide (a0_1 < (l0_0.length : Int)) = false := decide_eq_false c23
     clear c23
     (first | rw [c23b0] | (simp only [i64_w, i32_w]; rw [c23b0]) | skip)
     have H' := Aside0.mk H
     clear H
     go_wp2
     go_meet
     case rel => exact ⟨_, (Int.tmod t380 t379), (a0_1), (by first | rfl | (simp; done) | (simp [*]; done)), H', ⟨by first | omega | exact Nat.le_refl _⟩, ⟨by (with_reducible repeat (first | apply Kd.R_alloc | apply Kd.R_drewN | apply Kd.R_drew)); exact Kd.R_mono HO378.out (fun _ hk => hk.1)⟩, ⟨by (with_reducible repeat (first | apply Kd.V_alloc | apply Kd.V_drewN | apply Kd.V_drew)); exact Kd.V_mono HO0_0.out (fun _ hk => ⟨hk.1.1.1, ⟨hk.2, ⟨hk.1.1.2, hk.1.2⟩⟩⟩)⟩, ⟨by (with_reducible repeat (first | refine blk_drewN ?_ _ | refine blk_drew ?_ | refine blk_alloc ?_ _)); exact BK374.out⟩, ⟨by (with_reducible repeat (first | refine blk_drewN ?_ _ | refine blk_drew ?_ | refine blk_alloc ?_ _)); exact BK375.out⟩, ⟨by repeat (first | (with_reducible first | exact HB.out | apply below_alloc | apply pw_below_drewN | apply below_drew1 | refine below_set ?_ GE374.out | refine below_set ?_ GE375.out) | exact HB.out)⟩⟩
   case rest =>
    clear HC16
    (try clear c1); (try clear c2); (try clear p2); (try clear c3); (try clear p3); (try clear q3); (try clear hx3); (try clear c5); (try clear c5b0); (try clear c5b1); (try clear p6); (try clear c15); (try clear c15b0); (try clear c21); (try clear c23); (try clear c23b0); (try clear c24); (try clear c24b0); (try clear c25); (try clear hcz22_0); (try clear hcz22_1); (try clear hcz22_2); (try clear hcz26_0); (try clear hcz26_1); (try clear hcz26_2); (try clear hfz22_0); (try clear hfz22_1); (try clear hfz22_2); (try clear hfz26_0); (try clear hfz26_1); (try clear hfz26_2); (try clear hx381_0); (try clear p381); (try clear q381)
    obtain ⟨kq, x8_15, x375001_15, rfl, HA, HJ15, HO_6, HO_375000, BK374, BK375, HB⟩ := hcut
    cases kq with
    | zero => exact absurd HA.out (by simp [pick_Next.j0])
    | succ kj15 =>
     have H := HA.out
     clear HA
     simp only [pick_Next.j0] at H
     replace H := Option.bind_eq_some_iff.mp H
     obtain ⟨t382, A270, H⟩ := H
     replace H : (some (t382, l0_0, x375001_15, t382)) = some (r1, r2, r3, r4) := H
     have A27 := Aside0.mk A270
     clear A270
     simp only [Option.some.injEq, Prod.mk.injEq] at H
     obtain ⟨rfl, rfl, rfl, rfl⟩ := H
     try go_wp2_with (first | ((with_reducible refine gate_callee (f := 37) rfl ?_); refine goesL_ (some 51) rfl rfl Tryd.func37 (by kernel_rfl) rfl #[.slice Ao20 t376.length co20, .int .i64 x8_15] rfl (by (try simp only [List.map_toArray, List.map_cons, List.map_nil]); first | done | rfl | (simp only [List.length_drop, List.length_take]; rfl)) ?_; (with_reducible refine (pick_set_at.calls kj15 _ _ t376 x8_15 t382 _ ?side1 ?side2 A27.out).mono ?_); (case side1 => repeat (first | exact (Kd.R_reads' HO_6.out).2.2 | (with_reducible refine Kd.C_alloc ?_ _) | (with_reducible refine Kd.C_drewN ?_ _) | (with_reducible refine Kd.C_drew ?_))); (case side2 => exact (Kd.R_reads' HO_6.out).2.1); rintro e w' ⟨rfl, ⟨nd, rfl⟩⟩; refine ⟨_, rfl, ?_⟩; (try (rw [drewN_self wc]; generalize hq_ : World.drewN wc _ = wc; have n0_ : Aside0 (Kd.V (Kd.int .i64) 3 wc w.heap.size (fun k_ => (((P0_0_ k_ ∨ w.heap.size ≤ k_)) ∧ (some k_ ≠ (.slice Ao20 t376.length co20 : Value).ownBlock ∧ (k_ ≠ gb374 ∧ k_ ≠ gb375)))) (.slice A0_0 l0_0.length c0_0) l0_0) := ⟨by rw [← hq_]; exact (by (with_reducible repeat (first | apply Kd.V_alloc | apply Kd.V_drewN | apply Kd.V_drew)); exact HO_375000.out)⟩; have n1_ : Aside0 (Kd.R (Kd.int .u64) 61 wc w.heap.size (fun k_ => ((w.heap.size ≤ k_))) (.slice Ao20 t376.length co20) t376) := ⟨by rw [← hq_]; exact (by (with_reducible repeat (first | apply Kd.R_alloc | apply Kd.R_drewN | apply Kd.R_drew)); exact HO_6.out)⟩; have n2_ : Aside0 (wc.heap[gb374]? = some (.cells #[.slice A0_0 l0_0.length c0_0, .int .i64 x375001_15, .int .i64 a0_2] 58 (0, 0))) := ⟨by rw [← hq_]; exact (by (with_reducible repeat (first | refine blk_drewN ?_ _ | refine blk_drew ?_ | refine blk_alloc ?_ _)); exact BK374.out)⟩; have n3_ : Aside0 (wc.heap[gb375]? = some (.cells #[.slice none 0 0, .int .i64 0, .int .i64 0] 58 (0, 0))) := ⟨by rw [← hq_]; exact (by (with_reducible repeat (first | refine blk_drewN ?_ _ | refine blk_drew ?_ | refine blk_alloc ?_ _)); exact BK375.out)⟩; have n4_ : Aside0 (Below w.heap.size w wc) := ⟨by rw [← hq_]; exact (by repeat (first | (with_reducible first | exact HB.out | apply below_alloc | apply pw_below_drewN | apply below_drew1 | refine below_set ?_ GE374.out | refine below_set ?_ GE375.out) | exact HB.out))⟩; clear HO_375000 HO_6 BK374 BK375 HB hq_; have HO_375000 := n0_; have HO_6 := n1_; have BK374 := n2_; have BK375 := n3_; have HB := n4_; clear n0_ n1_ n2_ n3_ n4_)); have hnb28 := NB374_375.out; have hnc28 := NB375_374.out; have hcz29_0 : wc.cell? ⟨gb374, 0, none⟩ = some (.slice A0_0 l0_0.length c0_0) := (blk_cell BK374.out 0).trans rfl; have hcz29_1 : wc.cell? ⟨gb374, 1, none⟩ = some (.int .i64 x375001_15) := (blk_cell BK374.out 1).trans rfl; have hcz29_2 : wc.cell? ⟨gb374, 2, none⟩ = some (.int .i64 a0_2) := (blk_cell BK374.out 2).trans rfl; have hfz29_0 := blk_frozen BK374.out 0; have hfz29_1 := blk_frozen BK374.out 1; have hfz29_2 := blk_frozen BK374.out 2))
     have n0_ : Aside0 (Kd.R (Kd.int .u64) 61 (wc.setCell ⟨gb374, 2, none⟩ (.int .i64 t382)) w.heap.size (fun k_ => (w.heap.size ≤ k_)) (.slice Ao20 t376.length co20) t376) := ⟨by (with_reducible repeat (first | apply Kd.R_alloc | apply Kd.R_drewN | apply Kd.R_drew)); exact Kd.R_mono (Kd.R_far (p := ⟨gb374, 2, none⟩) (Kd.R_types HO_6.out BK374.out (by decide)) (fun _ hk => hk.2) (.int .i64 t382)) (fun _ hk => hk.1)⟩
     have n1_ : Aside0 (Kd.V (Kd.int .i64) 3 (wc.setCell ⟨gb374, 2, none⟩ (.int .i64 t382)) w.heap.size (fun k_ => (P0_0_ k_ ∨ w.heap.size ≤ k_) ∧ some k_ ≠ (.slice Ao20 t376.length co20 : Value).ownBlock ∧ k_ ≠ gb374 ∧ k_ ≠ gb375) (.slice A0_0 l0_0.length c0_0) l0_0) := ⟨by (with_reducible repeat (first | apply Kd.V_alloc | apply Kd.V_drewN | apply Kd.V_drew)); exact Kd.V_mono (Kd.V_far (p := ⟨gb374, 2, none⟩) (Kd.V_mono HO_375000.out (fun k_ hk => (⟨hk, hk.2.2.1⟩ : _ ∧ k_ ≠ gb374))) (fun _ hk => hk.2) (.int .i64 t382)) (fun _ hk => ⟨hk.1.1, ⟨hk.1.2.1, ⟨hk.1.2.2.1, hk.1.2.2.2⟩⟩⟩)⟩
     have n2_ : Aside0 ((wc.setCell ⟨gb374, 2, none⟩ (.int .i64 t382)).heap[gb374]? = some (.cells #[.slice A0_0 l0_0.length c0_0, .int .i64 x375001_15, .int .i64 t382] 58 (0, 0))) := ⟨by (with_reducible repeat (first | refine blk_drewN ?_ _ | refine blk_drew ?_ | refine blk_alloc ?_ _)); refine blk_put (cs := #[.slice A0_0 l0_0.length c0_0, .int .i64 x375001_15, .int .i64 a0_2]) ?_ 2 _ rfl; (with_reducible repeat (first | refine blk_drewN ?_ _ | refine blk_drew ?_ | refine blk_alloc ?_ _)); exact BK374.out⟩
     have n3_ : Aside0 ((wc.setCell ⟨gb374, 2, none⟩ (.int .i64 t382)).heap[gb375]? = some (.cells #[.slice none 0 0, .int .i64 0, .int .i64 0] 58 (0, 0))) := ⟨by (with_reducible repeat (first | refine blk_drewN ?_ _ | refine blk_drew ?_ | refine blk_alloc ?_ _)); refine blk_far ?_ NB375_374.out _; (with_reducible repeat (first | refine blk_drewN ?_ _ | refine blk_drew ?_ | refine blk_alloc ?_ _)); exact BK375.out⟩
     have n4_ : Aside0 (Below w.heap.size w (wc.setCell ⟨gb374, 2, none⟩ (.int .i64 t382))) := ⟨by repeat (first | (with_reducible first | exact HB.out | apply below_alloc | apply pw_below_drewN | apply below_drew1 | refine below_set ?_ GE374.out | refine below_set ?_ GE375.out) | exact HB.out)⟩
     (try clear HO_6)
     (try clear HO_375000)
     (try clear BK374)
     (try clear BK375)
     (try clear HB)
     generalize (wc.setCell ⟨gb374, 2, none⟩ (.int .i64 t382)) = w30 at n0_ n1_ n2_ n3_ n4_ ⊢
     have HO_6 := n0_
     have HO_375000 := n1_
     have BK374 := n2_
     have BK375 := n3_
     have HB := n4_
     clear n0_ n1_ n2_ n3_ n4_
     have n0_ := Aside0.mk (Kd.R_drew HO_6.out)
     have n1_ := Aside0.mk (Kd.V_drew HO_375000.out)
     have n2_ := Aside0.mk (blk_drew BK374.out)
     have n3_ := Aside0.mk (blk_drew BK375.out)
     have n4_ := Aside0.mk (below_drew1 HB.out)
     clear HO_6
     clear HO_375000
     clear BK374
     clear BK375
     clear HB
     have HO_6 := n0_
     have HO_375000 := n1_
     have BK374 := n2_
     have BK375 := n3_
     have HB := n4_
     clear n0_ n1_ n2_ n3_ n4_
     refine start_ (n := 5) (S := fun w' => w'.cell? ⟨gb374, 0, none⟩ = some (.slice A0_0 l0_0.length c0_0) ∧ w'.cell? ⟨gb374, 1, none⟩ = some (.int .i64 x375001_15) ∧ w'.cell? ⟨gb374, 2, none⟩ = some (.int .i64 t382)) (ds := []) #[false, false, false, false, false] (by kernel_rfl) rfl rfl ⟨(blk_cell BK374.out 0).trans rfl, (blk_cell BK374.out 1).trans rfl, (blk_cell BK374.out 2).trans rfl⟩ (fun hHeld => ?_)
     generalize w30.drew = w31 at HO_6 HO_375000 BK374 BK375 HB hHeld ⊢
     refine pure_ (i := 0) (N := some 53) (v := ?_) (a' := ?_) #[true, false, false, false, false] rfl rfl (by kernel_rfl) (fun _ _ _ h => h) (Or.inl ⟨by rfl, ?_⟩) ?_ ?_
     rotate_left
     ·
      intro w'
      go_simp
      with_reducible rfl
     rotate_left
     ·
      simp only [Act.put, List.setIfInBounds_toArray, List.set_cons_zero, List.set_cons_succ, i64_w, i32_w]
      rfl
     refine take_ (i := 1) (N := some 54) (v := ?_) (a' := ?_) #[true, true, false, false, false] rfl rfl (by kernel_rfl) (fun _ _ _ h => h) (Or.inl ⟨by rfl, ?_⟩) hHeld ?_ ?_
     rotate_left
     ·
      rintro w' ⟨s0, s1, s2⟩
      go_simp
      with_reducible rfl
     rotate_left
     ·
      simp only [Act.put, List.setIfInBounds_toArray, List.set_cons_zero, List.set_cons_succ, i64_w, i32_w]
      rfl
     refine pure_ (i := 3) (N := some 4) (v := ?_) (a' := ?_) #[true, true, false, true, false] rfl rfl (by kernel_rfl) (fun _ _ _ h => h) (Or.inl ⟨by rfl, ?_⟩) ?_ ?_
     rotate_left
     ·
      intro w'
      go_simp
      with_reducible rfl
     rotate_left
     ·
      simp only [Act.put, List.setIfInBounds_toArray, List.set_cons_zero, List.set_cons_succ, i64_w, i32_w]
      rfl
     refine take_ (i := 2) (N := some 55) (v := ?_) (a' := ?_) #[true, true, true, true, false] rfl rfl (by kernel_rfl) (fun _ _ _ h => h) (Or.inl ⟨by rfl, ?_⟩) hHeld ?_ ?_
     rotate_left
     ·
      rintro w' ⟨s0, s1, s2⟩
      go_simp
      with_reducible rfl
     rotate_left
     ·
      simp only [Act.put, List.setIfInBounds_toArray, List.set_cons_zero, List.set_cons_succ, i64_w, i32_w]
      rfl
     refine one_ (i := 4) (N := none) #[true, true, true, true, true] rfl rfl (by kernel_rfl) (by decide) (fun K hK => ?_)
     have hs32 : w31.cell? ⟨gb375, 0, none⟩ = some (.slice none 0 0) := (blk_cell BK375.out 0).trans rfl
     have hfs32 := blk_frozen BK375.out 0
     have hns32_0 := NB374_375.out
     have hms32_0 := NB375_374.out
     have hs33 : w31.cell? ⟨gb375, 1, none⟩ = some (.int .i64 0) := (blk_cell BK375.out 1).trans rfl
     have hfs33 := blk_frozen BK375.out 1
     have hns33_0 := NB374_375.out
     have hms33_0 := NB375_374.out
     have hs34 : w31.cell? ⟨gb375, 2, none⟩ = some (.int .i64 0) := (blk_cell BK375.out 2).trans rfl
     have hfs34 := blk_frozen BK375.out 2
     have hns34_0 := NB374_375.out
     have hms34_0 := NB375_374.out
     refine skip_ (w1 := ?_) (by rfl) rfl ?_ ?_
     rotate_left
     ·
      go_simp
      rfl
     refine hK.out _ _ ⟨((cell_far (p := ⟨gb375, _, none⟩) NB374_375.out _).trans (((cell_far (p := ⟨gb375, _, none⟩) NB374_375.out _).trans (((cell_far (p := ⟨gb375, _, none⟩) NB374_375.out _).trans (hHeld.1)))))), ((cell_far (p := ⟨gb375, _, none⟩) NB374_375.out _).trans (((cell_far (p := ⟨gb375, _, none⟩) NB374_375.out _).trans (((cell_far (p := ⟨gb375, _, none⟩) NB374_375.out _).trans (hHeld.2.1)))))), ((cell_far (p := ⟨gb375, _, none⟩) NB374_375.out _).trans (((cell_far (p := ⟨gb375, _, none⟩) NB374_375.out _).trans (((cell_far (p := ⟨gb375, _, none⟩) NB374_375.out _).trans (hHeld.2.2))))))⟩ (fun hHeld => ?_)
     clear hK K
     refine done_ (by kernel_rfl) ?_
     try go_wp2
     refine bodyPost_ret (results_tc rfl _ _ gb375 58 #[.slice A0_0 l0_0.length c0_0, .int .i64 x375001_15, .int .i64 t382] (0, 0) _ rfl (by (with_reducible repeat (first | refine blk_drewN ?_ _ | refine blk_drew ?_ | refine blk_alloc ?_ _)); refine blk_put (cs := #[.slice A0_0 l0_0.length c0_0, .int .i64 x375001_15, .int .i64 0]) ?_ 2 _ rfl; (with_reducible repeat (first | refine blk_drewN ?_ _ | refine blk_drew ?_ | refine blk_alloc ?_ _)); refine blk_put (cs := #[.slice A0_0 l0_0.length c0_0, .int .i64 0, .int .i64 0]) ?_ 1 _ rfl; (with_reducible repeat (first | refine blk_drewN ?_ _ | refine blk_drew ?_ | refine blk_alloc ?_ _)); refine blk_put (cs := #[.slice none 0 0, .int .i64 0, .int .i64 0]) ?_ 0 _ rfl; (with_reducible repeat (first | refine blk_drewN ?_ _ | refine blk_drew ?_ | refine blk_alloc ?_ _)); exact BK375.out) Tryd.underlying58 rfl (by kernel_rfl)) rfl ?_
     exact ⟨_, by first | rfl | (simp [errW_none, errW_some] <;> rfl) | (simp [*, errW_none, errW_some] <;> rfl), by (with_reducible repeat (first | apply Kd.V_alloc | apply Kd.V_drewN | apply Kd.V_drew)); exact Kd.V_mono (Kd.V_far (p := ⟨gb375, 2, none⟩) (Kd.V_far (p := ⟨gb375, 1, none⟩) (Kd.V_far (p := ⟨gb375, 0, none⟩) (Kd.V_mono HO_375000.out (fun k_ hk => (⟨hk, hk.2.2.2⟩ : _ ∧ k_ ≠ gb375))) (fun _ hk => hk.2) (.slice A0_0 l0_0.length c0_0)) (fun _ hk => hk.2) (.int .i64 x375001_15)) (fun _ hk => hk.2) (.int .i64 t382)) (fun _ hk => hk.1.1), by repeat (first | (with_reducible first | exact HB.out | apply below_alloc | apply pw_below_drewN | apply below_drew1 | refine below_set ?_ GE374.out | refine below_set ?_ GE375.out) | exact HB.out)⟩
  ·
   rw [if_neg c15] at H
   have c15b0 : decide (0 ≤ a0_1) = false := decide_eq_false c15
   clear c15
   replace H := Option.bind_eq_some_iff.mp H
   obtain ⟨t383, A350, H⟩ := H
   replace H : (some (t383, l0_0, a0_1, t383)) = some (r1, r2, r3, r4) := H
   have A35 := Aside0.mk A350
   clear A350
   simp only [Option.some.injEq, Prod.mk.injEq] at H
   obtain ⟨rfl, rfl, rfl, rfl⟩ := H
   go_enter Tryd.func24, Tryd.ntmps24
   try go_wp2_with (first | ((with_reducible refine gate_dst (N := 2) rfl ?_); (try (refine gate_guard (by rfl) ?_; dsimp only)); refine box_event ?hg (N := 2) ?hd (cs := #[.slice A0_0 l0_0.length c0_0, .int .i64 a0_1, .int .i64 a0_2]) (t := 58) ?hr ?_; (case hd => rfl); (case hg => rfl); (case hr => first | (go_simp; done) | (go_simp; rfl)); intro gb374 hg w36 hbox hb; have n0_ := Aside0.mk (Kd.V_below (Kd.V_elderB (by (with_reducible repeat (first | apply Kd.V_alloc | apply Kd.V_drewN | apply Kd.V_drew)); exact HO0_0.out) gb374 (Nat.le_of_eq hg.symm)) hb); have n1_ := Aside0.mk (below_step (by repeat (first | (with_reducible first | exact HB.out | apply below_alloc | apply pw_below_drewN | apply below_drew1) | exact HB.out)) hb); have n2_ := Aside0.mk (hbox); have n3_ := Aside0.mk ((by rw [hg]; exact (below_size (by repeat (first | (with_reducible first | exact HB.out | apply below_alloc | apply pw_below_drewN | apply below_drew1) | exact HB.out))) : w.heap.size ≤ gb374)); have n4_ := Aside0.mk ((by rw [hg]; exact (below_size (by repeat (first | (with_reducible first | exact HB.out | apply below_alloc | apply pw_below_drewN | apply below_drew1) | exact HB.out))) : w.heap.size ≤ gb374)); clear HO0_0; clear HB; have HO0_0 := n0_; have HB := n1_; have BK374 := n2_; have GW374 := n3_; have GE374 := n4_; clear n0_ n1_ n2_ n3_ n4_; clear hb hbox hg) | ((with_reducible refine gate_dst (N := 5) rfl ?_); (try (refine gate_guard (by rfl) ?_; dsimp only)); refine box_event ?hg (N := 5) ?hd (cs := #[.slice none 0 0, .int .i64 0, .int .i64 0]) (t := 58) ?hr ?_; (case hd => rfl); (case hg => rfl); (case hr => first | (go_simp; done) | (go_simp; rfl)); intro gb375 hg w37 hbox hb; have n0_ := Aside0.mk (Kd.V_below (Kd.V_elderB (by (with_reducible repeat (first | apply Kd.V_alloc | apply Kd.V_drewN | apply Kd.V_drew)); exact HO0_0.out) gb375 (Nat.le_of_eq hg.symm)) hb); have n1_ := Aside0.mk (blk_below (g := gb374) (o := .cells #[.slice A0_0 l0_0.length c0_0, .int .i64 a0_1, .int .i64 a0_2] 58 (0, 0)) (by (with_reducible repeat (first | refine blk_drewN ?_ _ | refine blk_drew ?_ | refine blk_alloc ?_ _)); exact BK374.out) hb); have n2_ := Aside0.mk (below_step (by repeat (first | (with_reducible first | exact HB.out | apply below_alloc | apply pw_below_drewN | apply below_drew1 | refine below_set ?_ GE374.out) | exact HB.out)) hb); have n3_ := Aside0.mk (hbox); have n4_ := Aside0.mk ((by rw [hg]; exact (below_size (by repeat (first | (with_reducible first | exact HB.out | apply below_alloc | apply pw_below_drewN | apply below_drew1 | refine below_set ?_ GE374.out) | exact HB.out))) : w.heap.size ≤ gb375)); have n5_ := Aside0.mk ((by rw [hg]; exact (below_size (by repeat (first | (with_reducible first | exact HB.out | apply below_alloc | apply pw_below_drewN | apply below_drew1 | refine below_set ?_ GE374.out) | exact HB.out))) : w.heap.size ≤ gb375)); have n6_ := Aside0.mk ((by rw [hg]; exact Nat.ne_of_lt (blk_lt (g := gb374) (o := .cells #[.slice A0_0 l0_0.length c0_0, .int .i64 a0_1, .int .i64 a0_2] 58 (0, 0)) (by (with_reducible repeat (first | refine blk_drewN ?_ _ | refine blk_drew ?_ | refine blk_alloc ?_ _)); exact BK374.out)) : gb374 ≠ gb375)); have n7_ := Aside0.mk ((by rw [hg]; exact Nat.ne_of_gt (blk_lt (g := gb374) (o := .cells #[.slice A0_0 l0_0.length c0_0, .int .i64 a0_1, .int .i64 a0_2] 58 (0, 0)) (by (with_reducible repeat (first | refine blk_drewN ?_ _ | refine blk_drew ?_ | refine blk_alloc ?_ _)); exact BK374.out)) : gb375 ≠ gb374)); clear HO0_0; clear BK374; clear HB; have HO0_0 := n0_; have BK374 := n1_; have HB := n2_; have BK375 := n3_; have GW375 := n4_; have GE375 := n5_; have NB374_375 := n6_; have NB375_374 := n7_; clear n0_ n1_ n2_ n3_ n4_ n5_ n6_ n7_; clear hb hbox hg) | ((with_reducible refine gate_callee (f := 34) rfl ?_); refine goesL_ (some 10) rfl rfl Tryd.func34 (by kernel_rfl) rfl #[.slice A1 l1.length c1] rfl (by (try simp only [List.map_toArray, List.map_cons, List.map_nil]); first | done | rfl | (simp only [List.length_drop, List.length_take]; rfl)) ?_; (with_reducible refine (pick_of.calls k _ _ l1 t376 _ ?side1 ?side2 A3.out).mono ?_); (case side1 => repeat (first | exact (Kd.C_below HR1.out HB.out) | (with_reducible refine Kd.C_alloc ?_ _) | (with_reducible refine Kd.C_drewN ?_ _) | (with_reducible refine Kd.C_drew ?_))); (case side2 => exact HC1.out); rintro e w38 ⟨v377, rfl, ho0, hb⟩; refine ⟨_, rfl, ?_⟩; have n0_ := Aside0.mk (Kd.V_elder' (by (with_reducible repeat (first | apply Kd.V_alloc | apply Kd.V_drewN | apply Kd.V_drew)); exact HO0_0.out) (Kd.R_base ho0) hb); have n1_ := Aside0.mk (Kd.R_lower (Kd.R_newM (M := fun k_ => (w.heap.size ≤ k_)) ho0 (below_size (by repeat (first | (with_reducible first | exact HB.out | apply below_alloc | apply pw_below_drewN | apply below_drew1 | refine below_set ?_ GE374.out | refine below_set ?_ GE375.out) | exact HB.out))) (fun k_ h_ => h_)) (below_size (by repeat (first | (with_reducible first | exact HB.out | apply below_alloc | apply pw_below_drewN | apply below_drew1 | refine below_set ?_ GE374.out | refine below_set ?_ GE375.out) | exact HB.out)))); have n2_ := Aside0.mk (blk_below (g := gb374) (o := .cells #[.slice A0_0 l0_0.length c0_0, .int .i64 a0_1, .int .i64 a0_2] 58 (0, 0)) (by (with_reducible repeat (first | refine blk_drewN ?_ _ | refine blk_drew ?_ | refine blk_alloc ?_ _)); exact BK374.out) hb); have n3_ := Aside0.mk (blk_below (g := gb375) (o := .cells #[.slice none 0 0, .int .i64 0, .int .i64 0] 58 (0, 0)) (by (with_reducible repeat (first | refine blk_drewN ?_ _ | refine blk_drew ?_ | refine blk_alloc ?_ _)); exact BK375.out) hb); have n4_ := Aside0.mk (below_step (by repeat (first | (with_reducible first | exact HB.out | apply below_alloc | apply pw_below_drewN | apply below_drew1 | refine below_set ?_ GE374.out | refine below_set ?_ GE375.out) | exact HB.out)) hb); clear HO0_0; clear BK374; clear BK375; clear HB; have HO0_0 := n0_; have HO378 := n1_; have BK374 := n2_; have BK375 := n3_; have HB := n4_; clear n0_ n1_ n2_ n3_ n4_; (try clear hb); (try clear hb2); (try clear hk); (try clear hi); (try clear ho0); obtain ⟨Ao39, co39, eo39⟩ := Kd.R_slice HO378.out; subst eo39) | ((with_reducible refine gate_callee (f := 35) rfl ?_); refine goesL_ (some 12) rfl rfl Tryd.func35 (by kernel_rfl) rfl #[.slice Ao39 t376.length co39] rfl (by (try simp only [List.map_toArray, List.map_cons, List.map_nil]); first | done | rfl | (simp only [List.length_drop, List.length_take]; rfl)) ?_; (with_reducible refine (pick_set_count.calls k _ _ t376 t379 _ ?side1 ?side2 A4.out).mono ?_); (case side1 => repeat (first | exact (Kd.R_reads' HO378.out).2.2 | (with_reducible refine Kd.C_alloc ?_ _) | (with_reducible refine Kd.C_drewN ?_ _) | (with_reducible refine Kd.C_drew ?_))); (case side2 => exact (Kd.R_reads' HO378.out).2.1); rintro e w' ⟨rfl, ⟨nd, rfl⟩⟩; refine ⟨_, rfl, ?_⟩; (try (rw [drewN_self w38]; generalize hq_ : World.drewN w38 _ = w38; have n0_ : Aside0 (Kd.V (Kd.int .i64) 3 w38 w.heap.size (fun k_ => (((((P0_0_ k_ ∨ w.heap.size ≤ k_)) ∧ k_ ≠ gb374) ∧ k_ ≠ gb375) ∧ some k_ ≠ (.slice Ao39 t376.length co39 : Value).ownBlock)) (.slice A0_0 l0_0.length c0_0) l0_0) := ⟨by rw [← hq_]; exact (by (with_reducible repeat (first | apply Kd.V_alloc | apply Kd.V_drewN | apply Kd.V_drew)); exact HO0_0.out)⟩; have n1_ : Aside0 (Kd.R (Kd.int .u64) 61 w38 w.heap.size (fun k_ => (((w.heap.size ≤ k_)) ∧ True)) (.slice Ao39 t376.length co39) t376) := ⟨by rw [← hq_]; exact (by (with_reducible repeat (first | apply Kd.R_alloc | apply Kd.R_drewN | apply Kd.R_drew)); exact HO378.out)⟩; have n2_ : Aside0 (w38.heap[gb374]? = some (.cells #[.slice A0_0 l0_0.length c0_0, .int .i64 a0_1, .int .i64 a0_2] 58 (0, 0))) := ⟨by rw [← hq_]; exact (by (with_reducible repeat (first | refine blk_drewN ?_ _ | refine blk_drew ?_ | refine blk_alloc ?_ _)); exact BK374.out)⟩; have n3_ : Aside0 (w38.heap[gb375]? = some (.cells #[.slice none 0 0, .int .i64 0, .int .i64 0] 58 (0, 0))) := ⟨by rw [← hq_]; exact (by (with_reducible repeat (first | refine blk_drewN ?_ _ | refine blk_drew ?_ | refine blk_alloc ?_ _)); exact BK375.out)⟩; have n4_ : Aside0 (Below w.heap.size w w38) := ⟨by rw [← hq_]; exact (by repeat (first | (with_reducible first | exact HB.out | apply below_alloc | apply pw_below_drewN | apply below_drew1 | refine below_set ?_ GE374.out | refine below_set ?_ GE375.out) | exact HB.out))⟩; clear HO0_0 HO378 BK374 BK375 HB hq_; have HO0_0 := n0_; have HO378 := n1_; have BK374 := n2_; have BK375 := n3_; have HB := n4_; clear n0_ n1_ n2_ n3_ n4_)); have hnb40 := NB374_375.out; have hnc40 := NB375_374.out; have hcz41_0 : w38.cell? ⟨gb374, 0, none⟩ = some (.slice A0_0 l0_0.length c0_0) := (blk_cell BK374.out 0).trans rfl; have hcz41_1 : w38.cell? ⟨gb374, 1, none⟩ = some (.int .i64 a0_1) := (blk_cell BK374.out 1).trans rfl; have hcz41_2 : w38.cell? ⟨gb374, 2, none⟩ = some (.int .i64 a0_2) := (blk_cell BK374.out 2).trans rfl; have hfz41_0 := blk_frozen BK374.out 0; have hfz41_1 := blk_frozen BK374.out 1; have hfz41_2 := blk_frozen BK374.out 2) | ((with_reducible refine gate_callee (f := 36) rfl ?_); refine goesL_ (some 19) rfl rfl Tryd.func36 (by kernel_rfl) rfl #[.slice Ao39 t376.length co39, .int .i64 a0_2] rfl (by (try simp only [List.map_toArray, List.map_cons, List.map_nil]); first | done | rfl | (simp only [List.length_drop, List.length_take]; rfl)) ?_; (with_reducible refine (pick_set_below.calls k _ _ t376 a0_2 t380 _ ?side1 ?side2 A14.out).mono ?_); (case side1 => repeat (first | exact (Kd.R_reads' HO378.out).2.2 | (with_reducible refine Kd.C_alloc ?_ _) | (with_reducible refine Kd.C_drewN ?_ _) | (with_reducible refine Kd.C_drew ?_))); (case side2 => exact (Kd.R_reads' HO378.out).2.1); rintro e w' ⟨rfl, ⟨nd, rfl⟩⟩; refine ⟨_, rfl, ?_⟩; (try (rw [drewN_self w38]; generalize hq_ : World.drewN w38 _ = w38; have n0_ : Aside0 (Kd.V (Kd.int .i64) 3 w38 w.heap.size (fun k_ => (((((P0_0_ k_ ∨ w.heap.size ≤ k_)) ∧ k_ ≠ gb374) ∧ k_ ≠ gb375) ∧ some k_ ≠ (.slice Ao39 t376.length co39 : Value).ownBlock)) (.slice A0_0 l0_0.length c0_0) l0_0) := ⟨by rw [← hq_]; exact (by (with_reducible repeat (first | apply Kd.V_alloc | apply Kd.V_drewN | apply Kd.V_drew)); exact HO0_0.out)⟩; have n1_ : Aside0 (Kd.R (Kd.int .u64) 61 w38 w.heap.size (fun k_ => (((w.heap.size ≤ k_)) ∧ True)) (.slice Ao39 t376.length co39) t376) := ⟨by rw [← hq_]; exact (by (with_reducible repeat (first | apply Kd.R_alloc | apply Kd.R_drewN | apply Kd.R_drew)); exact HO378.out)⟩; have n2_ : Aside0 (w38.heap[gb374]? = some (.cells #[.slice A0_0 l0_0.length c0_0, .int .i64 a0_1, .int .i64 a0_2] 58 (0, 0))) := ⟨by rw [← hq_]; exact (by (with_reducible repeat (first | refine blk_drewN ?_ _ | refine blk_drew ?_ | refine blk_alloc ?_ _)); exact BK374.out)⟩; have n3_ : Aside0 (w38.heap[gb375]? = some (.cells #[.slice none 0 0, .int .i64 0, .int .i64 0] 58 (0, 0))) := ⟨by rw [← hq_]; exact (by (with_reducible repeat (first | refine blk_drewN ?_ _ | refine blk_drew ?_ | refine blk_alloc ?_ _)); exact BK375.out)⟩; have n4_ : Aside0 (Below w.heap.size w w38) := ⟨by rw [← hq_]; exact (by repeat (first | (with_reducible first | exact HB.out | apply below_alloc | apply pw_below_drewN | apply below_drew1 | refine below_set ?_ GE374.out | refine below_set ?_ GE375.out) | exact HB.out))⟩; clear HO0_0 HO378 BK374 BK375 HB hq_; have HO0_0 := n0_; have HO378 := n1_; have BK374 := n2_; have BK375 := n3_; have HB := n4_; clear n0_ n1_ n2_ n3_ n4_)); have hcz42_0 : w38.cell? ⟨gb374, 0, none⟩ = some (.slice A0_0 l0_0.length c0_0) := (blk_cell BK374.out 0).trans rfl; have hcz42_1 : w38.cell? ⟨gb374, 1, none⟩ = some (.int .i64 a0_1) := (blk_cell BK374.out 1).trans rfl; have hcz42_2 : w38.cell? ⟨gb374, 2, none⟩ = some (.int .i64 a0_2) := (blk_cell BK374.out 2).trans rfl; have hfz42_0 := blk_frozen BK374.out 0; have hfz42_1 := blk_frozen BK374.out 1; have hfz42_2 := blk_frozen BK374.out 2) | ((with_reducible refine gate_callee (f := 37) rfl ?_); refine goesL_ (some 51) rfl rfl Tryd.func37 (by kernel_rfl) rfl #[.slice Ao39 t376.length co39, .int .i64 (Int.tmod t380 t379)] rfl (by (try simp only [List.map_toArray, List.map_cons, List.map_nil]); first | done | rfl | (simp only [List.length_drop, List.length_take]; rfl)) ?_; (with_reducible refine (pick_set_at.calls k _ _ t376 (Int.tmod t380 t379) t383 _ ?side1 ?side2 A35.out).mono ?_); (case side1 => repeat (first | exact (Kd.R_reads' HO378.out).2.2 | (with_reducible refine Kd.C_alloc ?_ _) | (with_reducible refine Kd.C_drewN ?_ _) | (with_reducible refine Kd.C_drew ?_))); (case side2 => exact (Kd.R_reads' HO378.out).2.1); rintro e w' ⟨rfl, ⟨nd, rfl⟩⟩; refine ⟨_, rfl, ?_⟩; (try (rw [drewN_self w38]; generalize hq_ : World.drewN w38 _ = w38; have n0_ : Aside0 (Kd.V (Kd.int .i64) 3 w38 w.heap.size (fun k_ => (((((P0_0_ k_ ∨ w.heap.size ≤ k_)) ∧ k_ ≠ gb374) ∧ k_ ≠ gb375) ∧ some k_ ≠ (.slice Ao39 t376.length co39 : Value).ownBlock)) (.slice A0_0 l0_0.length c0_0) l0_0) := ⟨by rw [← hq_]; exact (by (with_reducible repeat (first | apply Kd.V_alloc | apply Kd.V_drewN | apply Kd.V_drew)); exact HO0_0.out)⟩; have n1_ : Aside0 (Kd.R (Kd.int .u64) 61 w38 w.heap.size (fun k_ => (((w.heap.size ≤ k_)) ∧ True)) (.slice Ao39 t376.length co39) t376) := ⟨by rw [← hq_]; exact (by (with_reducible repeat (first | apply Kd.R_alloc | apply Kd.R_drewN | apply Kd.R_drew)); exact HO378.out)⟩; have n2_ : Aside0 (w38.heap[gb374]? = some (.cells #[.slice A0_0 l0_0.length c0_0, .int .i64 a0_1, .int .i64 a0_2] 58 (0, 0))) := ⟨by rw [← hq_]; exact (by (with_reducible repeat (first | refine blk_drewN ?_ _ | refine blk_drew ?_ | refine blk_alloc ?_ _)); exact BK374.out)⟩; have n3_ : Aside0 (w38.heap[gb375]? = some (.cells #[.slice none 0 0, .int .i64 0, .int .i64 0] 58 (0, 0))) := ⟨by rw [← hq_]; exact (by (with_reducible repeat (first | refine blk_drewN ?_ _ | refine blk_drew ?_ | refine blk_alloc ?_ _)); exact BK375.out)⟩; have n4_ : Aside0 (Below w.heap.size w w38) := ⟨by rw [← hq_]; exact (by repeat (first | (with_reducible first | exact HB.out | apply below_alloc | apply pw_below_drewN | apply below_drew1 | refine below_set ?_ GE374.out | refine below_set ?_ GE375.out) | exact HB.out))⟩; clear HO0_0 HO378 BK374 BK375 HB hq_; have HO0_0 := n0_; have HO378 := n1_; have BK374 := n2_; have BK375 := n3_; have HB := n4_; clear n0_ n1_ n2_ n3_ n4_)); have hcz43_0 : w38.cell? ⟨gb374, 0, none⟩ = some (.slice A0_0 l0_0.length c0_0) := (blk_cell BK374.out 0).trans rfl; have hcz43_1 : w38.cell? ⟨gb374, 1, none⟩ = some (.int .i64 a0_1) := (blk_cell BK374.out 1).trans rfl; have hcz43_2 : w38.cell? ⟨gb374, 2, none⟩ = some (.int .i64 a0_2) := (blk_cell BK374.out 2).trans rfl; have hfz43_0 := blk_frozen BK374.out 0; have hfz43_1 := blk_frozen BK374.out 1; have hfz43_2 := blk_frozen BK374.out 2))
   have n0_ : Aside0 (Kd.V (Kd.int .i64) 3 (w38.setCell ⟨gb374, 2, none⟩ (.int .i64 t383)) w.heap.size (fun k_ => (P0_0_ k_ ∨ w.heap.size ≤ k_) ∧ some k_ ≠ (.slice Ao39 t376.length co39 : Value).ownBlock ∧ k_ ≠ gb374 ∧ k_ ≠ gb375) (.slice A0_0 l0_0.length c0_0) l0_0) := ⟨by (with_reducible repeat (first | apply Kd.V_alloc | apply Kd.V_drewN | apply Kd.V_drew)); exact Kd.V_mono (Kd.V_far (p := ⟨gb374, 2, none⟩) (Kd.V_mono HO0_0.out (fun k_ hk => (⟨hk, hk.1.1.2⟩ : _ ∧ k_ ≠ gb374))) (fun _ hk => hk.2) (.int .i64 t383)) (fun _ hk => ⟨hk.1.1.1.1, ⟨hk.1.2, ⟨hk.1.1.1.2, hk.1.1.2⟩⟩⟩)⟩
   have n1_ : Aside0 (Kd.R (Kd.int .u64) 61 (w38.setCell ⟨gb374, 2, none⟩ (.int .i64 t383)) w.heap.size (fun k_ => (w.heap.size ≤ k_)) (.slice Ao39 t376.length co39) t376) := ⟨by (with_reducible repeat (first | apply Kd.R_alloc | apply Kd.R_drewN | apply Kd.R_drew)); exact Kd.R_mono (Kd.R_far (p := ⟨gb374, 2, none⟩) (Kd.R_types HO378.out BK374.out (by decide)) (fun _ hk => hk.2) (.int .i64 t383)) (fun _ hk => hk.1.1)⟩
   have n2_ : Aside0 ((w38.setCell ⟨gb374, 2, none⟩ (.int .i64 t383)).heap[gb374]? = some (.cells #[.slice A0_0 l0_0.length c0_0, .int .i64 a0_1, .int .i64 t383] 58 (0, 0))) := ⟨by (with_reducible repeat (first | refine blk_drewN ?_ _ | refine blk_drew ?_ | refine blk_alloc ?_ _)); refine blk_put (cs := #[.slice A0_0 l0_0.length c0_0, .int .i64 a0_1, .int .i64 a0_2]) ?_ 2 _ rfl; (with_reducible repeat (first | refine blk_drewN ?_ _ | refine blk_drew ?_ | refine blk_alloc ?_ _)); exact BK374.out⟩
   have n3_ : Aside0 ((w38.setCell ⟨gb374, 2, none⟩ (.int .i64 t383)).heap[gb375]? = some (.cells #[.slice none 0 0, .int .i64 0, .int .i64 0] 58 (0, 0))) := ⟨by (with_reducible repeat (first | refine blk_drewN ?_ _ | refine blk_drew ?_ | refine blk_alloc ?_ _)); refine blk_far ?_ NB375_374.out _; (with_reducible repeat (first | refine blk_drewN ?_ _ | refine blk_drew ?_ | refine blk_alloc ?_ _)); exact BK375.out⟩
   have n4_ : Aside0 (Below w.heap.size w (w38.setCell ⟨gb374, 2, none⟩ (.int .i64 t383))) := ⟨by repeat (first | (with_reducible first | exact HB.out | apply below_alloc | apply pw_below_drewN | apply below_drew1 | refine below_set ?_ GE374.out | refine below_set ?_ GE375.out) | exact HB.out)⟩
   (try clear HO0_0)
   (try clear HO378)
   (try clear BK374)
   (try clear BK375)
   (try clear HB)
   generalize (w38.setCell ⟨gb374, 2, none⟩ (.int .i64 t383)) = w44 at n0_ n1_ n2_ n3_ n4_ ⊢
   have HO0_0 := n0_
   have HO378 := n1_
   have BK374 := n2_
   have BK375 := n3_
   have HB := n4_
   clear n0_ n1_ n2_ n3_ n4_
   have n0_ := Aside0.mk (Kd.V_drew HO0_0.out)
   have n1_ := Aside0.mk (Kd.R_drew HO378.out)
   have n2_ := Aside0.mk (blk_drew BK374.out)
   have n3_ := Aside0.mk (blk_drew BK375.out)
   have n4_ := Aside0.mk (below_drew1 HB.out)
   clear HO0_0
   clear HO378
   clear BK374
   clear BK375
   clear HB
   have HO0_0 := n0_
   have HO378 := n1_
   have BK374 := n2_
   have BK375 := n3_
   have HB := n4_
   clear n0_ n1_ n2_ n3_ n4_
   refine start_ (n := 5) (S := fun w' => w'.cell? ⟨gb374, 0, none⟩ = some (.slice A0_0 l0_0.length c0_0) ∧ w'.cell? ⟨gb374, 1, none⟩ = some (.int .i64 a0_1) ∧ w'.cell? ⟨gb374, 2, none⟩ = some (.int .i64 t383)) (ds := []) #[false, false, false, false, false] (by kernel_rfl) rfl rfl ⟨(blk_cell BK374.out 0).trans rfl, (blk_cell BK374.out 1).trans rfl, (blk_cell BK374.out 2).trans rfl⟩ (fun hHeld => ?_)
   generalize w44.drew = w45 at HO0_0 HO378 BK374 BK375 HB hHeld ⊢
   refine pure_ (i := 0) (N := some 53) (v := ?_) (a' := ?_) #[true, false, false, false, false] rfl rfl (by kernel_rfl) (fun _ _ _ h => h) (Or.inl ⟨by rfl, ?_⟩) ?_ ?_
   rotate_left
   ·
    intro w'
    go_simp
    with_reducible rfl
   rotate_left
   ·
    simp only [Act.put, List.setIfInBounds_toArray, List.set_cons_zero, List.set_cons_succ, i64_w, i32_w]
    rfl
   refine take_ (i := 1) (N := some 54) (v := ?_) (a' := ?_) #[true, true, false, false, false] rfl rfl (by kernel_rfl) (fun _ _ _ h => h) (Or.inl ⟨by rfl, ?_⟩) hHeld ?_ ?_
   rotate_left
   ·
    rintro w' ⟨s0, s1, s2⟩
    go_simp
    with_reducible rfl
   rotate_left
   ·
    simp only [Act.put, List.setIfInBounds_toArray, List.set_cons_zero, List.set_cons_succ, i64_w, i32_w]
    rfl
   refine pure_ (i := 3) (N := some 4) (v := ?_) (a' := ?_) #[true, true, false, true, false] rfl rfl (by kernel_rfl) (fun _ _ _ h => h) (Or.inl ⟨by rfl, ?_⟩) ?_ ?_
   rotate_left
   ·
    intro w'
    go_simp
    with_reducible rfl
   rotate_left
   ·
    simp only [Act.put, List.setIfInBounds_toArray, List.set_cons_zero, List.set_cons_succ, i64_w, i32_w]
    rfl
   refine take_ (i := 2) (N := some 55) (v := ?_) (a' := ?_) #[true, true, true, true, false] rfl rfl (by kernel_rfl) (fun _ _ _ h => h) (Or.inl ⟨by rfl, ?_⟩) hHeld ?_ ?_
   rotate_left
   ·
    rintro w' ⟨s0, s1, s2⟩
    go_simp
    with_reducible rfl
   rotate_left
   ·
    simp only [Act.put, List.setIfInBounds_toArray, List.set_cons_zero, List.set_cons_succ, i64_w, i32_w]
    rfl
   refine one_ (i := 4) (N := none) #[true, true, true, true, true] rfl rfl (by kernel_rfl) (by decide) (fun K hK => ?_)
   have hs46 : w45.cell? ⟨gb375, 0, none⟩ = some (.slice none 0 0) := (blk_cell BK375.out 0).trans rfl
   have hfs46 := blk_frozen BK375.out 0
   have hns46_0 := NB374_375.out
   have hms46_0 := NB375_374.out
   have hs47 : w45.cell? ⟨gb375, 1, none⟩ = some (.int .i64 0) := (blk_cell BK375.out 1).trans rfl
   have hfs47 := blk_frozen BK375.out 1
   have hns47_0 := NB374_375.out
   have hms47_0 := NB375_374.out
   have hs48 : w45.cell? ⟨gb375, 2, none⟩ = some (.int .i64 0) := (blk_cell BK375.out 2).trans rfl
   have hfs48 := blk_frozen BK375.out 2
   have hns48_0 := NB374_375.out
   have hms48_0 := NB375_374.out
   refine skip_ (w1 := ?_) (by rfl) rfl ?_ ?_
   rotate_left
   ·
    go_simp
    rfl
   refine hK.out _ _ ⟨((cell_far (p := ⟨gb375, _, none⟩) NB374_375.out _).trans (((cell_far (p := ⟨gb375, _, none⟩) NB374_375.out _).trans (((cell_far (p := ⟨gb375, _, none⟩) NB374_375.out _).trans (hHeld.1)))))), ((cell_far (p := ⟨gb375, _, none⟩) NB374_375.out _).trans (((cell_far (p := ⟨gb375, _, none⟩) NB374_375.out _).trans (((cell_far (p := ⟨gb375, _, none⟩) NB374_375.out _).trans (hHeld.2.1)))))), ((cell_far (p := ⟨gb375, _, none⟩) NB374_375.out _).trans (((cell_far (p := ⟨gb375, _, none⟩) NB374_375.out _).trans (((cell_far (p := ⟨gb375, _, none⟩) NB374_375.out _).trans (hHeld.2.2))))))⟩ (fun hHeld => ?_)
   clear hK K
   refine done_ (by kernel_rfl) ?_
   try go_wp2
   refine bodyPost_ret (results_tc rfl _ _ gb375 58 #[.slice A0_0 l0_0.length c0_0, .int .i64 a0_1, .int .i64 t383] (0, 0) _ rfl (by (with_reducible repeat (first | refine blk_drewN ?_ _ | refine blk_drew ?_ | refine blk_alloc ?_ _)); refine blk_put (cs := #[.slice A0_0 l0_0.length c0_0, .int .i64 a0_1, .int .i64 0]) ?_ 2 _ rfl; (with_reducible repeat (first | refine blk_drewN ?_ _ | refine blk_drew ?_ | refine blk_alloc ?_ _)); refine blk_put (cs := #[.slice A0_0 l0_0.length c0_0, .int .i64 0, .int .i64 0]) ?_ 1 _ rfl; (with_reducible repeat (first | refine blk_drewN ?_ _ | refine blk_drew ?_ | refine blk_alloc ?_ _)); refine blk_put (cs := #[.slice none 0 0, .int .i64 0, .int .i64 0]) ?_ 0 _ rfl; (with_reducible repeat (first | refine blk_drewN ?_ _ | refine blk_drew ?_ | refine blk_alloc ?_ _)); exact BK375.out) Tryd.underlying58 rfl (by kernel_rfl)) rfl ?_
   exact ⟨_, by first | rfl | (simp [errW_none, errW_some] <;> rfl) | (simp [*, errW_none, errW_some] <;> rfl), by (with_reducible repeat (first | apply Kd.V_alloc | apply Kd.V_drewN | apply Kd.V_drew)); exact Kd.V_mono (Kd.V_far (p := ⟨gb375, 2, none⟩) (Kd.V_far (p := ⟨gb375, 1, none⟩) (Kd.V_far (p := ⟨gb375, 0, none⟩) (Kd.V_mono HO0_0.out (fun k_ hk => (⟨hk, hk.2.2.2⟩ : _ ∧ k_ ≠ gb375))) (fun _ hk => hk.2) (.slice A0_0 l0_0.length c0_0)) (fun _ hk => hk.2) (.int .i64 a0_1)) (fun _ hk => hk.2) (.int .i64 t383)) (fun _ hk => hk.1.1), by repeat (first | (with_reducible first | exact HB.out | apply below_alloc | apply pw_below_drewN | apply below_drew1 | refine below_set ?_ GE374.out | refine below_set ?_ GE375.out) | exact HB.out)⟩
def pick_Start.f (l0 : List Int) : Option (List Int × Int × Int) := if ([] : List Int).length + l0.length < 17592186044416 then (some ((([] : List Int) ++ l0), 0, (-1))) else (none)
set_option maxHeartbeats 8000000 in
set_option maxRecDepth 100000 in
theorem pick_Start.calls (A0 : Option Addr) (c0 : Nat) (l0 : List Int) (r1 : List Int) (r2 : Int) (r3 : Int) (w : World) (hr0 : Kd.C (Kd.int .i64) w A0 l0.length l0) (hc0 : l0.length ≤ c0) (h : pick_Start.f l0 = some (r1, r2, r3)) :
 Calls Tryd.prog 23 #[.slice A0 l0.length c0] w fun e w' => ∃ v0_ : Value, e = .returned (.agg #[v0_, .int .i64 r2, .int .i64 r3]) ∧ Kd.R (Kd.int .i64) 3 w' w.heap.size (fun _ => True) v0_ r1 ∧ Below w.heap.size w w' := by
 have hu58 := Tryd.underlying58
 have HR0 := Aside0.mk hr0
 have HC0 := Aside0.mk hc0
 clear hr0 hc0
 have HB := Aside0.mk (Below.refl w.heap.size w)
 have H : (if ([] : List Int).length + l0.length < 17592186044416 then (some ((([] : List Int) ++ l0), 0, (-1))) else (none)) = some (r1, r2, r3) := h
 clear h
 by_cases c2 : ([] : List Int).length + l0.length < 17592186044416
 ·
  rw [if_pos c2] at H
  have LMc2 := Aside0.mk c2
  clear c2
  obtain ⟨y385, hy385⟩ : ∃ y_ : List Int, y_ = (([] : List Int) ++ l0) := ⟨_, rfl⟩
  replace H : (some (y385, 0, (-1))) = some (r1, r2, r3) := by first | (rw [hy385]; with_reducible exact H) | (have H2_ := (Option.bind_some _ _).symm.trans H; rw [hy385]; with_reducible exact H2_) | (have H2_ := (Option.bind_some _ _).symm.trans H; with_reducible exact H2_) | with_reducible exact H | (rw [hy385]; exact H) | exact H
  have Ny385 := Aside0.mk hy385
  clear hy385
  simp only [Option.some.injEq, Prod.mk.injEq] at H
  obtain ⟨rfl, rfl, rfl⟩ := H
  go_enter Tryd.func23, Tryd.ntmps23
  go_wp2_with (first | ((with_reducible refine gate_dst (N := 2) rfl ?_); refine box_event ?hg (N := 2) ?hd (cs := #[.slice none 0 0, .int .i64 0, .int .i64 0]) (t := 58) ?hr ?_; (case hd => rfl); (case hg => rfl); (case hr => first | (go_simp; done) | (go_simp; rfl)); intro gb384 hg w3 hbox hb; have n0_ := Aside0.mk (below_step (by repeat (first | (with_reducible first | exact HB.out | apply below_alloc | apply pw_below_drewN | apply below_drew1) | exact HB.out)) hb); have n1_ := Aside0.mk (hbox); have n2_ := Aside0.mk ((by rw [hg]; exact (below_size (by repeat (first | (with_reducible first | exact HB.out | apply below_alloc | apply pw_below_drewN | apply below_drew1) | exact HB.out))) : w.heap.size ≤ gb384)); have n3_ := Aside0.mk ((by rw [hg]; exact (below_size (by repeat (first | (with_reducible first | exact HB.out | apply below_alloc | apply pw_below_drewN | apply below_drew1) | exact HB.out))) : w.heap.size ≤ gb384)); clear HB; have HB := n0_; have BK384 := n1_; have GW384 := n2_; have GE384 := n3_; clear n0_ n1_ n2_ n3_; clear hb hbox hg) | ((with_reducible refine gate_builtin (b := .append) (xs := #[.const (.slice none 0 0), .tmp 3]) rfl ?_); at_builtin; refine Kd.R_append_rows (Kd.int .i64) (w0 := w) w.heap.size rfl (.const (.slice none 0 0)) (.tmp 3) 22 3 (.int .i64 0) 8 rfl Tryd.underlying22 info3 rfl (by decide) (by omega) (.slice none 0 0) ([] : List Int) l0 _ _ _ (fun _ => True) (fun _ => False) rfl rfl ?aO ?aR (fun _ _ h => h) (fun _ h => h.elim) ?aF ?aB ?aS ?aL ?_; (case aR => repeat (first | exact (Kd.C_below HR0.out HB.out) | (with_reducible refine Kd.C_alloc ?_ _) | (with_reducible refine Kd.C_drewN ?_ _) | (with_reducible refine Kd.C_drew ?_))); (case aB => exact (by repeat (first | (with_reducible first | exact HB.out | apply below_alloc | apply pw_below_drewN | apply below_drew1 | refine below_set ?_ GE384.out) | exact HB.out))); (case aF => exact (fun _ _ => trivial)); (case aO => exact ((Kd.R_nil _ _ _ _ (fun _ => True)))); (case aS => exact (below_size (by repeat (first | (with_reducible first | exact HB.out | apply below_alloc | apply pw_below_drewN | apply below_drew1 | refine below_set ?_ GE384.out) | exact HB.out)))); (case aL => have := LMc2.out; omega); intro v386 w4 ho hb hg hat; rw [← Ny385.out] at ho; have n0_ := Aside0.mk (blk_grown (g := gb384) (o := .cells #[.slice none 0 0, .int .i64 0, .int .i64 0] 58 (0, 0)) (by (with_reducible repeat (first | refine blk_drewN ?_ _ | refine blk_drew ?_ | refine blk_alloc ?_ _)); exact BK384.out) hg (by simp [Value.ownBlock])); have n1_ := Aside0.mk (hb); have n2_ := Aside0.mk (ho); clear BK384; clear HB; have BK384 := n0_; have HB := n1_; have HO387 := n2_; clear n0_ n1_ n2_; clear ho hb hg hat; obtain ⟨Ao5, co5, eo5⟩ := Kd.R_slice HO387.out; subst eo5; have hcz6_0 : w4.cell? ⟨gb384, 0, none⟩ = some (.slice none 0 0) := (blk_cell BK384.out 0).trans rfl; have hcz6_1 : w4.cell? ⟨gb384, 1, none⟩ = some (.int .i64 0) := (blk_cell BK384.out 1).trans rfl; have hcz6_2 : w4.cell? ⟨gb384, 2, none⟩ = some (.int .i64 0) := (blk_cell BK384.out 2).trans rfl; have hfz6_0 := blk_frozen BK384.out 0; have hfz6_1 := blk_frozen BK384.out 1; have hfz6_2 := blk_frozen BK384.out 2))
  refine bodyPost_ret (results_cell_row rfl _ _ gb384 58 #[.slice Ao5 y385.length co5, .int .i64 0, .int .i64 (-1)] (0, 0) _ rfl (by (with_reducible repeat (first | refine blk_drewN ?_ _ | refine blk_drew ?_ | refine blk_alloc ?_ _)); refine blk_put (cs := #[.slice Ao5 y385.length co5, .int .i64 0, .int .i64 0]) ?_ 2 _ rfl; (with_reducible repeat (first | refine blk_drewN ?_ _ | refine blk_drew ?_ | refine blk_alloc ?_ _)); refine blk_put (cs := #[.slice Ao5 y385.length co5, .int .i64 0, .int .i64 0]) ?_ 1 _ rfl; (with_reducible repeat (first | refine blk_drewN ?_ _ | refine blk_drew ?_ | refine blk_alloc ?_ _)); refine blk_put (cs := #[.slice none 0 0, .int .i64 0, .int .i64 0]) ?_ 0 _ rfl; (with_reducible repeat (first | refine blk_drewN ?_ _ | refine blk_drew ?_ | refine blk_alloc ?_ _)); exact BK384.out) Tryd.underlying58 rfl (by kernel_rfl)) rfl ?_
  exact ⟨_, by first | rfl | (simp [errW_none, errW_some] <;> rfl) | (simp [*, errW_none, errW_some] <;> rfl), by (with_reducible repeat (first | apply Kd.R_alloc | apply Kd.R_drewN | apply Kd.R_drew)); exact Kd.R_mono (Kd.R_far (p := ⟨gb384, 2, none⟩) (Kd.R_far (p := ⟨gb384, 1, none⟩) (Kd.R_far (p := ⟨gb384, 0, none⟩) (Kd.R_types HO387.out BK384.out (by decide)) (fun _ hk => hk.2) (.slice Ao5 y385.length co5)) (fun _ hk => hk.2) (.int .i64 0)) (fun _ hk => hk.2) (.int .i64 (-1))) (fun _ hk => trivial), by repeat (first | (with_reducible first | exact HB.out | apply below_alloc | apply pw_below_drewN | apply below_drew1 | refine below_set ?_ GE384.out) | exact HB.out)⟩
 ·
  rw [if_neg c2] at H
  exact absurd H (by simp)
end Go.Proofs.YtmaiicpaalbcfaaDoor.P
end
section
namespace Go.Proofs.YtmaiicpaalbcfaaDoor
open Go.RowKit
attribute [local go_sem ↓] Go.wp_at_zero Go.wp_at_succ
theorem info3 : (Tryd.prog.info? 3).map (fun i => (i.zero, i.size, i.bytes)) = some (some (.int .i64 0), 1, 8) := by kernel_rfl
def OwnP (l : List Int) (w : World) (e : Ending) (w' : World) : Prop := ∃ v, e = .returned v ∧ w'.ownsRow w.heap.size 3 1 v l.length (ints l) ∧ Below w.heap.size w w'
set_option maxHeartbeats 2000000 in
theorem clone_any (A : Option Addr) (c : Nat) (l : List Int) (w : World) (hr : RowI w A l) (hl : l.length ≤ 65536) : Calls Tryd.prog 47 #[.slice A l.length c] w (OwnP l w) := by
  rcases A with _ | ad
  · have h0 : l = [] := by
      rcases Nat.eq_zero_or_pos l.length with h | h
      · exact List.eq_nil_of_length_eq_zero h
      · obtain ⟨ad, h, _⟩ := hr.2.2 h
        cases h
    clear hr
    subst h0
    have hq := Lib.run_eql_slice_nil_nil (P := Tryd.prog) w 0 c Tryd.underlying22
    go_enter Tryd.func47, Tryd.ntmps47
    go_wp2
    go_ret
    exact ⟨_, rfl, World.ownsRow_nil _ _ _ _, Below.refl _ _⟩
  · have HR := Lib.hid hr
    clear hr
    have hq := Lib.run_eql_slice_some_nil (P := Tryd.prog) w ad l.length c Tryd.underlying22
    go_enter Tryd.func47, Tryd.ntmps47
    go_wp2_with
      (at_builtin
       refine append_row w.heap.size rfl (.tmp 5) (.tmp 6) 22 3 (.int .i64 0) 1 8 rfl Tryd.underlying22 info3 rfl (by omega) (by omega) (.slice (some ⟨w.heap.size, 0, none⟩) 0 0) 0 [] (ints l) (some ad) l.length c rfl rfl (World.ownsRow_lit w #[] 0 (Nat.le_refl _) (by simp [maxLen]) rfl) (by rw [Nat.mul_one]; exact HR.out.kept (below_alloc (Below.refl _ _) _)) (ints_one _) (by simp) (by omega) ?_
       intro v1 w5 hown hg hat
       have HO := Lib.hid hown
       have HB := Lib.hid ((below_alloc (Below.refl w.heap.size w) (.cells #[] 3)).grown hg (by simp) (fun j hj => by simp [Value.ownBlock] at hj; omega))
       clear hown hg hat)
    go_ret
    exact ⟨_, rfl, by have := HO.out; rw [Nat.zero_add, List.nil_append] at this; exact this, HB.out⟩
set_option maxHeartbeats 2000000 in
theorem done_any (t : T) (n : Int) (w : World) : Calls Tryd.prog 49 #[tv t, .int .i64 n] w (TP (finish t n) w) := by
  obtain ⟨k, x, y, s, u, v, ww, r, is, res⟩ := t
  unfold tv
  go_enter Tryd.func49, Tryd.ntmps49
  go_wp2
  go_returns
  exact ⟨rfl, by go_grown⟩
def SetP (base g n cap : Nat) (up' : List Int) (b : Bool) (w : World) (e : Ending) (w' : World) : Prop := e = .returned (.bool b) ∧ w'.ownsRow base 3 1 (.slice (some ⟨g, 0, none⟩) n cap) n (ints up') ∧ w.grownBy w' (some g)
theorem own_lt {w : World} {base g n cap : Nat} {xs : List Value} (h : w.ownsRow base 3 1 (.slice (some ⟨g, 0, none⟩) n cap) n xs) : base ≤ g ∧ g < w.heap.size := h.lt g (by simp [Value.ownBlock])
theorem own_grown {w w' : World} {base n : Nat} {v : Value} {up : List Int} (h : w.ownsRow base 3 1 v n (ints up)) (hb : Below w.heap.size w w') : w'.ownsRow base 3 1 v n (ints up) := own_kept h hb
theorem grown_below {w w' : World} (h : Below w.heap.size w w') (g : Nat) : w.grownBy w' (some g) := grown_of_below h _
theorem set_grown {w w1 : World} {base g n cap : Nat} {up : List Int} (hb : Below w.heap.size w w1) (h : w.ownsRow base 3 1 (.slice (some ⟨g, 0, none⟩) n cap) n (ints up)) (j : Nat) (x : Int) :
    (w1.setCell ⟨g, j, none⟩ (.int .i64 x)).ownsRow base 3 1 (.slice (some ⟨g, 0, none⟩) n cap) n (ints (up.set j x)) ∧ w.grownBy (w1.setCell ⟨g, j, none⟩ (.int .i64 x)) (some g) := by
  have h1 := own_grown h hb
  have h2 := h1.stored j (.int .i64 x)
  rw [ints_set] at h2
  exact ⟨h2.1, (grown_below hb g).trans h2.2⟩
set_option maxHeartbeats 4000000 in
theorem set_any (base g n cap : Nat) (up : List Int) (x : Nat) (was now : Int) (w : World) (hx : x < n) (h : w.ownsRow base 3 1 (.slice (some ⟨g, 0, none⟩) n cap) n (ints up)) :
    Calls Tryd.prog 51 #[.slice (some ⟨g, 0, none⟩) n cap, .agg #[.int .i64 (x : Int), .int .i64 was, .int .i64 now]] w (SetP base g n cap (swapL up x was now) (decide (at_ up x = was)) w) := by
  have HO := Lib.hid h
  have hg := (own_lt h).2
  have c0 := own_cell_int h x hx
  have f0 := h.frozenAt x
  have p1 : (x : Int) < (n : Int) := by omega
  have p0 : (0 : Int) ≤ (x : Int) := by omega
  have HA := Lib.hid (show at_ up x = up.getD x 0 by simp [at_])
  have HSw := Lib.hid (show swapL up x was now = if up.getD x 0 = was then up.set x now else up by simp [swapL, at_])
  obtain ⟨a, ha⟩ : ∃ a, a = up.getD x 0 := ⟨_, rfl⟩
  rw [← ha] at c0 HA HSw
  clear ha h
  by_cases h1 : a = was
  · have q0 : (a == was) = true := by simp [h1]
    rw [if_pos h1] at HSw
    have HV := Lib.hid (show decide (at_ up x = was) = true by rw [HA.out]; simp [h1])
    clear h1
    go_enter Tryd.func51, Tryd.ntmps51
    go_wp2
    go_quiet (fail)
    go_wp2
    go_ret
    refine ⟨ret_bool HV.out.symm, ?_⟩
    rw [HSw.out]
    exact set_grown (below_drewN (by go_grown) _) HO.out x now
  · have q0 : (a == was) = false := by simp [h1]
    rw [if_neg h1] at HSw
    have HV := Lib.hid (show decide (at_ up x = was) = false by rw [HA.out]; simp [h1])
    clear h1
    go_enter Tryd.func51, Tryd.ntmps51
    go_wp2
    go_quiet (fail)
    go_wp2
    go_ret
    refine ⟨ret_bool HV.out.symm, ?_⟩
    rw [HSw.out]
    exact ⟨own_grown HO.out (below_drewN (by go_grown) _), grown_below (below_drewN (by go_grown) _) _⟩
end Go.Proofs.YtmaiicpaalbcfaaDoor
namespace Go.Proofs.YtmaiicpaalbcfaaDoor
open Go.RowKit
attribute [local go_sem ↓] Go.wp_at_zero Go.wp_at_succ
set_option maxHeartbeats 4000000 in
theorem begin_any (k x y n : Int) (w : World) : Calls Tryd.prog 33 #[ov k x y, .int .i64 n] w (BeginP k x y n w) := by
  by_cases h1 : k < 1
  · have q0 : decide (k < 1) = true := by simp [h1]
    have q1 : ¬ 1 ≤ k := by omega
    have HV := Lib.hid (show beginB k x y n = false by simp [beginB, *] <;> omega)
    unfold ov
    go_enter Tryd.func33, Tryd.ntmps33
    go_wp2
    go_returns
    refine ⟨by rw [HV.out, begin_no HV.out]; rfl, ?_⟩
    go_grown
  have q0 : decide (k < 1) = false := by simp [h1]
  by_cases h2 : 3 < k
  · have q1 : decide (3 < k) = true := by simp [h2]
    have q2 : ¬ k ≤ 3 := by omega
    have HV := Lib.hid (show beginB k x y n = false by simp [beginB, *] <;> omega)
    unfold ov
    go_enter Tryd.func33, Tryd.ntmps33
    go_wp2
    go_returns
    refine ⟨by rw [HV.out, begin_no HV.out]; rfl, ?_⟩
    go_grown
  have q1 : decide (3 < k) = false := by simp [h2]
  have k1 : 1 ≤ k := by omega
  have k3 : k ≤ 3 := by omega
  cases tx : thereB n x
  · have TX := Lib.hid tx
    by_cases x0 : 0 ≤ x
    · have x1 : ¬ x < n := by intro h; simp [thereB, x0, h] at tx
      have HV := Lib.hid (show beginB k x y n = false by simp [beginB, *] <;> omega)
      unfold ov
      go_enter Tryd.func33, Tryd.ntmps33
      go_wp2
      go_returns
      refine ⟨by rw [HV.out, begin_no HV.out]; rfl, ?_⟩
      go_grown
    · have x1 : ¬ 0 ≤ x := x0
      have HV := Lib.hid (show beginB k x y n = false by simp [beginB, *] <;> omega)
      unfold ov
      go_enter Tryd.func33, Tryd.ntmps33
      go_wp2
      go_returns
      refine ⟨by rw [HV.out, begin_no HV.out]; rfl, ?_⟩
      go_grown
  have TX := Lib.hid tx
  have x0 : 0 ≤ x := by simp [thereB] at tx; omega
  have x1 : x < n := by simp [thereB] at tx; omega
  by_cases h3 : k = 1
  · subst h3
    have q2 : ((1 : Int) != 1) = false := by simp
    have HV := Lib.hid (show beginB 1 x y n = true by simp [beginB, *] <;> omega)
    unfold ov
    go_enter Tryd.func33, Tryd.ntmps33
    go_wp2
    go_returns
    refine ⟨by rw [HV.out, begin_yes HV.out]; rfl, ?_⟩
    go_grown
  have q2 : (k != 1) = true := by simp [h3]
  cases ty : thereB n y
  · have TY := Lib.hid ty
    by_cases y0 : 0 ≤ y
    · have y1 : ¬ y < n := by intro h; simp [thereB, y0, h] at ty
      have HV := Lib.hid (show beginB k x y n = false by simp [beginB, *] <;> omega)
      unfold ov
      go_enter Tryd.func33, Tryd.ntmps33
      go_wp2
      go_returns
      refine ⟨by rw [HV.out, begin_no HV.out]; rfl, ?_⟩
      go_grown
    · have y1 : ¬ 0 ≤ y := y0
      have HV := Lib.hid (show beginB k x y n = false by simp [beginB, *] <;> omega)
      unfold ov
      go_enter Tryd.func33, Tryd.ntmps33
      go_wp2
      go_returns
      refine ⟨by rw [HV.out, begin_no HV.out]; rfl, ?_⟩
      go_grown
  have TY := Lib.hid ty
  have y0 : 0 ≤ y := by simp [thereB] at ty; omega
  have y1 : y < n := by simp [thereB] at ty; omega
  have HV := Lib.hid (show beginB k x y n = true by simp [beginB, *] <;> omega)
  unfold ov
  go_enter Tryd.func33, Tryd.ntmps33
  go_wp2
  go_returns
  refine ⟨by rw [HV.out, begin_yes HV.out]; rfl, ?_⟩
  go_grown
end Go.Proofs.YtmaiicpaalbcfaaDoor
end
section
namespace Go.Proofs.YtmaiicpaalbcfaaDoor
open Go.RowKit
attribute [local go_sem ↓] Go.wp_at_zero Go.wp_at_succ
def FindP (base g n cap : Nat) (up' : List Int) (t' : T) (w : World) (e : Ending) (w' : World) : Prop := e = .returned (tv t') ∧ w'.ownsRow base 3 1 (.slice (some ⟨g, 0, none⟩) n cap) n (ints up') ∧ w.grownBy w' (some g)
theorem cells10 {W : World} {b : Nat} {t : TypeId} {v0 v1 v2 v3 v4 v5 v6 v7 v8 v9 : Value} (h : W.heap[b]? = some (.cells #[v0, v1, v2, v3, v4, v5, v6, v7, v8, v9] t (0, 0))) :
    W.cell? ⟨b, 0, none⟩ = some v0 ∧ W.cell? ⟨b, 1, none⟩ = some v1 ∧ W.cell? ⟨b, 2, none⟩ = some v2 ∧ W.cell? ⟨b, 3, none⟩ = some v3 ∧ W.cell? ⟨b, 4, none⟩ = some v4 ∧ W.cell? ⟨b, 5, none⟩ = some v5 ∧ W.cell? ⟨b, 6, none⟩ = some v6 ∧ W.cell? ⟨b, 7, none⟩ = some v7 ∧ W.cell? ⟨b, 8, none⟩ = some v8 ∧ W.cell? ⟨b, 9, none⟩ = some v9 ∧ W.frozen? ⟨b, 0, none⟩ = false ∧ W.frozen? ⟨b, 1, none⟩ = false ∧ W.frozen? ⟨b, 2, none⟩ = false ∧ W.frozen? ⟨b, 3, none⟩ = false ∧ W.frozen? ⟨b, 4, none⟩ = false ∧ W.frozen? ⟨b, 5, none⟩ = false ∧ W.frozen? ⟨b, 6, none⟩ = false ∧ W.frozen? ⟨b, 7, none⟩ = false ∧ W.frozen? ⟨b, 8, none⟩ = false ∧ W.frozen? ⟨b, 9, none⟩ = false := by
  simp [World.cell?, World.frozen?, h]
theorem TP.find {base g n cap : Nat} {up : List Int} {t : T} {w w' : World} {e : Ending} (h : w.ownsRow base 3 1 (.slice (some ⟨g, 0, none⟩) n cap) n (ints up)) (ht : TP t w e w') : FindP base g n cap up t w e w' := ⟨ht.1, own_grown h ht.2, grown_below ht.2 g⟩
theorem grown_set {w w' : World} {r : Option Nat} (h : w.grownBy w' r) {p : Addr} (hp : w.heap.size ≤ p.block) (v : Value) : w.grownBy (w'.setCell p v) r :=
  ⟨h.os, h.tape, h.output, by rw [World.size_setCell]; exact h.size, fun k hk hne => (Below.heap_setCell _ _ _ _ (by omega)).trans (h.block k hk hne)⟩
theorem own_set {w : World} {base g n cap : Nat} {xs : List Value} (h : w.ownsRow base 3 1 (.slice (some ⟨g, 0, none⟩) n cap) n xs) {p : Addr} (hp : p.block ≠ g) (v : Value) : (w.setCell p v).ownsRow base 3 1 (.slice (some ⟨g, 0, none⟩) n cap) n xs :=
  h.kept (row := some p.block) ⟨rfl, rfl, rfl, by rw [World.size_setCell]; exact Nat.le_refl _, fun k _ hne => Below.heap_setCell _ _ _ _ (by simpa using hne)⟩ (.inr (by simpa [Value.ownBlock] using hp.symm))
set_option maxRecDepth 100000 in
set_option maxHeartbeats 4000000 in
theorem find1_0e (base g n cap : Nat) (up : List Int) (k x y v ww r res : Int) (is : Bool) (j : Nat) (hl : j < n) (ha : up.getD j 0 = (j : Int)) (w : World) (h : w.ownsRow base 3 1 (.slice (some ⟨g, 0, none⟩) n cap) n (ints up)) :
    Calls Tryd.prog 48 #[.slice (some ⟨g, 0, none⟩) n cap, tv ⟨k, x, y, 1, (j : Int), v, ww, r, is, res⟩, .int .i64 1] w (TP (foundT ⟨k, x, y, 1, (j : Int), v, (j : Int), r, is, res⟩) w) := by
  have hg := (own_lt h).2
  have c0 := own_cell_int h j hl
  rw [ha] at c0
  have p1 : (j : Int) < (n : Int) := by omega
  have p0 : (0 : Int) ≤ (j : Int) := by omega
  clear h ha
  by_cases h2 : k = 1
  · have HV := Lib.hid (show foundT ⟨k, x, y, 1, (j : Int), v, (j : Int), r, is, res⟩ = ⟨k, x, y, 1, (j : Int), v, (j : Int), r, true, (j : Int)⟩ by simp [foundT, firstT, finish, h2])
    have q2 : (k == 1) = true := by simp [h2]
    clear h2
    unfold tv
    go_enter Tryd.func48, Tryd.ntmps48
    go_wp2
    go_quiet (fail)
    go_wp2
    go_returns
    exact ⟨by rw [HV.out]; rfl, by go_grown; refine below_drewN ?_ _; go_grown⟩
  · have HV := Lib.hid (show foundT ⟨k, x, y, 1, (j : Int), v, (j : Int), r, is, res⟩ = ⟨k, x, y, 4, (j : Int), v, (j : Int), r, is, res⟩ by simp [foundT, firstT, h2])
    have q2 : (k == 1) = false := by simp [h2]
    clear h2
    unfold tv
    go_enter Tryd.func48, Tryd.ntmps48
    go_wp2
    go_quiet (fail)
    go_wp2
    go_returns
    exact ⟨by rw [HV.out]; rfl, by go_grown; refine below_drewN ?_ _; go_grown⟩
set_option maxRecDepth 100000 in
set_option maxHeartbeats 4000000 in
theorem find1_0n (base g n cap : Nat) (up : List Int) (k x y v ww r res : Int) (is : Bool) (j : Nat) (a : Int) (hl : j < n) (ha : up.getD j 0 = a) (h1 : ¬ a = (j : Int)) (w : World) (h : w.ownsRow base 3 1 (.slice (some ⟨g, 0, none⟩) n cap) n (ints up)) :
    Calls Tryd.prog 48 #[.slice (some ⟨g, 0, none⟩) n cap, tv ⟨k, x, y, 1, (j : Int), v, ww, r, is, res⟩, .int .i64 1] w (TP (⟨k, x, y, 2, (j : Int), v, a, r, is, res⟩) w) := by
  have hg := (own_lt h).2
  have c0 := own_cell_int h j hl
  rw [ha] at c0
  have p1 : (j : Int) < (n : Int) := by omega
  have p0 : (0 : Int) ≤ (j : Int) := by omega
  clear h ha
  have q0 : (a == (j : Int)) = false := by simp [h1]
  clear h1
  unfold tv
  go_enter Tryd.func48, Tryd.ntmps48
  go_wp2
  go_quiet (fail)
  go_wp2
  
  go_returns
  exact ⟨rfl, by go_grown; refine below_drewN ?_ _; go_grown⟩
set_option maxRecDepth 100000 in
set_option maxHeartbeats 4000000 in
theorem find1_1e (base g n cap : Nat) (up : List Int) (k x y u v r res : Int) (is : Bool) (j : Nat) (hl : j < n) (ha : up.getD j 0 = (j : Int)) (w : World) (h : w.ownsRow base 3 1 (.slice (some ⟨g, 0, none⟩) n cap) n (ints up)) :
    Calls Tryd.prog 48 #[.slice (some ⟨g, 0, none⟩) n cap, tv ⟨k, x, y, 2, u, v, (j : Int), r, is, res⟩, .int .i64 1] w (TP (foundT ⟨k, x, y, 2, (j : Int), v, (j : Int), (j : Int), is, res⟩) w) := by
  have hg := (own_lt h).2
  have c0 := own_cell_int h j hl
  rw [ha] at c0
  have p1 : (j : Int) < (n : Int) := by omega
  have p0 : (0 : Int) ≤ (j : Int) := by omega
  clear h ha
  by_cases h2 : k = 1
  · have HV := Lib.hid (show foundT ⟨k, x, y, 2, (j : Int), v, (j : Int), (j : Int), is, res⟩ = ⟨k, x, y, 2, (j : Int), v, (j : Int), (j : Int), true, (j : Int)⟩ by simp [foundT, firstT, finish, h2])
    have q2 : (k == 1) = true := by simp [h2]
    clear h2
    unfold tv
    go_enter Tryd.func48, Tryd.ntmps48
    go_wp2
    go_returns
    exact ⟨by rw [HV.out]; rfl, by go_grown⟩
  · have HV := Lib.hid (show foundT ⟨k, x, y, 2, (j : Int), v, (j : Int), (j : Int), is, res⟩ = ⟨k, x, y, 4, (j : Int), v, (j : Int), (j : Int), is, res⟩ by simp [foundT, firstT, h2])
    have q2 : (k == 1) = false := by simp [h2]
    clear h2
    unfold tv
    go_enter Tryd.func48, Tryd.ntmps48
    go_wp2
    go_returns
    exact ⟨by rw [HV.out]; rfl, by go_grown⟩
set_option maxRecDepth 100000 in
set_option maxHeartbeats 4000000 in
theorem find1_1n (base g n cap : Nat) (up : List Int) (k x y u v r res : Int) (is : Bool) (j : Nat) (a : Int) (hl : j < n) (ha : up.getD j 0 = a) (h1 : ¬ a = (j : Int)) (w : World) (h : w.ownsRow base 3 1 (.slice (some ⟨g, 0, none⟩) n cap) n (ints up)) :
    Calls Tryd.prog 48 #[.slice (some ⟨g, 0, none⟩) n cap, tv ⟨k, x, y, 2, u, v, (j : Int), r, is, res⟩, .int .i64 1] w (TP (⟨k, x, y, 3, u, v, (j : Int), a, is, res⟩) w) := by
  have hg := (own_lt h).2
  have c0 := own_cell_int h j hl
  rw [ha] at c0
  have p1 : (j : Int) < (n : Int) := by omega
  have p0 : (0 : Int) ≤ (j : Int) := by omega
  clear h ha
  have q0 : (a == (j : Int)) = false := by simp [h1]
  clear h1
  unfold tv
  go_enter Tryd.func48, Tryd.ntmps48
  go_wp2
  
  go_returns
  exact ⟨rfl, by go_grown⟩
set_option maxRecDepth 100000 in
set_option maxHeartbeats 8000000 in
theorem find1_2 (base g n cap : Nat) (up : List Int) (k x y v ww r res : Int) (is : Bool) (j : Nat) (hl : j < n) (w : World) (h : w.ownsRow base 3 1 (.slice (some ⟨g, 0, none⟩) n cap) n (ints up)) :
    Calls Tryd.prog 48 #[.slice (some ⟨g, 0, none⟩) n cap, tv ⟨k, x, y, 3, (j : Int), v, ww, r, is, res⟩, .int .i64 1] w (FindP base g n cap (swapL up j ww r) ⟨k, x, y, 1, ww, v, ww, r, is, res⟩ w) := by
  have hg := (own_lt h).2
  have HO := Lib.hid h
  have p1 : (j : Int) < (n : Int) := by omega
  have p0 : (0 : Int) ≤ (j : Int) := by omega
  clear h
  unfold tv
  go_enter Tryd.func48, Tryd.ntmps48
  go_wp2
  obtain ⟨W, hW⟩ : ∃ W, W = (w.alloc (.cells #[.int .i64 k, .int .i64 x, .int .i64 y, .int .i64 3, .int .i64 (j : Int), .int .i64 v, .int .i64 ww, .int .i64 r, .bool is, .int .i64 res] 63)).alloc (.cells #[.int .i64 0, .int .i64 0, .int .i64 0, .int .i64 0, .int .i64 0, .int .i64 0, .int .i64 0, .int .i64 0, .bool false, .int .i64 0] 63) := ⟨_, rfl⟩
  have B0 := heap_alloc2_old w (.cells #[.int .i64 k, .int .i64 x, .int .i64 y, .int .i64 3, .int .i64 (j : Int), .int .i64 v, .int .i64 ww, .int .i64 r, .bool is, .int .i64 res] 63) (.cells #[.int .i64 0, .int .i64 0, .int .i64 0, .int .i64 0, .int .i64 0, .int .i64 0, .int .i64 0, .int .i64 0, .bool false, .int .i64 0] 63)
  have B1 := heap_alloc2_new w (.cells #[.int .i64 k, .int .i64 x, .int .i64 y, .int .i64 3, .int .i64 (j : Int), .int .i64 v, .int .i64 ww, .int .i64 r, .bool is, .int .i64 res] 63) (.cells #[.int .i64 0, .int .i64 0, .int .i64 0, .int .i64 0, .int .i64 0, .int .i64 0, .int .i64 0, .int .i64 0, .bool false, .int .i64 0] 63)
  have HB : Hid (Below w.heap.size w W) := Lib.hid (by rw [hW]; go_grown)
  have hs2 : W.heap.size = w.heap.size + 2 := by rw [hW]; simp
  rw [← hW] at B0 B1 ⊢
  clear hW
  have HO := Lib.hid (own_grown HO.out HB.out)
  have HG := Lib.hid (grown_below HB.out g)
  have D0 := cells10 B0
  have HB0 := Lib.hid B0
  have HB1 := Lib.hid B1
  clear B0 B1
  obtain ⟨c0, c1, c2, c3, c4, c5, c6, c7, c8, c9, f0, f1, f2, f3, f4, f5, f6, f7, f8, f9⟩ := D0
  go_still_tail 9, (by kernel_rfl)
  change wpList _ _ _ _ _ W.drew
  have HO := Lib.hid (own_grown HO.out (below_drew (Below.refl _ _)))
  clear c0 c1 c2 c3 c4 c5 c6 c7 c8 c9 f0 f1 f2 f3 f4 f5 f6 f7 f8 f9
  have hne : g ≠ w.heap.size := by omega
  have hne1 : g ≠ w.heap.size + 1 := by omega
  go_wp2_with
    (go_at_call 51
     (with_reducible refine (set_any base g n cap up j ww r _ hl HO.out).mono ?_)
     rintro e w' ⟨rfl, hown, hgr⟩
     have HO := Lib.hid hown
     have hgr : W.grownBy w' (some g) := (grown_below (below_drew (Below.refl _ _)) g).trans hgr
     have D0 := cells10 ((hgr.block w.heap.size (by omega) (by simpa using hne.symm)).trans HB0.out)
     have D1 := cells10 ((hgr.block (w.heap.size + 1) (by omega) (by simpa using hne1.symm)).trans HB1.out)
     have HG := Lib.hid (HG.out.trans hgr)
     clear hown hgr
     obtain ⟨c0, c1, c2, c3, c4, c5, c6, c7, c8, c9, f0, f1, f2, f3, f4, f5, f6, f7, f8, f9⟩ := D0
     obtain ⟨d0, d1, d2, d3, d4, d5, d6, d7, d8, d9, e0, e1, e2, e3, e4, e5, e6, e7, e8, e9⟩ := D1)
  refine bodyPost_ret (v := tv ⟨k, x, y, 1, ww, v, ww, r, is, res⟩) (by simp [tv, results, Tryd.results48, go_sem, d0, d1, d2, d3, d4, d5, d6, d7, d8, d9]) rfl ?_
  refine ⟨rfl, ?_, ?_⟩
  · repeat (with_reducible refine own_set ?_ (by simp only; omega) _)
    exact HO.out
  · repeat (with_reducible refine grown_set ?_ (by simp only; omega) _)
    exact HG.out
set_option maxRecDepth 100000 in
set_option maxHeartbeats 4000000 in
theorem find4_0e (base g n cap : Nat) (up : List Int) (k x y u ww r res : Int) (is : Bool) (j : Nat) (hl : j < n) (ha : up.getD j 0 = (j : Int)) (w : World) (h : w.ownsRow base 3 1 (.slice (some ⟨g, 0, none⟩) n cap) n (ints up)) :
    Calls Tryd.prog 48 #[.slice (some ⟨g, 0, none⟩) n cap, tv ⟨k, x, y, 4, u, (j : Int), ww, r, is, res⟩, .int .i64 4] w (TP (foundT ⟨k, x, y, 4, u, (j : Int), (j : Int), r, is, res⟩) w) := by
  have hg := (own_lt h).2
  have c0 := own_cell_int h j hl
  rw [ha] at c0
  have p1 : (j : Int) < (n : Int) := by omega
  have p0 : (0 : Int) ≤ (j : Int) := by omega
  clear h ha
  by_cases h3 : u = (j : Int)
  · have q3 : (u == (j : Int)) = true := by simp [h3]
    by_cases h2 : k = 2
    · have HV := Lib.hid (show foundT ⟨k, x, y, 4, u, (j : Int), (j : Int), r, is, res⟩ = ⟨k, x, y, 4, u, (j : Int), (j : Int), r, true, 1⟩ by simp [foundT, secondT, finish, h2, h3])
      have q2 : (k == 2) = true := by simp [h2]
      clear h2 h3
      unfold tv
      go_enter Tryd.func48, Tryd.ntmps48
      go_wp2
      go_quiet (fail)
      go_wp2
      go_returns
      exact ⟨by rw [HV.out]; rfl, by go_grown; refine below_drewN ?_ _; go_grown⟩
    · have HV := Lib.hid (show foundT ⟨k, x, y, 4, u, (j : Int), (j : Int), r, is, res⟩ = ⟨k, x, y, 4, u, (j : Int), (j : Int), r, true, 0⟩ by simp [foundT, secondT, finish, h2, h3])
      have q2 : (k == 2) = false := by simp [h2]
      clear h2 h3
      unfold tv
      go_enter Tryd.func48, Tryd.ntmps48
      go_wp2
      go_quiet (fail)
      go_wp2
      go_returns
      exact ⟨by rw [HV.out]; rfl, by go_grown; refine below_drewN ?_ _; go_grown⟩
  · have q3 : (u == (j : Int)) = false := by simp [h3]
    by_cases h2 : k = 2
    · have HV := Lib.hid (show foundT ⟨k, x, y, 4, u, (j : Int), (j : Int), r, is, res⟩ = ⟨k, x, y, 7, u, (j : Int), (j : Int), r, is, res⟩ by simp [foundT, secondT, h2, h3])
      have q2 : (k == 2) = true := by simp [h2]
      clear h2 h3
      unfold tv
      go_enter Tryd.func48, Tryd.ntmps48
      go_wp2
      go_quiet (fail)
      go_wp2
      go_returns
      exact ⟨by rw [HV.out]; rfl, by go_grown; refine below_drewN ?_ _; go_grown⟩
    · have HV := Lib.hid (show foundT ⟨k, x, y, 4, u, (j : Int), (j : Int), r, is, res⟩ = ⟨k, x, y, 8, u, (j : Int), (j : Int), r, is, res⟩ by simp [foundT, secondT, h2, h3])
      have q2 : (k == 2) = false := by simp [h2]
      clear h2 h3
      unfold tv
      go_enter Tryd.func48, Tryd.ntmps48
      go_wp2
      go_quiet (fail)
      go_wp2
      go_returns
      exact ⟨by rw [HV.out]; rfl, by go_grown; refine below_drewN ?_ _; go_grown⟩
set_option maxRecDepth 100000 in
set_option maxHeartbeats 4000000 in
theorem find4_0n (base g n cap : Nat) (up : List Int) (k x y u ww r res : Int) (is : Bool) (j : Nat) (a : Int) (hl : j < n) (ha : up.getD j 0 = a) (h1 : ¬ a = (j : Int)) (w : World) (h : w.ownsRow base 3 1 (.slice (some ⟨g, 0, none⟩) n cap) n (ints up)) :
    Calls Tryd.prog 48 #[.slice (some ⟨g, 0, none⟩) n cap, tv ⟨k, x, y, 4, u, (j : Int), ww, r, is, res⟩, .int .i64 4] w (TP (⟨k, x, y, 5, u, (j : Int), a, r, is, res⟩) w) := by
  have hg := (own_lt h).2
  have c0 := own_cell_int h j hl
  rw [ha] at c0
  have p1 : (j : Int) < (n : Int) := by omega
  have p0 : (0 : Int) ≤ (j : Int) := by omega
  clear h ha
  have q0 : (a == (j : Int)) = false := by simp [h1]
  clear h1
  unfold tv
  go_enter Tryd.func48, Tryd.ntmps48
  go_wp2
  go_quiet (fail)
  go_wp2
  
  go_returns
  exact ⟨rfl, by go_grown; refine below_drewN ?_ _; go_grown⟩
set_option maxRecDepth 100000 in
set_option maxHeartbeats 4000000 in
theorem find4_1e (base g n cap : Nat) (up : List Int) (k x y u v r res : Int) (is : Bool) (j : Nat) (hl : j < n) (ha : up.getD j 0 = (j : Int)) (w : World) (h : w.ownsRow base 3 1 (.slice (some ⟨g, 0, none⟩) n cap) n (ints up)) :
    Calls Tryd.prog 48 #[.slice (some ⟨g, 0, none⟩) n cap, tv ⟨k, x, y, 5, u, v, (j : Int), r, is, res⟩, .int .i64 4] w (TP (foundT ⟨k, x, y, 5, u, (j : Int), (j : Int), (j : Int), is, res⟩) w) := by
  have hg := (own_lt h).2
  have c0 := own_cell_int h j hl
  rw [ha] at c0
  have p1 : (j : Int) < (n : Int) := by omega
  have p0 : (0 : Int) ≤ (j : Int) := by omega
  clear h ha
  by_cases h3 : u = (j : Int)
  · have q3 : (u == (j : Int)) = true := by simp [h3]
    by_cases h2 : k = 2
    · have HV := Lib.hid (show foundT ⟨k, x, y, 5, u, (j : Int), (j : Int), (j : Int), is, res⟩ = ⟨k, x, y, 5, u, (j : Int), (j : Int), (j : Int), true, 1⟩ by simp [foundT, secondT, finish, h2, h3])
      have q2 : (k == 2) = true := by simp [h2]
      clear h2 h3
      unfold tv
      go_enter Tryd.func48, Tryd.ntmps48
      go_wp2
      go_returns
      exact ⟨by rw [HV.out]; rfl, by go_grown⟩
    · have HV := Lib.hid (show foundT ⟨k, x, y, 5, u, (j : Int), (j : Int), (j : Int), is, res⟩ = ⟨k, x, y, 5, u, (j : Int), (j : Int), (j : Int), true, 0⟩ by simp [foundT, secondT, finish, h2, h3])
      have q2 : (k == 2) = false := by simp [h2]
      clear h2 h3
      unfold tv
      go_enter Tryd.func48, Tryd.ntmps48
      go_wp2
      go_returns
      exact ⟨by rw [HV.out]; rfl, by go_grown⟩
  · have q3 : (u == (j : Int)) = false := by simp [h3]
    by_cases h2 : k = 2
    · have HV := Lib.hid (show foundT ⟨k, x, y, 5, u, (j : Int), (j : Int), (j : Int), is, res⟩ = ⟨k, x, y, 7, u, (j : Int), (j : Int), (j : Int), is, res⟩ by simp [foundT, secondT, h2, h3])
      have q2 : (k == 2) = true := by simp [h2]
      clear h2 h3
      unfold tv
      go_enter Tryd.func48, Tryd.ntmps48
      go_wp2
      go_returns
      exact ⟨by rw [HV.out]; rfl, by go_grown⟩
    · have HV := Lib.hid (show foundT ⟨k, x, y, 5, u, (j : Int), (j : Int), (j : Int), is, res⟩ = ⟨k, x, y, 8, u, (j : Int), (j : Int), (j : Int), is, res⟩ by simp [foundT, secondT, h2, h3])
      have q2 : (k == 2) = false := by simp [h2]
      clear h2 h3
      unfold tv
      go_enter Tryd.func48, Tryd.ntmps48
      go_wp2
      go_returns
      exact ⟨by rw [HV.out]; rfl, by go_grown⟩
set_option maxRecDepth 100000 in
set_option maxHeartbeats 4000000 in
theorem find4_1n (base g n cap : Nat) (up : List Int) (k x y u v r res : Int) (is : Bool) (j : Nat) (a : Int) (hl : j < n) (ha : up.getD j 0 = a) (h1 : ¬ a = (j : Int)) (w : World) (h : w.ownsRow base 3 1 (.slice (some ⟨g, 0, none⟩) n cap) n (ints up)) :
    Calls Tryd.prog 48 #[.slice (some ⟨g, 0, none⟩) n cap, tv ⟨k, x, y, 5, u, v, (j : Int), r, is, res⟩, .int .i64 4] w (TP (⟨k, x, y, 6, u, v, (j : Int), a, is, res⟩) w) := by
  have hg := (own_lt h).2
  have c0 := own_cell_int h j hl
  rw [ha] at c0
  have p1 : (j : Int) < (n : Int) := by omega
  have p0 : (0 : Int) ≤ (j : Int) := by omega
  clear h ha
  have q0 : (a == (j : Int)) = false := by simp [h1]
  clear h1
  unfold tv
  go_enter Tryd.func48, Tryd.ntmps48
  go_wp2
  
  go_returns
  exact ⟨rfl, by go_grown⟩
set_option maxRecDepth 100000 in
set_option maxHeartbeats 8000000 in
theorem find4_2 (base g n cap : Nat) (up : List Int) (k x y u ww r res : Int) (is : Bool) (j : Nat) (hl : j < n) (w : World) (h : w.ownsRow base 3 1 (.slice (some ⟨g, 0, none⟩) n cap) n (ints up)) :
    Calls Tryd.prog 48 #[.slice (some ⟨g, 0, none⟩) n cap, tv ⟨k, x, y, 6, u, (j : Int), ww, r, is, res⟩, .int .i64 4] w (FindP base g n cap (swapL up j ww r) ⟨k, x, y, 4, u, ww, ww, r, is, res⟩ w) := by
  have hg := (own_lt h).2
  have HO := Lib.hid h
  have p1 : (j : Int) < (n : Int) := by omega
  have p0 : (0 : Int) ≤ (j : Int) := by omega
  clear h
  unfold tv
  go_enter Tryd.func48, Tryd.ntmps48
  go_wp2
  obtain ⟨W, hW⟩ : ∃ W, W = (w.alloc (.cells #[.int .i64 k, .int .i64 x, .int .i64 y, .int .i64 6, .int .i64 u, .int .i64 (j : Int), .int .i64 ww, .int .i64 r, .bool is, .int .i64 res] 63)).alloc (.cells #[.int .i64 0, .int .i64 0, .int .i64 0, .int .i64 0, .int .i64 0, .int .i64 0, .int .i64 0, .int .i64 0, .bool false, .int .i64 0] 63) := ⟨_, rfl⟩
  have B0 := heap_alloc2_old w (.cells #[.int .i64 k, .int .i64 x, .int .i64 y, .int .i64 6, .int .i64 u, .int .i64 (j : Int), .int .i64 ww, .int .i64 r, .bool is, .int .i64 res] 63) (.cells #[.int .i64 0, .int .i64 0, .int .i64 0, .int .i64 0, .int .i64 0, .int .i64 0, .int .i64 0, .int .i64 0, .bool false, .int .i64 0] 63)
  have B1 := heap_alloc2_new w (.cells #[.int .i64 k, .int .i64 x, .int .i64 y, .int .i64 6, .int .i64 u, .int .i64 (j : Int), .int .i64 ww, .int .i64 r, .bool is, .int .i64 res] 63) (.cells #[.int .i64 0, .int .i64 0, .int .i64 0, .int .i64 0, .int .i64 0, .int .i64 0, .int .i64 0, .int .i64 0, .bool false, .int .i64 0] 63)
  have HB : Hid (Below w.heap.size w W) := Lib.hid (by rw [hW]; go_grown)
  have hs2 : W.heap.size = w.heap.size + 2 := by rw [hW]; simp
  rw [← hW] at B0 B1 ⊢
  clear hW
  have HO := Lib.hid (own_grown HO.out HB.out)
  have HG := Lib.hid (grown_below HB.out g)
  have D0 := cells10 B0
  have HB0 := Lib.hid B0
  have HB1 := Lib.hid B1
  clear B0 B1
  obtain ⟨c0, c1, c2, c3, c4, c5, c6, c7, c8, c9, f0, f1, f2, f3, f4, f5, f6, f7, f8, f9⟩ := D0
  go_still_tail 9, (by kernel_rfl)
  change wpList _ _ _ _ _ W.drew
  have HO := Lib.hid (own_grown HO.out (below_drew (Below.refl _ _)))
  clear c0 c1 c2 c3 c4 c5 c6 c7 c8 c9 f0 f1 f2 f3 f4 f5 f6 f7 f8 f9
  have hne : g ≠ w.heap.size := by omega
  have hne1 : g ≠ w.heap.size + 1 := by omega
  go_wp2_with
    (go_at_call 51
     (with_reducible refine (set_any base g n cap up j ww r _ hl HO.out).mono ?_)
     rintro e w' ⟨rfl, hown, hgr⟩
     have HO := Lib.hid hown
     have hgr : W.grownBy w' (some g) := (grown_below (below_drew (Below.refl _ _)) g).trans hgr
     have D0 := cells10 ((hgr.block w.heap.size (by omega) (by simpa using hne.symm)).trans HB0.out)
     have D1 := cells10 ((hgr.block (w.heap.size + 1) (by omega) (by simpa using hne1.symm)).trans HB1.out)
     have HG := Lib.hid (HG.out.trans hgr)
     clear hown hgr
     obtain ⟨c0, c1, c2, c3, c4, c5, c6, c7, c8, c9, f0, f1, f2, f3, f4, f5, f6, f7, f8, f9⟩ := D0
     obtain ⟨d0, d1, d2, d3, d4, d5, d6, d7, d8, d9, e0, e1, e2, e3, e4, e5, e6, e7, e8, e9⟩ := D1)
  refine bodyPost_ret (v := tv ⟨k, x, y, 4, u, ww, ww, r, is, res⟩) (by simp [tv, results, Tryd.results48, go_sem, d0, d1, d2, d3, d4, d5, d6, d7, d8, d9]) rfl ?_
  refine ⟨rfl, ?_, ?_⟩
  · repeat (with_reducible refine own_set ?_ (by simp only; omega) _)
    exact HO.out
  · repeat (with_reducible refine grown_set ?_ (by simp only; omega) _)
    exact HG.out
theorem find_first (base g n cap : Nat) (up p : List Int) (t : T) (hf : Fit n t) (his : t.is = false) (hs : t.s ≤ 3) (w : World) (h : w.ownsRow base 3 1 (.slice (some ⟨g, 0, none⟩) n cap) n (ints up)) :
    Calls Tryd.prog 48 #[.slice (some ⟨g, 0, none⟩) n cap, tv t, .int .i64 1] w (FindP base g n cap (stepL up p t).1 (stepL up p t).2 w) := by
  obtain ⟨k, x, y, s, u, v, ww, r, is, res⟩ := t
  obtain ⟨hk0, hk1, hu, hv, hs0, hs1, hk2, hk7, hk8, hw, hr⟩ := hf
  simp only at his hs hu hv hs0 hw
  subst his
  obtain ⟨j, rfl⟩ := Int.eq_ofNat_of_zero_le hu.1
  have hj : j < n := by have := hu.2; omega
  rcases (show s = 1 ∨ s = 2 ∨ s = 3 by omega) with rfl | rfl | rfl
  · obtain ⟨a, ha⟩ : ∃ a, up.getD j 0 = a := ⟨_, rfl⟩
    by_cases h1 : a = (j : Int)
    · have := (find1_0e base g n cap up k x y v ww r res false j hj (ha.trans h1) w h).mono (fun e w' hh => TP.find h hh)
      simp only [stepL, at_, Int.toNat_natCast, ha]
      simpa [h1, foundT] using this
    · have := (find1_0n base g n cap up k x y v ww r res false j a hj ha h1 w h).mono (fun e w' hh => TP.find h hh)
      simp only [stepL, at_, Int.toNat_natCast, ha]
      simpa [h1] using this
  · have hww := hw (by omega)
    obtain ⟨i, rfl⟩ := Int.eq_ofNat_of_zero_le hww.1
    have hi : i < n := by have := hww.2; omega
    obtain ⟨a, ha⟩ : ∃ a, up.getD i 0 = a := ⟨_, rfl⟩
    by_cases h1 : a = (i : Int)
    · have := (find1_1e base g n cap up k x y (j : Int) v r res false i hi (ha.trans h1) w h).mono (fun e w' hh => TP.find h hh)
      simp only [stepL, at_, Int.toNat_natCast, ha]
      simpa [h1, foundT] using this
    · have := (find1_1n base g n cap up k x y (j : Int) v r res false i a hi ha h1 w h).mono (fun e w' hh => TP.find h hh)
      simp only [stepL, at_, Int.toNat_natCast, ha]
      simpa [h1] using this
  · have := find1_2 base g n cap up k x y v ww r res false j hj w h
    simpa [stepL] using this
theorem find_second (base g n cap : Nat) (up p : List Int) (t : T) (hf : Fit n t) (his : t.is = false) (hs : 4 ≤ t.s) (hs6 : t.s ≤ 6) (w : World) (h : w.ownsRow base 3 1 (.slice (some ⟨g, 0, none⟩) n cap) n (ints up)) :
    Calls Tryd.prog 48 #[.slice (some ⟨g, 0, none⟩) n cap, tv t, .int .i64 4] w (FindP base g n cap (stepL up p t).1 (stepL up p t).2 w) := by
  obtain ⟨k, x, y, s, u, v, ww, r, is, res⟩ := t
  obtain ⟨hk0, hk1, hu, hv, hs0, hs1, hk2, hk7, hk8, hw, hr⟩ := hf
  replace hv := hv (hk2 hs)
  simp only at his hs hs6 hu hv hs0 hw
  subst his
  obtain ⟨j, rfl⟩ := Int.eq_ofNat_of_zero_le hv.1
  have hj : j < n := by have := hv.2; omega
  rcases (show s = 4 ∨ s = 5 ∨ s = 6 by omega) with rfl | rfl | rfl
  · obtain ⟨a, ha⟩ : ∃ a, up.getD j 0 = a := ⟨_, rfl⟩
    by_cases h1 : a = (j : Int)
    · have := (find4_0e base g n cap up k x y u ww r res false j hj (ha.trans h1) w h).mono (fun e w' hh => TP.find h hh)
      simp only [stepL, at_, Int.toNat_natCast, ha]
      simpa [h1, foundT] using this
    · have := (find4_0n base g n cap up k x y u ww r res false j a hj ha h1 w h).mono (fun e w' hh => TP.find h hh)
      simp only [stepL, at_, Int.toNat_natCast, ha]
      simpa [h1] using this
  · have hww := hw (by omega)
    obtain ⟨i, rfl⟩ := Int.eq_ofNat_of_zero_le hww.1
    have hi : i < n := by have := hww.2; omega
    obtain ⟨a, ha⟩ : ∃ a, up.getD i 0 = a := ⟨_, rfl⟩
    by_cases h1 : a = (i : Int)
    · have := (find4_1e base g n cap up k x y u (j : Int) r res false i hi (ha.trans h1) w h).mono (fun e w' hh => TP.find h hh)
      simp only [stepL, at_, Int.toNat_natCast, ha]
      simpa [h1, foundT] using this
    · have := (find4_1n base g n cap up k x y u (j : Int) r res false i a hi ha h1 w h).mono (fun e w' hh => TP.find h hh)
      simp only [stepL, at_, Int.toNat_natCast, ha]
      simpa [h1] using this
  · have := find4_2 base g n cap up k x y u ww r res false j hj w h
    simpa [stepL] using this
end Go.Proofs.YtmaiicpaalbcfaaDoor
end
section
namespace Go.Proofs.YtmaiicpaalbcfaaDoor
open Go.RowKit
attribute [local go_sem ↓] Go.wp_at_zero Go.wp_at_succ
theorem own_pos {w : World} {base n : Nat} {v : Value} {xs : List Value} (h : w.ownsRow base 3 1 v n xs) (hn : 0 < n) : ∃ g cap, v = .slice (some ⟨g, 0, none⟩) n cap ∧ base ≤ g := by
  rcases h.2 with ⟨_, h1⟩ | ⟨g, cap, cur, rfl, hb, _⟩
  · omega
  · exact ⟨g, cap, rfl, hb⟩
theorem swapL_length (up : List Int) (a b c : Int) : (swapL up a b c).length = up.length := by unfold swapL; split <;> simp
theorem stepL_length (up p : List Int) (t : T) : (stepL up p t).1.length = up.length := by
  unfold stepL
  simp only [apply_ite Prod.fst, apply_ite List.length, swapL_length, List.length_set, ite_self]
theorem own_base_to {w : World} {base base' g n cap : Nat} {xs : List Value} (h : w.ownsRow base 3 1 (.slice (some ⟨g, 0, none⟩) n cap) n xs) (hg : base' ≤ g) : w.ownsRow base' 3 1 (.slice (some ⟨g, 0, none⟩) n cap) n xs := by
  refine ⟨h.1, ?_⟩
  rcases h.2 with ⟨h1, _⟩ | ⟨g', cap', cur, h1, _, h3⟩
  · cases h1
  · injection h1 with h1 h2 h4
    injection h1 with h1
    injection h1 with h1
    subst h1
    subst h4
    exact .inr ⟨g, cap, cur, rfl, hg, h3⟩
def StepO (up' : List Int) (t' : T) (w : World) (e : Ending) (w' : World) : Prop := ∃ v, e = .returned (.tuple #[v, tv t']) ∧ w'.ownsRow w.heap.size 3 1 v up'.length (ints up') ∧ Below w.heap.size w w'
theorem StepO.of {base g n cap : Nat} {up' : List Int} {t' : T} {w X : World} (hl : up'.length = n) (ho : X.ownsRow base 3 1 (.slice (some ⟨g, 0, none⟩) n cap) n (ints up')) (hb : Below w.heap.size w X) (hg : w.heap.size ≤ g) : StepO up' t' w (.returned (.tuple #[.slice (some ⟨g, 0, none⟩) n cap, tv t'])) X :=
  ⟨_, rfl, by rw [hl]; exact own_base_to ho hg, hb⟩
theorem own_drew {w : World} {base g n cap : Nat} {xs : List Value} (h : w.ownsRow base 3 1 (.slice (some ⟨g, 0, none⟩) n cap) n xs) : w.drew.ownsRow base 3 1 (.slice (some ⟨g, 0, none⟩) n cap) n xs := own_kept h (below_drew (Below.refl _ _))
def put10 (W : World) (b : Nat) (v0 v1 v2 v3 v4 v5 v6 v7 v8 v9 : Value) : World := (((((((((W.setCell ⟨b, 0, none⟩ v0).setCell ⟨b, 1, none⟩ v1).setCell ⟨b, 2, none⟩ v2).setCell ⟨b, 3, none⟩ v3).setCell ⟨b, 4, none⟩ v4).setCell ⟨b, 5, none⟩ v5).setCell ⟨b, 6, none⟩ v6).setCell ⟨b, 7, none⟩ v7).setCell ⟨b, 8, none⟩ v8).setCell ⟨b, 9, none⟩ v9
theorem put10_block {W : World} {b : Nat} {t : TypeId} {a0 a1 a2 a3 a4 a5 a6 a7 a8 a9 : Value} (h : W.heap[b]? = some (.cells #[a0, a1, a2, a3, a4, a5, a6, a7, a8, a9] t (0, 0))) (v0 v1 v2 v3 v4 v5 v6 v7 v8 v9 : Value) : (put10 W b v0 v1 v2 v3 v4 v5 v6 v7 v8 v9).heap[b]? = some (.cells #[v0, v1, v2, v3, v4, v5, v6, v7, v8, v9] t (0, 0)) := by
  have h0 := heap_setCell_same _ b 0 _ _ v0 h
  have h1 := heap_setCell_same _ b 1 _ _ v1 h0
  have h2 := heap_setCell_same _ b 2 _ _ v2 h1
  have h3 := heap_setCell_same _ b 3 _ _ v3 h2
  have h4 := heap_setCell_same _ b 4 _ _ v4 h3
  have h5 := heap_setCell_same _ b 5 _ _ v5 h4
  have h6 := heap_setCell_same _ b 6 _ _ v6 h5
  have h7 := heap_setCell_same _ b 7 _ _ v7 h6
  have h8 := heap_setCell_same _ b 8 _ _ v8 h7
  have h9 := heap_setCell_same _ b 9 _ _ v9 h8
  simp only [List.setIfInBounds_toArray, List.set_cons_zero, List.set_cons_succ] at h9
  exact h9
theorem put10_other (W : World) {b k : Nat} (hk : k ≠ b) (v0 v1 v2 v3 v4 v5 v6 v7 v8 v9 : Value) : (put10 W b v0 v1 v2 v3 v4 v5 v6 v7 v8 v9).heap[k]? = W.heap[k]? := by
  unfold put10
  iterate 10 rw [Below.heap_setCell _ _ _ _ hk]
theorem put10_own {W : World} {base g n cap b : Nat} {xs : List Value} (h : W.ownsRow base 3 1 (.slice (some ⟨g, 0, none⟩) n cap) n xs) (hb : b ≠ g) (v0 v1 v2 v3 v4 v5 v6 v7 v8 v9 : Value) : (put10 W b v0 v1 v2 v3 v4 v5 v6 v7 v8 v9).ownsRow base 3 1 (.slice (some ⟨g, 0, none⟩) n cap) n xs := by
  unfold put10
  iterate 10 with_reducible refine own_set ?_ hb _
  exact h
theorem put10_below {B b : Nat} {w W : World} (h : Below B w W) (hb : B ≤ b) (v0 v1 v2 v3 v4 v5 v6 v7 v8 v9 : Value) : Below B w (put10 W b v0 v1 v2 v3 v4 v5 v6 v7 v8 v9) := by
  unfold put10
  iterate 10 with_reducible refine Below.setCell ?_ hb _
  exact h
set_option maxRecDepth 100000 in
set_option maxHeartbeats 8000000 in
theorem step_is (A B : Option Addr) (c d : Nat) (up p : List Int) (t : T) (w : World) (hr : RowI w A up) (hs : RowI w B p) (hl : up.length = p.length) (hlong : up.length ≤ 65536) (hpos : 0 < up.length) (hf : Fit up.length t) (his : t.is = true) : Calls Tryd.prog 38 #[.slice A up.length c, .slice B p.length d, tv t] w (StepO (stepL up p t).1 (stepL up p t).2 w) := by
  obtain ⟨k, x, y, s, u, v, ww, r, is, res⟩ := t
  have HF := Lib.hid hf
  have HL := Lib.hid hl
  have HR := Lib.hid hr
  have HP := Lib.hid hs
  clear hf hr hs hl
  simp only at his
  subst his
  rw [show stepL up p ⟨k, x, y, s, u, v, ww, r, true, res⟩ = (up, ⟨k, x, y, s, u, v, ww, r, true, res⟩) by simp [stepL]]
  unfold tv
  go_enter Tryd.func38, Tryd.ntmps38
  go_wp2_with fail
  have B0 := heap_alloc2_old w (.cells #[.int .i64 k, .int .i64 x, .int .i64 y, .int .i64 s, .int .i64 u, .int .i64 v, .int .i64 ww, .int .i64 r, .bool true, .int .i64 res] 63) (.cells #[.int .i64 0, .int .i64 0, .int .i64 0, .int .i64 0, .int .i64 0, .int .i64 0, .int .i64 0, .int .i64 0, .bool false, .int .i64 0] 63)
  have B1 := heap_alloc2_new w (.cells #[.int .i64 k, .int .i64 x, .int .i64 y, .int .i64 s, .int .i64 u, .int .i64 v, .int .i64 ww, .int .i64 r, .bool true, .int .i64 res] 63) (.cells #[.int .i64 0, .int .i64 0, .int .i64 0, .int .i64 0, .int .i64 0, .int .i64 0, .int .i64 0, .int .i64 0, .bool false, .int .i64 0] 63)
  obtain ⟨W, hW⟩ : ∃ W, W = (w.alloc (.cells #[.int .i64 k, .int .i64 x, .int .i64 y, .int .i64 s, .int .i64 u, .int .i64 v, .int .i64 ww, .int .i64 r, .bool true, .int .i64 res] 63)).alloc (.cells #[.int .i64 0, .int .i64 0, .int .i64 0, .int .i64 0, .int .i64 0, .int .i64 0, .int .i64 0, .int .i64 0, .bool false, .int .i64 0] 63) := ⟨_, rfl⟩
  have HB := Lib.hid (show Below w.heap.size w W by rw [hW]; go_grown)
  have hs2 : W.heap.size = w.heap.size + 2 := by rw [hW]; simp
  rw [← hW] at B0 B1 ⊢
  clear hW
  refine (clone_any A c up W (HR.out.kept HB.out) hlong).mono ?_
  rintro e w1 ⟨v1, rfl, hown, hb⟩
  obtain ⟨g, cap, rfl, hg⟩ := own_pos hown hpos
  have B0 := (hb.block w.heap.size (by omega)).trans B0
  have B1 := (hb.block (w.heap.size + 1) (by omega)).trans B1
  have HB := Lib.hid (below_next HB.out hb HB.out.size)
  have HR := Lib.hid (HR.out.kept HB.out)
  have HP := Lib.hid (HP.out.kept HB.out)
  have HO := Lib.hid hown
  have hgl := (own_lt hown).2
  have hg2 : w.heap.size + 2 ≤ g := by omega
  have hne0 : g ≠ w.heap.size := by omega
  have hne1 : g ≠ w.heap.size + 1 := by omega
  have hz1 := HB.out.size
  have HB0 := Lib.hid B0
  have HB1 := Lib.hid B1
  have D0 := cells10 B0
  have D1 := cells10 B1
  clear hown hb B0 B1 hs2
  obtain ⟨c0, c1, c2, c3, c4, c5, c6, c7, c8, c9, f0, f1, f2, f3, f4, f5, f6, f7, f8, f9⟩ := D0
  obtain ⟨d0, d1, d2, d3, d4, d5, d6, d7, d8, d9, e0, e1, e2, e3, e4, e5, e6, e7, e8, e9⟩ := D1
  go_wp2
  go_region
  go_wp2
  refine bodyPost_ret (v := .tuple #[.slice (some ⟨g, 0, none⟩) up.length cap, tv ⟨k, x, y, s, u, v, ww, r, true, res⟩]) (by simp [tv, results, Tryd.results38, go_sem, d0, d1, d2, d3, d4, d5, d6, d7, d8, d9]) rfl ?_
  refine StepO.of (base := W.heap.size) rfl ?_ ?_ (by omega)
  · (try with_reducible refine own_drew ?_)
    repeat (with_reducible refine own_set ?_ (by simp only; omega) _)
    exact HO.out
  · (try with_reducible refine below_drew ?_)
    repeat (with_reducible refine Below.setCell ?_ (by simp only; omega) _)
    exact HB.out
set_option maxRecDepth 100000 in
set_option maxHeartbeats 8000000 in
theorem step_a (A B : Option Addr) (c d : Nat) (up p : List Int) (t : T) (w : World) (hr : RowI w A up) (hs : RowI w B p) (hl : up.length = p.length) (hlong : up.length ≤ 65536) (hpos : 0 < up.length) (hf : Fit up.length t) (his : t.is = false) (h3 : t.s ≤ 3) : Calls Tryd.prog 38 #[.slice A up.length c, .slice B p.length d, tv t] w (StepO (stepL up p t).1 (stepL up p t).2 w) := by
  obtain ⟨k, x, y, s, u, v, ww, r, is, res⟩ := t
  have HF := Lib.hid hf
  have HL := Lib.hid hl
  have HR := Lib.hid hr
  have HP := Lib.hid hs
  clear hf hr hs hl
  simp only at his h3
  subst his
  have HLL := Lib.hid (stepL_length up p ⟨k, x, y, s, u, v, ww, r, false, res⟩)
  have HC := Lib.hid (fun base g cap w' h => find_first base g up.length cap up p ⟨k, x, y, s, u, v, ww, r, false, res⟩ HF.out rfl h3 w' h)
  obtain ⟨pr, hpr⟩ : ∃ pr, pr = stepL up p ⟨k, x, y, s, u, v, ww, r, false, res⟩ := ⟨_, rfl⟩
  rw [← hpr] at HC HLL ⊢
  clear hpr HF
  obtain ⟨up', ⟨k', x', y', s', u', v', ww', r', is', res'⟩⟩ := pr
  simp only at HLL HC ⊢
  unfold tv at HC
  unfold tv
  go_enter Tryd.func38, Tryd.ntmps38
  go_wp2_with fail
  have B0 := heap_alloc2_old w (.cells #[.int .i64 k, .int .i64 x, .int .i64 y, .int .i64 s, .int .i64 u, .int .i64 v, .int .i64 ww, .int .i64 r, .bool false, .int .i64 res] 63) (.cells #[.int .i64 0, .int .i64 0, .int .i64 0, .int .i64 0, .int .i64 0, .int .i64 0, .int .i64 0, .int .i64 0, .bool false, .int .i64 0] 63)
  have B1 := heap_alloc2_new w (.cells #[.int .i64 k, .int .i64 x, .int .i64 y, .int .i64 s, .int .i64 u, .int .i64 v, .int .i64 ww, .int .i64 r, .bool false, .int .i64 res] 63) (.cells #[.int .i64 0, .int .i64 0, .int .i64 0, .int .i64 0, .int .i64 0, .int .i64 0, .int .i64 0, .int .i64 0, .bool false, .int .i64 0] 63)
  obtain ⟨W, hW⟩ : ∃ W, W = (w.alloc (.cells #[.int .i64 k, .int .i64 x, .int .i64 y, .int .i64 s, .int .i64 u, .int .i64 v, .int .i64 ww, .int .i64 r, .bool false, .int .i64 res] 63)).alloc (.cells #[.int .i64 0, .int .i64 0, .int .i64 0, .int .i64 0, .int .i64 0, .int .i64 0, .int .i64 0, .int .i64 0, .bool false, .int .i64 0] 63) := ⟨_, rfl⟩
  have HB := Lib.hid (show Below w.heap.size w W by rw [hW]; go_grown)
  have hs2 : W.heap.size = w.heap.size + 2 := by rw [hW]; simp
  rw [← hW] at B0 B1 ⊢
  clear hW
  refine (clone_any A c up W (HR.out.kept HB.out) hlong).mono ?_
  rintro e w1 ⟨v1, rfl, hown, hb⟩
  obtain ⟨g, cap, rfl, hg⟩ := own_pos hown hpos
  have B0 := (hb.block w.heap.size (by omega)).trans B0
  have B1 := (hb.block (w.heap.size + 1) (by omega)).trans B1
  have HB := Lib.hid (below_next HB.out hb HB.out.size)
  have HR := Lib.hid (HR.out.kept HB.out)
  have HP := Lib.hid (HP.out.kept HB.out)
  have HO := Lib.hid hown
  have hgl := (own_lt hown).2
  have hg2 : w.heap.size + 2 ≤ g := by omega
  have hne0 : g ≠ w.heap.size := by omega
  have hne1 : g ≠ w.heap.size + 1 := by omega
  have hz1 := HB.out.size
  have HB0 := Lib.hid B0
  have HB1 := Lib.hid B1
  have D0 := cells10 B0
  have D1 := cells10 B1
  clear hown hb B0 B1 hs2
  obtain ⟨c0, c1, c2, c3, c4, c5, c6, c7, c8, c9, f0, f1, f2, f3, f4, f5, f6, f7, f8, f9⟩ := D0
  obtain ⟨d0, d1, d2, d3, d4, d5, d6, d7, d8, d9, e0, e1, e2, e3, e4, e5, e6, e7, e8, e9⟩ := D1
  have q1 : decide (s ≤ 3) = true := by simp [h3]
  have HC := Lib.hid (HC.out _ g cap w1 HO.out)
  clear h3
  go_wp2_with fail
  refine HC.out.mono ?_
  rintro e w2 ⟨he, hown, hgr⟩
  simp only [tv] at he
  subst he
  have HO := Lib.hid hown
  have hbb : w1.heap.size ≤ w2.heap.size := hgr.size
  have HB := Lib.hid (HB.out.grown hgr hz1 (fun j hj => by injection hj with hj; omega))
  have HB0 := Lib.hid ((hgr.block w.heap.size (by omega) (by simpa using hne0.symm)).trans HB0.out)
  have HB1 := Lib.hid ((hgr.block (w.heap.size + 1) (by omega) (by simpa using hne1.symm)).trans HB1.out)
  have D0 := cells10 HB0.out
  clear hown hgr c0 c1 c2 c3 c4 c5 c6 c7 c8 c9 f0 f1 f2 f3 f4 f5 f6 f7 f8 f9 d0 d1 d2 d3 d4 d5 d6 d7 d8 d9 e0 e1 e2 e3 e4 e5 e6 e7 e8 e9
  obtain ⟨c0, c1, c2, c3, c4, c5, c6, c7, c8, c9, f0, f1, f2, f3, f4, f5, f6, f7, f8, f9⟩ := D0
  go_wp2
  clear c0 c1 c2 c3 c4 c5 c6 c7 c8 c9 f0 f1 f2 f3 f4 f5 f6 f7 f8 f9
  obtain ⟨W3, hW3⟩ : ∃ W3, W3 = put10 w2 w.heap.size (.int .i64 k') (.int .i64 x') (.int .i64 y') (.int .i64 s') (.int .i64 u') (.int .i64 v') (.int .i64 ww') (.int .i64 r') (.bool is') (.int .i64 res') := ⟨_, rfl⟩
  have D0 := cells10 (put10_block HB0.out (.int .i64 k') (.int .i64 x') (.int .i64 y') (.int .i64 s') (.int .i64 u') (.int .i64 v') (.int .i64 ww') (.int .i64 r') (.bool is') (.int .i64 res'))
  have D1 := cells10 ((put10_other w2 (show w.heap.size + 1 ≠ w.heap.size by omega) (.int .i64 k') (.int .i64 x') (.int .i64 y') (.int .i64 s') (.int .i64 u') (.int .i64 v') (.int .i64 ww') (.int .i64 r') (.bool is') (.int .i64 res')).trans HB1.out)
  have HO := Lib.hid (put10_own HO.out hne0.symm (.int .i64 k') (.int .i64 x') (.int .i64 y') (.int .i64 s') (.int .i64 u') (.int .i64 v') (.int .i64 ww') (.int .i64 r') (.bool is') (.int .i64 res'))
  have HB := Lib.hid (put10_below HB.out (Nat.le_refl _) (.int .i64 k') (.int .i64 x') (.int .i64 y') (.int .i64 s') (.int .i64 u') (.int .i64 v') (.int .i64 ww') (.int .i64 r') (.bool is') (.int .i64 res'))
  rw [← hW3] at D0 D1 HO HB
  unfold put10 at hW3
  rw [← hW3]
  clear hW3
  obtain ⟨c0, c1, c2, c3, c4, c5, c6, c7, c8, c9, f0, f1, f2, f3, f4, f5, f6, f7, f8, f9⟩ := D0
  obtain ⟨d0, d1, d2, d3, d4, d5, d6, d7, d8, d9, e0, e1, e2, e3, e4, e5, e6, e7, e8, e9⟩ := D1
  go_region
  go_wp2
  refine bodyPost_ret (v := .tuple #[.slice (some ⟨g, 0, none⟩) up.length cap, tv ⟨k', x', y', s', u', v', ww', r', is', res'⟩]) (by simp [tv, results, Tryd.results38, go_sem, d0, d1, d2, d3, d4, d5, d6, d7, d8, d9]) rfl ?_
  refine StepO.of (base := W.heap.size) HLL.out ?_ ?_ (by omega)
  · (try with_reducible refine own_drew ?_)
    repeat (with_reducible refine own_set ?_ (by simp only; omega) _)
    exact HO.out
  · (try with_reducible refine below_drew ?_)
    repeat (with_reducible refine Below.setCell ?_ (by simp only; omega) _)
    exact HB.out
set_option maxRecDepth 100000 in
set_option maxHeartbeats 8000000 in
theorem step_b (A B : Option Addr) (c d : Nat) (up p : List Int) (t : T) (w : World) (hr : RowI w A up) (hs : RowI w B p) (hl : up.length = p.length) (hlong : up.length ≤ 65536) (hpos : 0 < up.length) (hf : Fit up.length t) (his : t.is = false) (h4 : 4 ≤ t.s) (h6 : t.s ≤ 6) : Calls Tryd.prog 38 #[.slice A up.length c, .slice B p.length d, tv t] w (StepO (stepL up p t).1 (stepL up p t).2 w) := by
  obtain ⟨k, x, y, s, u, v, ww, r, is, res⟩ := t
  have HF := Lib.hid hf
  have HL := Lib.hid hl
  have HR := Lib.hid hr
  have HP := Lib.hid hs
  clear hf hr hs hl
  simp only at his h4 h6
  subst his
  have HLL := Lib.hid (stepL_length up p ⟨k, x, y, s, u, v, ww, r, false, res⟩)
  have HC := Lib.hid (fun base g cap w' h => find_second base g up.length cap up p ⟨k, x, y, s, u, v, ww, r, false, res⟩ HF.out rfl h4 h6 w' h)
  obtain ⟨pr, hpr⟩ : ∃ pr, pr = stepL up p ⟨k, x, y, s, u, v, ww, r, false, res⟩ := ⟨_, rfl⟩
  rw [← hpr] at HC HLL ⊢
  clear hpr HF
  obtain ⟨up', ⟨k', x', y', s', u', v', ww', r', is', res'⟩⟩ := pr
  simp only at HLL HC ⊢
  unfold tv at HC
  unfold tv
  go_enter Tryd.func38, Tryd.ntmps38
  go_wp2_with fail
  have B0 := heap_alloc2_old w (.cells #[.int .i64 k, .int .i64 x, .int .i64 y, .int .i64 s, .int .i64 u, .int .i64 v, .int .i64 ww, .int .i64 r, .bool false, .int .i64 res] 63) (.cells #[.int .i64 0, .int .i64 0, .int .i64 0, .int .i64 0, .int .i64 0, .int .i64 0, .int .i64 0, .int .i64 0, .bool false, .int .i64 0] 63)
  have B1 := heap_alloc2_new w (.cells #[.int .i64 k, .int .i64 x, .int .i64 y, .int .i64 s, .int .i64 u, .int .i64 v, .int .i64 ww, .int .i64 r, .bool false, .int .i64 res] 63) (.cells #[.int .i64 0, .int .i64 0, .int .i64 0, .int .i64 0, .int .i64 0, .int .i64 0, .int .i64 0, .int .i64 0, .bool false, .int .i64 0] 63)
  obtain ⟨W, hW⟩ : ∃ W, W = (w.alloc (.cells #[.int .i64 k, .int .i64 x, .int .i64 y, .int .i64 s, .int .i64 u, .int .i64 v, .int .i64 ww, .int .i64 r, .bool false, .int .i64 res] 63)).alloc (.cells #[.int .i64 0, .int .i64 0, .int .i64 0, .int .i64 0, .int .i64 0, .int .i64 0, .int .i64 0, .int .i64 0, .bool false, .int .i64 0] 63) := ⟨_, rfl⟩
  have HB := Lib.hid (show Below w.heap.size w W by rw [hW]; go_grown)
  have hs2 : W.heap.size = w.heap.size + 2 := by rw [hW]; simp
  rw [← hW] at B0 B1 ⊢
  clear hW
  refine (clone_any A c up W (HR.out.kept HB.out) hlong).mono ?_
  rintro e w1 ⟨v1, rfl, hown, hb⟩
  obtain ⟨g, cap, rfl, hg⟩ := own_pos hown hpos
  have B0 := (hb.block w.heap.size (by omega)).trans B0
  have B1 := (hb.block (w.heap.size + 1) (by omega)).trans B1
  have HB := Lib.hid (below_next HB.out hb HB.out.size)
  have HR := Lib.hid (HR.out.kept HB.out)
  have HP := Lib.hid (HP.out.kept HB.out)
  have HO := Lib.hid hown
  have hgl := (own_lt hown).2
  have hg2 : w.heap.size + 2 ≤ g := by omega
  have hne0 : g ≠ w.heap.size := by omega
  have hne1 : g ≠ w.heap.size + 1 := by omega
  have hz1 := HB.out.size
  have HB0 := Lib.hid B0
  have HB1 := Lib.hid B1
  have D0 := cells10 B0
  have D1 := cells10 B1
  clear hown hb B0 B1 hs2
  obtain ⟨c0, c1, c2, c3, c4, c5, c6, c7, c8, c9, f0, f1, f2, f3, f4, f5, f6, f7, f8, f9⟩ := D0
  obtain ⟨d0, d1, d2, d3, d4, d5, d6, d7, d8, d9, e0, e1, e2, e3, e4, e5, e6, e7, e8, e9⟩ := D1
  have q1 : decide (s ≤ 3) = false := by simp; omega
  have q2 : decide (s ≤ 6) = true := by simp [h6]
  have HC := Lib.hid (HC.out _ g cap w1 HO.out)
  clear h4 h6
  go_wp2_with fail
  refine HC.out.mono ?_
  rintro e w2 ⟨he, hown, hgr⟩
  simp only [tv] at he
  subst he
  have HO := Lib.hid hown
  have hbb : w1.heap.size ≤ w2.heap.size := hgr.size
  have HB := Lib.hid (HB.out.grown hgr hz1 (fun j hj => by injection hj with hj; omega))
  have HB0 := Lib.hid ((hgr.block w.heap.size (by omega) (by simpa using hne0.symm)).trans HB0.out)
  have HB1 := Lib.hid ((hgr.block (w.heap.size + 1) (by omega) (by simpa using hne1.symm)).trans HB1.out)
  have D0 := cells10 HB0.out
  clear hown hgr c0 c1 c2 c3 c4 c5 c6 c7 c8 c9 f0 f1 f2 f3 f4 f5 f6 f7 f8 f9 d0 d1 d2 d3 d4 d5 d6 d7 d8 d9 e0 e1 e2 e3 e4 e5 e6 e7 e8 e9
  obtain ⟨c0, c1, c2, c3, c4, c5, c6, c7, c8, c9, f0, f1, f2, f3, f4, f5, f6, f7, f8, f9⟩ := D0
  go_wp2
  clear c0 c1 c2 c3 c4 c5 c6 c7 c8 c9 f0 f1 f2 f3 f4 f5 f6 f7 f8 f9
  obtain ⟨W3, hW3⟩ : ∃ W3, W3 = put10 w2 w.heap.size (.int .i64 k') (.int .i64 x') (.int .i64 y') (.int .i64 s') (.int .i64 u') (.int .i64 v') (.int .i64 ww') (.int .i64 r') (.bool is') (.int .i64 res') := ⟨_, rfl⟩
  have D0 := cells10 (put10_block HB0.out (.int .i64 k') (.int .i64 x') (.int .i64 y') (.int .i64 s') (.int .i64 u') (.int .i64 v') (.int .i64 ww') (.int .i64 r') (.bool is') (.int .i64 res'))
  have D1 := cells10 ((put10_other w2 (show w.heap.size + 1 ≠ w.heap.size by omega) (.int .i64 k') (.int .i64 x') (.int .i64 y') (.int .i64 s') (.int .i64 u') (.int .i64 v') (.int .i64 ww') (.int .i64 r') (.bool is') (.int .i64 res')).trans HB1.out)
  have HO := Lib.hid (put10_own HO.out hne0.symm (.int .i64 k') (.int .i64 x') (.int .i64 y') (.int .i64 s') (.int .i64 u') (.int .i64 v') (.int .i64 ww') (.int .i64 r') (.bool is') (.int .i64 res'))
  have HB := Lib.hid (put10_below HB.out (Nat.le_refl _) (.int .i64 k') (.int .i64 x') (.int .i64 y') (.int .i64 s') (.int .i64 u') (.int .i64 v') (.int .i64 ww') (.int .i64 r') (.bool is') (.int .i64 res'))
  rw [← hW3] at D0 D1 HO HB
  unfold put10 at hW3
  rw [← hW3]
  clear hW3
  obtain ⟨c0, c1, c2, c3, c4, c5, c6, c7, c8, c9, f0, f1, f2, f3, f4, f5, f6, f7, f8, f9⟩ := D0
  obtain ⟨d0, d1, d2, d3, d4, d5, d6, d7, d8, d9, e0, e1, e2, e3, e4, e5, e6, e7, e8, e9⟩ := D1
  go_region
  go_wp2
  refine bodyPost_ret (v := .tuple #[.slice (some ⟨g, 0, none⟩) up.length cap, tv ⟨k', x', y', s', u', v', ww', r', is', res'⟩]) (by simp [tv, results, Tryd.results38, go_sem, d0, d1, d2, d3, d4, d5, d6, d7, d8, d9]) rfl ?_
  refine StepO.of (base := W.heap.size) HLL.out ?_ ?_ (by omega)
  · (try with_reducible refine own_drew ?_)
    repeat (with_reducible refine own_set ?_ (by simp only; omega) _)
    exact HO.out
  · (try with_reducible refine below_drew ?_)
    repeat (with_reducible refine Below.setCell ?_ (by simp only; omega) _)
    exact HB.out
set_option maxRecDepth 100000 in
set_option maxHeartbeats 2000000 in
theorem step_c1 (A B : Option Addr) (c d : Nat) (up p : List Int) (k x y v ww r res : Int) (j : Nat) (w : World) (hr : RowI w A up) (hs : RowI w B p) (hl : up.length = p.length) (hlong : up.length ≤ 65536) (hpos : 0 < up.length) (hj : j < up.length) (h1 : up.getD j 0 = (j : Int)) : Calls Tryd.prog 38 #[.slice A up.length c, .slice B p.length d, tv ⟨k, x, y, 7, (j : Int), v, ww, r, false, res⟩] w (StepO up ⟨k, x, y, 7, (j : Int), v, (j : Int), r, true, 0⟩ w) := by
  have HH := Lib.hid h1
  clear h1
  have HL := Lib.hid hl
  have HR := Lib.hid hr
  have HP := Lib.hid hs
  clear hr hs hl
  unfold tv
  go_enter Tryd.func38, Tryd.ntmps38
  go_wp2_with fail
  have B0 := heap_alloc2_old w (.cells #[.int .i64 k, .int .i64 x, .int .i64 y, .int .i64 7, .int .i64 (j : Int), .int .i64 v, .int .i64 ww, .int .i64 r, .bool false, .int .i64 res] 63) (.cells #[.int .i64 0, .int .i64 0, .int .i64 0, .int .i64 0, .int .i64 0, .int .i64 0, .int .i64 0, .int .i64 0, .bool false, .int .i64 0] 63)
  have B1 := heap_alloc2_new w (.cells #[.int .i64 k, .int .i64 x, .int .i64 y, .int .i64 7, .int .i64 (j : Int), .int .i64 v, .int .i64 ww, .int .i64 r, .bool false, .int .i64 res] 63) (.cells #[.int .i64 0, .int .i64 0, .int .i64 0, .int .i64 0, .int .i64 0, .int .i64 0, .int .i64 0, .int .i64 0, .bool false, .int .i64 0] 63)
  obtain ⟨W, hW⟩ : ∃ W, W = (w.alloc (.cells #[.int .i64 k, .int .i64 x, .int .i64 y, .int .i64 7, .int .i64 (j : Int), .int .i64 v, .int .i64 ww, .int .i64 r, .bool false, .int .i64 res] 63)).alloc (.cells #[.int .i64 0, .int .i64 0, .int .i64 0, .int .i64 0, .int .i64 0, .int .i64 0, .int .i64 0, .int .i64 0, .bool false, .int .i64 0] 63) := ⟨_, rfl⟩
  have HB := Lib.hid (show Below w.heap.size w W by rw [hW]; go_grown)
  have hs2 : W.heap.size = w.heap.size + 2 := by rw [hW]; simp
  rw [← hW] at B0 B1 ⊢
  clear hW
  refine (clone_any A c up W (HR.out.kept HB.out) hlong).mono ?_
  rintro e w1 ⟨v1, rfl, hown, hb⟩
  obtain ⟨g, cap, rfl, hg⟩ := own_pos hown hpos
  have B0 := (hb.block w.heap.size (by omega)).trans B0
  have B1 := (hb.block (w.heap.size + 1) (by omega)).trans B1
  have HB := Lib.hid (below_next HB.out hb HB.out.size)
  have HR := Lib.hid (HR.out.kept HB.out)
  have HP := Lib.hid (HP.out.kept HB.out)
  have HO := Lib.hid hown
  have hgl := (own_lt hown).2
  have hg2 : w.heap.size + 2 ≤ g := by omega
  have hne0 : g ≠ w.heap.size := by omega
  have hne1 : g ≠ w.heap.size + 1 := by omega
  have hz1 := HB.out.size
  have HB0 := Lib.hid B0
  have HB1 := Lib.hid B1
  have D0 := cells10 B0
  have D1 := cells10 B1
  clear hown hb B0 B1 hs2
  obtain ⟨c0, c1, c2, c3, c4, c5, c6, c7, c8, c9, f0, f1, f2, f3, f4, f5, f6, f7, f8, f9⟩ := D0
  obtain ⟨d0, d1, d2, d3, d4, d5, d6, d7, d8, d9, e0, e1, e2, e3, e4, e5, e6, e7, e8, e9⟩ := D1
  have c00 := own_cell_int HO.out j hj
  rw [HH.out] at c00
  have p0 : (0 : Int) ≤ (j : Int) := by omega
  have p1 : (j : Int) < (up.length : Int) := by omega
  go_wp2_with fail
  have hd := (done_any ⟨k, x, y, 7, (j : Int), v, (j : Int), r, false, res⟩ 0 (w1.setCell ⟨w.heap.size, 6, none⟩ (.int .i64 (j : Int))))
  simp only [tv] at hd
  refine hd.mono ?_
  clear hd
  rintro e w2 ⟨he, hb⟩
  simp only [tv, finish] at he
  subst he
  have HO := Lib.hid (own_kept (own_set HO.out (p := ⟨w.heap.size, 6, none⟩) hne0.symm _) hb)
  have hz : (w1.setCell ⟨w.heap.size, 6, none⟩ (.int .i64 (j : Int))).heap.size = w1.heap.size := World.size_setCell ..
  have D1 := cells10 ((hb.block (w.heap.size + 1) (by omega)).trans ((Below.heap_setCell _ _ _ _ (by simp)).trans HB1.out))
  have HB := Lib.hid (below_next (HB.out.setCell (p := ⟨w.heap.size, 6, none⟩) (Nat.le_refl _) _) hb (by omega))
  clear hb c00 c0 c1 c2 c3 c4 c5 c6 c7 c8 c9 f0 f1 f2 f3 f4 f5 f6 f7 f8 f9 d0 d1 d2 d3 d4 d5 d6 d7 d8 d9 e0 e1 e2 e3 e4 e5 e6 e7 e8 e9
  obtain ⟨d0, d1, d2, d3, d4, d5, d6, d7, d8, d9, e0, e1, e2, e3, e4, e5, e6, e7, e8, e9⟩ := D1
  go_wp2
  refine bodyPost_ret (v := .tuple #[.slice (some ⟨g, 0, none⟩) up.length cap, tv ⟨k, x, y, 7, (j : Int), v, (j : Int), r, true, 0⟩]) (by simp [tv, results, Tryd.results38, go_sem, d0, d1, d2, d3, d4, d5, d6, d7, d8, d9]) rfl ?_
  refine StepO.of (base := W.heap.size) rfl ?_ ?_ (by omega)
  · skip
    repeat (with_reducible refine own_set ?_ (by simp only; omega) _)
    exact HO.out
  · skip
    repeat (with_reducible refine Below.setCell ?_ (by simp only; omega) _)
    exact HB.out
set_option maxRecDepth 100000 in
set_option maxHeartbeats 2000000 in
theorem step_c2 (A B : Option Addr) (c d : Nat) (up p : List Int) (k x y v ww r res : Int) (j : Nat) (w : World) (hr : RowI w A up) (hs : RowI w B p) (hl : up.length = p.length) (hlong : up.length ≤ 65536) (hpos : 0 < up.length) (hj : j < up.length) (a : Int) (ha : up.getD j 0 = a) (h1 : ¬ a = (j : Int)) : Calls Tryd.prog 38 #[.slice A up.length c, .slice B p.length d, tv ⟨k, x, y, 7, (j : Int), v, ww, r, false, res⟩] w (StepO up ⟨k, x, y, 1, (j : Int), v, a, r, false, res⟩ w) := by
  have HH := Lib.hid ha
  clear ha
  have HL := Lib.hid hl
  have HR := Lib.hid hr
  have HP := Lib.hid hs
  clear hr hs hl
  unfold tv
  go_enter Tryd.func38, Tryd.ntmps38
  go_wp2_with fail
  have B0 := heap_alloc2_old w (.cells #[.int .i64 k, .int .i64 x, .int .i64 y, .int .i64 7, .int .i64 (j : Int), .int .i64 v, .int .i64 ww, .int .i64 r, .bool false, .int .i64 res] 63) (.cells #[.int .i64 0, .int .i64 0, .int .i64 0, .int .i64 0, .int .i64 0, .int .i64 0, .int .i64 0, .int .i64 0, .bool false, .int .i64 0] 63)
  have B1 := heap_alloc2_new w (.cells #[.int .i64 k, .int .i64 x, .int .i64 y, .int .i64 7, .int .i64 (j : Int), .int .i64 v, .int .i64 ww, .int .i64 r, .bool false, .int .i64 res] 63) (.cells #[.int .i64 0, .int .i64 0, .int .i64 0, .int .i64 0, .int .i64 0, .int .i64 0, .int .i64 0, .int .i64 0, .bool false, .int .i64 0] 63)
  obtain ⟨W, hW⟩ : ∃ W, W = (w.alloc (.cells #[.int .i64 k, .int .i64 x, .int .i64 y, .int .i64 7, .int .i64 (j : Int), .int .i64 v, .int .i64 ww, .int .i64 r, .bool false, .int .i64 res] 63)).alloc (.cells #[.int .i64 0, .int .i64 0, .int .i64 0, .int .i64 0, .int .i64 0, .int .i64 0, .int .i64 0, .int .i64 0, .bool false, .int .i64 0] 63) := ⟨_, rfl⟩
  have HB := Lib.hid (show Below w.heap.size w W by rw [hW]; go_grown)
  have hs2 : W.heap.size = w.heap.size + 2 := by rw [hW]; simp
  rw [← hW] at B0 B1 ⊢
  clear hW
  refine (clone_any A c up W (HR.out.kept HB.out) hlong).mono ?_
  rintro e w1 ⟨v1, rfl, hown, hb⟩
  obtain ⟨g, cap, rfl, hg⟩ := own_pos hown hpos
  have B0 := (hb.block w.heap.size (by omega)).trans B0
  have B1 := (hb.block (w.heap.size + 1) (by omega)).trans B1
  have HB := Lib.hid (below_next HB.out hb HB.out.size)
  have HR := Lib.hid (HR.out.kept HB.out)
  have HP := Lib.hid (HP.out.kept HB.out)
  have HO := Lib.hid hown
  have hgl := (own_lt hown).2
  have hg2 : w.heap.size + 2 ≤ g := by omega
  have hne0 : g ≠ w.heap.size := by omega
  have hne1 : g ≠ w.heap.size + 1 := by omega
  have hz1 := HB.out.size
  have HB0 := Lib.hid B0
  have HB1 := Lib.hid B1
  have D0 := cells10 B0
  have D1 := cells10 B1
  clear hown hb B0 B1 hs2
  obtain ⟨c0, c1, c2, c3, c4, c5, c6, c7, c8, c9, f0, f1, f2, f3, f4, f5, f6, f7, f8, f9⟩ := D0
  obtain ⟨d0, d1, d2, d3, d4, d5, d6, d7, d8, d9, e0, e1, e2, e3, e4, e5, e6, e7, e8, e9⟩ := D1
  have c00 := own_cell_int HO.out j hj
  rw [HH.out] at c00
  have p0 : (0 : Int) ≤ (j : Int) := by omega
  have p1 : (j : Int) < (up.length : Int) := by omega
  have t0 : (a == (j : Int)) = false := by simp [h1]
  clear h1
  go_wp2
  go_region
  go_wp2
  refine bodyPost_ret (v := .tuple #[.slice (some ⟨g, 0, none⟩) up.length cap, tv ⟨k, x, y, 1, (j : Int), v, a, r, false, res⟩]) (by simp [tv, results, Tryd.results38, go_sem, d0, d1, d2, d3, d4, d5, d6, d7, d8, d9]) rfl ?_
  refine StepO.of (base := W.heap.size) rfl ?_ ?_ (by omega)
  · (try with_reducible refine own_drew ?_)
    repeat (with_reducible refine own_set ?_ (by simp only; omega) _)
    exact HO.out
  · (try with_reducible refine below_drew ?_)
    repeat (with_reducible refine Below.setCell ?_ (by simp only; omega) _)
    exact HB.out
set_option maxRecDepth 100000 in
set_option maxHeartbeats 2000000 in
theorem step_d00 (A B : Option Addr) (c d : Nat) (up p : List Int) (k x y ww r res : Int) (j i : Nat) (w : World) (hr : RowI w A up) (hs : RowI w B p) (hl : up.length = p.length) (hlong : up.length ≤ 65536) (hpos : 0 < up.length) (hj : j < up.length) (hi : i < up.length) (hb : belowB p j i = false) (h1 : ¬ up.getD i 0 = (i : Int)) : Calls Tryd.prog 38 #[.slice A up.length c, .slice B p.length d, tv ⟨k, x, y, 8, (j : Int), (i : Int), ww, r, false, res⟩] w (StepO up ⟨k, x, y, 1, (j : Int), (i : Int), ww, r, false, res⟩ w) := by
  have HBL := Lib.hid hb
  have he1 : ¬ at_ up (i : Int) = (i : Int) := by unfold at_; simpa using h1
  have HSW := Lib.hid (show swapL up (i : Int) (i : Int) (j : Int) = up by rw [swapL, if_neg he1])
  have HDE := Lib.hid (show decide (at_ up (i : Int) = (i : Int)) = false by exact decide_eq_false he1)
  have HJ := Lib.hid (show j < p.length by omega)
  have HI := Lib.hid (show i < p.length by omega)
  clear hb h1 he1
  have HL := Lib.hid hl
  have HR := Lib.hid hr
  have HP := Lib.hid hs
  clear hr hs hl
  unfold tv
  go_enter Tryd.func38, Tryd.ntmps38
  go_wp2_with fail
  have B0 := heap_alloc2_old w (.cells #[.int .i64 k, .int .i64 x, .int .i64 y, .int .i64 8, .int .i64 (j : Int), .int .i64 (i : Int), .int .i64 ww, .int .i64 r, .bool false, .int .i64 res] 63) (.cells #[.int .i64 0, .int .i64 0, .int .i64 0, .int .i64 0, .int .i64 0, .int .i64 0, .int .i64 0, .int .i64 0, .bool false, .int .i64 0] 63)
  have B1 := heap_alloc2_new w (.cells #[.int .i64 k, .int .i64 x, .int .i64 y, .int .i64 8, .int .i64 (j : Int), .int .i64 (i : Int), .int .i64 ww, .int .i64 r, .bool false, .int .i64 res] 63) (.cells #[.int .i64 0, .int .i64 0, .int .i64 0, .int .i64 0, .int .i64 0, .int .i64 0, .int .i64 0, .int .i64 0, .bool false, .int .i64 0] 63)
  obtain ⟨W, hW⟩ : ∃ W, W = (w.alloc (.cells #[.int .i64 k, .int .i64 x, .int .i64 y, .int .i64 8, .int .i64 (j : Int), .int .i64 (i : Int), .int .i64 ww, .int .i64 r, .bool false, .int .i64 res] 63)).alloc (.cells #[.int .i64 0, .int .i64 0, .int .i64 0, .int .i64 0, .int .i64 0, .int .i64 0, .int .i64 0, .int .i64 0, .bool false, .int .i64 0] 63) := ⟨_, rfl⟩
  have HB := Lib.hid (show Below w.heap.size w W by rw [hW]; go_grown)
  have hs2 : W.heap.size = w.heap.size + 2 := by rw [hW]; simp
  rw [← hW] at B0 B1 ⊢
  clear hW
  refine (clone_any A c up W (HR.out.kept HB.out) hlong).mono ?_
  rintro e w1 ⟨v1, rfl, hown, hb⟩
  obtain ⟨g, cap, rfl, hg⟩ := own_pos hown hpos
  have B0 := (hb.block w.heap.size (by omega)).trans B0
  have B1 := (hb.block (w.heap.size + 1) (by omega)).trans B1
  have HB := Lib.hid (below_next HB.out hb HB.out.size)
  have HR := Lib.hid (HR.out.kept HB.out)
  have HP := Lib.hid (HP.out.kept HB.out)
  have HO := Lib.hid hown
  have hgl := (own_lt hown).2
  have hg2 : w.heap.size + 2 ≤ g := by omega
  have hne0 : g ≠ w.heap.size := by omega
  have hne1 : g ≠ w.heap.size + 1 := by omega
  have hz1 := HB.out.size
  have HB0 := Lib.hid B0
  have HB1 := Lib.hid B1
  have D0 := cells10 B0
  have D1 := cells10 B1
  clear hown hb B0 B1 hs2
  obtain ⟨c0, c1, c2, c3, c4, c5, c6, c7, c8, c9, f0, f1, f2, f3, f4, f5, f6, f7, f8, f9⟩ := D0
  obtain ⟨d0, d1, d2, d3, d4, d5, d6, d7, d8, d9, e0, e1, e2, e3, e4, e5, e6, e7, e8, e9⟩ := D1
  have hlt0 : w.heap.size < w1.heap.size := by omega
  have hlt1 : w.heap.size + 1 < w1.heap.size := by omega
  have hz2 : w.heap.size + 2 ≤ w1.heap.size := by omega
  go_wp2_with fail
  refine (below_any B d p j i _ (HP.out.kept (below_alloc (Below.refl _ _) _)) HJ.out HI.out).mono ?_
  rintro e w2 ⟨rfl, q, hq⟩
  rw [HBL.out]
  subst hq
  go_wp2_with fail
  obtain ⟨X, hX⟩ : ∃ X, X = (w1.alloc (.cells #[.int .i64 (i : Int), .int .i64 (i : Int), .int .i64 (j : Int)] 103)).drewN q := ⟨_, rfl⟩
  have hBX : Below w1.heap.size w1 X := by
    rw [hX]
    exact below_drewN (below_alloc (Below.refl _ _) _) q
  rw [← hX]
  clear hX
  have hc := set_any _ g up.length cap up i (i : Int) (j : Int) X hi (own_kept HO.out hBX)
  rw [HSW.out, HDE.out] at hc
  refine hc.mono ?_
  clear hc
  rintro e w3 ⟨rfl, hown, hgr⟩
  have hgr := (grown_of_below hBX (some g)).trans hgr
  have HO := Lib.hid hown
  have hz3 : w1.heap.size ≤ w3.heap.size := hgr.size
  have HB := Lib.hid (HB.out.grown hgr hz1 (fun j hj => by injection hj with hj; omega))
  have HB0 := Lib.hid ((hgr.block w.heap.size (by omega) (by simpa using hne0.symm)).trans HB0.out)
  have HB1 := Lib.hid ((hgr.block (w.heap.size + 1) (by omega) (by simpa using hne1.symm)).trans HB1.out)
  have D0 := cells10 HB0.out
  have D1 := cells10 HB1.out
  clear hown hgr hBX c0 c1 c2 c3 c4 c5 c6 c7 c8 c9 f0 f1 f2 f3 f4 f5 f6 f7 f8 f9 d0 d1 d2 d3 d4 d5 d6 d7 d8 d9 e0 e1 e2 e3 e4 e5 e6 e7 e8 e9
  obtain ⟨c0, c1, c2, c3, c4, c5, c6, c7, c8, c9, f0, f1, f2, f3, f4, f5, f6, f7, f8, f9⟩ := D0
  obtain ⟨d0, d1, d2, d3, d4, d5, d6, d7, d8, d9, e0, e1, e2, e3, e4, e5, e6, e7, e8, e9⟩ := D1
  go_wp2
  go_region
  go_wp2
  refine bodyPost_ret (v := .tuple #[.slice (some ⟨g, 0, none⟩) up.length cap, tv ⟨k, x, y, 1, (j : Int), (i : Int), ww, r, false, res⟩]) (by simp [tv, results, Tryd.results38, go_sem, d0, d1, d2, d3, d4, d5, d6, d7, d8, d9]) rfl ?_
  refine StepO.of (base := W.heap.size) rfl ?_ ?_ (by omega)
  · (try with_reducible refine own_drew ?_)
    repeat (with_reducible refine own_set ?_ (by simp only; omega) _)
    exact HO.out
  · (try with_reducible refine below_drew ?_)
    repeat (with_reducible refine Below.setCell ?_ (by simp only; omega) _)
    exact HB.out
set_option maxRecDepth 100000 in
set_option maxHeartbeats 2000000 in
theorem step_d01 (A B : Option Addr) (c d : Nat) (up p : List Int) (k x y ww r res : Int) (j i : Nat) (w : World) (hr : RowI w A up) (hs : RowI w B p) (hl : up.length = p.length) (hlong : up.length ≤ 65536) (hpos : 0 < up.length) (hj : j < up.length) (hi : i < up.length) (hb : belowB p j i = false) (h1 : up.getD i 0 = (i : Int)) : Calls Tryd.prog 38 #[.slice A up.length c, .slice B p.length d, tv ⟨k, x, y, 8, (j : Int), (i : Int), ww, r, false, res⟩] w (StepO (up.set i (j : Int)) ⟨k, x, y, 8, (j : Int), (i : Int), ww, r, true, 1⟩ w) := by
  have HBL := Lib.hid hb
  have he1 : at_ up (i : Int) = (i : Int) := by unfold at_; simpa using h1
  have HSW := Lib.hid (show swapL up (i : Int) (i : Int) (j : Int) = (up.set i (j : Int)) by rw [swapL, if_pos he1]; simp)
  have HDE := Lib.hid (show decide (at_ up (i : Int) = (i : Int)) = true by exact decide_eq_true he1)
  have HJ := Lib.hid (show j < p.length by omega)
  have HI := Lib.hid (show i < p.length by omega)
  clear hb h1 he1
  have HL := Lib.hid hl
  have HR := Lib.hid hr
  have HP := Lib.hid hs
  clear hr hs hl
  unfold tv
  go_enter Tryd.func38, Tryd.ntmps38
  go_wp2_with fail
  have B0 := heap_alloc2_old w (.cells #[.int .i64 k, .int .i64 x, .int .i64 y, .int .i64 8, .int .i64 (j : Int), .int .i64 (i : Int), .int .i64 ww, .int .i64 r, .bool false, .int .i64 res] 63) (.cells #[.int .i64 0, .int .i64 0, .int .i64 0, .int .i64 0, .int .i64 0, .int .i64 0, .int .i64 0, .int .i64 0, .bool false, .int .i64 0] 63)
  have B1 := heap_alloc2_new w (.cells #[.int .i64 k, .int .i64 x, .int .i64 y, .int .i64 8, .int .i64 (j : Int), .int .i64 (i : Int), .int .i64 ww, .int .i64 r, .bool false, .int .i64 res] 63) (.cells #[.int .i64 0, .int .i64 0, .int .i64 0, .int .i64 0, .int .i64 0, .int .i64 0, .int .i64 0, .int .i64 0, .bool false, .int .i64 0] 63)
  obtain ⟨W, hW⟩ : ∃ W, W = (w.alloc (.cells #[.int .i64 k, .int .i64 x, .int .i64 y, .int .i64 8, .int .i64 (j : Int), .int .i64 (i : Int), .int .i64 ww, .int .i64 r, .bool false, .int .i64 res] 63)).alloc (.cells #[.int .i64 0, .int .i64 0, .int .i64 0, .int .i64 0, .int .i64 0, .int .i64 0, .int .i64 0, .int .i64 0, .bool false, .int .i64 0] 63) := ⟨_, rfl⟩
  have HB := Lib.hid (show Below w.heap.size w W by rw [hW]; go_grown)
  have hs2 : W.heap.size = w.heap.size + 2 := by rw [hW]; simp
  rw [← hW] at B0 B1 ⊢
  clear hW
  refine (clone_any A c up W (HR.out.kept HB.out) hlong).mono ?_
  rintro e w1 ⟨v1, rfl, hown, hb⟩
  obtain ⟨g, cap, rfl, hg⟩ := own_pos hown hpos
  have B0 := (hb.block w.heap.size (by omega)).trans B0
  have B1 := (hb.block (w.heap.size + 1) (by omega)).trans B1
  have HB := Lib.hid (below_next HB.out hb HB.out.size)
  have HR := Lib.hid (HR.out.kept HB.out)
  have HP := Lib.hid (HP.out.kept HB.out)
  have HO := Lib.hid hown
  have hgl := (own_lt hown).2
  have hg2 : w.heap.size + 2 ≤ g := by omega
  have hne0 : g ≠ w.heap.size := by omega
  have hne1 : g ≠ w.heap.size + 1 := by omega
  have hz1 := HB.out.size
  have HB0 := Lib.hid B0
  have HB1 := Lib.hid B1
  have D0 := cells10 B0
  have D1 := cells10 B1
  clear hown hb B0 B1 hs2
  obtain ⟨c0, c1, c2, c3, c4, c5, c6, c7, c8, c9, f0, f1, f2, f3, f4, f5, f6, f7, f8, f9⟩ := D0
  obtain ⟨d0, d1, d2, d3, d4, d5, d6, d7, d8, d9, e0, e1, e2, e3, e4, e5, e6, e7, e8, e9⟩ := D1
  have hlt0 : w.heap.size < w1.heap.size := by omega
  have hlt1 : w.heap.size + 1 < w1.heap.size := by omega
  have hz2 : w.heap.size + 2 ≤ w1.heap.size := by omega
  go_wp2_with fail
  refine (below_any B d p j i _ (HP.out.kept (below_alloc (Below.refl _ _) _)) HJ.out HI.out).mono ?_
  rintro e w2 ⟨rfl, q, hq⟩
  rw [HBL.out]
  subst hq
  go_wp2_with fail
  obtain ⟨X, hX⟩ : ∃ X, X = (w1.alloc (.cells #[.int .i64 (i : Int), .int .i64 (i : Int), .int .i64 (j : Int)] 103)).drewN q := ⟨_, rfl⟩
  have hBX : Below w1.heap.size w1 X := by
    rw [hX]
    exact below_drewN (below_alloc (Below.refl _ _) _) q
  rw [← hX]
  clear hX
  have hc := set_any _ g up.length cap up i (i : Int) (j : Int) X hi (own_kept HO.out hBX)
  rw [HSW.out, HDE.out] at hc
  refine hc.mono ?_
  clear hc
  rintro e w3 ⟨rfl, hown, hgr⟩
  have hgr := (grown_of_below hBX (some g)).trans hgr
  have HO := Lib.hid hown
  have hz3 : w1.heap.size ≤ w3.heap.size := hgr.size
  have HB := Lib.hid (HB.out.grown hgr hz1 (fun j hj => by injection hj with hj; omega))
  have HB0 := Lib.hid ((hgr.block w.heap.size (by omega) (by simpa using hne0.symm)).trans HB0.out)
  have HB1 := Lib.hid ((hgr.block (w.heap.size + 1) (by omega) (by simpa using hne1.symm)).trans HB1.out)
  have D0 := cells10 HB0.out
  have D1 := cells10 HB1.out
  clear hown hgr hBX c0 c1 c2 c3 c4 c5 c6 c7 c8 c9 f0 f1 f2 f3 f4 f5 f6 f7 f8 f9 d0 d1 d2 d3 d4 d5 d6 d7 d8 d9 e0 e1 e2 e3 e4 e5 e6 e7 e8 e9
  obtain ⟨c0, c1, c2, c3, c4, c5, c6, c7, c8, c9, f0, f1, f2, f3, f4, f5, f6, f7, f8, f9⟩ := D0
  clear D1
  go_wp2_with fail
  have hd := done_any ⟨k, x, y, 8, (j : Int), (i : Int), ww, r, false, res⟩ 1 w3
  simp only [tv] at hd
  refine hd.mono ?_
  clear hd
  rintro e w4 ⟨he, hb⟩
  simp only [tv, finish] at he
  subst he
  have HO := Lib.hid (own_kept HO.out hb)
  have HB := Lib.hid (below_next HB.out hb HB.out.size)
  have D1 := cells10 ((hb.block (w.heap.size + 1) (by omega)).trans HB1.out)
  clear hb c0 c1 c2 c3 c4 c5 c6 c7 c8 c9 f0 f1 f2 f3 f4 f5 f6 f7 f8 f9
  obtain ⟨d0, d1, d2, d3, d4, d5, d6, d7, d8, d9, e0, e1, e2, e3, e4, e5, e6, e7, e8, e9⟩ := D1
  go_wp2
  refine bodyPost_ret (v := .tuple #[.slice (some ⟨g, 0, none⟩) up.length cap, tv ⟨k, x, y, 8, (j : Int), (i : Int), ww, r, true, 1⟩]) (by simp [tv, results, Tryd.results38, go_sem, d0, d1, d2, d3, d4, d5, d6, d7, d8, d9]) rfl ?_
  refine StepO.of (base := W.heap.size) (by simp) ?_ ?_ (by omega)
  · skip
    repeat (with_reducible refine own_set ?_ (by simp only; omega) _)
    exact HO.out
  · skip
    repeat (with_reducible refine Below.setCell ?_ (by simp only; omega) _)
    exact HB.out
set_option maxRecDepth 100000 in
set_option maxHeartbeats 2000000 in
theorem step_d10 (A B : Option Addr) (c d : Nat) (up p : List Int) (k x y ww r res : Int) (j i : Nat) (w : World) (hr : RowI w A up) (hs : RowI w B p) (hl : up.length = p.length) (hlong : up.length ≤ 65536) (hpos : 0 < up.length) (hj : j < up.length) (hi : i < up.length) (hb : belowB p j i = true) (h1 : ¬ up.getD j 0 = (j : Int)) : Calls Tryd.prog 38 #[.slice A up.length c, .slice B p.length d, tv ⟨k, x, y, 8, (j : Int), (i : Int), ww, r, false, res⟩] w (StepO up ⟨k, x, y, 1, (j : Int), (i : Int), ww, r, false, res⟩ w) := by
  have HBL := Lib.hid hb
  have he1 : ¬ at_ up (j : Int) = (j : Int) := by unfold at_; simpa using h1
  have HSW := Lib.hid (show swapL up (j : Int) (j : Int) (i : Int) = up by rw [swapL, if_neg he1])
  have HDE := Lib.hid (show decide (at_ up (j : Int) = (j : Int)) = false by exact decide_eq_false he1)
  have HJ := Lib.hid (show j < p.length by omega)
  have HI := Lib.hid (show i < p.length by omega)
  clear hb h1 he1
  have HL := Lib.hid hl
  have HR := Lib.hid hr
  have HP := Lib.hid hs
  clear hr hs hl
  unfold tv
  go_enter Tryd.func38, Tryd.ntmps38
  go_wp2_with fail
  have B0 := heap_alloc2_old w (.cells #[.int .i64 k, .int .i64 x, .int .i64 y, .int .i64 8, .int .i64 (j : Int), .int .i64 (i : Int), .int .i64 ww, .int .i64 r, .bool false, .int .i64 res] 63) (.cells #[.int .i64 0, .int .i64 0, .int .i64 0, .int .i64 0, .int .i64 0, .int .i64 0, .int .i64 0, .int .i64 0, .bool false, .int .i64 0] 63)
  have B1 := heap_alloc2_new w (.cells #[.int .i64 k, .int .i64 x, .int .i64 y, .int .i64 8, .int .i64 (j : Int), .int .i64 (i : Int), .int .i64 ww, .int .i64 r, .bool false, .int .i64 res] 63) (.cells #[.int .i64 0, .int .i64 0, .int .i64 0, .int .i64 0, .int .i64 0, .int .i64 0, .int .i64 0, .int .i64 0, .bool false, .int .i64 0] 63)
  obtain ⟨W, hW⟩ : ∃ W, W = (w.alloc (.cells #[.int .i64 k, .int .i64 x, .int .i64 y, .int .i64 8, .int .i64 (j : Int), .int .i64 (i : Int), .int .i64 ww, .int .i64 r, .bool false, .int .i64 res] 63)).alloc (.cells #[.int .i64 0, .int .i64 0, .int .i64 0, .int .i64 0, .int .i64 0, .int .i64 0, .int .i64 0, .int .i64 0, .bool false, .int .i64 0] 63) := ⟨_, rfl⟩
  have HB := Lib.hid (show Below w.heap.size w W by rw [hW]; go_grown)
  have hs2 : W.heap.size = w.heap.size + 2 := by rw [hW]; simp
  rw [← hW] at B0 B1 ⊢
  clear hW
  refine (clone_any A c up W (HR.out.kept HB.out) hlong).mono ?_
  rintro e w1 ⟨v1, rfl, hown, hb⟩
  obtain ⟨g, cap, rfl, hg⟩ := own_pos hown hpos
  have B0 := (hb.block w.heap.size (by omega)).trans B0
  have B1 := (hb.block (w.heap.size + 1) (by omega)).trans B1
  have HB := Lib.hid (below_next HB.out hb HB.out.size)
  have HR := Lib.hid (HR.out.kept HB.out)
  have HP := Lib.hid (HP.out.kept HB.out)
  have HO := Lib.hid hown
  have hgl := (own_lt hown).2
  have hg2 : w.heap.size + 2 ≤ g := by omega
  have hne0 : g ≠ w.heap.size := by omega
  have hne1 : g ≠ w.heap.size + 1 := by omega
  have hz1 := HB.out.size
  have HB0 := Lib.hid B0
  have HB1 := Lib.hid B1
  have D0 := cells10 B0
  have D1 := cells10 B1
  clear hown hb B0 B1 hs2
  obtain ⟨c0, c1, c2, c3, c4, c5, c6, c7, c8, c9, f0, f1, f2, f3, f4, f5, f6, f7, f8, f9⟩ := D0
  obtain ⟨d0, d1, d2, d3, d4, d5, d6, d7, d8, d9, e0, e1, e2, e3, e4, e5, e6, e7, e8, e9⟩ := D1
  have hlt0 : w.heap.size < w1.heap.size := by omega
  have hlt1 : w.heap.size + 1 < w1.heap.size := by omega
  have hz2 : w.heap.size + 2 ≤ w1.heap.size := by omega
  go_wp2_with fail
  refine (below_any B d p j i _ (HP.out.kept (below_alloc (Below.refl _ _) _)) HJ.out HI.out).mono ?_
  rintro e w2 ⟨rfl, q, hq⟩
  rw [HBL.out]
  subst hq
  go_wp2_with fail
  obtain ⟨X, hX⟩ : ∃ X, X = ((((w1.alloc (.cells #[.int .i64 (i : Int), .int .i64 (i : Int), .int .i64 (j : Int)] 103)).drewN q).setCell ⟨w1.heap.size, 0, none⟩ (.int .i64 (j : Int))).setCell ⟨w1.heap.size, 1, none⟩ (.int .i64 (j : Int))).setCell ⟨w1.heap.size, 2, none⟩ (.int .i64 (i : Int)) := ⟨_, rfl⟩
  have hBX : Below w1.heap.size w1 X := by
    rw [hX]
    iterate 3 with_reducible refine Below.setCell ?_ (by exact Nat.le_refl _) _
    exact below_drewN (below_alloc (Below.refl _ _) _) q
  rw [← hX]
  clear hX
  have hc := set_any _ g up.length cap up j (j : Int) (i : Int) X hj (own_kept HO.out hBX)
  rw [HSW.out, HDE.out] at hc
  refine hc.mono ?_
  clear hc
  rintro e w3 ⟨rfl, hown, hgr⟩
  have hgr := (grown_of_below hBX (some g)).trans hgr
  have HO := Lib.hid hown
  have hz3 : w1.heap.size ≤ w3.heap.size := hgr.size
  have HB := Lib.hid (HB.out.grown hgr hz1 (fun j hj => by injection hj with hj; omega))
  have HB0 := Lib.hid ((hgr.block w.heap.size (by omega) (by simpa using hne0.symm)).trans HB0.out)
  have HB1 := Lib.hid ((hgr.block (w.heap.size + 1) (by omega) (by simpa using hne1.symm)).trans HB1.out)
  have D0 := cells10 HB0.out
  have D1 := cells10 HB1.out
  clear hown hgr hBX c0 c1 c2 c3 c4 c5 c6 c7 c8 c9 f0 f1 f2 f3 f4 f5 f6 f7 f8 f9 d0 d1 d2 d3 d4 d5 d6 d7 d8 d9 e0 e1 e2 e3 e4 e5 e6 e7 e8 e9
  obtain ⟨c0, c1, c2, c3, c4, c5, c6, c7, c8, c9, f0, f1, f2, f3, f4, f5, f6, f7, f8, f9⟩ := D0
  obtain ⟨d0, d1, d2, d3, d4, d5, d6, d7, d8, d9, e0, e1, e2, e3, e4, e5, e6, e7, e8, e9⟩ := D1
  go_wp2
  go_region
  go_wp2
  refine bodyPost_ret (v := .tuple #[.slice (some ⟨g, 0, none⟩) up.length cap, tv ⟨k, x, y, 1, (j : Int), (i : Int), ww, r, false, res⟩]) (by simp [tv, results, Tryd.results38, go_sem, d0, d1, d2, d3, d4, d5, d6, d7, d8, d9]) rfl ?_
  refine StepO.of (base := W.heap.size) rfl ?_ ?_ (by omega)
  · (try with_reducible refine own_drew ?_)
    repeat (with_reducible refine own_set ?_ (by simp only; omega) _)
    exact HO.out
  · (try with_reducible refine below_drew ?_)
    repeat (with_reducible refine Below.setCell ?_ (by simp only; omega) _)
    exact HB.out
set_option maxRecDepth 100000 in
set_option maxHeartbeats 2000000 in
theorem step_d11 (A B : Option Addr) (c d : Nat) (up p : List Int) (k x y ww r res : Int) (j i : Nat) (w : World) (hr : RowI w A up) (hs : RowI w B p) (hl : up.length = p.length) (hlong : up.length ≤ 65536) (hpos : 0 < up.length) (hj : j < up.length) (hi : i < up.length) (hb : belowB p j i = true) (h1 : up.getD j 0 = (j : Int)) : Calls Tryd.prog 38 #[.slice A up.length c, .slice B p.length d, tv ⟨k, x, y, 8, (j : Int), (i : Int), ww, r, false, res⟩] w (StepO (up.set j (i : Int)) ⟨k, x, y, 8, (j : Int), (i : Int), ww, r, true, 1⟩ w) := by
  have HBL := Lib.hid hb
  have he1 : at_ up (j : Int) = (j : Int) := by unfold at_; simpa using h1
  have HSW := Lib.hid (show swapL up (j : Int) (j : Int) (i : Int) = (up.set j (i : Int)) by rw [swapL, if_pos he1]; simp)
  have HDE := Lib.hid (show decide (at_ up (j : Int) = (j : Int)) = true by exact decide_eq_true he1)
  have HJ := Lib.hid (show j < p.length by omega)
  have HI := Lib.hid (show i < p.length by omega)
  clear hb h1 he1
  have HL := Lib.hid hl
  have HR := Lib.hid hr
  have HP := Lib.hid hs
  clear hr hs hl
  unfold tv
  go_enter Tryd.func38, Tryd.ntmps38
  go_wp2_with fail
  have B0 := heap_alloc2_old w (.cells #[.int .i64 k, .int .i64 x, .int .i64 y, .int .i64 8, .int .i64 (j : Int), .int .i64 (i : Int), .int .i64 ww, .int .i64 r, .bool false, .int .i64 res] 63) (.cells #[.int .i64 0, .int .i64 0, .int .i64 0, .int .i64 0, .int .i64 0, .int .i64 0, .int .i64 0, .int .i64 0, .bool false, .int .i64 0] 63)
  have B1 := heap_alloc2_new w (.cells #[.int .i64 k, .int .i64 x, .int .i64 y, .int .i64 8, .int .i64 (j : Int), .int .i64 (i : Int), .int .i64 ww, .int .i64 r, .bool false, .int .i64 res] 63) (.cells #[.int .i64 0, .int .i64 0, .int .i64 0, .int .i64 0, .int .i64 0, .int .i64 0, .int .i64 0, .int .i64 0, .bool false, .int .i64 0] 63)
  obtain ⟨W, hW⟩ : ∃ W, W = (w.alloc (.cells #[.int .i64 k, .int .i64 x, .int .i64 y, .int .i64 8, .int .i64 (j : Int), .int .i64 (i : Int), .int .i64 ww, .int .i64 r, .bool false, .int .i64 res] 63)).alloc (.cells #[.int .i64 0, .int .i64 0, .int .i64 0, .int .i64 0, .int .i64 0, .int .i64 0, .int .i64 0, .int .i64 0, .bool false, .int .i64 0] 63) := ⟨_, rfl⟩
  have HB := Lib.hid (show Below w.heap.size w W by rw [hW]; go_grown)
  have hs2 : W.heap.size = w.heap.size + 2 := by rw [hW]; simp
  rw [← hW] at B0 B1 ⊢
  clear hW
  refine (clone_any A c up W (HR.out.kept HB.out) hlong).mono ?_
  rintro e w1 ⟨v1, rfl, hown, hb⟩
  obtain ⟨g, cap, rfl, hg⟩ := own_pos hown hpos
  have B0 := (hb.block w.heap.size (by omega)).trans B0
  have B1 := (hb.block (w.heap.size + 1) (by omega)).trans B1
  have HB := Lib.hid (below_next HB.out hb HB.out.size)
  have HR := Lib.hid (HR.out.kept HB.out)
  have HP := Lib.hid (HP.out.kept HB.out)
  have HO := Lib.hid hown
  have hgl := (own_lt hown).2
  have hg2 : w.heap.size + 2 ≤ g := by omega
  have hne0 : g ≠ w.heap.size := by omega
  have hne1 : g ≠ w.heap.size + 1 := by omega
  have hz1 := HB.out.size
  have HB0 := Lib.hid B0
  have HB1 := Lib.hid B1
  have D0 := cells10 B0
  have D1 := cells10 B1
  clear hown hb B0 B1 hs2
  obtain ⟨c0, c1, c2, c3, c4, c5, c6, c7, c8, c9, f0, f1, f2, f3, f4, f5, f6, f7, f8, f9⟩ := D0
  obtain ⟨d0, d1, d2, d3, d4, d5, d6, d7, d8, d9, e0, e1, e2, e3, e4, e5, e6, e7, e8, e9⟩ := D1
  have hlt0 : w.heap.size < w1.heap.size := by omega
  have hlt1 : w.heap.size + 1 < w1.heap.size := by omega
  have hz2 : w.heap.size + 2 ≤ w1.heap.size := by omega
  go_wp2_with fail
  refine (below_any B d p j i _ (HP.out.kept (below_alloc (Below.refl _ _) _)) HJ.out HI.out).mono ?_
  rintro e w2 ⟨rfl, q, hq⟩
  rw [HBL.out]
  subst hq
  go_wp2_with fail
  obtain ⟨X, hX⟩ : ∃ X, X = ((((w1.alloc (.cells #[.int .i64 (i : Int), .int .i64 (i : Int), .int .i64 (j : Int)] 103)).drewN q).setCell ⟨w1.heap.size, 0, none⟩ (.int .i64 (j : Int))).setCell ⟨w1.heap.size, 1, none⟩ (.int .i64 (j : Int))).setCell ⟨w1.heap.size, 2, none⟩ (.int .i64 (i : Int)) := ⟨_, rfl⟩
  have hBX : Below w1.heap.size w1 X := by
    rw [hX]
    iterate 3 with_reducible refine Below.setCell ?_ (by exact Nat.le_refl _) _
    exact below_drewN (below_alloc (Below.refl _ _) _) q
  rw [← hX]
  clear hX
  have hc := set_any _ g up.length cap up j (j : Int) (i : Int) X hj (own_kept HO.out hBX)
  rw [HSW.out, HDE.out] at hc
  refine hc.mono ?_
  clear hc
  rintro e w3 ⟨rfl, hown, hgr⟩
  have hgr := (grown_of_below hBX (some g)).trans hgr
  have HO := Lib.hid hown
  have hz3 : w1.heap.size ≤ w3.heap.size := hgr.size
  have HB := Lib.hid (HB.out.grown hgr hz1 (fun j hj => by injection hj with hj; omega))
  have HB0 := Lib.hid ((hgr.block w.heap.size (by omega) (by simpa using hne0.symm)).trans HB0.out)
  have HB1 := Lib.hid ((hgr.block (w.heap.size + 1) (by omega) (by simpa using hne1.symm)).trans HB1.out)
  have D0 := cells10 HB0.out
  have D1 := cells10 HB1.out
  clear hown hgr hBX c0 c1 c2 c3 c4 c5 c6 c7 c8 c9 f0 f1 f2 f3 f4 f5 f6 f7 f8 f9 d0 d1 d2 d3 d4 d5 d6 d7 d8 d9 e0 e1 e2 e3 e4 e5 e6 e7 e8 e9
  obtain ⟨c0, c1, c2, c3, c4, c5, c6, c7, c8, c9, f0, f1, f2, f3, f4, f5, f6, f7, f8, f9⟩ := D0
  clear D1
  go_wp2_with fail
  have hd := done_any ⟨k, x, y, 8, (j : Int), (i : Int), ww, r, false, res⟩ 1 w3
  simp only [tv] at hd
  refine hd.mono ?_
  clear hd
  rintro e w4 ⟨he, hb⟩
  simp only [tv, finish] at he
  subst he
  have HO := Lib.hid (own_kept HO.out hb)
  have HB := Lib.hid (below_next HB.out hb HB.out.size)
  have D1 := cells10 ((hb.block (w.heap.size + 1) (by omega)).trans HB1.out)
  clear hb c0 c1 c2 c3 c4 c5 c6 c7 c8 c9 f0 f1 f2 f3 f4 f5 f6 f7 f8 f9
  obtain ⟨d0, d1, d2, d3, d4, d5, d6, d7, d8, d9, e0, e1, e2, e3, e4, e5, e6, e7, e8, e9⟩ := D1
  go_wp2
  refine bodyPost_ret (v := .tuple #[.slice (some ⟨g, 0, none⟩) up.length cap, tv ⟨k, x, y, 8, (j : Int), (i : Int), ww, r, true, 1⟩]) (by simp [tv, results, Tryd.results38, go_sem, d0, d1, d2, d3, d4, d5, d6, d7, d8, d9]) rfl ?_
  refine StepO.of (base := W.heap.size) (by simp) ?_ ?_ (by omega)
  · skip
    repeat (with_reducible refine own_set ?_ (by simp only; omega) _)
    exact HO.out
  · skip
    repeat (with_reducible refine Below.setCell ?_ (by simp only; omega) _)
    exact HB.out
theorem step_own (A B : Option Addr) (c d : Nat) (up p : List Int) (t : T) (w : World) (hr : RowI w A up) (hs : RowI w B p) (hl : up.length = p.length) (hlong : up.length ≤ 65536) (hpos : 0 < up.length) (hf : Fit up.length t) : Calls Tryd.prog 38 #[.slice A up.length c, .slice B p.length d, tv t] w (StepO (stepL up p t).1 (stepL up p t).2 w) := by
  rcases hb : t.is with _ | _
  · by_cases h3 : t.s ≤ 3
    · exact step_a A B c d up p t w hr hs hl hlong hpos hf hb h3
    · by_cases h6 : t.s ≤ 6
      · exact step_b A B c d up p t w hr hs hl hlong hpos hf hb (by omega) h6
      · obtain ⟨k, x, y, s, u, v, ww, r, is, res⟩ := t
        obtain ⟨hk0, hk1, hu, hv, hs0, hs1, hk2, hk7, hk8, hw, hrr⟩ := hf
        replace hv := hv (hk2 (by omega))
        simp only at hb h3 h6 hs1 hu hv
        subst hb
        obtain ⟨j, rfl⟩ := Int.eq_ofNat_of_zero_le hu.1
        obtain ⟨i, rfl⟩ := Int.eq_ofNat_of_zero_le hv.1
        have hj : j < up.length := by have := hu.2; omega
        have hi : i < up.length := by have := hv.2; omega
        have ej : at_ up (j : Int) = up.getD j 0 := by simp [at_]
        have ei : at_ up (i : Int) = up.getD i 0 := by simp [at_]
        rcases (show s = 7 ∨ s = 8 by omega) with rfl | rfl
        · by_cases h1 : up.getD j 0 = (j : Int)
          · have := step_c1 A B c d up p k x y (i : Int) ww r res j w hr hs hl hlong hpos hj h1
            simp only [stepL, ej, h1]
            simpa [finish] using this
          · have := step_c2 A B c d up p k x y (i : Int) ww r res j w hr hs hl hlong hpos hj _ rfl h1
            simp only [stepL, ej, if_neg h1]
            simpa using this
        · rcases hbl : belowB p j i with _ | _
          · by_cases h1 : up.getD i 0 = (i : Int)
            · have := step_d01 A B c d up p k x y ww r res j i w hr hs hl hlong hpos hj hi hbl h1
              simp only [stepL, ei, hbl, h1]
              simpa [finish] using this
            · have := step_d00 A B c d up p k x y ww r res j i w hr hs hl hlong hpos hj hi hbl h1
              simp only [stepL, ei, hbl, if_neg h1]
              simpa using this
          · by_cases h1 : up.getD j 0 = (j : Int)
            · have := step_d11 A B c d up p k x y ww r res j i w hr hs hl hlong hpos hj hi hbl h1
              simp only [stepL, ej, hbl, h1]
              simpa [finish] using this
            · have := step_d10 A B c d up p k x y ww r res j i w hr hs hl hlong hpos hj hi hbl h1
              simp only [stepL, ej, hbl, if_neg h1]
              simpa using this
  · exact step_is A B c d up p t w hr hs hl hlong hpos hf hb
end Go.Proofs.YtmaiicpaalbcfaaDoor
end
section
namespace Go.Proofs.YtmaiicpaalbcfaaDoor
open Go.RowKit Go.Proofs.YtmaiicpaalbcfaaDoorW.PrintWords
instance (n x : Int) : Decidable (In n x) := inferInstanceAs (Decidable (0 ≤ x ∧ x < n))
instance (n : Int) (t : T) : Decidable (Fit n t) :=
  decidable_of_iff (1 ≤ t.k ∧ t.k ≤ 3 ∧ In n t.u ∧ (t.k ≠ 1 → In n t.v) ∧ 1 ≤ t.s ∧ t.s ≤ 8 ∧ (4 ≤ t.s → t.k ≠ 1) ∧ (t.s = 7 → t.k = 2) ∧ (t.s = 8 → t.k = 3) ∧ ((t.s = 2 ∨ t.s = 3 ∨ t.s = 5 ∨ t.s = 6) → In n t.w) ∧ ((t.s = 3 ∨ t.s = 6) → In n t.r))
    ⟨fun ⟨a, b, c, d, e, f, g, h, i, j, k⟩ => ⟨a, b, c, d, e, f, g, h, i, j, k⟩, fun ⟨a, b, c, d, e, f, g, h, i, j, k⟩ => ⟨a, b, c, d, e, f, g, h, i, j, k⟩⟩
def Steps (up p : List Int) (t : T) : Prop := up.length = p.length ∧ up.length ≤ 65536 ∧ 0 < up.length ∧ Fit up.length t
instance (up p : List Int) (t : T) : Decidable (Steps up p t) := inferInstanceAs (Decidable (_ ∧ _ ∧ _ ∧ _))
abbrev TT := Int × Int × Int × Int × Int × Int × Int × Int × Bool × Int
def tt (t : T) : TT := (t.k, t.x, t.y, t.s, t.u, t.v, t.w, t.r, t.is, t.res)
theorem row_of_C {w : World} {A : Option Addr} {l : List Int} (h : Kd.C (Kd.int .i64) w A l.length l) : RowI w A l := by
  have h2 := Kd.reads_of_C (d := (0 : Int)) h
  refine ⟨by rw [ints_length], h2.2.1, fun hn => ?_⟩
  obtain ⟨ad, e, hc⟩ := h2.2.2 hn
  exact ⟨ad, e, fun j hj => by rw [hc j hj, ints_getD l j hj]⟩
theorem R_of_ints {w : World} {base : Nat} {v : Value} {l : List Int} (h : w.ownsRow base 3 1 v l.length (ints l)) : Kd.R (Kd.int .i64) 3 w base (fun _ => True) v l :=
  Kd.R_of_own (enc := Value.int .i64) h fun _ _ => trivial
end Go.Proofs.YtmaiicpaalbcfaaDoor
namespace Go.Proofs.YtmaiicpaalbcfaaDoor.P
open Go.RowKit Go.Proofs.YtmaiicpaalbcfaaDoorW.PrintWords
def cuf_Begin.f (a0_0 : Int) (a0_1 : Int) (a0_2 : Int) (a1 : Int) : Option (Int × Int × Int × Int × Int × Int × Int × Int × Bool × Int × Bool) :=
  some ((beginT a0_0 a0_1 a0_2 a1).k, (beginT a0_0 a0_1 a0_2 a1).x, (beginT a0_0 a0_1 a0_2 a1).y, (beginT a0_0 a0_1 a0_2 a1).s, (beginT a0_0 a0_1 a0_2 a1).u, (beginT a0_0 a0_1 a0_2 a1).v, (beginT a0_0 a0_1 a0_2 a1).w, (beginT a0_0 a0_1 a0_2 a1).r, (beginT a0_0 a0_1 a0_2 a1).is, (beginT a0_0 a0_1 a0_2 a1).res, beginB a0_0 a0_1 a0_2 a1)
theorem cuf_Begin.calls (a0_0 : Int) (a0_1 : Int) (a0_2 : Int) (a1 : Int) (r1 : Int) (r2 : Int) (r3 : Int) (r4 : Int) (r5 : Int) (r6 : Int) (r7 : Int) (r8 : Int) (r9 : Bool) (r10 : Int) (r11 : Bool) (w : World) (h : cuf_Begin.f a0_0 a0_1 a0_2 a1 = some (r1, r2, r3, r4, r5, r6, r7, r8, r9, r10, r11)) :
    Calls Tryd.prog 33 #[.agg #[.int .i64 a0_0, .int .i64 a0_1, .int .i64 a0_2], .int .i64 a1] w fun e w' => e = .returned (.tuple #[.agg #[.int .i64 r1, .int .i64 r2, .int .i64 r3, .int .i64 r4, .int .i64 r5, .int .i64 r6, .int .i64 r7, .int .i64 r8, .bool r9, .int .i64 r10], .bool r11]) ∧ Below w.heap.size w w' := by
  simp only [cuf_Begin.f, Option.some.injEq, Prod.mk.injEq] at h
  obtain ⟨rfl, rfl, rfl, rfl, rfl, rfl, rfl, rfl, rfl, rfl, rfl⟩ := h
  exact (begin_any a0_0 a0_1 a0_2 a1 w).mono fun _ _ h => h
def cuf_Step.f (l0 : List Int) (l1 : List Int) (a2_0 : Int) (a2_1 : Int) (a2_2 : Int) (a2_3 : Int) (a2_4 : Int) (a2_5 : Int) (a2_6 : Int) (a2_7 : Int) (a2_8 : Bool) (a2_9 : Int) : Option (List Int × Int × Int × Int × Int × Int × Int × Int × Int × Bool × Int) :=
  if Steps l0 l1 ⟨a2_0, a2_1, a2_2, a2_3, a2_4, a2_5, a2_6, a2_7, a2_8, a2_9⟩ then some ((stepL l0 l1 ⟨a2_0, a2_1, a2_2, a2_3, a2_4, a2_5, a2_6, a2_7, a2_8, a2_9⟩).1, tt (stepL l0 l1 ⟨a2_0, a2_1, a2_2, a2_3, a2_4, a2_5, a2_6, a2_7, a2_8, a2_9⟩).2) else none
theorem cuf_Step.calls (A0 : Option Addr) (c0 : Nat) (l0 : List Int) (A1 : Option Addr) (c1 : Nat) (l1 : List Int) (a2_0 : Int) (a2_1 : Int) (a2_2 : Int) (a2_3 : Int) (a2_4 : Int) (a2_5 : Int) (a2_6 : Int) (a2_7 : Int) (a2_8 : Bool) (a2_9 : Int) (r1 : List Int) (r2 : Int) (r3 : Int) (r4 : Int) (r5 : Int) (r6 : Int) (r7 : Int) (r8 : Int) (r9 : Int) (r10 : Bool) (r11 : Int) (w : World) (hr0 : Kd.C (Kd.int .i64) w A0 l0.length l0) (_hc0 : l0.length ≤ c0) (hr1 : Kd.C (Kd.int .i64) w A1 l1.length l1) (_hc1 : l1.length ≤ c1) (h : cuf_Step.f l0 l1 a2_0 a2_1 a2_2 a2_3 a2_4 a2_5 a2_6 a2_7 a2_8 a2_9 = some (r1, r2, r3, r4, r5, r6, r7, r8, r9, r10, r11)) :
    Calls Tryd.prog 38 #[.slice A0 l0.length c0, .slice A1 l1.length c1, .agg #[.int .i64 a2_0, .int .i64 a2_1, .int .i64 a2_2, .int .i64 a2_3, .int .i64 a2_4, .int .i64 a2_5, .int .i64 a2_6, .int .i64 a2_7, .bool a2_8, .int .i64 a2_9]] w fun e w' => ∃ v0_ : Value, e = .returned (.tuple #[v0_, .agg #[.int .i64 r2, .int .i64 r3, .int .i64 r4, .int .i64 r5, .int .i64 r6, .int .i64 r7, .int .i64 r8, .int .i64 r9, .bool r10, .int .i64 r11]]) ∧ Kd.R (Kd.int .i64) 3 w' w.heap.size (fun _ => True) v0_ r1 ∧ Below w.heap.size w w' := by
  unfold cuf_Step.f at h
  split at h
  · rename_i hs
    obtain ⟨s1, s2, s3, s4⟩ := hs
    have hc := step_own A0 A1 c0 c1 l0 l1 ⟨a2_0, a2_1, a2_2, a2_3, a2_4, a2_5, a2_6, a2_7, a2_8, a2_9⟩ w (row_of_C hr0) (row_of_C hr1) s1 s2 s3 s4
    generalize stepL l0 l1 ⟨a2_0, a2_1, a2_2, a2_3, a2_4, a2_5, a2_6, a2_7, a2_8, a2_9⟩ = q at *
    obtain ⟨up', ⟨k, x, y, s, u, v, ww, r, is, res⟩⟩ := q
    simp only [tt, Option.some.injEq, Prod.mk.injEq] at h
    obtain ⟨rfl, rfl, rfl, rfl, rfl, rfl, rfl, rfl, rfl, rfl, rfl⟩ := h
    refine hc.mono fun e w' h => ?_
    obtain ⟨v, he, ho, hb⟩ := h
    exact ⟨v, he, R_of_ints ho, hb⟩
  · cases h
end Go.Proofs.YtmaiicpaalbcfaaDoor.P
end
section
namespace Go.Proofs.YtmaiicpaalbcfaaDoor.Bits
theorem and_split {a b r s : Nat} (c : Nat) (hr : r < 2 ^ c) (hs : s < 2 ^ c) : (2 ^ c * a + r) &&& (2 ^ c * b + s) = 2 ^ c * (a &&& b) + (r &&& s) := by
  apply Nat.eq_of_testBit_eq
  intro i
  have hrs : r &&& s < 2 ^ c := Nat.lt_of_le_of_lt Nat.and_le_left hr
  rw [Nat.testBit_and, Nat.testBit_two_pow_mul_add _ hr, Nat.testBit_two_pow_mul_add _ hs, Nat.testBit_two_pow_mul_add _ hrs]
  split
  · rw [Nat.testBit_and]
  · rw [Nat.testBit_and]
def val (k : Nat) : List Nat → Nat
  | [] => 0
  | a :: l => 2 ^ k * val k l + a
theorem digit_sum (k : Nat) : ∀ L : List (Nat × Nat), (∀ p ∈ L, p.1 < 2 ^ k ∧ p.2 < 2 ^ k) →
    (val (2 * k) (L.map fun p => p.1 + 2 ^ k * p.2) &&& val (2 * k) (L.map fun _ => 2 ^ k - 1)) = val (2 * k) (L.map (·.1)) ∧
    (val (2 * k) (L.map fun p => p.1 + 2 ^ k * p.2) / 2 ^ k &&& val (2 * k) (L.map fun _ => 2 ^ k - 1)) = val (2 * k) (L.map (·.2))
  | [], _ => by simp [val]
  | (a, b) :: L, h => by
    obtain ⟨ha, hb⟩ := h (a, b) (by simp)
    simp only at ha hb
    obtain ⟨i1, i2⟩ := digit_sum k L (fun p hp => h p (List.mem_cons_of_mem _ hp))
    have e2 : 2 ^ (2 * k) = 2 ^ k * 2 ^ k := by rw [Nat.two_mul, Nat.pow_add]
    have hp : 0 < 2 ^ k := Nat.two_pow_pos k
    have hab : a + 2 ^ k * b < 2 ^ (2 * k) := by
      rw [e2]
      calc a + 2 ^ k * b < 2 ^ k + 2 ^ k * b := by omega
        _ = 2 ^ k * (b + 1) := by rw [Nat.mul_add]; omega
        _ ≤ 2 ^ k * 2 ^ k := Nat.mul_le_mul_left _ hb
    have hm : 2 ^ k - 1 < 2 ^ (2 * k) := by
      rw [e2]
      have : 2 ^ k ≤ 2 ^ k * 2 ^ k := Nat.le_mul_of_pos_left _ hp
      omega
    have low : ∀ r q : Nat, r < 2 ^ k → (r + 2 ^ k * q) &&& (2 ^ k - 1) = r := by
      intro r q hr
      rw [Nat.and_two_pow_sub_one_eq_mod, Nat.add_mul_mod_self_left, Nat.mod_eq_of_lt hr]
    simp only [List.map_cons, val]
    generalize val (2 * k) (L.map fun p => p.1 + 2 ^ k * p.2) = X at *
    generalize val (2 * k) (L.map fun _ => 2 ^ k - 1) = M at *
    generalize val (2 * k) (L.map (·.1)) = V1 at *
    generalize val (2 * k) (L.map (·.2)) = V2 at *
    constructor
    · rw [and_split (2 * k) hab hm, i1, low a b ha]
    · have e3 : (2 ^ (2 * k) * X + (a + 2 ^ k * b)) / 2 ^ k = 2 ^ (2 * k) * (X / 2 ^ k) + (b + 2 ^ k * (X % 2 ^ k)) := by
        have h1 : 2 ^ (2 * k) * X + (a + 2 ^ k * b) = a + 2 ^ k * (2 ^ k * X + b) := by rw [e2, Nat.mul_assoc, Nat.mul_add]; omega
        rw [h1, Nat.add_mul_div_left _ _ hp, Nat.div_eq_of_lt ha, Nat.zero_add, e2, Nat.mul_assoc]
        have h2 := Nat.div_add_mod X (2 ^ k)
        calc 2 ^ k * X + b = 2 ^ k * (2 ^ k * (X / 2 ^ k) + X % 2 ^ k) + b := by rw [h2]
          _ = 2 ^ k * (2 ^ k * (X / 2 ^ k)) + (b + 2 ^ k * (X % 2 ^ k)) := by rw [Nat.mul_add]; omega
      have hxb : b + 2 ^ k * (X % 2 ^ k) < 2 ^ (2 * k) := by
        have h1 := Nat.mod_lt X hp
        rw [e2]
        calc b + 2 ^ k * (X % 2 ^ k) < 2 ^ k + 2 ^ k * (X % 2 ^ k) := by omega
          _ = 2 ^ k * (X % 2 ^ k + 1) := by rw [Nat.mul_add]; omega
          _ ≤ 2 ^ k * 2 ^ k := Nat.mul_le_mul_left _ h1
      rw [e3, and_split (2 * k) hxb hm, i2, low b _ hb]
theorem val_add (k : Nat) : ∀ L : List (Nat × Nat), val k (L.map (·.1)) + val k (L.map (·.2)) = val k (L.map fun p => p.1 + p.2)
  | [] => rfl
  | p :: L => by
    have := val_add k L
    simp only [List.map_cons, val]
    rw [← this, Nat.mul_add]
    omega
def pr : List Nat → List (Nat × Nat)
  | a :: b :: l => (a, b) :: pr l
  | _ => []
theorem pr_length : ∀ (n : Nat) (l : List Nat), l.length = 2 * n → (pr l).length = n
  | 0, l, h => by
    obtain rfl : l = [] := List.eq_nil_of_length_eq_zero (by omega)
    rfl
  | n + 1, a :: b :: l, h => by
    simp only [List.length_cons] at h
    simp only [pr, List.length_cons, pr_length n l (by omega)]
  | n + 1, [a], h => by simp at h; omega
  | n + 1, [], h => by simp at h
theorem pr_val (k : Nat) : ∀ (n : Nat) (l : List Nat), l.length = 2 * n → val k l = val (2 * k) ((pr l).map fun p => p.1 + 2 ^ k * p.2)
  | 0, l, h => by
    obtain rfl : l = [] := List.eq_nil_of_length_eq_zero (by omega)
    rfl
  | n + 1, a :: b :: l, h => by
    simp only [List.length_cons] at h
    simp only [pr, List.map_cons, val, ← pr_val k n l (by omega)]
    rw [Nat.two_mul k, Nat.pow_add, Nat.mul_add, ← Nat.mul_assoc]
    omega
  | n + 1, [a], h => by simp at h; omega
  | n + 1, [], h => by simp at h
theorem pr_sum : ∀ (n : Nat) (l : List Nat), l.length = 2 * n → ((pr l).map fun p => p.1 + p.2).sum = l.sum
  | 0, l, h => by
    obtain rfl : l = [] := List.eq_nil_of_length_eq_zero (by omega)
    rfl
  | n + 1, a :: b :: l, h => by
    simp only [List.length_cons] at h
    simp only [pr, List.map_cons, List.sum_cons, pr_sum n l (by omega)]
    omega
  | n + 1, [a], h => by simp at h; omega
  | n + 1, [], h => by simp at h
theorem pr_mem : ∀ (l : List Nat) (p : Nat × Nat), p ∈ pr l → p.1 ∈ l ∧ p.2 ∈ l
  | [], p, h => by simp [pr] at h
  | [a], p, h => by simp [pr] at h
  | a :: b :: l, p, h => by
    simp only [pr, List.mem_cons] at h
    rcases h with rfl | h
    · simp
    · have := pr_mem l p h
      exact ⟨by simp [this.1], by simp [this.2]⟩
def half (l : List Nat) : List Nat := (pr l).map fun p => p.1 + p.2
theorem half_step (k n m : Nat) (l : List Nat) (hl : l.length = 2 * n) (h : ∀ a ∈ l, a < 2 ^ k) (hm : val (2 * k) (List.replicate n (2 ^ k - 1)) = m) : (val k l / 2 ^ k &&& m) + (val k l &&& m) = val (2 * k) (half l) ∧ (half l).length = n ∧ (half l).sum = l.sum := by
  have hp := pr_length n l hl
  obtain ⟨h1, h2⟩ := digit_sum k (pr l) (fun p hp => ⟨h _ (pr_mem l p hp).1, h _ (pr_mem l p hp).2⟩)
  have e : (pr l).map (fun _ => 2 ^ k - 1) = List.replicate n (2 ^ k - 1) := by rw [List.map_const', hp]
  rw [e, hm, ← pr_val k n l hl] at h1 h2
  refine ⟨?_, by rw [half, List.length_map, hp], pr_sum n l hl⟩
  rw [h1, h2, Nat.add_comm, val_add]
  rfl
theorem half_le {l : List Nat} {q : Nat} (h : ∀ a ∈ l, a ≤ q) : ∀ a ∈ half l, a ≤ 2 * q := by
  intro a ha
  simp only [half, List.mem_map] at ha
  obtain ⟨p, hp, rfl⟩ := ha
  have h1 := h _ (pr_mem l p hp).1
  have h2 := h _ (pr_mem l p hp).2
  omega
def sums : List Nat → List Nat
  | a :: b :: l => (a + b) :: sums (b :: l)
  | l => l
theorem sums_length : ∀ l : List Nat, (sums l).length = l.length
  | [] => rfl
  | [_] => rfl
  | a :: b :: l => by rw [sums, List.length_cons, sums_length (b :: l)]; rfl
theorem sums_le {q : Nat} : ∀ l : List Nat, (∀ a ∈ l, a ≤ q) → ∀ a ∈ sums l, a ≤ 2 * q
  | [], _, a, ha => by simp [sums] at ha
  | [b], h, a, ha => by
    simp only [sums, List.mem_singleton] at ha
    have := h b (by simp)
    omega
  | b :: c :: l, h, a, ha => by
    rw [sums, List.mem_cons] at ha
    rcases ha with rfl | ha
    · have h1 := h b (by simp)
      have h2 := h c (by simp)
      omega
    · exact sums_le (c :: l) (fun x hx => h x (List.mem_cons_of_mem _ hx)) a ha
theorem val_div (k a : Nat) (l : List Nat) (ha : a < 2 ^ k) : val k (a :: l) / 2 ^ k = val k l := by
  rw [val, Nat.add_comm, Nat.add_mul_div_left _ _ (Nat.two_pow_pos k), Nat.div_eq_of_lt ha, Nat.zero_add]
theorem sums_val (k : Nat) : ∀ l : List Nat, (∀ a ∈ l, a < 2 ^ k) → val k l / 2 ^ k + val k l = val k (sums l)
  | [], _ => by simp [val, sums]
  | [a], h => by
    rw [val_div k a [] (h a (by simp))]
    simp [val, sums]
  | a :: b :: l, h => by
    have ih := sums_val k (b :: l) (fun x hx => h x (List.mem_cons_of_mem _ hx))
    rw [val_div k b l (h b (by simp))] at ih
    rw [val_div k a (b :: l) (h a (by simp)), sums]
    rw [show val k ((a + b) :: sums (b :: l)) = 2 ^ k * val k (sums (b :: l)) + (a + b) from rfl, ← ih, Nat.mul_add]
    rw [show val k (a :: b :: l) = 2 ^ k * val k (b :: l) + a from rfl, show val k (b :: l) = 2 ^ k * val k l + b from rfl]
    omega
theorem pr_sums : ∀ (n : Nat) (l : List Nat), l.length = 2 * n → (pr (sums l)).map (·.1) = half l
  | 0, l, h => by
    obtain rfl : l = [] := List.eq_nil_of_length_eq_zero (by omega)
    rfl
  | n + 1, [a, b], h => rfl
  | n + 1, a :: b :: c :: l, h => by
    simp only [List.length_cons] at h
    have ih := pr_sums n (c :: l) (by simp only [List.length_cons]; omega)
    match l, ih with
    | d :: l, ih =>
      simp only [sums, pr, List.map_cons, half] at ih ⊢
      rw [ih]
    | [], ih => simp at h; omega
  | n + 1, [a], h => by simp at h; omega
  | n + 1, [], h => by simp at h
theorem quarter (l : List Nat) (n m : Nat) (hl : l.length = 2 * n) (h : ∀ a ∈ l, a ≤ 4) (hm : val 8 (List.replicate n 15) = m) : ((val 4 l / 16 + val 4 l) &&& m) = val 8 (half l) := by
  have hs := sums_le l h
  have hsl := sums_length l
  have h1 := sums_val 4 l (fun a ha => by have := h a ha; omega)
  rw [show (2 : Nat) ^ 4 = 16 from rfl] at h1
  rw [h1, pr_val 4 n (sums l) (by omega)]
  obtain ⟨h2, _⟩ := digit_sum 4 (pr (sums l)) (fun p hp => by
    have a1 := hs _ (pr_mem _ p hp).1
    have a2 := hs _ (pr_mem _ p hp).2
    exact ⟨by omega, by omega⟩)
  have e : (pr (sums l)).map (fun _ => 2 ^ 4 - 1) = List.replicate n 15 := by rw [List.map_const', pr_length n _ (by omega)]
  rw [e, show 2 * 4 = 8 from rfl, hm, pr_sums n l hl] at h2
  exact h2
def bl (n x : Nat) : List Nat := (List.range n).map fun i => x / 2 ^ i % 2
theorem bl_succ (n x : Nat) : bl (n + 1) x = x % 2 :: bl n (x / 2) := by
  unfold bl
  rw [List.range_succ_eq_map, List.map_cons, List.map_map]
  congr 1
  · simp
  · apply List.map_congr_left
    intro i _
    simp only [Function.comp, Nat.succ_eq_add_one]
    rw [Nat.pow_succ, Nat.mul_comm, ← Nat.div_div_eq_div_mul]
theorem bl_val : ∀ n x : Nat, x < 2 ^ n → val 1 (bl n x) = x
  | 0, x, h => by
    have : x = 0 := by simpa using h
    subst this
    rfl
  | n + 1, x, h => by
    rw [bl_succ, val, bl_val n (x / 2) (by rw [Nat.pow_succ] at h; omega)]
    omega
theorem bl_le (n x : Nat) : ∀ a ∈ bl n x, a ≤ 1 := by
  intro a ha
  simp only [bl, List.mem_map] at ha
  obtain ⟨i, _, rfl⟩ := ha
  omega
def swar (x : Nat) : Nat :=
  let y := (x / 2 &&& 6148914691236517205) + (x &&& 6148914691236517205)
  let z := (y / 4 &&& 3689348814741910323) + (y &&& 3689348814741910323)
  let u := (z / 16 + z) &&& 1085102592571150095
  let v := u + u / 256
  let w := v + v / 65536
  (w + w / 4294967296) % 128
theorem val_lt (k : Nat) : ∀ l : List Nat, (∀ a ∈ l, a < 2 ^ k) → val k l < 2 ^ (k * l.length)
  | [], _ => by simp [val]
  | a :: l, h => by
    have ih := val_lt k l (fun x hx => h x (List.mem_cons_of_mem _ hx))
    have ha := h a (by simp)
    rw [val, List.length_cons, Nat.mul_add, Nat.mul_one, Nat.pow_add, Nat.mul_comm (2 ^ (k * l.length))]
    calc 2 ^ k * val k l + a < 2 ^ k * val k l + 2 ^ k := by omega
      _ = 2 ^ k * (val k l + 1) := by rw [Nat.mul_add]; omega
      _ ≤ 2 ^ k * 2 ^ (k * l.length) := Nat.mul_le_mul_left _ ih
theorem eight_v (a b c d e f g i : Nat) (ha : a ≤ 8) : val 8 [a, b, c, d, e, f, g, i] + val 8 [a, b, c, d, e, f, g, i] / 256 = val 8 [a + b, b + c, c + d, d + e, e + f, f + g, g + i, i] := by
  rw [show (256 : Nat) = 2 ^ 8 from rfl, val_div 8 a _ (by omega)]
  simp only [val]
  omega
theorem eight_w (a b c d e f g i : Nat) (ha : a ≤ 16) (hb : b ≤ 16) : val 8 [a, b, c, d, e, f, g, i] + val 8 [a, b, c, d, e, f, g, i] / 65536 = val 8 [a + c, b + d, c + e, d + f, e + g, f + i, g, i] := by
  rw [show (65536 : Nat) = 2 ^ 8 * 2 ^ 8 from rfl, ← Nat.div_div_eq_div_mul, val_div 8 a _ (by omega), val_div 8 b _ (by omega)]
  simp only [val]
  omega
theorem eight_s (a b c d e f g i : Nat) (ha : a ≤ 32) (hb : b ≤ 32) (hc : c ≤ 32) (hd : d ≤ 32) : val 8 [a, b, c, d, e, f, g, i] + val 8 [a, b, c, d, e, f, g, i] / 4294967296 = val 8 [a + e, b + f, c + g, d + i, e, f, g, i] := by
  rw [show (4294967296 : Nat) = 2 ^ 8 * 2 ^ 8 * 2 ^ 8 * 2 ^ 8 from rfl, ← Nat.div_div_eq_div_mul, ← Nat.div_div_eq_div_mul, ← Nat.div_div_eq_div_mul, val_div 8 a _ (by omega), val_div 8 b _ (by omega), val_div 8 c _ (by omega), val_div 8 d _ (by omega)]
  simp only [val]
  omega
theorem all8 {a b c d e f g i q : Nat} (h : a < q ∧ b < q ∧ c < q ∧ d < q ∧ e < q ∧ f < q ∧ g < q ∧ i < q) : ∀ x ∈ [a, b, c, d, e, f, g, i], x < q := by
  intro x hx
  simp only [List.mem_cons, List.not_mem_nil, or_false] at hx
  obtain ⟨h0, h1, h2, h3, h4, h5, h6, h7⟩ := h
  rcases hx with rfl | rfl | rfl | rfl | rfl | rfl | rfl | rfl <;> assumption
theorem val8_lt (l : List Nat) (hl : l.length = 8) (h : ∀ a ∈ l, a < 256) : val 8 l < 18446744073709551616 := by
  have h1 := val_lt 8 l (fun a ha => h a ha)
  rw [hl] at h1
  exact Nat.lt_of_lt_of_eq h1 (by decide)
theorem eight (h : List Nat) (hl : h.length = 8) (hb : ∀ a ∈ h, a ≤ 8) :
    val 8 h < 18446744073709551616 ∧ val 8 h + val 8 h / 256 < 18446744073709551616 ∧ (val 8 h + val 8 h / 256) + (val 8 h + val 8 h / 256) / 65536 < 18446744073709551616 ∧
    ((val 8 h + val 8 h / 256) + (val 8 h + val 8 h / 256) / 65536) + ((val 8 h + val 8 h / 256) + (val 8 h + val 8 h / 256) / 65536) / 4294967296 < 18446744073709551616 ∧
    (((val 8 h + val 8 h / 256) + (val 8 h + val 8 h / 256) / 65536) + ((val 8 h + val 8 h / 256) + (val 8 h + val 8 h / 256) / 65536) / 4294967296) % 128 = h.sum := by
  match h, hl with
  | [a, b, c, d, e, f, g, i], _ =>
    have h0 := hb a (by simp)
    have h1 := hb b (by simp)
    have h2 := hb c (by simp)
    have h3 := hb d (by simp)
    have h4 := hb e (by simp)
    have h5 := hb f (by simp)
    have h6 := hb g (by simp)
    have h7 := hb i (by simp)
    clear hb
    rw [eight_v a b c d e f g i h0, eight_w _ _ _ _ _ _ _ _ (by omega) (by omega), eight_s _ _ _ _ _ _ _ _ (by omega) (by omega) (by omega) (by omega)]
    refine ⟨val8_lt _ rfl (all8 (by omega)), val8_lt _ rfl (all8 (by omega)), val8_lt _ rfl (all8 (by omega)), val8_lt _ rfl (all8 (by omega)), ?_⟩
    have hv : ∀ (x : Nat) (l : List Nat), val 8 (x :: l) % 128 = x % 128 := fun x l => by
      rw [val]
      omega
    rw [hv]
    simp only [List.sum_cons, List.sum_nil]
    omega
theorem swar_sum (x : Nat) (hx : x < 2 ^ 64) : swar x = (bl 64 x).sum := by
  have l0 : (bl 64 x).length = 64 := by simp [bl]
  have v0 := bl_val 64 x hx
  obtain ⟨s1, n1, m1⟩ := half_step 1 32 6148914691236517205 (bl 64 x) l0 (fun a ha => by have := bl_le 64 x a ha; omega) (by rfl)
  have b1 := half_le (bl_le 64 x)
  rw [v0] at s1
  obtain ⟨s2, n2, m2⟩ := half_step 2 16 3689348814741910323 (half (bl 64 x)) n1 (fun a ha => by have := b1 a ha; omega) (by rfl)
  have b2 := half_le b1
  have s3 := quarter (half (half (bl 64 x))) 8 1085102592571150095 n2 (fun a ha => by have := b2 a ha; omega) (by rfl)
  have n3 : (half (half (half (bl 64 x)))).length = 8 := by rw [half, List.length_map]; exact pr_length 8 _ n2
  have m3 : (half (half (half (bl 64 x)))).sum = (half (half (bl 64 x))).sum := pr_sum 8 _ n2
  have b3 := half_le b2
  have he := (eight _ n3 (fun a ha => by have := b3 a ha; omega)).2.2.2.2
  unfold swar
  simp only
  rw [show (x / 2 &&& 6148914691236517205) + (x &&& 6148914691236517205) = val 2 (half (bl 64 x)) from s1]
  rw [show (val 2 (half (bl 64 x)) / 4 &&& 3689348814741910323) + (val 2 (half (bl 64 x)) &&& 3689348814741910323) = val 4 (half (half (bl 64 x))) from s2]
  rw [s3, he, m3, m2, m1]
def bitsL (x : Nat) : List Nat := (List.range 64).filter fun i => x.testBit i
theorem sum_filter {f : Nat → Nat} {q : Nat → Bool} : ∀ l : List Nat, (∀ i ∈ l, f i = if q i = true then 1 else 0) → (l.map f).sum = (l.filter q).length
  | [], _ => rfl
  | a :: l, h => by
    have ih := sum_filter l (fun i hi => h i (List.mem_cons_of_mem _ hi))
    have ha := h a (by simp)
    rw [List.map_cons, List.sum_cons, ih, ha]
    by_cases hq : q a = true
    · rw [if_pos hq, List.filter_cons_of_pos hq, List.length_cons]; omega
    · rw [if_neg hq, List.filter_cons_of_neg hq]; omega
theorem bl_sum (x : Nat) : (bl 64 x).sum = (bitsL x).length := by
  refine sum_filter _ (fun i _ => ?_)
  rw [Nat.testBit_eq_decide_div_mod_eq]
  by_cases h : x / 2 ^ i % 2 = 1
  · rw [if_pos (by simpa using h), h]
  · rw [if_neg (by simpa using h)]; omega
theorem swar_bits (x : Nat) (hx : x < 2 ^ 64) : swar x = (bitsL x).length := (swar_sum x hx).trans (bl_sum x)
theorem clear_low (c m : Nat) : (2 ^ c * (2 * m + 1)) &&& (2 ^ c * (2 * m + 1) - 1) = 2 ^ c * (2 * m) := by
  have hp := Nat.two_pow_pos c
  have e : 2 ^ c * (2 * m + 1) - 1 = 2 ^ c * (2 * m) + (2 ^ c - 1) := by rw [Nat.mul_add, Nat.mul_one]; omega
  have h1 := and_split (a := 2 * m + 1) (b := 2 * m) c (r := 0) (s := 2 ^ c - 1) hp (by omega)
  have h2 := and_split (a := m) (b := m) 1 (r := 1) (s := 0) (by omega) (by omega)
  rw [Nat.add_zero] at h1
  rw [e, h1]
  simp only [Nat.pow_one, Nat.add_zero, Nat.and_self, Nat.and_zero] at h2
  rw [h2, Nat.zero_and, Nat.add_zero]
theorem ctz_form (x : Nat) (h0 : x ≠ 0) (hx : x < 2 ^ 64) : ∃ m, x = 2 ^ Lib.ctz 64 x * (2 * m + 1) ∧ Lib.ctz 64 x < 64 := by
  unfold Lib.ctz
  rw [if_neg h0]
  exact Lib.ctzFrom_spec 64 x (by omega) hx
theorem range_split (c : Nat) (hc : c < 64) : List.range 64 = List.range c ++ (c :: (List.range (63 - c)).map fun i => c + 1 + i) := by
  have h1 : (64 : Nat) = c + (63 - c + 1) := by omega
  have h2 := List.range_add (n := c) (m := 63 - c + 1)
  rw [← h1] at h2
  rw [h2, List.range_succ_eq_map, List.map_cons, List.map_map]
  congr 1
  congr 1
  apply List.map_congr_left
  intro i _
  simp only [Function.comp]
  omega
theorem bits_cons (x : Nat) (h0 : x ≠ 0) (hx : x < 2 ^ 64) : bitsL x = Lib.ctz 64 x :: bitsL (x &&& (x - 1)) := by
  obtain ⟨m, hm, hc⟩ := ctz_form x h0 hx
  generalize Lib.ctz 64 x = c at *
  subst hm
  rw [clear_low]
  have t1 : ∀ i, (2 ^ c * (2 * m + 1)).testBit i = (decide (i ≥ c) && (2 * m + 1).testBit (i - c)) := fun i => Nat.testBit_two_pow_mul
  have t2 : ∀ i, (2 ^ c * (2 * m)).testBit i = (decide (i ≥ c) && (2 * m).testBit (i - c)) := fun i => Nat.testBit_two_pow_mul
  unfold bitsL
  rw [range_split c hc, List.filter_append, List.filter_append]
  have e1 : (List.range c).filter (fun i => (2 ^ c * (2 * m + 1)).testBit i) = [] := by
    rw [List.filter_eq_nil_iff]
    intro i hi
    rw [t1]
    have := List.mem_range.1 hi
    simp
    omega
  have e2 : (List.range c).filter (fun i => (2 ^ c * (2 * m)).testBit i) = [] := by
    rw [List.filter_eq_nil_iff]
    intro i hi
    rw [t2]
    have := List.mem_range.1 hi
    simp
    omega
  rw [e1, e2, List.nil_append, List.nil_append]
  rw [List.filter_cons_of_pos (by rw [t1]; simp), List.filter_cons_of_neg (by rw [t2]; simp)]
  congr 1
  apply List.filter_congr
  intro i hi
  obtain ⟨j, _, rfl⟩ := List.mem_map.1 hi
  rw [t1, t2, show c + 1 + j - c = j + 1 by omega, Nat.testBit_add_one, Nat.testBit_add_one]
  congr 2
  omega
theorem bits_zero : bitsL 0 = [] := by
  unfold bitsL
  rw [List.filter_eq_nil_iff]
  intro i _
  simp
theorem and_lt (x : Nat) (hx : x < 2 ^ 64) : x &&& (x - 1) < 2 ^ 64 := Nat.lt_of_le_of_lt Nat.and_le_left hx
def flat (off : Nat) : List Nat → List Nat
  | [] => []
  | w :: ws => (bitsL w).map (fun i => 64 * off + i) ++ flat (off + 1) ws
def idx (en : List Bool) : List Nat := (List.range en.length).filter fun i => en.getD i false
def IsW (en : List Bool) (i : Nat) (W : List Nat) : Prop := W.length = en.length / 64 + 1 ∧ (∀ w ∈ W, w < 2 ^ 64) ∧ ∀ j b, j < W.length → b < 64 → (W.getD j 0).testBit b = (decide (64 * j + b < i) && en.getD (64 * j + b) false)
theorem isW_zero (en : List Bool) : IsW en 0 (List.replicate (en.length / 64 + 1) 0) := by
  refine ⟨by simp, fun w hw => by rw [(List.mem_replicate.1 hw).2]; omega, fun j b hj hb => ?_⟩
  rw [List.getD_eq_getElem?_getD, List.getElem?_replicate]
  split <;> simp
theorem isW_skip {en : List Bool} {i : Nat} {W : List Nat} (h : IsW en i W) (he : en.getD i false = false) : IsW en (i + 1) W := by
  refine ⟨h.1, h.2.1, fun j b hj hb => ?_⟩
  rw [h.2.2 j b hj hb]
  by_cases e : 64 * j + b = i
  · rw [e, he]; simp
  · congr 1
    rw [decide_eq_decide]
    omega
theorem isW_put {en : List Bool} {i : Nat} {W : List Nat} (h : IsW en i W) (hi : i < en.length) (he : en.getD i false = true) : IsW en (i + 1) (W.set (i / 64) (W.getD (i / 64) 0 ||| 2 ^ (i % 64))) := by
  have hl := h.1
  have hj : i / 64 < W.length := by omega
  have hw : W.getD (i / 64) 0 < 2 ^ 64 := by
    rw [List.getD_eq_getElem?_getD, List.getElem?_eq_getElem hj]
    exact h.2.1 _ (List.getElem_mem hj)
  refine ⟨by rw [List.length_set]; exact hl, fun w hw' => ?_, fun j b hj' hb => ?_⟩
  · rcases List.mem_or_eq_of_mem_set hw' with hw' | rfl
    · exact h.2.1 w hw'
    · exact Nat.or_lt_two_pow hw (Nat.pow_lt_pow_right (by omega) (by omega))
  · rw [List.length_set] at hj'
    have hd := h.2.2 j b hj' hb
    by_cases e : i / 64 = j
    · subst e
      rw [show (W.set (i / 64) (W.getD (i / 64) 0 ||| 2 ^ (i % 64))).getD (i / 64) 0 = W.getD (i / 64) 0 ||| 2 ^ (i % 64) by simp [List.getD_eq_getElem?_getD, hj']]
      rw [Nat.testBit_or, hd, Nat.testBit_two_pow]
      by_cases f : i % 64 = b
      · have : 64 * (i / 64) + b = i := by omega
        rw [this, he]
        simp [f]
      · rw [show decide (i % 64 = b) = false by simpa using f, Bool.or_false]
        congr 1
        rw [decide_eq_decide]
        omega
    · rw [show (W.set (i / 64) (W.getD (i / 64) 0 ||| 2 ^ (i % 64))).getD j 0 = W.getD j 0 by simp [List.getD_eq_getElem?_getD, e], hd]
      congr 1
      rw [decide_eq_decide]
      omega
theorem flat_range (p : Nat → Bool) : ∀ (W : List Nat) (off : Nat), (∀ j b, j < W.length → b < 64 → (W.getD j 0).testBit b = p (64 * (off + j) + b)) → flat off W = ((List.range (64 * W.length)).map fun i => 64 * off + i).filter p
  | [], off, _ => by simp [flat]
  | w :: ws, off, h => by
    have ih := flat_range p ws (off + 1) (fun j b hj hb => by
      have := h (j + 1) b (by simp; omega) hb
      rw [List.getD_cons_succ] at this
      rw [this]
      congr 1
      omega)
    have e : 64 * (ws.length + 1) = 64 + 64 * ws.length := by omega
    rw [flat, ih, List.length_cons, e, List.range_add, List.map_append, List.filter_append, List.map_map]
    congr 1
    · rw [bitsL, List.filter_map]
      congr 1
      apply List.filter_congr
      intro b hb
      have := h 0 b (by simp) (List.mem_range.1 hb)
      simpa using this
    · congr 1
      apply List.map_congr_left
      intro i _
      simp only [Function.comp]
      omega
theorem flat_idx {en : List Bool} {W : List Nat} (h : IsW en en.length W) : flat 0 W = idx en := by
  rw [flat_range (fun i => en.getD i false) W 0 (fun j b hj hb => by
    rw [h.2.2 j b hj hb, Nat.zero_add]
    by_cases hlt : 64 * j + b < en.length
    · simp [hlt]
    · simp [List.getD_eq_getElem?_getD, List.getElem?_eq_none (show en.length ≤ 64 * j + b by omega)])]
  have e : 64 * W.length = en.length + (64 * W.length - en.length) := by have := h.1; omega
  rw [e, List.range_add]
  simp only [Nat.mul_zero, Nat.zero_add, List.map_id']
  rw [List.filter_append, idx]
  rw [show (List.map (fun x => en.length + x) (List.range (64 * W.length - en.length))).filter (fun i => en.getD i false) = [] by
    rw [List.filter_eq_nil_iff]
    intro i hi
    obtain ⟨j, _, rfl⟩ := List.mem_map.1 hi
    simp [List.getD_eq_getElem?_getD], List.append_nil]
theorem idx_lt {en : List Bool} {i : Nat} (h : i ∈ idx en) : i < en.length ∧ en.getD i false = true := by
  have := List.mem_filter.1 h
  exact ⟨List.mem_range.1 this.1, this.2⟩
end Go.Proofs.YtmaiicpaalbcfaaDoor.Bits
end
section
namespace Go.Proofs.YtmaiicpaalbcfaaDoor.P
open Go.RowKit Go.Proofs.YtmaiicpaalbcfaaDoor.Bits Go.Proofs.YtmaiicpaalbcfaaDoorW.PrintWords Go.Proofs.YtmaiicpaalbcfaaDoorW.PrintLast Go.Proofs.YtmaiicpaalbcfaaDoorW.PrintMore
set_option linter.unusedSimpArgs false
set_option linter.unusedVariables false
theorem wr64 {i : Int} (h0 : -9223372036854775808 ≤ i) (h1 : i ≤ 9223372036854775807) : wrap64 i = i := by unfold wrap64; omega
theorem wu64 {n : Nat} (h : n < 18446744073709551616) : IntKind.u64.wrap (n : Int) = n := by rw [IntKind.wrap_u64]; omega
theorem and64 {a b : Nat} (ha : a < 18446744073709551616) (hb : b < 18446744073709551616) : Go.bits .and .u64 (a : Int) (b : Int) = ((a &&& b : Nat) : Int) := bits_and_u64_nat a b ha hb
theorem wr64' {n : Int} (h0 : 0 ≤ n) (h1 : n < 2 ^ 63) : IntKind.i64.wrap n = n := by simp [IntKind.wrap, IntKind.bits, IntKind.signed]; omega
theorem ones_f (x : Nat) (hx : x < 18446744073709551616) : bits_OnesCount64.f (x : Int) = some ((bitsL x).length : Int) := by
  have hs := swar_bits x (by omega)
  unfold swar at hs
  simp only at hs
  have c1 : x / 2 &&& 6148914691236517205 ≤ 6148914691236517205 := Nat.and_le_right
  have c2 : x &&& 6148914691236517205 ≤ 6148914691236517205 := Nat.and_le_right
  have e1 : Go.bits .and .u64 ((x : Int) / 2) 6148914691236517205 = ((x / 2 &&& 6148914691236517205 : Nat) : Int) := and64 (a := x / 2) (b := 6148914691236517205) (by omega) (by omega)
  have e2 : Go.bits .and .u64 (x : Int) 6148914691236517205 = ((x &&& 6148914691236517205 : Nat) : Int) := and64 (a := x) (b := 6148914691236517205) (by omega) (by omega)
  unfold bits_OnesCount64.f
  rw [e1, e2]
  generalize x / 2 &&& 6148914691236517205 = a1 at *
  generalize x &&& 6148914691236517205 = a2 at *
  rw [← Int.natCast_add, wu64 (by omega)]
  have hy : a1 + a2 < 18446744073709551616 := by omega
  generalize a1 + a2 = y at *
  clear c1 c2 e1 e2
  have c1 : y / 4 &&& 3689348814741910323 ≤ 3689348814741910323 := Nat.and_le_right
  have c2 : y &&& 3689348814741910323 ≤ 3689348814741910323 := Nat.and_le_right
  have e1 : Go.bits .and .u64 ((y : Int) / 4) 3689348814741910323 = ((y / 4 &&& 3689348814741910323 : Nat) : Int) := and64 (a := y / 4) (b := 3689348814741910323) (by omega) (by omega)
  have e2 : Go.bits .and .u64 (y : Int) 3689348814741910323 = ((y &&& 3689348814741910323 : Nat) : Int) := and64 (a := y) (b := 3689348814741910323) (by omega) (by omega)
  rw [e1, e2]
  generalize y / 4 &&& 3689348814741910323 = b1 at *
  generalize y &&& 3689348814741910323 = b2 at *
  rw [← Int.natCast_add, wu64 (by omega)]
  have hz : b1 + b2 ≤ 7378697629483820646 := by omega
  generalize b1 + b2 = z at *
  clear c1 c2 e1 e2
  have e3 : ((z : Int) / 16 + (z : Int)) = ((z / 16 + z : Nat) : Int) := by omega
  rw [e3, wu64 (by omega)]
  have c1 : z / 16 + z &&& 1085102592571150095 ≤ 1085102592571150095 := Nat.and_le_right
  have e1 : Go.bits .and .u64 ((z / 16 + z : Nat) : Int) 1085102592571150095 = ((z / 16 + z &&& 1085102592571150095 : Nat) : Int) := and64 (a := z / 16 + z) (b := 1085102592571150095) (by omega) (by omega)
  rw [e1]
  generalize z / 16 + z &&& 1085102592571150095 = u at *
  clear e1 e3
  have e4 : ((u : Int) + (u : Int) / 256) = ((u + u / 256 : Nat) : Int) := by omega
  rw [e4, wu64 (by omega)]
  have hv : u + u / 256 ≤ 1089400000000000000 := by omega
  generalize u + u / 256 = v at *
  have e5 : ((v : Int) + (v : Int) / 65536) = ((v + v / 65536 : Nat) : Int) := by omega
  rw [e5, wu64 (by omega)]
  have hw : v + v / 65536 ≤ 1090000000000000000 := by omega
  generalize v + v / 65536 = q at *
  have e6 : ((q : Int) + (q : Int) / 4294967296) = ((q + q / 4294967296 : Nat) : Int) := by omega
  rw [e6, wu64 (by omega)]
  have hq : q + q / 4294967296 ≤ 1100000000000000000 := by omega
  generalize q + q / 4294967296 = s at *
  rw [wr64 (by omega) (by omega)]
  have e7 := bits_mask .i64 63 (by decide) (fun n h0 h1 => wr64' h0 h1) 7 (by omega) (s : Int) (by omega) (by omega)
  rw [show ((2 : Int) ^ 7 - 1) = 127 from rfl] at e7
  rw [e7, ← hs]
  congr 1
abbrev ints (W : List Nat) : List Int := W.map fun (x : Nat) => (x : Int)
theorem rd_nat (l : List Int) (i : Nat) : rd l (i : Int) = l.getD i 0 := by simp [rd]
theorem ints_getD (W : List Nat) (i : Nat) : (ints W).getD i 0 = ((W.getD i 0 : Nat) : Int) := by
  simp only [List.getD_eq_getElem?_getD, List.getElem?_map]
  cases W[i]? <;> rfl
theorem rd_ints (W : List Nat) (i : Nat) : rd (ints W) (i : Int) = ((W.getD i 0 : Nat) : Int) := by rw [rd_nat, ints_getD]
theorem and63 (i : Nat) (h : i < 1000000000) : Go.bits .and .i64 (i : Int) 63 = ((i % 64 : Nat) : Int) := by
  have e := bits_mask .i64 63 (by decide) (fun n h0 h1 => wr64' h0 h1) 6 (by omega) (i : Int) (by omega) (by omega)
  rw [show ((2 : Int) ^ 6 - 1) = 63 from rfl] at e
  rw [e]
  omega
theorem shl_one (i : Nat) (h : i < 64) : shl .u64 1 (i : Int) = ((2 ^ i : Nat) : Int) := by
  have hp : 2 ^ i < 18446744073709551616 := Nat.pow_lt_pow_right (by decide) h
  unfold shl
  rw [show IntKind.bits .u64 = 64 from rfl, Int.toNat_natCast, Nat.min_eq_left (by omega), Int.one_mul, show ((2 : Int) ^ i) = ((2 ^ i : Nat) : Int) by simp, wu64 hp]
theorem or64 (j b : Nat) (hj : j < 1000000000) (hb : b < 64) : Go.bits .or .i64 (wrap64 ((j : Int) * 64)) (b : Int) = ((64 * j + b : Nat) : Int) := by
  rw [wr64 (by omega) (by omega), bits_join .i64 63 (by decide) (fun n h0 h1 => wr64' h0 h1) 6 _ _ (by omega) (by omega) (by omega) (by omega) (by omega) (by omega)]
  omega
theorem of_l0 (en : List Bool) (hl : en.length ≤ 1000000) : ∀ (d i : Nat) (W : List Nat), i + d = en.length → IsW en i W → ∃ W', IsW en en.length W' ∧ Ev (fun k => pick_of.l0 k (ints W) en (en.length : Int) (i : Int)) (ints W')
  | 0, i, W, h, hW => by
    obtain rfl : i = en.length := by omega
    refine ⟨W, hW, Ev.step (f := fun _ => some (ints W)) (fun k => ?_) (Ev.now _)⟩
    rw [pick_of.l0, if_neg (by omega)]
  | d + 1, i, W, h, hW => by
    have hj : i / 64 < W.length := by rw [hW.1]; omega
    by_cases he : en.getD i false = true
    · obtain ⟨W', h1, h2⟩ := of_l0 en hl d (i + 1) _ (by omega) (isW_put hW (by omega) he)
      refine ⟨W', h1, Ev.step (fun k => ?_) h2⟩
      have e : rdOf false en (i : Int) = true := by simpa [rdOf] using he
      have hw : W.getD (i / 64) 0 < 18446744073709551616 := by
        rw [List.getD_eq_getElem?_getD, List.getElem?_eq_getElem hj]
        exact hW.2.1 _ (List.getElem_mem hj)
      have hp : 2 ^ (i % 64) < 18446744073709551616 := Nat.pow_lt_pow_right (m := i % 64) (n := 64) (by decide) (by omega)
      have e1 : ((i : Int) / 64) = ((i / 64 : Nat) : Int) := by omega
      rw [pick_of.l0, if_pos (by omega), if_pos (by omega), if_pos (by omega), if_pos e, e1, if_pos (by omega), if_pos (by rw [List.length_map]; omega), and63 i (by omega), if_pos (by omega), wr64 (by omega) (by omega), shl_one _ (by omega), rd_ints, bits_or_u64_nat _ _ hw hp, Int.toNat_natCast]
      congr 1
      simp [ints, List.map_set]
    · replace he : en.getD i false = false := by simpa using he
      obtain ⟨W', h1, h2⟩ := of_l0 en hl d (i + 1) _ (by omega) (isW_skip hW he)
      refine ⟨W', h1, Ev.step (fun k => ?_) h2⟩
      have e : ¬ rdOf false en (i : Int) = true := by simpa [rdOf] using he
      rw [pick_of.l0, if_pos (by omega), if_pos (by omega), if_pos (by omega), if_neg e, wr64 (by omega) (by omega)]
      rfl
theorem of_ev (en : List Bool) (hl : en.length ≤ 1000000) : ∃ W, IsW en en.length W ∧ Ev (fun k => pick_of.f k en) (ints W) := by
  obtain ⟨W, h1, h2⟩ := of_l0 en hl en.length 0 _ (by omega) (isW_zero en)
  refine ⟨W, h1, Ev.congr (fun k => ?_) h2⟩
  unfold pick_of.f
  have e : wrap64 (wrap64 ((en.length : Int) / 64) + 1) = ((en.length / 64 + 1 : Nat) : Int) := by
    rw [wr64 (i := (en.length : Int) / 64) (by omega) (by omega), wr64 (by omega) (by omega)]
    omega
  rw [e, if_pos (by omega), Int.toNat_natCast, if_pos (by omega)]
  simp [ints]
theorem flat_length_cons (j w : Nat) (W : List Nat) : (flat j (w :: W)).length = (bitsL w).length + (flat (j + 1) W).length := by simp [flat]
theorem bits_le (w : Nat) : (bitsL w).length ≤ 64 := by
  have := List.length_filter_le (fun i => w.testBit i) (List.range 64)
  simpa [bitsL] using this
theorem flat_le : ∀ (W : List Nat) (j : Nat), (flat j W).length ≤ 64 * W.length
  | [], j => by simp [flat]
  | w :: W, j => by
    rw [flat_length_cons, List.length_cons]
    have h1 := bits_le w
    have h2 := flat_le W (j + 1)
    omega
theorem get_at (W1 : List Nat) (w : Nat) (W2 : List Nat) : rd (ints (W1 ++ w :: W2)) (W1.length : Int) = (w : Int) := by
  rw [rd_ints]
  simp [List.getD_eq_getElem?_getD]
theorem count_l0 (W : List Nat) (hl : W.length ≤ 1000000) (hW : ∀ w ∈ W, w < 18446744073709551616) : ∀ (W2 W1 : List Nat) (n : Nat), W = W1 ++ W2 → n ≤ 64 * W1.length → Ev (fun k => pick_set_count.l0 k (n : Int) (ints W) (W.length : Int) (W1.length : Int)) (((n + (flat W1.length W2).length : Nat) : Int))
  | [], W1, n, h, hn => by
    refine Ev.step (f := fun _ => some (n : Int)) (fun k => ?_) (by simpa [flat] using Ev.now _)
    rw [pick_set_count.l0, if_neg (by rw [h]; simp)]
  | w :: W2, W1, n, h, hn => by
    have hb := bits_le w
    have hlen : W.length = W1.length + (W2.length + 1) := by rw [h]; simp
    have ih := count_l0 W hl hW W2 (W1 ++ [w]) (n + (bitsL w).length) (by rw [h]; simp) (by simp; omega)
    rw [show n + (flat W1.length (w :: W2)).length = n + (bitsL w).length + (flat (W1 ++ [w]).length W2).length by rw [flat_length_cons]; simp; omega]
    rw [List.length_append, List.length_singleton] at ih ⊢
    refine Ev.step (fun k => ?_) ih
    rw [pick_set_count.l0, if_pos (by omega), if_pos (by omega), if_pos (by rw [List.length_map]; omega), h, get_at, ones_f w (hW w (by rw [h]; simp)), Option.bind_some, wr64 (by omega) (by omega), wr64 (by omega) (by omega)]
    rfl
theorem count_ev (W : List Nat) (hl : W.length ≤ 1000000) (hW : ∀ w ∈ W, w < 18446744073709551616) : Ev (fun k => pick_set_count.f k (ints W)) ((flat 0 W).length : Int) := by
  have h := count_l0 W hl hW W [] 0 rfl (by simp)
  refine Ev.congr (fun k => ?_) (by simpa using h)
  unfold pick_set_count.f
  rw [List.length_map]
def cntLe (m : Int) (l : List Nat) : Nat := (l.filter fun (i : Nat) => decide ((i : Int) ≤ m)).length
theorem cntLe_cons (m : Int) (a : Nat) (l : List Nat) : cntLe m (a :: l) = (if (a : Int) ≤ m then 1 else 0) + cntLe m l := by
  unfold cntLe
  by_cases h : (a : Int) ≤ m
  · rw [List.filter_cons_of_pos (by simpa using h), if_pos h, List.length_cons, Nat.add_comm]
  · rw [List.filter_cons_of_neg (by simpa using h), if_neg h, Nat.zero_add]
theorem cntLe_append (m : Int) (a b : List Nat) : cntLe m (a ++ b) = cntLe m a + cntLe m b := by unfold cntLe; rw [List.filter_append, List.length_append]
theorem cntLe_le (m : Int) (l : List Nat) : cntLe m l ≤ l.length := List.length_filter_le _ _
theorem tz_f (w : Nat) (hw : w < 18446744073709551616) : bits_TrailingZeros64.f (w : Int) = some ((Lib.ctz 64 w : Nat) : Int) := by
  unfold bits_TrailingZeros64.f
  rw [if_pos ⟨by omega, by omega⟩, Int.toNat_natCast]
theorem less_one (w : Nat) (h0 : w ≠ 0) (hw : w < 18446744073709551616) : Go.bits .and .u64 (w : Int) (IntKind.u64.wrap ((w : Int) - 1)) = ((w &&& (w - 1) : Nat) : Int) := by
  rw [show ((w : Int) - 1) = ((w - 1 : Nat) : Int) by omega, wu64 (by omega), and64 hw (by omega)]
theorem ctz_lt (w : Nat) (h0 : w ≠ 0) (hw : w < 18446744073709551616) : Lib.ctz 64 w < 64 := by
  obtain ⟨m, _, h⟩ := ctz_form w h0 hw
  exact h
theorem below_l1 (W : List Nat) (hl : W.length ≤ 1000000) (hW : ∀ w ∈ W, w < 18446744073709551616) (m : Int) (j : Nat) (hj : j < W.length) (r : Int) : ∀ (d w n : Nat), (bitsL w).length ≤ d → w < 18446744073709551616 → n + (bitsL w).length ≤ 64 * (j + 1) →
    Ev (fun k => pick_set_below.l0 k m ((n + cntLe m ((bitsL w).map fun i => 64 * j + i) : Nat) : Int) (ints W) (W.length : Int) ((j + 1 : Nat) : Int)) r →
    Ev (fun k => pick_set_below.l1 k m (n : Int) (j : Int) (w : Int) (ints W) (W.length : Int) (j : Int)) r
  | d, w, n, hd, hw, hn, he => by
    by_cases h0 : w = 0
    · subst h0
      rw [bits_zero] at he
      refine Ev.step (fun k => ?_) he
      rw [pick_set_below.l1, if_pos (by rfl), wr64 (by omega) (by omega)]
      rfl
    · have hc := bits_cons w h0 hw
      have hlt := ctz_lt w h0 hw
      have hlen : (bitsL w).length = (bitsL (w &&& (w - 1))).length + 1 := by rw [hc]; rfl
      cases d with
      | zero => omega
      | succ d =>
        rw [hc, List.map_cons, cntLe_cons] at he
        by_cases hm : ((64 * j + Lib.ctz 64 w : Nat) : Int) ≤ m
        · rw [if_pos hm] at he
          have ih := below_l1 W hl hW m j hj r d (w &&& (w - 1)) (n + 1) (by omega) (and_lt w hw) (by omega) (by rw [show n + 1 + cntLe m ((bitsL (w &&& (w - 1))).map fun i => 64 * j + i) = n + (1 + cntLe m ((bitsL (w &&& (w - 1))).map fun i => 64 * j + i)) by omega]; exact he)
          refine Ev.step (fun k => ?_) ih
          rw [pick_set_below.l1, if_neg (by omega), tz_f w hw, Option.bind_some, or64 j _ (by omega) hlt, if_pos hm, less_one w h0 hw, wr64 (by omega) (by omega)]
          rfl
        · rw [if_neg hm] at he
          have ih := below_l1 W hl hW m j hj r d (w &&& (w - 1)) n (by omega) (and_lt w hw) (by omega) (by rw [Nat.zero_add] at he; exact he)
          refine Ev.step (fun k => ?_) ih
          rw [pick_set_below.l1, if_neg (by omega), tz_f w hw, Option.bind_some, or64 j _ (by omega) hlt, if_neg hm, less_one w h0 hw]
theorem below_l0 (W : List Nat) (hl : W.length ≤ 1000000) (hW : ∀ w ∈ W, w < 18446744073709551616) (m : Int) : ∀ (W2 W1 : List Nat) (n : Nat), W = W1 ++ W2 → n ≤ 64 * W1.length → Ev (fun k => pick_set_below.l0 k m (n : Int) (ints W) (W.length : Int) (W1.length : Int)) (((n + cntLe m (flat W1.length W2) : Nat) : Int))
  | [], W1, n, h, hn => by
    refine Ev.step (f := fun _ => some (n : Int)) (fun k => ?_) (by simpa [flat, cntLe] using Ev.now _)
    rw [pick_set_below.l0, if_neg (by rw [h]; simp)]
  | w :: W2, W1, n, h, hn => by
    have hb := bits_le w
    have hc := cntLe_le m ((bitsL w).map fun i => 64 * W1.length + i)
    rw [List.length_map] at hc
    have hlen : W.length = W1.length + (W2.length + 1) := by rw [h]; simp
    have ih := below_l0 W hl hW m W2 (W1 ++ [w]) (n + cntLe m ((bitsL w).map fun i => 64 * W1.length + i)) (by rw [h]; simp) (by simp; omega)
    rw [show n + cntLe m (flat W1.length (w :: W2)) = n + cntLe m ((bitsL w).map fun i => 64 * W1.length + i) + cntLe m (flat (W1 ++ [w]).length W2) by rw [flat, cntLe_append]; simp; omega]
    rw [List.length_append, List.length_singleton] at ih ⊢
    refine Ev.step (fun k => ?_) (below_l1 W hl hW m W1.length (by omega) _ (bitsL w).length w n (Nat.le_refl _) (hW w (by rw [h]; simp)) (by omega) ih)
    rw [pick_set_below.l0, if_pos (by omega), if_pos (by omega), if_pos (by rw [List.length_map]; omega), show rd (ints W) (W1.length : Int) = (w : Int) by rw [h]; exact get_at W1 w W2]
theorem below_ev (W : List Nat) (hl : W.length ≤ 1000000) (hW : ∀ w ∈ W, w < 18446744073709551616) (m : Int) : Ev (fun k => pick_set_below.f k (ints W) m) ((cntLe m (flat 0 W) : Nat) : Int) := by
  have h := below_l0 W hl hW m W [] 0 rfl (by simp)
  refine Ev.congr (fun k => ?_) (by simpa using h)
  unfold pick_set_below.f
  rw [List.length_map]
theorem at_l1 (j : Nat) (hj : j < 1000000) (n : Nat) (hn : n < 64) : ∀ (d w i : Nat), i + d = n → w < 18446744073709551616 → d < (bitsL w).length → Ev (fun k => pick_set_at.l1 k (j : Int) (w : Int) (n : Int) (i : Int)) ((64 * j + (bitsL w).getD d 0 : Nat) : Int)
  | 0, w, i, h, hw, hd => by
    have h0 : w ≠ 0 := fun e => by rw [e, bits_zero] at hd; simp at hd
    rw [bits_cons w h0 hw]
    refine Ev.step (f := fun _ => some ((64 * j + Lib.ctz 64 w : Nat) : Int)) (fun k => ?_) (Ev.now _)
    rw [pick_set_at.l1, if_neg (by omega), tz_f w hw, Option.bind_some, or64 j _ (by omega) (ctz_lt w h0 hw)]
  | d + 1, w, i, h, hw, hd => by
    have h0 : w ≠ 0 := fun e => by rw [e, bits_zero] at hd; simp at hd
    rw [bits_cons w h0 hw] at hd ⊢
    refine Ev.step (fun k => ?_) (at_l1 j hj n hn d (w &&& (w - 1)) (i + 1) (by omega) (and_lt w hw) (by simpa using hd))
    rw [pick_set_at.l1, if_pos (by omega), less_one w h0 hw, wr64 (by omega) (by omega)]
    rfl
theorem at_l0 (W : List Nat) (hl : W.length ≤ 1000000) (hW : ∀ w ∈ W, w < 18446744073709551616) : ∀ (W2 W1 : List Nat) (n : Nat), W = W1 ++ W2 → n < (flat W1.length W2).length → Ev (fun k => pick_set_at.l0 k (n : Int) (ints W) (W.length : Int) (W1.length : Int)) (((flat W1.length W2).getD n 0 : Nat) : Int)
  | [], W1, n, h, hn => by simp [flat] at hn
  | w :: W2, W1, n, h, hn => by
    have hb := bits_le w
    have hlen : W.length = W1.length + (W2.length + 1) := by rw [h]; simp
    have hfl := flat_le W2 (W1.length + 1)
    have hw := hW w (by rw [h]; simp)
    have hg : rd (ints W) (W1.length : Int) = (w : Int) := by rw [h]; exact get_at W1 w W2
    rw [flat_length_cons] at hn
    by_cases hc : (bitsL w).length ≤ n
    · have ih := at_l0 W hl hW W2 (W1 ++ [w]) (n - (bitsL w).length) (by rw [h]; simp) (by simp; omega)
      have e : (flat W1.length (w :: W2)).getD n 0 = (flat (W1 ++ [w]).length W2).getD (n - (bitsL w).length) 0 := by
        simp only [flat, List.getD_eq_getElem?_getD, List.length_append, List.length_singleton]
        rw [List.getElem?_append_right (by simpa using hc), List.length_map]
      rw [e]
      refine Ev.step (fun k => ?_) ih
      rw [pick_set_at.l0, if_pos (by omega), if_pos (by omega), if_pos (by rw [List.length_map]; omega), hg, ones_f w hw, Option.bind_some, if_pos (by omega), wr64 (by omega) (by omega), wr64 (by omega) (by omega)]
      congr 1
      · omega
      · simp
    · have e : (flat W1.length (w :: W2)).getD n 0 = 64 * W1.length + (bitsL w).getD n 0 := by
        simp only [flat, List.getD_eq_getElem?_getD]
        rw [List.getElem?_append_left (by simpa using hc), List.getElem?_map, List.getElem?_eq_getElem (by omega)]
        rfl
      rw [e]
      refine Ev.step (fun k => ?_) (at_l1 W1.length (by omega) n (by omega) n w 0 (by omega) hw (by omega))
      rw [pick_set_at.l0, if_pos (by omega), if_pos (by omega), if_pos (by rw [List.length_map]; omega), hg, ones_f w hw, Option.bind_some, if_neg (by omega)]
      rfl
theorem at_ev (W : List Nat) (hl : W.length ≤ 1000000) (hW : ∀ w ∈ W, w < 18446744073709551616) (n : Nat) (hn : n < (flat 0 W).length) : Ev (fun k => pick_set_at.f k (ints W) (n : Int)) (((flat 0 W).getD n 0 : Nat) : Int) := by
  have h := at_l0 W hl hW W [] n rfl (by simpa using hn)
  refine Ev.congr (fun k => ?_) (by simpa using h)
  unfold pick_set_at.f
  rw [List.length_map]
end Go.Proofs.YtmaiicpaalbcfaaDoor.P
end
section
namespace Go.Proofs.YtmaiicpaalbcfaaDoor.P
open Go.RowKit Go.Proofs.YtmaiicpaalbcfaaDoor.Bits Go.Proofs.YtmaiicpaalbcfaaDoorW.PrintWords Go.Proofs.YtmaiicpaalbcfaaDoorW.PrintLast Go.Proofs.YtmaiicpaalbcfaaDoorW.PrintMore
set_option linter.unusedSimpArgs false
set_option linter.unusedVariables false
def numb (x : Int) (n : Nat) : Nat := ((x.tmod n + n).tmod n).toNat
theorem numb_lt (x : Int) (n : Nat) (h : 0 < n) : numb x n < n := by
  unfold numb
  have h1 := Int.tmod_lt_of_pos (x.tmod n + n) (b := (n : Int)) (by omega)
  omega
theorem numb_eq (x : Int) (n : Nat) (h : 0 < n) (hn : n ≤ 1000000) : (wrap64 (x.tmod n + n)).tmod n = (numb x n : Int) := by
  have h1 := Int.tmod_lt_of_pos x (b := (n : Int)) (by omega)
  have h2 := Int.lt_tmod_of_pos x (b := (n : Int)) (by omega)
  rw [wr64 (by omega) (by omega)]
  unfold numb
  have h3 := Int.tmod_nonneg (n : Int) (a := x.tmod n + n) (by omega)
  omega
def placeS (L : List Int) (at_ last : Int) (l : List Nat) : Nat :=
  if 0 ≤ at_ ∧ at_ < (L.length : Int) then numb (rd L at_) l.length else cntLe last l % l.length
def whoS (L : List Int) (at_ last : Int) (l : List Nat) : Int := if l = [] then -1 else ((l.getD (placeS L at_ last l) 0 : Nat) : Int)
def atS (L : List Int) (at_ : Int) (l : List Nat) : Int := if l = [] then at_ else if 0 ≤ at_ ∧ at_ < (L.length : Int) then at_ + 1 else at_
def lastS (L : List Int) (at_ last : Int) (l : List Nat) : Int := if l = [] then last else whoS L at_ last l
def nextS (L : List Int) (at_ last : Int) (en : List Bool) : Int × List Int × Int × Int := (whoS L at_ last (idx en), L, atS L at_ (idx en), lastS L at_ last (idx en))
theorem placeS_lt (L : List Int) (at_ last : Int) (l : List Nat) (h : l ≠ []) : placeS L at_ last l < l.length := by
  have hp : 0 < l.length := List.length_pos_iff.2 h
  unfold placeS
  split
  · exact numb_lt _ _ hp
  · exact Nat.mod_lt _ hp
theorem idx_le (en : List Bool) : (idx en).length ≤ en.length := by
  have := List.length_filter_le (fun i => en.getD i false) (List.range en.length)
  simpa [idx] using this
theorem tmod_nat (a b : Nat) : Int.tmod (a : Int) (b : Int) = ((a % b : Nat) : Int) := (Int.ofNat_tmod a b).symm
theorem Ev.bind_now {α β : Type} {g : Nat → Option α} {f : Nat → α → Option β} {a : α} {r : β} (h : Ev g a) (k : ∀ n, f n a = some r) : Ev (fun n => (g n).bind (f n)) r := Ev.bind h (Ev.congr k (Ev.now r))
theorem next_j0 (W : List Nat) (hl : W.length ≤ 1000000) (hW : ∀ w ∈ W, w < 18446744073709551616) (n : Nat) (hn : n < (flat 0 W).length) (L : List Int) (at_ last : Int) : Ev (fun k => pick_Next.j0 k (ints W) (n : Int) L at_ last) ((((flat 0 W).getD n 0 : Nat) : Int), L, at_, (((flat 0 W).getD n 0 : Nat) : Int)) := by
  refine Ev.step (fun k => ?_) (Ev.bind_now (at_ev W hl hW n hn) (f := fun _ t122 => some (t122, L, at_, t122)) fun _ => rfl)
  rw [pick_Next.j0]
theorem next_ev (L : List Int) (at_ last : Int) (en : List Bool) (hL : L.length ≤ 1000000) (he : en.length ≤ 1000000) : Ev (fun k => pick_Next.f k L at_ last en) (nextS L at_ last en) := by
  obtain ⟨W, hI, hW⟩ := of_ev en he
  have hw := hI.2.1
  have hl : W.length ≤ 1000000 := by rw [hI.1]; omega
  have hf := flat_idx hI
  have hi := idx_le en
  unfold nextS
  have hc := count_ev W hl hw
  have hb := below_ev W hl hw last
  have hat := at_ev W hl hw
  have hj := next_j0 W hl hw
  rw [hf] at hc hb hat hj
  refine Ev.bind (f := fun k t116 => _) hW ?_
  refine Ev.bind (f := fun k t119 => _) hc ?_
  by_cases h0 : idx en = []
  · simp only [whoS, atS, lastS, h0, if_true]
    exact Ev.congr (fun k => if_pos rfl) (Ev.now _)
  · have hp : 0 < (idx en).length := List.length_pos_iff.2 h0
    have h1 := placeS_lt L at_ last (idx en) h0
    simp only [whoS, atS, lastS, h0, if_false]
    generalize idx en = l at *
    refine Ev.congr (g := fun k => _) (f := fun k => _) (fun k => if_neg (by omega)) ?_
    refine Ev.bind (f := fun k t120 => _) hb ?_
    by_cases h2 : at_ ≥ 0
    · refine Ev.congr (g := fun k => _) (f := fun k => _) (fun k => if_pos h2) ?_
      by_cases h3 : at_ < (L.length : Int)
      · have hpl : placeS L at_ last l = numb (rd L at_) l.length := by unfold placeS; rw [if_pos ⟨h2, h3⟩]
        rw [if_pos (show 0 ≤ at_ ∧ at_ < (L.length : Int) from ⟨h2, h3⟩)]
        refine Ev.congr (fun k => ?_) (hj (placeS L at_ last l) h1 L (at_ + 1) last)
        rw [if_pos h3, if_pos h2, numb_eq _ _ hp (by omega), wr64 (by omega) (by omega), hpl]
      · have hpl : placeS L at_ last l = cntLe last l % l.length := by unfold placeS; rw [if_neg (by omega)]
        rw [if_neg (show ¬ (0 ≤ at_ ∧ at_ < (L.length : Int)) by omega)]
        refine Ev.congr (fun k => ?_) (hj (placeS L at_ last l) h1 L at_ last)
        rw [if_neg h3, tmod_nat, hpl]
    · have hpl : placeS L at_ last l = cntLe last l % l.length := by unfold placeS; rw [if_neg (by omega)]
      refine Ev.congr (g := fun k => _) (f := fun k => _) (fun k => if_neg h2) ?_
      rw [tmod_nat, ← hpl]
      rw [if_neg (by omega)]
      exact Ev.bind_now (f := fun _ t123 => some (t123, L, at_, t123)) (hat _ h1) fun _ => rfl
theorem idx_mem (en : List Bool) (n : Nat) (h : n < (idx en).length) : (idx en).getD n 0 < en.length ∧ en.getD ((idx en).getD n 0) false = true := by
  have hm : (idx en).getD n 0 ∈ idx en := by
    rw [List.getD_eq_getElem?_getD, List.getElem?_eq_getElem h]
    exact List.getElem_mem h
  exact idx_lt hm
end Go.Proofs.YtmaiicpaalbcfaaDoor.P
end
